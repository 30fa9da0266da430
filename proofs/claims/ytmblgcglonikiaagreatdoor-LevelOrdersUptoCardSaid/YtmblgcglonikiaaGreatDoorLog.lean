/-
  Lemmas that the theorem levelOrders_upto_card needs (part 7 of 8).
-/
import Derived.Test.YtmblgcglonikiaaGreatDoorLof
set_option maxHeartbeats 64000000
namespace Go.Proofs.YtmblgcglonikiaaGreatDoor
section
open Go Go.RowKit Go.Am
set_option maxRecDepth 10000
-- BOXES 3
-- CODE2
def mrg (c:Bool) (l:List Rat) (a:Rat):List Rat:=if c=true then CE a l else l
theorem Wl {W0 W:World} {bxs:List Bx} (hp:Hp W0 bxs W) (k:Nat) {g:Nat} {l:List Rat} {junk:List Value} (hk:nth bxs k=some ⟨g,25,nS l++junk,true,none⟩):Sc W (some ⟨g,0,none⟩) l:=
 .inr ⟨g,0,rfl,fun i hi=>CO hp k (A:=nS (l.take i)) (C:=nS (l.drop (i+1))++junk) hk (by rw[Iu hi];simp only[List.append_assoc]) (by rw[C8,List.length_take];omega)⟩
abbrev fnM (cf:Nat) (capt:List Value):Value:= .func (.func cf) #[] capt.toArray
theorem KW (W:World) (g cap:Nat) (junk:List Value) (l:List Rat) (a:Rat) (cf:Nat) (capt:List Value) (c:Bool) (hE:Bc Tryz.prog cf=true) (hn:l.length<1099511627776) (hV:(⟨some g,cap,junk⟩:Vec).OK 1 l.length (nS l))
  (hs:l.Pairwise (· < ·)) (hz: ∀x∈l,Sz2 x a) (hg:W.heap[g]? =some (.cells (nS l++junk).toArray 25 (0,0)))
  (hf: ∀W',Ib W W' g→(BP W'∧AJ W')∧Ad Tryz.prog cf ([str (Ac a)]++capt).toArray W' (fun _:Unit=> .bool c) (fun _=>True) (fun _=>[])):
  Calls Tryz.prog 100 #[.slice (some ⟨g,0,none⟩) l.length cap,str (Ac a),fnM cf capt] W fun e W'=> ∃x:Nat×Nat×List Value,e= .returned ((fun x:Nat×Nat×List Value=> .slice (some ⟨x.1,0,none⟩) (mrg c l a).length x.2.1) x)∧
   (fun x:Nat×Nat×List Value=>(⟨some x.1,x.2.1,x.2.2⟩:Vec).OK 1 (mrg c l a).length (nS (mrg c l a))) x∧IJ W W' g ((fun x:Nat×Nat×List Value=>x.1) x) ((fun x:Nat×Nat×List Value=> .cells (nS (mrg c l a)++x.2.2).toArray 25 (0,0)) x):=by
 have key:Calls Tryz.prog 100 [.slice (some ⟨g,0,none⟩) l.length cap,str (Ac a),fnM cf capt].toArray W fun e W'=> ∃x,e= .returned ((fun x:Nat×Nat×List Value=> .slice (some ⟨x.1,0,none⟩) (mrg c l a).length x.2.1) x)∧
   (fun x:Nat×Nat×List Value=>(⟨some x.1,x.2.1,x.2.2⟩:Vec).OK 1 (mrg c l a).length (nS (mrg c l a))) x∧Below (AX W).heap.size (AX W) W'∧Av (AX W) W' ((fun x:Nat×Nat×List Value=>[AS (Ay W g),⟨x.1,25,nS (mrg c l a)++x.2.2,true,none⟩]) x):=by
  refine BQ (X:=Nat×Nat×List Value) (val:=fun x=> .slice (some ⟨x.1,0,none⟩) (mrg c l a).length x.2.1) (Φ:=fun x=>(⟨some x.1,x.2.1,x.2.2⟩:Vec).OK 1 (mrg c l a).length (nS (mrg c l a))) (nb:=fun x=>[AS (Ay W g),⟨x.1,25,nS (mrg c l a)++x.2.2,true,none⟩]) (Hp.enterT (B:=⟨g,25,nS l++junk,true,none⟩) I hg) Tryz.func100 I I I ?_
  have hk: ∀ {W1:World},Hp (AX W) [AS (Ay W g),⟨g,25,nS l++junk,true,none⟩] W1→Ib W W1 g:=fun hp=>Hw hg ⟨_,List.mem_cons_self ..⟩ hp
  refine zA (zB (wP I (Aa (zE (zA (zA (zB (wP I (wP I ?_)))))))))
  refine AT (capt:=capt) I I I I I I hE (fun W1 hp=>(hf W1 (hk hp)).2) ?_
  cases c with
  |false=>
   have e:mrg false l a=l:=rfl
   exact wP I (Aa (zE (zR I (zA (zB (wP I (wP I (Aa (zE (zO (zP (A9 tH I (.tmp I) (g,cap,junk) I hV fun W1 hp=>(hp.pick (l:=[AS (Ay W g),⟨g,25,nS l++junk,true,none⟩]) [0,1] (by decide) I).own))))))))))))
  |true=>
   have e:mrg true l a=CE a l:=rfl
   refine wP I (Aa (zE (zS I (zI (zE (zA (zB (wP I (wP I (wC I I (fun W1 hp=>IK (some ⟨g,0,none⟩) cap l a W1 (by omega) (Wl hp 1 I) hs hz (hf W1 (hk hp)).1.1 (hf W1 (hk hp)).1.2) ?_))))))))))
   iterate 5 refine wP I ?_
   refine Aa (zE (zA (zA (zB (wP I (Aa (zE ?_)))))))
   refine Af I (fun h=> ?_) (fun h=> ?_)
   ·have h:l[below a l]? =some a:=of_decide_eq_true h
    have e2:CE a l=l:=by rw[PW hs,if_pos h]
    refine zA (zB (wP I (wP I (Aa (zE (zO (zP ?_)))))))
    rw[e,e2]
    exact A9 tH I (.tmp I) (g,cap,junk) I hV fun W1 hp=>(hp.pick (l:=[AS (Ay W g),⟨g,25,nS l++junk,true,none⟩]) [0,1] (by decide) I).own
   ·have h: ¬l[below a l]? =some a:=of_decide_eq_false h
    have e2:CE a l=E8 l (below a l) a:=by rw[PW hs,if_neg h]
    refine zI (zE (zA (zB (wP I (wP I (wP I ?_))))))
    refine As Tryz.hZ tH I I I I I I I I I I I fun bS=> ?_
    refine CQ 1 (X:=Nat×Nat×List Value) (val:=fun x=> .slice (some ⟨x.1,0,none⟩) (l.length+1) x.2.1) (Φ:=fun x=>(⟨some x.1,x.2.1,x.2.2⟩:Vec).OK 1 (l.length+1) (nS (E8 l (below a l) a))) (L1:=[]) (L2:=[]) (B:=⟨g,25,nS l++junk,true,none⟩) (fun x=>⟨x.1,25,nS (E8 l (below a l) a)++x.2.2,true,none⟩) I I I I I I (by kernel_rfl) I I (fun _ _=>rfl) (fun W1 hp=> ?_) ?_
    ·have c1:=(hp.own.cell 1 _ rfl _ (List.mem_cons_self ..)).1
     have c2:=(hp.own.cell 2 _ rfl _ (List.mem_cons_self ..)).1
     have hne:=hp.own.apart 2 1 _ _ rfl rfl (by decide) _ (List.mem_cons_self ..) _ (List.mem_cons_self ..)
     exact Oi W1 g cap bS 1 (below a l) junk l a (JZ a l) hn hV c1 c2 hne
    rintro⟨g',cp,jk⟩ hx
    have hx:(⟨some g',cp,jk⟩:Vec).OK 1 (l.length+1) (nS (E8 l (below a l) a)):=hx
    refine wP I (Aa (zE (zO ?_)))
    have el:(E8 l (below a l) a).length=l.length+1:=RX (JZ a l) a
    rw[e,e2]
    refine A9 tH I (.tmp I) (g',cp,jk) (by show Value.slice (some ⟨g',0,none⟩) (l.length+1) cp= .slice (some ⟨g',0,none⟩) (E8 l (below a l) a).length cp;rw[el]) (by show(⟨some g',cp,jk⟩:Vec).OK 1 (E8 l (below a l) a).length _;rw[el];exact hx) fun W1 hp=>(hp.pick (l:=[AS (Ay W g),⟨g',25,nS (E8 l (below a l) a)++jk,true,none⟩]) [0,1] (by decide) I).own
 refine key.mono ?_
 rintro e W' ⟨x,he,hx,hb,hn'⟩
 exact⟨x,he,hx,EP hg I hb hn'⟩
theorem Pj (W:World) (a:Rat) (cf:Nat) (capt:List Value) (c:Bool) (hE:Bc Tryz.prog cf=true) (hv:BP W) (ht:AJ W)
  (hf: ∀W',Below W.heap.size W W'→Ad Tryz.prog cf ([str (Ac a)]++capt).toArray W' (fun _:Unit=> .bool c) (fun _=>True) (fun _=>[])):
  Ad Tryz.prog 100 #[.slice none 0 0,str (Ac a),fnM cf capt] W (fun V:Vec=>V.val (mrg c [] a).length) (fun V=>V.OK 1 (mrg c [] a).length (nS (mrg c [] a))) (fun V=>[V.bx 25 (nS (mrg c [] a))]):=by
 refine Ab (args:=[.slice none 0 0,str (Ac a),fnM cf capt]) Tryz.func100 I I I ?_
 refine zA (zB (wP I (Aa (zE (zA (zA (zB (wP I (wP I ?_)))))))))
 refine AT (capt:=capt) I I I I I I hE (fun W1 hp=>hf W1 hp.below) ?_
 cases c with
 |false=>
  refine wP I (Aa (zE (zR I (zA (zB (wP I ?_))))))
  refine E9 ?_
  exact wP I (Aa (zE (zO (zP (A9 tH I (.tmp I) Vec.empty I (Vec.OK.empty 1) fun W1 hp=>Av.of_hp (hp.pick (l:=[Vec.empty.bx 25 (nS [])]) [0] (by decide) I))))))
 |true=>
  refine wP rfl (Aa (zE (zS rfl (zI (zE (zA (zB (wP rfl (wP rfl (wC rfl rfl (fun W1 hp=>IK none 0 [] a W1 (by decide) (.inl rfl) List.Pairwise.nil (fun x hx=>by cases hx) (hv.hp hp) (ht.hp hp)) ?_))))))))))
  iterate 5 refine wP I ?_
  refine Aa (zE (zA (zA (zB (wP I (Aa (zE (zS I (zI (zE (zA (zB (wP I (wP I (wP I ?_)))))))))))))))
  refine As Tryz.hZ tH I I I I I I I I I I I fun bS=> ?_
  refine wD (X:=Vec) I I (fun W1 hp=>Oc W1 bS 1 a (An.of_bx hp 0 I I)) ?_
  intro V hV
  exact wP I (Aa (zE (zO (A9 tH I (.tmp I) V I hV.1 fun W1 hp=>Av.of_hp (hp.pick (l:=[V.bx 25 (nS [a])]) [1] (by decide) I)))))
end
section
theorem JY {z d:Int} {k:Nat} (hd:d≠0) (h1:z.natAbs<10^k) (h2:d.natAbs<10^k):szQ ((z:Rat)/(d:Rat)) k:=by
 have h:=IE z hd h1 h2
 rwa [GZ z hd,Rat.divInt_eq_div] at h
structure FrP.Pl (f:FrP):Prop where
 ok:f.OK
 sp: ∃a b:Int,f.sp=(a:Rat)/(b:Rat)∧0≤a∧a≤48∧1≤b∧b≤48
 st: ∃s:Int,f.st=(s:Rat)∧0≤s∧s≤65536
theorem ZB {s t:Sd} (h:rgd s=true):(frO s t).Pl:=by
 obtain⟨hx,hy,hp,hr⟩:=ED h
 refine⟨Zh h, ?_,⟨s.plate,I,hp.1,hp.2⟩⟩
 show∃a b:Int,(if s.gable then(0:Rat) else nrm s.run s.rise)=_∧_
 cases hg:s.gable with
 |true=>exact⟨0,1,by rw[if_pos rfl];show(0:Rat)=0/1;grind,by omega,by omega,by omega,by omega⟩
 |false=>
  obtain⟨h1,h2⟩:=hr hg
  exact⟨s.run,s.rise,by rw[if_neg (by decide),GZ _ (by omega),Rat.divInt_eq_div],by omega,by omega,by omega,by omega⟩
theorem FrP.Pl.szp {f:FrP} (h:f.Pl):szQ f.sp 2:=by
 obtain⟨a,b,e,h1,h2,h3,h4⟩:=h.sp
 rw[e]
 exact JY (by omega) (by show _<100;omega) (by show _<100;omega)
theorem FrP.Pl.szt {f:FrP} (h:f.Pl):szQ f.st 5:=by
 obtain⟨s,e,h1,h2⟩:=h.st
 rw[e]
 exact EJ (by show _<100000;omega) (by decide)
theorem rc0 {z:Int}:(z:Rat)=0↔z=0:=⟨fun e=>by have h:=congrArg Rat.num e;rwa [Rat.num_intCast] at h,fun e=>by rw[e];rfl⟩
theorem Pz {x y:Int} {A B:Nat} (hx:x.natAbs≤A) (hy:y.natAbs≤B):(x*y).natAbs≤A*B:=by rw[Int.natAbs_mul];exact Nat.mul_le_mul hx hy
theorem FrP.Pl.vel {f:FrP} (h:f.Pl): ∃c b s:Int,f.vel=(c:Rat)/(b:Rat)∧f.st=(s:Rat)∧c.natAbs≤48∧b.natAbs≤48∧1≤b∧s.natAbs≤65536:=by
 obtain⟨a,b,e,h1,h2,h3,h4⟩:=h.sp
 obtain⟨s,e2,h5,h6⟩:=h.st
 refine⟨f.hd*a,b,s, ?_,e2, ?_,by omega,h3,by omega⟩
 ·unfold FrP.vel
  rw[e,Rat.intCast_mul]
  grind
 ·rcases h.ok.hd with e|e<;>rw[e]<;>omega
theorem FrP.Pl.meet {f g:FrP} (hf:f.Pl) (hg:g.Pl) {t:Rat} (ht:t∈AW f g):szQ t 9:=by
 obtain⟨c,b,s,v1,s1,hc,hb,hb1,hs⟩:=hf.vel
 obtain⟨c',b',s',v2,s2,hc',hb',hb1',hs'⟩:=hg.vel
 obtain⟨G,hG⟩: ∃G:Int,G=g.pos-f.pos:=⟨_,rfl⟩
 have hGb:G.natAbs≤65536:=by
  have:=hf.ok.p0;have:=hf.ok.p1;have:=hg.ok.p0;have:=hg.ok.p1
  omega
 have hgap:CA f g=(G:Rat):=by
  unfold CA
  rw[hG,Rat.intCast_sub]
 have B0:(b:Rat)≠0:=fun e=>by have:=rc0.1 e;omega
 have B0':(b':Rat)≠0:=fun e=>by have:=rc0.1 e;omega
 have sc:=Pz hs hc
 have sc':=Pz hs' hc'
 have gb:=Pz hGb hb
 have gb':=Pz hGb hb'
 rcases OA.1 ht with h|h|⟨h0,h⟩|⟨h0,h⟩|⟨h0,h⟩<;>rw[h]
 ·exact hf.szt.mono (by decide)
 ·exact hg.szt.mono (by decide)
 ·have hc0:c≠0:=fun e=>h0 (by rw[v1,e];show(0:Rat)/_=0;grind)
  have C0:(c:Rat)≠0:=fun e=>hc0 (rc0.1 e)
  have e:f.st+CA f g/f.vel=((s*c+G*b:Int):Rat)/(c:Rat):=by
   rw[v1,s1,hgap,Rat.intCast_add,Rat.intCast_mul,Rat.intCast_mul]
   grind
  rw[e]
  exact JY hc0 (by show _<1000000000;omega) (by show _<1000000000;omega)
 ·have hc0:c'≠0:=fun e=>h0 (by rw[v2,e];show(0:Rat)/_=0;grind)
  have C0:(c':Rat)≠0:=fun e=>hc0 (rc0.1 e)
  have e:g.st-CA f g/g.vel=((s'*c'-G*b':Int):Rat)/(c':Rat):=by
   rw[v2,s2,hgap,Rat.intCast_sub,Rat.intCast_mul,Rat.intCast_mul]
   grind
  rw[e]
  exact JY hc0 (by show _<1000000000;omega) (by show _<1000000000;omega)
 ·obtain⟨D,hD⟩: ∃D:Int,D=c*b'-c'*b:=⟨_,rfl⟩
  have k1:=Pz hc hb'
  have k2:=Pz hc' hb
  have k3:=Pz gb hb'
  have k4:=Pz sc hb'
  have k5:=Pz sc' hb
  have hDR:(D:Rat)=(c:Rat)*b'-(c':Rat)*b:=by rw[hD,Rat.intCast_sub,Rat.intCast_mul,Rat.intCast_mul]
  have hD0:D≠0:=fun e=>h0 (by
   rw[e] at hDR
   have hDR:(0:Rat)=(c:Rat)*b'-(c':Rat)*b:=hDR
   rw[v1,v2]
   grind)
  have D0:(D:Rat)≠0:=fun e=>hD0 (rc0.1 e)
  have e:(CA f g+(f.vel*f.st-g.vel*g.st))/(f.vel-g.vel)=((G*b*b'+s*c*b'-s'*c'*b:Int):Rat)/(D:Rat):=by
   rw[v1,v2,s1,s2,hgap,Rat.intCast_sub,Rat.intCast_add]
   simp only[Rat.intCast_mul]
   have hne:(c:Rat)/b-(c':Rat)/b'≠0:=by
    intro e
    exact D0 (by rw[hDR];grind)
   grind
  rw[e]
  exact JY hD0 (by show _<1000000000;omega) (by show _<1000000000;omega)
theorem FrP.Pl.vz {f:FrP} (h:f.Pl):szQ f.vel 3:=h.ok.hdz.mul h.szp
theorem VO {f g:FrP} (hf:f.Pl) (hg:g.Pl):Wo f g:=by
 have zg:szQ (CA f g) 11:=hg.ok.posz.sub hf.ok.posz
 have zm1:=hf.vz.mul hf.szt
 have zm2:=hg.vz.mul hg.szt
 have zs:=zm1.sub zm2
 have za:=zg.add zs
 have zw:=hf.vz.sub hg.vz
 exact⟨fun _=>sz2 zg hf.vz (by decide),fun h=>sz2 hf.szt (zg.div hf.vz (Qq h)) (by decide),fun _=>sz2 zg hg.vz (by decide),fun h=>sz2 hg.szt (zg.div hg.vz (Qq h)) (by decide),
  sz2 hf.vz hf.szt (by decide),sz2 hg.vz hg.szt (by decide),sz2 zm1 zm2 (by decide),sz2 zg zs (by decide),sz2 hf.vz hg.vz (by decide),fun _=>sz2 za zw (by decide)⟩
theorem Es {rs:List (List Sd)} (h: ∀l∈rs, ∀s∈l,rgd s=true) {f:FrP} (hf:f∈Ao rs):f.Pl:=by
 obtain⟨m,hm,rfl⟩:=List.getElem_of_mem hf
 rw[CR] at hm
 obtain⟨r,i,hr,hi,hmr⟩:=TP hm
 have h1:=TR hr hi
 rw[←hmr,List.getElem?_eq_getElem (by rw[CR];exact hm)] at h1
 rw[Option.some.inj h1]
 exact ZB (h _ (List.mem_of_getElem? (Bd hr)) _ (List.mem_of_getElem? (Ex hi)))
theorem Fq {f g:FrP} {t:Rat} (h:t∈eqL f g):t∈AW f g:=(LU.1 h).1
theorem I6 {rs:List (List Sd)} (h: ∀l∈rs, ∀s∈l,rgd s=true) {z:Rat} (hz:z∈E6 rs):szQ z 5:=by
 obtain⟨s,hs,rfl⟩:=List.mem_map.1 hz
 obtain⟨l,hl,hs⟩:=List.mem_flatten.1 (List.mem_filter.1 hs).1
 obtain⟨_,_,hp,_⟩:=ED (h l hl s hs)
 exact EJ (by show _<100000;omega) (by decide)
theorem LF {rs:List (List Sd)} (h: ∀l∈rs, ∀s∈l,rgd s=true) {z:Rat} (hz:z∈Bi rs):szQ z 9:=by
 rcases Kg.1 hz with hz|⟨hz,_⟩
 ·exact(I6 h hz).mono (by decide)
 ·obtain⟨q,hq,hz⟩:=List.mem_flatMap.1 hz
  obtain⟨h1,h2,h3⟩:=Pi.1 hq
  exact(Es h (Fe (F:=Ao rs) (Nat.lt_trans h1 h2))).meet (Es h (Fe h2)) (Fq hz)
theorem UQ {l:List Sd}: ∀k,k≤l.length→Bq l false k=true→ ∃s∈l,s.gable=false:=by
 intro k
 induction k with
 |zero=>intro _ h;cases h
 |succ k ih=>
  intro hk h
  by_cases e:(sd l k).gable=false
  ·exact⟨sd l k,List.mem_of_getElem? (Ex (by omega)),e⟩
  ·refine ih (by omega) ?_
   have e:(sd l k).gable=true:=by simpa using e
   simpa[Bq,e] using h
theorem KJ {rs:List (List Sd)} (hc:chk rs=0):E6 rs≠[]:=by
 obtain⟨_,_,_,_,hj⟩:=Cr hc
 have h2:=(Bool.and_eq_true_iff.1 hj).2
 have key: ∀k,k≤rs.length→AY rs k=true→ ∃l∈rs, ∃s∈l,s.gable=false:=by
  intro k
  induction k with
  |zero=>intro _ h;cases h
  |succ k ih=>
   intro hk h
   cases hb:AY rs k with
   |true=>exact ih (by omega) hb
   |false=>
    have h:Bq (rg rs k) (AY rs k) (rg rs k).length=true:=h
    rw[hb] at h
    obtain⟨s,hs,e⟩:=UQ _ (Nat.le_refl _) h
    exact⟨rg rs k,List.mem_of_getElem? (Bd (by omega)),s,hs,e⟩
 obtain⟨l,hl,s,hs,e⟩:=key rs.length (Nat.le_refl _) h2
 intro h0
 have:(s.plate:Rat)∈E6 rs:=List.mem_map.2 ⟨s,List.mem_filter.2 ⟨List.mem_flatten.2 ⟨l,hl,hs⟩,by rw[e];rfl⟩,rfl⟩
 rw[h0] at this
 cases this
def stT (rs:List (List Sd)) (i:Nat):List Rat:=EE [] (((rs.flatten.take i).filter fun s=> !s.gable).map fun s=>(s.plate:Rat))
theorem LP (rs:List (List Sd)):stT rs rs.flatten.length=st0 rs:=by unfold stT st0 E6;rw[List.take_length]
theorem S5 (rs:List (List Sd)) (i:Nat):(stT rs i).Pairwise (· < ·):=Cy _ _ List.Pairwise.nil
theorem Wh (c:Bool) (l:List Rat) (a:Rat):mrg c l a=EE l (if c=true then[a] else[]):=by
 unfold mrg
 cases c<;>rfl
theorem WP {rs:List (List Sd)} {i:Nat} (hi:i<rs.flatten.length):stT rs (i+1)=mrg (!(sd rs.flatten i).gable) (stT rs i) ((sd rs.flatten i).plate:Rat):=by
 have e:rs.flatten.take (i+1)=rs.flatten.take i++[sd rs.flatten i]:=by rw[List.take_add_one,Ex hi];rfl
 rw[Wh]
 unfold stT
 rw[e,List.filter_append,List.map_append,JD]
 congr 1
 cases h:(sd rs.flatten i).gable<;>simp[h]
theorem Y3 {rs:List (List Sd)} {i:Nat} {z:Rat} (h:z∈stT rs i):z∈E6 rs:=by
 unfold stT at h
 rw[Dn] at h
 rcases h with h|h
 ·cases h
 ·obtain⟨s,hs,rfl⟩:=List.mem_map.1 h
  obtain⟨h1,h2⟩:=List.mem_filter.1 hs
  exact List.mem_map.2 ⟨s,List.mem_filter.2 ⟨List.mem_of_mem_take h1,h2⟩,I⟩
theorem LS (rs:List (List Sd)) (i:Nat) (hi:i≤rs.flatten.length):(stT rs i).length≤i:=by
 have h1:=EX (((rs.flatten.take i).filter fun s=> !s.gable).map fun s=>(s.plate:Rat)) []
 rw[List.length_map] at h1
 have h2:=List.length_filter_le (fun s:Sd=> !s.gable) (rs.flatten.take i)
 rw[List.length_take] at h2
 have h1:(stT rs i).length≤([]:List Rat).length+_:=h1
 rw[List.length_nil] at h1
 omega
abbrev eqK (F:List FrP) (q:Nat×Nat):List Rat:=eqL (fr F q.1) (fr F q.2)
def lvT (rs:List (List Sd)) (k:Nat):List Rat:=EE (st0 rs) ((((prs (Ao rs)).take k).flatMap (eqK (Ao rs))).filter fun z=>decide (base rs<z))
def lvU (rs:List (List Sd)) (k:Nat) (E:List Rat) (j:Nat):List Rat:=EE (lvT rs k) ((E.take j).filter fun z=>decide (base rs<z))
theorem T9 (rs:List (List Sd)):lvT rs (prs (Ao rs)).length=Bi rs:=by unfold lvT Bi MM;rw[List.take_length]
theorem Xw {rs:List (List Sd)} {k:Nat} {E:List Rat} {j:Nat} (hj:j<E.length):lvU rs k E (j+1)=mrg (decide (base rs<E[j])) (lvU rs k E j) E[j]:=by
 rw[Wh]
 unfold lvU
 rw[List.take_add_one,List.getElem?_eq_getElem hj,Option.toList_some,List.filter_append,JD]
 congr 1
 by_cases h:base rs<E[j]<;>simp[h]
theorem Xf {rs:List (List Sd)} {k:Nat} (hk:k<(prs (Ao rs)).length):lvT rs (k+1)=lvU rs k (eqK (Ao rs) ((prs (Ao rs)).getD k (0,0))) (eqK (Ao rs) ((prs (Ao rs)).getD k (0,0))).length:=by
 unfold lvT lvU lvT
 rw[List.take_length,List.take_add_one,List.getElem?_eq_getElem hk,Option.toList_some,List.flatMap_append,List.flatMap_cons,List.flatMap_nil,List.append_nil,List.filter_append,JD,List.getD_eq_getElem?_getD,List.getElem?_eq_getElem hk]
 rfl
theorem SM (rs:List (List Sd)) (k:Nat) (E:List Rat) (j:Nat):(lvU rs k E j).Pairwise (· < ·):=Cy _ _ (Cy _ _ (H2 rs))
theorem XM {rs:List (List Sd)} {k:Nat} {z:Rat} (h:z∈lvT rs k):z∈Bi rs:=by
 unfold lvT at h
 rw[Dn] at h
 unfold Bi
 rw[Dn]
 refine h.imp id fun h=> ?_
 obtain⟨h1,h2⟩:=List.mem_filter.1 h
 obtain⟨q,hq,h1⟩:=List.mem_flatMap.1 h1
 exact List.mem_filter.2 ⟨List.mem_flatMap.2 ⟨q,List.mem_of_mem_take hq,h1⟩,h2⟩
theorem Pp (f g:FrP):(eqL f g).length≤5:=by
 have h1:=K4 (BC (fl f g (AW f g).length))
 have h2:=Kt (fl f g (AW f g).length)
 have h3:=SO f g (AW f g).length
 have heq:eqL f g=Ba (BC (fl f g (AW f g).length)):=by rw[eqL,fl,List.take_length]
 rw[heq]
 omega
theorem Px (F:List FrP):(prs F).length≤F.length*F.length:=by
 have h1: ∀i,(FV F i).length≤F.length:=fun i=>by
  have: ∀l:List Nat,(l.flatMap (Fh F i)).length≤l.length:=fun l=>by
   induction l with
   |nil=>simp
   |cons a l ih=>
    rw[List.flatMap_cons,List.length_append,List.length_cons]
    have:(Fh F i a).length≤1:=by unfold Fh;split<;>simp
    omega
  have h2:=this ((List.range F.length).drop (i+1))
  rw[List.length_drop,List.length_range] at h2
  unfold FV
  omega
 have h2: ∀l:List Nat,(l.flatMap (FV F)).length≤l.length*F.length:=fun l=>by
  induction l with
  |nil=>simp
  |cons a l ih=>
   rw[List.flatMap_cons,List.length_append,List.length_cons,Nat.succ_mul]
   have:=h1 a
   omega
 have h3:=h2 (List.range F.length)
 rw[List.length_range] at h3
 exact h3
theorem I0 (F:List FrP): ∀l:List (Nat×Nat),(l.flatMap (eqK F)).length≤l.length*5
 |[]=>by simp
 |q::l=>by
  have:=I0 F l
  have:(eqK F q).length≤5:=Pp (fr F q.1) (fr F q.2)
  rw[List.flatMap_cons,List.length_append,List.length_cons]
  omega
theorem Ri {rs:List (List Sd)} (h:tot rs≤24):(Bi rs).length≤10000:=by
 have h1:=EX ((MM (Ao rs)).filter fun z=>decide (base rs<z)) (st0 rs)
 have h2:=List.length_filter_le (fun z=>decide (base rs<z)) (MM (Ao rs))
 have h3:=I0 (Ao rs) (prs (Ao rs))
 have h4:=Px (Ao rs)
 have h5:=LS rs _ (Nat.le_refl _)
 rw[LP,List.length_flatten] at h5
 have h5:(st0 rs).length≤tot rs:=h5
 rw[CR] at h4
 have h6:tot rs*tot rs≤24*24:=Nat.mul_le_mul h h
 have h7:(MM (Ao rs)).length≤(prs (Ao rs)).length*5:=h3
 show(EE (st0 rs) _).length≤_
 omega
theorem YH {rs:List (List Sd)} (h:tot rs≤24) {k:Nat} {E:List Rat} {j:Nat} (hE:E.length≤5):(lvU rs k E j).length≤20000:=by
 have h1:=EX ((((prs (Ao rs)).take k).flatMap (eqK (Ao rs))).filter fun z=>decide (base rs<z)) (st0 rs)
 have h2:=List.length_filter_le (fun z=>decide (base rs<z)) (((prs (Ao rs)).take k).flatMap (eqK (Ao rs)))
 have h3:=I0 (Ao rs) ((prs (Ao rs)).take k)
 have h4:=Px (Ao rs)
 have h5:=LS rs _ (Nat.le_refl _)
 rw[LP,List.length_flatten] at h5
 have h5:(st0 rs).length≤tot rs:=h5
 rw[CR] at h4
 rw[List.length_take] at h3
 have h6:tot rs*tot rs≤24*24:=Nat.mul_le_mul h h
 have h7:=EX ((E.take j).filter fun z=>decide (base rs<z)) (lvT rs k)
 have h8:=List.length_filter_le (fun z=>decide (base rs<z)) (E.take j)
 rw[List.length_take] at h8
 have h9:(lvT rs k).length≤(st0 rs).length+_:=h1
 show(EE (lvT rs k) _).length≤_
 omega
end
section
open Go Go.RowKit Go.Am Go.Lib
set_option maxRecDepth 10000
-- BOXES 5
-- CODE2
theorem XC {rs:List (List Sd)} {r:Nat} (hr:r<rs.length) (i:Nat) (hi:i<(rg rs r).length):rs.flatten[tot (rs.take r)+i]? =some (sd (rg rs r) i):=by
 have e:rs.flatten=(rs.take r).flatten++(rg rs r++(rs.drop (r+1)).flatten):=by
  conv=>lhs;rw[←List.take_append_drop r rs,List.drop_eq_getElem_cons hr,List.flatten_append,List.flatten_cons]
  rw[show rs[r]=rg rs r by unfold rg;rw[List.getD_eq_getElem?_getD,List.getElem?_eq_getElem hr];rfl]
 have hl:(rs.take r).flatten.length=tot (rs.take r):=List.length_flatten
 rw[e,List.getElem?_append_right (by omega),hl,Nat.add_sub_cancel_left,List.getElem?_append_left hi]
 exact Ex hi
theorem YA {rs:List (List Sd)} {r:Nat} (hr:r<rs.length) {i:Nat} (hi:i<(rg rs r).length):sd rs.flatten (tot (rs.take r)+i)=sd (rg rs r) i:=by
 have h1:=XC hr i hi
 have h2:=Ex (l:=rs.flatten) (List.getElem?_eq_some_iff.1 h1).1
 rw[h1] at h2
 exact(Option.some.inj h2).symm
theorem Vec.frs {V:Vec} {l:List FrP} (hV:V.OK 5 l.length (frC l)) (h0:0<l.length): ∃g cap,V.val l.length= .slice (some ⟨g,0,none⟩) l.length cap∧
  ∀ {W0 W:World} {bxs:List Bx},Hp W0 bxs W→ ∀k,nth bxs k=some (V.bx 48 (frC l))→ ∀m f,l[m]? =some f→An W g (0+m*5) (frV f).cells.toList:=by
 obtain⟨p,cap,junk⟩:=V
 cases p with
 |none=>have:=hV.nil rfl;omega
 |some g=>
  refine⟨g,cap,I,fun {W0 W bxs} hp k hk m f hf=> ?_⟩
  obtain⟨hm,rfl⟩:=List.getElem?_eq_some_iff.1 hf
  refine CO hp k (A:=frC (l.take m)) (C:=frC (l.drop (m+1))++junk) hk ?_ (by rw[Yf,List.length_take];omega)
  have e:frC l=frC (l.take m)++((frV l[m]).cells.toList++frC (l.drop (m+1))):=by
   conv=>lhs;rw[←List.take_append_drop m l,List.drop_eq_getElem_cons hm,PF]
   rfl
  rw[e,List.append_assoc,List.append_assoc]
theorem Vec.sds {V:Vec} {l:List Sd} (hV:V.OK 7 l.length (cellsOf l)) (h0:0<l.length): ∃g cap,V.val l.length=slv (some ⟨g,0,none⟩) l.length cap∧
  ∀ {W0 W:World} {bxs:List Bx},Hp W0 bxs W→ ∀k,nth bxs k=some (V.bx 80 (cellsOf l))→ ∀m,m<l.length→An W g (0+m*7) (sd l m).cells:=by
 obtain⟨p,cap,junk⟩:=V
 cases p with
 |none=>have:=hV.nil rfl;omega
 |some g=>
  refine⟨g,cap,I,fun {W0 W bxs} hp k hk m hm=> ?_⟩
  have hrow:=An.of_bx hp k hk rfl
  have hring:FA W g 0 l:=FA.of_cells hrow.lt fun j u hj=>by
   refine hrow.get j u ?_
   show(cellsOf l++junk)[j]? =some u
   rw[List.getElem?_append_left (List.getElem?_eq_some_iff.1 hj).1]
   exact hj
  exact hring.get m _ (Ex hm)
-- BOXES 15
-- CODE2
theorem An.keep {W W':World} {b off g:Nat} {c:List Value} (h:An W b off c) (hk:Ib W W' g) (hne:b≠g):An W' b off c:=by
 refine⟨Nat.lt_of_lt_of_le h.lt hk.size,fun j x hx=> ?_⟩
 have h1:=h.get j x hx
 have h2:=hk.at_ b hne h.lt
 rw[←h1]
 simp only[World.cell?,h2]
theorem Qt (V:Vec) (n:Nat):Nat.beq (V.val n).cells.toList.length 1=true∧Dl (V.val n).cells.toList=true∧(V.val n).cells.toList=[V.val n]:=by
 obtain⟨p,c,j⟩:=V
 cases p<;>exact⟨rfl,rfl,rfl⟩
theorem Vec.num {V:Vec} {l:List Rat} (hV:V.OK 1 l.length (nS l)): ∃p cap,V.val l.length= .slice p l.length cap∧(0<l.length→ ∃g,p=some ⟨g,0,none⟩∧
  ∀ {W0 W:World} {bxs:List Bx},Hp W0 bxs W→ ∀k,nth bxs k=some (V.bx 25 (nS l))→ ∀i (hi:i<l.length),An W g (0+i*1) [str (Ac l[i])]):=by
 obtain⟨p,cap,junk⟩:=V
 cases p with
 |none=>
  have h0:=hV.nil rfl
  exact⟨none,0,by rw[h0];rfl,fun h=>by omega⟩
 |some g=>
  refine⟨some ⟨g,0,none⟩,cap,I,fun _=>⟨g,I,fun {W0 W bxs} hp k hk i hi=> ?_⟩⟩
  exact CO hp k (A:=nS (l.take i)) (C:=nS (l.drop (i+1))++junk) hk (by rw[Iu hi];simp only[List.append_assoc]) (by rw[C8,List.length_take];omega)
theorem QG {rs:List (List Sd)} {i:Nat} (hi:i<tot rs):(fr (Ao rs) i).st=((sd rs.flatten i).plate:Rat):=by
 obtain⟨r,j,hr,hj,e⟩:=TP hi
 have h1:=TR hr hj
 have h2:=YA hr hj
 rw[←e] at h1 h2
 have h3:=Fj (F:=Ao rs) (i:=i) (by rw[CR];exact hi)
 rw[h1] at h3
 rw[←Option.some.inj h3,h2];rfl
theorem ZW {N:Nat} {W0:World} {D:List Deferred} {Q:Exit→Act→World→Prop} {e:Exit} {env:Env} {bxs bxs':List Bx} (h:bxs=bxs') (h2:NE N D Q e env (Hp W0 bxs')):NE N D Q e env (Hp W0 bxs):=h▸h2
abbrev bxE (b:Nat) (t:TypeId) (v:Value):Bx:=⟨b,t,[v],true,none⟩
abbrev bxN (x:Nat×Nat×List Value) (l:List Rat):Bx:=⟨x.1,25,nS l++x.2.2,true,none⟩
abbrev okV (x:Nat×Nat×List Value) (l:List Rat):Prop:=(⟨some x.1,x.2.1,x.2.2⟩:Vec).OK 1 l.length (nS l)
abbrev slN (x:Nat×Nat×List Value) (l:List Rat):Value:= .slice (some ⟨x.1,0,none⟩) l.length x.2.1
theorem Kq (W:World) (p:Option Addr) (cap:Nat) (rs:List (List Sd)) (hn:rs.length<1099511627776) (hR:BD W p rs) (hc:chk rs=0) (hd:Kz W) (hv:BP W) (ht:AJ W):
  Ad Tryz.prog 48 #[AO p rs.length cap] W (fun x:Vec×Vec=> .tuple #[x.1.val (Ao rs).length,x.2.val (Bi rs).length, .int .i64 0]) (fun x=>x.1.OK 5 (Ao rs).length (frC (Ao rs))∧x.2.OK 1 (Bi rs).length (nS (Bi rs)))
   (fun x=>[x.1.bx 48 (frC (Ao rs)),x.2.bx 25 (nS (Bi rs))]):=by
 obtain⟨hne,hT24,hT0⟩:=DL hc
 obtain⟨hrg,_⟩:=Cr hc
 have eF:=CR rs
 have eS:rs.flatten.length=tot rs:=List.length_flatten
 have hsne:=KJ hc
 obtain⟨T,hTe⟩: ∃T,T=tot rs:=⟨_,rfl⟩
 rw[←hTe] at eF eS hT24 hT0
 refine Ab (args:=[AO p rs.length cap]) Tryz.func48 I I I ?_
 refine zA (zB ?_)
 (refine A3 rfl rfl rfl rfl ?_;intro)
 (refine Ah Tryz.hZ rfl rfl rfl rfl ?_;intro)
 (refine Ah Tryz.hZ rfl rfl rfl rfl ?_;intro)
 (refine Ah Tryz.hZ rfl rfl rfl rfl ?_;intro)
 refine Aa ?_
 rename_i b1 b2 b3 b4
 refine zE (zA (zB (wB 0 I I I ?_)))
 refine wD (X:=Vec) I I (fun W1 hp=>Mf W1 p cap rs (by omega) (hR.hp hp) hc (hd.hp hp) (ht.hp hp)) ?_
 intro F hF
 have hF:F.OK 5 (Ao rs).length (frC (Ao rs)):=hF
 obtain⟨gF,cF,hFv,hFr⟩:=Vec.frs hF (by omega)
 rw[hFv,eF]
 refine wP I (wP I (wP I ?_))
 (refine Ah Tryz.hZ rfl rfl rfl rfl ?_;intro)
 refine wS 5 I I I (wP I (Aa ?_))
 rename_i b5
 refine zE (zA (zA (zB (wP I (wP I (Aa (zE (zS I (zI (zE (zA (zB (wB 0 I I I ?_)))))))))))))
 refine wD (X:=Vec) I I (fun W1 hp=>W6 W1 p cap rs (by omega) (hR.hp hp) hc) ?_
 intro S hS
 have hS:S.OK 7 rs.flatten.length (cellsOf rs.flatten):=hS
 obtain⟨gS,cS,hSv,hSr⟩:=Vec.sds hS (by omega)
 rw[hSv,eS]
 iterate 5 refine wP I ?_
 refine Aa (zE (zA (zA (zB (wP I (wP I (Aa (zE (zS I (zI (zE (zA (zB ?_)))))))))))))
 (refine Ah Tryz.hZ rfl rfl rfl rfl ?_;intro)
 refine Aa ?_
 rename_i b8
 refine zE (zA (zA (zB (wP I (wP I (wP I (Aa (zE (zH ?_)))))))))
 refine DM ?_
 have hFr: ∀ {W0 W:World} {bxs:List Bx},Hp W0 bxs W→ ∀k,nth bxs k=some (F.bx 48 (frC (Ao rs)))→ ∀m,m<T→An W gF (0+m*5) (frV (fr (Ao rs) m)).cells.toList:=fun hp k hk m hm=>hFr hp k hk m _ (Fj (by omega))
 have hFr4: ∀ {W0 W:World} {bxs:List Bx},Hp W0 bxs W→ ∀k,nth bxs k=some (F.bx 48 (frC (Ao rs)))→ ∀m,m<T→An W gF (0+m*5+4) [str (Ac ((sd rs.flatten m).plate:Rat))]:=fun hp k hk m hm=>by
  have h:=(hFr hp k hk m hm).sub 4
  rw[←QG (by omega)]
  exact h
 have hSr: ∀ {W0 W:World} {bxs:List Bx},Hp W0 bxs W→ ∀k,nth bxs k=some (S.bx 80 (cellsOf rs.flatten))→ ∀m,m<T→An W gS (0+m*7) (sd rs.flatten m).cells:=fun hp k hk m hm=>hSr hp k hk m (by omega)
 refine Ar (X:=Nat×Vec) (fun s=>[(2,Ap b2),(3,Ap b3),(4,Ap b4),(5,Ap b5),(8,Ap b8),(32,slv (some ⟨gS,0,none⟩) T cS),(33, .int .i64 (T:Nat)),(34, .int .i64 (s.1:Nat))])
  (fun s=>[bxE b1 24 (slv p rs.length cap),bxE b2 63 (.slice none 0 0),bxE b3 31 (.slice none 0 0),bxE b4 28 (.int .i64 0),F.bx 48 (frC (Ao rs)),bxE b5 63 (.slice (some ⟨gF,0,none⟩) T cF),S.bx 80 (cellsOf rs.flatten),bxE b8 31 (s.2.val (stT rs s.1).length),s.2.bx 25 (nS (stT rs s.1))])
  (fun s=>s.1≤T∧s.2.OK 1 (stT rs s.1).length (nS (stT rs s.1))) (fun s=>T-s.1) (0,Vec.empty) ⟨Nat.zero_le _,Vec.OK.empty 1⟩ ⟨rfl,rfl,rfl,rfl,rfl,rfl,rfl,rfl,trivial⟩ [] rfl ?_
 rintro⟨i,V⟩ ⟨hi,hV⟩
 have hi:i≤T:=hi
 have hV:V.OK 1 (stT rs i).length (nS (stT rs i)):=hV
 by_cases hlt:i<T
 ·refine zA (zB (wP I (wU 35 true I (dT (by omega)) (Aa (zE (zA (zR I (zI (zE (zA (zH (zA (zB ?_)))))))))))))
  have hsu:=WP (rs:=rs) (i:=i) (by omega)
  have hsl:=LS rs i (by omega)
  have hsz: ∀x∈stT rs i,Sz2 x ((sd rs.flatten i).plate:Rat):=fun x hx=>by
   have hm:sd rs.flatten i∈rs.flatten:=List.mem_of_getElem? (Ex (by omega))
   obtain⟨l,hl,hsm⟩:=List.mem_flatten.1 hm
   obtain⟨_,_,hp,_⟩:=ED (hrg l hl _ hsm)
   exact sz2 (I6 hrg (Y3 hx)) (EJ (k:=5) (by show _<100000;omega) (by decide)) (by decide)
  refine wP I ?_
  refine wJ ?_
  refine wL 0 I I (fun W1 hp=>hSr hp 6 I i hlt) I ?_
  (refine Ah Tryz.hZ rfl rfl rfl rfl ?_;intro)
  refine wP I (wS 9 I I I (Aa ?_))
  rename_i b10
  obtain⟨cg,hcg⟩: ∃cg,cg= !(sd rs.flatten i).gable:=⟨_,rfl⟩
  rw[←hcg] at hsu
  refine zE ?_
  repeat refine Au ?_
  cases hVc:V.p with
  |none=>
   have h0:=hV.nil hVc
   have h00:stT rs i=[]:=List.length_eq_zero_iff.1 h0
   have hv0:V.val (stT rs i).length= .slice none 0 0:=by unfold Vec.val;rw[hVc]
   have hb0:V.bx 25 (nS (stT rs i))=DD:=by unfold Vec.bx;rw[hVc]
   rw[hv0,hb0]
   rw[h00] at hsu
   refine By (X:= { U:Vec//U.OK 1 (stT rs (i+1)).length (nS (stT rs (i+1))) }) [true,true,true,true,true,true,true,false,false] (fun U=>[(2,Ap b2),(3,Ap b3),(4,Ap b4),(5,Ap b5),(8,Ap b8),(32,slv (some ⟨gS,0,none⟩) T cS),(33, .int .i64 (T:Nat)),(34, .int .i64 (i:Nat))])
    (fun U=>[bxE b1 24 (slv p rs.length cap),bxE b2 63 (.slice none 0 0),bxE b3 31 (.slice none 0 0),bxE b4 28 (.int .i64 0),F.bx 48 (frC (Ao rs)),bxE b5 63 (.slice (some ⟨gF,0,none⟩) T cF),S.bx 80 (cellsOf rs.flatten),bxE b8 31 (U.1.val (stT rs (i+1)).length),U.1.bx 25 (nS (stT rs (i+1)))])
    2 [bxE b1 24 (slv p rs.length cap),bxE b2 63 (.slice none 0 0),bxE b3 31 (.slice none 0 0),bxE b4 28 (.int .i64 0),F.bx 48 (frC (Ao rs)),bxE b5 63 (.slice (some ⟨gF,0,none⟩) T cF),S.bx 80 (cellsOf rs.flatten),bxE b8 31 (.slice none 0 0),DD,⟨b10,80,(sd rs.flatten i).cells,true,none⟩] Tryz.mixed (by kernel_rfl) ?_ ?_
   ·refine qB 7 I I I (qB 5 I I I (qP I ?_))
    refine qJ ?_
    refine qP I (qL 0 I I (fun W1 hp=>hFr4 hp 4 I i hlt) I (qP I (CH (wX (wZ ?_)))))
    refine wD (X:=Vec) rfl rfl (fun W1 hp=>Pj W1 ((sd rs.flatten i).plate:Rat) 101 [Ap b10] cg (by kernel_rfl) (hv.hp hp) (ht.hp hp) fun W' hb=>by rw[hcg];exact La _ b10 (sd rs.flatten i) W' ((An.of_bx hp 9 rfl rfl).below (Nat.le_refl _) hb)) ?_;intro U hU;rw[←hsu] at hU⊢
    refine Aa (Ag (wX (wZ ?_)))
    refine Aw 7 [U.val (stT rs (i+1)).length] tH I I I I I I I I (Qt _ _).1 (Qt _ _).2.1 (by exact Nat.le_refl 1) (by rw[(Qt _ _).2.2];rfl) ?_
    refine Aa (Ag ?_)
    refine AD I (by kernel_rfl) ?_
    exact A6 ⟨U,hU⟩ ⟨I,I,I,I,I,I,I,I,O⟩ [0,1,2,3,4,5,6,7,10] (by decide) I
   intro U
   exact zN (zE (zB (wP I (wV 47 ((i+1:Nat):Int) I (At (by omega)) (wP I (Aa (Al (i+1,U.1) ⟨hlt,U.2⟩ (by show T-(i+1)<T-i;omega) ⟨I,I,I,I,I,I,I,I,O⟩ [] I)))))))
  |some gV=>
   obtain⟨pV,cV,jk⟩:=V
   obtain rfl:pV=some gV:=hVc
   refine By (X:= { U:Nat×Nat×List Value//okV U (stT rs (i+1)) }) [true,true,true,true,true,true,true,false,false] (fun U=>[(2,Ap b2),(3,Ap b3),(4,Ap b4),(5,Ap b5),(8,Ap b8),(32,slv (some ⟨gS,0,none⟩) T cS),(33, .int .i64 (T:Nat)),(34, .int .i64 (i:Nat))])
    (fun U=>[bxE b1 24 (slv p rs.length cap),bxE b2 63 (.slice none 0 0),bxE b3 31 (.slice none 0 0),bxE b4 28 (.int .i64 0),F.bx 48 (frC (Ao rs)),bxE b5 63 (.slice (some ⟨gF,0,none⟩) T cF),S.bx 80 (cellsOf rs.flatten),bxE b8 31 (slN U.1 (stT rs (i+1))),bxN U.1 (stT rs (i+1))])
    2 [bxE b1 24 (slv p rs.length cap),bxE b2 63 (.slice none 0 0),bxE b3 31 (.slice none 0 0),bxE b4 28 (.int .i64 0),F.bx 48 (frC (Ao rs)),bxE b5 63 (.slice (some ⟨gF,0,none⟩) T cF),S.bx 80 (cellsOf rs.flatten),bxE b8 31 (slN (gV,cV,jk) (stT rs i)),bxN (gV,cV,jk) (stT rs i),⟨b10,80,(sd rs.flatten i).cells,true,none⟩] Tryz.mixed (by kernel_rfl) ?_ ?_
   ·refine qB 7 I I I (qB 5 I I I (qP I ?_))
    refine qJ ?_
    refine qP I (qL 0 I I (fun W1 hp=>hFr4 hp 4 I i hlt) I (qP I (CH (wX (wZ ?_)))))
    refine CQ 8 (X:=Nat×Nat×List Value) (val:=fun x=> .slice (some ⟨x.1,0,none⟩) (mrg cg (stT rs i) ((sd rs.flatten i).plate:Rat)).length x.2.1) (Φ:=fun x=>okV x (mrg cg (stT rs i) ((sd rs.flatten i).plate:Rat))) (L1:=[]) (L2:=[]) (B:=bxN (gV,cV,jk) (stT rs i)) (fun x=>bxN x (mrg cg (stT rs i) ((sd rs.flatten i).plate:Rat))) rfl rfl rfl rfl rfl rfl (by kernel_rfl) rfl rfl (fun _ _=>rfl) (fun W1 hp=>KW W1 gV cV jk (stT rs i) ((sd rs.flatten i).plate:Rat) 101 [Ap b10] cg (by kernel_rfl) (by omega) hV (S5 rs i) hsz (hp.own.cell 8 _ rfl _ (List.mem_cons_self ..)).1 fun W' hk=>(by have hbel:=hk.below hp.below (hp.own.cell 8 _ rfl _ (List.mem_cons_self ..)).2;refine⟨⟨hv.below hbel,ht.below hbel⟩, ?_⟩;rw[hcg];exact La _ b10 (sd rs.flatten i) W' (An.keep (An.of_bx hp 9 rfl rfl) hk (hp.own.apart 9 8 _ _ rfl rfl (by decide) _ (List.mem_cons_self ..) _ (List.mem_cons_self ..))))) ?_;intro U hU;rw[←hsu] at hU⊢
    refine Aa (Ag (wY (wZ (wS 7 I I I (Aa (Ag ?_))))))
    refine AD I (by kernel_rfl) ?_
    exact A6 ⟨U,hU⟩ ⟨I,I,I,I,I,I,I,I,O⟩ [0,1,2,3,4,5,6,7,8] (by decide) I
   rintro⟨⟨g',c',j'⟩,hU⟩
   exact zN (zE (zB (wP I (wV 47 ((i+1:Nat):Int) I (At (by omega)) (wP I (Aa (Al (i+1,⟨some g',c',j'⟩) ⟨hlt,hU⟩ (by show T-(i+1)<T-i;omega) ⟨I,I,I,I,I,I,I,I,O⟩ [] I)))))))
 have e:i=T:=by omega
 subst e
 have est:stT rs i=st0 rs:=by rw[←eS];exact LP rs
 obtain⟨pV,cV,jk⟩:=V
 have hst0:st0 rs≠[]:=fun e=>by
  have:=GX.2 (Kn hsne)
  rw[e] at this;cases this
 have hstl:0<(st0 rs).length:=by
  cases h:st0 rs with
  |nil=>exact absurd h hst0
  |cons x l=>rw[List.length_cons];omega
 cases pV with
 |none=>
  have:=hV.nil rfl
  rw[est] at this
  omega
 |some gV=>
 rw[est] at hV
 refine OE (bxs':=[bxE b1 24 (slv p rs.length cap),bxE b2 63 (.slice none 0 0),bxE b3 31 (.slice none 0 0),bxE b4 28 (.int .i64 0),F.bx 48 (frC (Ao rs)),bxE b5 63 (.slice (some ⟨gF,0,none⟩) i cF),S.bx 80 (cellsOf rs.flatten),bxE b8 31 (slN (gV,cV,jk) (st0 rs)),bxN (gV,cV,jk) (st0 rs)]) (by rw[est];rfl) ?_
 refine zA (zB (wP I (wU 35 false I (dF (by omega)) (Aa (zE (zA (zS I (zJ (zK (zK (zL (zE (zA ?_)))))))))))))
 refine zB ?_
 obtain⟨st,hst⟩: ∃st,st0 rs=base rs::st:=by
  cases h:st0 rs with
  |nil=>exact absurd h hst0
  |cons x l=>exact⟨l,by unfold base;rw[h];rfl⟩
 refine wB 7 I I I ?_
 refine wJ ?_
 refine wL 0 I I (fun W1 hp=>show An W1 gV (0+0*1) [str (Ac (base rs))] from CO hp 8 (A:=[]) (C:=nS st++jk) I (by show nS (st0 rs)++jk=_;rw[hst];rfl) I) I ?_
 (refine Ah Tryz.hZ rfl rfl rfl rfl ?_;intro)
 refine wS 9 I I I (Aa ?_)
 rename_i b11
 refine zE (zA (zA (zB (wB 5 I I I ?_))))
 refine wD (X:=Nat) I I (fun W1 _=>Lk W1 _) ?_
 intro bp _
 refine Aa (zE (zH ?_))
 refine Ov (X:=Nat×(Nat×Nat×List Value)) (fun x=>[bxE b1 24 (slv p rs.length cap),bxE b2 63 (.slice none 0 0),bxE b3 31 (.slice none 0 0),bxE b4 28 (.int .i64 0),F.bx 48 (frC (Ao rs)),bxE b5 63 (.slice (some ⟨gF,0,none⟩) i cF),S.bx 80 (cellsOf rs.flatten),bxE b8 31 (slN x.2 (lvT rs x.1)),bxN x.2 (lvT rs x.1),bxE b11 25 (str (Ac (base rs))),bxE bp 63 (.slice (some ⟨gF,0,none⟩) i cF)])
  (fun j x=>x.1=j∧okV x.2 (lvT rs x.1)) (fun _ _=>False) (0,(gV,cV,jk)) rfl (by kernel_rfl) (Nv (Ao rs) bp gF cF (by omega)) (fun _=>rfl)
  ⟨rfl,hV⟩ [] rfl (fun k x W1 _ hp=>⟨by rw[eF];exact An.of_bx hp 10 rfl rfl,fun m hm=>hFr hp 4 rfl m (by omega)⟩) ?_ ?_ (fun _ _ _ _ _ h=>h.elim)
 ·rintro j' ⟨j,V⟩ d l rec L hj ⟨e1,hV⟩ hrec
  obtain rfl:j=j':=e1
  have hV:okV V (lvT rs j):=hV
  obtain⟨q,hq⟩: ∃q,q=(prs (Ao rs)).getD j (0,0):=⟨_,rfl⟩
  have hqm:q∈prs (Ao rs):=by rw[hq,List.getD_eq_getElem?_getD,List.getElem?_eq_getElem hj];exact List.getElem_mem hj
  obtain⟨q1,q2,q3⟩:=Pi.1 hqm
  have henc:Y7 (Ao rs) j=[.int .i64 (q.1:Nat), .int .i64 (q.2:Nat)]:=by rw[hq]
  rw[henc]
  have hsuc:=Xf hj
  rw[←hq] at hsuc
  obtain⟨f,hf⟩: ∃f,f=fr (Ao rs) q.1:=⟨_,rfl⟩
  obtain⟨g,hg⟩: ∃g,g=fr (Ao rs) q.2:=⟨_,rfl⟩
  have pf:f.Pl:=hf▸Es hrg (Fe (by omega))
  have pg:g.Pl:=hg▸Es hrg (Fe q2)
  have hax:f.ax=g.ax:=by rw[hf,hg];exact q3
  obtain⟨E,hE⟩: ∃E,E=eqL f g:=⟨_,rfl⟩
  have hEk:eqK (Ao rs) q=E:=by rw[hE,hf,hg]
  rw[hEk] at hsuc
  have hEl:E.length≤5:=hE▸Pp f g
  have hEz: ∀z∈E,szQ z 9:=fun z hz=>pf.meet pg (Fq (hE▸hz))
  have hlz: ∀ {t:Nat} {z:Rat},z∈lvU rs j E t→szQ z 9:=fun {t z} hz=>by
   unfold lvU at hz
   rcases(Dn _ _).1 hz with h|h
   ·exact LF hrg (XM h)
   ·exact hEz z (List.mem_of_mem_take (List.mem_filter.1 h).1)
  have hll: ∀t,(lvU rs j E t).length≤20000:=fun t=>YH (by omega) hEl
  have hbz:szQ (base rs) 9:=LF hrg (Kg.2 (.inl (Kn hsne)))
  refine zA (zB (wP I (Aa (zE (zB (wP I (Aa ?_)))))))
  refine CC 13 hrec I ?_
  refine BJ ?_
  repeat refine Au ?_
  refine By (X:= { U:Vec//U.OK 1 E.length (nS E) }) [true,true,true,true,true,true,true,true,false,false,false,false,false,false] (fun U=>[(8,Ap b8),(11,Ap b11),(14,U.1.val E.length),(15, .int .i64 0)])
   (fun U=>[AS L,bxE b1 24 (slv p rs.length cap),bxE b2 63 (.slice none 0 0),bxE b3 31 (.slice none 0 0),bxE b4 28 (.int .i64 0),F.bx 48 (frC (Ao rs)),bxE b5 63 (.slice (some ⟨gF,0,none⟩) i cF),S.bx 80 (cellsOf rs.flatten),bxE b8 31 (slN V (lvT rs j)),bxN V (lvT rs j),bxE b11 25 (str (Ac (base rs))),bxE bp 63 (.slice (some ⟨gF,0,none⟩) i cF),BR d,Bp l rec .busy none,U.1.bx 25 (nS E)]) 6 [AS L,bxE b1 24 (slv p rs.length cap),bxE b2 63 (.slice none 0 0),bxE b3 31 (.slice none 0 0),bxE b4 28 (.int .i64 0),F.bx 48 (frC (Ao rs)),bxE b5 63 (.slice (some ⟨gF,0,none⟩) i cF),S.bx 80 (cellsOf rs.flatten),bxE b8 31 (slN V (lvT rs j)),bxN V (lvT rs j),bxE b11 25 (str (Ac (base rs))),bxE bp 63 (.slice (some ⟨gF,0,none⟩) i cF),BR d,Bp l rec .busy none] Tryz.mixed (by kernel_rfl) ?_ ?_
  ·refine qB 6 I I I (qP I ?_)
   refine qJ ?_
   refine qL 0 I I (fun W1 hp=>show An W1 gF (0+q.1*5) (frV f).cells.toList from hf▸hFr hp 5 I q.1 (by omega)) I (qB 6 I I I (qP I ?_))
   refine qJ ?_
   refine qL 0 I I (fun W1 hp=>show An W1 gF (0+q.2*5) (frV g).cells.toList from hg▸hFr hp 5 I q.2 (by omega)) I (CH (wX (wZ ?_)))
   refine wD (X:=Vec) rfl rfl (fun W1 hp=>hE▸PG f g pf.ok pg.ok hax (VO pf pg) (fun p hp q hq=>sz2 (pf.meet pg hp) (pf.meet pg hq) (by decide)) 2 5 9 pf.szp pf.szt pg.szp pg.szt (fun t ht=>pf.meet pg ht) (by decide) (by decide) W1 (hv.hp hp) (ht.hp hp)) ?_;intro U hU
   refine Aa (Ag (wX (wZ (wP I (Aa (Ag (wX ?_)))))))
   refine RS.cons ?_ (RS.cons ?_ (RS.nil))
   ·refine wP I (Aa (Ag (wX ?_)))
    refine RS.cons ?_ (RS.cons ?_ (RS.nil))
    ·refine wP I (Aa (Ag (wX (wZ (wP I (Aa (Ag (wX (wZ (wP I (Aa (Ag ?_))))))))))))
     refine Be I (by((repeat (first|refine Bh.same ?_|refine Bh.off I ?_));exact O)) ?_
     exact A6 ⟨U,hU⟩ ⟨I,I,I,I,O⟩ [0,1,2,3,4,5,6,7,8,9,10,11,12,13,14] (by decide) I
    ·refine wP I (Aa (Ag (wX (wZ (wP I (Aa (Ag (wX (wZ (wP I (Aa (Ag ?_))))))))))))
     refine Be I (by((repeat (first|refine Bh.same ?_|refine Bh.off I ?_));exact O)) ?_
     exact A6 ⟨U,hU⟩ ⟨I,I,I,I,O⟩ [0,1,2,3,4,5,6,7,8,9,10,11,12,13,14] (by decide) I
   ·refine wP I (Aa (Ag (wX (wZ (wP I (Aa (Ag (wX (wZ (wP I (Aa (Ag (wX ?_)))))))))))))
    refine wZ (wP I (Aa (Ag ?_)))
    refine Be I (by((repeat (first|refine Bh.same ?_|refine Bh.off I ?_));exact O)) ?_
    exact A6 ⟨U,hU⟩ ⟨I,I,I,I,O⟩ [0,1,2,3,4,5,6,7,8,9,10,11,12,13,14] (by decide) I
  rintro⟨U,hU⟩
  have hU:U.OK 1 E.length (nS E):=hU
  obtain⟨pU,cU,hUv,hUr⟩:=Vec.num hU
  have hUr:0<E.length→ ∃g,pU=some ⟨g,0,none⟩∧ ∀ {W0 W:World} {bxs:List Bx},Hp W0 bxs W→ ∀k,nth bxs k=some (U.bx 25 (nS E))→ ∀i (hi:i<E.length),An W g (0+i*1) [str (Ac E[i])]:=hUr
  dsimp only
  rw[hUv]
  refine zE (zA (zA (zB (wP I (wP I (Aa (zE (zS I (zI (zE (zA (zB (wP I (wP I (wP I ?_)))))))))))))))
  refine Aa (zE (zH ?_))
  refine Ar (X:=Nat×(Nat×Nat×List Value)) (fun s=>[(8,Ap b8),(11,Ap b11),(70, .slice pU E.length cU),(71, .int .i64 (E.length:Nat)),(72, .int .i64 (s.1:Nat))])
   (fun s=>[AS L,bxE b1 24 (slv p rs.length cap),bxE b2 63 (.slice none 0 0),bxE b3 31 (.slice none 0 0),bxE b4 28 (.int .i64 0),F.bx 48 (frC (Ao rs)),bxE b5 63 (.slice (some ⟨gF,0,none⟩) i cF),S.bx 80 (cellsOf rs.flatten),bxE b8 31 (slN s.2 (lvU rs j E s.1)),bxN s.2 (lvU rs j E s.1),bxE b11 25 (str (Ac (base rs))),bxE bp 63 (.slice (some ⟨gF,0,none⟩) i cF),BR d,Bp l rec .busy none,U.bx 25 (nS E)])
   (fun s=>s.1≤E.length∧okV s.2 (lvU rs j E s.1)) (fun s=>E.length-s.1) (0,V) ⟨Nat.zero_le _,hV⟩ ⟨rfl,rfl,rfl,rfl,rfl,trivial⟩ [] rfl ?_
  rintro⟨t,V'⟩ ⟨ht',hV'⟩
  have ht':t≤E.length:=ht'
  have hV':okV V' (lvU rs j E t):=hV'
  by_cases htl:t<E.length
  rotate_left
  ·have e:t=E.length:=by omega
   subst e
   rw[←hsuc] at hV'
   refine OE (bxs':=[AS L,bxE b1 24 (slv p rs.length cap),bxE b2 63 (.slice none 0 0),bxE b3 31 (.slice none 0 0),bxE b4 28 (.int .i64 0),F.bx 48 (frC (Ao rs)),bxE b5 63 (.slice (some ⟨gF,0,none⟩) i cF),S.bx 80 (cellsOf rs.flatten),bxE b8 31 (slN V' (lvT rs (j+1))),bxN V' (lvT rs (j+1)),bxE b11 25 (str (Ac (base rs))),bxE bp 63 (.slice (some ⟨gF,0,none⟩) i cF),BR d,Bp l rec .busy none,U.bx 25 (nS E)]) (by rw[hsuc]) ?_
   exact zA (zB (wP I (wU 73 false I (dF (by omega)) (Aa (zE (zA (zS I (zJ (zK (zK (zL (zN (B6 13 (j+1,V') hrec I ⟨I,hV'⟩ [U.bx 25 (nS E)] I)))))))))))))
  obtain⟨gU,hpe,hUq⟩:=hUr (by omega)
  subst hpe
  obtain⟨z,hz⟩: ∃z,z=E[t]:=⟨_,rfl⟩
  have hzE:z∈E:=hz▸List.getElem_mem htl
  have hsu:=Xw (rs:=rs) (k:=j) htl
  rw[←hz] at hsu
  have hlen:=hll t
  refine zA (zB (wP I (wU 73 true I (dT (by omega)) (Aa (zE (zA (zR I (zI (zE (zA (zH (zA (zB ?_)))))))))))))
  refine wJ ?_
  refine wL 0 I I (fun W1 hp=>show An W1 gU (0+t*1) [str (Ac z)] from hz▸hUq hp 14 I t htl) I (wP I (Aa (zE (zB (wB 8 I I I (wP I (wP I ?_)))))))
  refine CQ 9 (X:=Nat×Nat×List Value) (val:=fun x=>slN x (mrg (decide (base rs<z)) (lvU rs j E t) z)) (Φ:=fun x=>okV x (mrg (decide (base rs<z)) (lvU rs j E t) z)) (L1:=[]) (L2:=[]) (B:=bxN V' (lvU rs j E t)) (fun x=>bxN x (mrg (decide (base rs<z)) (lvU rs j E t) z)) I I I I I I (by kernel_rfl) I I (fun _ _=>rfl) (fun W1 hp=> ?_) ?_
  ·refine KW W1 V'.1 V'.2.1 V'.2.2 (lvU rs j E t) z 102 [Ap b11] (decide (base rs<z)) (by kernel_rfl) (by omega) hV' (SM rs j E t) (fun x hx=>sz2 (hlz hx) (hEz z hzE) (by decide)) (hp.own.cell 9 _ I _ (List.mem_cons_self ..)).1 fun W' hk=> ?_
   have hbel:=hk.below hp.below (hp.own.cell 9 _ rfl _ (List.mem_cons_self ..)).2
   refine⟨⟨hv.below hbel,ht.below hbel⟩, ?_⟩
   exact R4 z (base rs) (sz2 (hEz z hzE) hbz (by decide)) b11 W' (hv.below hbel) (ht.below hbel) (An.keep (An.of_bx hp 10 I I) hk (hp.own.apart 10 9 _ _ I I (by decide) _ (List.mem_cons_self ..) _ (List.mem_cons_self ..)))
  intro V2 hV2
  have hV2:okV V2 (mrg (decide (base rs<z)) (lvU rs j E t) z):=hV2
  dsimp only
  rw[←hsu] at hV2⊢
  exact wS 8 I I I (Aa (zN (zE (zB (wP I (wV 80 ((t+1:Nat):Int) I (At (by omega)) (wP I (Aa (Al (t+1,V2) ⟨htl,hV2⟩ (by show E.length-(t+1)<E.length-t;omega) ⟨I,I,I,I,I,O⟩ [] I)))))))))
 ·rintro⟨j,V⟩ d l rec ⟨e1,hV⟩
  obtain rfl:j=(prs (Ao rs)).length:=e1
  have hV:okV V (lvT rs (prs (Ao rs)).length):=hV
  rw[T9] at hV
  refine ZW (bxs':=[bxE b1 24 (slv p rs.length cap),bxE b2 63 (.slice none 0 0),bxE b3 31 (.slice none 0 0),bxE b4 28 (.int .i64 0),F.bx 48 (frC (Ao rs)),bxE b5 63 (.slice (some ⟨gF,0,none⟩) i cF),S.bx 80 (cellsOf rs.flatten),bxE b8 31 (slN V (Bi rs)),bxN V (Bi rs),bxE b11 25 (str (Ac (base rs))),bxE bp 63 (.slice (some ⟨gF,0,none⟩) i cF),BR d,Bp l rec .exhausted none]) (by dsimp only;rw[T9];rfl) ?_
  refine zN (zE ?_)
  repeat refine Au ?_
  refine By (X:=Unit) [true,true,false,false,false] (fun _=>[(2,Ap b2),(3,Ap b3),(4,Ap b4)]) (fun _=>[bxE b2 63 (.slice (some ⟨gF,0,none⟩) i cF),bxE b3 31 (slN V (Bi rs)),bxE b4 28 (.int .i64 0),F.bx 48 (frC (Ao rs)),bxN V (Bi rs),BR d])
   3 [DD,DD,DD,DD,DD,bxE b5 63 (.slice (some ⟨gF,0,none⟩) i cF),DD,bxE b8 31 (slN V (Bi rs)),DD,DD,DD,DD,DD] Tryz.mixed (by kernel_rfl) ?_ ?_
  ·refine qB 5 I I I (qB 7 I I I (CH (wX (wZ (wS 1 I I I (Aa (Ag (wX (wZ (wS 2 I I I (Aa (Ag (wX ?_)))))))))))))
   refine wZ (wS 3 I I I (Aa (Ag ?_)))
   refine Be I (by((repeat (first|refine Bh.same ?_|refine Bh.off I ?_));exact O)) ?_
   exact A6 () ⟨I,I,I,O⟩ [1,2,3,4,8,11] (by decide) I
  intro _
  refine zE (zO ?_)
  refine D2 5 I ?_
  refine Pq tH I (.cell 0 I I I I I) (.cell 1 I I I I I) (.cell 2 I I I I I) (F,⟨some V.1,V.2.1,V.2.2⟩) (by show Value.tuple #[.slice (some ⟨gF,0,none⟩) i cF,slN V (Bi rs), .int .i64 0]= .tuple #[F.val i,slN V (Bi rs), .int .i64 0];have hFi:=hFv;rw[eF] at hFi;rw[hFi]) ⟨eF▸hF,hV⟩ fun W1 hp=>Av.of_hp (hp.pick (l:=[F.bx 48 (frC (Ao rs)),bxN V (Bi rs)]) [3,4] (by decide) I)
-- BOXES 6
-- CODE2
theorem WF: ∀(k n:Nat),n<10^(k+1)→(decDigits n).length≤k+1
 |k,n,h=>by
  by_cases h1:n<10
  ·rw[decDigits,dif_pos h1,List.length_singleton];omega
  ·cases k with
   |zero=>exact absurd h h1
   |succ k=>
    rw[decDigits,dif_neg h1,List.length_append,List.length_singleton]
    have h2:n/10<10^(k+1):=by
     rw[Nat.pow_succ] at h
     omega
    have:=WF k (n/10) h2
    omega
structure DZ (W:World) (p:Option Addr) (rs:List (List Sd)):Prop where
 n:rs.length<1099511627776
 R:BD W p rs
 c:chk rs=0
 d:Kz W
 v:BP W
 t:AJ W
theorem DZ.hp {W0 W:World} {bxs:List Bx} {p:Option Addr} {rs:List (List Sd)} (h:DZ W0 p rs) (hp:Hp W0 bxs W):DZ W p rs:=⟨h.n,h.R.hp hp,h.c,h.d.hp hp,h.v.hp hp,h.t.hp hp⟩
theorem DZ.check {W:World} {p:Option Addr} {rs:List (List Sd)} (h:DZ W p rs) (cap:Nat):Ad Tryz.prog 92 #[AO p rs.length cap] W (fun _:Unit=> .int .i64 0) (fun _=>True) (fun _=>[]):=
 (Gl W p cap rs (by have:=h.n;omega) (by have:=(DL h.c).2.1;omega) h.R).cast (by rw[h.c])
def Oe (rs:List (List Sd)) (i:Nat):Rat:=(Bi rs).getD i 0
theorem PR {rs:List (List Sd)} {i:Nat} (hi:i<(Bi rs).length):(Bi rs)[i]=Oe rs i:=by unfold Oe;rw[List.getD_eq_getElem?_getD,List.getElem?_eq_getElem hi];rfl
theorem Sm {rs:List (List Sd)} {gL:Nat} {W0 W:World} {bxs:List Bx} {V:Vec} (hLq: ∀ {W0 W:World} {bxs:List Bx},Hp W0 bxs W→ ∀k,nth bxs k=some (V.bx 25 (nS (Bi rs)))→ ∀i (hi:i<(Bi rs).length),An W gL (0+i*1) [str (Ac (Bi rs)[i])])
  (hp:Hp W0 bxs W) (k:Nat) (hk:nth bxs k=some (V.bx 25 (nS (Bi rs)))) (i:Nat) (hi:i<(Bi rs).length):An W gL (0+i*1) [str (Ac (Oe rs i))]:=by
 have h:=hLq hp k hk i hi
 rw[PR hi] at h
 exact h
theorem Rn {rs:List (List Sd)} (h:chk rs=0):0<(Bi rs).length:=by
 obtain⟨l,e⟩:=UX (KJ h)
 rw[e,List.length_cons];omega
theorem Tj (W:World) (p:Option Addr) (cap:Nat) (rs:List (List Sd)) (h:DZ W p rs):
  Ad Tryz.prog 11 #[AO p rs.length cap] W (fun V:Vec=> .tuple #[V.val (Bi rs).length, .int .i64 0]) (fun V=>V.OK 1 (Bi rs).length (nS (Bi rs))) (fun V=>[V.bx 25 (nS (Bi rs))]):=by
 refine Ab (args:=[AO p rs.length cap]) Tryz.func11 I I I ?_
 refine zA (zB ?_)
 (refine A3 rfl rfl rfl rfl ?_;intro)
 refine wP I (wP I (Aa (zE (zA (zB (wB 0 I I I ?_))))))
 refine wD (X:=Vec×Vec) I I (fun W1 hp=>Kq W1 p cap rs h.n (h.R.hp hp) h.c (h.d.hp hp) (h.v.hp hp) (h.t.hp hp)) ?_
 intro x hx
 iterate 7 refine wP I ?_
 exact Aa (zE (zA (zB (wP I (wP I (wP I (wP I (Aa (zE (zO (AK tH I (.tmp I) (.tmp I) x.2 I hx.2 fun W1 hp=>Av.of_hp (hp.pick (l:=[x.2.bx 25 (nS (Bi rs))]) [2] (by decide) I))))))))))))
theorem GS (W:World) (p:Option Addr) (cap:Nat) (rs:List (List Sd)) (h:DZ W p rs) (z:Rat) (hz:szQ z 20):
  Ad Tryz.prog 51 #[AO p rs.length cap,str (Ac z)] W (fun _:Unit=> .int .i64 0) (fun _=>True) (fun _=>[]):=by
 have h1:=WF 19 z.num.natAbs hz.1
 have h2:=WF 19 z.den hz.2
 refine Ab (args:=[AO p rs.length cap,str (Ac z)]) Tryz.func51 I I I ?_
 refine zA (zB ?_)
 (refine A3 rfl rfl rfl rfl ?_;intro)
 refine wP I (Aa (zE (zA (zA (zB (wB 0 I I I (wC I I (fun W1 hp=>(h.hp hp).check cap) (wP I (Aa (zE (zS I (zI (zE ?_)))))))))))))
 refine zA (zB (wP I (wC I I (fun W1 hp=>Hc z (hz.ok (by decide)) W1 (h.v.hp hp) (h.t.hp hp)) ?_)))
 iterate 7 refine wP I ?_
 refine Aa (zE (zA (zA (zB (wP I (wP I (Aa (zE (zS I (zI (zE (zA (zA ?_)))))))))))))
 refine zB (wP I (wC I I (fun W1 _=>Ch (itoa z.num) [45] W1) ?_))
 refine Ak 21 (str (decDigits z.num.natAbs)) I (by rw[Bg]) ?_
 refine wP I ?_
 refine Ak 22 (.int .i64 ((decDigits z.num.natAbs).length:Nat)) I (congrArg (fun n:Nat=>Value.int .i64 (n:Int)) (Az _)) ?_
 refine wP I (wU 23 false I (dF (by omega)) (wP I (wP I (wP I ?_))))
 refine Ak 26 (.int .i64 ((decDigits z.den).length:Nat)) I (congrArg (fun n:Nat=>Value.int .i64 (n:Int)) ((Az _).trans (by rw[EC]))) ?_
 exact wP I (wU 27 false I (dF (by omega)) (wP I (Aa (zE (zS I (zI (zE (zA (zB (wP I (Aa (zE (zO (wR1 I I I))))))))))))))
def De (F:List FrP) (z:Rat):List Rat:=F.map fun f=>f.at z
theorem F6 (F:List FrP) (z:Rat):(De F z).length=F.length:=List.length_map _
theorem TE {F:List FrP} {z:Rat} {i:Nat} (hi:i<(De F z).length):(De F z)[i]=(fr F i).at z:=by
 have h:i<F.length:=by rwa [F6] at hi
 have e:(De F z)[i]? =some ((fr F i).at z):=by unfold De;rw[List.getElem?_map,Fj h];rfl
 rw[List.getElem?_eq_getElem hi] at e
 exact Option.some.inj e
theorem Uu {F:List FrP} {z:Rat} {i:Nat} (h:i<F.length):De (F.take (i+1)) z=De (F.take i) z++[(fr F i).at z]:=by
 have e:F.take (i+1)=F.take i++[fr F i]:=by rw[List.take_add_one,Fj h];rfl
 unfold De
 rw[e,List.map_append];rfl
theorem H6 (W:World) (p:Option Addr) (cap:Nat) (rs:List (List Sd)) (h:DZ W p rs) (z:Rat) (hz:szQ z 36):
  Ad Tryz.prog 56 #[AO p rs.length cap,str (Ac z)] W (fun x:Vec×Vec=> .tuple #[x.1.val (Ao rs).length,x.2.val (De (Ao rs) z).length, .int .i64 0]) (fun x=>x.1.OK 5 (Ao rs).length (frC (Ao rs))∧x.2.OK 1 (De (Ao rs) z).length (nS (De (Ao rs) z)))
   (fun x=>[x.1.bx 48 (frC (Ao rs)),x.2.bx 25 (nS (De (Ao rs) z))]):=by
 obtain⟨hne,hT24,hT0⟩:=DL h.c
 obtain⟨hrg,_⟩:=Cr h.c
 have eF:=CR rs
 obtain⟨T,hTe⟩: ∃T,T=tot rs:=⟨_,rfl⟩
 rw[←hTe] at eF hT24 hT0
 refine Ab (args:=[AO p rs.length cap,str (Ac z)]) Tryz.func56 I I I ?_
 refine zA (zB ?_)
 (refine A3 rfl rfl rfl rfl ?_;intro)
 refine wP I (wP I (wP I (Aa ?_)))
 rename_i b2
 refine zE (zA (zB (wB 0 I I I ?_)))
 refine wD (X:=Vec) I I (fun W1 hp=>Mf W1 p cap rs (by have:=h.n;omega) (h.R.hp hp) h.c (h.d.hp hp) (h.t.hp hp)) ?_
 intro F hF
 have hF:F.OK 5 (Ao rs).length (frC (Ao rs)):=hF
 obtain⟨gF,cF,hFv,hFr⟩:=Vec.frs hF (by omega)
 have hFr: ∀ {W0 W:World} {bxs:List Bx},Hp W0 bxs W→ ∀k,nth bxs k=some (F.bx 48 (frC (Ao rs)))→ ∀m,m<T→An W gF (0+m*5) (frV (fr (Ao rs) m)).cells.toList:=fun hp k hk m hm=>hFr hp k hk m _ (Fj (by omega))
 rw[hFv,eF]
 iterate 5 refine wP I ?_
 refine Aa (zE (zA (zA (zB (wP I (wP I (Aa (zE (zS I (zI (zE (zA (zB ?_)))))))))))))
 refine wP I (Aa (zE (zA (zA (zB (wP I (wP I (wP I (Aa (zE (zH ?_)))))))))))
 refine DM ?_
 refine Ar (X:=Nat×Vec) (fun s=>[(1,str (Ac z)),(7, .slice (some ⟨gF,0,none⟩) T cF),(9,s.2.val s.1),(22, .slice (some ⟨gF,0,none⟩) T cF),(23, .int .i64 (T:Nat)),(24, .int .i64 (s.1:Nat))])
  (fun s=>[bxE b2 24 (slv p rs.length cap),F.bx 48 (frC (Ao rs)),s.2.bx 25 (nS (De ((Ao rs).take s.1) z))]) (fun s=>s.1≤T∧s.2.OK 1 s.1 (nS (De ((Ao rs).take s.1) z))) (fun s=>T-s.1) (0,Vec.empty) ⟨Nat.zero_le _,Vec.OK.empty 1⟩ ⟨rfl,rfl,rfl,rfl,rfl,rfl,trivial⟩ [] rfl ?_
 rintro⟨i,V⟩ ⟨hi,hV⟩
 have hi:i≤T:=hi
 have hV:V.OK 1 i (nS (De ((Ao rs).take i) z)):=hV
 by_cases hlt:i<T
 ·refine zA (zB (wP I (wU 25 true I (dT (by omega)) (Aa (zE (zA (zR I (zI (zE (zA (zH (zA (zB ?_)))))))))))))
  refine wJ ?_
  refine wL 0 I I (fun W1 hp=>hFr hp 1 I i hlt) I ?_
  (refine Ah Tryz.hZ rfl rfl rfl rfl ?_;intro)
  refine wS 3 I I I (Aa (zE (zA (zB (wB 3 I I I (wP I ?_))))))
  have ok:=(Es hrg (Fe (F:=Ao rs) (i:=i) (by omega))).ok
  refine wC I I (fun W1 hp=>S7 (fr (Ao rs) i) ok z hz W1 (h.v.hp hp) (h.t.hp hp)) ?_
  iterate 5 refine wP I ?_
  refine Aa (zE (zA (zA (zB (wP I (wP I (Aa (zE (zS I (zI (zE (zB (wP I (wP I ?_))))))))))))))
  have hsu:=Uu (F:=Ao rs) (z:=z) (i:=i) (by omega)
  refine As Tryz.hZ tH I I I I I I I I I I I fun bS=> ?_
  refine AB (V:=V) (len:=i) (xs:=nS (De ((Ao rs).take i) z)) 2 4 Tryz.vec31 (i+1) (nS (De ((Ao rs).take (i+1)) z)) I I I I I I I I I I I hV I I I (by rw[hsu,D6];rfl) (by simp only[maxLen];omega) (by omega) I ?_
  intro gV cV jV hV1
  exact wP I (Aa (zN (zE (zB (wP I (wV 41 ((i+1:Nat):Int) I (At (by omega)) (wP I (Aa (Al (i+1,⟨some gV,cV,jV⟩) ⟨hlt,hV1⟩ (by show T-(i+1)<T-i;omega) ⟨I,I,I,I,I,I,O⟩ _ I)))))))))
 have e:i=T:=by omega
 subst e
 have et:(Ao rs).take i=Ao rs:=List.take_of_length_le (by omega)
 rw[et] at hV
 refine OE (bxs':=[bxE b2 24 (slv p rs.length cap),F.bx 48 (frC (Ao rs)),V.bx 25 (nS (De (Ao rs) z))]) (by rw[et]) ?_
 refine zA (zB (wP I (wU 25 false I (dF (by omega)) (Aa (zE (zA (zS I (zJ (zK (zK (zL (zE (zA ?_)))))))))))))
 refine zB ?_
 iterate 5 refine wP I ?_
 refine Aa (zE (zO ?_))
 refine Pq tH I (.tmp I) (.tmp I) (.tmp I) (F,V) (by show Value.tuple #[.slice (some ⟨gF,0,none⟩) i cF,V.val i, .int .i64 0]= .tuple #[F.val i,V.val (De (Ao rs) z).length, .int .i64 0];have hFi:=hFv;rw[eF] at hFi;rw[F6,eF,hFi]) ⟨eF▸hF,by show V.OK 1 (De (Ao rs) z).length (nS (De (Ao rs) z));rw[F6,eF];exact hV⟩ fun W1 hp=>Av.of_hp (hp.pick (l:=[F.bx 48 (frC (Ao rs)),V.bx 25 (nS (De (Ao rs) z))]) [1,2] (by decide) I)
abbrev iC (l:List Nat):List Value:=l.map fun i:Nat=> .int .i64 (i:Nat)
theorem Qs (g:Nat) (capt:List Value) (hE:Bc Tryz.prog g=true) (f:Rat→Bool) (l:List Rat) (W:World) (p:Option Addr) (cap:Nat) (hn:l.length<4611686018427387904) (hS:Sc W p l)
  (hF: ∀t∈l, ∀W',Below W.heap.size W W'→Ad Tryz.prog g ([str (Ac t)]++capt).toArray W' (fun _:Unit=> .bool (f t)) (fun _=>True) (fun _=>[]))
  (k:Nat) (hk:k≤l.length) (h1: ∀j (hj:j<l.length),j<k→f l[j]=false) (h2: ∀hj:k<l.length,f l[k]=true):
  Ad Tryz.prog 60 #[.slice p l.length cap, .func (.func g) #[] capt.toArray] W (fun _:Unit=> .int .i64 (if k<l.length then(k:Nat) else -1)) (fun _=>True) (fun _=>[]):=by
 refine Ab (args:=[.slice p l.length cap, .func (.func g) #[] capt.toArray]) Tryz.func60 I I I ?_
 refine zA (zB (wP I (Aa (zE (zA (zA (zB (wP I (wP I (wP I (Aa (zE (zH ?_)))))))))))))
 refine Ar (X:=Nat) (fun i=>[(0, .slice p l.length cap),(1, .func (.func g) #[] capt.toArray),(7, .int .i64 (l.length:Nat)),(8, .int .i64 (i:Nat))]) (fun _=>[]) (fun i=>i≤k) (fun i=>l.length-i) 0 (Nat.zero_le _) ⟨I,I,I,I,O⟩ [] I ?_
 intro i hi
 refine zA (zB (wP I ?_))
 by_cases hlt:i<l.length
 ·refine wU 9 true I (dT (by omega)) (Aa (zE (zA (zR I (zI (zE (zA (zH (zA (zB ?_))))))))))
  obtain⟨b,off,rfl,hrow⟩:=hS.at_ hlt
  refine wP I (wP I (Aa (zE (zA (zB (wP I (wP I (wP I ?_))))))))
  refine wJ ?_
  refine wL 0 I I (fun W hp=>(hrow i hlt).hp hp) I ?_
  refine AT (capt:=capt) I I I I I I hE (fun W1 hp=>hF l[i] (List.getElem_mem hlt) W1 hp.below) ?_
  refine Aa (zE ?_)
  refine Af I (fun hc=> ?_) (fun hc=> ?_)
  ·have hc:f l[i]=true:=hc
   have e:i=k:=by
    rcases Nat.lt_or_ge i k with h|h
    ·rw[h1 i hlt h] at hc;cases hc
    ·omega
   subst e
   exact zA (zB (wP I (wP I (Aa (zE (zO (zQ (zP (zP (zQ (zP (wR1 I I (by rw[if_pos hlt])))))))))))))
  ·have hc:f l[i]=false:=hc
   have e:i≠k:=fun e=>by subst e;rw[h2 hlt] at hc;cases hc
   exact zI (zN (zE (zB (wP I (wV 18 ((i+1:Nat):Int) I (At (by omega)) (wP I (Aa (Al (i+1) (by show i+1≤k;omega) (by show l.length-(i+1)<l.length-i;omega) ⟨I,I,I,I,O⟩ [] I))))))))
 ·refine wU 9 false I (dF (by omega)) (Aa (zE (zA (zS I (zJ (zK (zK (zL (zE (zA (zB (wP I (Aa ?_)))))))))))))
  exact zE (zO (wR1 I I (by rw[if_neg (by omega)])))
theorem Ra (b:Nat) (a z:Rat) (hz:Sz2 a z) (W:World) (hrow:An W b 0 [str (Ac z)]) (hv:BP W) (ht:AJ W):
  Ad Tryz.prog 61 #[str (Ac a),Ap b] W (fun _:Unit=> .bool (decide (z<a))) (fun _=>True) (fun _=>[]):=by
 refine Ab (args:=[str (Ac a),Ap b]) Tryz.func61 I I I ?_
 refine zA (zB (wP I (Aa (zE (zA (zB (wP I (wL 0 I I (fun W1 hp=>hrow.hp hp) I (wC I I (fun W1 hp=>Do a z hz W1 (hv.hp hp) (ht.hp hp)) (wP I (wU 7 (decide (z<a)) I (Fb a z) (wP I (Aa ?_)))))))))))))
 exact zE (zO (wR1 I I I))
theorem Li (W:World) (p:Option Addr) (cap:Nat) (rs:List (List Sd)) (h:DZ W p rs) (z:Rat) (hz:szQ z 20) (k:Nat) (hk:k≤(Bi rs).length) (h1: ∀j (hj:j<(Bi rs).length),j<k→(Bi rs)[j]≤z) (h2: ∀hj:k<(Bi rs).length,z<(Bi rs)[k]):
  Ad Tryz.prog 22 #[AO p rs.length cap,str (Ac z)] W (fun _:Unit=>if k<(Bi rs).length then .tuple #[str (Ac (Oe rs k)), .bool true, .int .i64 0] else .tuple #[str [], .bool false, .int .i64 0]) (fun _=>True) (fun _=>[]):=by
 obtain⟨hrg,_⟩:=Cr h.c
 have hpos:=Rn h.c
 have hlen:=Ri (DL h.c).2.1
 refine Ab (args:=[AO p rs.length cap,str (Ac z)]) Tryz.func22 I I I ?_
 refine zA (zB ?_)
 (refine A3 rfl rfl rfl rfl ?_;intro)
 (refine A3 rfl rfl rfl rfl ?_;intro)
 refine wP I (wP I (wP I (Aa ?_)))
 rename_i b2 b3
 refine zE (zA (zA (zB (wB 0 I I I (wB 1 I I I (wC I I (fun W1 hp=>GS W1 p cap rs (h.hp hp) z hz) (wP I (Aa (zE (zA (zB (wP I (wP I ?_)))))))))))))
 refine Aa (zE (zS I (zI (zE (zA (zB (wB 0 I I I ?_)))))))
 refine wD (X:=Vec×Vec) I I (fun W1 hp=>Kq W1 p cap rs h.n (h.R.hp hp) h.c (h.d.hp hp) (h.v.hp hp) (h.t.hp hp)) ?_
 intro x hx
 obtain⟨pL,cL,hLv,hLr⟩:=Vec.num hx.2
 obtain⟨gL,hpe,hLq⟩:=hLr hpos
 subst hpe
 dsimp only
 rw[hLv]
 iterate 7 refine wP I ?_
 refine Aa (zE (zA (zA (zB (wP I (wP I (Aa (zE (zS I (zI (zE (zA (zB ?_)))))))))))))
 obtain⟨kv,hkv⟩: ∃kv:Int,kv=if k<(Bi rs).length then(k:Int) else -1:=⟨_,rfl⟩
 refine wP I (wP I ?_)
 refine wC I I (fun W1 hp=>(Qs 61 [Ap b3] (by kernel_rfl) (fun a=>decide (z<a)) (Bi rs) W1 (some ⟨gL,0,none⟩) cL (by omega) (.inr ⟨gL,0,I,fun i hi=>hLq hp 3 I i hi⟩)
  (fun t ht W' hb=>Ra b3 t z (sz2 (LF hrg ht) hz (by decide)) W' ((An.of_bx hp 1 rfl rfl).below (Nat.le_refl _) hb) ((h.v.hp hp).below hb) ((h.t.hp hp).below hb)) k hk (fun j hj hjk=>dF (Rat.not_lt.2 (h1 j hj hjk))) (fun hj=>dT (h2 hj))).cast (v':= .int .i64 kv) (by rw[hkv])) ?_
 refine wP I (Aa (zE (zA (zA (zB (wP I (wP I ?_)))))))
 by_cases hkl:k<(Bi rs).length
 ·rw[if_pos hkl] at hkv
  subst hkv
  refine wU 31 false I (dF (by omega)) (Aa (zE (zS I (zI (zE (zA (zB (wP I (wP I ?_)))))))))
  refine wJ ?_
  exact wL 0 I I (fun W1 hp=>Sm hLq hp 3 I k hkl) I (wP I (wP I (wP I (Aa (zE (zO (wR3 I I (by rw[if_pos hkl]))))))))
 ·rw[if_neg hkl] at hkv
  subst hkv
  exact wU 31 true I (dT (by omega)) (Aa (zE (zR I (zA (zB (wP I (wP I (wP I (Aa (zE (zO (zP (wR3 I I (by rw[if_neg hkl]))))))))))))))
-- BOXES 10
-- CODE2
section
variable {r:Option Nat} {n:Nat} {P:Program} {W0:World} {N:Nat} {D:List Deferred} {ops:List Oper} {Q:Exit→Act→World→Prop} {l:List Oper} {env:Env} {bxs:List Bx}
theorem Ux (h:WL r n P N D ops Q l env (Hp W0 (bxs++[AS []]))):WL r n P N D ops Q l env (Hp W0 bxs):= .mk fun a W ha hd hp=>h.out a W ha hd hp.newGrp
end
def HT (f g:FrP):Bool:=decide (f.pos=g.pos)&&(decide (f.sp=g.sp)&&(decide (f.sp=0)||(decide (f.st=g.st)&&decide (f.hd=g.hd))))
theorem Rk {f g:FrP}:HT f g=true↔alw f g:=by simp[HT,alw]
theorem Pe (f g:FrP) (W:World):Ad Tryz.prog 58 #[frV f,frV g] W (fun _:Unit=> .bool (HT f g)) (fun _=>True) (fun _=>[]):=by
 refine Ab (args:=[frV f,frV g]) Tryz.func58 I I I ?_
 refine zA (zB ?_)
 (refine A3 rfl rfl rfl rfl ?_;intro)
 (refine A3 rfl rfl rfl rfl ?_;intro)
 refine wP I (Aa (zE (zA (zB (wP I (wB 0 I I I (wP I (wB 1 I I I (wP I ?_)))))))))
 by_cases c1:f.pos=g.pos
 rotate_left
 ·have e:HT f g=false:=by unfold HT;rw[dF c1];rfl
  refine wU 9 false I (beq_eq_false_iff_ne.2 c1) (wP I ?_)
  iterate 5 refine Ae I I ?_
  refine wP I (wP I ?_)
  iterate 17 refine Ae I I ?_
  exact wP I (wP I (Aa (zE (zO (wR1 I I (by rw[e]))))))
 refine wU 9 true I (beq_iff_eq.2 c1) (wP I (wP I (wB 0 I I I (wP I (wB 1 I I I (wP I ?_))))))
 by_cases c2:f.sp=g.sp
 rotate_left
 ·have e:HT f g=false:=by unfold HT;rw[dF c2,Bool.false_and,Bool.and_false]
  refine wU 15 false I ((AH _ _).trans (dF fun h=>c2 (BV.1 h))) (wP I (wP I ?_))
  iterate 17 refine Ae I I ?_
  exact wP I (wP I (Aa (zE (zO (wR1 I I (by rw[e]))))))
 refine wU 15 true I ((AH _ _).trans (dT (by rw[c2]))) (wP I (wP I (wP I (wB 0 I I I (wP I ?_)))))
 by_cases c3:f.sp=0
 ·have e:HT f g=true:=Rk.2 ⟨c1,c2, .inl c3⟩
  refine wU 20 true I ((AH _ _).trans ((EY _).trans (dT c3))) (wP I ?_)
  iterate 12 refine Ae I I ?_
  exact wP I (wP I (wP I (Aa (zE (zO (wR1 I I (by rw[e])))))))
 refine wU 20 false I ((AH _ _).trans ((EY _).trans (dF c3))) (wP I (wP I (wB 0 I I I (wP I (wB 1 I I I (wP I ?_))))))
 by_cases c4:f.st=g.st
 rotate_left
 ·have e:HT f g=false:=by unfold HT;rw[dF c3,dF c4];simp
  refine wU 26 false I ((AH _ _).trans (dF fun h=>c4 (BV.1 h))) (wP I ?_)
  iterate 5 refine Ae I I ?_
  exact wP I (wP I (wP I (wP I (Aa (zE (zO (wR1 I I (by rw[e]))))))))
 refine wU 26 true I ((AH _ _).trans (dT (by rw[c4]))) (wP I (wP I (wB 0 I I I (wP I (wB 1 I I I (wP I ?_))))))
 by_cases c5:f.hd=g.hd
 ·have e:HT f g=true:=Rk.2 ⟨c1,c2, .inr ⟨c4,c5⟩⟩
  exact wU 32 true I (beq_iff_eq.2 c5) (wP I (wP I (wP I (wP I (Aa (zE (zO (wR1 I I (by rw[e])))))))))
 ·have e:HT f g=false:=by unfold HT;rw[dF c3,dF c5];simp
  exact wU 32 false I (beq_eq_false_iff_ne.2 c5) (wP I (wP I (wP I (wP I (Aa (zE (zO (wR1 I I (by rw[e])))))))))
abbrev Nz:Type:=List (Nat×(Nat×Nat))
abbrev prC (q:Nat×Nat):List Value:=[.int .i64 (q.1:Nat), .int .i64 (q.2:Nat)]
def DR (mk:Nz):List Value:=mk.map fun p=> .slice (some ⟨p.1,0,none⟩) 2 2
def prL (mk:Nz):List (Nat×Obj):=mk.reverse.map fun p=>(p.1, .cells (prC p.2).toArray 3 (0,0))
def prB (mk:Nz):Bx:=AS (prL mk)
theorem UF (mk:Nz):(DR mk).length=mk.length:=List.length_map _
theorem Tp (mk:Nz) (b:Nat) (q:Nat×Nat):DR (mk++[(b,q)])=DR mk++[.slice (some ⟨b,0,none⟩) 2 2]:=by unfold DR;rw[List.map_append];rfl
theorem VM (mk:Nz) (b:Nat) (q:Nat×Nat):(prB (mk++[(b,q)])).blk=(⟨b,3,prC q,true,none⟩:Bx).blk++(prB mk).blk:=by
 show prL (mk++[(b,q)])=_++prL mk
 unfold prL
 rw[List.reverse_append];rfl
def Nd (W:World) (p:Option Addr) (L:List (Nat×Nat)):Prop:=L=[]∨ ∃g off,p=some ⟨g,off,none⟩∧ ∀i (hi:i<L.length), ∃b,An W g (off+i*1) [.slice (some ⟨b,0,none⟩) 2 2]∧An W b 0 (prC L[i])
theorem Nd.at_ {W:World} {p:Option Addr} {L:List (Nat×Nat)} (h:Nd W p L) {i:Nat} (hi:i<L.length): ∃g off,p=some ⟨g,off,none⟩∧ ∀i (hi:i<L.length), ∃b,An W g (off+i*1) [.slice (some ⟨b,0,none⟩) 2 2]∧An W b 0 (prC L[i]):=by
 rcases h with rfl|h
 ·exact absurd hi (Nat.not_lt_zero _)
 ·exact h
theorem UB {V:Vec} {mk:Nz} {L:List (Nat×Nat)} (hL:mk.map (·.2)=L) (hV:V.OK 1 mk.length (DR mk)): ∃p cap,V.val mk.length= .slice p L.length cap∧
  ∀ {W0 W:World} {bxs:List Bx},Hp W0 bxs W→ ∀k i,nth bxs k=some (V.bx 35 (DR mk))→nth bxs i=some (prB mk)→Nd W p L:=by
 have hl:L.length=mk.length:=by rw[←hL,List.length_map]
 obtain⟨p,cap,junk⟩:=V
 cases p with
 |none=>
  have h0:=hV.nil rfl
  refine⟨none,0,by rw[hl,h0];rfl,fun _ _ _ _ _=> .inl (List.length_eq_zero_iff.1 (by omega))⟩
 |some g=>
  refine⟨some ⟨g,0,none⟩,cap,by rw[hl];rfl,fun {W0 W bxs} hp k i hk hi=> .inr ⟨g,0,I,fun j hj=> ?_⟩⟩
  have hjm:j<mk.length:=by omega
  have e2:L[j]=mk[j].2:=by simp only[←hL,List.getElem_map]
  refine⟨mk[j].1,CO hp k (A:=DR (mk.take j)) (C:=DR (mk.drop (j+1))++junk) hk ?_ (by rw[UF,List.length_take];omega), ?_⟩
  ·conv=>lhs;rw[←List.take_append_drop j mk,List.drop_eq_getElem_cons hjm]
   unfold DR
   rw[List.map_append,List.map_cons,List.append_assoc];rfl
  ·rw[e2]
   refine Xg (ty:=3) hp i hi (l:=prL mk) ?_
   exact List.mem_map.2 ⟨mk[j],List.mem_reverse.2 (List.getElem_mem hjm),I⟩
def PT (F:List FrP) (z:Rat) (q:Nat×Nat):Bool:=decide ((fr F q.1).at z=(fr F q.2).at z)&& !HT (fr F q.1) (fr F q.2)
def prW (F:List FrP) (z:Rat):List (Nat×Nat):=(prs F).filter (PT F z)
def Jv (F:List FrP) (z:Rat) (j:Nat):List (Nat×Nat):=((prs F).take j).filter (PT F z)
theorem VK (F:List FrP) (z:Rat):Jv F z (prs F).length=prW F z:=by unfold Jv prW;rw[List.take_length]
theorem Vc {F:List FrP} {z:Rat} {j:Nat} (hj:j<(prs F).length):Jv F z (j+1)=if PT F z ((prs F).getD j (0,0))=true then Jv F z j++[(prs F).getD j (0,0)] else Jv F z j:=by
 unfold Jv
 rw[List.getD_eq_getElem?_getD,List.take_add_one,List.getElem?_eq_getElem hj,List.filter_append]
 show _++List.filter _ [_]=_
 rw[List.filter_cons,List.filter_nil]
 show _++_=if PT F z (prs F)[j]=true then _++[(prs F)[j]] else _
 split
 ·rfl
 ·rw[List.append_nil]
theorem WA (F:List FrP) (z:Rat) (j:Nat):(Jv F z j).length≤F.length*F.length:=by
 have h1:=List.length_filter_le (PT F z) ((prs F).take j)
 have h2:=Px F
 rw[List.length_take] at h1
 unfold Jv
 omega
theorem Qe (W:World) (p:Option Addr) (cap:Nat) (rs:List (List Sd)) (h:DZ W p rs) (z:Rat) (hz:szQ z 20):
  Ad Tryz.prog 18 #[AO p rs.length cap,str (Ac z)] W (fun x:Vec×Nz=> .tuple #[x.1.val x.2.length, .int .i64 0]) (fun x=>x.2.map (·.2)=prW (Ao rs) z∧x.1.OK 1 x.2.length (DR x.2))
   (fun x=>[x.1.bx 35 (DR x.2),prB x.2]):=by
 obtain⟨hne,hT24,hT0⟩:=DL h.c
 obtain⟨hrg,_⟩:=Cr h.c
 have eF:=CR rs
 have eP:=F6 (Ao rs) z
 obtain⟨T,hTe⟩: ∃T,T=tot rs:=⟨_,rfl⟩
 rw[←hTe] at eF hT24 hT0
 rw[eF] at eP
 have hwl: ∀j,(Jv (Ao rs) z j).length≤576:=fun j=>by
  have h1:=WA (Ao rs) z j
  rw[eF] at h1
  have:=Nat.mul_le_mul hT24 hT24
  omega
 refine Ab (args:=[AO p rs.length cap,str (Ac z)]) Tryz.func18 I I I ?_
 refine zA (zB ?_)
 (refine A3 rfl rfl rfl rfl ?_;intro)
 refine wP I (wP I (Aa ?_))
 rename_i b2
 refine zE (zA (zA (zB (wB 0 I I I (wP I (wC I I (fun W1 hp=>GS W1 p cap rs (h.hp hp) z hz) (wP I (Aa (zE (zA (zB (wP I (wP I ?_)))))))))))))
 refine Aa (zE (zS I (zI (zE (zA (zB (wB 0 I I I (wP I ?_))))))))
 refine wD (X:=Vec×Vec) I I (fun W1 hp=>H6 W1 p cap rs (h.hp hp) z (hz.mono (by decide))) ?_
 rintro⟨F,P⟩ ⟨hF,hP⟩
 have hF:F.OK 5 (Ao rs).length (frC (Ao rs)):=hF
 have hP:P.OK 1 (De (Ao rs) z).length (nS (De (Ao rs) z)):=hP
 obtain⟨gF,cF,hFv,hFr⟩:=Vec.frs hF (by omega)
 have hFr: ∀ {W0 W:World} {bxs:List Bx},Hp W0 bxs W→ ∀k,nth bxs k=some (F.bx 48 (frC (Ao rs)))→ ∀m,m<T→An W gF (0+m*5) (frV (fr (Ao rs) m)).cells.toList:=fun hp k hk m hm=>hFr hp k hk m _ (Fj (by omega))
 obtain⟨pP,cP,hPv,hPr⟩:=Vec.num hP
 obtain⟨gP,hpe,hPq⟩:=hPr (by omega)
 subst hpe
 have hPr: ∀ {W0 W:World} {bxs:List Bx},Hp W0 bxs W→ ∀k,nth bxs k=some (P.bx 25 (nS (De (Ao rs) z)))→ ∀m,m<T→An W gP (0+m*1) [str (Ac ((fr (Ao rs) m).at z))]:=fun hp k hk m hm=>TE (F:=Ao rs) (z:=z) (i:=m) (by omega)▸hPq hp k hk m (by omega)
 dsimp only
 rw[hFv,hPv,eF,eP]
 refine wP I (wP I (wP I (wP I ?_)))
 (refine Ah Tryz.hZ rfl rfl rfl rfl ?_;intro)
 (refine Ah Tryz.hZ rfl rfl rfl rfl ?_;intro)
 refine wS 3 I I I (wS 4 I I I (wP I (Aa ?_)))
 rename_i b7 b8
 refine zE (zA (zA (zB (wP I (wP I (Aa (zE (zS I (zI (zE (zA (zB ?_))))))))))))
 (refine Ah Tryz.hZ rfl rfl rfl rfl ?_;intro)
 refine Aa ?_
 rename_i b10
 refine zE (zA (zA (zB ?_)))
 refine E9 ?_
 refine Ux ?_
 refine wB 3 I I I ?_
 refine wD (X:=Nat) I I (fun W1 _=>Lk W1 _) ?_
 intro bp _
 refine Aa (zE (zH ?_))
 refine Ov (X:=Nat×Vec×Nz) (fun x=>[bxE b2 24 (slv p rs.length cap),F.bx 48 (frC (Ao rs)),P.bx 25 (nS (De (Ao rs) z)),bxE b7 63 (.slice (some ⟨gF,0,none⟩) T cF),bxE b8 31 (.slice (some ⟨gP,0,none⟩) T cP),bxE b10 38 (x.2.1.val x.2.2.length),x.2.1.bx 35 (DR x.2.2),prB x.2.2,bxE bp 63 (.slice (some ⟨gF,0,none⟩) T cF)])
  (fun j x=>x.1=j∧x.2.2.map (·.2)=Jv (Ao rs) z x.1∧x.2.1.OK 1 x.2.2.length (DR x.2.2)) (fun _ _=>False) (0,Vec.empty,[]) rfl (by kernel_rfl) (Nv (Ao rs) bp gF cF (by omega)) (fun _=>rfl)
  ⟨rfl,rfl,Vec.OK.empty 1⟩ [] rfl (fun k x W1 _ hp=>⟨by rw[eF];exact An.of_bx hp 8 rfl rfl,fun m hm=>hFr hp 1 rfl m (by omega)⟩) ?_ ?_ (fun _ _ _ _ _ h=>h.elim)
 ·rintro j' ⟨j,V,mk⟩ d l rec L hj ⟨e1,hmk,hV⟩ hrec
  obtain rfl:j=j':=e1
  have hmk:mk.map (·.2)=Jv (Ao rs) z j:=hmk
  have hV:V.OK 1 mk.length (DR mk):=hV
  obtain⟨q,hq⟩: ∃q,q=(prs (Ao rs)).getD j (0,0):=⟨_,rfl⟩
  have hqm:q∈prs (Ao rs):=by rw[hq,List.getD_eq_getElem?_getD,List.getElem?_eq_getElem hj];exact List.getElem_mem hj
  obtain⟨q1,q2,q3⟩:=Pi.1 hqm
  have henc:Y7 (Ao rs) j=[.int .i64 (q.1:Nat), .int .i64 (q.2:Nat)]:=by rw[hq]
  rw[henc]
  have hsu:=Vc (z:=z) hj
  rw[←hq] at hsu
  have hml:mk.length≤576:=by
   have:=congrArg List.length hmk
   rw[List.length_map] at this
   have:=hwl j
   omega
  refine zA (zB (wP I (Aa (zE (zB (wP I (Aa ?_)))))))
  refine CC 11 hrec I ?_
  refine BJ (zA (zU (qB 5 I I I (qP I ?_))))
  refine qJ ?_
  refine qL 0 I I (fun W1 hp=>hPr hp 3 I q.1 (by omega)) I (qB 5 I I I (qP I ?_))
  refine qJ ?_
  refine qL 0 I I (fun W1 hp=>hPr hp 3 I q.2 (by omega)) I (qP I ?_)
  by_cases c1:(fr (Ao rs) q.1).at z=(fr (Ao rs) q.2).at z
  rotate_left
  ·have e:PT (Ao rs) z q=false:=by unfold PT;rw[dF c1];rfl
   rw[e] at hsu
   have hsu:Jv (Ao rs) z (j+1)=Jv (Ao rs) z j:=hsu
   refine qU 41 false I ((AH _ _).trans (dF fun h=>c1 (BV.1 h))) (qP I ?_)
   iterate 10 refine BA I I ?_
   exact qP I (A4 (Aa (zE (zS I (zI (zN (B6 11 (j+1,V,mk) hrec I ⟨I,hmk.trans hsu.symm,hV⟩ [] I)))))))
  refine qU 41 true I ((AH _ _).trans (dT (by rw[c1]))) (qP I (qB 4 I I I (qP I ?_)))
  refine qJ ?_
  refine qL 0 I I (fun W1 hp=>hFr hp 2 I q.1 (by omega)) I (qB 4 I I I (qP I ?_))
  refine qJ ?_
  refine qL 0 I I (fun W1 hp=>hFr hp 2 I q.2 (by omega)) I (qC I I (fun W1 _=>Pe (fr (Ao rs) q.1) (fr (Ao rs) q.2) W1) ?_)
  have e:PT (Ao rs) z q= !HT (fr (Ao rs) q.1) (fr (Ao rs) q.2):=by unfold PT;rw[dT c1];rfl
  refine qP I (qP I (A4 (Aa (zE ?_))))
  refine Af I (fun hc=> ?_) (fun hc=> ?_)
  ·have hc:(!HT (fr (Ao rs) q.1) (fr (Ao rs) q.2))=true:=hc
   rw[e,if_pos hc] at hsu
   refine zB (wB 6 I I I (wP I (wP I ?_)))
   refine As Tryz.hZ tH I I I I I I I I I I I fun bA=> ?_
   refine As Tryz.hZ tH I I I I I I I I I I I fun bB=> ?_
   refine AB (V:=V) (len:=mk.length) (xs:=DR mk) 7 13 Tryz.vec38 (mk.length+1) (DR (mk++[(bA,q)])) I I I I I I I I I I I hV I I I (by rw[Tp];rfl) (by simp only[maxLen];omega) (by omega) I ?_
   intro gV cV jV hV1
   refine wS 6 I I I (Aa (zN ?_))
   refine Ye 8 12 (prB (mk++[(bA,q)])) I I I (VM mk bA q) ?_
   have hl1:(mk++[(bA,q)]).length=mk.length+1:=by rw[List.length_append];rfl
   exact B6 11 (j+1,⟨some gV,cV,jV⟩,mk++[(bA,q)]) hrec I ⟨I,by show(mk++[(bA,q)]).map _=Jv (Ao rs) z (j+1);rw[hsu,List.map_append,hmk];rfl,by show(⟨some gV,cV,jV⟩:Vec).OK 1 (mk++[(bA,q)]).length _;rw[hl1];exact hV1⟩ [DD,_] (by show _=[_,_,_,_,_,_,bxE b10 38 (.slice (some ⟨gV,0,none⟩) (mk++[(bA,q)]).length cV),_,_,_,_,_,_,_];rw[hl1];rfl)
  ·have hc:(!HT (fr (Ao rs) q.1) (fr (Ao rs) q.2))=false:=hc
   rw[e,if_neg (by rw[hc];decide)] at hsu
   exact zI (zN (B6 11 (j+1,V,mk) hrec I ⟨I,hmk.trans hsu.symm,hV⟩ [] I))
 ·rintro⟨j,V,mk⟩ d l rec ⟨e1,hmk,hV⟩
  obtain rfl:j=(prs (Ao rs)).length:=e1
  have hmk:mk.map (·.2)=Jv (Ao rs) z (prs (Ao rs)).length:=hmk
  rw[VK] at hmk
  have hV:V.OK 1 mk.length (DR mk):=hV
  refine zN (zE (zA (zB (wB 5 I I I (wP I (wP I (Aa (zE (zO ?_)))))))))
  refine D2 9 I ?_
  exact AK tH I (.tmp I) (.tmp I) (V,mk) I ⟨hmk,hV⟩ fun W1 hp=>Av.of_hp (hp.pick (l:=[V.bx 35 (DR mk),prB mk]) [6,7] (by decide) I)
-- BOXES 10
-- CODE2
def Sr (f g:FrP) (t:Rat):Bool:=if f.at t=g.at t then decide (f.velA t<g.velA t) else decide (f.at t<g.at t)
theorem WN {f:FrP} (h:f.OK) {t:Rat} (hz:szQ t 36):szQ (f.at t) 120:=by
 unfold FrP.at
 split
 ·exact h.posz.mono (by decide)
 ·exact(h.posz.add (h.velz.mul (hz.sub h.st))).mono (by decide)
theorem QQ {f:FrP} (h:f.OK) (t:Rat):szQ (f.velA t) 37:=by
 unfold FrP.velA
 split
 ·exact⟨by decide,by decide⟩
 ·exact h.velz
theorem NU (f g:FrP) (hf:f.OK) (hg:g.OK) (t:Rat) (hz:szQ t 36) (W:World) (ht:AJ W):
  Ad Tryz.prog 68 #[frV f,frV g,str (Ac t)] W (fun _:Unit=> .bool (Sr f g t)) (fun _=>True) (fun _=>[]):=by
 have z1:=sz2 (WN hf hz) (WN hg hz) (by decide)
 have z2:=sz2 (QQ hf t) (QQ hg t) (by decide)
 refine Ab (args:=[frV f,frV g,str (Ac t)]) Tryz.func68 I I I ?_
 refine zA (zB ?_)
 (refine A3 rfl rfl rfl rfl ?_;intro)
 (refine A3 rfl rfl rfl rfl ?_;intro)
 refine wP I (Aa ?_)
 rename_i b3 b4
 refine zE (zA (zB (wB 0 I I I (wP I (wC I I (fun W1 hp=>H5 f hf t hz W1 (ht.hp hp)) ?_)))))
 iterate 5 refine wP I ?_
 refine Aa (zE (zA (zB (wB 1 I I I (wP I (wC I I (fun W1 hp=>H5 g hg t hz W1 (ht.hp hp)) ?_))))))
 iterate 5 refine wP I ?_
 refine Aa (zE (zA (zB (wP I (wP I (wC I I (fun W1 hp=>DO (f.at t) (g.at t) z1 W1 (ht.hp hp)) (wP I (Aa (zE (zA (zA (zB (wP I (wP I ?_))))))))))))))
 by_cases hc:f.at t=g.at t
 ·have e:Co (f.at t) (g.at t)=0:=by
   rcases Mp (f.at t) (g.at t) with⟨h1,_⟩|⟨_,h2⟩|⟨h1,_⟩
   ·grind
   ·exact h2
   ·grind
  refine wU 28 true I (by rw[e];rfl) (Aa (zE (zR I (zU (qB 0 I I I (qP I (qC I I (fun W1 hp=>H8 f hf t hz W1 (ht.hp hp)) (qB 1 I I I (qP I (qC I I (fun W1 hp=>H8 g hg t hz W1 (ht.hp hp)) (qC I I (fun W1 hp=>DO (f.velA t) (g.velA t) z2 W1 (ht.hp hp)) (qP I (A4 ?_)))))))))))))
  exact Aa (zE (zA (zB (wP I (wP I (wU 37 (Sr f g t) I (by rw[Sr,if_pos hc];exact DA _ _) (wP I (Aa (zE (zO (wR1 I I I)))))))))))
 ·have e:Co (f.at t) (g.at t)≠0:=by
   rcases Mp (f.at t) (g.at t) with⟨_,h2⟩|⟨h1,_⟩|⟨_,h2⟩
   ·rw[h2];decide
   ·exact absurd h1 hc
   ·rw[h2];decide
  refine wU 28 false I (beq_eq_false_iff_ne.2 e) (Aa (zE (zS I (zI (zE (zA (zB (wP I (wP I (wU 37 (Sr f g t) I (by rw[Sr,if_neg hc];exact DA _ _) (wP I (Aa (zE ?_)))))))))))))
  exact zO (wR1 I I I)
-- BOXES 3
-- CODE2
def L0 (c:Nat→Nat→Int) (x:Nat) (s:List Nat):List Nat:=
 let k:=s.length-(s.reverse.takeWhile fun y=>decide (c x y<0)).length
 s.take k++x::s.drop k
def BH (c:Nat→Nat→Int) (l:List Nat):List Nat:=l.foldl (fun s x=>L0 c x s) []
theorem Xr (c:Nat→Nat→Int) (x:Nat) (s:List Nat):(L0 c x s).length=s.length+1:=by
 unfold L0
 simp only[List.length_append,List.length_take,List.length_cons,List.length_drop]
 omega
theorem Wr {c:Nat→Nat→Int} {x y:Nat} {s:List Nat}:y∈L0 c x s↔y=x∨y∈s:=by
 unfold L0
 dsimp only
 obtain⟨k,hk⟩: ∃k,k=s.length-(s.reverse.takeWhile fun y=>decide (c x y<0)).length:=⟨_,rfl⟩
 rw[←hk]
 conv=>rhs;rw[←List.take_append_drop k s]
 simp only[List.mem_append,List.mem_cons]
 constructor
 ·rintro(h|h|h)
  ·exact .inr (.inl h)
  ·exact .inl h
  ·exact .inr (.inr h)
 ·rintro(h|h|h)
  ·exact .inr (.inl h)
  ·exact .inl h
  ·exact .inr (.inr h)
theorem Sl (c:Nat→Nat→Int) (l:List Nat) {i:Nat} (hi:i<l.length):BH c (l.take (i+1))=L0 c l[i] (BH c (l.take i)):=by
 unfold BH
 rw[List.take_add_one,List.getElem?_eq_getElem hi,List.foldl_append];rfl
theorem OC (c:Nat→Nat→Int): ∀(l s:List Nat),(l.foldl (fun s x=>L0 c x s) s).length=s.length+l.length
 |[],s=>by simp
 |x::l,s=>by
  rw[List.foldl_cons,OC c l,Xr,List.length_cons];omega
theorem IC (c:Nat→Nat→Int) (l:List Nat):(BH c l).length=l.length:=by
 have:=OC c l []
 rw[List.length_nil,Nat.zero_add] at this
 exact this
theorem Ow {c:Nat→Nat→Int} {y:Nat}: ∀(l s:List Nat),y∈l.foldl (fun s x=>L0 c x s) s↔y∈s∨y∈l
 |[],s=>by simp
 |x::l,s=>by
  rw[List.foldl_cons,Ow l,Wr,List.mem_cons]
  constructor
  ·rintro((h|h)|h)
   ·exact .inr (.inl h)
   ·exact .inl h
   ·exact .inr (.inr h)
  ·rintro(h|h|h)
   ·exact .inl (.inr h)
   ·exact .inl (.inl h)
   ·exact .inr h
theorem OD {c:Nat→Nat→Int} {y:Nat} {l:List Nat}:y∈BH c l↔y∈l:=by
 unfold BH
 rw[Ow];simp
theorem Ro (c:Nat→Nat→Int) (l:List Nat):BH c (l.take 1)++l.drop 1=l:=by
 cases l with
 |nil=>rfl
 |cons x l=>rfl
theorem OV {c:Nat→Nat→Int} {x:Nat} {s:List Nat} {j:Nat} (hj:j≤s.length) (h2: ∀y∈s.drop j,c x y<0) (h1: ∀(h:0<j), ¬c x s[j-1]<0):L0 c x s=s.take j++x::s.drop j:=by
 have e:(s.reverse.takeWhile fun y=>decide (c x y<0))=(s.drop j).reverse:=by
  have er:s.reverse=(s.drop j).reverse++(s.take j).reverse:=by rw[←List.reverse_append,List.take_append_drop]
  have et:(s.take j).reverse.takeWhile (fun y=>decide (c x y<0))=[]:=by
   cases j with
   |zero=>simp
   |succ m=>
    rw[List.take_add_one,List.getElem?_eq_getElem (by omega),Option.toList_some,List.reverse_append,List.reverse_singleton]
    show List.takeWhile _ (s[m]::_)=[]
    rw[List.takeWhile_cons,if_neg]
    have h3:=h1 (Nat.succ_pos _)
    simpa using h3
  rw[er,List.takeWhile_append_of_pos (fun y hy=>dT (h2 y (List.mem_reverse.1 hy))),et,List.append_nil]
 unfold L0
 dsimp only
 rw[e,List.length_reverse,List.length_drop,show s.length-(s.length-j)=j by omega]
abbrev Ez (g:Nat) (l:List Nat) (junk:List Value):Bx:=⟨g,3,iC l++junk,true,none⟩
theorem Tf (cf:Nat) (capt:List Value) (hE:Bc Tryz.prog cf=true) (c:Nat→Nat→Int) (W:World) (g cap:Nat) (l:List Nat) (junk:List Value) (hn:l.length<4611686018427387904) (hg:W.heap[g]? =some (.cells (iC l++junk).toArray 3 (0,0)))
  (hf: ∀W',Ib W W' g→ ∀p∈l, ∀q∈l,Ad Tryz.prog cf ([Value.int .i64 (p:Nat),Value.int .i64 (q:Nat)]++capt).toArray W' (fun _:Unit=> .int .i64 (c p q)) (fun _=>True) (fun _=>[])):
  Calls Tryz.prog 185 #[.slice (some ⟨g,0,none⟩) l.length cap, .int .i64 0, .int .i64 (l.length:Nat),fnM cf capt] W fun e W'=> ∃x:Unit,e= .returned ((fun _=> .tuple #[]) x)∧True∧IJ W W' g ((fun _=>g) x) ((fun _=> .cells (iC (BH c l)++junk).toArray 3 (0,0)) x):=by
 have key:Calls Tryz.prog 185 [.slice (some ⟨g,0,none⟩) l.length cap, .int .i64 0, .int .i64 (l.length:Nat),fnM cf capt].toArray W fun e W'=> ∃x:Unit,e= .returned ((fun _=> .tuple #[]) x)∧(fun _=>True) x∧Below (AX W).heap.size (AX W) W'∧Av (AX W) W' ((fun _=>[AS (Ay W g),Ez g (BH c l) junk]) x):=by
  refine BQ (X:=Unit) (val:=fun _=> .tuple #[]) (Φ:=fun _=>True) (nb:=fun _=>[AS (Ay W g),Ez g (BH c l) junk]) (Hp.enterT (B:=Ez g l junk) I hg) Tryz.func185 I I I ?_
  refine zA (zB (wP I (wP I (wP I (Aa (zE (zH ?_)))))))
  refine Ar (X:=Nat) (fun i=>[(0, .slice (some ⟨g,0,none⟩) l.length cap),(1, .int .i64 0),(2, .int .i64 (l.length:Nat)),(3,fnM cf capt),(8, .int .i64 (i:Nat))]) (fun i=>[AS (Ay W g),Ez g (BH c (l.take i)++l.drop i) junk])
   (fun i=>1≤i∧(i≤l.length∨i=1)) (fun i=>l.length+1-i) 1 ⟨Nat.le_refl _, .inr rfl⟩ ⟨rfl,rfl,rfl,rfl,rfl,trivial⟩ [] (by rw[Ro];rfl) ?_
  rintro i ⟨hi1,hi2⟩
  refine zA (zA (zB (wP I (wP I (wP I ?_)))))
  by_cases hlt:i<l.length
  rotate_left
  ·refine wU 14 false I (dF (by omega)) (Aa (zE (zS I (zJ (zK (zK (zL ?_)))))))
   have e:BH c (l.take i)++l.drop i=BH c l:=by rw[List.take_of_length_le (by omega),List.drop_of_length_le (by omega),List.append_nil]
   refine Gh (X:=Unit) (val:=fun _=> .tuple #[]) (Φ:=fun _=>True) (nb:=fun _=>[AS (Ay W g),Ez g (BH c l) junk]) (fn:=Tryz.f185) tH I () I O fun W1 hp=> ?_
   rw[e] at hp
   exact(hp.pick (l:=[AS (Ay W g),Ez g (BH c l) junk]) [0,1] (by decide) I).own
  refine wU 14 true I (dT (by omega)) (Aa (zE (zR I (zI (zE (zA (zH (zA (zB (wP I (wP I (Aa (zE ?_)))))))))))))
  refine zH ?_
  obtain⟨s,hs⟩: ∃s,s=BH c (l.take i):=⟨_,rfl⟩
  obtain⟨x,hx⟩: ∃x,x=l[i]:=⟨_,rfl⟩
  obtain⟨rr,hr⟩: ∃rr,rr=l.drop (i+1):=⟨_,rfl⟩
  have hsl:s.length=i:=by rw[hs,IC,List.length_take];omega
  have hdrop:l.drop i=x::rr:=by rw[hx,hr];exact List.drop_eq_getElem_cons hlt
  have hrl:rr.length=l.length-(i+1):=by rw[hr,List.length_drop]
  have hxl:x∈l:=hx▸List.getElem_mem hlt
  have hsm: ∀y∈s,y∈l:=fun y hy=>by rw[hs] at hy;exact List.mem_of_mem_take (OD.1 hy)
  have hnext: ∀j,j≤s.length→(∀y∈s.drop j,c x y<0)→(∀(h:0<j), ¬c x s[j-1]! <0)→s.take j++x::s.drop j++rr=BH c (l.take (i+1))++l.drop (i+1):=fun j h1 h2 h3=>by
   rw[Sl c l hlt, ←hs, ←hx, ←hr,OV h1 h2 fun h=>by have:=h3 h;rwa [getElem!_pos s (j-1) (by omega)] at this]
  refine Ar (X:=Nat) (fun j=>[(0, .slice (some ⟨g,0,none⟩) l.length cap),(1, .int .i64 0),(2, .int .i64 (l.length:Nat)),(3,fnM cf capt),(8, .int .i64 (i:Nat)),(9, .int .i64 (j:Nat))]) (fun j=>[AS (Ay W g),Ez g (s.take j++x::s.drop j++rr) junk])
   (fun j=>j≤s.length∧ ∀y∈s.drop j,c x y<0) (fun j=>j) i ⟨by omega,by rw[←hsl,List.drop_length];exact fun y hy=>absurd hy List.not_mem_nil⟩ ⟨rfl,rfl,rfl,rfl,rfl,rfl,trivial⟩ [] (by rw[←hs,hdrop, ←hsl,List.take_length,List.drop_length,List.append_assoc];rfl) ?_
  rintro j ⟨hj,hgt⟩
  have hj:j≤s.length:=hj
  have hgt: ∀y∈s.drop j,c x y<0:=hgt
  refine zA (zA (zU (qP I (qP I (qP I ?_)))))
  cases j with
  |zero=>
   refine GT 20 (.bool false) I I ?_
   refine qP I ?_
   iterate 12 refine BA I I ?_
   refine qP I (A4 (Aa (zE (zS I (zJ (zK (zK (zL (zN (zE (zB (wP I (wP I ?_)))))))))))))
   refine wV 16 ((i+1:Nat):Int) I (At (by omega)) (wP I (Aa ?_))
   refine Al (i+1) ⟨by show 1≤i+1;omega, .inl hlt⟩ (by show l.length+1-(i+1)<l.length+1-i;omega) ⟨I,I,I,I,I,O⟩ [] ?_
   rw[hnext 0 hj hgt fun h=>absurd h (by decide)];rfl
  |succ m=>
   have hm:m<s.length:=hj
   obtain⟨y,hy⟩: ∃y,y=s[m]:=⟨_,rfl⟩
   have hyl:y∈l:=hsm y (hy▸List.getElem_mem hm)
   have e1:s.take (m+1)=s.take m++[y]:=by rw[List.take_add_one,List.getElem?_eq_getElem hm,hy];rfl
   have e2:s.drop m=y::s.drop (m+1):=by rw[hy];exact List.drop_eq_getElem_cons hm
   have e3:s[m+1-1]! =y:=by rw[Nat.add_sub_cancel,getElem!_pos s m hm,hy]
   have hA:(iC (s.take m)).length=m:=by rw[List.length_map,List.length_take];omega
   obtain⟨C,hC⟩: ∃C,C=iC (s.drop (m+1)++rr)++junk:=⟨_,rfl⟩
   have row1:iC (s.take (m+1)++x::s.drop (m+1)++rr)++junk=iC (s.take m)++([Value.int .i64 (y:Nat),Value.int .i64 (x:Nat)]++C):=by rw[e1,hC];simp[iC]
   have row2:iC (s.take m++x::s.drop m++rr)++junk=iC (s.take m)++([Value.int .i64 (x:Nat),Value.int .i64 (y:Nat)]++C):=by rw[e2,hC];simp[iC]
   refine qU 20 true I (dT (by omega)) (qP I (qP I (qP I (qP I ?_))))
   refine qJ ?_
   refine qL 0 I I (fun W1 hp=>show An W1 g (0+(m+1)*1) [Value.int .i64 (x:Nat)] from CO hp 1 (A:=iC (s.take m)++[Value.int .i64 (y:Nat)]) (C:=C) I (by rw[row1];simp) (by rw[List.length_append,hA];simp)) I (qP I (qP I (qP I (qV 29 (m:Nat) I (show w64 (((m+1:Nat):Int)-1)=_ by rw[Ai (by omega) (by omega)];omega) ?_))))
   refine qJ ?_
   refine qL 0 I I (fun W1 hp=>show An W1 g (0+m*1) [Value.int .i64 (y:Nat)] from CO hp 1 (A:=iC (s.take m)) (C:=[Value.int .i64 (x:Nat)]++C) I (by rw[row1];simp) (by rw[hA];simp)) I ?_
   refine Ie (capt:=capt) I I I I I I hE (fun W1 hp=>hf W1 (Hw hg ⟨_,List.mem_cons_self ..⟩ hp) x hxl y hyl) ?_
   refine qP I ?_
   refine GT 33 (.bool (decide (c x y<0))) I I ?_
   refine qP I (A4 (Aa (zE ?_)))
   refine Af I (fun h=> ?_) (fun h=> ?_)
   rotate_left
   ·have hc: ¬c x y<0:=of_decide_eq_false h
    refine zJ (zK (zK (zL (zN (zE (zB (wP I (wP I (wV 16 ((i+1:Nat):Int) I (At (by omega)) (wP I (Aa ?_)))))))))))
    refine Al (i+1) ⟨by show 1≤i+1;omega, .inl hlt⟩ (by show l.length+1-(i+1)<l.length+1-i;omega) ⟨I,I,I,I,I,O⟩ [] ?_
    rw[hnext (m+1) hj hgt fun _=>by rw[e3];exact hc];rfl
   have hc:c x y<0:=of_decide_eq_true h
   clear h
   refine OE (bxs':=[AS (Ay W g),⟨g,3,iC (s.take m)++([Value.int .i64 (y:Nat),Value.int .i64 (x:Nat)]++C),true,none⟩]) (by rw[←row1]) ?_
   refine zI (zE (Au (BJ ?_)))
   repeat refine Au ?_
   refine By (X:=Unit) [true,true,false,false,false,true,true,true,true,true,true,true,true,true,true,false,false,false] (fun _=>[(0, .slice (some ⟨g,0,none⟩) l.length cap),(1, .int .i64 0),(2, .int .i64 (l.length:Nat)),(3,fnM cf capt),(8, .int .i64 (i:Nat)),(9, .int .i64 ((m+1:Nat):Int))]) (fun _=>[AS (Ay W g),⟨g,3,iC (s.take m)++([Value.int .i64 (x:Nat),Value.int .i64 (y:Nat)]++C),true,none⟩])
    6 [AS (Ay W g),⟨g,3,iC (s.take m)++([Value.int .i64 (y:Nat),Value.int .i64 (x:Nat)]++C),true,none⟩] Tryz.mixed (by kernel_rfl) ?_ ?_
   ·refine qP I (qP I (qP I (qP I (qP I (qV 44 (m:Nat) I (show w64 (((m+1:Nat):Int)-1)=_ by rw[Ai (by omega) (by omega)];omega) ?_)))))
    refine qJ ?_
    refine qL 0 I I (fun W1 hp=>show An W1 g (0+m*1) [Value.int .i64 (y:Nat)] from CO hp 1 (A:=iC (s.take m)) (C:=[Value.int .i64 (x:Nat)]++C) I (by simp) (by rw[hA];simp)) I (qP I (qP I ?_))
    refine qJ ?_
    refine qL 0 I I (fun W1 hp=>show An W1 g (0+(m+1)*1) [Value.int .i64 (x:Nat)] from CO hp 1 (A:=iC (s.take m)++[Value.int .i64 (y:Nat)]) (C:=C) I (by simp) (by rw[List.length_append,hA];simp)) I ?_
    refine qJ ?_
    refine CH ?_
    have h1:Bu (iC (s.take m)++([Value.int .i64 (y:Nat),Value.int .i64 (x:Nat)]++C)) (0+(m+1)*1) (Value.int .i64 (y:Nat)).cells.toList=iC (s.take m)++([Value.int .i64 (y:Nat),Value.int .i64 (y:Nat)]++C):=by
     rw[show 0+(m+1)*1=(iC (s.take m)).length+1 by rw[hA];omega,Dt];rfl
    have h2:Bu (iC (s.take m)++([Value.int .i64 (y:Nat),Value.int .i64 (y:Nat)]++C)) (0+m*1) (Value.int .i64 (x:Nat)).cells.toList=iC (s.take m)++([Value.int .i64 (x:Nat),Value.int .i64 (y:Nat)]++C):=by
     rw[show 0+m*1=(iC (s.take m)).length+0 by rw[hA];omega,Dt];rfl
    refine wX ?_
    refine RS.cons ?_ (RS.cons ?_ (RS.cons ?_ (RS.nil)))
    ·refine wP I (Aa (Ag (wX ?_)))
     refine RS.cons ?_ (RS.cons ?_ (RS.nil))
     ·refine wP I (Aa (Ag (wX ?_)))
      refine RS.cons ?_ (RS.cons ?_ (RS.nil))
      ·refine wP I (Aa (Ag (wX (wZ ?_))))
       refine Aw 1 _ tH I I I I I I I I I I (by show 0+(m+1)*1+1≤(iC (s.take m)++([Value.int .i64 (y:Nat),Value.int .i64 (x:Nat)]++C)).length;rw[List.length_append,hA];simp<;>omega) h1 ?_
       refine Aa (Ag (wY (wZ ?_)))
       refine wV 41 (m:Nat) I (show w64 (((m+1:Nat):Int)-1)=_ by rw[Ai (by omega) (by omega)];omega) ?_;(first|refine wJ ?_|refine qJ ?_)
       refine Aa (Ag (wY (wZ ?_)))
       refine Aw 1 _ tH I I I I I I I I I I (by show 0+m*1+1≤(iC (s.take m)++([Value.int .i64 (y:Nat),Value.int .i64 (y:Nat)]++C)).length;rw[List.length_append,hA];simp<;>omega) h2 ?_
       refine Aa (Ag ?_)
       refine AD I (by kernel_rfl) ?_
       exact A6 () ⟨I,I,I,I,I,I,O⟩ [0,1] (by decide) I
      ·refine Aw 1 _ tH I I I I I I I I I I (by show 0+(m+1)*1+1≤(iC (s.take m)++([Value.int .i64 (y:Nat),Value.int .i64 (x:Nat)]++C)).length;rw[List.length_append,hA];simp<;>omega) h1 ?_
       refine Aa (Ag (wY (wZ (wP I (Aa (Ag (wY (wZ ?_))))))))
       refine wV 41 (m:Nat) I (show w64 (((m+1:Nat):Int)-1)=_ by rw[Ai (by omega) (by omega)];omega) ?_;(first|refine wJ ?_|refine qJ ?_)
       refine Aa (Ag (wY (wZ ?_)))
       refine Aw 1 _ tH I I I I I I I I I I (by show 0+m*1+1≤(iC (s.take m)++([Value.int .i64 (y:Nat),Value.int .i64 (y:Nat)]++C)).length;rw[List.length_append,hA];simp<;>omega) h2 ?_
       refine Aa (Ag ?_)
       refine AD I (by kernel_rfl) ?_
       exact A6 () ⟨I,I,I,I,I,I,O⟩ [0,1] (by decide) I
     ·refine Aw 1 _ tH I I I I I I I I I I (by show 0+(m+1)*1+1≤(iC (s.take m)++([Value.int .i64 (y:Nat),Value.int .i64 (x:Nat)]++C)).length;rw[List.length_append,hA];simp<;>omega) h1 ?_
      refine Aa (Ag (wY (wZ (wP I (Aa (Ag (wY (wZ (wP I (Aa (Ag (wY (wZ ?_)))))))))))))
      refine wV 41 (m:Nat) I (show w64 (((m+1:Nat):Int)-1)=_ by rw[Ai (by omega) (by omega)];omega) ?_;(first|refine wJ ?_|refine qJ ?_)
      refine Aa (Ag (wY (wZ ?_)))
      refine Aw 1 _ tH I I I I I I I I I I (by show 0+m*1+1≤(iC (s.take m)++([Value.int .i64 (y:Nat),Value.int .i64 (y:Nat)]++C)).length;rw[List.length_append,hA];simp<;>omega) h2 ?_
      refine Aa (Ag ?_)
      refine AD I (by kernel_rfl) ?_
      exact A6 () ⟨I,I,I,I,I,I,O⟩ [0,1] (by decide) I
    ·refine wP I (Aa (Ag (wX ?_)))
     refine RS.cons ?_ (RS.cons ?_ (RS.cons ?_ (RS.nil)))
     ·refine wP I (Aa (Ag (wX ?_)))
      refine RS.cons ?_ (RS.cons ?_ (RS.nil))
      ·refine wP I (Aa (Ag (wX (wZ ?_))))
       refine Aw 1 _ tH I I I I I I I I I I (by show 0+(m+1)*1+1≤(iC (s.take m)++([Value.int .i64 (y:Nat),Value.int .i64 (x:Nat)]++C)).length;rw[List.length_append,hA];simp<;>omega) h1 ?_
       refine Aa (Ag (wY (wZ ?_)))
       refine wV 41 (m:Nat) I (show w64 (((m+1:Nat):Int)-1)=_ by rw[Ai (by omega) (by omega)];omega) ?_;(first|refine wJ ?_|refine qJ ?_)
       refine Aa (Ag (wY (wZ ?_)))
       refine Aw 1 _ tH I I I I I I I I I I (by show 0+m*1+1≤(iC (s.take m)++([Value.int .i64 (y:Nat),Value.int .i64 (y:Nat)]++C)).length;rw[List.length_append,hA];simp<;>omega) h2 ?_
       refine Aa (Ag ?_)
       refine AD I (by kernel_rfl) ?_
       exact A6 () ⟨I,I,I,I,I,I,O⟩ [0,1] (by decide) I
      ·refine Aw 1 _ tH I I I I I I I I I I (by show 0+(m+1)*1+1≤(iC (s.take m)++([Value.int .i64 (y:Nat),Value.int .i64 (x:Nat)]++C)).length;rw[List.length_append,hA];simp<;>omega) h1 ?_
       refine Aa (Ag (wY (wZ (wP I (Aa (Ag (wY (wZ ?_))))))))
       refine wV 41 (m:Nat) I (show w64 (((m+1:Nat):Int)-1)=_ by rw[Ai (by omega) (by omega)];omega) ?_;(first|refine wJ ?_|refine qJ ?_)
       refine Aa (Ag (wY (wZ ?_)))
       refine Aw 1 _ tH I I I I I I I I I I (by show 0+m*1+1≤(iC (s.take m)++([Value.int .i64 (y:Nat),Value.int .i64 (y:Nat)]++C)).length;rw[List.length_append,hA];simp<;>omega) h2 ?_
       refine Aa (Ag ?_)
       refine AD I (by kernel_rfl) ?_
       exact A6 () ⟨I,I,I,I,I,I,O⟩ [0,1] (by decide) I
     ·refine wP I (Aa (Ag (wX ?_)))
      refine RS.cons ?_ (RS.cons ?_ (RS.nil))
      ·refine wP I (Aa (Ag (wX (wZ ?_))))
       refine Aw 1 _ tH I I I I I I I I I I (by show 0+(m+1)*1+1≤(iC (s.take m)++([Value.int .i64 (y:Nat),Value.int .i64 (x:Nat)]++C)).length;rw[List.length_append,hA];simp<;>omega) h1 ?_
       refine Aa (Ag (wY (wZ ?_)))
       refine wV 41 (m:Nat) I (show w64 (((m+1:Nat):Int)-1)=_ by rw[Ai (by omega) (by omega)];omega) ?_;(first|refine wJ ?_|refine qJ ?_)
       refine Aa (Ag (wY (wZ ?_)))
       refine Aw 1 _ tH I I I I I I I I I I (by show 0+m*1+1≤(iC (s.take m)++([Value.int .i64 (y:Nat),Value.int .i64 (y:Nat)]++C)).length;rw[List.length_append,hA];simp<;>omega) h2 ?_
       refine Aa (Ag ?_)
       refine AD I (by kernel_rfl) ?_
       exact A6 () ⟨I,I,I,I,I,I,O⟩ [0,1] (by decide) I
      ·refine Aw 1 _ tH I I I I I I I I I I (by show 0+(m+1)*1+1≤(iC (s.take m)++([Value.int .i64 (y:Nat),Value.int .i64 (x:Nat)]++C)).length;rw[List.length_append,hA];simp<;>omega) h1 ?_
       refine Aa (Ag (wY (wZ (wP I (Aa (Ag (wY (wZ ?_))))))))
       refine wV 41 (m:Nat) I (show w64 (((m+1:Nat):Int)-1)=_ by rw[Ai (by omega) (by omega)];omega) ?_;(first|refine wJ ?_|refine qJ ?_)
       refine Aa (Ag (wY (wZ ?_)))
       refine Aw 1 _ tH I I I I I I I I I I (by show 0+m*1+1≤(iC (s.take m)++([Value.int .i64 (y:Nat),Value.int .i64 (y:Nat)]++C)).length;rw[List.length_append,hA];simp<;>omega) h2 ?_
       refine Aa (Ag ?_)
       refine AD I (by kernel_rfl) ?_
       exact A6 () ⟨I,I,I,I,I,I,O⟩ [0,1] (by decide) I
     ·refine Aw 1 _ tH I I I I I I I I I I (by show 0+(m+1)*1+1≤(iC (s.take m)++([Value.int .i64 (y:Nat),Value.int .i64 (x:Nat)]++C)).length;rw[List.length_append,hA];simp<;>omega) h1 ?_
      refine Aa (Ag (wY ?_))
      refine RS.cons ?_ (RS.cons ?_ (RS.nil))
      ·refine wP I (Aa (Ag (wY (wZ (wP I (Aa (Ag (wY (wZ ?_)))))))))
       refine wV 41 (m:Nat) I (show w64 (((m+1:Nat):Int)-1)=_ by rw[Ai (by omega) (by omega)];omega) ?_;(first|refine wJ ?_|refine qJ ?_)
       refine Aa (Ag (wY (wZ ?_)))
       refine Aw 1 _ tH I I I I I I I I I I (by show 0+m*1+1≤(iC (s.take m)++([Value.int .i64 (y:Nat),Value.int .i64 (y:Nat)]++C)).length;rw[List.length_append,hA];simp<;>omega) h2 ?_
       refine Aa (Ag ?_)
       refine AD I (by kernel_rfl) ?_
       exact A6 () ⟨I,I,I,I,I,I,O⟩ [0,1] (by decide) I
      ·refine wP I (Aa (Ag (wY (wZ (wP I (Aa (Ag (wY (wZ ?_)))))))))
       refine wV 41 (m:Nat) I (show w64 (((m+1:Nat):Int)-1)=_ by rw[Ai (by omega) (by omega)];omega) ?_;(first|refine wJ ?_|refine qJ ?_)
       refine Aa (Ag (wY (wZ ?_)))
       refine Aw 1 _ tH I I I I I I I I I I (by show 0+m*1+1≤(iC (s.take m)++([Value.int .i64 (y:Nat),Value.int .i64 (y:Nat)]++C)).length;rw[List.length_append,hA];simp<;>omega) h2 ?_
       refine Aa (Ag ?_)
       refine AD I (by kernel_rfl) ?_
       exact A6 () ⟨I,I,I,I,I,I,O⟩ [0,1] (by decide) I
    ·refine Aw 1 _ tH I I I I I I I I I I (by show 0+(m+1)*1+1≤(iC (s.take m)++([Value.int .i64 (y:Nat),Value.int .i64 (x:Nat)]++C)).length;rw[List.length_append,hA];simp<;>omega) h1 ?_
     refine Aa (Ag (wY ?_))
     refine RS.cons ?_ (RS.cons ?_ (RS.nil))
     ·refine wP I (Aa (Ag (wY (wZ (wP I (Aa (Ag (wY (wZ (wP I (Aa (Ag (wY ?_)))))))))))))
      refine wZ ?_
      refine wV 41 (m:Nat) I (show w64 (((m+1:Nat):Int)-1)=_ by rw[Ai (by omega) (by omega)];omega) ?_;(first|refine wJ ?_|refine qJ ?_)
      refine Aa (Ag (wY (wZ ?_)))
      refine Aw 1 _ tH I I I I I I I I I I (by show 0+m*1+1≤(iC (s.take m)++([Value.int .i64 (y:Nat),Value.int .i64 (y:Nat)]++C)).length;rw[List.length_append,hA];simp<;>omega) h2 ?_
      refine Aa (Ag ?_)
      refine AD I (by kernel_rfl) ?_
      exact A6 () ⟨I,I,I,I,I,I,O⟩ [0,1] (by decide) I
     ·refine wP I (Aa (Ag (wY ?_)))
      refine RS.cons ?_ (RS.cons ?_ (RS.nil))
      ·refine wP I (Aa (Ag (wY (wZ (wP I (Aa (Ag (wY (wZ ?_)))))))))
       refine wV 41 (m:Nat) I (show w64 (((m+1:Nat):Int)-1)=_ by rw[Ai (by omega) (by omega)];omega) ?_;(first|refine wJ ?_|refine qJ ?_)
       refine Aa (Ag (wY (wZ ?_)))
       refine Aw 1 _ tH I I I I I I I I I I (by show 0+m*1+1≤(iC (s.take m)++([Value.int .i64 (y:Nat),Value.int .i64 (y:Nat)]++C)).length;rw[List.length_append,hA];simp<;>omega) h2 ?_
       refine Aa (Ag ?_)
       refine AD I (by kernel_rfl) ?_
       exact A6 () ⟨I,I,I,I,I,I,O⟩ [0,1] (by decide) I
      ·refine wP I (Aa (Ag (wY (wZ (wP I (Aa (Ag (wY (wZ ?_)))))))))
       refine wV 41 (m:Nat) I (show w64 (((m+1:Nat):Int)-1)=_ by rw[Ai (by omega) (by omega)];omega) ?_;(first|refine wJ ?_|refine qJ ?_)
       refine Aa (Ag (wY (wZ ?_)))
       refine Aw 1 _ tH I I I I I I I I I I (by show 0+m*1+1≤(iC (s.take m)++([Value.int .i64 (y:Nat),Value.int .i64 (y:Nat)]++C)).length;rw[List.length_append,hA];simp<;>omega) h2 ?_
       refine Aa (Ag ?_)
       refine AD I (by kernel_rfl) ?_
       exact A6 () ⟨I,I,I,I,I,I,O⟩ [0,1] (by decide) I
   intro _
   refine zN (zE (zB (wP I (wP I (wV 36 (m:Nat) I (show w64 (((m+1:Nat):Int)-1)=_ by rw[Ai (by omega) (by omega)];omega) (wP I (Aa ?_)))))))
   refine Al m ⟨by show m≤s.length;omega,fun z hz=> ?_⟩ (by show m<m+1;omega) ⟨I,I,I,I,I,I,O⟩ [] (by rw[←row2];rfl)
   rw[e2] at hz
   rcases List.mem_cons.1 hz with rfl|hz
   ·exact hc
   ·exact hgt z hz
 refine key.mono ?_
 rintro e W' ⟨x,he,_,hb,hn'⟩
 exact⟨x,he,O,EP hg I hb hn'⟩
theorem SS (cf:Nat) (capt:List Value) (hE:Bc Tryz.prog cf=true) (c:Nat→Nat→Int) (W:World) (g cap:Nat) (l:List Nat) (junk:List Value) (z:Int) (hn:l.length≤12) (hg:W.heap[g]? =some (.cells (iC l++junk).toArray 3 (0,0)))
  (hf: ∀W',Ib W W' g→ ∀p∈l, ∀q∈l,Ad Tryz.prog cf ([Value.int .i64 (p:Nat),Value.int .i64 (q:Nat)]++capt).toArray W' (fun _:Unit=> .int .i64 (c p q)) (fun _=>True) (fun _=>[])):
  Calls Tryz.prog 123 #[.slice (some ⟨g,0,none⟩) l.length cap, .int .i64 0, .int .i64 (l.length:Nat), .int .i64 z,fnM cf capt] W fun e W'=> ∃x:Unit,e= .returned ((fun _=> .tuple #[]) x)∧True∧IJ W W' g ((fun _=>g) x) ((fun _=> .cells (iC (BH c l)++junk).toArray 3 (0,0)) x):=by
 have key:Calls Tryz.prog 123 [.slice (some ⟨g,0,none⟩) l.length cap, .int .i64 0, .int .i64 (l.length:Nat), .int .i64 z,fnM cf capt].toArray W fun e W'=> ∃x:Unit,e= .returned ((fun _=> .tuple #[]) x)∧(fun _=>True) x∧Below (AX W).heap.size (AX W) W'∧Av (AX W) W' ((fun _=>[AS (Ay W g),Ez g (BH c l) junk]) x):=by
  refine BQ (X:=Unit) (val:=fun _=> .tuple #[]) (Φ:=fun _=>True) (nb:=fun _=>[AS (Ay W g),Ez g (BH c l) junk]) (Hp.enterT (B:=Ez g l junk) I hg) Tryz.func123 I I I ?_
  refine zA (zB (wP I (Aa (zE (zA (zB (wP I (Aa (zE (zH ?_))))))))))
  refine Ar (X:=Unit) (fun _=>[(0, .slice (some ⟨g,0,none⟩) l.length cap),(1, .int .i64 0),(2, .int .i64 (l.length:Nat)),(3, .int .i64 z),(4,fnM cf capt)]) (fun _=>[AS (Ay W g),Ez g l junk]) (fun _=>True) (fun _=>0) () O ⟨I,I,I,I,I,O⟩ [] I ?_
  intro _ _
  refine zH (zA (zB (wP I (wP I (wP I (wV 23 (l.length:Nat) I (show w64 ((l.length:Nat)-0)=_ by rw[Ai (by omega) (by omega)];omega) (wP I (Aa (zE (zA (zA (zB (wP I (wP I ?_))))))))))))))
  refine wU 25 true I (dT (by omega)) (Aa (zE (zR I (zA (zB (wP I (wP I (wP I (wP I ?_)))))))))
  refine CQ (X:=Unit) (val:=fun _=> .tuple #[]) (Φ:=fun _=>True) (capt:=[]) 1 (B:=Ez g l junk) (L1:=[]) (L2:=[]) (b:=g) (ob:= .cells (iC l++junk).toArray 3 (0,0)) (fun _=>Ez g (BH c l) junk) (g':=fun _=>g) (o':=fun _=> .cells (iC (BH c l)++junk).toArray 3 (0,0))
   rfl rfl rfl rfl rfl rfl (by kernel_rfl) rfl rfl (fun _ _=>rfl) (fun W1 hp=>Tf cf capt hE c W1 g cap l junk (by omega) (hp.own.cell 1 _ rfl (g, .cells (iC l++junk).toArray 3 (0,0)) (List.mem_cons_self ..)).1 (fun W2 hk=>hf W2 ((Hw hg ⟨_,List.mem_cons_self ..⟩ hp).trans hk))) (fun _ _=> ?_)
  refine Aa (zE (zO (zP (zQ (zP (zQ ?_))))))
  refine LA (X:=Unit) (val:=fun _=> .tuple #[]) (Φ:=fun _=>True) (nb:=fun _=>[AS (Ay W g),Ez g (BH c l) junk]) (fn:=Tryz.f123) tH I () I O fun W1 hp=> ?_
  exact(hp.pick (l:=[AS (Ay W g),Ez g (BH c l) junk]) [0,1] (by decide) I).own
 refine key.mono ?_
 rintro e W' ⟨x,he,_,hb,hn'⟩
 exact⟨x,he,O,EP hg I hb hn'⟩
theorem RZ (cf:Nat) (capt:List Value) (W:World) (p:Option Addr) (cap:Nat):Ad Tryz.prog 185 #[.slice p 0 cap, .int .i64 0, .int .i64 ((0:Nat):Int),fnM cf capt] W (fun _:Unit=> .tuple #[]) (fun _=>True) (fun _=>[]):=by
 refine Ab (args:=[.slice p 0 cap, .int .i64 0, .int .i64 ((0:Nat):Int),fnM cf capt]) Tryz.func185 I I I ?_
 refine zA (zB (wP I (wP I (wP I (Aa (zE (zH ?_)))))))
 refine Ar (X:=Unit) (fun _=>[(0, .slice p 0 cap),(1, .int .i64 0),(2, .int .i64 ((0:Nat):Int)),(3,fnM cf capt),(8, .int .i64 1)]) (fun _=>[]) (fun _=>True) (fun _=>0) () O ⟨I,I,I,I,I,O⟩ [] I ?_
 intro _ _
 refine zA (zA (zB (wP I (wP I (wP I ?_)))))
 refine Ak 14 (.bool false) I I ?_
 exact Aa (zE (zS I (zJ (zK (zK (zL (Gh (X:=Unit) (val:=fun _=> .tuple #[]) (Φ:=fun _=>True) (nb:=fun _=>[]) (fn:=Tryz.f185) tH I () I O fun W _=>Av.nil _ _)))))))
theorem Rw (cf:Nat) (capt:List Value) (W:World) (p:Option Addr) (cap:Nat) (z:Int):Ad Tryz.prog 123 #[.slice p 0 cap, .int .i64 0, .int .i64 ((0:Nat):Int), .int .i64 z,fnM cf capt] W (fun _:Unit=> .tuple #[]) (fun _=>True) (fun _=>[]):=by
 refine Ab (args:=[.slice p 0 cap, .int .i64 0, .int .i64 ((0:Nat):Int), .int .i64 z,fnM cf capt]) Tryz.func123 I I I ?_
 refine zA (zB (wP I (Aa (zE (zA (zB (wP I (Aa (zE (zH ?_))))))))))
 refine Ar (X:=Unit) (fun _=>[(0, .slice p 0 cap),(1, .int .i64 0),(2, .int .i64 ((0:Nat):Int)),(3, .int .i64 z),(4,fnM cf capt)]) (fun _=>[]) (fun _=>True) (fun _=>0) () O ⟨I,I,I,I,I,O⟩ [] I ?_
 intro _ _
 refine zH (zA (zB (wP I (wP I (wP I ?_)))))
 refine Ak 23 (.int .i64 ((0:Nat):Int)) I I ?_
 refine wP I (Aa (zE (zA (zA (zB (wP I (wP I ?_)))))))
 refine Ak 25 (.bool true) I I ?_
 refine Aa (zE (zR I (zA (zB (wP I (wP I (wP I (wP I ?_))))))))
 refine AT (capt:=[]) I I I I I I (by kernel_rfl) (fun W _=>RZ cf capt W p cap) ?_
 exact Aa (zE (zO (zP (zQ (zP (zQ (LA (X:=Unit) (val:=fun _=> .tuple #[]) (Φ:=fun _=>True) (nb:=fun _=>[]) (fn:=Tryz.f123) tH I () I O fun W _=>Av.nil _ _)))))))
theorem RB (cf:Nat) (capt:List Value) (hE:Bc Tryz.prog cf=true) (c:Nat→Nat→Int) (W:World) (g cap:Nat) (l:List Nat) (junk:List Value) (hn:l.length≤12) (hg:W.heap[g]? =some (.cells (iC l++junk).toArray 3 (0,0)))
  (hf: ∀W',Ib W W' g→ ∀p∈l, ∀q∈l,Ad Tryz.prog cf ([Value.int .i64 (p:Nat),Value.int .i64 (q:Nat)]++capt).toArray W' (fun _:Unit=> .int .i64 (c p q)) (fun _=>True) (fun _=>[])):
  Calls Tryz.prog 65 #[.slice (some ⟨g,0,none⟩) l.length cap,fnM cf capt] W fun e W'=> ∃x:Unit,e= .returned ((fun _=> .tuple #[]) x)∧True∧IJ W W' g ((fun _=>g) x) ((fun _=> .cells (iC (BH c l)++junk).toArray 3 (0,0)) x):=by
 have key:Calls Tryz.prog 65 [.slice (some ⟨g,0,none⟩) l.length cap,fnM cf capt].toArray W fun e W'=> ∃x:Unit,e= .returned ((fun _=> .tuple #[]) x)∧(fun _=>True) x∧Below (AX W).heap.size (AX W) W'∧Av (AX W) W' ((fun _=>[AS (Ay W g),Ez g (BH c l) junk]) x):=by
  refine BQ (X:=Unit) (val:=fun _=> .tuple #[]) (Φ:=fun _=>True) (nb:=fun _=>[AS (Ay W g),Ez g (BH c l) junk]) (Hp.enterT (B:=Ez g l junk) I hg) Tryz.func65 I I I ?_
  refine zA (zB (wP I (wP I (wP I (Aa (zE (zB (wP I (wP I (wP I ?_))))))))))
  refine F5 (k:= .u64) (kt:= .i64) (by kernel_rfl) (by kernel_rfl) I I I I ?_
  refine Ak 10 (.int .u64 (l.length:Nat)) I (congrArg (Value.int .u64) (Ul hn)) ?_
  refine AT (capt:=[]) I I I I I I (by kernel_rfl) (fun W _=>Fo l.length (by omega) W) ?_
  refine wP I ?_
  refine CQ (X:=Unit) (val:=fun _=> .tuple #[]) (Φ:=fun _=>True) (capt:=[]) 1 (B:=Ez g l junk) (L1:=[]) (L2:=[]) (b:=g) (ob:= .cells (iC l++junk).toArray 3 (0,0)) (fun _=>Ez g (BH c l) junk) (g':=fun _=>g) (o':=fun _=> .cells (iC (BH c l)++junk).toArray 3 (0,0))
   rfl rfl rfl rfl rfl rfl (by kernel_rfl) rfl rfl (fun _ _=>rfl) (fun W1 hp=>SS cf capt hE c W1 g cap l junk _ hn (hp.own.cell 1 _ rfl (g, .cells (iC l++junk).toArray 3 (0,0)) (List.mem_cons_self ..)).1 (fun W2 hk=>hf W2 ((Hw hg ⟨_,List.mem_cons_self ..⟩ hp).trans hk))) (fun _ _=> ?_)
  refine Aa ?_
  refine Gh (X:=Unit) (val:=fun _=> .tuple #[]) (Φ:=fun _=>True) (nb:=fun _=>[AS (Ay W g),Ez g (BH c l) junk]) (fn:=Tryz.f65) tH I () I O fun W1 hp=> ?_
  exact(hp.pick (l:=[AS (Ay W g),Ez g (BH c l) junk]) [0,1] (by decide) I).own
 refine key.mono ?_
 rintro e W' ⟨x,he,_,hb,hn'⟩
 exact⟨x,he,O,EP hg I hb hn'⟩
-- BOXES 9
-- CODE2
theorem Ti {f:FrP} (h:f.OK) (z:Rat):f.velA z=if f.hd<0 then 0-f.speed z else f.speed z:=by
 unfold FrP.velA FrP.speed FrP.vel
 rcases h.hd with e|e<;>rw[e]
 ·rw[if_neg (show¬(1:Int)<0 by decide)]
  split
  ·rfl
  ·show((1:Int):Rat)*f.sp=f.sp
   have:((1:Int):Rat)=1:=rfl
   rw[this,Rat.one_mul]
 ·rw[if_pos (show(-1:Int)<0 by decide)]
  have:((-1:Int):Rat)= -1:=rfl
  rw[this]
  split<;>grind
theorem R8 (q:Rat) (h:Sz2 0 q) (W:World) (hv:BP W) (ht:AJ W):Ad Tryz.prog 64 #[str [48],str (Ac q)] W (fun _:Unit=> .tuple #[str (Ac (0-q)), .int .i64 0]) (fun _=>True) (fun _=>[]):=by
 have h:=MS 0 q h W hv ht
 rwa [E5] at h
theorem ZC:szQ (0:Rat) 1:=EJ (z:=0) (by decide) (by decide)
theorem WD {f:FrP} (h:f.Pl) (z:Rat):szQ (f.speed z) 2:=by
 unfold FrP.speed
 split
 ·exact ZC.mono (by decide)
 ·exact h.szp
theorem I5 {f:FrP} (h:f.Pl) (z:Rat):szQ (f.velA z) 3:=by
 unfold FrP.velA
 split
 ·exact ZC.mono (by decide)
 ·exact h.vz
theorem Mn (f:FrP) (h:f.Pl) (z:Rat) (hz:szQ z 36) (b:Nat) (W:World) (hrow:An W b 0 [str (Ac z)]) (hv:BP W) (ht:AJ W):
  Ad Tryz.prog 63 #[frV f,Ap b] W (fun _:Unit=>str (Ac (f.velA z))) (fun _=>True) (fun _=>[]):=by
 have e:=Ti h.ok z
 have zs:=sz2 (ZC) (WD h z) (by decide)
 refine Ab (args:=[frV f,Ap b]) Tryz.func63 I I I ?_
 refine zA (zB ?_)
 (refine A3 rfl rfl rfl rfl ?_;intro)
 refine wP I (Aa (zE (zA (zB (wB 0 I I I (wL 0 I I (fun W1 hp=>hrow.hp hp) I (wC I I (fun W1 hp=>Ql f h.ok z hz W1 (hv.hp hp) (ht.hp hp)) ?_)))))))
 iterate 5 refine wP I ?_
 refine Aa (zE (zA (zA (zB (wP I (wB 0 I I I (wP I (Aa (zE ?_)))))))))
 refine Af I (fun hc=> ?_) (fun hc=> ?_)
 ·have hc:f.hd<0:=of_decide_eq_true hc
  rw[if_pos hc] at e
  refine zB (wP I (wC I I (fun W1 hp=>R8 (f.speed z) zs W1 (hv.hp hp) (ht.hp hp)) (wP I (wP I (wP I (wP I (Aa (zE (zA (zB (wP I (wP I (Aa ?_)))))))))))))
  exact zE (zO (wR1 I I (by rw[e])))
 ·have hc: ¬f.hd<0:=of_decide_eq_false hc
  rw[if_neg hc] at e
  exact zI (zE (zA (zB (wP I (wP I (Aa (zE (zO (wR1 I I (by rw[e]))))))))))
def or3 (a b c:Int):Int:=if a≠0 then a else if b≠0 then b else c
theorem aV {z:Int} (h:z≠0):(!(z==0))=true:=by simp[h]
theorem VB (g:Nat) (a b c:Int) (W:World) (hrow:An W g 0 [.int .i64 a, .int .i64 b, .int .i64 c]):
  Ad Tryz.prog 67 #[.slice (some ⟨g,0,none⟩) 3 3] W (fun _:Unit=> .int .i64 (or3 a b c)) (fun _=>True) (fun _=>[]):=by
 have at_: ∀(i:Nat) (v:Int),[a,b,c][i]? =some v→An W g (0+i*1) [.int .i64 v]:=fun i v hv=>by
  refine⟨hrow.lt,fun m u hu=> ?_⟩
  have hm:m=0:=by have:=(List.getElem?_eq_some_iff.1 hu).1;simpa using this
  subst hm
  have:=hrow.get i u (by
   match i,hv with
   |0,hv=>simp at hv hu⊢;rw[←hu,hv]
   |1,hv=>simp at hv hu⊢;rw[←hu,hv]
   |2,hv=>simp at hv hu⊢;rw[←hu,hv])
  rw[show 0+i*1+0=0+i by omega];exact this
 refine Ab (args:=[.slice (some ⟨g,0,none⟩) 3 3]) Tryz.func67 I I I ?_
 refine zA (zB (wP I (Aa (zE (zA (zB (wP I (Aa (zE (zA (zA (zB (wP I (wP I (wP I ?_)))))))))))))))
 refine Aa (zE (zH ?_))
 refine Ar (X:=Nat) (fun i=>[(3, .int .i64 0),(6, .slice (some ⟨g,0,none⟩) 3 3),(7, .int .i64 ((3:Nat):Int)),(8, .int .i64 (i:Nat))]) (fun _=>[]) (fun i=>i≤3∧(0<i→a=0)∧(1<i→b=0)∧(2<i→c=0)) (fun i=>3-i) 0 ⟨by omega,fun h=>absurd h (by omega),fun h=>absurd h (by omega),fun h=>absurd h (by omega)⟩ ⟨I,I,I,I,O⟩ [] I ?_
 rintro i ⟨hi,h0,h1,h2⟩
 refine zA (zB (wP I ?_))
 by_cases hlt:i<3
 ·refine wU 9 true I (dT (by omega)) (Aa (zE (zA (zR I (zI (zE (zA (zH (zA (zB ?_))))))))))
  obtain⟨v,hv⟩: ∃v,[a,b,c][i]? =some v:=⟨_,List.getElem?_eq_getElem (by simpa using hlt)⟩
  have hr:=at_ i v hv
  refine wJ ?_
  refine wL 0 I I (fun W1 hp=>hr.hp hp) I (wP I (Aa (zE (zA (zB (wP I (wP I (wP I ?_))))))))
  have hor:(v≠0→or3 a b c=v)∧(v=0→(i=0→a=0)∧(i=1→b=0)∧(i=2→c=0)):=by
   have:i=0∨i=1∨i=2:=by omega
   rcases this with rfl|rfl|rfl
   ·simp at hv;subst hv;exact⟨fun h=>by unfold or3;rw[if_pos h],fun h=>⟨fun _=>h,fun e=>by omega,fun e=>by omega⟩⟩
   ·simp at hv;subst hv;exact⟨fun h=>by unfold or3;rw[if_neg (fun hc=>hc (h0 (by omega))),if_pos h],fun h=>⟨fun e=>by omega,fun _=>h,fun e=>by omega⟩⟩
   ·simp at hv;subst hv;exact⟨fun h=>by unfold or3;rw[if_neg (fun hc=>hc (h0 (by omega))),if_neg (fun hc=>hc (h1 (by omega)))],fun h=>⟨fun e=>by omega,fun e=>by omega,fun _=>h⟩⟩
  by_cases hz:v=0
  ·refine wU 14 false I (by rw[hz];rfl) (Aa (zE (zS I (zI (zN (zE (zB (wP I (wV 16 ((i+1:Nat):Int) I (At (by omega)) (wP I (Aa ?_)))))))))))
   obtain⟨k0,k1,k2⟩:=hor.2 hz
   exact Al (i+1) ⟨by show i+1≤3;omega,fun h=>by by_cases e:i=0;exact k0 e;exact h0 (by omega),fun h=>by have h:1<i+1:=h;by_cases e:i=1;exact k1 e;exact h1 (by omega),fun h=>by have h:2<i+1:=h;by_cases e:i=2;exact k2 e;exact h2 (by omega)⟩ (by show 3-(i+1)<3-i;omega) ⟨I,I,I,I,O⟩ [] I
  ·refine wU 14 true I (aV hz) (Aa (zE (zR I (zA (zB (wP I (wP I (Aa (zE (zO (zQ (zP (zP ?_)))))))))))))
   exact zQ (zP (wR1 I I (by rw[hor.1 hz])))
 ·refine wU 9 false I (dF (by omega)) (Aa (zE (zA (zS I (zJ (zK (zK (zL (zE (zA (zB (wP I (wP I ?_)))))))))))))
  exact Aa (zE (zO (wR1 I I (by unfold or3;rw[if_neg (fun hc=>hc (h0 (by omega))),if_neg (fun hc=>hc (h1 (by omega))),h2 (by omega)]))))
abbrev Yz (b:Nat):Value:= .func (.func 63) #[] #[Ap b]
structure XA (F:List FrP) (z:Rat) (b4 b9 b10 b12 gF cF gP cP:Nat) (W:World):Prop where
 zz:An W b4 0 [str (Ac z)]
 f:An W b9 0 [.slice (some ⟨gF,0,none⟩) F.length cF]
 p:An W b10 0 [.slice (some ⟨gP,0,none⟩) F.length cP]
 v:An W b12 0 [Yz b4]
 rf: ∀m,m<F.length→An W gF (0+m*5) (frV (fr F m)).cells.toList
 rp: ∀m,m<F.length→An W gP (0+m*1) [str (Ac ((fr F m).at z))]
 mv:BP W
 mt:AJ W
theorem OZ {f:FrP} (h:f.Pl) {z:Rat} (hz:szQ z 20):szQ (f.at z) 60:=by
 unfold FrP.at
 have h1:=h.ok.posz.mono (show 5≤60 by decide)
 split
 ·exact h1
 ·exact(h.ok.posz.add (h.vz.mul (hz.sub h.szt))).mono (by decide)
theorem Sg (F:List FrP) (hF: ∀f∈F,f.Pl) (hn:F.length≤24) (z:Rat) (hz:szQ z 20) (b4 b9 b10 b12 gF cF gP cP:Nat) (i k:Nat) (hi:i<F.length) (hk:k<F.length) (W:World) (hN:XA F z b4 b9 b10 b12 gF cF gP cP W):
  Ad Tryz.prog 66 #[.int .i64 (i:Nat), .int .i64 (k:Nat),Ap b10,Ap b12,Ap b9] W (fun _:Unit=> .int .i64 (Hr F z i k)) (fun _=>True) (fun _=>[]):=by
 have pi:=hF _ (Fe hi)
 have pk:=hF _ (Fe hk)
 refine Ab (args:=[.int .i64 (i:Nat), .int .i64 (k:Nat),Ap b10,Ap b12,Ap b9]) Tryz.func66 I I I ?_
 refine zA (zB (wP I (Aa (zE (zA (zU (qL 0 I I (fun W1 hp=>hN.p.hp hp) I (qP I ?_))))))))
 refine qJ ?_
 refine qL 0 I I (fun W1 hp=>(hN.rp i hi).hp hp) I (qL 0 I I (fun W1 hp=>hN.p.hp hp) I (qP I ?_))
 refine qJ ?_
 refine qL 0 I I (fun W1 hp=>(hN.rp k hk).hp hp) I (qC I I (fun W1 hp=>Do _ _ (sz2 (OZ pi hz) (OZ pk hz) (by decide)) W1 (hN.mv.hp hp) (hN.mt.hp hp)) (qL 0 I I (fun W1 hp=>hN.v.hp hp) I (qL 0 I I (fun W1 hp=>hN.f.hp hp) I (qP I ?_))))
 refine qJ ?_
 refine qL 0 I I (fun W1 hp=>(hN.rf i hi).hp hp) I ?_
 refine Ie (capt:=[Ap b4]) I I I I I I (by kernel_rfl) (fun W1 hp=>Mn (fr F i) pi z (hz.mono (by decide)) b4 W1 (hN.zz.hp hp) (hN.mv.hp hp) (hN.mt.hp hp)) ?_
 refine qL 0 I I (fun W1 hp=>hN.v.hp hp) I (qL 0 I I (fun W1 hp=>hN.f.hp hp) I (qP I ?_))
 refine qJ ?_
 refine qL 0 I I (fun W1 hp=>(hN.rf k hk).hp hp) I ?_
 refine Ie (capt:=[Ap b4]) I I I I I I (by kernel_rfl) (fun W1 hp=>Mn (fr F k) pk z (hz.mono (by decide)) b4 W1 (hN.zz.hp hp) (hN.mv.hp hp) (hN.mt.hp hp)) ?_
 refine qC I I (fun W1 hp=>Do _ _ (sz2 (I5 pi z) (I5 pk z) (by decide)) W1 (hN.mv.hp hp) (hN.mt.hp hp)) (qP I (qP I (qP I (qV 32 ((i:Int)-(k:Int)) I (Ai (by omega) (by omega)) (A4 ?_)))))
 refine As Tryz.hZ tH I I I I I I I I I I I fun bS=> ?_
 exact wC I I (fun W1 hp=>VB bS _ _ _ W1 (An.of_bx hp 0 I I)) (wP I (Aa (zE (zO (wR1 I I I)))))
def Ff (F:List FrP) (ax:Bool) (k:Nat):List Nat:=(List.range k).filter fun i=>(fr F i).ax==ax
theorem Xd (F:List FrP) (ax:Bool):Ff F ax F.length=upr F ax:=rfl
theorem O2 (F:List FrP) (ax:Bool) (k:Nat):Ff F ax (k+1)=if ((fr F k).ax==ax)=true then Ff F ax k++[k] else Ff F ax k:=by
 unfold Ff
 rw[List.range_succ,List.filter_append]
 show _++List.filter _ [k]=_
 rw[List.filter_cons,List.filter_nil]
 split
 ·rfl
 ·rw[List.append_nil]
theorem JT (F:List FrP) (ax:Bool) (k:Nat):(Ff F ax k).length≤k:=by
 have:=List.length_filter_le (fun i=>(fr F i).ax==ax) (List.range k)
 rwa [List.length_range] at this
def GF (F:List FrP) (z:Rat) (ax:Bool):List Nat:=BH (Hr F z) (upr F ax)
theorem Qi (cf:Nat) (capt:List Value) (W:World) (p:Option Addr) (cap:Nat):Ad Tryz.prog 65 #[.slice p 0 cap,fnM cf capt] W (fun _:Unit=> .tuple #[]) (fun _=>True) (fun _=>[]):=by
 refine Ab (args:=[.slice p 0 cap,fnM cf capt]) Tryz.func65 I I I ?_
 refine zA (zB (wP I (wP I (wP I (Aa (zE (zB (wP I (wP I (wP I ?_))))))))))
 refine F5 (k:= .u64) (kt:= .i64) (by kernel_rfl) (by kernel_rfl) I I I I ?_
 refine Ak 10 (.int .u64 ((0:Nat):Int)) I I ?_
 refine AT (capt:=[]) I I I I I I (by kernel_rfl) (fun W _=>Fo 0 (by omega) W) ?_
 refine wP I ?_
 refine AT (capt:=[]) I I I I I I (by kernel_rfl) (fun W _=>Rw cf capt W p cap _) ?_
 exact Aa (Gh (X:=Unit) (val:=fun _=> .tuple #[]) (Φ:=fun _=>True) (nb:=fun _=>[]) (fn:=Tryz.f65) tH I () I O fun W _=>Av.nil _ _)
theorem XA.keep {F:List FrP} {z:Rat} {b4 b9 b10 b12 gF cF gP cP g:Nat} {W W':World} (h:XA F z b4 b9 b10 b12 gF cF gP cP W) (hk:Ib W W' g) (h4:b4≠g) (h9:b9≠g) (h10:b10≠g) (h12:b12≠g) (hF:gF≠g) (hP:gP≠g) (hm:BP W') (ht:AJ W'):XA F z b4 b9 b10 b12 gF cF gP cP W':=
 ⟨An.keep h.zz hk h4,An.keep h.f hk h9,An.keep h.p hk h10,An.keep h.v hk h12,fun m hm'=>An.keep (h.rf m hm') hk hF,fun m hm'=>An.keep (h.rp m hm') hk hP,hm,ht⟩
theorem Kf (W:World) (p:Option Addr) (cap:Nat) (rs:List (List Sd)) (h:DZ W p rs) (h12:tot rs≤12) (z:Rat) (hz:szQ z 20) (ax:Bool):
  Ad Tryz.prog 24 #[AO p rs.length cap,str (Ac z), .bool ax] W (fun V:Vec=> .tuple #[V.val (GF (Ao rs) z ax).length, .int .i64 0]) (fun V=>V.OK 1 (GF (Ao rs) z ax).length (iC (GF (Ao rs) z ax))) (fun V=>[V.bx 3 (iC (GF (Ao rs) z ax))]):=by
 obtain⟨hne,hT24,hT0⟩:=DL h.c
 obtain⟨hrg,_⟩:=Cr h.c
 have eF:=CR rs
 have eP:=F6 (Ao rs) z
 have hpl: ∀f∈Ao rs,f.Pl:=fun f hf=>Es hrg hf
 obtain⟨T,hTe⟩: ∃T,T=tot rs:=⟨_,rfl⟩
 rw[←hTe] at eF hT24 hT0 h12
 rw[eF] at eP
 refine Ab (args:=[AO p rs.length cap,str (Ac z), .bool ax]) Tryz.func24 I I I ?_
 refine zA (zB ?_)
 (refine A3 rfl rfl rfl rfl ?_;intro)
 (refine A3 rfl rfl rfl rfl ?_;intro)
 refine wP I (wP I (Aa ?_))
 rename_i b3 b4
 refine zE (zA (zA (zB (wB 0 I I I (wB 1 I I I (wC I I (fun W1 hp=>GS W1 p cap rs (h.hp hp) z hz) (wP I (Aa (zE (zA (zB (wP I (wP I ?_)))))))))))))
 refine Aa (zE (zS I (zI (zE (zA (zB (wB 0 I I I (wB 1 I I I ?_))))))))
 refine wD (X:=Vec×Vec) I I (fun W1 hp=>H6 W1 p cap rs (h.hp hp) z (hz.mono (by decide))) ?_
 rintro⟨F,P⟩ ⟨hF,hP⟩
 have hF:F.OK 5 (Ao rs).length (frC (Ao rs)):=hF
 have hP:P.OK 1 (De (Ao rs) z).length (nS (De (Ao rs) z)):=hP
 obtain⟨gF,cF,junkF,rfl⟩: ∃(gF cF:Nat) (junkF:List Value),F=⟨some gF,cF,junkF⟩:=by
  obtain⟨pF,cF,jF⟩:=F
  cases pF with
  |none=>have:=hF.nil rfl;omega
  |some g=>exact⟨g,cF,jF,rfl⟩
 obtain⟨gP,cP,junkP,rfl⟩: ∃(gP cP:Nat) (junkP:List Value),P=⟨some gP,cP,junkP⟩:=by
  obtain⟨pP,cP,jP⟩:=P
  cases pP with
  |none=>have:=hP.nil rfl;omega
  |some g=>exact⟨g,cP,jP,rfl⟩
 obtain⟨gF',cF',hFv,hFr⟩:=Vec.frs hF (by omega)
 have hFv:Value.slice (some ⟨gF,0,none⟩) (Ao rs).length cF=Value.slice (some ⟨gF',0,none⟩) (Ao rs).length cF':=hFv
 obtain⟨rfl,rfl⟩:gF=gF'∧cF=cF':=by injection hFv with a b c;injection a with a;injection a with a;exact⟨a,c⟩
 have hFr: ∀ {W0 W:World} {bxs:List Bx},Hp W0 bxs W→ ∀k,nth bxs k=some (⟨gF,48,frC (Ao rs)++junkF,true,none⟩:Bx)→ ∀m,m<(Ao rs).length→An W gF (0+m*5) (frV (fr (Ao rs) m)).cells.toList:=fun hp k hk m hm=>hFr hp k hk m _ (Fj hm)
 have hPr: ∀ {W0 W:World} {bxs:List Bx},Hp W0 bxs W→ ∀k,nth bxs k=some (⟨gP,25,nS (De (Ao rs) z)++junkP,true,none⟩:Bx)→ ∀m,m<(Ao rs).length→An W gP (0+m*1) [str (Ac ((fr (Ao rs) m).at z))]:=fun hp k hk m hm=>by
  have hq:=CO hp k (A:=nS ((De (Ao rs) z).take m)) (B:=[str (Ac ((fr (Ao rs) m).at z))]) (C:=nS ((De (Ao rs) z).drop (m+1))++junkP) (off:=0+m*1) hk (by rw[Iu (l:=De (Ao rs) z) (i:=m) (by rw[F6];exact hm),TE];simp only[List.append_assoc]) (by rw[C8,List.length_take,F6];omega)
  exact hq
 dsimp only[Vec.val,Vec.bx]
 rw[eF,eP]
 refine wP I (wP I (wP I (wP I ?_)))
 (refine Ah Tryz.hZ rfl rfl rfl rfl ?_;intro)
 (refine Ah Tryz.hZ rfl rfl rfl rfl ?_;intro)
 refine wS 4 I I I (wS 5 I I I (wP I (Aa ?_)))
 rename_i b9 b10
 refine zE (zA (zA (zB (wP I (wP I (Aa (zE (zS I (zI (zE (zA (zB (wP I ?_)))))))))))))
 refine Bn (z:= .nilFunc) I I I (fun W=>by kernel_rfl) fun b12=> ?_
 refine wS 6 I I I (Aa (zE (zA (zB (wP I (Aa (zE (zA (zA (zB (wB 4 I I I (wP I (wP I ?_)))))))))))))
 refine Aa (zE (zH ?_))
 refine DM ?_
 refine Ar (X:=Nat×Vec) (fun s=>[(2, .bool ax),(9,Ap b9),(10,Ap b10),(12,Ap b12),(13,s.2.val (Ff (Ao rs) ax s.1).length),(33, .slice (some ⟨gF,0,none⟩) T cF),(34, .int .i64 (T:Nat)),(35, .int .i64 (s.1:Nat))])
  (fun s=>[bxE b3 24 (slv p rs.length cap),bxE b4 25 (str (Ac z)),⟨gF,48,frC (Ao rs)++junkF,true,none⟩,⟨gP,25,nS (De (Ao rs) z)++junkP,true,none⟩,bxE b9 63 (.slice (some ⟨gF,0,none⟩) T cF),bxE b10 31 (.slice (some ⟨gP,0,none⟩) T cP),bxE b12 89 (Yz b4),s.2.bx 3 (iC (Ff (Ao rs) ax s.1))]) (fun s=>s.1≤T∧s.2.OK 1 (Ff (Ao rs) ax s.1).length (iC (Ff (Ao rs) ax s.1))) (fun s=>T-s.1) (0,Vec.empty) ⟨Nat.zero_le _,Vec.OK.empty 1⟩ ⟨rfl,rfl,rfl,rfl,rfl,rfl,rfl,rfl,trivial⟩ [] rfl ?_
 rintro⟨i,V⟩ ⟨hi,hV⟩
 have hi:i≤T:=hi
 have hV:V.OK 1 (Ff (Ao rs) ax i).length (iC (Ff (Ao rs) ax i)):=hV
 have hul:=JT (Ao rs) ax i
 by_cases hlt:i<T
 ·have hsu:=O2 (Ao rs) ax i
  have hul1:=JT (Ao rs) ax (i+1)
  refine zA (zB (wP I (wU 36 true I (dT (by omega)) (Aa (zE (zA (zR I (zI (zE (zA (zH (zA (zB ?_)))))))))))))
  refine wP I ?_
  refine wJ ?_
  refine wL 0 I I (fun W1 hp=>hFr hp 2 I i (by omega)) I ?_
  (refine Ah Tryz.hZ rfl rfl rfl rfl ?_;intro)
  refine wP I (wS 8 I I I (Aa ?_))
  rename_i b15
  refine zE (zA (zB (wP I ?_)))
  refine OW 8 (v:= .bool (fr (Ao rs) i).ax) tH I I I I I I I I ?_
  refine wP I ?_
  refine CX Tryz.underlying4 I I I I I I ?_
  refine Aa (zE ?_)
  refine Af I (fun hc=> ?_) (fun hc=> ?_)
  ·have hc:((fr (Ao rs) i).ax==ax)=true:=hc
   rw[if_pos hc] at hsu
   refine zB (wP I (wP I ?_))
   refine As Tryz.hZ tH I I I I I I I I I I I fun bS=> ?_
   refine AB (V:=V) (len:=(Ff (Ao rs) ax i).length) (xs:=iC (Ff (Ao rs) ax i)) 7 9 Tryz.vec35 (Ff (Ao rs) ax (i+1)).length (iC (Ff (Ao rs) ax (i+1))) I I I I I I I I I I I hV I I (by rw[hsu,List.length_append];rfl) (by rw[hsu];show _=(Ff (Ao rs) ax i++[i]).map _;rw[List.map_append];rfl) (by simp only[maxLen];omega) (by omega) I ?_
   intro gV cV jV hV1
   exact wP I (Aa (zN (zE (zB (wP I (wV 48 ((i+1:Nat):Int) I (At (by omega)) (wP I (Aa (Al (i+1,⟨some gV,cV,jV⟩) ⟨hlt,hV1⟩ (by show T-(i+1)<T-i;omega) ⟨I,I,I,I,I,I,I,I,O⟩ _ I)))))))))
  ·have hc:((fr (Ao rs) i).ax==ax)=false:=hc
   rw[if_neg (by rw[hc];decide)] at hsu
   exact zI (zN (zE (zB (wP I (wV 48 ((i+1:Nat):Int) I (At (by omega)) (wP I (Aa (Al (i+1,V) ⟨hlt,by show V.OK 1 (Ff (Ao rs) ax (i+1)).length (iC (Ff (Ao rs) ax (i+1)));rw[hsu];exact hV⟩ (by show T-(i+1)<T-i;omega) ⟨I,I,I,I,by show some (V.val _)=some (V.val (Ff (Ao rs) ax (i+1)).length);rw[hsu],I,I,I,O⟩ [⟨b15,48,(frV (fr (Ao rs) i)).cells.toList,true,none⟩] (by show _=[_,_,_,_,_,_,_,V.bx 3 (iC (Ff (Ao rs) ax (i+1))),_];rw[hsu];rfl)))))))))
 have e:i=T:=by omega
 subst e
 obtain⟨U,hU⟩: ∃U,U=upr (Ao rs) ax:=⟨_,rfl⟩
 have hUe:Ff (Ao rs) ax i=U:=by rw[←eF,hU];exact Xd _ _
 have hoe:GF (Ao rs) z ax=BH (Hr (Ao rs) z) U:=by rw[hU];rfl
 rw[hUe] at hV hul
 have hUm: ∀x∈U,x<(Ao rs).length:=fun x hx=>(Yd.1 (hU▸hx)).1
 have hsl:=IC (Hr (Ao rs) z) U
 refine OE (bxs':=[bxE b3 24 (slv p rs.length cap),bxE b4 25 (str (Ac z)),⟨gF,48,frC (Ao rs)++junkF,true,none⟩,⟨gP,25,nS (De (Ao rs) z)++junkP,true,none⟩,bxE b9 63 (.slice (some ⟨gF,0,none⟩) i cF),bxE b10 31 (.slice (some ⟨gP,0,none⟩) i cP),bxE b12 89 (Yz b4),V.bx 3 (iC U)]) (by rw[hUe]) ?_
 refine zA (zB (wP I (wU 36 false I (dF (by omega)) (Aa (zE (zA (zS I (zJ (zK (zK (zL (zE (zA ?_)))))))))))))
 refine zB (wP I ?_)
 refine Ak 49 (V.val U.length) I (by show V.val (Ff (Ao rs) ax i).length=_;rw[hUe]) ?_
 refine wP I ?_
 obtain⟨pV,cV,jk⟩:=V
 cases pV with
 |none=>
  have h0:=hV.nil rfl
  have h00:U=[]:=List.length_eq_zero_iff.1 h0
  have ho0:GF (Ao rs) z ax=[]:=by rw[hoe,h00];rfl
  refine AT (capt:=[]) I I I I I I (by kernel_rfl) (fun W1 _=>Qi _ _ W1 none 0) ?_
  refine Aa (zE (zA (zB (wP I (wP I (wP I (Aa (zE (zO ?_)))))))))
  exact AK tH I (.tmp I) (.tmp I) Vec.empty I (by show Vec.empty.OK 1 (GF (Ao rs) z ax).length _;rw[ho0];exact Vec.OK.empty 1) fun W1 hp=>by
   show Av W W1 [Vec.empty.bx 3 (iC (GF (Ao rs) z ax))]
   rw[ho0]
   exact Av.of_hp (hp.pick (l:=[Vec.empty.bx 3 (iC [])]) [7] (by decide) I)
 |some gV=>
  refine CQ (X:=Unit) (val:=fun _=> .tuple #[]) (Φ:=fun _=>True) (capt:=[]) 7 (B:=Ez gV U jk) (L1:=[]) (L2:=[]) (b:=gV) (ob:= .cells (iC U++jk).toArray 3 (0,0)) (fun _=>Ez gV (BH (Hr (Ao rs) z) U) jk) (g':=fun _=>gV) (o':=fun _=> .cells (iC (BH (Hr (Ao rs) z) U)++jk).toArray 3 (0,0))
   rfl rfl rfl rfl rfl rfl (by kernel_rfl) rfl rfl (fun _ _=>rfl) (fun W1 hp=> ?_) (fun _ _=> ?_)
  ·have hcell:=hp.own.cell 7 _ rfl (gV, .cells (iC U++jk).toArray 3 (0,0)) (List.mem_cons_self ..)
   have apart: ∀k B,([bxE b3 24 (slv p rs.length cap),bxE b4 25 (str (Ac z)),⟨gF,48,frC (Ao rs)++junkF,true,none⟩,⟨gP,25,nS (De (Ao rs) z)++junkP,true,none⟩,bxE b9 63 (.slice (some ⟨gF,0,none⟩) i cF),bxE b10 31 (.slice (some ⟨gP,0,none⟩) i cP),bxE b12 89 (Yz b4),Ez gV U jk]:List Bx)[k]? =some B→k≠7→ ∀q∈B.blk,q.1≠gV:=fun k B hk hne q hq=>hp.own.apart k 7 B (Ez gV U jk) hk rfl hne q hq (gV, .cells (iC U++jk).toArray 3 (0,0)) (List.mem_cons_self ..)
   have hN:XA (Ao rs) z b4 b9 b10 b12 gF cF gP cP W1:=⟨An.of_bx hp 1 rfl rfl,by rw[eF];exact An.of_bx hp 4 rfl rfl,by rw[eF];exact An.of_bx hp 5 rfl rfl,An.of_bx hp 6 rfl rfl,fun m hm=>hFr hp 2 rfl m hm,fun m hm=>hPr hp 3 rfl m hm,h.v.hp hp,h.t.hp hp⟩
   refine RB 66 [Ap b10,Ap b12,Ap b9] (by kernel_rfl) (Hr (Ao rs) z) W1 gV cV U jk (by omega) hcell.1 fun W' hK x hx y hy=> ?_
   have hbel:=hK.below hp.below hcell.2
   exact Sg (Ao rs) hpl (by omega) z hz b4 b9 b10 b12 gF cF gP cP x y (hUm x hx) (hUm y hy) W' (hN.keep hK (apart 1 _ I (by decide) _ (List.mem_cons_self ..)) (apart 4 _ I (by decide) _ (List.mem_cons_self ..)) (apart 5 _ I (by decide) _ (List.mem_cons_self ..)) (apart 6 _ I (by decide) _ (List.mem_cons_self ..)) (apart 2 _ I (by decide) _ (List.mem_cons_self ..)) (apart 3 _ I (by decide) _ (List.mem_cons_self ..)) (h.v.below hbel) (h.t.below hbel))
  refine Aa (zE (zA (zB (wP I (wP I (wP I (Aa (zE (zO ?_)))))))))
  have hOK:(⟨some gV,cV,jk⟩:Vec).OK 1 (GF (Ao rs) z ax).length (iC (GF (Ao rs) z ax)):=by
   rw[hoe,hsl]
   refine⟨by rw[List.length_map,hsl,Nat.mul_one],fun hc=>(by cases hc),fun hc=> ?_⟩
   obtain⟨k1,k2,k3⟩:=hV.cap hc
   refine⟨k1,k2, ?_⟩
   rw[List.length_map] at k3⊢
   rw[hsl]
   exact k3
  exact AK tH I (.tmp I) (.tmp I) ⟨some gV,cV,jk⟩ (by show Value.tuple #[.slice (some ⟨gV,0,none⟩) (Ff (Ao rs) ax i).length cV, .int .i64 0]= .tuple #[.slice (some ⟨gV,0,none⟩) (GF (Ao rs) z ax).length cV, .int .i64 0];rw[hUe,hoe,hsl]) hOK fun W1 hp=>by
   show Av W W1 [Ez gV (GF (Ao rs) z ax) jk]
   rw[hoe]
   exact Av.of_hp (hp.pick (l:=[Ez gV (BH (Hr (Ao rs) z) U) jk]) [7] (by decide) I)
-- BOXES 3
-- CODE2
structure IZ (l:List Rat) (z:Rat) (i:Nat) (o:List Rat) (d:Bool):Prop where
 asc:o.Pairwise (· < ·)
 mem: ∀x,x∈o↔x∈l.take i∨(d=true∧x=z)
 low:d=false→ ∀x∈o,x<z
 up:d=true→ ∀j (hj:j<l.length),i≤j→z<l[j]
 len:o.length=i+if d=true then 1 else 0
theorem IZ.zero (l:List Rat) (z:Rat):IZ l z 0 [] false:=
 ⟨List.Pairwise.nil,fun x=>by simp,fun _ x h=>(by cases h),fun h=>(by cases h),rfl⟩
theorem VR {l:List Rat} (hs:l.Pairwise (· < ·)) {i:Nat} (hi:i<l.length): ∀x∈l.take i,x<l[i]:=fun x hx=>by
 obtain⟨j,hj,rfl⟩:=List.getElem_of_mem hx
 rw[List.length_take] at hj
 rw[List.getElem_take]
 exact List.pairwise_iff_getElem.1 hs j i (by omega) hi (by omega)
theorem IU {l:List Rat} {i:Nat} (hi:i<l.length) (x:Rat):x∈l.take (i+1)↔x∈l.take i∨x=l[i]:=by
 rw[List.take_add_one,List.getElem?_eq_getElem hi,List.mem_append]
 simp
theorem IZ.copy {l:List Rat} {z:Rat} {i:Nat} {o:List Rat} {d:Bool} (hs:l.Pairwise (· < ·)) (h:IZ l z i o d) (hi:i<l.length) (hd:d=false→l[i]<z):IZ l z (i+1) (o++[l[i]]) d:=by
 refine⟨List.pairwise_append.2 ⟨h.asc,List.pairwise_singleton ..,fun x hx y hy=> ?_⟩,fun x=> ?_,fun e x hx=> ?_,fun e j hj hij=>h.up e j hj (by omega), ?_⟩
 ·obtain rfl:=List.mem_singleton.1 hy
  rcases(h.mem x).1 hx with h1|⟨h1,rfl⟩
  ·exact VR hs hi x h1
  ·exact h.up h1 i hi (Nat.le_refl _)
 ·rw[List.mem_append,List.mem_singleton,h.mem,IU hi]
  constructor
  ·rintro((h1|h1)|h1)
   ·exact .inl (.inl h1)
   ·exact .inr h1
   ·exact .inl (.inr h1)
  ·rintro((h1|h1)|h1)
   ·exact .inl (.inl h1)
   ·exact .inr h1
   ·exact .inl (.inr h1)
 ·rcases List.mem_append.1 hx with h1|h1
  ·exact h.low e x h1
  ·rw[List.mem_singleton.1 h1];exact hd e
 ·rw[List.length_append,h.len]
  show _+1=_
  omega
theorem IZ.put {l:List Rat} {z:Rat} {i:Nat} {o:List Rat} (hs:l.Pairwise (· < ·)) (h:IZ l z i o false) (hi:i<l.length) (hz:z<l[i]):IZ l z (i+1) (o++[z]++[l[i]]) true:=by
 have hlow:=h.low rfl
 refine⟨List.pairwise_append.2 ⟨List.pairwise_append.2 ⟨h.asc,List.pairwise_singleton ..,fun x hx y hy=> ?_⟩,List.pairwise_singleton ..,fun x hx y hy=> ?_⟩,fun x=> ?_,fun e=>(by cases e),fun _ j hj hij=> ?_, ?_⟩
 ·rw[List.mem_singleton.1 hy];exact hlow x hx
 ·rw[List.mem_singleton.1 hy]
  rcases List.mem_append.1 hx with h1|h1
  ·have:=hlow x h1;grind
  ·rw[List.mem_singleton.1 h1];exact hz
 ·rw[List.mem_append,List.mem_append,List.mem_singleton,List.mem_singleton,h.mem,IU hi]
  constructor
  ·rintro(((h1|h1)|h1)|h1)
   ·exact .inl (.inl h1)
   ·exact absurd h1.1 (by decide)
   ·exact .inr ⟨I,h1⟩
   ·exact .inl (.inr h1)
  ·rintro((h1|h1)|h1)
   ·exact .inl (.inl (.inl h1))
   ·exact .inr h1
   ·exact .inl (.inr h1.2)
 ·rcases Nat.lt_or_ge i j with c|c
  ·have:=List.pairwise_iff_getElem.1 hs i j hi hj c
   grind
  ·obtain rfl:i=j:=by omega
   exact hz
 ·rw[List.length_append,List.length_append,h.len]
  show i+0+1+1=i+1+1
  omega
theorem IZ.done {l:List Rat} {z:Rat} {o:List Rat} (hs:l.Pairwise (· < ·)) (h:IZ l z l.length o true):o=CE z l:=
 F0 h.asc (DY hs) fun x=>by
  rw[h.mem,F8,List.take_length]
  constructor
  ·rintro(h1|h1)
   ·exact .inr h1
   ·exact .inl h1.2
  ·rintro(h1|h1)
   ·exact .inr ⟨I,h1⟩
   ·exact .inl h1
theorem IZ.last {l:List Rat} {z:Rat} {o:List Rat} (hs:l.Pairwise (· < ·)) (h:IZ l z l.length o false):o++[z]=CE z l:=
 F0 (List.pairwise_append.2 ⟨h.asc,List.pairwise_singleton ..,fun x hx y hy=>by rw[List.mem_singleton.1 hy];exact h.low rfl x hx⟩) (DY hs) fun x=>by
  rw[List.mem_append,List.mem_singleton,h.mem,F8,List.take_length]
  constructor
  ·rintro((h1|h1)|h1)
   ·exact .inr h1
   ·exact absurd h1.1 (by decide)
   ·exact .inl h1
  ·rintro(h1|h1)
   ·exact .inr h1
   ·exact .inl (.inl h1)
theorem Nc {l:List Rat} (hs:l.Pairwise (· < ·)) {z:Rat} (hz:z∈l):CE z l=l:=
 F0 (DY hs) hs fun x=>by
  rw[F8]
  exact⟨fun h=>h.elim (fun e=>by rw[e];exact hz) id, .inr⟩
def aG (W:World) (p:Option Addr) (l:List Rat):Prop:=0<l.length→ ∃g,p=some ⟨g,0,none⟩∧ ∀i (hi:i<l.length),An W g (0+i*1) [str (Ac l[i])]
def aY (p:Option Addr) (cap:Nat) (l:List Rat) (z:Rat):Option Vec→Value
 |none=> .slice p l.length cap
 |some V=>V.val (CE z l).length
def ZP (l:List Rat) (z:Rat):Option Vec→Prop
 |none=>z∈l
 |some V=>V.OK 1 (CE z l).length (nS (CE z l))
def aN (l:List Rat) (z:Rat):Option Vec→List Bx
 |none=>[]
 |some V=>[V.bx 25 (nS (CE z l))]
theorem Lm (W:World) (p:Option Addr) (cap:Nat) (l:List Rat) (z:Rat) (hs:l.Pairwise (· < ·)) (hl:l.length≤1000000) (hz: ∀x∈l,Sz2 z x) (hA:aG W p l) (ht:AJ W):
  Ad Tryz.prog 109 #[.slice p l.length cap,str (Ac z)] W (aY p cap l z) (ZP l z) (aN l z):=by
 refine Ab (args:=[.slice p l.length cap,str (Ac z)]) Tryz.func109 I I I ?_
 refine zA (zB (wP I (Aa (zE (zA (zB ?_))))))
 refine BI tH I I I I I ?_
 intro gE
 refine wP I (Aa (zE (zA (zB (wP I (Aa (zE (zA (zA (zB (wP I (Aa (zE ?_)))))))))))))
 refine zH ?_
 refine Ar (X:=Nat×Vec×List Rat×Bool) (fun s=>[(0, .slice p l.length cap),(1,str (Ac z)),(5,s.2.1.val s.2.2.1.length),(6, .bool s.2.2.2),(7, .int .i64 (s.1:Nat))]) (fun s=>[s.2.1.bx 25 (nS s.2.2.1)])
  (fun s=>s.1≤l.length∧s.2.1.OK 1 s.2.2.1.length (nS s.2.2.1)∧IZ l z s.1 s.2.2.1 s.2.2.2) (fun s=>l.length-s.1) (0,⟨some gE,0,[]⟩,[],false)
  ⟨Nat.zero_le _,⟨rfl,(fun h=>by cases h),fun _=>⟨Nat.le_refl _,Nat.zero_le _,rfl⟩⟩,IZ.zero l z⟩ ⟨rfl,rfl,rfl,rfl,rfl,trivial⟩ [] rfl ?_
 rintro⟨i,V,o,d⟩ ⟨hi,hV,hw⟩
 have hi:i≤l.length:=hi
 have hV:V.OK 1 o.length (nS o):=hV
 have hw:IZ l z i o d:=hw
 have hol:o.length≤i+1:=by rw[hw.len];split<;>omega
 refine zA (zA (zB (wP I (wP I (wP I (wP I ?_))))))
 by_cases hlt:i<l.length
 ·refine wU 13 true I (dT (by omega)) (Aa (zE (zR I (zI (zE (zA (zH (zA (zB ?_)))))))))
  obtain⟨g,rfl,hrow⟩:=hA (by omega)
  have hzx:=hz _ (List.getElem_mem hlt)
  refine wP I (wP I (wP I ?_))
  refine wJ ?_
  refine wL 0 I I (fun W1 hp=>(hrow i hlt).hp hp) I ?_
  rcases Mp z l[i] with⟨c,h2⟩|⟨c,h2⟩|⟨c,h2⟩
  ·refine wC I I (fun W1 hp=>(DO z l[i] hzx W1 (ht.hp hp)).cast (v':= .int .i64 (-1)) (by rw[h2])) (wP I (Aa (zE (zA (zA (zB (wP I (wP I (Aa (zE (zS I (zI (zE ?_)))))))))))))
   refine zA (zA (zB ?_))
   cases d with
   |false=>
    iterate 6 refine wP I ?_
    refine Aa (zE (zR I (zA (zB (wP I (wP I ?_))))))
    refine As Tryz.hZ tH I I I I I I I I I I I fun bS=> ?_
    refine AB (V:=V) (len:=o.length) (xs:=nS o) 0 1 Tryz.vec31 (o.length+1) (nS (o++[z])) I I I I I I I I I I I hV I I I (by rw[D6];rfl) (by simp only[maxLen];omega) (by omega) I ?_
    intro g1 c1 j1 hV1
    refine wP I (Aa (zE (zB (wP I (Aa (zE (zB (wP I (wP I (wP I ?_))))))))))
    refine wJ ?_
    refine wL 0 I I (fun W1 hp=>(hrow i hlt).hp hp) I ?_
    refine As Tryz.hZ tH I I I I I I I I I I I fun bT=> ?_
    refine AB (V:=⟨some g1,c1,j1⟩) (len:=o.length+1) (xs:=nS (o++[z])) 0 2 Tryz.vec31 (o++[z]++[l[i]]).length (nS (o++[z]++[l[i]])) I I I I I I I I I I I hV1 I I (by simp) (by rw[D6 (o++[z])];rfl) (by simp only[maxLen,List.length_append,List.length_singleton];omega) (by simp only[List.length_append,List.length_singleton];omega) I ?_
    intro g2 c2 j2 hV2
    exact wP I (Aa (zN (zE (zB (wP I (wP I (wV 15 ((i+1:Nat):Int) I (At (by omega)) (wP I (Aa (Al (i+1,⟨some g2,c2,j2⟩,o++[z]++[l[i]],true) ⟨hlt,hV2,hw.put hs hlt c⟩ (by show l.length-(i+1)<l.length-i;omega) ⟨I,I,I,I,I,O⟩ _ I))))))))))
   |true=>
    iterate 6 refine wP I ?_
    refine Aa (zE (zS I (zI (zE (zB (wP I (wP I (wP I ?_))))))))
    refine wJ ?_
    refine wL 0 I I (fun W1 hp=>(hrow i hlt).hp hp) I ?_
    refine As Tryz.hZ tH I I I I I I I I I I I fun bT=> ?_
    refine AB (V:=V) (len:=o.length) (xs:=nS o) 0 1 Tryz.vec31 (o++[l[i]]).length (nS (o++[l[i]])) I I I I I I I I I I I hV I I (by simp) (by rw[D6];rfl) (by simp only[maxLen,List.length_append,List.length_singleton];omega) (by simp only[List.length_append,List.length_singleton];omega) I ?_
    intro g2 c2 j2 hV2
    exact wP rfl (Aa (zN (zE (zB (wP rfl (wP rfl (wV 15 ((i+1:Nat):Int) rfl (At (by omega)) (wP rfl (Aa (Al (i+1,⟨some g2,c2,j2⟩,o++[l[i]],true) ⟨hlt,hV2,hw.copy hs hlt (fun e=>by cases e)⟩ (by show l.length-(i+1)<l.length-i;omega) ⟨rfl,rfl,rfl,rfl,rfl,trivial⟩ _ rfl))))))))))
  ·refine wC I I (fun W1 hp=>(DO z l[i] hzx W1 (ht.hp hp)).cast (v':= .int .i64 0) (by rw[h2])) (wP I (Aa (zE (zA (zA (zB (wP I (wP I (Aa (zE (zR I (zA (zB ?_)))))))))))))
   exact wP I (wP I (Aa (zE (zO (zP (zQ (zP (zP (zQ (zP (A9 tH I (.tmp I) (none:Option Vec) I (by show z∈l;rw[c];exact List.getElem_mem hlt) fun W _=>Av.nil _ _)))))))))))
  ·cases d with
   |true=>exact absurd (hw.up rfl i hlt (Nat.le_refl _)) (by grind)
   |false=>
    refine wC I I (fun W1 hp=>(DO z l[i] hzx W1 (ht.hp hp)).cast (v':= .int .i64 1) (by rw[h2])) (wP I (Aa (zE (zA (zA (zB (wP I (wP I (Aa (zE (zS I (zI (zE ?_)))))))))))))
    refine zA (zA (zB (wP I (wP I (wP I ?_)))))
    iterate 2 refine Ae I I ?_
    refine wP I (Aa (zE (zS I (zI (zE (zB (wP I (wP I (wP I ?_)))))))))
    refine wJ ?_
    refine wL 0 I I (fun W1 hp=>(hrow i hlt).hp hp) I ?_
    refine As Tryz.hZ tH I I I I I I I I I I I fun bT=> ?_
    refine AB (V:=V) (len:=o.length) (xs:=nS o) 0 1 Tryz.vec31 (o++[l[i]]).length (nS (o++[l[i]])) I I I I I I I I I I I hV I I (by simp) (by rw[D6];rfl) (by simp only[maxLen,List.length_append,List.length_singleton];omega) (by simp only[List.length_append,List.length_singleton];omega) I ?_
    intro g2 c2 j2 hV2
    exact wP I (Aa (zN (zE (zB (wP I (wP I (wV 15 ((i+1:Nat):Int) I (At (by omega)) (wP I (Aa (Al (i+1,⟨some g2,c2,j2⟩,o++[l[i]],false) ⟨hlt,hV2,hw.copy hs hlt (fun _=>c)⟩ (by show l.length-(i+1)<l.length-i;omega) ⟨I,I,I,I,I,O⟩ _ I))))))))))
 ·have e:i=l.length:=by omega
  subst e
  refine wU 13 false I (dF (by omega)) (Aa (zE (zS I (zJ (zK (zK (zL (zE (zA (zA (zB ?_)))))))))))
  cases d with
  |true=>
   obtain rfl:=hw.done hs
   exact wP I (wP I (Aa (zE (zS I (zI (zE (zA (zB (wP I (wP I (Aa (zE (zO (A9 tH I (.tmp I) (some V:Option Vec) I hV fun W hp=>Av.of_hp1 hp 0 I))))))))))))))
  |false=>
   have ho:=hw.last hs
   have hon:(CE z l).length=o.length+1:=by rw[←ho];simp
   refine wP I (wP I (Aa (zE (zR I (zB (wP I (wP I ?_)))))))
   refine As Tryz.hZ tH I I I I I I I I I I I fun bS=> ?_
   refine AB (V:=V) (len:=o.length) (xs:=nS o) 0 1 Tryz.vec31 (CE z l).length (nS (CE z l)) I I I I I I I I I I I hV I I (by rw[hon]) (by rw[←ho,D6];rfl) (by simp only[maxLen];omega) (by omega) I ?_
   intro g1 c1 j1 hV1
   exact wP I (Aa (zE (zA (zB (wP I (wP I (Aa (zE (zO (A9 tH I (.tmp I) (some ⟨some g1,c1,j1⟩:Option Vec) I hV1 fun W hp=>Av.of_hp1 hp 0 I))))))))))
-- BOXES 3
-- CODE2
def stL (L:List Sd):List Rat:=(L.filter fun s=> !s.gable).map fun s=>(s.plate:Rat)
theorem Xu (L:List Sd) {i:Nat} (hi:i<L.length):stL (L.take (i+1))=stL (L.take i)++if (sd L i).gable=true then[] else[((sd L i).plate:Rat)]:=by
 unfold stL
 rw[List.take_add_one,Ex hi,List.filter_append,List.map_append]
 congr 1
 show List.map _ (List.filter _ [sd L i])=_
 rw[List.filter_cons]
 cases(sd L i).gable<;>rfl
theorem Yc {L:List Sd} {x:Rat} {i:Nat} (h:x∈stL (L.take i)): ∃s∈L,x=(s.plate:Rat):=by
 unfold stL at h
 obtain⟨s,hs,rfl⟩:=List.mem_map.1 h
 exact⟨s,List.mem_of_mem_take (List.mem_filter.1 hs).1,I⟩
theorem QD {s:Sd} (h:rgd s=true):szQ (s.plate:Rat) 5:=by
 obtain⟨_,_,hp,_⟩:=ED h
 exact EJ (k:=5) (by show _<100000;omega) (by decide)
def Eh (L:List Sd) (i:Nat):List Rat:=EE [] (stL (L.take i))
theorem Ly (L:List Sd) (i:Nat):(Eh L i).Pairwise (· < ·):=Cy _ _ List.Pairwise.nil
theorem WX (L:List Sd) (i:Nat):(Eh L i).length≤i:=by
 have h:=EX (stL (L.take i)) []
 have h2:(stL (L.take i)).length≤i:=by
  unfold stL
  rw[List.length_map]
  exact Nat.le_trans (List.length_filter_le ..) (by rw[List.length_take];omega)
 have h:(Eh L i).length≤0+(stL (L.take i)).length:=h
 omega
theorem Wp {L:List Sd} {i:Nat} {x:Rat} (h:x∈Eh L i): ∃s∈L,x=(s.plate:Rat):=by
 rcases(Dn _ _).1 h with h|h
 ·cases h
 ·exact Yc h
theorem Uv (L:List Sd) {i:Nat} (hi:i<L.length):Eh L (i+1)=if (sd L i).gable=true then Eh L i else CE ((sd L i).plate:Rat) (Eh L i):=by
 unfold Eh
 rw[Xu L hi]
 cases(sd L i).gable
 ·exact KR _ _ _
 ·show EE [] (stL (L.take i)++[])=_
  rw[List.append_nil];rfl
theorem NS (W:World) (gF cF gS cS:Nat) (F:List FrP) (L:List Sd) (hFL:F.length=L.length) (hL:L.length≤1000) (hst: ∀i,i<L.length→(fr F i).st=((sd L i).plate:Rat)) (hrg: ∀s∈L,rgd s=true)
  (hF: ∀m f,F[m]? =some f→An W gF (0+m*5) (frV f).cells.toList) (hS: ∀m,m<L.length→An W gS (0+m*7) (sd L m).cells) (ht:AJ W):
  Ad Tryz.prog 108 #[.slice (some ⟨gF,0,none⟩) F.length cF,slv (some ⟨gS,0,none⟩) L.length cS] W (fun V:Vec=>V.val (Eh L L.length).length) (fun V=>V.OK 1 (Eh L L.length).length (nS (Eh L L.length))) (fun V=>[V.bx 25 (nS (Eh L L.length))]):=by
 refine Ab (args:=[.slice (some ⟨gF,0,none⟩) F.length cF,slv (some ⟨gS,0,none⟩) L.length cS]) Tryz.func108 I I I ?_
 refine zA (zB (wP I (Aa (zE (zA (zB ?_))))))
 refine BI tH I I I I I ?_
 intro gE
 refine wP I (Aa (zE (zA (zA (zB (wP I (Aa (zE (zH ?_)))))))))
 refine Ar (X:=Nat×Vec) (fun s=>[(0, .slice (some ⟨gF,0,none⟩) F.length cF),(1,slv (some ⟨gS,0,none⟩) L.length cS),(5,s.2.val (Eh L s.1).length),(6, .int .i64 (s.1:Nat))]) (fun s=>[s.2.bx 25 (nS (Eh L s.1))])
  (fun s=>s.1≤L.length∧s.2.OK 1 (Eh L s.1).length (nS (Eh L s.1))) (fun s=>L.length-s.1) (0,⟨some gE,0,[]⟩)
  ⟨Nat.zero_le _,⟨rfl,(fun h=>by cases h),fun _=>⟨Nat.le_refl _,Nat.zero_le _,rfl⟩⟩⟩ ⟨rfl,rfl,rfl,rfl,trivial⟩ [] rfl ?_
 rintro⟨i,V⟩ ⟨hi,hV⟩
 have hi:i≤L.length:=hi
 have hV:V.OK 1 (Eh L i).length (nS (Eh L i)):=hV
 refine zA (zA (zB (wP I (wP I (wP I (wP I ?_))))))
 by_cases hlt:i<L.length
 ·refine wU 11 true I (dT (by omega)) (Aa (zE (zR I (zI (zE (zA (zH (zA (zB ?_)))))))))
  have hsm:=hrg _ (List.mem_of_getElem? (Ex hlt))
  have hsu:=Uv L hlt
  refine wP I (wP I ?_)
  refine wJ ?_
  refine wP I (wL 4 I I (fun W1 hp=>(hS i hlt).hp hp) I ?_)
  cases hg:(sd L i).gable with
  |true=>
   rw[hg,if_pos rfl] at hsu
   exact wP I (Aa (zE (zS I (zI (zN (zE (zB (wP I (wP I (wV 13 ((i+1:Nat):Int) I (At (by omega)) (wP I (Aa (Al (i+1,V) ⟨hlt,by rw[hsu];exact hV⟩ (by show L.length-(i+1)<L.length-i;omega) ⟨I,I,by rw[hsu];rfl,I,O⟩ _ (by show _=[V.bx _ (nS (Eh L (i+1)))]++_;rw[hsu];rfl))))))))))))))
  |false=>
   rw[hg,if_neg (by decide)] at hsu
   refine wP I (Aa (zE (zR I (zB ?_))))
   obtain⟨pO,cO,eO,hO⟩:=Vec.num hV
   have hz: ∀x∈Eh L i,Sz2 ((sd L i).plate:Rat) x:=fun x hx=>by
    obtain⟨s,hs,rfl⟩:=Wp hx
    exact sz2 (QD hsm) (QD (hrg s hs)) (by decide)
   have hlen:=WX L i
   have hfs:F[i]? =some (fr F i):=Fj (by omega)
   have hst':=hst i hlt
   rw[eO]
   refine wP I (wP I (wP I ?_))
   refine wJ ?_
   refine wP I (wL 4 I I (fun W1 hp=>(hF i _ hfs).hp hp) I ?_)
   refine Ak 25 (str (Ac ((sd L i).plate:Rat))) I (congrArg (fun q=>str (Ac q)) hst') ?_
   refine wD (X:=Option Vec) I I (fun W1 hp=>Lm W1 pO cO (Eh L i) ((sd L i).plate:Rat) (Ly L i) (by omega) hz (fun h0=>by
    obtain⟨g,e,h⟩:=hO h0
    exact⟨g,e,h hp 0 I⟩) (ht.hp hp)) ?_
   intro x hx
   cases x with
   |none=>
    have e:=Nc (Ly L i) (show _∈Eh L i from hx)
    rw[e] at hsu
    exact wP I (Aa (zN (zE (zB (wP I (wP I (wV 13 ((i+1:Nat):Int) I (At (by omega)) (wP I (Aa (Al (i+1,V) ⟨hlt,by rw[hsu];exact hV⟩ (by show L.length-(i+1)<L.length-i;omega) ⟨I,I,(by show some _=some (V.val (Eh L (i+1)).length);rw[hsu,eO];rfl),I,O⟩ _ (by show _=[V.bx _ (nS (Eh L (i+1)))]++_;rw[hsu])))))))))))
   |some V'=>
    have hx:V'.OK 1 (CE ((sd L i).plate:Rat) (Eh L i)).length (nS (CE ((sd L i).plate:Rat) (Eh L i))):=hx
    exact wP I (Aa (zN (zE (zB (wP I (wP I (wV 13 ((i+1:Nat):Int) I (At (by omega)) (wP I (Aa (Cu (i+1,V') ⟨hlt,by rw[hsu];exact hx⟩ (by show L.length-(i+1)<L.length-i;omega) ⟨I,I,(by show some _=some (V'.val (Eh L (i+1)).length);rw[hsu];rfl),I,O⟩ fun W hp=>hp.pick (l:=[V'.bx 25 (nS (Eh L (i+1)))]) [1] (by decide) (by rw[hsu];rfl)))))))))))
 ·have e:i=L.length:=by omega
  subst e
  refine wU 11 false I (dF (by omega)) (Aa (zE (zS I (zJ (zK (zK (zL (zE (zA (zB (wP I (wP I (Aa ?_)))))))))))))
  exact zE (zO (A9 tH I (.tmp I) V I hV fun W hp=>Av.of_hp1 hp 0 I))
-- BOXES 5
-- CODE2
theorem Ng (W:World) (p:Option Addr) (cap:Nat) (rs:List (List Sd)) (h:DZ W p rs):
  Ad Tryz.prog 42 #[AO p rs.length cap] W (fun V:Vec=> .tuple #[V.val (Ao rs).length, .int .i64 0]) (fun V=>V.OK 5 (Ao rs).length (frC (Ao rs))) (fun V=>[V.bx 48 (frC (Ao rs))]):=by
 obtain⟨hne,h24,h0⟩:=DL h.c
 obtain⟨hrg,_⟩:=Cr h.c
 have hR:=h.R
 refine Ab (args:=[AO p rs.length cap]) Tryz.func42 I I I ?_
 refine zA (zB ?_)
 (refine A3 rfl rfl rfl rfl ?_;intro)
 refine wP I (wP I (Aa ?_))
 rename_i b1
 refine zE (zA (zA (zB (wB 0 I I I (wC I I (fun W1 hp=>(Hg W1 p cap rs (by have:=h.n;omega) (by omega) (hR.hp hp)).cast (v':= .int .i64 0) (by rw[h.c])) (wP I (Aa (zE (zS I (zI (zE (zA (zB ?_)))))))))))))
 refine BI tH I I I I I ?_
 intro gE
 refine wP I (Aa (zE (zA (zA (zB (wP I (Aa (zE (zH ?_)))))))))
 refine Ar (X:=Nat×Vec) (fun s=>[(1,Ap b1),(4,s.2.val (Bb rs s.1).length),(5, .int .i64 (s.1:Nat))]) (fun s=>[bxE b1 24 (slv p rs.length cap),s.2.bx 48 (frC (Bb rs s.1))])
  (fun s=>s.1≤rs.length∧s.2.OK 5 (Bb rs s.1).length (frC (Bb rs s.1))) (fun s=>rs.length-s.1) (0,⟨some gE,0,[]⟩) ⟨Nat.zero_le _,⟨rfl,(fun h=>by cases h),fun _=>⟨Nat.le_refl _,Nat.zero_le _,rfl⟩⟩⟩ ⟨rfl,rfl,rfl,trivial⟩ [] rfl ?_
 rintro⟨k,V⟩ ⟨hk,hV⟩
 have hk:k≤rs.length:=hk
 have hV:V.OK 5 (Bb rs k).length (frC (Bb rs k)):=hV
 have hl:=Ic k hk
 have hn:=h.n
 refine zA (zA (zB (wP I (wP I (wB 0 I I I (wP I (wP I ?_)))))))
 by_cases hlt:k<rs.length
 ·refine wU 19 true I (dT (by omega)) (Aa (zE (zR I (zI (zE (zA (zH (zA (zB ?_)))))))))
  obtain⟨l,hle⟩: ∃l,l=rg rs k:=⟨_,rfl⟩
  have hs:=Bj hlt
  have hs1:=Cf rs (k+1)
  obtain⟨gR,oR,hpe,hrows⟩:=hR.row hlt
  obtain⟨q,c,hrow,hring⟩:=hrows k hlt
  rw[←hle] at hrow hring hs
  have hrl: ∀s∈l,rgd s=true:=fun s hs=>hrg l (by rw[hle];exact List.mem_of_getElem? (Bd hlt)) s hs
  have hln:l.length≤24:=by omega
  subst hpe
  refine wP I (wB 0 I I I (wP I ?_))
  refine wJ ?_
  refine wL 0 I I (fun W1 hp=>hrow.hp hp) I (wP I (Aa (zE (zA (zB (wP I (Aa (zE (zH ?_)))))))))
  refine Ar (X:=Nat×Vec) (fun s=>[(1,Ap b1),(4,s.2.val ((Bb rs k).length+s.1)),(5, .int .i64 (k:Nat)),(6,slv q l.length c),(7, .int .i64 (s.1:Nat))]) (fun s=>[bxE b1 24 (slv (some ⟨gR,oR,none⟩) rs.length cap),s.2.bx 48 (frC (Bb rs k++D4 l s.1))])
   (fun s=>s.1≤l.length∧s.2.OK 5 ((Bb rs k).length+s.1) (frC (Bb rs k++D4 l s.1))) (fun s=>l.length-s.1) (0,V) ⟨Nat.zero_le _,by show V.OK 5 _ (frC (Bb rs k++[]));rw[List.append_nil];exact hV⟩ ⟨rfl,rfl,rfl,rfl,rfl,trivial⟩ [] (congrArg (fun x=>[bxE b1 24 (slv (some ⟨gR,oR,none⟩) rs.length cap),V.bx 48 (frC x)]) (List.append_nil (Bb rs k)).symm) ?_
  rintro⟨i,U⟩ ⟨hi,hU⟩
  have hi:i≤l.length:=hi
  have hU:U.OK 5 ((Bb rs k).length+i) (frC (Bb rs k++D4 l i)):=hU
  refine zA (zA (zB (wP I (wP I (wP I (wP I ?_))))))
  by_cases hil:i<l.length
  ·refine wU 30 true I (dT (by omega)) (Aa ?_)
   obtain⟨gS,oS,hqe,hsd⟩:=hring.row hil
   have hs0:=hsd i hil
   have hs1:=hsd (nxt l.length i) (DP hil)
   have hnl:=DP hil
   have hsuc:=O7 l i
   subst hqe
   refine zE (zR I (zI (zE (Au (BJ (Au ?_))))))
   refine By (X:=Nat×Nat) [true,true,true,true,true,true,true,true,true,true,true,true,false,false,false,false] (fun x=>[(1,Ap b1),(4,U.val ((Bb rs k).length+i)),(5, .int .i64 (k:Nat)),(6,slv (some ⟨gS,oS,none⟩) l.length c),(7, .int .i64 (i:Nat)),(8,Ap x.1),(9,Ap x.2)])
    (fun x=>[bxE b1 24 (slv (some ⟨gR,oR,none⟩) rs.length cap),U.bx 48 (frC (Bb rs k++D4 l i)),⟨x.1,80,(sd l i).cells,true,none⟩,⟨x.2,80,(sd l (nxt l.length i)).cells,true,none⟩])
    4 [bxE b1 24 (slv (some ⟨gR,oR,none⟩) rs.length cap),U.bx 48 (frC (Bb rs k++D4 l i))] Tryz.mixed (by kernel_rfl) ?_ ?_
   ·refine qP I (qP I ?_)
    refine qJ ?_
    refine qL 0 I I (fun W1 hp=>hs0.hp hp) I (qP I (qP I (qP I (qV 39 ((i+1:Nat):Int) I (At (by omega)) (qP I (qP I ?_))))))
    refine EB I I I I I (by omega) ?_
    refine qV 42 (nxt l.length i:Nat) I (by rw[Int.tmod_eq_emod_of_nonneg (by omega)];exact(Int.natCast_emod _ _).symm) ?_
    refine qJ ?_
    refine qL 0 I I (fun W1 hp=>hs1.hp hp) I (CH (wX ?_))
    refine RS.cons ?_ (RS.cons ?_ (RS.nil))
    ·refine Ah Tryz.hZ rfl rfl rfl rfl ?_;intro b8
     refine Aa (Ag (wX (wZ ?_)))
     refine Ah Tryz.hZ rfl rfl rfl rfl ?_;intro b9
     refine Aa (Ag (wX (wZ (wS 2 I I I (Aa (Ag (wX (wZ (wS 3 I I I (Aa (Ag ?_)))))))))))
     refine Be I (by((repeat (first|refine Bh.same ?_|refine Bh.off I ?_));exact O)) ?_
     exact A6 (b8,b9) ⟨I,I,I,I,I,I,I,O⟩ [0,1,2,3] (by decide) I
    ·refine Ah Tryz.hZ rfl rfl rfl rfl ?_;intro b9
     refine Aa (Ag (wX (wZ ?_)))
     refine Ah Tryz.hZ rfl rfl rfl rfl ?_;intro b8
     refine Aa (Ag (wX (wZ (wS 3 I I I (Aa (Ag (wX (wZ (wS 2 I I I (Aa (Ag ?_)))))))))))
     refine Be I (by((repeat (first|refine Bh.same ?_|refine Bh.off I ?_));exact O)) ?_
     exact A6 (b8,b9) ⟨I,I,I,I,I,I,I,O⟩ [0,1,3,2] (by decide) I
   rintro⟨b8,b9⟩
   have hsm:=hrl _ (List.mem_of_getElem? (Ex hil))
   obtain⟨hx,hy,hpl,hgb⟩:=ED hsm
   refine zE (zA (zB (wP I (wB 2 I I I (wC I I (fun W1 hp=>EF (sd l i).plate (by omega) W1 (h.t.hp hp)) ?_)))))
   refine A5 Tryz.hZ tH I I I I I I I I ?_
   refine Ah Tryz.hZ I I I I ?_
   intro b10
   refine wS 4 I I I (Aa ?_)
   obtain⟨sp,hsp⟩: ∃q:Rat,q=if (sd l i).gable=true then 0 else nrm (sd l i).run (sd l i).rise:=⟨_,rfl⟩
   refine zE (zA (zA (zB (wP I (wB 2 I I I (wP I (Aa (A0 ?_))))))))
   try refine Au ?_
   refine A8 (X:=Unit) (fun _=>[(1,Ap b1),(4,U.val ((Bb rs k).length+i)),(5, .int .i64 (k:Nat)),(6,slv (some ⟨gS,oS,none⟩) l.length c),(7, .int .i64 (i:Nat)),(8,Ap b8),(9,Ap b9),(10,Ap b10)]) (fun _=>[bxE b1 24 (slv (some ⟨gR,oR,none⟩) rs.length cap),U.bx 48 (frC (Bb rs k++D4 l i)),⟨b8,80,(sd l i).cells,true,none⟩,⟨b9,80,(sd l (nxt l.length i)).cells,true,none⟩,⟨b10,48,[.bool false, .int .i64 0, .int .i64 0,str (Ac sp),str (Ac ((sd l i).plate:Rat))],true,none⟩]) (fun _=>True) ?_ ?_
   ·refine Af I (fun hg=> ?_) (fun hg=> ?_)
    ·have hg:(sd l i).gable=false:=by simpa using hg
     obtain⟨hrun,hrise⟩:=hgb hg
     rw[hg,if_neg (by decide)] at hsp
     have hq:((sd l i).run:Rat)/((sd l i).rise:Rat)=sp:=by rw[hsp,GZ _ (by omega)];exact(Rat.divInt_eq_div ..).symm
     have zr:szQ ((sd l i).run:Rat) 5:=EJ (k:=5) (by show _<100000;omega) (by decide)
     have zs:szQ ((sd l i).rise:Rat) 5:=EJ (k:=5) (by show _<100000;omega) (by decide)
     refine By (X:=Unit) [true,true,true,true,true,true,true,true,false] (fun _=>[(1,Ap b1),(4,U.val ((Bb rs k).length+i)),(5, .int .i64 (k:Nat)),(6,slv (some ⟨gS,oS,none⟩) l.length c),(7, .int .i64 (i:Nat)),(8,Ap b8),(9,Ap b9),(10,Ap b10)]) (fun _=>[bxE b1 24 (slv (some ⟨gR,oR,none⟩) rs.length cap),U.bx 48 (frC (Bb rs k++D4 l i)),⟨b8,80,(sd l i).cells,true,none⟩,⟨b9,80,(sd l (nxt l.length i)).cells,true,none⟩,⟨b10,48,[.bool false, .int .i64 0, .int .i64 0,str (Ac sp),str (Ac ((sd l i).plate:Rat))],true,none⟩])
      1 [bxE b1 24 (slv (some ⟨gR,oR,none⟩) rs.length cap),U.bx 48 (frC (Bb rs k++D4 l i)),⟨b8,80,(sd l i).cells,true,none⟩,⟨b9,80,(sd l (nxt l.length i)).cells,true,none⟩,⟨b10,48,[.bool false, .int .i64 0, .int .i64 0,str [48],str (Ac ((sd l i).plate:Rat))],true,none⟩] Tryz.mixed (by kernel_rfl) ?_ ?_
     ·refine qP I (qB 2 I I I (qC I I (fun W1 hp=>EF (sd l i).run (by omega) W1 (h.t.hp hp)) (qP I (qB 2 I I I (qC I I (fun W1 hp=>EF (sd l i).rise (by omega) W1 (h.t.hp hp)) (qC I I (fun W1 hp=>(Nn ((sd l i).run:Rat) ((sd l i).rise:Rat) (sz2 zr zs (by decide)) (by rw[Rat.num_intCast];omega) W1 (h.t.hp hp)).cast (v':=str (Ac sp)) (by rw[hq])) (qP I (CH (wX (wZ (wS 4 I I I (Aa (Ag ?_)))))))))))))
      refine AD I (by kernel_rfl) ?_
      exact A6 () ⟨I,I,I,I,I,I,I,I,O⟩ [0,1,2,3,4] (by decide) I
     intro _
     exact Aj () O ⟨I,I,I,I,I,I,I,I,O⟩ [] I
    ·have hg:(sd l i).gable=true:=by simpa using hg
     rw[hg,if_pos rfl] at hsp
     exact zI (Aj () O ⟨I,I,I,I,I,I,I,I,O⟩ [] (by rw[hsp,E2.2 (show(0:Rat).num=0 from I)];rfl))
   intro _ _
   have hlm:l∈rs:=by rw[hle];exact List.mem_of_getElem? (Bd hlt)
   obtain⟨_,hsh,_⟩:=Cr h.c
   have hax:=(Fa (fun s hs=>TU (hrl s hs)) (hsh _ hlm) hil).1
   obtain⟨f,hf⟩: ∃f,f=QM l i:=⟨_,rfl⟩
   have fsp:f.sp=sp:=by rw[hf,hsp];rfl
   have fst:f.st=((sd l i).plate:Rat):=by rw[hf];rfl
   have fax:f.ax=Ou (hdg (sd l i) (sd l (nxt l.length i))):=by rw[hf];rfl
   have fpos:f.pos=if Ou (hdg (sd l i) (sd l (nxt l.length i))) then(sd l i).x else(sd l i).y:=by rw[hf];rfl
   have fhd:f.hd=LY (hdg (sd l i) (sd l (nxt l.length i))):=by rw[hf];rfl
   refine zA (zA (zB (wP I (wB 2 I I I (wP I (wB 3 I I I (wP I (wU 64 (decide ((sd l i).y=(sd l (nxt l.length i)).y)) I (by rw[Bool.eq_iff_iff,beq_iff_eq,decide_eq_true_eq]) (Aa (A0 ?_))))))))))
   try refine Au ?_
   refine A8 (X:=Unit) (fun _=>[(1,Ap b1),(4,U.val ((Bb rs k).length+i)),(5, .int .i64 (k:Nat)),(6,slv (some ⟨gS,oS,none⟩) l.length c),(7, .int .i64 (i:Nat)),(10,Ap b10)]) (fun _=>[bxE b1 24 (slv (some ⟨gR,oR,none⟩) rs.length cap),U.bx 48 (frC (Bb rs k++D4 l i)),⟨b8,80,(sd l i).cells,true,none⟩,⟨b9,80,(sd l (nxt l.length i)).cells,true,none⟩,⟨b10,48,[.bool f.ax, .int .i64 f.pos, .int .i64 f.hd,str (Ac sp),str (Ac ((sd l i).plate:Rat))],true,none⟩]) (fun _=>True) ?_ ?_
   ·refine Af I (fun hyy=> ?_) (fun hyy=> ?_)
    ·have hyy:(sd l i).y=(sd l (nxt l.length i)).y:=of_decide_eq_true hyy
     refine zA (zB (wP I (wB 2 I I I (wP I (wS 4 I I I (wP I (wS 4 I I I (Aa (zE (zA (zB (wP I (wB 3 I I I ?_)))))))))))))
     refine wP I (wB 2 I I I (wP I ?_))
     by_cases hxx:(sd l (nxt l.length i)).x<(sd l i).x
     ·have hk:hdg (sd l i) (sd l (nxt l.length i))=2:=by unfold hdg;rw[if_neg (by omega),if_neg (by omega),if_pos hxx]
      exact wU 73 true I (dT hxx) (Aa (zE (zR I (zB (wP I (wS 4 I I I (Aa (Aj () O ⟨I,I,I,I,I,I,O⟩ [] (by rw[fax,fpos,fhd,hk];rfl)))))))))
     ·have hk:hdg (sd l i) (sd l (nxt l.length i))=0:=by unfold hdg;rw[if_pos (by omega)]
      exact wU 73 false I (dF hxx) (Aa (zE (zS I (zI (Aj () O ⟨I,I,I,I,I,I,O⟩ [] (by rw[fax,fpos,fhd,hk];rfl))))))
    ·have hyy: ¬(sd l i).y=(sd l (nxt l.length i)).y:=of_decide_eq_false hyy
     refine Au ?_
     refine By (X:=Unit) [true,true,true,false,false,false,false,false] (fun _=>[(1,Ap b1),(4,U.val ((Bb rs k).length+i)),(5, .int .i64 (k:Nat)),(6,slv (some ⟨gS,oS,none⟩) l.length c),(7, .int .i64 (i:Nat)),(8,Ap b8),(9,Ap b9),(10,Ap b10)]) (fun _=>[bxE b1 24 (slv (some ⟨gR,oR,none⟩) rs.length cap),U.bx 48 (frC (Bb rs k++D4 l i)),⟨b8,80,(sd l i).cells,true,none⟩,⟨b9,80,(sd l (nxt l.length i)).cells,true,none⟩,⟨b10,48,[.bool true, .int .i64 (sd l i).x, .int .i64 (-1),str (Ac sp),str (Ac ((sd l i).plate:Rat))],true,none⟩])
      5 [bxE b1 24 (slv (some ⟨gR,oR,none⟩) rs.length cap),U.bx 48 (frC (Bb rs k++D4 l i)),⟨b8,80,(sd l i).cells,true,none⟩,⟨b9,80,(sd l (nxt l.length i)).cells,true,none⟩,⟨b10,48,[.bool false, .int .i64 0, .int .i64 0,str (Ac sp),str (Ac ((sd l i).plate:Rat))],false,none⟩] Tryz.mixed (by kernel_rfl) ?_ ?_
     ·refine qP I (qB 2 I I I (qP I (CH (wX (wZ (wS 4 I I I (Aa (Ag (wX (wZ (wP I (Aa (Ag ?_)))))))))))))
      refine wX (wZ (wS 4 I I I (Aa (Ag (wX (wZ (wP I (Aa (Ag (wX (wZ (wS 4 I I I (Aa ?_)))))))))))))
      refine Ag ?_
      refine Be I (by((repeat (first|refine Bh.same ?_|refine Bh.off I ?_));exact O)) ?_
      exact A6 () ⟨I,I,I,I,I,I,I,I,O⟩ [0,1,2,3,4] (by decide) I
     intro _
     refine zE (zA (zB (wP I (wB 3 I I I (wP I (wB 2 I I I (wP I ?_)))))))
     by_cases hyl:(sd l (nxt l.length i)).y<(sd l i).y
     ·have hk:hdg (sd l i) (sd l (nxt l.length i))=3:=by unfold hdg;rw[if_neg (by omega),if_neg (by omega),if_neg (by omega)]
      exact wU 84 true I (dT hyl) (Aa (zE (zR I (zB (wP I (wS 4 I I I (Aa (Aj () O ⟨I,I,I,I,I,I,O⟩ [] (by rw[fax,fpos,fhd,hk];rfl)))))))))
     ·have hk:hdg (sd l i) (sd l (nxt l.length i))=1:=by unfold hdg;rw[if_neg (by omega),if_pos (by omega)]
      exact wU 84 false I (dF hyl) (Aa (zE (zS I (zI (Aj () O ⟨I,I,I,I,I,I,O⟩ [] (by rw[fax,fpos,fhd,hk];rfl))))))
   intro _ _
   refine zB (wP I (wB 4 I I I ?_))
   refine As Tryz.hZ tH I I I I I I I I I I I fun bN=> ?_
   refine AB (V:=U) (len:=(Bb rs k).length+i) (xs:=frC (Bb rs k++D4 l i)) 1 5 Tryz.vec63 ((Bb rs k).length+(i+1)) (frC (Bb rs k++D4 l (i+1))) I I I I I I I I I I I hU I I I (by rw[hsuc, ←List.append_assoc,PF (Bb rs k++D4 l i), ←hf, ←fsp, ←fst];rfl) (by simp only[maxLen];omega) (by omega) I ?_
   intro gV cV jV hV1
   exact wP I (Aa (zN (zE (zB (wP I (wP I (wV 32 ((i+1:Nat):Int) I (At (by omega)) (wP I (Aa (Al (i+1,⟨some gV,cV,jV⟩) ⟨hil,hV1⟩ (by show l.length-(i+1)<l.length-i;omega) ⟨I,I,I,I,I,O⟩ _ I))))))))))
  ·have e:i=l.length:=by omega
   subst e
   refine wU 30 false I (dF (by omega)) (Aa (zE (zS I (zJ (zK (zK (zL (zN (zE (zB ?_))))))))))
   have hall:Bb rs (k+1)=Bb rs k++D4 l l.length:=by rw[hle];rfl
   have hall2:(Bb rs (k+1)).length=(Bb rs k).length+l.length:=by rw[hall,List.length_append,MG]
   exact wP I (wP I (wV 21 ((k+1:Nat):Int) I (At (by omega)) (wP I (Aa (Al (k+1,U) ⟨hlt,by show U.OK 5 (Bb rs (k+1)).length (frC (Bb rs (k+1)));rw[hall2,hall];exact hU⟩ (by show rs.length-(k+1)<rs.length-k;omega) ⟨I,(by show some (U.val _)=some (U.val (Bb rs (k+1)).length);rw[hall2]),I,O⟩ _ (by show _=[_,U.bx _ (frC (Bb rs (k+1)))]++_;rw[hall];rfl))))))
 ·have e:k=rs.length:=by omega
  subst e
  refine wU 19 false I (dF (by omega)) (Aa (zE (zS I (zJ (zK (zK (zL (zE (zA (zB (wP I (wP I (wP I ?_)))))))))))))
  exact Aa (zE (zO (AK tH I (.tmp I) (.tmp I) V I hV fun W1 hp=>Av.of_hp (hp.pick (l:=[V.bx 48 (frC (Bb rs rs.length))]) [1] (by decide) I))))
end
section
theorem WH {f:FrP} {a b:Rat} (hab:a≤b) (h:f.st≤a∨b≤f.st):f.at b=f.at a+f.velA a*(b-a):=by
 unfold FrP.at FrP.velA
 rcases h with h|h
 ·rw[if_neg (show¬a<f.st by grind)]
  by_cases h1:b≤f.st
  ·have e1:b=f.st:=by grind
   have e2:a=f.st:=by grind
   rw[if_pos h1,if_pos (by grind)]
   grind
  ·rw[if_neg h1]
   by_cases h2:a≤f.st
   ·have e2:a=f.st:=by grind
    rw[if_pos h2]
    grind
   ·rw[if_neg h2]
    grind
 ·rw[if_pos h,if_pos (show a≤f.st by grind)]
  by_cases h2:a<f.st
  ·rw[if_pos h2];grind
  ·rw[if_neg h2]
   have e:b=a:=by grind
   grind
def Qa (f g:FrP) (t:Rat):Rat:=t-(f.at t-g.at t)/(f.velA t-g.velA t)
theorem VT {f g:FrP} {a z:Rat} (haz:a<z) (hf:f.st≤a∨z≤f.st) (hg:g.st≤a∨z≤g.st) (he:f.at z=g.at z) (hv:f.velA a≠g.velA a):z=Qa f g a:=by
 have h1:=WH (f:=f) (show a≤z by grind) hf
 have h2:=WH (f:=g) (show a≤z by grind) hg
 have hv':f.velA a-g.velA a≠0:=fun e=>hv (by grind)
 have h3:(f.velA a-g.velA a)*(a-z)=f.at a-g.at a:=by grind
 have h4:(f.at a-g.at a)/(f.velA a-g.velA a)=a-z:=by
  rw[←h3,Rat.mul_comm,Rat.div_def,Rat.mul_assoc,Rat.mul_inv_cancel _ hv',Rat.mul_one]
 unfold Qa
 rw[h4]
 grind
theorem OF {f:FrP} {a z:Rat} (haz:a<z) (h:f.st≤a∨z<f.st):f.velA z=f.velA a:=by
 unfold FrP.velA
 rcases h with h|h
 ·rw[if_neg (show¬z<f.st by grind),if_neg (show¬a<f.st by grind)]
 ·rw[if_pos h,if_pos (show a<f.st by grind)]
theorem IG {f:FrP} {z:Rat} (h:z≠f.st):f.velB z=f.velA z:=by
 unfold FrP.velB FrP.velA
 by_cases c:z<f.st
 ·rw[if_pos c,if_neg (by grind)]
 ·rw[if_neg c,if_pos (by grind)]
theorem WK {f g:FrP} {z:Rat} (hf:z<f.st) (hg:z<g.st):Da f g z=false:=by
 have e1:f.velA z=0:=by unfold FrP.velA;rw[if_pos hf]
 have e2:g.velA z=0:=by unfold FrP.velA;rw[if_pos hg]
 unfold Da
 rw[IG (by grind),IG (by grind),e1,e2]
 simp
theorem Nk {f g:FrP} {a z:Rat} (haz:a<z) (hf:f.st≤a∨z<f.st) (hg:g.st≤a∨z<g.st) (h:Da f g z=true):f.velA a≠g.velA a∧z=Qa f g a:=by
 have hzf:z≠f.st:=by rcases hf with c|c<;>grind
 have hzg:z≠g.st:=by rcases hg with c|c<;>grind
 unfold Da at h
 rw[IG hzf,IG hzg,Bool.or_self,Bool.and_eq_true,decide_eq_true_eq,decide_eq_true_eq,OF haz hf,OF haz hg] at h
 exact⟨h.2,VT haz (hf.imp id (fun c=>by grind)) (hg.imp id (fun c=>by grind)) h.1 h.2⟩
end
section
def loS (f g:FrP):Rat:=if g.st<f.st then g.st else f.st
def hiS (f g:FrP):Rat:=if g.st<f.st then f.st else g.st
def anc (f g:FrP) (i:Nat):Rat:=if i=0 then loS f g else hiS f g
def Gu (f g:FrP) (i:Nat):Rat:=Qa f g (anc f g i)
def crB (f g:FrP) (i:Nat):Bool:=decide (f.velA (anc f g i)≠g.velA (anc f g i))&&(decide (anc f g i<Gu f g i)&&(decide (i=1)||decide (Gu f g i<hiS f g)))
def Bv (f g:FrP) (i:Nat):List Rat:=[f.st,g.st]++((List.range i).filter (crB f g)).map (Gu f g)
theorem KB (f g:FrP) (i:Nat):Bv f g (i+1)=Bv f g i++if crB f g i=true then[Gu f g i] else[]:=by
 unfold Bv
 rw[List.range_succ,List.filter_append,List.map_append, ←List.append_assoc]
 congr 1
 show List.map _ (List.filter _ [i])=_
 rw[List.filter_cons]
 cases crB f g i<;>rfl
theorem HX (f g:FrP) (i:Nat):(Bv f g i).length≤2+i:=by
 unfold Bv
 have:=List.length_filter_le (crB f g) (List.range i)
 rw[List.length_range] at this
 rw[List.length_append,List.length_map]
 simp only[List.length_cons,List.length_nil]
 omega
theorem TJ {f g:FrP} {z:Rat}:z∈Bv f g 2↔z=f.st∨z=g.st∨(crB f g 0=true∧z=Gu f g 0)∨(crB f g 1=true∧z=Gu f g 1):=by
 rw[KB,KB,show Bv f g 0=[f.st,g.st] from rfl]
 cases crB f g 0<;>cases crB f g 1<;>simp
theorem Wu {f g:FrP} {z:Rat} (h:Da f g z=true):z∈Bv f g 2:=by
 rw[TJ]
 by_cases e1:z=f.st
 ·exact .inl e1
 by_cases e2:z=g.st
 ·exact .inr (.inl e2)
 have hlo:loS f g≤f.st∧loS f g≤g.st∧(loS f g=f.st∨loS f g=g.st):=by
  unfold loS
  by_cases c:g.st<f.st
  ·rw[if_pos c];exact⟨by grind,by grind, .inr rfl⟩
  ·rw[if_neg c];exact⟨by grind,by grind, .inl rfl⟩
 have hhi:f.st≤hiS f g∧g.st≤hiS f g∧(hiS f g=f.st∨hiS f g=g.st):=by
  unfold hiS
  by_cases c:g.st<f.st
  ·rw[if_pos c];exact⟨by grind,by grind, .inl rfl⟩
  ·rw[if_neg c];exact⟨by grind,by grind, .inr rfl⟩
 have hboth:(loS f g=f.st∧hiS f g=g.st)∨(loS f g=g.st∧hiS f g=f.st):=by
  unfold loS hiS
  by_cases c:g.st<f.st
  ·rw[if_pos c,if_pos c];exact .inr ⟨rfl,rfl⟩
  ·rw[if_neg c,if_neg c];exact .inl ⟨rfl,rfl⟩
 have n1:z≠loS f g:=by rcases hlo.2.2 with e|e<;>rw[e]<;>assumption
 have n2:z≠hiS f g:=by rcases hhi.2.2 with e|e<;>rw[e]<;>assumption
 by_cases c1:z<loS f g
 ·rw[WK (show z<f.st by grind) (show z<g.st by grind)] at h
  cases h
 have c1:loS f g<z:=by grind
 by_cases c2:z<hiS f g
 ·have hs:(f.st≤loS f g∨z<f.st)∧(g.st≤loS f g∨z<g.st):=by
   rcases hboth with⟨a,b⟩|⟨a,b⟩
   ·exact⟨.inl (by grind), .inr (by grind)⟩
   ·exact⟨.inr (by grind), .inl (by grind)⟩
  obtain⟨h1,h2⟩:=Nk c1 hs.1 hs.2 h
  refine .inr (.inr (.inl ⟨?_,h2⟩))
  have e:anc f g 0=loS f g:=rfl
  unfold crB
  rw[show Gu f g 0=z from h2.symm,e,dT h1,dT c1,dT c2]
  rfl
 ·have c2:hiS f g<z:=by grind
  obtain⟨h1,h2⟩:=Nk c2 (.inl hhi.1) (.inl hhi.2.1) h
  refine .inr (.inr (.inr ⟨?_,h2⟩))
  have e:anc f g 1=hiS f g:=rfl
  unfold crB
  rw[show Gu f g 1=z from h2.symm,e,dT h1,dT c2]
  rfl
def Bs (f g:FrP) (i:Nat):List Rat:=EE [] (((Bv f g 2).take i).filter (Da f g))
theorem Ih (f g:FrP) (i:Nat):(Bs f g i).Pairwise (· < ·):=Cy _ _ List.Pairwise.nil
theorem Xe (f g:FrP) (i:Nat):(Bs f g i).length≤4:=by
 have h1:=EX (((Bv f g 2).take i).filter (Da f g)) []
 have h2:=List.length_filter_le (Da f g) ((Bv f g 2).take i)
 have h3:=HX f g 2
 rw[List.length_take] at h2
 have h1:(Bs f g i).length≤0+(((Bv f g 2).take i).filter (Da f g)).length:=h1
 omega
theorem X0 {f g:FrP} {i:Nat} {x:Rat} (h:x∈Bs f g i):x∈(Bv f g 2).take i:=by
 rcases(Dn _ _).1 h with h|h
 ·cases h
 ·exact(List.mem_filter.1 h).1
theorem Vq (f g:FrP) {i:Nat} (hi:i<(Bv f g 2).length):Bs f g (i+1)=if Da f g (Bv f g 2)[i]=true then CE (Bv f g 2)[i] (Bs f g i) else Bs f g i:=by
 unfold Bs
 rw[List.take_add_one,List.getElem?_eq_getElem hi,List.filter_append]
 show EE [] (_++List.filter _ [_])=_
 rw[List.filter_cons,List.filter_nil]
 cases Da f g (Bv f g 2)[i]
 ·show EE [] (_++[])=_
  rw[List.append_nil];rfl
 ·exact KR _ _ _
theorem WU (f g:FrP):Bs f g (Bv f g 2).length=eqL f g:=
 F0 (Ih f g _) (To f g) fun z=>by
  unfold Bs
  rw[List.take_length,Dn,List.mem_filter]
  constructor
  ·rintro(h|h)
   ·cases h
   ·exact UD h.2
  ·exact fun h=> .inr ⟨Wu (LU.1 h).2,(LU.1 h).2⟩
theorem YZ {l:List Rat} {z:Rat} (hs:l.Pairwise (· < ·)) {k:Nat} (hk:k≤l.length) (h1: ∀j (hj:j<l.length),j<k→l[j]<z) (h2: ∀hj:k<l.length,z<l[k]):l.take k++[z]++l.drop k=CE z l:=by
 refine F0 ?_ (DY hs) fun x=> ?_
 ·have hup: ∀y∈l.drop k,z<y:=fun y hy=>by
   obtain⟨j,hj,rfl⟩:=List.getElem_of_mem hy
   rw[List.length_drop] at hj
   rw[List.getElem_drop]
   have h3:=h2 (by omega)
   rcases Nat.eq_zero_or_pos j with e|e
   ·subst e;exact h3
   ·have:=List.pairwise_iff_getElem.1 hs k (k+j) (by omega) (by omega) (by omega)
    grind
  have hlo: ∀x∈l.take k,x<z:=fun x hx=>by
   obtain⟨j,hj,rfl⟩:=List.getElem_of_mem hx
   rw[List.length_take] at hj
   rw[List.getElem_take]
   exact h1 j (by omega) (by omega)
  refine List.pairwise_append.2 ⟨List.pairwise_append.2 ⟨hs.sublist (List.take_sublist ..),List.pairwise_singleton ..,fun x hx y hy=> ?_⟩,hs.sublist (List.drop_sublist ..),fun x hx y hy=> ?_⟩
  ·rw[List.mem_singleton.1 hy];exact hlo x hx
  ·have:=hup y hy
   rcases List.mem_append.1 hx with h|h
   ·have:=hlo x h;grind
   ·rw[List.mem_singleton.1 h];exact this
 ·rw[F8,List.mem_append,List.mem_append,List.mem_singleton]
  conv=>rhs;rw[←List.take_append_drop k l,List.mem_append]
  constructor
  ·rintro((h|h)|h)
   ·exact .inr (.inl h)
   ·exact .inl h
   ·exact .inr (.inr h)
  ·rintro(h|h|h)
   ·exact .inl (.inr h)
   ·exact .inl (.inl h)
   ·exact .inr h
end
section
open Go Go.RowKit Go.Am Go.Lib
set_option maxRecDepth 10000
-- BOXES 7
-- CODE2
structure X1 (f g:FrP) (k:Nat):Prop where
 an: ∀i,i<2→szQ (anc f g i) k
 at_: ∀i,i<2→Sz2 (f.at (anc f g i)) (g.at (anc f g i))
 v: ∀i,i<2→Sz2 (f.velA (anc f g i)) (g.velA (anc f g i))
 q: ∀i,i<2→Sz2 (f.at (anc f g i)-g.at (anc f g i)) (f.velA (anc f g i)-g.velA (anc f g i))
 s: ∀i,i<2→f.velA (anc f g i)≠g.velA (anc f g i)→Sz2 (anc f g i) ((f.at (anc f g i)-g.at (anc f g i))/(f.velA (anc f g i)-g.velA (anc f g i)))
 c: ∀i,i<2→f.velA (anc f g i)≠g.velA (anc f g i)→Sz2 (Gu f g i) (anc f g i)
 h:f.velA (anc f g 0)≠g.velA (anc f g 0)→Sz2 (Gu f g 0) (hiS f g)
 m: ∀z∈Bv f g 2,szQ z k
 pr:(Bv f g 2).Pairwise Sz2
theorem Yt {R:Rat→Rat→Prop} {l:List Rat} (h:l.Pairwise R) {i:Nat} (hi:i<l.length): ∀x∈l.take i,R x l[i]:=fun x hx=>by
 obtain⟨j,hj,rfl⟩:=List.getElem_of_mem hx
 rw[List.length_take] at hj
 rw[List.getElem_take]
 exact List.pairwise_iff_getElem.1 h j i (by omega) hi (by omega)
theorem St {W0 W:World} {bxs:List Bx} (hp:Hp W0 bxs W) (k:Nat) {g i:Nat} {l:List Rat} {junk:List Value} (hk:nth bxs k=some ⟨g,25,nS l++junk,true,none⟩) (hi:i<l.length):An W g (0+i*1) [str (Ac l[i])]:=
 CO hp k (A:=nS (l.take i)) (B:=[str (Ac l[i])]) (C:=nS (l.drop (i+1))++junk) hk (by rw[Iu hi,List.append_assoc,List.append_assoc]) (by rw[C8,List.length_take];omega)
theorem WR {l:List Rat}: ∀u∈nS l,u.oneCell'=true:=fun u hu=>by
 obtain⟨q,_,rfl⟩:=List.mem_map.1 hu
 rfl
theorem PQ (f g:FrP) (hf:f.OK) (hg:g.OK) (hax:f.ax=g.ax) (a k:Nat) (ha:szQ f.sp a) (hb:szQ f.st a) (ha':szQ g.sp a) (hb':szQ g.st a) (hz:X1 f g k) (hk1:a+a+k+9≤300) (hk2:a+a+1≤300) (W:World) (ht:AJ W):
  Ad Tryz.prog 44 #[frV f,frV g] W (fun V:Vec=> .tuple #[V.val (eqL f g).length, .int .i64 0]) (fun V=>V.OK 1 (eqL f g).length (nS (eqL f g))) (fun V=>[V.bx 25 (nS (eqL f g))]):=by
 refine Ab (args:=[frV f,frV g]) Tryz.func44 I I I ?_
 refine zA (zB ?_)
 (refine A3 rfl rfl rfl rfl ?_;intro)
 (refine A3 rfl rfl rfl rfl ?_;intro)
 refine wP I (wP I (Aa ?_))
 rename_i b2 b3
 refine zE (zA (zA (zB (wB 0 I I I (wC I I (fun W1 hp=>Gp f hf W1 (ht.hp hp)) (wP I (wP I (wB 1 I I I (wC I I (fun W1 hp=>Gp g hg W1 (ht.hp hp)) (wP I (wP I (Aa (zE ?_)))))))))))))
 refine zS I (zI (zE (zA (zA (zB (wP I (wB 0 I I I (wP I (wB 1 I I I ?_)))))))))
 refine CX Tryz.underlying4 I I I I I I ?_
 refine wU 31 false I (by rw[hax];simp) (Aa (zE (zS I (zI (zE (zA (zB (wP I (wB 0 I I I (wP I (wB 1 I I I ?_)))))))))))
 refine As Tryz.hZ tH I I I I I I I I I I I fun b36=> ?_
 refine wP I (Aa (zE (zA (zU (qP I (qB 0 I I I (qP I (qB 1 I I I (qP I (qP I (A4 (Aa (zE ?_)))))))))))))
 refine zA (zA (zB (wP I (wP I (wC I I (fun W1 hp=>Dh f.st g.st (sz2 hb hb' hk2) W1 (ht.hp hp)) (wP I (wU 44 (decide (g.st<f.st)) I (Fb f.st g.st) (Aa (A0 ?_)))))))))
 refine A8 (X:=Unit) (fun _=>[(2,Ap b2),(3,Ap b3),(6, .slice (some ⟨b36,0,none⟩) 2 2),(7,str (Ac (loS f g))),(8,str (Ac (hiS f g)))]) (fun _=>[frB b2 f,frB b3 g,⟨b36,25,[str (Ac f.st),str (Ac g.st)],true,none⟩]) (fun _=>True) ?_ ?_
 ·refine Af I (fun hc=> ?_) (fun hc=> ?_)
  ·have hc:g.st<f.st:=of_decide_eq_true hc
   have e1:loS f g=g.st:=if_pos hc
   have e2:hiS f g=f.st:=if_pos hc
   rw[e1,e2]
   exact zB (wP I (wP I (wP I (wP I (Aa (Aj () O ⟨I,I,I,I,I,O⟩ [] I))))))
  ·have hc: ¬g.st<f.st:=of_decide_eq_false hc
   have e1:loS f g=f.st:=if_neg hc
   have e2:hiS f g=g.st:=if_neg hc
   rw[e1,e2]
   exact zI (Aj () O ⟨I,I,I,I,I,O⟩ [] I)
 intro _ _
 refine zA (zA (zB (wP I (wP I ?_))))
 refine As Tryz.hZ tH I I I I I I I I I I I fun b49=> ?_
 refine wP I (wP I (Aa (zE (zH ?_))))
 refine Ar (X:=Nat×Nat×Nat×List Value) (fun s=>[(2,Ap b2),(3,Ap b3),(6, .slice (some ⟨s.2.1,0,none⟩) (Bv f g s.1).length s.2.2.1),(8,str (Ac (hiS f g))),(49, .slice (some ⟨b49,0,none⟩) 2 2),(50, .int .i64 2),(51, .int .i64 (s.1:Nat))])
  (fun s=>[frB b2 f,frB b3 g,⟨s.2.1,25,nS (Bv f g s.1)++s.2.2.2,true,none⟩,⟨b49,25,[str (Ac (loS f g)),str (Ac (hiS f g))],true,none⟩])
  (fun s=>s.1≤2∧(⟨some s.2.1,s.2.2.1,s.2.2.2⟩:Vec).OK 1 (Bv f g s.1).length (nS (Bv f g s.1))) (fun s=>2-s.1) (0,b36,2,[]) ⟨Nat.zero_le 2,⟨rfl,(fun h=>by cases h),fun _=>⟨Nat.le_refl _,(show 2≤maxLen by decide),rfl⟩⟩⟩ ⟨rfl,rfl,rfl,rfl,rfl,rfl,rfl,trivial⟩ [] rfl ?_
 rintro⟨i,gV,cV,jV⟩ ⟨hi,hV⟩
 have hi:i≤2:=hi
 have hV:(⟨some gV,cV,jV⟩:Vec).OK 1 (Bv f g i).length (nS (Bv f g i)):=hV
 refine zA (zB (wP I ?_))
 by_cases hlt:i<2
 ·refine wU 52 true I (dT (by omega)) (Aa (zE (zA (zR I (zI (zE (zA (zH (zA (zB ?_))))))))))
  have hsu:=KB f g i
  have hln:=HX f g i
  obtain⟨z,hze⟩: ∃z,z=anc f g i:=⟨_,rfl⟩
  have zan:=hz.an i hlt
  have zat:=hz.at_ i hlt
  have zv:=hz.v i hlt
  have zq:=hz.q i hlt
  have zs:=hz.s i hlt
  have zc:=hz.c i hlt
  have hcr:Gu f g i=z-(f.at z-g.at z)/(f.velA z-g.velA z):=by rw[hze];rfl
  have hcb:crB f g i=(decide (f.velA z≠g.velA z)&&(decide (z<Gu f g i)&&(decide (i=1)||decide (Gu f g i<hiS f g)))):=by rw[hze];rfl
  rw[←hze] at zan zat zv zq zs zc
  have hrow: ∀ {W0 W:World} {bxs:List Bx},Hp W0 bxs W→nth bxs 3=some ⟨b49,25,[str (Ac (loS f g)),str (Ac (hiS f g))],true,none⟩→An W b49 (0+i*1) [str (Ac z)]:=fun hp h3=>by
   rcases(show i=0∨i=1 by omega) with e|e
   ·subst e;rw[hze];exact CO hp 3 (A:=[]) (B:=[str (Ac (loS f g))]) (C:=[str (Ac (hiS f g))]) h3 rfl rfl
   ·subst e;rw[hze];exact CO hp 3 (A:=[str (Ac (loS f g))]) (B:=[str (Ac (hiS f g))]) (C:=[]) h3 rfl rfl
  refine wP I ?_
  refine wJ ?_
  refine wL 0 I I (fun W1 hp=>hrow hp I) I (wP I (wP I (Aa (zE (zA (zU (qB 0 I I I (qP I (qC I I (fun W1 hp=>CT f hf z a a k ha hb zan hk1 W1 (ht.hp hp)) (qB 1 I I I (qP I (qC I I (fun W1 hp=>CT g hg z a a k ha' hb' zan hk1 W1 (ht.hp hp)) (qC I I (fun W1 hp=>FP (f.at z) (g.at z) zat W1 (ht.hp hp)) ?_)))))))))))))
  refine qP I (A4 (Aa (zE (zA (zU (qB 0 I I I (qP I (qC I I (fun W1 hp=>(Dq f hf z a k hb zan (by omega) true W1 (ht.hp hp)).cast (v':=str (Ac (f.velA z))) I) (qB 1 I I I (qP I (qC I I (fun W1 hp=>(Dq g hg z a k hb' zan (by omega) true W1 (ht.hp hp)).cast (v':=str (Ac (g.velA z))) I) (qC I I (fun W1 hp=>FP (f.velA z) (g.velA z) zv W1 (ht.hp hp)) (qP I ?_)))))))))))))
  refine A4 (Aa (zE (zA (zA (zB (wP I (wP I ?_)))))))
  by_cases hv0:f.velA z-g.velA z=0
  ·have e0:crB f g i=false:=by rw[hcb,dF (show¬f.velA z≠g.velA z by grind)];rfl
   rw[e0,if_neg (by decide),List.append_nil] at hsu
   exact wU 71 true I ((AH _ _).trans ((EY _).trans (dT hv0))) (Aa (zE (zR I (zJ (zK (zL (zE (zB (wP I (wV 95 ((i+1:Nat):Int) I (At (by omega)) (wP I (Aa (Al (i+1,gV,cV,jV) ⟨hlt,by show(⟨some gV,cV,jV⟩:Vec).OK 1 (Bv f g (i+1)).length (nS (Bv f g (i+1)));rw[hsu];exact hV⟩ (by show 2-(i+1)<2-i;omega) ⟨I,I,(by show _=some (Value.slice (some ⟨gV,0,none⟩) (Bv f g (i+1)).length cV);rw[hsu];rfl),I,I,I,I,O⟩ [] (by show _=[frB b2 f,frB b3 g,(⟨gV,25,nS (Bv f g (i+1))++jV,true,none⟩:Bx),_]++[];rw[hsu];rfl))))))))))))))
  have hv1:f.velA z≠g.velA z:=by grind
  refine wU 71 false I ((AH _ _).trans ((EY _).trans (dF hv0))) (Aa (zE (zS I (zI (zE (zA (zB (wP I (wP I (wP I (wC I I (fun W1 hp=>Nn (f.at z-g.at z) (f.velA z-g.velA z) zq (Qq hv0) W1 (ht.hp hp)) (wC I I (fun W1 hp=>(FP z _ (zs hv1) W1 (ht.hp hp)).cast (v':=str (Ac (Gu f g i))) (by rw[hcr])) (wP I ?_)))))))))))))
  refine Aa (A0 (Au ?_))
  refine A8 (X:=Unit) (fun _=>[(2,Ap b2),(3,Ap b3),(6, .slice (some ⟨gV,0,none⟩) (Bv f g i).length cV),(8,str (Ac (hiS f g))),(13,str (Ac (Gu f g i))),(49, .slice (some ⟨b49,0,none⟩) 2 2),(50, .int .i64 2),(51, .int .i64 (i:Nat)),(90, .bool (crB f g i))])
   (fun _=>[frB b2 f,frB b3 g,⟨gV,25,nS (Bv f g i)++jV,true,none⟩,⟨b49,25,[str (Ac (loS f g)),str (Ac (hiS f g))],true,none⟩]) (fun _=>True) ?_ ?_
  ·refine zB (wP I (wP I (wC I I (fun W1 hp=>Dh (Gu f g i) z (zc hv1) W1 (ht.hp hp)) (wP I ?_))))
   rw[hcb,dT hv1,Bool.true_and]
   by_cases h1:z<Gu f g i
   ·rw[dT h1,Bool.true_and]
    refine wU 80 true I ((Fb _ _).trans (dT h1)) (wP I (wP I (wP I ?_)))
    by_cases e1:i=1
    ·rw[dT e1,Bool.true_or]
     refine wU 83 true I (beq_iff_eq.2 (by omega)) (wP I ?_)
     iterate 4 refine Ae I I ?_
     exact wP I (wP I (Aa (Aj () O ⟨I,I,I,I,I,I,I,I,I,O⟩ [] I)))
    ·rw[dF e1,Bool.false_or]
     have e0:i=0:=by omega
     exact wU 83 false rfl (beq_eq_false_iff_ne.2 (by omega)) (wP rfl (wP rfl (wP rfl (wC rfl rfl (fun W1 hp=>(by subst e0;rw[hze] at hv1;exact Dh (Gu f g 0) (hiS f g) (hz.h hv1) W1 (ht.hp hp))) (wP rfl (wU 88 (decide (Gu f g i<hiS f g)) rfl (by rw[e0];exact DA _ _) (wP rfl (wP rfl (Aa (Aj () trivial ⟨rfl,rfl,rfl,rfl,rfl,rfl,rfl,rfl,rfl,trivial⟩ [] rfl))))))))))
   ·rw[dF h1,Bool.false_and]
    refine wU 80 false I ((Fb _ _).trans (dF h1)) (wP I ?_)
    iterate 8 refine Ae I I ?_
    exact wP I (Aa (Aj () O ⟨I,I,I,I,I,I,I,I,I,O⟩ [] I))
  intro _ _
  refine Af I (fun hc=> ?_) (fun hc=> ?_)
  ·have hc:crB f g i=true:=hc
   rw[hc,if_pos rfl] at hsu
   refine zB (wP I (wP I ?_))
   refine As Tryz.hZ tH I I I I I I I I I I I fun bS=> ?_
   refine AB (V:=⟨some gV,cV,jV⟩) (len:=(Bv f g i).length) (xs:=nS (Bv f g i)) 2 4 Tryz.vec31 (Bv f g (i+1)).length (nS (Bv f g (i+1))) I I I I I I I I I I I hV I I (by rw[hsu,List.length_append];rfl) (by rw[hsu,D6];rfl) (by have:=HX f g (i+1);simp only[maxLen];omega) (by have:=HX f g (i+1);omega) I ?_
   intro g1 c1 j1 hV1
   exact wP I (Aa (zN (zE (zB (wP I (wV 95 ((i+1:Nat):Int) I (At (by omega)) (wP I (Aa (Al (i+1,g1,c1,j1) ⟨hlt,hV1⟩ (by show 2-(i+1)<2-i;omega) ⟨I,I,I,I,I,I,I,O⟩ _ I)))))))))
  ·have hc:crB f g i=false:=hc
   rw[hc,if_neg (by decide),List.append_nil] at hsu
   exact zI (zN (zE (zB (wP I (wV 95 ((i+1:Nat):Int) I (At (by omega)) (wP I (Aa (Al (i+1,gV,cV,jV) ⟨hlt,by show(⟨some gV,cV,jV⟩:Vec).OK 1 (Bv f g (i+1)).length (nS (Bv f g (i+1)));rw[hsu];exact hV⟩ (by show 2-(i+1)<2-i;omega) ⟨I,I,(by show _=some (Value.slice (some ⟨gV,0,none⟩) (Bv f g (i+1)).length cV);rw[hsu];rfl),I,I,I,I,O⟩ [] (by show _=[frB b2 f,frB b3 g,(⟨gV,25,nS (Bv f g (i+1))++jV,true,none⟩:Bx),_]++[];rw[hsu];rfl)))))))))
 have e2:i=2:=by omega
 subst e2
 refine wU 52 false I (dF (by omega)) (Aa (zE (zA (zS I (zJ (zK (zK (zL (zE (zA (zB ?_)))))))))))
 have hCl:=HX f g 2
 have zm:=hz.m
 have zp:=hz.pr
 refine BI tH I I I I I ?_
 intro gE
 refine wP I (Aa (zE (zA (zA (zB (wP I (Aa (zE (zH ?_)))))))))
 refine Ar (X:=Nat×Nat×Nat×List Value) (fun s=>[(2,Ap b2),(3,Ap b3),(6, .slice (some ⟨gV,0,none⟩) (Bv f g 2).length cV),(14, .slice (some ⟨s.2.1,0,none⟩) (Bs f g s.1).length s.2.2.1),(15, .int .i64 (s.1:Nat))])
  (fun s=>[frB b2 f,frB b3 g,⟨gV,25,nS (Bv f g 2)++jV,true,none⟩,⟨b49,25,[str (Ac (loS f g)),str (Ac (hiS f g))],true,none⟩,⟨s.2.1,25,nS (Bs f g s.1)++s.2.2.2,true,none⟩])
  (fun s=>s.1≤(Bv f g 2).length∧(⟨some s.2.1,s.2.2.1,s.2.2.2⟩:Vec).OK 1 (Bs f g s.1).length (nS (Bs f g s.1))) (fun s=>(Bv f g 2).length-s.1) (0,gE,0,[]) ⟨Nat.zero_le _,⟨rfl,(fun h=>by cases h),fun _=>⟨Nat.le_refl _,Nat.zero_le _,rfl⟩⟩⟩ ⟨rfl,rfl,rfl,rfl,rfl,trivial⟩ [] rfl ?_
 rintro⟨i,gO,cO,jO⟩ ⟨hi,hO⟩
 have hi:i≤(Bv f g 2).length:=hi
 have hO:(⟨some gO,cO,jO⟩:Vec).OK 1 (Bs f g i).length (nS (Bs f g i)):=hO
 have hol:=Xe f g i
 refine zA (zA (zB (wP I (wP I (wP I (wP I ?_))))))
 by_cases hlt:i<(Bv f g 2).length
 ·refine wU 100 true I (dT (by omega)) (Aa (zE (zR I (zI (zE (zA (zH (zA (zB ?_)))))))))
  obtain⟨z,hze⟩: ∃z,z=(Bv f g 2)[i]:=⟨_,rfl⟩
  have zz:szQ z k:=by rw[hze];exact zm _ (List.getElem_mem hlt)
  have zo: ∀x∈Bs f g i,Sz2 x z:=fun x hx=>by rw[hze];exact Yt zp hlt x (X0 hx)
  have hsu:=Vq f g hlt
  rw[←hze] at hsu
  refine wP I (wP I ?_)
  refine wJ ?_
  refine wL 0 I I (fun W1 hp=>(show An W1 gV (0+i*1) [str (Ac z)] by rw[hze];exact St hp 2 I hlt)) I (wP I (Aa (zE (zA (zA (zU (qB 0 I I I (qP I (qC I I (fun W1 hp=>CT f hf z a a k ha hb zz hk1 W1 (ht.hp hp)) (qB 1 I I I (qP I (qC I I (fun W1 hp=>CT g hg z a a k ha' hb' zz hk1 W1 (ht.hp hp)) (qP I ?_)))))))))))))
  by_cases h1:f.at z=g.at z
  rotate_left
  ·have e:Da f g z=false:=by simp[Da,h1]
   rw[e,if_neg (by decide)] at hsu
   refine qU 113 true I (by show(!_)=true;rw[AH,dF fun e=>h1 (BV.1 e)];rfl) (A4 (Aa (zE (zR I (zJ (zK (zL (zE (zB (wP I (wP I (wV 102 ((i+1:Nat):Int) I (At (by omega)) (wP I ?_)))))))))))))
   exact Aa (Al (i+1,gO,cO,jO) ⟨hlt,by show(⟨some gO,cO,jO⟩:Vec).OK 1 (Bs f g (i+1)).length (nS (Bs f g (i+1)));rw[hsu];exact hO⟩ (by show(Bv f g 2).length-(i+1)<(Bv f g 2).length-i;omega) ⟨I,I,I,(by show _=some (Value.slice (some ⟨gO,0,none⟩) (Bs f g (i+1)).length cO);rw[hsu];rfl),I,O⟩ [] (by show _=[frB b2 f,frB b3 g,_,_,(⟨gO,25,nS (Bs f g (i+1))++jO,true,none⟩:Bx)]++[];rw[hsu];rfl))
  refine qU 113 false I (by show(!_)=false;rw[AH,dT (BV.2 h1)];rfl) (A4 (Aa (zE (zS I (zI (zE (Au (Au ?_))))))))
  refine A8 (X:=Unit) (fun _=>[(2,Ap b2),(3,Ap b3),(6, .slice (some ⟨gV,0,none⟩) (Bv f g 2).length cV),(14, .slice (some ⟨gO,0,none⟩) (Bs f g i).length cO),(15, .int .i64 (i:Nat)),(16,str (Ac z)),(129, .bool (decide (f.velA z=g.velA z)&&decide (f.velB z=g.velB z)))]) (fun _=>[frB b2 f,frB b3 g,⟨gV,25,nS (Bv f g 2)++jV,true,none⟩,⟨b49,25,[str (Ac (loS f g)),str (Ac (hiS f g))],true,none⟩,⟨gO,25,nS (Bs f g i)++jO,true,none⟩]) (fun _=>True) ?_ ?_
  ·refine zU (qB 0 I I I (qP I (qC I I (fun W1 hp=>(Dq f hf z a k hb zz (by omega) true W1 (ht.hp hp)).cast (v':=str (Ac (f.velA z))) I) (qB 1 I I I (qP I (qC I I (fun W1 hp=>(Dq g hg z a k hb' zz (by omega) true W1 (ht.hp hp)).cast (v':=str (Ac (g.velA z))) I) (qP I ?_)))))))
   by_cases h2:f.velA z=g.velA z
   ·rw[dT h2,Bool.true_and]
    exact qU 120 true I ((AH _ _).trans (dT (by rw[h2]))) (qP I (qB 0 I I I (qP I (qC I I (fun W1 hp=>(Dq f hf z a k hb zz (by omega) false W1 (ht.hp hp)).cast (v':=str (Ac (f.velB z))) I) (qB 1 I I I (qP I (qC I I (fun W1 hp=>(Dq g hg z a k hb' zz (by omega) false W1 (ht.hp hp)).cast (v':=str (Ac (g.velB z))) I) (qP I (qU 128 (decide (f.velB z=g.velB z)) I ((AH _ _).trans (decide_eq_decide.2 BV)) (qP I (A4 (Aa (Aj () O ⟨I,I,I,I,I,I,I,O⟩ [] I)))))))))))))
   ·rw[dF h2,Bool.false_and]
    refine qU 120 false I ((AH _ _).trans (dF fun e=>h2 (BV.1 e))) (qP I ?_)
    iterate 7 refine BA I I ?_
    exact qP I (A4 (Aa (Aj () O ⟨I,I,I,I,I,I,I,O⟩ [] I)))
  intro _ _
  refine Af I (fun hc=> ?_) (fun hc=> ?_)
  ·have hc:(decide (f.velA z=g.velA z)&&decide (f.velB z=g.velB z))=true:=hc
   rw[Bool.and_eq_true,decide_eq_true_eq,decide_eq_true_eq] at hc
   have e:Da f g z=false:=by simp[Da,hc.1,hc.2]
   rw[e,if_neg (by decide)] at hsu
   exact zJ (zK (zL (zE (zB (wP I (wP I (wV 102 ((i+1:Nat):Int) I (At (by omega)) (wP I (Aa (Al (i+1,gO,cO,jO) ⟨hlt,by show(⟨some gO,cO,jO⟩:Vec).OK 1 (Bs f g (i+1)).length (nS (Bs f g (i+1)));rw[hsu];exact hO⟩ (by show(Bv f g 2).length-(i+1)<(Bv f g 2).length-i;omega) ⟨I,I,I,(by show _=some (Value.slice (some ⟨gO,0,none⟩) (Bs f g (i+1)).length cO);rw[hsu];rfl),I,O⟩ [] (by show _=[frB b2 f,frB b3 g,_,_,(⟨gO,25,nS (Bs f g (i+1))++jO,true,none⟩:Bx)]++[];rw[hsu];rfl)))))))))))
  have hc:(decide (f.velA z=g.velA z)&&decide (f.velB z=g.velB z))=false:=hc
  have e:Da f g z=true:=Rr.2 ⟨h1,by
   rw[Bool.and_eq_false_iff,decide_eq_false_iff_not,decide_eq_false_iff_not] at hc
   exact hc.elim .inr .inl⟩
  rw[e,if_pos rfl] at hsu
  refine zI (zE (zA (zB (wP I (Aa (A0 (Au ?_)))))))
  refine A8 (X:=Nat) (fun j=>[(2,Ap b2),(3,Ap b3),(6, .slice (some ⟨gV,0,none⟩) (Bv f g 2).length cV),(14, .slice (some ⟨gO,0,none⟩) (Bs f g i).length cO),(15, .int .i64 (i:Nat)),(16,str (Ac z)),(17, .int .i64 (j:Nat))]) (fun _=>[frB b2 f,frB b3 g,⟨gV,25,nS (Bv f g 2)++jV,true,none⟩,⟨b49,25,[str (Ac (loS f g)),str (Ac (hiS f g))],true,none⟩,⟨gO,25,nS (Bs f g i)++jO,true,none⟩]) (fun j=>j≤(Bs f g i).length∧(∀m (hm:m<(Bs f g i).length),m<j→(Bs f g i)[m]<z)∧(∀hm:j<(Bs f g i).length, ¬(Bs f g i)[j]<z)) ?_ ?_
  ·refine zH ?_
   refine Ar (X:=Nat) (fun j=>[(2,Ap b2),(3,Ap b3),(6, .slice (some ⟨gV,0,none⟩) (Bv f g 2).length cV),(14, .slice (some ⟨gO,0,none⟩) (Bs f g i).length cO),(15, .int .i64 (i:Nat)),(16,str (Ac z)),(17, .int .i64 (j:Nat))]) (fun _=>[frB b2 f,frB b3 g,⟨gV,25,nS (Bv f g 2)++jV,true,none⟩,⟨b49,25,[str (Ac (loS f g)),str (Ac (hiS f g))],true,none⟩,⟨gO,25,nS (Bs f g i)++jO,true,none⟩]) (fun j=>j≤(Bs f g i).length∧ ∀m (hm:m<(Bs f g i).length),m<j→(Bs f g i)[m]<z) (fun j=>(Bs f g i).length-j) 0 ⟨Nat.zero_le _,fun _ _ h=>by omega⟩ ⟨I,I,I,I,I,I,I,O⟩ [] I ?_
   rintro j ⟨hj,hlow⟩
   have hj:j≤(Bs f g i).length:=hj
   refine zA (zA (zB (wP I (wP I (wP I (wP I ?_))))))
   by_cases hjl:j<(Bs f g i).length
   ·obtain⟨o,ho⟩: ∃o,o=(Bs f g i)[j]:=⟨_,rfl⟩
    have hoz:Sz2 o z:=zo _ (by rw[ho];exact List.getElem_mem hjl)
    refine wU 133 true I (dT (by omega)) (wP I (wP I (wP I ?_)))
    refine wJ ?_
    refine wL 0 I I (fun W1 hp=>(show An W1 gO (0+j*1) [str (Ac o)] by rw[ho];exact St hp 4 I hjl)) I (wP I (wC I I (fun W1 hp=>Dh o z hoz W1 (ht.hp hp)) (wP I (wU 141 (decide (o<z)) I (DA _ _) (wP I (Aa (zE ?_)))))))
    refine Af I (fun hc2=> ?_) (fun hc2=> ?_)
    ·have hc2:(Bs f g i)[j]<z:=ho▸of_decide_eq_true hc2
     refine zI (zE (zH (zB (wP I (wP I (wV 144 ((j+1:Nat):Int) I (At (by omega)) (wP I (Aa (zN ?_)))))))))
     exact Al (j+1) ⟨hjl,fun m hm h=>(by
      rcases Nat.lt_or_ge m j with c|c
      ·exact hlow m hm c
      ·obtain rfl:m=j:=by omega
       exact hc2)⟩ (by show(Bs f g i).length-(j+1)<(Bs f g i).length-j;omega) ⟨I,I,I,I,I,I,I,O⟩ [] I
    ·have hc2: ¬(Bs f g i)[j]<z:=ho▸of_decide_eq_false hc2
     exact zJ (zK (zK (zL (Aj j ⟨hj,hlow,fun _=>hc2⟩ ⟨I,I,I,I,I,I,I,O⟩ [] I))))
   ·refine wU 133 false I (dF (by omega)) (wP I ?_)
    iterate 7 refine Ae I I ?_
    exact wP I (Aa (zE (zS I (zJ (zK (zK (zL (Aj j ⟨hj,hlow,fun h=>absurd h hjl⟩ ⟨I,I,I,I,I,I,I,O⟩ [] I))))))))
  rintro j ⟨hj,hlow,hup⟩
  have hj:j≤(Bs f g i).length:=hj
  refine Au (Au ?_)
  refine A8 (X:=Bool) (fun b=>[(2,Ap b2),(3,Ap b3),(6, .slice (some ⟨gV,0,none⟩) (Bv f g 2).length cV),(14, .slice (some ⟨gO,0,none⟩) (Bs f g i).length cO),(15, .int .i64 (i:Nat)),(16,str (Ac z)),(17, .int .i64 (j:Nat)),(156, .bool b)]) (fun _=>[frB b2 f,frB b3 g,⟨gV,25,nS (Bv f g 2)++jV,true,none⟩,⟨b49,25,[str (Ac (loS f g)),str (Ac (hiS f g))],true,none⟩,⟨gO,25,nS (Bs f g i)++jO,true,none⟩]) (fun b=>(b=true→z∈Bs f g i)∧(b=false→ ∀hm:j<(Bs f g i).length,z<(Bs f g i)[j])) ?_ ?_
  ·refine zB (wP I (wP I (wP I (wP I ?_))))
   by_cases hjl:j<(Bs f g i).length
   ·refine wU 148 true I (dT (by omega)) ?_
    obtain⟨o,ho⟩: ∃o,o=(Bs f g i)[j]:=⟨_,rfl⟩
    refine wP I (wP I (wP I ?_))
    refine wJ ?_
    exact wL 0 I I (fun W1 hp=>(show An W1 gO (0+j*1) [str (Ac o)] by rw[ho];exact St hp 4 I hjl)) I (wP I (wP I (wU 155 (decide (o=z)) I ((AH _ _).trans (decide_eq_decide.2 BV)) (wP I (Aa (Aj (decide (o=z)) ⟨fun h=>(by rw[←of_decide_eq_true h,ho];exact List.getElem_mem hjl),fun h _=>(by have h1:=of_decide_eq_false h;have h2:=hup hjl;rw[ho] at h1;grind)⟩ ⟨I,I,I,I,I,I,I,I,O⟩ [] I))))))
   ·refine wU 148 false I (dF (by omega)) (wP I ?_)
    iterate 6 refine Ae I I ?_
    exact wP rfl (Aa (Aj false ⟨fun h=>(by cases h),fun _ h=>absurd h hjl⟩ ⟨rfl,rfl,rfl,rfl,rfl,rfl,rfl,rfl,trivial⟩ [] rfl))
  rintro b ⟨hb1,hb2⟩
  cases b with
  |true=>
   rw[Nc (Ih f g i) (hb1 rfl)] at hsu
   exact zR I (zJ (zK (zL (zE (zB (wP I (wP I (wV 102 ((i+1:Nat):Int) I (At (by omega)) (wP I (Aa (Al (i+1,gO,cO,jO) ⟨hlt,by show(⟨some gO,cO,jO⟩:Vec).OK 1 (Bs f g (i+1)).length (nS (Bs f g (i+1)));rw[hsu];exact hO⟩ (by show(Bv f g 2).length-(i+1)<(Bv f g 2).length-i;omega) ⟨I,I,I,(by show _=some (Value.slice (some ⟨gO,0,none⟩) (Bs f g (i+1)).length cO);rw[hsu];rfl),I,O⟩ [] (by show _=[frB b2 f,frB b3 g,_,_,(⟨gO,25,nS (Bs f g (i+1))++jO,true,none⟩:Bx)]++[];rw[hsu];rfl))))))))))))
  |false=>
   have hins:=YZ (Ih f g i) hj hlow (hb2 rfl)
   rw[←hins] at hsu
   have hcap:=(hO.cap (by simp)).1
   have hcap:(Bs f g i).length≤cO:=hcap
   refine zS I (zI (zE (zA (zB ?_))))
   refine BI tH I I I I I ?_
   intro g0
   refine wP I (wP I ?_)
   refine CN j tH I I I I I I I I (by omega) ?_
   refine CW (V:=⟨some g0,0,[]⟩) (len:=0) (xs:=[]) (news:=nS ((Bs f g i).take j)) 5 Tryz.vec31 rfl rfl rfl rfl rfl rfl rfl rfl rfl ⟨rfl,(fun h=>by cases h),fun _=>⟨Nat.le_refl _,Nat.zero_le _,rfl⟩⟩ (by rw[C8,List.length_take];omega) (fun W1 hp n u hu=>by rw[Addr.add_none];exact(An.of_bx hp 4 rfl rfl).get n u (TV j n hu)) WR (by simp only[maxLen];omega) (by omega) ?_
   intro V1 hV1 _
   refine wP I (Aa (zE (zA (zB (wP I (wP I ?_))))))
   refine As Tryz.hZ tH I I I I I I I I I I I fun bS=> ?_
   refine AB (V:=V1) (len:=0+j) (xs:=nS ((Bs f g i).take j)) 5 6 Tryz.vec31 (j+1) (nS ((Bs f g i).take j++[z])) I I I I I I I I I I I hV1 I I (by omega) (by rw[D6];rfl) (by simp only[maxLen];omega) (by omega) I ?_
   intro g2 c2 j2 hV2
   refine wP I (Aa (zE (zB (wP I (wP I (wP I ?_))))))
   refine Bw j tH I I I I I I I I hj hcap ?_
   refine CW (V:=⟨some g2,c2,j2⟩) (len:=j+1) (xs:=nS ((Bs f g i).take j++[z])) (news:=nS ((Bs f g i).drop j)) 5 Tryz.vec31 I I I I I I I I I hV2 (by rw[C8,List.length_drop];omega) (fun W1 hp n u hu=>by
    have hn:=(List.getElem?_eq_some_iff.1 hu).1
    rw[C8,List.length_drop] at hn
    have h:=(An.of_bx hp 4 rfl rfl).get (j*1+n) u (J4 j hj n hu)
    rw[Addr.add_none,if_neg (show¬cO=j by omega)]
    rw[←Nat.add_assoc] at h
    exact h) WR (by simp only[maxLen];omega) (by omega) ?_
   intro V3 hV3 _
   obtain⟨p3,c3,j3⟩:=V3
   cases p3 with
   |none=>exact absurd (hV3.nil rfl) (by omega)
   |some g3=>
    have el:(Bs f g (i+1)).length=j+1+((Bs f g i).length-j):=by
     rw[hsu,List.length_append,List.length_append,List.length_take,List.length_drop]
     show min j _+1+_=_
     omega
    have ex:nS (Bs f g (i+1))=nS ((Bs f g i).take j++[z])++nS ((Bs f g i).drop j):=by rw[hsu,D6 (_++_)]
    rw[←el, ←ex] at hV3
    rw[←el, ←ex]
    exact wP I (Aa (zN (zE (zB (wP I (wP I (wV 102 ((i+1:Nat):Int) I (At (by omega)) (wP I (Aa (Cu (i+1,g3,c3,j3) ⟨hlt,hV3⟩ (by show(Bv f g 2).length-(i+1)<(Bv f g 2).length-i;omega) ⟨I,I,I,I,I,O⟩ fun W1 hp=>hp.pick [0,1,2,3,5] (by decide) I))))))))))
 ·have e:i=(Bv f g 2).length:=by omega
  subst e
  rw[WU] at hO⊢
  refine wU 100 false I (dF (by omega)) (Aa (zE (zS I (zJ (zK (zK (zL (zE (zA (zB (wP I (wP I (wP I ?_)))))))))))))
  exact Aa (zE (zO (AK tH I (.tmp I) (.tmp I) (⟨some gO,cO,jO⟩:Vec) I hO fun W1 hp=>Av.of_hp1 hp 4 I)))
end
section
def pdn (F:List FrP) (i k:Nat):List (Nat×Nat):=(List.range i).flatMap (FV F)++((List.range k).drop (i+1)).flatMap (Fh F i)
theorem Vk (F:List FrP) (i:Nat):pdn F i (i+1)=(List.range i).flatMap (FV F):=by
 unfold pdn
 rw[List.drop_of_length_le (by rw[List.length_range];omega)]
 exact List.append_nil _
theorem Yo (F:List FrP) (i:Nat):pdn F i F.length=(List.range (i+1)).flatMap (FV F):=by
 unfold pdn
 rw[List.range_succ,List.flatMap_append]
 congr 1
 show _=FV F i++[]
 rw[List.append_nil];rfl
theorem WY (F:List FrP) {i k:Nat} (h:i<k):pdn F i (k+1)=pdn F i k++Fh F i k:=by
 unfold pdn
 rw[List.range_succ,List.drop_append_of_le_length (by rw[List.length_range];omega),List.flatMap_append, ←List.append_assoc]
 congr 1
 exact List.append_nil _
theorem LJ {α β:Type} (f:α→List β) (m:Nat) (h: ∀x,(f x).length≤m): ∀l:List α,(l.flatMap f).length≤l.length*m
 |[]=>Nat.zero_le _
 |x::l=>by
  have h1:=h x
  have h2:=LJ f m h l
  rw[List.flatMap_cons,List.length_append,List.length_cons,Nat.succ_mul]
  omega
theorem Ud (F:List FrP) (i k:Nat):(Fh F i k).length≤1:=by unfold Fh;split<;>simp
theorem XQ (F:List FrP) (i:Nat):(FV F i).length≤F.length:=by
 have h:=LJ (Fh F i) 1 (Ud F i) ((List.range F.length).drop (i+1))
 rw[List.length_drop,List.length_range] at h
 unfold FV;omega
theorem XF {F:List FrP} (hF:F.length≤24) {i k:Nat} (hi:i≤24) (hk:k≤24):(pdn F i k).length≤600:=by
 have h1:=LJ (FV F) 24 (fun i=>Nat.le_trans (XQ F i) hF) (List.range i)
 have h2:=LJ (Fh F i) 1 (Ud F i) ((List.range k).drop (i+1))
 rw[List.length_range] at h1
 rw[List.length_drop,List.length_range] at h2
 unfold pdn
 rw[List.length_append]
 omega
theorem Rs {F:List FrP} {i k:Nat} {q:Nat×Nat} (h:q∈Fh F i k):q=(i,k):=by
 unfold Fh at h
 split at h
 ·exact List.mem_singleton.1 h
 ·cases h
theorem Yn {F:List FrP} {i k:Nat} {q:Nat×Nat} (h:q∈pdn F i k) (hi:i<F.length) (hk:k≤F.length):q.1<F.length∧q.2<F.length:=by
 unfold pdn at h
 rcases List.mem_append.1 h with h|h
 ·obtain⟨m,hm,h⟩:=List.mem_flatMap.1 h
  rw[List.mem_range] at hm
  unfold FV at h
  obtain⟨n,hn,h⟩:=List.mem_flatMap.1 h
  rw[Er] at hn
  rw[Rs h]
  exact⟨by show m<_;omega,by show n<_;omega⟩
 ·obtain⟨n,hn,h⟩:=List.mem_flatMap.1 h
  rw[Er] at hn
  rw[Rs h]
  exact⟨hi,by show n<_;omega⟩
def mlA (rs:List (List Sd)) (l:List (Nat×Nat)) (e:List Rat):List Rat:=EE (st0 rs) ((l.flatMap (eqK (Ao rs))++e).filter fun z=>decide (base rs<z))
theorem YB (rs:List (List Sd)):mlA rs ((List.range (Ao rs).length).flatMap (FV (Ao rs))) []=Bi rs:=by
 unfold mlA Bi MM prs
 rw[List.append_nil]
theorem Sq (rs:List (List Sd)) (l:List (Nat×Nat)) (e:List Rat):(mlA rs l e).Pairwise (· < ·):=Cy _ _ (H2 rs)
theorem Wy (rs:List (List Sd)) (l:List (Nat×Nat)) (q:Nat×Nat):mlA rs (l++[q]) []=mlA rs l (eqK (Ao rs) q):=by
 unfold mlA
 rw[List.flatMap_append,List.append_nil]
 show EE _ (List.filter _ (_++(eqK (Ao rs) q++[])))=_
 rw[List.append_nil]
theorem Xa (rs:List (List Sd)) (l:List (Nat×Nat)) {E:List Rat} {j:Nat} (hj:j<E.length):mlA rs l (E.take (j+1))=if base rs<E[j] then CE E[j] (mlA rs l (E.take j)) else mlA rs l (E.take j):=by
 unfold mlA
 rw[List.take_add_one,List.getElem?_eq_getElem hj, ←List.append_assoc,List.filter_append]
 show EE _ (_++List.filter _ [E[j]])=_
 rw[List.filter_cons,List.filter_nil]
 by_cases h:base rs<E[j]
 ·rw[if_pos h,if_pos (dT h)]
  exact KR _ _ _
 ·rw[if_neg h,if_neg (by rw[dF h];decide),List.append_nil]
theorem XN {rs:List (List Sd)} (h24:tot rs≤24) {l:List (Nat×Nat)} {e:List Rat} (hl:l.length≤600) (he:e.length≤5):(mlA rs l e).length≤4000:=by
 have h1:=EX ((l.flatMap (eqK (Ao rs))++e).filter fun z=>decide (base rs<z)) (st0 rs)
 have h2:=List.length_filter_le (fun z=>decide (base rs<z)) (l.flatMap (eqK (Ao rs))++e)
 have h3:=I0 (Ao rs) l
 have h4:=LS rs rs.flatten.length (Nat.le_refl _)
 rw[LP] at h4
 have h5:rs.flatten.length=tot rs:=List.length_flatten
 rw[List.length_append] at h2
 unfold mlA
 omega
theorem Zf {rs:List (List Sd)} (h: ∀l∈rs, ∀s∈l,rgd s=true) {l:List (Nat×Nat)} {e:List Rat} (hl: ∀q∈l,q.1<(Ao rs).length∧q.2<(Ao rs).length) (he: ∀z∈e,szQ z 9): ∀z∈mlA rs l e,szQ z 9:=fun z hz=>by
 rcases(Dn _ _).1 hz with hz|hz
 ·exact(I6 h (GX.1 hz)).mono (by decide)
 ·rcases List.mem_append.1 (List.mem_filter.1 hz).1 with hz|hz
  ·obtain⟨q,hq,hz⟩:=List.mem_flatMap.1 hz
   obtain⟨h1,h2⟩:=hl q hq
   exact(Es h (Fe h1)).meet (Es h (Fe h2)) (Fq hz)
  ·exact he z hz
theorem ZF (f g:FrP) (i:Nat):anc f g i=f.st∨anc f g i=g.st:=by
 unfold anc loS hiS
 split<;>split<;>simp
theorem ZA {f g:FrP} {z:Rat} (h:z∈Bv f g 2):z=f.st∨z=g.st∨ ∃i,i<2∧f.velA (anc f g i)≠g.velA (anc f g i)∧z=Gu f g i:=by
 have key: ∀i,crB f g i=true→f.velA (anc f g i)≠g.velA (anc f g i):=fun i h=>by
  unfold crB at h
  rw[Bool.and_eq_true,decide_eq_true_eq] at h
  exact h.1
 rcases TJ.1 h with h|h|⟨h1,h⟩|⟨h1,h⟩
 ·exact .inl h
 ·exact .inr (.inl h)
 ·exact .inr (.inr ⟨0,by decide,key 0 h1,h⟩)
 ·exact .inr (.inr ⟨1,by decide,key 1 h1,h⟩)
theorem UA {f g:FrP} (hf:f.Pl) (hg:g.Pl):X1 f g 134:=by
 have za: ∀i,szQ (anc f g i) 5:=fun i=>by rcases ZF f g i with e|e<;>rw[e];exact hf.szt;exact hg.szt
 have z20: ∀i,szQ (anc f g i) 20:=fun i=>(za i).mono (by decide)
 have zg: ∀i,szQ (f.at (anc f g i)-g.at (anc f g i)) 121:=fun i=>(OZ hf (z20 i)).sub (OZ hg (z20 i))
 have zv: ∀i,szQ (f.velA (anc f g i)-g.velA (anc f g i)) 7:=fun i=>(I5 hf _).sub (I5 hg _)
 have zq: ∀i,f.velA (anc f g i)≠g.velA (anc f g i)→szQ ((f.at (anc f g i)-g.at (anc f g i))/(f.velA (anc f g i)-g.velA (anc f g i))) 128:=fun i h=>(zg i).div (zv i) (Qq (by grind))
 have zc: ∀i,f.velA (anc f g i)≠g.velA (anc f g i)→szQ (Gu f g i) 134:=fun i h=>(za i).sub (zq i h)
 have zh:szQ (hiS f g) 5:=za 1
 have zm: ∀z∈Bv f g 2,szQ z 134:=fun z hz=>by
  rcases ZA hz with h|h|⟨i,_,h,e⟩
  ·rw[h];exact hf.szt.mono (by decide)
  ·rw[h];exact hg.szt.mono (by decide)
  ·rw[e];exact zc i h
 exact⟨fun i _=>(za i).mono (by decide),fun i _=>sz2 (OZ hf (z20 i)) (OZ hg (z20 i)) (by decide),fun i _=>sz2 (I5 hf _) (I5 hg _) (by decide),fun i _=>sz2 (zg i) (zv i) (by decide),
  fun i _ h=>sz2 (za i) (zq i h) (by decide),fun i _ h=>sz2 (zc i h) (za i) (by decide),fun h=>sz2 (zc 0 h) zh (by decide),zm,
  List.Pairwise.imp_of_mem (fun hp hq _=>sz2 (zm _ hp) (zm _ hq) (by decide)) (List.pairwise_iff_getElem.2 fun _ _ _ _ _=>trivial:(Bv f g 2).Pairwise fun _ _=>True)⟩
end
section
open Go Go.RowKit Go.Am Go.Lib
set_option maxRecDepth 10000
-- BOXES 5
-- CODE2
theorem NX (W:World) (p:Option Addr) (cap:Nat) (rs:List (List Sd)) (h:DZ W p rs):
  Ad Tryz.prog 50 #[AO p rs.length cap] W (fun V:Vec=>V.val (Bi rs).length) (fun V=>V.OK 1 (Bi rs).length (nS (Bi rs))) (fun V=>[V.bx 25 (nS (Bi rs))]):=by
 obtain⟨hne,h24,h0⟩:=DL h.c
 obtain⟨hrg,_⟩:=Cr h.c
 have hrF: ∀s∈rs.flatten,rgd s=true:=fun s hs=>by
  obtain⟨l,hl,hsl⟩:=List.mem_flatten.1 hs
  exact hrg l hl s hsl
 have hn:=h.n
 have eF:=CR rs
 have eS:rs.flatten.length=tot rs:=List.length_flatten
 obtain⟨T,hTe⟩: ∃T,T=tot rs:=⟨_,rfl⟩
 rw[←hTe] at eF eS h24 h0
 have hsne:=KJ h.c
 have h0ne:0<(st0 rs).length:=by
  rcases Nat.eq_zero_or_pos (st0 rs).length with e|e
  ·obtain⟨z,hz⟩:=List.exists_mem_of_ne_nil _ hsne
   have:=GX.2 hz
   rw[List.length_eq_zero_iff.1 e] at this
   cases this
  ·exact e
 have hb0:(st0 rs)[0]=base rs:=by
  have key: ∀(l:List Rat) (h:0<l.length),l[0]=l.headD 0:=fun l h=>by
   cases l with
   |nil=>exact absurd h (by decide)
   |cons a l=>rfl
  exact key _ h0ne
 have zb:szQ (base rs) 5:=I6 hrg (Kn hsne)
 have e0:Eh rs.flatten rs.flatten.length=st0 rs:=by unfold Eh st0 E6 stL;rw[List.take_length]
 refine Ab (args:=[AO p rs.length cap]) Tryz.func50 I I I ?_
 refine zA (zB ?_)
 (refine A3 rfl rfl rfl rfl ?_;intro)
 refine wP I (Aa ?_)
 rename_i b1
 refine zE (zA (zB (wB 0 I I I ?_)))
 refine wD (X:=Vec) I I (fun W1 hp=>Ng W1 p cap rs (h.hp hp)) ?_
 intro F hF
 obtain⟨gF,cF,eFv,hFr⟩:=Vec.frs hF (by omega)
 rw[eFv]
 iterate 5 refine wP I ?_
 refine Aa (zE (zA (zB (wB 0 I I I ?_))))
 refine wD (X:=Vec) I I (fun W1 hp=>UL W1 p cap rs (by omega) (h.R.hp hp) h.c) ?_
 intro S hS
 obtain⟨gS,cS,eSv,hSr⟩:=Vec.sds hS (by omega)
 rw[eSv]
 iterate 5 refine wP I ?_
 refine Aa (zE (zA (zB (wP I (wP I ?_)))))
 refine wD (X:=Vec) I I (fun W1 hp=>NS W1 gF cF gS cS (Ao rs) rs.flatten (by omega) (by omega) (fun i hi=>QG (by omega)) hrF (hFr hp 1 I) (hSr hp 2 I) (h.t.hp hp)) ?_
 rw[e0]
 intro V0 hV0
 have hV0:V0.OK 1 (st0 rs).length (nS (st0 rs)):=hV0
 refine wP I (Aa ?_)
 obtain⟨p0,c0,eV0,hr0⟩:=Vec.num hV0
 obtain⟨g0,hp0,hq0⟩:=hr0 h0ne
 subst hp0
 rw[eV0]
 refine zE (zA (zB (wP I ?_)))
 refine wJ ?_
 refine wL 0 I I (fun W1 hp=>(show An W1 g0 (0+0*1) [str (Ac (base rs))] by rw[←hb0];exact hq0 hp 3 I 0 h0ne)) I (wP I (Aa (zE (zA (zA (zB (wP I (Aa (zE (zH ?_))))))))))
 refine Ar (X:=Nat×Vec×List Rat) (fun s=>[(3, .slice (some ⟨gF,0,none⟩) (Ao rs).length cF),(7,s.2.1.val s.2.2.length),(8,str (Ac (base rs))),(9, .int .i64 (s.1:Nat))])
  (fun s=>[bxE b1 24 (slv p rs.length cap),F.bx 48 (frC (Ao rs)),S.bx 80 (cellsOf rs.flatten),s.2.1.bx 25 (nS s.2.2)])
  (fun s=>s.1≤T∧s.2.1.OK 1 s.2.2.length (nS s.2.2)∧s.2.2=mlA rs ((List.range s.1).flatMap (FV (Ao rs))) []) (fun s=>T-s.1) (0,V0,st0 rs) ⟨Nat.zero_le _,hV0,rfl⟩ ⟨rfl,by show some _=some (V0.val (st0 rs).length);rw[eV0],rfl,rfl,trivial⟩ [] rfl ?_
 rintro⟨i,V,l⟩ ⟨hi,hV,hl⟩
 have hi:i≤T:=hi
 have hV:V.OK 1 l.length (nS l):=hV
 have hl:l=mlA rs ((List.range i).flatMap (FV (Ao rs))) []:=hl
 refine zA (zA (zB (wP I (wP I (wP I (wP I ?_))))))
 by_cases hlt:i<T
 ·refine wU 33 true I (dT (by omega)) (Aa (zE (zR I (zI (zE (zA (zH (zA (zB (wP I (wP I (wV 37 ((i+1:Nat):Int) I (At (by omega)) (wP I ?_)))))))))))))
  refine Aa (zE (zH ?_))
  rw[←Vk] at hl
  refine Ar (X:=Nat×Vec×List Rat) (fun s=>[(3, .slice (some ⟨gF,0,none⟩) (Ao rs).length cF),(7,s.2.1.val s.2.2.length),(8,str (Ac (base rs))),(9, .int .i64 (i:Nat)),(10, .int .i64 (s.1:Nat))])
   (fun s=>[bxE b1 24 (slv p rs.length cap),F.bx 48 (frC (Ao rs)),S.bx 80 (cellsOf rs.flatten),s.2.1.bx 25 (nS s.2.2)])
   (fun s=>(i+1≤s.1∧s.1≤T)∧s.2.1.OK 1 s.2.2.length (nS s.2.2)∧s.2.2=mlA rs (pdn (Ao rs) i s.1) []) (fun s=>T-s.1) (i+1,V,l) ⟨⟨Nat.le_refl _,hlt⟩,hV,hl⟩ ⟨rfl,rfl,rfl,rfl,rfl,trivial⟩ [] rfl ?_
  clear hl hV
  rintro⟨k,V,l⟩ ⟨⟨hk1,hk⟩,hV,hl⟩
  have hk1:i+1≤k:=hk1
  have hk:k≤T:=hk
  have hV:V.OK 1 l.length (nS l):=hV
  have hl:l=mlA rs (pdn (Ao rs) i k) []:=hl
  have hpl:=XF (F:=Ao rs) (i:=i) (k:=k) (by omega) (by omega) (by omega)
  refine zA (zA (zB (wP I (wP I (wP I (wP I ?_))))))
  by_cases hkt:k<T
  ·refine wU 41 true I (dT (by omega)) (Aa (zE (zR I (zI (zE (zA (zH (zA (zA (zU ?_))))))))))
   have hsu:=WY (Ao rs) (show i<k by omega)
   obtain⟨f,hf⟩: ∃f,f=fr (Ao rs) i:=⟨_,rfl⟩
   obtain⟨g,hg⟩: ∃g,g=fr (Ao rs) k:=⟨_,rfl⟩
   have pf:f.Pl:=by rw[hf];exact Es hrg (Fe (by omega))
   have pg:g.Pl:=by rw[hg];exact Es hrg (Fe (by omega))
   have hrf: ∀ {W0 W:World} {bxs:List Bx},Hp W0 bxs W→ ∀k,nth bxs k=some (F.bx 48 (frC (Ao rs)))→An W gF (0+i*5) (frV f).cells.toList:=fun hp k hk=>by rw[hf];exact hFr hp k hk i _ (Fj (by omega))
   have hrg2: ∀ {W0 W:World} {bxs:List Bx},Hp W0 bxs W→ ∀m,nth bxs m=some (F.bx 48 (frC (Ao rs)))→An W gF (0+k*5) (frV g).cells.toList:=fun hp m hm=>by rw[hg];exact hFr hp m hm k _ (Fj (by omega))
   refine qP I (qP I ?_)
   refine qJ ?_
   refine qP I (qL 0 I I (fun W1 hp=>hrf hp 1 I) I (qP I (qP I ?_)))
   refine qJ ?_
   refine qP I (qL 0 I I (fun W1 hp=>hrg2 hp 1 I) I ?_)
   refine MA Tryz.underlying4 I I I I I I ?_
   by_cases hax:f.ax=g.ax
   rotate_left
   ·have e:Fh (Ao rs) i k=[]:=by unfold Fh;rw[←hf, ←hg,if_neg hax]
    rw[e,List.append_nil] at hsu
    refine qU 54 true rfl (by cases h1:f.ax<;>cases h2:g.ax<;>simp_all) (A4 (Aa (zE (zR rfl (zJ (zK (zL (zE (zB (wP rfl (wP rfl (wV 43 ((k+1:Nat):Int) rfl (At (by omega)) (wP rfl ?_)))))))))))))
    exact Aa (Al (k+1,V,l) ⟨⟨by show i+1≤k+1;omega,hkt⟩,hV,by rw[hsu];exact hl⟩ (by show T-(k+1)<T-k;omega) ⟨I,I,I,I,I,O⟩ [] I)
   have e:Fh (Ao rs) i k=[(i,k)]:=by unfold Fh;rw[←hf, ←hg,if_pos hax]
   rw[e] at hsu
   refine qU 54 false I (by rw[hax];simp) (A4 (Aa ?_))
   obtain⟨E,hE⟩: ∃E,E=eqL f g:=⟨_,rfl⟩
   have hEq:E=eqK (Ao rs) (i,k):=by rw[hE,hf,hg]
   have hEl:E.length≤5:=by rw[hE];exact Pp f g
   have hEz: ∀z∈E,szQ z 9:=fun z hz=>by rw[hE] at hz;exact pf.meet pg (Fq hz)
   refine zE (zS I (zI (zE ?_)))
   repeat refine Au ?_
   refine By (X:= { U:Vec//U.OK 1 E.length (nS E) }) [true,true,true,true,true,true,true,true,false,false,false,false,false,false] (fun U=>[(3, .slice (some ⟨gF,0,none⟩) (Ao rs).length cF),(7,V.val l.length),(8,str (Ac (base rs))),(9, .int .i64 (i:Nat)),(10, .int .i64 (k:Nat)),(11,U.1.val E.length)])
    (fun U=>[bxE b1 24 (slv p rs.length cap),F.bx 48 (frC (Ao rs)),S.bx 80 (cellsOf rs.flatten),V.bx 25 (nS l),U.1.bx 25 (nS E)])
    6 [bxE b1 24 (slv p rs.length cap),F.bx 48 (frC (Ao rs)),S.bx 80 (cellsOf rs.flatten),V.bx 25 (nS l)] Tryz.mixed (by kernel_rfl) ?_ ?_
   ·refine qP I (qP I ?_)
    refine qJ ?_
    refine qL 0 I I (fun W1 hp=>hrf hp 1 I) I (qP I (qP I ?_))
    refine qJ ?_
    refine qL 0 I I (fun W1 hp=>hrg2 hp 1 I) I (CH (wX (wZ ?_)))
    refine wD (X:=Vec) rfl rfl (fun W1 hp=>hE▸PQ f g pf.ok pg.ok hax 5 134 (pf.szp.mono (by decide)) pf.szt (pg.szp.mono (by decide)) pg.szt (UA pf pg) (by decide) (by decide) W1 (h.t.hp hp)) ?_;intro U hU
    refine Aa (Ag (wX (wZ (wP I (Aa (Ag (wX ?_)))))))
    refine RS.cons ?_ (RS.cons ?_ (RS.nil))
    ·refine wP I (Aa (Ag (wX ?_)))
     refine RS.cons ?_ (RS.cons ?_ (RS.nil))
     ·refine wP I (Aa (Ag (wX (wZ (wP I (Aa (Ag (wX (wZ (wP I (Aa (Ag ?_))))))))))))
      refine Be I (by((repeat (first|refine Bh.same ?_|refine Bh.off I ?_));exact O)) ?_
      exact A6 ⟨U,hU⟩ ⟨I,I,I,I,I,I,O⟩ [0,1,2,3,4] (by decide) I
     ·refine wP I (Aa (Ag (wX (wZ (wP I (Aa (Ag (wX (wZ (wP I (Aa (Ag ?_))))))))))))
      refine Be I (by((repeat (first|refine Bh.same ?_|refine Bh.off I ?_));exact O)) ?_
      exact A6 ⟨U,hU⟩ ⟨I,I,I,I,I,I,O⟩ [0,1,2,3,4] (by decide) I
    ·refine wP I (Aa (Ag (wX (wZ (wP I (Aa (Ag (wX (wZ (wP I (Aa (Ag (wX ?_)))))))))))))
     refine wZ (wP I (Aa (Ag ?_)))
     refine Be I (by((repeat (first|refine Bh.same ?_|refine Bh.off I ?_));exact O)) ?_
     exact A6 ⟨U,hU⟩ ⟨I,I,I,I,I,I,O⟩ [0,1,2,3,4] (by decide) I
   rintro⟨U,hU⟩
   have hU:U.OK 1 E.length (nS E):=hU
   obtain⟨pU,cU,hUv,hUr⟩:=Vec.num hU
   dsimp only
   rw[hUv]
   refine zE (zA (zB (wP I (Aa (zE (zH ?_))))))
   refine Ar (X:=Nat×Vec×List Rat) (fun s=>[(3, .slice (some ⟨gF,0,none⟩) (Ao rs).length cF),(7,s.2.1.val s.2.2.length),(8,str (Ac (base rs))),(9, .int .i64 (i:Nat)),(10, .int .i64 (k:Nat)),(11, .slice pU E.length cU),(13, .int .i64 (s.1:Nat))])
    (fun s=>[bxE b1 24 (slv p rs.length cap),F.bx 48 (frC (Ao rs)),S.bx 80 (cellsOf rs.flatten),s.2.1.bx 25 (nS s.2.2),U.bx 25 (nS E)])
    (fun s=>s.1≤E.length∧s.2.1.OK 1 s.2.2.length (nS s.2.2)∧s.2.2=mlA rs (pdn (Ao rs) i k) (E.take s.1)) (fun s=>E.length-s.1) (0,V,l) ⟨Nat.zero_le _,hV,hl⟩ ⟨rfl,rfl,rfl,rfl,rfl,rfl,rfl,trivial⟩ [] rfl ?_
   clear hl hV
   rintro⟨j,V,l⟩ ⟨hj,hV,hl⟩
   have hj:j≤E.length:=hj
   have hV:V.OK 1 l.length (nS l):=hV
   have hl:l=mlA rs (pdn (Ao rs) i k) (E.take j):=hl
   refine zA (zA (zB (wP I (wP I (wP I (wP I ?_))))))
   by_cases hjt:j<E.length
   ·refine wU 70 true I (dT (by omega)) (Aa (zE (zR I (zI (zE (zA (zH (zA (zB ?_)))))))))
    obtain⟨gU,hpU,hUq⟩:=hUr (by omega)
    subst hpU
    have hst:=Xa rs (pdn (Ao rs) i k) hjt
    rw[←hl] at hst
    obtain⟨o,ho⟩: ∃o,o=E[j]:=⟨_,rfl⟩
    rw[←ho] at hst
    have hEj:szQ o 9:=by rw[ho];exact hEz _ (List.getElem_mem hjt)
    have hls:l.Pairwise (· < ·):=by rw[hl];exact Sq _ _ _
    have hlz: ∀x∈l,szQ x 9:=by rw[hl];exact Zf hrg (fun q hq=>Yn hq (by omega) (by omega)) fun z hz=>hEz z (List.mem_of_mem_take hz)
    have hll:l.length≤4000:=by rw[hl];exact XN (by omega) hpl (by rw[List.length_take];omega)
    refine wP I (wP I ?_)
    refine wJ ?_
    refine wL 0 I I (fun W1 hp=>(show An W1 gU (0+j*1) [str (Ac o)] by rw[ho];exact hUq hp 4 I j hjt)) I (wP I (wC I I (fun W1 hp=>DO o (base rs) (sz2 hEj zb (by decide)) W1 (h.t.hp hp)) (wP I (wU 79 (decide (base rs<o)) I (Fb _ _) (Aa (zE ?_))))))
    refine Af I (fun hc=> ?_) (fun hc=> ?_)
    ·have hc:base rs<o:=of_decide_eq_true hc
     rw[if_pos hc] at hst
     obtain⟨pV,cV,eV,hVr⟩:=Vec.num hV
     rw[eV]
     refine zB (wP I (wP I (wP I ?_)))
     refine wJ ?_
     refine wL 0 I I (fun W1 hp=>(show An W1 gU (0+j*1) [str (Ac o)] by rw[ho];exact hUq hp 4 I j hjt)) I ?_
     refine wD (X:=Option Vec) I I (fun W1 hp=>Lm W1 pV cV l o hls (by omega) (fun x hx=>sz2 hEj (hlz x hx) (by decide)) (fun h0=>by
      obtain⟨g,e,h⟩:=hVr h0
      exact⟨g,e,h hp 3 I⟩) (h.t.hp hp)) ?_
     intro x hx
     cases x with
     |none=>
      have e:=Nc hls (show o∈l from hx)
      rw[e] at hst
      exact wP I (Aa (zN (zE (zB (wP I (wP I (wV 72 ((j+1:Nat):Int) I (At (by omega)) (wP I (Aa (Al (j+1,V,l) ⟨hjt,hV,hst.symm⟩ (by show E.length-(j+1)<E.length-j;omega) ⟨I,(by show some _=some (V.val l.length);rw[eV];rfl),I,I,I,I,I,O⟩ [] I))))))))))
     |some V'=>
      have hx:V'.OK 1 (CE o l).length (nS (CE o l)):=hx
      exact wP I (Aa (zN (zE (zB (wP I (wP I (wV 72 ((j+1:Nat):Int) I (At (by omega)) (wP I (Aa (Cu (j+1,V',CE o l) ⟨hjt,hx,hst.symm⟩ (by show E.length-(j+1)<E.length-j;omega) ⟨I,I,I,I,I,I,I,O⟩ fun W hp=>hp.pick (l:=[bxE b1 24 (slv p rs.length cap),F.bx 48 (frC (Ao rs)),S.bx 80 (cellsOf rs.flatten),V'.bx 25 (nS (CE o l)),U.bx 25 (nS E)]) [0,1,2,5,4] (by decide) I))))))))))
    ·have hc: ¬base rs<o:=of_decide_eq_false hc
     rw[if_neg hc] at hst
     exact zI (zN (zE (zB (wP I (wP I (wV 72 ((j+1:Nat):Int) I (At (by omega)) (wP I (Aa (Al (j+1,V,l) ⟨hjt,hV,hst.symm⟩ (by show E.length-(j+1)<E.length-j;omega) ⟨I,I,I,I,I,I,I,O⟩ [] I)))))))))
   ·have ej:j=E.length:=by omega
    subst ej
    refine wU 70 false I (dF (by omega)) (Aa (zE (zS I (zJ (zK (zK (zL (zN (zE (zB (wP I (wP I (wV 43 ((k+1:Nat):Int) I (At (by omega)) ?_)))))))))))))
    exact wP I (Aa (Al (k+1,V,l) ⟨⟨by show i+1≤k+1;omega,hkt⟩,hV,by show l=mlA rs (pdn (Ao rs) i (k+1)) [];rw[hsu,Wy, ←hEq,hl,List.take_length]⟩ (by show T-(k+1)<T-k;omega) ⟨I,I,I,I,I,O⟩ [U.bx 25 (nS E)] I))
  ·have ek:k=(Ao rs).length:=by omega
   rw[ek,Yo] at hl
   refine wU 41 false I (dF (by omega)) (Aa (zE (zS I (zJ (zK (zK (zL (zN (zE (zB (wP I (wP I (wV 35 ((i+1:Nat):Int) I (At (by omega)) ?_)))))))))))))
   exact wP I (Aa (Al (i+1,V,l) ⟨hlt,hV,hl⟩ (by show T-(i+1)<T-i;omega) ⟨I,I,I,I,O⟩ [] I))
 ·have ei:i=(Ao rs).length:=by omega
  rw[ei,YB] at hl
  subst hl
  refine wU 33 false I (dF (by omega)) (Aa (zE (zS I (zJ (zK (zK (zL (zE (zA (zB (wP I (wP I (Aa ?_)))))))))))))
  exact zE (zO (A9 tH I (.tmp I) V I hV fun W hp=>Av.of_hp1 hp 3 I))
end
end Go.Proofs.YtmblgcglonikiaaGreatDoor
