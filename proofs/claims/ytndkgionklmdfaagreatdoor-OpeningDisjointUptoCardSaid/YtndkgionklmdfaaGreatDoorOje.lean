/-
  Lemmas that the theorem openingDisjoint_upto_card needs (part 5 of 8).
-/
import Derived.Test.YtndkgionklmdfaaGreatDoorOjd
set_option maxHeartbeats 64000000
namespace Go.Proofs.YtndkgionklmdfaaGreatDoor
section
open Go Go.RowKit Go.Am Go.Lib
set_option maxRecDepth 10000
-- BOXES 5
-- CODE2
section
variable {r:Option Nat} {n:Nat} {P:Program} {N:Nat} {D:List Deferred} {ops:List Oper} {Q:Exit→Act→World→Prop} {o:Oper} {rest:List Oper} {env:Env} {A:World→Prop}
theorem MM {ρ:Operand→Value} {t e:TypeId} {m c:Nat} {x y:Operand} {k:IntKind} {b off:Nat} {z:Int} (ht:P.underlying t=some (.array m e)) (hs: ∀W,(Go.sizeOf e).run P W= .ok c W) (ho:o.op= .indexAddr t x y)
  (hx:ρ x= .pointer (some ⟨b,off,none⟩)) (hy:ρ y= .int k z) (h0:0≤z∧z<m) (W:World):(execOp ρ o).run P W= .ok (.value (.pointer (some ⟨b,off+z.toNat*c,none⟩))) W:=by
 simp[execOp,ho,hx,hy,Instr.indexAt,Instr.sureAddr,asIntOf,run_underlying ht,hs,h0.1,h0.2,Addr.add_none]
theorem O4 {d:Nat} {t e:TypeId} {m c:Nat} {x y:Operand} {k:IntKind} {b off:Nat} {z:Int} (ht:P.underlying t=some (.array m e)) (hs: ∀W,(Go.sizeOf e).run P W= .ok c W) (hg:A0 ops N env o=some true) (hd:o.dst=some d) (ho:o.op= .indexAddr t x y)
  (hx:evO N env x=some (.pointer (some ⟨b,off,none⟩))) (hy:evO N env y=some (.int k z)) (h0:0≤z∧z<m)
  (h:WL r n P N D ops Q rest ((d, .pointer (some ⟨b,off+z.toNat*c,none⟩))::env) A):WL r n P N D ops Q (o::rest) env A:=
 Cu hg hd (fun c e=>by rw[ho] at e;cases e) (fun _ W hρ _=>MM ht hs ho (hρ _ _ hx) (hρ _ _ hy) h0 W) h
end
def hdg (s t:Sd):Nat:=if s.x<t.x then 0 else if s.y<t.y then 1 else if t.x<s.x then 2 else 3
theorem Xs (s t:Sd):hdg s t<4:=by
 unfold hdg
 split
 ·decide
 ·split
  ·decide
  ·split<;>decide
theorem MC (s t:Sd) (W:World):Ad Tryz.prog 134 #[s.val,t.val] W (fun _:Unit=> .int .i64 (hdg s t:Nat)) (fun _=>True) (fun _=>[]):=by
 refine Ab (args:=[s.val,t.val]) Tryz.func134 I I I ?_
 refine zA (zB ?_)
 (refine Ak rfl rfl rfl rfl ?_;intro)
 (refine Ak rfl rfl rfl rfl ?_;intro)
 refine wP I (Aa (zE (zA (zH (zA (zB (wP I (wB 1 I I I (wP I (wB 0 I I I (wP I (wP I (Aa ?_)))))))))))))
 refine zE ?_
 refine Aj I (fun h=> ?_) (fun h=> ?_)
 ·have c:s.x<t.x:=by have h:=of_decide_eq_true h;omega
  clear h
  have e:hdg s t=0:=by unfold hdg;rw[if_pos c]
  exact zA (zB (wP I (Aa (zE (zO (zQ (zP (wR1 I I (by rw[e];rfl)))))))))
 have c1: ¬s.x<t.x:=by have h:=of_decide_eq_false h;omega
 clear h
 refine zA (zB (wP I (wB 1 I I I (wP I (wB 0 I I I (wP I (wP I (Aa (zE ?_)))))))))
 refine Aj I (fun h=> ?_) (fun h=> ?_)
 ·have c:s.y<t.y:=by have h:=of_decide_eq_true h;omega
  clear h
  have e:hdg s t=1:=by unfold hdg;rw[if_neg c1,if_pos c]
  exact zA (zB (wP I (Aa (zE (zO (zQ (zP (wR1 I I (by rw[e];rfl)))))))))
 have c2: ¬s.y<t.y:=by have h:=of_decide_eq_false h;omega
 clear h
 refine zA (zB (wP I (wB 1 I I I (wP I (wB 0 I I I (wP I (wP I (Aa (zE ?_)))))))))
 refine Aj I (fun h=> ?_) (fun h=> ?_)
 ·have c:t.x<s.x:=by have h:=of_decide_eq_true h;omega
  clear h
  have e:hdg s t=2:=by unfold hdg;rw[if_neg c1,if_neg c2,if_pos c]
  exact zA (zB (wP I (Aa (zE (zO (zQ (zP (wR1 I I (by rw[e];rfl)))))))))
 have c3: ¬t.x<s.x:=by have h:=of_decide_eq_false h;omega
 clear h
 have e:hdg s t=3:=by unfold hdg;rw[if_neg c1,if_neg c2,if_neg c3]
 exact zI (zN (zE (zA (zB (wP I (Aa (zE (zO (wR1 I I (by rw[e];rfl))))))))))
def Sn (k:Nat):Bool:=k==1||k==3
def MY (k:Nat):Int:=if k=0∨k=3 then 1 else -1
abbrev Xk:List Value:=[.bool false, .int .i64 1, .bool true, .int .i64 (-1), .bool false, .int .i64 (-1), .bool true, .int .i64 1]
def HK (W:World):Prop:=Ai W 0 0 Xk
theorem HK.hp {W0 W:World} {bxs:List Bx} (h:HK W0) (hp:Hp W0 bxs W):HK W:=Ai.hp h hp
theorem HK.at_ {W:World} (h:HK W) {k:Nat} (hk:k<4):Ai W 0 (0+k*2) [.bool (Sn k), .int .i64 (MY k)]:=by
 refine⟨h.lt,fun m u hu=> ?_⟩
 have hm:m=0∨m=1:=by
  have:=(List.getElem?_eq_some_iff.1 hu).1
  have:m<2:=this
  omega
 have hk:k=0∨k=1∨k=2∨k=3:=by omega
 have hg:=h.get (k*2+m) u (by
  rcases hk with rfl|rfl|rfl|rfl<;>rcases hm with rfl|rfl<;>exact hu)
 rw[Nat.zero_add] at hg
 rw[Nat.zero_add]
 exact hg
def frO (s t:Sd):FrP:=⟨Sn (hdg s t),if Sn (hdg s t) then s.x else s.y,MY (hdg s t),if s.gable then 0 else nrm s.run s.rise,(s.plate:Rat)⟩
theorem HD {s:Sd} (h:rgd s=true):(0≤s.x∧s.x≤65536)∧(0≤s.y∧s.y≤65536)∧(0≤s.plate∧s.plate≤65536)∧(s.gable=false→(1≤s.rise∧s.rise≤48)∧(1≤s.run∧s.run≤48)):=by
 unfold rgd btw at h
 simp only[Bool.and_eq_true,decide_eq_true_eq] at h
 obtain⟨h1,⟨⟨h2,h3⟩,h4⟩,h5⟩:=h
 refine⟨h2,h3,h4,fun e=> ?_⟩
 rw[e] at h1
 simpa using h1
theorem TH (s t:Sd) (h:rgd s=true) (W:World) (hd:HK W) (ht:AA W):Ad Tryz.prog 56 #[s.val,t.val] W (fun _:Unit=>frV (frO s t)) (fun _=>True) (fun _=>[]):=by
 obtain⟨hx,hy,hp,hr⟩:=HD h
 obtain⟨k,hk⟩: ∃k,k=hdg s t:=⟨_,rfl⟩
 have hk4:k<4:=hk▸Xs s t
 obtain⟨ax,hax⟩: ∃ax,ax=Sn k:=⟨_,rfl⟩
 obtain⟨dd,hdd⟩: ∃dd,dd=MY k:=⟨_,rfl⟩
 have hrow: ∀ {W1:World} {bxs:List Bx},Hp W bxs W1→Ai W1 0 (0+((k:Nat):Int).toNat*2) [.bool ax, .int .i64 dd]:=fun hp1=>by
  rw[Int.toNat_natCast,hax,hdd]
  exact(hd.hp hp1).at_ hk4
 have hf:frO s t=⟨ax,if ax then s.x else s.y,dd,if s.gable then 0 else nrm s.run s.rise,(s.plate:Rat)⟩:=by unfold frO;rw[←hk, ←hax, ←hdd]
 obtain⟨ps,hps⟩: ∃ps,ps=(if ax then s.x else s.y):=⟨_,rfl⟩
 obtain⟨sp,hsp⟩: ∃sp:Rat,sp=(if s.gable then 0 else nrm s.run s.rise):=⟨_,rfl⟩
 rw[←hps, ←hsp] at hf
 rw[hf]
 refine Ab (args:=[s.val,t.val]) Tryz.func56 I I I ?_
 refine zA (zB ?_)
 (refine Ak rfl rfl rfl rfl ?_;intro)
 (refine Ak rfl rfl rfl rfl ?_;intro)
 (refine Ae Tryz.hZ rfl rfl rfl rfl ?_;intro)
 refine Aa ?_
 rename_i b2 b3 b4
 refine zE (zA (zB (wB 0 I I I (wB 1 I I I (wC I I (fun W _=>(MC s t W).cast (by rw[←hk])) ?_)))))
 refine O4 (c:=2) Tryz.underlying184 Tryz.sizeOf183 I I I I I ⟨by omega,by omega⟩ ?_
 refine wL 0 I I (fun W1 hp=>hrow hp) I ?_
 (refine Ae Tryz.hZ rfl rfl rfl rfl ?_;intro)
 refine wS 3 I I I (Aa ?_)
 rename_i b5
 refine zE (zA (zB (wP I (wB 3 I I I (wP I (wB 0 I I I (wP I (wB 3 I I I ?_))))))))
 refine Au Tryz.hZ tH I I I I I I I I ?_
 (refine Ae Tryz.hZ rfl rfl rfl rfl ?_;intro)
 refine wS 4 I I I (Aa ?_)
 rename_i b6
 refine zE (zA (zA (zB (wP I (wB 3 I I I (Aa (A8 ?_)))))))
 try refine Az ?_
 refine AC (X:=Unit) (fun _=>[(2,Af b2),(4,Af b4),(5,Af b5),(6,Af b6)]) (fun _=>[⟨b2,97,s.cells,true,none⟩,⟨b4,56,[.bool false, .int .i64 0, .int .i64 0,str [],str []],true,none⟩,⟨b6,56,[.bool ax, .int .i64 ps, .int .i64 dd,str (Ac 0),str []],true,none⟩]) (fun _=>True) ?_ ?_
 ·refine Aj I (fun h1=> ?_) (fun h1=> ?_)
  ·have e1:ax=true:=h1
   exact zB (wP I (wB 0 I I I (wP I (wS 4 I I I (Aa (KM () tO ⟨I,I,I,I,tO⟩ [0,2,4] (by decide) (by rw[hps,if_pos e1,Cs];rfl)))))))
  ·have e1:ax=false:=h1
   exact zI (KM () tO ⟨I,I,I,I,tO⟩ [0,2,4] (by decide) (by rw[hps,if_neg (by rw[e1];decide),Cs];rfl))
 intro _ _
 refine zA (zA (zB (wP I (wB 0 I I I (wP I (Aa (A8 ?_)))))))
 try refine Az ?_
 refine AC (X:=Unit) (fun _=>[(2,Af b2),(4,Af b4),(6,Af b6)]) (fun _=>[⟨b2,97,s.cells,true,none⟩,⟨b4,56,[.bool false, .int .i64 0, .int .i64 0,str [],str []],true,none⟩,⟨b6,56,[.bool ax, .int .i64 ps, .int .i64 dd,str (Ac sp),str []],true,none⟩]) (fun _=>True) ?_ ?_
 ·refine Aj I (fun h1=> ?_) (fun h1=> ?_)
  ·have e1:s.gable=false:=by simpa using h1
   obtain⟨r1,r2⟩:=hr e1
   exact zB (wP I (wB 0 I I I (wP I (wB 0 I I I (wC I I (fun W1 hp=>(FV s.run s.rise (by omega) (by omega) W1 (ht.hp hp)).cast (by rw[ofR,if_neg (by omega)])) (wP I (wP I (wP I (wP I (wS 2 I I I (Aa (KM () tO ⟨I,I,I,tO⟩ [0,1,2] (by decide) (by rw[hsp,if_neg (by rw[e1];decide)];rfl)))))))))))))
  ·have e1:s.gable=true:=by simpa using h1
   exact zI (KM () tO ⟨I,I,I,tO⟩ [0,1,2] (by decide) (by rw[hsp,if_pos e1];rfl))
 intro _ _
 refine zA (zB (wP I (wB 0 I I I (wC I I (fun W1 hp=>(FV s.plate 1 (by omega) (by decide) W1 (ht.hp hp)).cast (by rw[Pa])) (wP I (wP I (wP I (wP I (wS 2 I I I (Aa (zE (zA (zB ?_)))))))))))))
 exact wB 2 I I I (wS 1 I I I (Aa (zE (zO (Ay tH I (.cell 1 I I I I I) () I tO fun W _=>As.nil _ _)))))
-- BOXES 4
-- CODE2
def Nf (l:List Sd) (i:Nat):FrP:=frO (sd l i) (sd l (nxt l.length i))
def G2 (l:List Sd) (i:Nat):List FrP:=(List.range i).map (Nf l)
def C4 (rs:List (List Sd)):Nat→List FrP
 |0=>[]
 |k+1=>C4 rs k++G2 (rg rs k) (rg rs k).length
def Fp (rs:List (List Sd)):List FrP:=C4 rs rs.length
def frC (l:List FrP):List Value:=l.flatMap fun f=>(frV f).cells.toList
theorem Ss (a b:List FrP):frC (a++b)=frC a++frC b:=List.flatMap_append
theorem W7 (l:List FrP):(frC l).length=l.length*5:=by
 induction l with
 |nil=>rfl
 |cons f l ih=>show((frV f).cells.toList++frC l).length=_;rw[List.length_append,ih,List.length_cons];show 5+_=_;omega
theorem QU (l:List Sd) (i:Nat):(G2 l i).length=i:=by unfold G2;rw[List.length_map,List.length_range]
theorem Tk (l:List Sd) (i:Nat):G2 l (i+1)=G2 l i++[Nf l i]:=by unfold G2;rw[List.range_succ,List.map_append];rfl
theorem Jn {rs:List (List Sd)}: ∀k,k≤rs.length→(C4 rs k).length=tot (rs.take k)
 |0,_=>rfl
 |k+1,h=>by
  show(C4 rs k++G2 _ _).length=_
  rw[List.length_append,Jn k (by omega),QU,BM h]
theorem KQ (rs:List (List Sd)):(Fp rs).length=tot rs:=by
 unfold Fp
 rw[Jn _ (Nat.le_refl _),List.take_length]
theorem SB {rs:List (List Sd)} {r i:Nat} (hi:i<(rg rs r).length): ∀k,r<k→k≤rs.length→(C4 rs k)[tot (rs.take r)+i]? =some (Nf (rg rs r) i)
 |0,h,_=>absurd h (Nat.not_lt_zero _)
 |k+1,h,hk=>by
  have hl:=Jn (rs:=rs) k (by omega)
  show(C4 rs k++G2 _ _)[_]? =_
  by_cases e:r=k
  ·subst e
   rw[List.getElem?_append_right (by omega),hl,Nat.add_sub_cancel_left]
   unfold G2
   rw[List.getElem?_map,List.getElem?_range hi];rfl
  ·have ih:=SB hi k (by omega) (by omega)
   rw[List.getElem?_append_left (List.getElem?_eq_some_iff.1 ih).1]
   exact ih
theorem RZ {rs:List (List Sd)} {r i:Nat} (hr:r<rs.length) (hi:i<(rg rs r).length):(Fp rs)[tot (rs.take r)+i]? =some (Nf (rg rs r) i):=SB hi rs.length hr (Nat.le_refl _)
theorem Iu (W:World) (p:Option Addr) (cap:Nat) (rs:List (List Sd)) (hn:rs.length<4611686018427387904) (hR:BZ W p rs) (hc:chk rs=0) (hd:HK W) (ht:AA W):
  Ad Tryz.prog 15 #[HQ p rs.length cap] W (fun V:Vec=> .tuple #[V.val (Fp rs).length, .int .i64 0]) (fun V=>V.OK 5 (Fp rs).length (frC (Fp rs))) (fun V=>[V.bx 56 (frC (Fp rs))]):=by
 obtain⟨hne,hT,_⟩:=RJ hc
 obtain⟨hrg,_⟩:=MZ hc
 refine Ab (args:=[HQ p rs.length cap]) Tryz.func15 I I I ?_
 refine zA (zB ?_)
 (refine Ak rfl rfl rfl rfl ?_;intro)
 refine wP I (wP I (Aa ?_))
 rename_i b1
 refine zE (zA (zA (zB (wB 0 I I I (wC I I (fun W1 hp=>(Kq W1 p cap rs hn (by omega) (hR.hp hp)).cast (by rw[hc])) (wP I (Aa (zE (zS I (zI (zE (zA (zB ?_)))))))))))))
 refine wP I (Aa (zE (zA (zA (zB (wP I (wB 0 I I I (wP I (wP I (Aa (zE (zH ?_))))))))))))
 refine Cp ?_
 refine Aw (X:=Nat×Vec) (fun s=>[(1,Af b1),(4,s.2.val (C4 rs s.1).length),(13,slv p rs.length cap),(14, .int .i64 (rs.length:Nat)),(15, .int .i64 (s.1:Nat))]) (fun s=>[⟨b1,36,[slv p rs.length cap],true,none⟩,s.2.bx 56 (frC (C4 rs s.1))])
  (fun s=>s.1≤rs.length∧s.2.OK 5 (C4 rs s.1).length (frC (C4 rs s.1))) (fun s=>rs.length-s.1) (0,Vec.empty) ⟨Nat.zero_le _,Vec.OK.empty 5⟩ ⟨rfl,rfl,rfl,rfl,rfl,trivial⟩ [] rfl ?_
 rintro⟨k,V⟩ ⟨hk,hV⟩
 have hk:k≤rs.length:=hk
 have hV:V.OK 5 (C4 rs k).length (frC (C4 rs k)):=hV
 have hl:=Jn k hk
 refine zA (zB (wP I ?_))
 by_cases hlt:k<rs.length
 ·refine wU 16 true I (dT (by omega)) (Aa (zE (zA (zR I (zI (zE (zA (zH (zA (zB ?_))))))))))
  obtain⟨l,hle⟩: ∃l,l=rg rs k:=⟨_,rfl⟩
  have hs:=BM hlt
  have hs1:=Ey rs (k+1)
  obtain⟨gR,oR,hpe,hrows⟩:=hR.row hlt
  obtain⟨q,c,hrow,hring⟩:=hrows k hlt
  rw[←hle] at hrow hring hs
  have hrl: ∀s∈l,rgd s=true:=fun s hs=>hrg l (by rw[hle];exact List.mem_of_getElem? (De hlt)) s hs
  have hln:l.length≤24:=by omega
  subst hpe
  refine wJ ?_
  refine wL 0 I I (fun W1 hp=>hrow.hp hp) I (wP I (Aa (zE (zA (zB (wP I (wP I (wP I (Aa (zE (zH ?_)))))))))))
  refine Aw (X:=Nat×Vec) (fun s=>[(1,Af b1),(4,s.2.val ((C4 rs k).length+s.1)),(13,slv (some ⟨gR,oR,none⟩) rs.length cap),(14, .int .i64 (rs.length:Nat)),(15, .int .i64 (k:Nat)),(6,slv q l.length c),(19,slv q l.length c),(20, .int .i64 (l.length:Nat)),(21, .int .i64 (s.1:Nat))]) (fun s=>[⟨b1,36,[slv (some ⟨gR,oR,none⟩) rs.length cap],true,none⟩,s.2.bx 56 (frC (C4 rs k++G2 l s.1))])
   (fun s=>s.1≤l.length∧s.2.OK 5 ((C4 rs k).length+s.1) (frC (C4 rs k++G2 l s.1))) (fun s=>l.length-s.1) (0,V) ⟨Nat.zero_le _,by show V.OK 5 _ (frC (C4 rs k++[]));rw[List.append_nil];exact hV⟩ ⟨rfl,rfl,rfl,rfl,rfl,rfl,rfl,rfl,rfl,trivial⟩ [] (by show _=[_,V.bx 56 (frC (C4 rs k++[]))]++[];rw[List.append_nil,List.append_nil]) ?_
  rintro⟨i,U⟩ ⟨hi,hU⟩
  have hi:i≤l.length:=hi
  have hU:U.OK 5 ((C4 rs k).length+i) (frC (C4 rs k++G2 l i)):=hU
  refine zA (zB (wP I ?_))
  by_cases hil:i<l.length
  ·refine wU 22 true I (dT (by omega)) (Aa (zE (zA (zR I (zI (zE (zA (zH (zA (zB ?_))))))))))
   obtain⟨gS,oS,hqe,hsd⟩:=hring.row hil
   have hs0:=hsd i hil
   have hs1:=hsd (nxt l.length i) (TW hil)
   have hnl:=TW hil
   have hsuc:=Tk l i
   subst hqe
   refine wP I ?_
   refine wJ ?_
   refine wL 0 I I (fun W1 hp=>hs0.hp hp) I ?_
   (refine Ae Tryz.hZ rfl rfl rfl rfl ?_;intro)
   refine wP I (wS 2 I I I (Aa ?_))
   rename_i b8
   refine zE ?_
   refine AV (X:= { V':Vec//V'.OK 5 ((C4 rs k).length+(i+1)) (frC (C4 rs k++G2 l (i+1))) }) [true,true,true,true,true,true,true,true,true,true,true,false,false,false] (fun V'=>[(1,Af b1),(4,V'.1.val ((C4 rs k).length+(i+1))),(13,slv (some ⟨gR,oR,none⟩) rs.length cap),(14, .int .i64 (rs.length:Nat)),(15, .int .i64 (k:Nat)),(6,slv (some ⟨gS,oS,none⟩) l.length c),(19,slv (some ⟨gS,oS,none⟩) l.length c),(20, .int .i64 (l.length:Nat)),(21, .int .i64 (i:Nat))])
    (fun V'=>[⟨b1,36,[slv (some ⟨gR,oR,none⟩) rs.length cap],true,none⟩,V'.1.bx 56 (frC (C4 rs k++G2 l (i+1)))])
    3 [⟨b1,36,[slv (some ⟨gR,oR,none⟩) rs.length cap],true,none⟩,U.bx 56 (frC (C4 rs k++G2 l i)),⟨b8,97,(sd l i).cells,true,none⟩] Tryz.mixed (by kernel_rfl) ?_ ?_
   ·refine qP I (qB 2 I I I (qP I (qP I (qP I (qV 30 ((i+1:Nat):Int) I (Ax (by omega)) (qP I (qP I ?_)))))))
    refine Ed I I I I I (by omega) ?_
    refine qV 33 (nxt l.length i:Nat) I (by rw[Int.tmod_eq_emod_of_nonneg (by omega)];exact(Int.natCast_emod _ _).symm) ?_
    refine qJ ?_
    refine qL 0 I I (fun W1 hp=>hs1.hp hp) I (qC I I (fun W1 hp=>TH (sd l i) (sd l (nxt l.length i)) (hrl _ (List.mem_of_getElem? (JB hil))) W1 (hd.hp hp) (ht.hp hp)) (BU (wX (wZ ?_))))
    refine At Tryz.hZ tH I I I I I I I I I I I fun bN=> ?_
    refine Aa (Ag (wX (wZ ?_)))
    refine AH (V:=U) (len:=(C4 rs k).length+i) (xs:=frC (C4 rs k++G2 l i)) 1 3 Tryz.vec48 ((C4 rs k).length+(i+1)) (frC (C4 rs k++G2 l (i+1))) rfl rfl rfl rfl rfl rfl rfl rfl rfl rfl rfl hU rfl rfl rfl (by rw[hsuc, ←List.append_assoc,Ss (C4 rs k++G2 l i)];rfl) (by simp only[maxLen];omega) (by omega) rfl ?_;intro gV cV jV hV1
    refine Aa (Ag (wY (wZ (wP I (Aa (Ag ?_))))))
    refine AP I (by kernel_rfl) ?_
    exact A6 ⟨⟨some gV,cV,jV⟩,hV1⟩ ⟨I,I,I,I,I,I,I,I,I,tO⟩ [0,1] (by decide) I
   intro V'
   exact zN (zE (zB (wP I (wV 39 ((i+1:Nat):Int) I (Ax (by omega)) (wP I (Aa (Al (i+1,V'.1) ⟨hil,V'.2⟩ (by show l.length-(i+1)<l.length-i;omega) ⟨I,I,I,I,I,I,I,I,I,tO⟩ [] I)))))))
  have e:i=l.length:=by omega
  subst e
  refine wU 22 false I (dF (by omega)) (Aa (zE (zA (zS I (zJ (zK (zK (zL (zN (zE (zB ?_)))))))))))
  have hall:C4 rs (k+1)=C4 rs k++G2 l l.length:=by rw[hle];rfl
  have hall2:(C4 rs (k+1)).length=(C4 rs k).length+l.length:=by rw[hall,List.length_append,QU]
  exact wP I (wV 40 ((k+1:Nat):Int) I (Ax (by omega)) (wP I (Aa (Al (k+1,U) ⟨hlt,by show U.OK 5 (C4 rs (k+1)).length (frC (C4 rs (k+1)));rw[hall2,hall];exact hU⟩ (by show rs.length-(k+1)<rs.length-k;omega) ⟨I,by show some (U.val _)=some (U.val (C4 rs (k+1)).length);rw[hall2],I,I,I,tO⟩ [] (by show _=[_,U.bx 56 (frC (C4 rs (k+1)))]++[];rw[hall];rfl)))))
 have e:k=rs.length:=by omega
 subst e
 refine wU 16 false I (dF (by omega)) (Aa (zE (zA (zS I (zJ (zK (zK (zL (zE (zA (zB (wP I (wP I (wP I ?_))))))))))))))
 exact Aa (zE (zO (A9 tH I (.tmp I) (.tmp I) V I hV fun W1 hp=>As.of_hp (hp.pick (l:=[V.bx 56 (frC (C4 rs rs.length))]) [1] (by decide) I))))
-- BOXES 4
-- CODE2
theorem DH {q:Rat} {n:Nat} (h:(Ac q).length≤n) (hn:1≤n):szQ q n:=by
 have hi:(itoa q.num).length≤n∧(decDigits q.den).length≤n:=by
  unfold Ac Gg at h
  split at h
  ·rename_i e
   exact⟨h,by rw[e];exact Nat.le_trans (CM 1 1 (by decide) (by decide)) hn⟩
  ·rw[List.length_append,List.length_cons] at h
   omega
 have h2:(decDigits q.num.natAbs).length≤n:=by
  have h1:=hi.1
  unfold itoa at h1
  split at h1
  ·exact Nat.le_of_succ_le h1
  ·rwa [show q.num.toNat=q.num.natAbs by omega] at h1
 exact⟨Nat.lt_of_lt_of_le (Gi _) (Nat.pow_le_pow_right (by decide) h2),Nat.lt_of_lt_of_le (Gi _) (Nat.pow_le_pow_right (by decide) hi.2)⟩
theorem Dj {a:List UInt8} (h:(rdR a).2=0): ∃q,okQ q∧a=Ac q:=by
 unfold rdR at h
 cases hf:frm a with
 |none=>rw[hf] at h;exact absurd h (by decide)
 |some x=>
  obtain⟨z,d⟩:=x
  rw[hf] at h
  simp only at h
  by_cases h1:z.natAbs<Bc∧d<Bc
  ·rw[if_pos h1] at h
   by_cases h2:Nat.gcd z.natAbs d=1
   ·obtain⟨h3,h4⟩:=L6 hf
    exact⟨⟨z,d,by omega,h2⟩,⟨h1.1,by unfold okN;rw[Int.natAbs_natCast];exact h1.2⟩,h4⟩
   ·rw[if_neg h2] at h;exact absurd h (by decide)
  ·rw[if_neg h1] at h;exact absurd h (by decide)
theorem Cd (p q:Rat) (h:Sz2 p q) (W:World) (hv:AL W) (ht:AA W):
  Ad Tryz.prog 82 #[str (Ac p),str (Ac q)] W (fun _:Unit=> .int .i64 (Cw p q)) (fun _=>True) (fun _=>[]):=by
 refine Ab (args:=[str (Ac p),str (Ac q)]) Tryz.func82 I I I ?_
 refine zA (zB (wP I (Aa (zE (zA (zB (wP I (wP I (wC I I (fun W hp=>(DM p q h W (hv.hp hp) (ht.hp hp)).cast (by rw[JP])) ?_)))))))))
 iterate 5 refine wP I ?_
 exact Aa (zE (zA (zB (wP I (wP I (Aa (zE (zO (wR1 I I I)))))))))
theorem MJ (q:Rat) (h:szQ q 12) (W:World) (hv:AL W) (ht:AA W):
  Ad Tryz.prog 186 #[str (Ac q)] W (fun _:Unit=> .int .i64 0) (fun _=>True) (fun _=>[]):=by
 have hk:=h.ok (by decide)
 have l1:=CM 12 q.num.natAbs (by decide) h.1
 have l2:=CM 12 q.den (by decide) h.2
 refine Ab (args:=[str (Ac q)]) Tryz.func186 I I I ?_
 refine zA (zB (wP I (Aa (zE (zA (zB (wP I (wC I I (fun W hp=>E9 q hk W (hv.hp hp) (ht.hp hp)) ?_))))))))
 iterate 7 refine wP I ?_
 refine Aa (zE (zA (zA (zB (wP I (wP I (Aa (zE (zS I (zI (zE (zA (zA ?_)))))))))))))
 refine zB (wP I (wC I I (fun W _=>(B8 (itoa q.num) [45] W).cast (by rw[AU])) (wP I ?_)))
 refine Ao 17 (.int .i64 ((decDigits q.num.natAbs).length:Nat)) I (congrArg (fun n:Nat=>Value.int .i64 (n:Int)) (A5 _)) ?_
 refine wP I (wU 18 false I (dF (by omega)) (wP I (wP I (wP I ?_))))
 refine Ao 21 (.int .i64 ((decDigits q.den).length:Nat)) I (congrArg (fun n:Nat=>Value.int .i64 (n:Int)) ((A5 _).trans (by rw[GZ]))) ?_
 exact wP I (wU 22 false I (dF (by omega)) (wP I (Aa (zE (zS I (zI (zE (zA (zB (wP I (Aa (zE (zO (wR1 I I I))))))))))))))
def ner:List (List UInt8)→Int
 |[]=>0
 |a::l=>if (rdR a).2=0 then ner l else(rdR a).2
theorem TO {l:List (List UInt8)} {i:Nat} (h:i<l.length):ner (l.drop i)=if (rdR l[i]).2=0 then ner (l.drop (i+1)) else(rdR l[i]).2:=by
 rw[List.drop_eq_getElem_cons h];rfl
theorem Mz: ∀ {l:List (List UInt8)},ner l=0→ ∀a∈l,(rdR a).2=0
 |[],_,_,h=>by cases h
 |b::l,h,a,ha=>by
  unfold ner at h
  by_cases hb:(rdR b).2=0
  ·rw[if_pos hb] at h
   rcases List.mem_cons.1 ha with rfl|ha
   ·exact hb
   ·exact Mz h a ha
  ·rw[if_neg hb] at h
   exact absurd h hb
theorem Hx (W:World) (p:Option Addr) (cap:Nat) (l:List (List UInt8)) (hA:E8 W p l) (hn:l.length≤100000) (hs: ∀a∈l,a.length≤12) (hv:AL W) (ht:AA W):
  Ad Tryz.prog 114 #[slv p l.length cap] W (fun _:Unit=> .int .i64 (ner l)) (fun _=>True) (fun _=>[]):=by
 refine Ab (args:=[slv p l.length cap]) Tryz.func114 I I I ?_
 refine zA (zB (wP I (Aa (zE (zA (zA (zB (wP I (wP I (wP I (Aa (zE (zH ?_)))))))))))))
 refine Aw (X:=Nat) (fun i=>[(0,slv p l.length cap),(2, .int .i64 0),(9,slv p l.length cap),(10, .int .i64 (l.length:Nat)),(11, .int .i64 (i:Nat))]) (fun _=>[]) (fun i=>i≤l.length∧ner l=ner (l.drop i)) (fun i=>l.length-i) 0 ⟨Nat.zero_le _,I⟩ ⟨I,I,I,I,I,tO⟩ [] I ?_
 rintro i ⟨hi,he⟩
 have hi:i≤l.length:=hi
 have he:ner l=ner (l.drop i):=he
 refine zA (zB (wP I ?_))
 by_cases hlt:i<l.length
 ·refine wU 12 true I (dT (by omega)) (Aa (zE (zA (zR I (zI (zE (zA (zH (zA (zB ?_))))))))))
  obtain⟨b,off,rfl,hrow⟩:=hA.row hlt
  have hr:=hrow i hlt
  have hz:=hs l[i] (List.getElem_mem _)
  rw[TO hlt] at he
  obtain⟨x,hx⟩: ∃x,x=l[i]:=⟨_,rfl⟩
  rw[←hx] at hr hz he
  refine wJ ?_
  refine wL 0 I I (fun W1 hp=>hr.hp hp) I (wP I (Aa (zE (zA (zB (wP I (wC I I (fun W1 hp=>B0 x (by omega) W1 (hv.hp hp) (ht.hp hp)) (wP I (Aa (zE (zA (zB (wP I (wP I ?_))))))))))))))
  by_cases h1:(rdR x).2=0
  rotate_left
  ·refine wU 18 true I (bne_iff_ne.2 h1) (Aa (zE (zR I (zA (zB (wP I (wP I (Aa (zE (zO (zQ (zP (zP ?_)))))))))))))
   refine zQ (zP ?_)
   rw[if_neg h1] at he
   exact wR1 I I (by rw[he])
  rw[if_pos h1] at he
  exact wU 18 false I (bne_eq_false_iff_eq.2 h1) (Aa (zE (zS I (zI (zN (zE (zB (wP I (wV 20 ((i+1:Nat):Int) I (Ax (by omega)) (wP I (Aa (Al (i+1) ⟨hlt,he⟩ (by show l.length-(i+1)<l.length-i;omega) ⟨I,I,I,I,I,tO⟩ [] I))))))))))))
 refine wU 12 false I (dF (by omega)) (Aa (zE (zA (zS I (zJ (zK (zK (zL (zE (zA (zA (zB ?_))))))))))))
 rw[List.drop_of_length_le (by omega)] at he
 have hall:=Mz he
 refine wP I (wP I (wP I (Aa (zE (zH ?_)))))
 refine Aw (X:=Nat) (fun i=>[(2, .int .i64 0),(21,slv p l.length cap),(22, .int .i64 (l.length:Nat)),(23, .int .i64 (i:Nat))]) (fun _=>[]) (fun i=>i≤l.length) (fun i=>l.length-i) 0 (Nat.zero_le _) ⟨I,I,I,I,tO⟩ [] I ?_
 intro i hi
 have hi:i≤l.length:=hi
 refine zA (zB (wP I ?_))
 by_cases hlt:i<l.length
 ·refine wU 24 true I (dT (by omega)) (Aa (zE (zA (zR I (zI (zE (zA (zH (zA (zB ?_))))))))))
  obtain⟨b,off,rfl,hrow⟩:=hA.row hlt
  have hr:=hrow i hlt
  obtain⟨q,_,hx⟩:=Dj (hall l[i] (List.getElem_mem _))
  have hz:=DH (q:=q) (by rw[←hx];exact hs l[i] (List.getElem_mem _)) (by decide)
  rw[hx] at hr
  refine wJ ?_
  refine wL 0 I I (fun W1 hp=>hr.hp hp) I (wP I (Aa (zE (zA (zB (wP I (wC I I (fun W1 hp=>MJ q hz W1 (hv.hp hp) (ht.hp hp)) (wP I (Aa (zE (zA (zB (wP I (wP I ?_))))))))))))))
  exact Aa (zE (zS I (zI (zN (zE (zB (wP I (wV 32 ((i+1:Nat):Int) I (Ax (by omega)) (wP I (Aa (Al (i+1) hlt (by show l.length-(i+1)<l.length-i;omega) ⟨I,I,I,I,tO⟩ [] I)))))))))))
 refine wU 24 false I (dF (by omega)) (Aa (zE (zA (zS I (zJ (zK (zK (zL (zE (zA (zB (wP I (Aa ?_)))))))))))))
 exact zE (zO (wR1 I I (by rw[he];rfl)))
def Uo (a b:Int):Bool:=decide (1≤a∧a≤48∧1≤b∧b≤48)
theorem OR (a b:Int) (W:World):
  Ad Tryz.prog 122 #[.int .i64 a, .int .i64 b] W (fun _:Unit=> .bool (Uo a b)) (fun _=>True) (fun _=>[]):=by
 refine Ab (args:=[.int .i64 a, .int .i64 b]) Tryz.func122 I I I ?_
 refine zA (zB (wP I (Aa (zE (zA (zB (wP I (wP I ?_))))))))
 by_cases h1:1≤a
 rotate_left
 ·refine wU 6 false I (dF (by omega)) (wP I ?_)
  iterate 2 refine Ah I I ?_
  refine wP I (wP I ?_)
  iterate 2 refine Ah I I ?_
  refine wP I (wP I ?_)
  iterate 2 refine Ah I I ?_
  exact wP I (wP I (Aa (zE (zO (wR1 I I (congrArg Value.bool (dF (by omega)).symm))))))
 refine wU 6 true I (dT (by omega)) (wP I (wP I (wP I ?_)))
 by_cases h2:a≤48
 rotate_left
 ·refine wU 9 false I (dF (by omega)) (wP I (wP I ?_))
  iterate 2 refine Ah I I ?_
  refine wP I (wP I ?_)
  iterate 2 refine Ah I I ?_
  exact wP I (wP I (Aa (zE (zO (wR1 I I (congrArg Value.bool (dF (by omega)).symm))))))
 refine wU 9 true I (dT (by omega)) (wP I (wP I (wP I (wP I ?_))))
 by_cases h3:1≤b
 rotate_left
 ·refine wU 13 false I (dF (by omega)) (wP I (wP I ?_))
  iterate 2 refine Ah I I ?_
  exact wP I (wP I (Aa (zE (zO (wR1 I I (congrArg Value.bool (dF (by omega)).symm))))))
 refine wU 13 true I (dT (by omega)) (wP I (wP I (wP I (wP I ?_))))
 by_cases h4:b≤48
 rotate_left
 ·exact wU 17 false I (dF (by omega)) (wP I (wP I (Aa (zE (zO (wR1 I I (congrArg Value.bool (dF (by omega)).symm)))))))
 exact wU 17 true I (dT (by omega)) (wP I (wP I (Aa (zE (zO (wR1 I I (congrArg Value.bool (dT ⟨h1,h2,h3,h4⟩).symm)))))))
-- BOXES 4
-- CODE2
abbrev dmS (s:Int) (x h e:List UInt8) (a b:Int):Value:= .agg #[.int .i64 s,str x,str h,str e, .int .i64 a, .int .i64 b]
abbrev Gs (s:Int) (l r lo hi:List UInt8):Value:= .agg #[.int .i64 s,str l,str r,str lo,str hi]
theorem JF {a b:Int} (ha:1≤a∧a≤48) (hb:1≤b∧b≤48):szQ (nrm a b) 2:=G4 a (by omega) (by show a.natAbs<100;omega) (by show b.natAbs<100;omega)
theorem OW (s a b:Int) (x:List UInt8) (h e:Rat) (ha:1≤a∧a≤48) (hb:1≤b∧b≤48) (zh:szQ h 8) (ze:szQ e 8) (W:World) (hv:AL W) (ht:AA W):
  Ad Tryz.prog 54 #[dmS s x (Ac h) (Ac e) a b] W (fun _:Unit=> .tuple #[str (Ac (e+h*nrm a b)), .int .i64 0]) (fun _=>True) (fun _=>[]):=by
 have z1:=JF ha hb
 have z2:=zh.mul z1
 refine Ab (args:=[dmS s x (Ac h) (Ac e) a b]) Tryz.func54 I I I ?_
 refine zA (zB ?_)
 (refine Ak rfl rfl rfl rfl ?_;intro)
 refine wP I (wP I (Aa (zE (zA (zB (wP I (wB 0 I I I (wP I (wB 0 I I I (wC I I (fun W hp=>(FV a b (by omega) (by omega) W (ht.hp hp)).cast (by rw[ofR,if_neg (by omega)])) ?_))))))))))
 iterate 5 refine wP I ?_
 refine Aa (zE (zA (zA (zB (wP I (wP I (Aa (zE (zS I (zI (zE (zA (zB ?_)))))))))))))
 refine wP I (wB 0 I I I (wP I (wC I I (fun W hp=>C2 h (nrm a b) (sz2 zh z1 (by decide)) W (hv.hp hp) (ht.hp hp)) ?_)))
 iterate 5 refine wP I ?_
 refine Aa (zE (zA (zA (zB (wP I (wP I (Aa (zE (zS I (zI (zE (zA (zB ?_)))))))))))))
 exact wP I (wB 0 I I I (wP I (wC I I (fun W hp=>CN e (h*nrm a b) (sz2 ze z2 (by decide)) W (hv.hp hp) (ht.hp hp)) (wP I (wP I (wP I (wP I (Aa (zE (zO (wR2 I I I)))))))))))
theorem PC (f:FrP) (z:Rat) (zs:szQ f.sp 2) (zt:szQ f.st 5) (zz:szQ z 19) (W:World) (hv:AL W) (ht:AA W):
  Ad Tryz.prog 81 #[frV f,str (Ac z)] W (fun _:Unit=> .tuple #[str (Ac ((z-f.st)*f.sp)), .int .i64 0]) (fun _=>True) (fun _=>[]):=by
 have z2:=zz.sub zt
 refine Ab (args:=[frV f,str (Ac z)]) Tryz.func81 I I I ?_
 refine zA (zB ?_)
 (refine Ak rfl rfl rfl rfl ?_;intro)
 refine wP I (wP I (Aa (zE (zA (zB (wP I (wP I (wB 0 I I I (wC I I (fun W hp=>CO z f.st (sz2 zz zt (by decide)) W (hv.hp hp) (ht.hp hp)) ?_)))))))))
 iterate 5 refine wP I ?_
 refine Aa (zE (zA (zA (zB (wP I (wP I (Aa (zE (zS I (zI (zE (zA (zB ?_)))))))))))))
 exact wP I (wP I (wB 0 I I I (wC I I (fun W hp=>C2 (z-f.st) f.sp (sz2 z2 zs (by decide)) W (hv.hp hp) (ht.hp hp)) (wP I (wP I (wP I (wP I (Aa (zE (zO (wR2 I I I)))))))))))
theorem HM (s:Int) (l r lo hi:Rat) (zl:szQ l 8) (zr:szQ r 8) (zo:szQ lo 8) (zi:szQ hi 8) (W:World) (hv:AL W) (ht:AA W):
  Ad Tryz.prog 104 #[Gs s (Ac l) (Ac r) (Ac lo) (Ac hi)] W (fun _:Unit=> .tuple #[str (Ac ((r-l)*(hi-lo))), .int .i64 0]) (fun _=>True) (fun _=>[]):=by
 refine Ab (args:=[Gs s (Ac l) (Ac r) (Ac lo) (Ac hi)]) Tryz.func104 I I I ?_
 refine zA (zB ?_)
 (refine Ak rfl rfl rfl rfl ?_;intro)
 refine wP I (wP I (Aa (zE (zA (zB (wP I (wB 0 I I I (wP I (wB 0 I I I (wC I I (fun W hp=>CO r l (sz2 zr zl (by decide)) W (hv.hp hp) (ht.hp hp)) ?_))))))))))
 iterate 5 refine wP I ?_
 refine Aa (zE (zA (zA (zB (wP I (wP I (Aa (zE (zS I (zI (zE (zA (zB ?_)))))))))))))
 refine wP I (wB 0 I I I (wP I (wB 0 I I I (wC I I (fun W hp=>CO hi lo (sz2 zi zo (by decide)) W (hv.hp hp) (ht.hp hp)) ?_))))
 iterate 5 refine wP I ?_
 refine Aa (zE (zA (zA (zB (wP I (wP I (Aa (zE (zS I (zI (zE (zA (zB ?_)))))))))))))
 exact wP I (wP I (wC I I (fun W hp=>C2 (r-l) (hi-lo) (sz2 (zr.sub zl) (zi.sub zo) (by decide)) W (hv.hp hp) (ht.hp hp)) (wP I (wP I (wP I (wP I (Aa (zE (zO (wR2 I I I))))))))))
-- BOXES 4
-- CODE2
theorem szo:szQ (0:Rat) 1:=IN (z:=0) (by decide) (by decide)
theorem Y1 {a b c x y:Rat} {i j k m n:Nat} (ha:szQ a i) (hb:szQ b j) (hc:szQ c k) (hx:szQ x m) (hy:szQ y n) (hk:i+m+(j+n)+k+10≤300):HtZ a b c x y:=by
 have p1:=ha.mul hx
 have p2:=hb.mul hy
 refine⟨sz2 ha hx (by omega),sz2 hb hy (by omega),fun q hq=> ?_,fun l hl=> ?_⟩
 ·rcases List.mem_cons.1 hq with rfl|hq
  ·exact p1.ok (by omega)
  ·rcases List.mem_cons.1 hq with rfl|hq
   ·exact p2.ok (by omega)
   ·obtain rfl:=List.mem_singleton.1 hq
    exact hc.ok (by omega)
 ·have s1:=szo.add p1
  have s2:=s1.add p2
  have hl3:l<3:=hl
  have hc3:l=0∨l=1∨l=2:=by omega
  rcases hc3 with rfl|rfl|rfl
  ·exact sz2 szo p1 (by omega)
  ·exact sz2 s1 p2 (by omega)
  ·exact sz2 s2 hc (by omega)
def FrP.off (f:FrP) (d:Rat):Rat:=(f.pos:Rat)+(f.hd:Rat)*d
def FrP.px (f:FrP) (u d:Rat):Rat:=if f.ax then f.off d else u
def FrP.py (f:FrP) (u d:Rat):Rat:=if f.ax then u else f.off d
def FrP.pz (f:FrP) (d:Rat):Rat:=f.st+d/f.sp
def FrP.spot (f:FrP) (u d:Rat):Value:= .agg #[str (Ac (f.px u d)),str (Ac (f.py u d)),str (Ac (f.pz d))]
structure FrP.Go (f:FrP):Prop where
 ok:f.OK
 sp:szQ f.sp 2
 st:szQ f.st 5
 h0:f.sp≠0
theorem FrP.Go.offz {f:FrP} (h:f.Go) {d:Rat} (zd:szQ d 27):szQ (f.off d) 34:=h.ok.posz.add (h.ok.hdz.mul zd)
theorem FrP.Go.sum {f:FrP} (h:f.Go) (u d:Rat):0+(if f.ax then f.slope else 0)*f.px u d+(if f.ax then 0 else f.slope)*f.py u d+f.base=f.pz d:=by
 have h0:=h.h0
 unfold FrP.px FrP.py FrP.pz FrP.base FrP.slope FrP.off
 rcases h.ok.hd2 with e|e<;>rw[e]<;>cases f.ax<;>simp only[Bool.false_eq_true,if_false,if_true]<;>grind
theorem X1 {f:FrP} (h:f.OK) (d:Rat):(if f.hd<0 then(f.pos:Rat)-d else(f.pos:Rat)+d)=f.off d:=by
 unfold FrP.off
 rcases h.hd with e|e
 ·rw[if_neg (by omega),e];grind
 ·rw[if_pos (by omega),e];grind
theorem Kp (f:FrP) (h:f.Go) (u d:Rat) (zu:szQ u 17) (zd:szQ d 27) (W:World) (hv:AL W) (ht:AA W):
  Ad Tryz.prog 123 #[frV f,str (Ac u),str (Ac d)] W (fun _:Unit=> .tuple #[f.spot u d, .int .i64 0]) (fun _=>True) (fun _=>[]):=by
 have zo:=h.offz zd
 have zsl:szQ f.slope 3:=h.ok.hdz.div h.sp (TS h.h0)
 have zba:szQ f.base 14:=h.st.sub (zsl.mul h.ok.posz)
 have zx:szQ (f.px u d) 34:=by unfold FrP.px;split;exact zo;exact zu.mono (by decide)
 have zy:szQ (f.py u d) 34:=by unfold FrP.py;split;exact zu.mono (by decide);exact zo
 obtain⟨A,hA⟩: ∃A:Rat,A=if f.ax then f.slope else 0:=⟨_,rfl⟩
 obtain⟨B,hB⟩: ∃B:Rat,B=if f.ax then 0 else f.slope:=⟨_,rfl⟩
 have kA:szQ A 3:=by rw[hA];split;exact zsl;exact szo.mono (by decide)
 have kB:szQ B 3:=by rw[hB];split;exact szo.mono (by decide);exact zsl
 have hsum:0+A*f.px u d+B*f.py u d+f.base=f.pz d:=by rw[hA,hB];exact h.sum u d
 have hplane:f.plane= .tuple #[plV A B f.base, .int .i64 0]:=by
  rw[FrP.plane,if_neg (TS h.h0),hA,hB]
  cases f.ax
  ·simp only[Bool.false_eq_true,if_false,plV,Cs]
  ·simp only[if_true,plV,Cs]
 have z1:=sz2 h.ok.posz zd (by decide)
 refine Ab (args:=[frV f,str (Ac u),str (Ac d)]) Tryz.func123 I I I ?_
 refine zA (zB ?_)
 (refine Ak rfl rfl rfl rfl ?_;intro)
 (refine Ae Tryz.hZ rfl rfl rfl rfl ?_;intro)
 refine wP I (Aa ?_)
 rename_i b3 b6
 refine zE (zA (zB (wP I (wB 0 I I I (wC I I (fun W hp=>(FV f.pos 1 h.ok.pos64 (by decide) W (ht.hp hp)).cast (by rw[Pa])) ?_)))))
 iterate 5 refine wP I ?_
 refine Aa (zE (zA (zA (zB (wP I (wP I (Aa (zE (zS I (zI (zE (zA (zB ?_)))))))))))))
 refine wP I (Aa (zE (zA (zA (zB (wP I (wB 0 I I I (wP I (Aa ?_)))))))))
 obtain⟨g,hg⟩: ∃g:Nat,g=if f.hd<0 then 21 else 19:=⟨_,rfl⟩
 refine A8 ?_
 try refine Az ?_
 refine AC (X:=Unit) (fun _=>[(1,str (Ac u)),(2,str (Ac d)),(3,Af b3),(6,Af b6),(7, .int .i64 0),(8,str (Ac (f.pos:Rat))),(10, .func (.func g) #[] #[])]) (fun _=>[⟨b3,56,(frV f).cells.toList,true,none⟩,⟨b6,45,[str [],str [],str []],true,none⟩]) (fun _=>True) ?_ ?_
 ·refine Aj I (fun hn=> ?_) (fun hn=> ?_)
  ·have hn:f.hd<0:=of_decide_eq_true hn
   rw[if_pos hn] at hg
   exact zB (wP I (Aa (An () tO ⟨I,I,I,I,I,I,by rw[hg];rfl,tO⟩ [] I)))
  ·have hn: ¬f.hd<0:=of_decide_eq_false hn
   rw[if_neg hn] at hg
   exact zI (An () tO ⟨I,I,I,I,I,I,by rw[hg];rfl,tO⟩ [] I)
 intro _ _
 refine zA (zB ?_)
 have hE:AN Tryz.prog g=true:=by rw[hg];split<;>kernel_rfl
 refine wP I (wP I (wP I ?_))
 refine Bh (g:=g) (capt:=[]) I I I I I I hE (fun W hp=>(show Ad Tryz.prog g #[str (Ac (f.pos:Rat)),str (Ac d)] W (fun _:Unit=> .tuple #[str (Ac (f.off d)), .int .i64 0]) (fun _=>True) (fun _=>[]) by
  rw[hg, ←X1 h.ok]
  split
  ·exact CO (f.pos:Rat) d z1 W (hv.hp hp) (ht.hp hp)
  ·exact CN (f.pos:Rat) d z1 W (hv.hp hp) (ht.hp hp))) ?_
 iterate 5 refine wP I ?_
 refine Aa (zE (zA (zA (zB (wP I (wP I (Aa (zE (zS I (zI (zE (zA (zB ?_)))))))))))))
 refine wP I (wP I ?_)
 refine Au Tryz.hZ tH I I I I I I I I ?_
 (refine Ae Tryz.hZ rfl rfl rfl rfl ?_;intro)
 refine wS 2 I I I (Aa ?_)
 rename_i b12
 refine zE (zA (zA (zB (wP I (wB 0 I I I (Aa (A8 ?_)))))))
 try refine Az ?_
 refine AC (X:=Unit) (fun _=>[(3,Af b3),(6,Af b6),(7, .int .i64 0),(12,Af b12)]) (fun _=>[⟨b3,56,(frV f).cells.toList,true,none⟩,⟨b6,45,[str [],str [],str []],true,none⟩,⟨b12,62,[str (Ac (f.px u d)),str (Ac (f.py u d))],true,none⟩]) (fun _=>True) ?_ ?_
 ·refine Aj I (fun hax=> ?_) (fun hax=> ?_)
  ·have hax:f.ax=true:=hax
   refine zB (wP I (wP I ?_))
   refine Au Tryz.hZ tH I I I I I I I I ?_
   exact wS 2 I I I (Aa (An () tO ⟨I,I,I,I,tO⟩ [] (by rw[FrP.px,FrP.py,if_pos hax,if_pos hax];rfl)))
  ·have hax:f.ax=false:=hax
   exact zI (An () tO ⟨I,I,I,I,tO⟩ [] (by rw[FrP.px,FrP.py,hax];rfl))
 intro _ _
 refine zA (zA (zB (wP I (wB 0 I I I (wP I (wU 49 false I ((Bd _ _).trans ((Q9 f.sp).trans (dF h.h0))) (Aa (zE (zS I (zI (zE (zA (zB ?_)))))))))))))
 refine wB 0 I I I (wC I I (fun W hp=>(OF f h.ok W (hv.hp hp) (ht.hp hp)).cast hplane) (wP I (wP I (wP I ?_))))
 (refine Ae Tryz.hZ rfl rfl rfl rfl ?_;intro)
 refine wS 3 I I I (wP I (Aa (zE (zA (zA (zB (wP I (wP I (Aa (zE (zS I (zI (zE ?_)))))))))))))
 refine zA (zB (wB 3 I I I (wB 2 I I I (wC I I (fun W hp=>(MQ A B f.base (f.px u d) (f.py u d) (kA.mono (by decide)) (kB.mono (by decide)) (zba.mono (by decide)) (zx.mono (by decide)) (zy.mono (by decide)) (Y1 kA kB zba zx zy (by decide)) W (hv.hp hp) (ht.hp hp)).cast (by rw[hsum])) ?_))))
 iterate 5 refine wP I ?_
 refine Aa (zE (zA (zB (wP I (wB 2 I I I (wP I (wB 2 I I I (wP I ?_))))))))
 refine Au Tryz.hZ tH I I I I I I I I ?_
 exact wP I (wS 1 I I I (wP I (Aa (zE (zO (A9 tH I (.cell 1 I I I I I) (.tmp I) () I tO fun W _=>As.nil _ _))))))
theorem Th (f:FrP) (h:f.Go) (u z:Rat) (zu:szQ u 17) (zz:szQ z 19) (W:World) (hv:AL W) (ht:AA W):
  Ad Tryz.prog 53 #[frV f,str (Ac u),str (Ac z)] W (fun _:Unit=> .tuple #[f.spot u ((z-f.st)*f.sp), .int .i64 0]) (fun _=>True) (fun _=>[]):=by
 have zd:szQ ((z-f.st)*f.sp) 27:=(zz.sub h.st).mul h.sp
 refine Ab (args:=[frV f,str (Ac u),str (Ac z)]) Tryz.func53 I I I ?_
 refine zA (zB ?_)
 (refine Ak rfl rfl rfl rfl ?_;intro)
 (refine Ae Tryz.hZ rfl rfl rfl rfl ?_;intro)
 refine wP I (Aa (zE (zA (zB (wB 0 I I I (wP I (wC I I (fun W hp=>PC f z h.sp h.st zz W (hv.hp hp) (ht.hp hp)) ?_)))))))
 iterate 5 refine wP I ?_
 refine Aa (zE (zA (zA (zB (wP I (wP I (Aa (zE (zS I (zI (zE (zA (zB ?_)))))))))))))
 exact wB 0 I I I (wP I (wP I (wC I I (fun W hp=>Kp f h u ((z-f.st)*f.sp) zu zd W (hv.hp hp) (ht.hp hp)) (wP I (wP I (wS 1 I I I (wP I (Aa (zE (zO (A9 tH I (.cell 1 I I I I I) (.tmp I) () I tO fun W _=>As.nil _ _)))))))))))
theorem X4 {z d:Int} (hz:0≤z) (hd:0<d):0≤(nrm z d).num:=by
 obtain⟨e,rfl⟩: ∃e:Nat,d=((e+1:Nat):Int):=⟨(d-1).toNat,by omega⟩
 unfold nrm
 rw[if_neg (by omega),mkRat,dif_neg (by omega),Rat.normalize_eq]
 exact Int.ediv_nonneg hz (by omega)
theorem Xa {s t:Sd} (h:rgd s=true):(frO s t).OK:=by
 obtain⟨hx,hy,hp,hr⟩:=HD h
 refine⟨?_, ?_, ?_, ?_, ?_, ?_⟩
 ·show 0≤(if _ then s.x else s.y);split<;>omega
 ·show(if _ then s.x else s.y)≤65536;split<;>omega
 ·show MY _=1∨MY _= -1
  unfold MY;split
  ·exact .inl I
  ·exact .inr I
 ·show szQ (if s.gable then(0:Rat) else nrm s.run s.rise) 36
  cases hg:s.gable with
  |true=>rw[if_pos rfl];exact⟨by decide,by decide⟩
  |false=>
   obtain⟨h1,h2⟩:=hr hg
   rw[if_neg (by decide)]
   exact szQ.mono (k:=2) (G4 _ (by omega) (by show _<100;omega) (by show _<100;omega)) (by decide)
 ·exact szQ.mono (k:=5) (IN (by show _<100000;omega) (by decide)) (by decide)
 ·show 0≤(if s.gable then(0:Rat) else nrm s.run s.rise).num
  cases hg:s.gable with
  |true=>rw[if_pos rfl];decide
  |false=>
   obtain⟨h1,h2⟩:=hr hg
   rw[if_neg (by decide)]
   exact X4 (by omega) (by omega)
theorem Xz {s t:Sd} (h:rgd s=true):(frO s t).sp=0↔s.gable=true:=by
 obtain⟨hx,hy,hp,hr⟩:=HD h
 show(if s.gable then(0:Rat) else nrm s.run s.rise)=0↔_
 cases hg:s.gable with
 |true=>simp
 |false=>
  obtain⟨h1,h2⟩:=hr hg
  refine⟨fun e=> ?_,fun e=>by cases e⟩
  have e:nrm s.run s.rise=0:=by simpa using e
  rw[HG _ (by omega),Rat.divInt_eq_div] at e
  have r1:(0:Rat)<(s.run:Rat):=by have:=Rat.intCast_lt_intCast.2 (show(0:Int)<s.run by omega);exact this
  have r2:(0:Rat)<(s.rise:Rat):=by have:=Rat.intCast_lt_intCast.2 (show(0:Int)<s.rise by omega);exact this
  have:(s.run:Rat)=0:=by grind
  grind
end
section
open Go Go.RowKit Go.Am
theorem PF {rs:List (List Sd)} {m:Nat}: ∀k,k≤rs.length→m<tot (rs.take k)→ ∃r i,r<k∧i<(rg rs r).length∧m=tot (rs.take r)+i
 |0,_,h=>by simp[tot] at h
 |k+1,hk,h=>by
  rw[BM (by omega)] at h
  by_cases e:m<tot (rs.take k)
  ·obtain⟨r,i,h1,h2,h3⟩:=PF k (by omega) e
   exact⟨r,i,by omega,h2,h3⟩
  ·exact⟨k,m-tot (rs.take k),by omega,by omega,by omega⟩
theorem XU {rs:List (List Sd)} {m:Nat} (h:m<tot rs): ∃r i,r<rs.length∧i<(rg rs r).length∧m=tot (rs.take r)+i:=PF rs.length (Nat.le_refl _) (by rw[List.take_length];exact h)
end
section
open Go Go.RowKit Go.Am Go.Lib
set_option maxRecDepth 10000
-- BOXES 5
-- CODE2
theorem VS {rs:List (List Sd)} {r:Nat} (hr:r<rs.length) (i:Nat) (hi:i<(rg rs r).length):rs.flatten[tot (rs.take r)+i]? =some (sd (rg rs r) i):=by
 have e:rs.flatten=(rs.take r).flatten++(rg rs r++(rs.drop (r+1)).flatten):=by
  conv=>lhs;rw[←List.take_append_drop r rs,List.drop_eq_getElem_cons hr,List.flatten_append,List.flatten_cons]
  rw[show rs[r]=rg rs r by unfold rg;rw[List.getD_eq_getElem?_getD,List.getElem?_eq_getElem hr];rfl]
 have hl:(rs.take r).flatten.length=tot (rs.take r):=List.length_flatten
 rw[e,List.getElem?_append_right (by omega),hl,Nat.add_sub_cancel_left,List.getElem?_append_left hi]
 exact JB hi
theorem Wk {rs:List (List Sd)} {r:Nat} (hr:r<rs.length) {i:Nat} (hi:i<(rg rs r).length):sd rs.flatten (tot (rs.take r)+i)=sd (rg rs r) i:=by
 have h1:=VS hr i hi
 have h2:=JB (l:=rs.flatten) (List.getElem?_eq_some_iff.1 h1).1
 rw[h1] at h2
 exact(Option.some.inj h2).symm
theorem Vec.frs {V:Vec} {l:List FrP} (hV:V.OK 5 l.length (frC l)) (h0:0<l.length): ∃g cap,V.val l.length= .slice (some ⟨g,0,none⟩) l.length cap∧
  ∀ {W0 W:World} {bxs:List Bx},Hp W0 bxs W→ ∀k,nth bxs k=some (V.bx 56 (frC l))→ ∀m f,l[m]? =some f→Ai W g (0+m*5) (frV f).cells.toList:=by
 obtain⟨p,cap,junk⟩:=V
 cases p with
 |none=>have:=hV.nil rfl;omega
 |some g=>
  refine⟨g,cap,I,fun {W0 W bxs} hp k hk m f hf=> ?_⟩
  obtain⟨hm,rfl⟩:=List.getElem?_eq_some_iff.1 hf
  refine G6 hp k (A:=frC (l.take m)) (C:=frC (l.drop (m+1))++junk) hk ?_ (by rw[W7,List.length_take];omega)
  have e:frC l=frC (l.take m)++((frV l[m]).cells.toList++frC (l.drop (m+1))):=by
   conv=>lhs;rw[←List.take_append_drop m l,List.drop_eq_getElem_cons hm,Ss]
   rfl
  rw[e,List.append_assoc,List.append_assoc]
theorem Vec.sds {V:Vec} {l:List Sd} (hV:V.OK 7 l.length (cellsOf l)) (h0:0<l.length): ∃g cap,V.val l.length=slv (some ⟨g,0,none⟩) l.length cap∧
  ∀ {W0 W:World} {bxs:List Bx},Hp W0 bxs W→ ∀k,nth bxs k=some (V.bx 97 (cellsOf l))→ ∀m,m<l.length→Ai W g (0+m*7) (sd l m).cells:=by
 obtain⟨p,cap,junk⟩:=V
 cases p with
 |none=>have:=hV.nil rfl;omega
 |some g=>
  refine⟨g,cap,I,fun {W0 W bxs} hp k hk m hm=> ?_⟩
  have hrow:=Ai.of_bx hp k hk rfl
  have hring:F5 W g 0 l:=F5.of_cells hrow.lt fun j u hj=>by
   refine hrow.get j u ?_
   show(cellsOf l++junk)[j]? =some u
   rw[List.getElem?_append_left (List.getElem?_eq_some_iff.1 hj).1]
   exact hj
  exact hring.get m _ (JB hm)
-- BOXES 7
-- CODE2
def rdQ (a:List UInt8):Rat:=match frm a with
 |some (z,d)=>nrm z d
 |none=>0
theorem IL (q:Rat):rdQ (Ac q)=q:=by
 have hd:=q.den_pos
 unfold rdQ Ac
 rw[Fg q.num q.den_pos]
 show nrm q.num q.den=q
 rw[HG _ (by omega)]
 exact Rat.num_divInt_den q
def flt (rs:List (List Sd)) (m:Nat):Sd:=sd rs.flatten m
def frs (rs:List (List Sd)) (m:Nat):FrP:=(Fp rs).getD m ⟨false,0,1,0,0⟩
theorem O0 {rs:List (List Sd)} {m:Nat} (h:m<tot rs):(Fp rs)[m]? =some (frs rs m):=by
 have hl:=KQ rs
 unfold frs
 rw[List.getD_eq_getElem?_getD,List.getElem?_eq_getElem (by omega)]
 rfl
theorem Xm {rs:List (List Sd)} (hc:chk rs=0) {m:Nat} (h:m<tot rs) (hg:(flt rs m).gable=false):(frs rs m).Go:=by
 obtain⟨hrg,_⟩:=MZ hc
 obtain⟨r,i,hr,hi,rfl⟩:=XU h
 have e:=O0 h
 rw[RZ hr hi] at e
 have e:=(Option.some.inj e).symm
 have hs: ∀s∈rg rs r,rgd s=true:=hrg _ (List.mem_of_getElem? (De hr))
 have h1:=hs _ (List.mem_of_getElem? (JB hi))
 unfold flt at hg
 rw[Wk hr hi] at hg
 obtain⟨_,_,hp,hb⟩:=HD h1
 have hb:=hb hg
 rw[e]
 unfold Nf
 refine⟨Xa h1, ?_, ?_,fun h0=> ?_⟩
 ·show szQ (if _ then(0:Rat) else nrm _ _) 2
  rw[if_neg (by rw[hg];decide)]
  exact JF hb.2 hb.1
 ·exact IN (by show(sd (rg rs r) i).plate.natAbs<100000;omega) (by decide)
 ·have:=(Xz h1).1 h0
  rw[hg] at this
  cases this
def bsE (rs:List (List Sd)) (s:Int) (x h e:List UInt8) (a b:Int):Int:=
 if s<0∨(tot rs:Int)≤s then 2
 else if (flt rs s.toNat).gable=true then 18
 else if ner [x,h,e]≠0 then ner [x,h,e]
 else if rdQ h≤0∨rdQ e<(frs rs s.toNat).st∨Uo a b=false then 2 else 0
def bsV (rs:List (List Sd)) (s:Int) (x h e:List UInt8) (a b:Int):Value:=
 if bsE rs s x h e a b=0 then frV (frs rs s.toNat) else .agg #[.bool false, .int .i64 0, .int .i64 0,str [],str []]
theorem QR (W:World) (p:Option Addr) (cap:Nat) (rs:List (List Sd)) (hn:rs.length<4611686018427387904) (hR:BZ W p rs) (hc:chk rs=0) (hd:HK W) (hv:AL W) (ht:AA W)
  (s a b:Int) (x h e:List UInt8) (hx:x.length≤8) (hh:h.length≤8) (he:e.length≤8):
  Ad Tryz.prog 51 #[HQ p rs.length cap,dmS s x h e a b, .slice none 0 0] W (fun _:Unit=> .tuple #[bsV rs s x h e a b, .int .i64 (bsE rs s x h e a b)]) (fun _=>True) (fun _=>[]):=by
 obtain⟨_,hT,hT0⟩:=RJ hc
 have hfl:rs.flatten.length=tot rs:=List.length_flatten
 have hal:=KQ rs
 refine Ab (args:=[HQ p rs.length cap,dmS s x h e a b, .slice none 0 0]) Tryz.func51 I I I ?_
 refine zA (zB ?_)
 (refine Ak rfl rfl rfl rfl ?_;intro)
 (refine Ak rfl rfl rfl rfl ?_;intro)
 (refine Ae Tryz.hZ rfl rfl rfl rfl ?_;intro)
 refine wP I (Aa ?_)
 rename_i b3 b4 b6
 refine zE (zA (zB (wB 0 I I I ?_)))
 refine wD (X:=Vec) I I (fun W1 hp=>UY W1 p cap rs hn (hR.hp hp) hc) ?_
 intro S hS
 have hS:S.OK 7 rs.flatten.length (cellsOf rs.flatten):=hS
 obtain⟨gS,cS,hSv,hSr⟩:=Vec.sds hS (by omega)
 rw[hSv]
 iterate 5 refine wP I ?_
 refine Aa (zE (zA (zA (zB (wP I (wP I (Aa (zE (zS I (zI (zE (zA (zA ?_)))))))))))))
 refine zB (wP I (wB 1 I I I (wP I ?_)))
 by_cases h0:s<0
 ·have hE:bsE rs s x h e a b=2:=by unfold bsE;rw[if_pos (.inl h0)]
  refine wU 23 true I (dT h0) (wP I ?_)
  iterate 5 refine Ah I I ?_
  refine wP I (Aa (zE (zR I (zA (zB ?_)))))
  refine Au Tryz.hZ tH I I I I I I I I ?_
  exact wS 2 I I I (wP I (Aa (zE (zO (zP (A9 tH I (.cell 2 I I I I I) (.tmp I) () (by rw[bsV,hE];rfl) tO fun W _=>As.nil _ _))))))
 refine wU 23 false I (dF h0) ?_
 obtain⟨m,rfl⟩: ∃m:Nat,s=m:=⟨s.toNat,by omega⟩
 refine wP I (wP I (wB 1 I I I (wP I (wP I (wP I ?_)))))
 by_cases h1:m<tot rs
 rotate_left
 ·have hE:bsE rs (m:Int) x h e a b=2:=by unfold bsE;rw[if_pos (.inr (by omega))]
  refine wU 29 true I (dT (by omega)) (wP I (Aa (zE (zR I (zA (zB ?_))))))
  refine Au Tryz.hZ tH I I I I I I I I ?_
  exact wS 2 I I I (wP I (Aa (zE (zO (zP (A9 tH I (.cell 2 I I I I I) (.tmp I) () (by rw[bsV,hE];rfl) tO fun W _=>As.nil _ _))))))
 refine wU 29 false I (dF (by omega)) (wP I (Aa (zE (zS I (zI (zE (zA (zA (zB ?_)))))))))
 have hE:bsE rs (m:Int) x h e a b=if (flt rs m).gable=true then 18 else if ner [x,h,e]≠0 then ner [x,h,e] else if rdQ h≤0∨rdQ e<(frs rs m).st∨Uo a b=false then 2 else 0:=by
  unfold bsE;rw[if_neg (by omega)];rfl
 refine wP I (wP I (wB 1 I I I ?_))
 refine wJ ?_
 refine wP I (wL 0 I I (fun W1 hp=>(hSr hp 3 I m (by omega)).sub 4) I ?_)
 by_cases hg:(flt rs m).gable=true
 ·rw[if_pos hg] at hE
  refine wU 37 true I hg (Aa (zE (zR I (zA (zB ?_)))))
  refine Au Tryz.hZ tH I I I I I I I I ?_
  exact wS 2 I I I (wP I (Aa (zE (zO (zP (A9 tH I (.cell 2 I I I I I) (.tmp I) () (by rw[bsV,hE];rfl) tO fun W _=>As.nil _ _))))))
 rw[if_neg hg] at hE
 have hg:(flt rs m).gable=false:=by simpa using hg
 refine wU 37 false I hg (Aa (zE (zS I (zI (zE (zA (zA (zB (wP I (wB 1 I I I (wP I (wB 1 I I I (wP I ?_)))))))))))))
 refine wB 1 I I I ?_
 refine At Tryz.hZ tH I I I I I I I I I I I fun bS=> ?_
 refine wC I I (fun W1 hp=>Hx W1 (some ⟨bS,0,none⟩) 3 [x,h,e] (.inr ⟨bS,0,I,Ai.of_bx hp 4 I I⟩) (show 3≤100000 by decide) (fun y hy=>by
  rcases List.mem_cons.1 hy with rfl|hy
  ·omega
  rcases List.mem_cons.1 hy with rfl|hy
  ·omega
  obtain rfl:=List.mem_singleton.1 hy
  omega) (hv.hp hp) (ht.hp hp)) ?_
 refine wP I (Aa (zE (zA (zB (wP I (wP I ?_))))))
 by_cases hz:ner [x,h,e]=0
 rotate_left
 ·rw[if_pos hz] at hE
  refine wU 48 true I (bne_iff_ne.2 hz) (Aa (zE (zR I (zA (zB ?_)))))
  refine Au Tryz.hZ tH I I I I I I I I ?_
  exact wP I (wS 2 I I I (wP I (Aa (zE (zO (zP (A9 tH I (.cell 2 I I I I I) (.tmp I) () (by rw[bsV,hE,if_neg hz];rfl) tO fun W _=>As.nil _ _)))))))
 rw[if_neg (fun h=>h hz)] at hE
 refine wU 48 false I (bne_eq_false_iff_eq.2 hz) (Aa (zE (zS I (zI (zE (zA (zB ?_)))))))
 have hzm:=Mz hz
 obtain⟨x',_,rfl⟩:=Dj (hzm x (by simp))
 obtain⟨h',_,rfl⟩:=Dj (hzm h (by simp))
 obtain⟨e',_,rfl⟩:=Dj (hzm e (by simp))
 rw[IL,IL] at hE
 have zh:=DH hh (by decide)
 have ze:=DH he (by decide)
 have hgo:=Xm hc h1 hg
 obtain⟨f,hf⟩: ∃f,f=frs rs m:=⟨_,rfl⟩
 have hfm:=O0 h1
 rw[←hf] at hfm hgo hE
 refine wB 0 I I I ?_
 refine wD (X:=Vec) I I (fun W1 hp=>Iu W1 p cap rs hn (hR.hp hp) hc (hd.hp hp) (ht.hp hp)) ?_
 intro F hF
 have hF:F.OK 5 (Fp rs).length (frC (Fp rs)):=hF
 obtain⟨gF,cF,hFv,hFr⟩:=Vec.frs hF (by omega)
 rw[hFv]
 iterate 5 refine wP I ?_
 refine Aa (zE (zA (zA (zB (wP I (wP I (Aa (zE (zS I (zI (zE (zA (zB ?_)))))))))))))
 refine wP I (wP I (wB 1 I I I ?_))
 refine wJ ?_
 refine wL 0 I I (fun W1 hp=>hFr hp 5 I m f hfm) I ?_
 (refine Ae Tryz.hZ rfl rfl rfl rfl ?_;intro)
 refine wS 6 I I I (Aa ?_)
 rename_i b12
 refine zE (zA (zA (zB (wP I (wB 1 I I I ?_)))))
 refine wC I I (fun W1 hp=>(show Ad Tryz.prog 82 #[str (Ac h'),str [48]] W1 (fun _:Unit=> .int .i64 (Cw h' 0)) (fun _=>True) (fun _=>[]) by
  have h2:=Cd h' 0 (sz2 zh szo (by decide)) W1 (hv.hp hp) (ht.hp hp)
  rwa [Cs] at h2)) ?_
 refine wP I ?_
 by_cases h2:h'≤0
 ·rw[if_pos (.inl h2)] at hE
  refine wU 68 true I ((C9 _ _).trans (dT h2)) (wP I ?_)
  iterate 6 refine Ah I I ?_
  refine wP I (wP I ?_)
  iterate 6 refine Ah I I ?_
  refine wP I (Aa (zE (zR I (zA (zB ?_)))))
  refine Au Tryz.hZ tH I I I I I I I I ?_
  exact wS 2 I I I (wP I (Aa (zE (zO (zP (A9 tH I (.cell 2 I I I I I) (.tmp I) () (by rw[bsV,hE];rfl) tO fun W _=>As.nil _ _))))))
 refine wU 68 false I ((C9 _ _).trans (dF h2)) (wP I (wP I (wB 1 I I I (wP I (wB 6 I I I (wC I I (fun W1 hp=>Cd e' f.st (sz2 ze hgo.st (by decide)) W1 (hv.hp hp) (ht.hp hp)) (wP I ?_)))))))
 by_cases h3:e'<f.st
 ·rw[if_pos (.inr (.inl h3))] at hE
  refine wU 75 true I ((BQ _ _).trans (dT h3)) (wP I (wP I ?_))
  iterate 6 refine Ah I I ?_
  refine wP I (Aa (zE (zR I (zA (zB ?_)))))
  refine Au Tryz.hZ tH I I I I I I I I ?_
  exact wS 2 I I I (wP I (Aa (zE (zO (zP (A9 tH I (.cell 2 I I I I I) (.tmp I) () (by rw[bsV,hE];rfl) tO fun W _=>As.nil _ _))))))
 refine wU 75 false I ((BQ _ _).trans (dF h3)) (wP I (wP I (wP I (wB 1 I I I (wP I (wB 1 I I I (wC I I (fun W1 _=>OR a b W1) (wP I ?_))))))))
 by_cases h4:Uo a b=true
 rotate_left
 ·have h4:Uo a b=false:=by simpa using h4
  rw[if_pos (.inr (.inr h4))] at hE
  refine wU 83 true I (by rw[h4];rfl) (wP I (Aa (zE (zR I (zA (zB ?_))))))
  refine Au Tryz.hZ tH I I I I I I I I ?_
  exact wS 2 I I I (wP I (Aa (zE (zO (zP (A9 tH I (.cell 2 I I I I I) (.tmp I) () (by rw[bsV,hE];rfl) tO fun W _=>As.nil _ _))))))
 rw[if_neg (by rw[h4];exact fun hh=>by rcases hh with hh|hh|hh;exact h2 hh;exact h3 hh;cases hh)] at hE
 refine wU 83 false I (by rw[h4];rfl) (wP I (Aa (zE (zS I (zI (zE (Az ?_)))))))
 refine AV (X:=Unit) [true,true,true,false,false] (fun _=>[(6,Af b6),(7, .int .i64 0)]) (fun _=>[⟨b6,56,(frV f).cells.toList,true,none⟩])
   2 [⟨b3,36,[slv p rs.length cap],true,none⟩,⟨b4,38,(dmS m (Ac x') (Ac h') (Ac e') a b).cells.toList,true,none⟩,⟨b6,56,(frV f).cells.toList,false,none⟩,S.bx 97 (cellsOf rs.flatten),⟨bS,25,[str (Ac x'),str (Ac h'),str (Ac e')],true,none⟩,F.bx 56 (frC (Fp rs)),⟨b12,56,(frV f).cells.toList,true,none⟩] Tryz.mixed (by kernel_rfl) ?_ ?_
 ·refine qB 6 I I I (qP I (qC I I (fun W1 hp=>Hx W1 none 0 [] (.inl I) (by decide) (fun y hy=>absurd hy List.not_mem_nil) (hv.hp hp) (ht.hp hp)) (BU (wX (wZ (wS 2 I I I (Aa (Ag (wX (wZ (wP I (Aa (Ag ?_)))))))))))))
  refine AG I (by((repeat (first|refine AI.same ?_|refine AI.off I ?_));exact tO)) ?_
  exact A6 () ⟨I,I,tO⟩ [2] (by decide) I
 intro _
 exact zE (zO (A9 tH rfl (.cell 0 rfl rfl rfl rfl rfl) (.tmp rfl) () (by rw[bsV,hE,if_pos rfl];subst hf;rfl) trivial fun W _=>As.nil _ _))
-- BOXES 8
-- CODE2
structure Yb (rs:List (List Sd)) (s:Int) (x h e:List UInt8) (a b:Int) (f:FrP) (x' h' e':Rat):Prop where
 s0:0≤s
 s1:s<tot rs
 hf:f=frs rs s.toNat
 hx:x=Ac x'
 hh:h=Ac h'
 he:e=Ac e'
 zx:szQ x' 8
 zh:szQ h' 8
 ze:szQ e' 8
 go:f.Go
 h0:0<h'
 e0:f.st≤e'
 ha:1≤a∧a≤48
 hb:1≤b∧b≤48
 v:bsV rs s x h e a b=frV f
def VH (h e:Rat) (a b:Int):Rat:=e+h*nrm a b
theorem KP (W:World) (p:Option Addr) (cap:Nat) (rs:List (List Sd)) (hn:rs.length<4611686018427387904) (hR:BZ W p rs) (hc:chk rs=0) (hd:HK W) (hv:AL W) (ht:AA W)
  (s a b:Int) (x h e:List UInt8) (hx:x.length≤8) (hh:h.length≤8) (he:e.length≤8) (hE:bsE rs s x h e a b=0) (f:FrP) (x' h' e':Rat) (ho:Yb rs s x h e a b f x' h' e'):
  Ad Tryz.prog 14 #[HQ p rs.length cap,dmS s x h e a b] W (fun _:Unit=> .tuple #[str (Ac (VH h' e' a b)),f.spot x' ((VH h' e' a b-f.st)*f.sp), .int .i64 0]) (fun _=>True) (fun _=>[]):=by
 have hV:=ho.v
 obtain⟨_,_,_,rfl,rfl,rfl,zx,zh,ze,hgo,_,_,ha,hb,_⟩:=ho
 obtain⟨z,hz⟩: ∃z,z=VH h' e' a b:=⟨_,rfl⟩
 have zz:szQ z 19:=by rw[hz];exact ze.add (zh.mul (JF ha hb))
 rw[←hz]
 refine Ab (args:=[HQ p rs.length cap,dmS s (Ac x') (Ac h') (Ac e') a b]) Tryz.func14 I I I ?_
 refine zA (zB ?_)
 (refine Ak rfl rfl rfl rfl ?_;intro)
 (refine Ak rfl rfl rfl rfl ?_;intro)
 refine wP I ?_
 (refine Ae Tryz.hZ rfl rfl rfl rfl ?_;intro)
 refine wP I (Aa ?_)
 rename_i b2 b3 b5
 refine zE (zA (zB (wB 0 I I I (wB 1 I I I (wC I I (fun W1 hp=>(QR W1 p cap rs hn (hR.hp hp) hc (hd.hp hp) (hv.hp hp) (ht.hp hp) s a b (Ac x') (Ac h') (Ac e') hx hh he).cast (v':= .tuple #[frV f, .int .i64 0]) (by rw[hV,hE])) (wP I (wP I (wP I ?_))))))))
 (refine Ae Tryz.hZ rfl rfl rfl rfl ?_;intro)
 refine wS 3 I I I (wP I (Aa ?_))
 rename_i b7
 refine zE (zA (zA (zB (wP I (wP I (Aa (zE (zS I (zI (zE (zA (zB (wB 1 I I I ?_)))))))))))))
 refine wC I I (fun W1 hp=>(OW s a b (Ac x') h' e' ha hb zh ze W1 (hv.hp hp) (ht.hp hp)).cast (v':= .tuple #[str (Ac z), .int .i64 0]) (by rw[hz];rfl)) ?_
 iterate 5 refine wP I ?_
 refine Aa (zE (zA (zA (zB (wP I (wP I (Aa (zE (zS I (zI (zE (zA (zB ?_)))))))))))))
 refine wB 3 I I I (wP I (wB 1 I I I (wP I (wC I I (fun W1 hp=>Th f hgo x' z (zx.mono (by decide)) zz W1 (hv.hp hp) (ht.hp hp)) (wP I (wP I (wP I ?_)))))))
 (refine Ae Tryz.hZ rfl rfl rfl rfl ?_;intro)
 refine wS 4 I I I (wP I (Aa ?_))
 rename_i b10
 refine zE (zA (zA (zB (wP I (wP I (Aa (zE (zS I (zI (zE (Az ?_)))))))))))
 refine AV (X:=Unit) [true,true,true,false,false] (fun _=>[(4,str (Ac z)),(5,Af b5),(6, .int .i64 0)]) (fun _=>[⟨b5,45,(f.spot x' ((z-f.st)*f.sp)).cells.toList,true,none⟩])
   2 [⟨b2,36,[slv p rs.length cap],true,none⟩,⟨b3,38,(dmS s (Ac x') (Ac h') (Ac e') a b).cells.toList,true,none⟩,⟨b5,45,[str [],str [],str []],false,none⟩,⟨b7,56,(frV f).cells.toList,true,none⟩,⟨b10,45,(f.spot x' ((z-f.st)*f.sp)).cells.toList,true,none⟩] Tryz.mixed (by kernel_rfl) ?_ ?_
 ·refine qP I (qB 4 I I I (qP I (BU (wX (wZ (wS 2 I I I (Aa (Ag (wX (wZ (wP I (Aa (Ag ?_)))))))))))))
  refine AG I (by((repeat (first|refine AI.same ?_|refine AI.off I ?_));exact tO)) ?_
  exact A6 () ⟨I,I,I,tO⟩ [2] (by decide) I
 intro _
 exact zE (zO (SG tH I (.tmp I) (.cell 0 I I I I I) (.tmp I) () I tO fun W _=>As.nil _ _))
-- BOXES 5
-- CODE2
def sqS (x y:Int):Sd:=⟨x,y,1,1,false,0,0⟩
def sqL:List Sd:=[sqS 0 0,sqS 10 0,sqS 10 10,sqS 0 10]
def stL:List Value:=[.int .i64 0,str (Ac 0),str (Ac 5),str (Ac 0),str (Ac 10),str (Ac 5),str (Ac 5)]
abbrev Fy (r t:Nat):Value:= .agg #[slv (some ⟨r,0,none⟩) 1 1,slv (some ⟨t,0,none⟩) 1 1, .slice none 0 0, .slice none 0 0]
theorem F4 (x y:Int) (W:World):Ad Tryz.prog 99 #[.int .i64 x, .int .i64 y] W (fun _:Unit=>(sqS x y).val) (fun _=>True) (fun _=>[]):=by
 refine Ab (args:=[.int .i64 x, .int .i64 y]) Tryz.func99 I I I ?_
 refine zA (zB ?_)
 (refine Ae Tryz.hZ rfl rfl rfl rfl ?_;intro)
 refine Aa (zE (zA (zB (wP I (wP I ?_)))))
 refine Au Tryz.hZ tH I I I I I I I I ?_
 exact wS 0 I I I (Aa (zE (zO (Ay tH I (.cell 0 I I I I I) () I tO fun W _=>As.nil _ _))))
theorem X8:stL=[.int .i64 0,str [48],str [53],str [48],str [49,48],str [53],str [53]]:=by
 have h0:Ac 0=[48]:=by decide+kernel
 have h5:Ac 5=[53]:=by decide+kernel
 have h10:Ac 10=[49,48]:=by decide+kernel
 unfold stL
 rw[h0,h5,h10]
theorem EM (W:World):Ad Tryz.prog 37 #[] W (fun x:Nat×Nat×Nat=>Fy x.2.1 x.2.2) (fun _=>True)
  (fun x=>[⟨x.1,97,cellsOf sqL,true,none⟩,⟨x.2.1,94,[slv (some ⟨x.1,0,none⟩) 4 4],true,none⟩,⟨x.2.2,145,stL,true,none⟩]):=by
 refine Ab (args:=[]) Tryz.func37 I I I ?_
 refine zA (zB ?_)
 (refine Ae Tryz.hZ rfl rfl rfl rfl ?_;intro)
 refine Aa (zE (zA (zB (wP I (Aa (zE (zA (zB (wP I ?_)))))))))
 refine Bh (capt:=[]) I I I I I I (by kernel_rfl) (fun W _=>F4 0 0 W) ?_
 refine wP I ?_
 refine Bh (capt:=[]) I I I I I I (by kernel_rfl) (fun W _=>F4 10 0 W) ?_
 refine wP I ?_
 refine Bh (capt:=[]) I I I I I I (by kernel_rfl) (fun W _=>F4 10 10 W) ?_
 refine wP I ?_
 refine Bh (capt:=[]) I I I I I I (by kernel_rfl) (fun W _=>F4 0 10 W) ?_
 refine At Tryz.hZ tH I I I I I I I I I I I fun bS=> ?_
 refine At Tryz.hZ tH I I I I I I I I I I I fun bR=> ?_
 iterate 2 refine Au Tryz.hZ tH I I I I I I I I ?_
 refine At Tryz.hZ tH I I I I I I I I I I I fun bT=> ?_
 refine Au Tryz.hZ tH I I I I I I I I ?_
 refine wS 0 I I I (Aa (zE (zO ?_)))
 refine Ay tH I (.cell 0 I I I I I) (bS,bR,bT) I tO fun W1 hp=> ?_
 exact As.of_hp (hp.pick (l:=[⟨bS,97,cellsOf sqL,true,none⟩,⟨bR,94,[slv (some ⟨bS,0,none⟩) 4 4],true,none⟩,⟨bT,145,stL,true,none⟩]) [1,2,3] (by decide) (by rw[X8];rfl))
theorem CY {W0 W:World} {bxs:List Bx} (hp:Hp W0 bxs W) (i k:Nat) {bS bR:Nat} (h1:nth bxs i=some ⟨bS,97,cellsOf sqL,true,none⟩) (h2:nth bxs k=some ⟨bR,94,[slv (some ⟨bS,0,none⟩) 4 4],true,none⟩):
  BZ W (some ⟨bR,0,none⟩) [sqL]:=by
 have r1:=Ai.of_bx hp i h1 rfl
 have r2:=Ai.of_bx hp k h2 rfl
 refine .inr ⟨bR,0,I,⟨fun j l hl=> ?_⟩⟩
 have hj:j=0:=by have:=(List.getElem?_eq_some_iff.1 hl).1;simpa using this
 subst hj
 obtain rfl:sqL=l:=by simpa using hl
 exact⟨some ⟨bS,0,none⟩,4,r2, .inr ⟨bS,0,I,F5.of_cells r1.lt fun j u hj=>r1.get j u hj⟩⟩
theorem Ih:chk [sqL]=0:=by decide+kernel
-- BOXES 4
-- CODE2
theorem CC (p q:Rat) (h:Sz2 p q) (W:World) (hv:AL W) (ht:AA W):
  Ad Tryz.prog 238 #[str (Ac p),str (Ac q)] W (fun _:Unit=> .int .i64 (Cw p q)) (fun _=>True) (fun _=>[]):=by
 refine Ab (args:=[str (Ac p),str (Ac q)]) Tryz.func238 I I I ?_
 refine zA (zB (wP I (Aa (zE (zA (zA (zB (wP I (wP I ?_)))))))))
 by_cases e:p=q
 ·subst e
  exact wP I (wU 9 true I (X6 _ _ I) (Aa (zE (zR I (zA (zB (wP I (Aa (zE (zO (zP (wR1 I I (by rw[show Cw p p=0 by unfold Cw;rw[if_neg (Rat.lt_irrefl),if_pos I]])))))))))))))
 refine wP I (wU 9 false I ((Bd _ _).trans (dF fun h=>e (II.1 h))) (Aa (zE (zS I (zI (zE (zA (zB (wP I (wP I (wC I I (fun W hp=>(DM p q h W (hv.hp hp) (ht.hp hp)).cast (by rw[JP])) ?_)))))))))))
 iterate 5 refine wP I ?_
 exact Aa (zE (zA (zB (wP I (wP I (Aa (zE (zO (wR1 I I I)))))))))
theorem NX (q:Rat) (h:szQ q 36) (W:World) (hv:AL W) (ht:AA W):
  Ad Tryz.prog 336 #[str (Ac q)] W (fun _:Unit=> .bool false) (fun _=>True) (fun _=>[]):=by
 have hk:=h.ok (by decide)
 have l1:=CM 36 q.num.natAbs (by decide) h.1
 have l2:=CM 36 q.den (by decide) h.2
 refine Ab (args:=[str (Ac q)]) Tryz.func336 I I I ?_
 refine zA (zB (wP I (Aa (zE (zA (zB (wP I (wC I I (fun W hp=>E9 q hk W (hv.hp hp) (ht.hp hp)) ?_))))))))
 iterate 7 refine wP I ?_
 refine Aa (zE (zA (zB (wP I (wC I I (fun W _=>(B8 (itoa q.num) [45] W).cast (by rw[AU])) (wP I ?_))))))
 refine Ao 14 (.int .i64 ((decDigits q.num.natAbs).length:Nat)) I (congrArg (fun n:Nat=>Value.int .i64 (n:Int)) (A5 _)) ?_
 refine wP I (wP I ?_)
 refine Ao 16 (.int .i64 ((decDigits q.den).length:Nat)) I (congrArg (fun n:Nat=>Value.int .i64 (n:Int)) ((A5 _).trans (by rw[GZ]))) ?_
 refine wP I (wP I ?_)
 refine Ao 18 (.bool false) I (congrArg Value.bool (dF (by
  show¬((if _>_ then _ else _)>_)
  split<;>omega))) ?_
 exact wP I (Aa (zE (zO (wR1 I I I))))
theorem Mj (q:Rat) (h:szQ q 36) (W:World) (hv:AL W) (ht:AA W):
  Ad Tryz.prog 290 #[str (Ac q)] W (fun _:Unit=> .int .i64 0) (fun _=>True) (fun _=>[]):=by
 have hk:=h.ok (by decide)
 have hl:=AQ hk
 refine Ab (args:=[str (Ac q)]) Tryz.func290 I I I ?_
 refine zA (zB (wP I (Aa (zE (zA (zA (zB (wP I (wC I I (fun W hp=>(B0 (Ac q) (by omega) W (hv.hp hp) (ht.hp hp)).cast (by rw[C3 hk])) (wP I (Aa (zE (zA ?_)))))))))))))
 refine zB (wP I (wP I (Aa (zE (zS I (zI (zE (zA (zA (zB (wP I (wC I I (fun W hp=>NX q h W (hv.hp hp) (ht.hp hp)) (Aa ?_)))))))))))))
 exact zE (zS I (zI (zE (zA (zB (wP I (Aa (zE (zO (wR1 I I I))))))))))
structure StR where
 z0:Rat
 z1:Rat
 a:Rat
 b:Rat
 c:Rat
 d:Rat
abbrev StR.nums (S:StR):List Rat:=[S.z0,S.z1,S.a,S.b,S.c,S.d]
abbrev stV (s:Int) (S:StR):Value:= .agg #[.int .i64 s,str (Ac S.z0),str (Ac S.z1),str (Ac S.a),str (Ac S.b),str (Ac S.c),str (Ac S.d)]
structure StR.OK (S:StR):Prop where
 z: ∀q∈S.nums,szQ q 8
 h1:S.z0<S.z1
 h2:S.a<S.b
 h3:S.c≤S.d
theorem MD (s:Int) (S:StR) (h:S.OK) (W:World) (hv:AL W) (ht:AA W):
  Ad Tryz.prog 237 #[stV s S] W (fun _:Unit=> .bool true) (fun _=>True) (fun _=>[]):=by
 obtain⟨hz,h1,h2,h3⟩:=h
 have z0:=hz S.z0 (by simp)
 have z1:=hz S.z1 (by simp)
 have za:=hz S.a (by simp)
 have zb:=hz S.b (by simp)
 have zc:=hz S.c (by simp)
 have zd:=hz S.d (by simp)
 refine Ab (args:=[stV s S]) Tryz.func237 I I I ?_
 refine zA (zB ?_)
 (refine Ak rfl rfl rfl rfl ?_;intro)
 refine wP I (Aa ?_)
 rename_i b1
 refine zE (zA (zA (zB (wP I (wB 0 I I I (wP I (wB 0 I I I (wP I (wB 0 I I I (wP I (wB 0 I I I (wP I (wB 0 I I I ?_)))))))))))))
 refine wP I (wB 0 I I I ?_)
 refine At Tryz.hZ tH I I I I I I I I I I I fun bS=> ?_
 refine wP I (wP I (Aa (zE (zH ?_))))
 refine Aw (X:=Nat) (fun i=>[(1,Af b1),(2, .bool false),(17, .slice (some ⟨bS,0,none⟩) 6 6),(18, .int .i64 6),(19, .int .i64 (i:Nat))]) (fun _=>[⟨b1,145,(stV s S).cells.toList,true,none⟩,⟨bS,25,S.nums.map fun q=>str (Ac q),true,none⟩]) (fun i=>i≤6) (fun i=>6-i) 0 (Nat.zero_le _) ⟨I,I,I,I,I,tO⟩ [] I ?_
 intro i hi
 have hi:i≤6:=hi
 refine zA (zB (wP I ?_))
 by_cases hlt:i<6
 ·refine wU 20 true I (dT (by omega)) (Aa (zE (zA (zR I (zI (zE (zA (zH (zA (zB ?_))))))))))
  have hl:i<S.nums.length:=hlt
  have hq:=hz S.nums[i] (List.getElem_mem hl)
  obtain⟨q,hqe⟩: ∃q,q=S.nums[i]:=⟨_,rfl⟩
  rw[←hqe] at hq
  have hrow: ∀ {W0 W:World} {bxs:List Bx},Hp W0 bxs W→nth bxs 1=some ⟨bS,25,S.nums.map fun q=>str (Ac q),true,none⟩→Ai W bS (0+i*1) [str (Ac q)]:=fun hp h1=>by
   have r:=Ai.of_bx hp 1 h1 rfl
   refine⟨r.lt,fun j u hu=> ?_⟩
   have hj:j=0:=by have:=(List.getElem?_eq_some_iff.1 hu).1;simpa using this
   subst hj
   have h2:=r.get i (str (Ac q)) (by show(S.nums.map fun q=>str (Ac q))[i]? =_;rw[List.getElem?_map,List.getElem?_eq_getElem hl,hqe];rfl)
   rw[Nat.mul_one,Nat.add_zero,h2]
   simpa using hu
  refine wJ ?_
  refine wL 0 I I (fun W1 hp=>hrow hp I) I (wP I (Aa (zE (zA (zB (wP I (wC I I (fun W1 hp=>Mj q (hq.mono (by decide)) W1 (hv.hp hp) (ht.hp hp)) (wP I (Aa (zE (zS I (zI (zN ?_)))))))))))))
  exact zE (zB (wP I (wV 26 ((i+1:Nat):Int) I (Ax (by omega)) (wP I (Aa (Al (i+1) hlt (by show 6-(i+1)<6-i;omega) ⟨I,I,I,I,I,tO⟩ [] I))))))
 refine wU 20 false I (dF (by omega)) (Aa (zE (zA (zS I (zJ (zK (zK (zL (zE (zA (zB (wP I (wB 0 I I I ?_)))))))))))))
 refine wP I (wB 0 I I I (wC I I (fun W1 hp=>CC S.z0 S.z1 (sz2 z0 z1 (by decide)) W1 (hv.hp hp) (ht.hp hp)) (wP I (wU 32 true I ((BQ _ _).trans (dT h1)) (wP I (wP I (wB 0 I I I (wP I (wB 0 I I I (wC I I (fun W1 hp=>CC S.a S.b (sz2 za zb (by decide)) W1 (hv.hp hp) (ht.hp hp)) (wP I (wU 39 true I ((BQ _ _).trans (dT h2)) (wP I (wP I (wP I ?_)))))))))))))))
 exact wB 0 I I I (wP I (wB 0 I I I (wC I I (fun W1 hp=>CC S.c S.d (sz2 zc zd (by decide)) W1 (hv.hp hp) (ht.hp hp)) (wP I (wU 47 true I ((C9 _ _).trans (dT h3)) (wP I (wP I (Aa (zE (zO (wR1 I I I)))))))))))
theorem HV (f:FrP) (hf:f.Go) (s:Int) (S:StR) (h:S.OK) (hs:f.st≤S.z0) (W:World) (hv:AL W) (ht:AA W):
  Ad Tryz.prog 171 #[frV f,stV s S] W (fun _:Unit=> .int .i64 0) (fun _=>True) (fun _=>[]):=by
 have z0:=h.z S.z0 (by simp)
 refine Ab (args:=[frV f,stV s S]) Tryz.func171 I I I ?_
 refine zA (zB ?_)
 (refine Ak rfl rfl rfl rfl ?_;intro)
 (refine Ak rfl rfl rfl rfl ?_;intro)
 refine wP I (Aa (zE (zA (zA (zB (wB 0 I I I (wC I I (fun W1 hp=>Gy f hf.ok W1 (hv.hp hp) (ht.hp hp)) (wP I (wP I (wB 1 I I I (wC I I (fun W1 hp=>MD s S h W1 (hv.hp hp) (ht.hp hp)) (wP I (wP I ?_)))))))))))))
 refine Aa (zE (zS I (zI (zE (zA (zA (zB (wP I (wB 0 I I I (wP I (wU 15 false I ((Bd _ _).trans ((Q9 f.sp).trans (dF hf.h0))) (wP I (wP I ?_)))))))))))))
 refine wB 0 I I I (wP I (wB 1 I I I (wC I I (fun W1 hp=>CC f.st S.z0 (sz2 hf.st z0 (by decide)) W1 (hv.hp hp) (ht.hp hp)) (wP I (wU 22 false I ((LQ _ _).trans (dF (Rat.not_lt.2 hs))) (wP I (Aa (zE (zS I (zI (zE (zA (zB ?_)))))))))))))
 exact wP I (Aa (zE (zO (wR1 I I I))))
-- BOXES 4
-- CODE2
theorem PA (p q:Rat) (h:Sz2 p q) (W:World) (hv:AL W) (ht:AA W):
  Ad Tryz.prog 174 #[str (Ac p),str (Ac q)] W (fun _:Unit=>str (Ac (p+q))) (fun _=>True) (fun _=>[]):=by
 refine Ab (args:=[str (Ac p),str (Ac q)]) Tryz.func174 I I I ?_
 refine zA (zB (wP I (Aa (zE (zA (zB (wP I (wP I (wC I I (fun W hp=>CN p q h W (hv.hp hp) (ht.hp hp)) ?_)))))))))
 iterate 5 refine wP I ?_
 exact Aa (zE (zA (zB (wP I (wP I (Aa (zE (zO (wR1 I I I)))))))))
theorem Hi (p q:Rat) (h:Sz2 p q) (W:World) (hv:AL W) (ht:AA W):
  Ad Tryz.prog 173 #[str (Ac p),str (Ac q)] W (fun _:Unit=>str (Ac (p-q))) (fun _=>True) (fun _=>[]):=by
 refine Ab (args:=[str (Ac p),str (Ac q)]) Tryz.func173 I I I ?_
 refine zA (zB (wP I (Aa (zE (zA (zB (wP I (wP I (wC I I (fun W hp=>CO p q h W (hv.hp hp) (ht.hp hp)) ?_)))))))))
 iterate 5 refine wP I ?_
 exact Aa (zE (zA (zB (wP I (wP I (Aa (zE (zO (wR1 I I I)))))))))
theorem PP (p q:Rat) (h:Sz2 p q) (W:World) (hv:AL W) (ht:AA W):
  Ad Tryz.prog 172 #[str (Ac p),str (Ac q)] W (fun _:Unit=>str (Ac (p*q))) (fun _=>True) (fun _=>[]):=by
 refine Ab (args:=[str (Ac p),str (Ac q)]) Tryz.func172 I I I ?_
 refine zA (zB (wP I (Aa (zE (zA (zB (wP I (wP I (wC I I (fun W hp=>C2 p q h W (hv.hp hp) (ht.hp hp)) ?_)))))))))
 iterate 5 refine wP I ?_
 exact Aa (zE (zA (zB (wP I (wP I (Aa (zE (zO (wR1 I I I)))))))))
def StR.area (S:StR) (f:FrP):Rat:=(S.b-S.a+(S.d-S.c))*(f.sp*(S.z1-S.z0))*(1/2)
theorem T4:Ac (1/2)=[49,47,50]:=by decide+kernel
theorem Ol (f:FrP) (hf:f.Go) (s:Int) (S:StR) (h:S.OK) (hs:f.st≤S.z0) (W:World) (hv:AL W) (ht:AA W):
  Ad Tryz.prog 103 #[frV f,stV s S] W (fun _:Unit=> .tuple #[str (Ac (S.area f)), .int .i64 0]) (fun _=>True) (fun _=>[]):=by
 have z0:=h.z S.z0 (by simp)
 have z1:=h.z S.z1 (by simp)
 have za:=h.z S.a (by simp)
 have zb:=h.z S.b (by simp)
 have zc:=h.z S.c (by simp)
 have zd:=h.z S.d (by simp)
 have zw:=z1.sub z0
 have zm:=hf.sp.mul zw
 have zs:=(zb.sub za).add (zd.sub zc)
 have zn:=zs.mul zm
 have zh:szQ (1/2:Rat) 1:=by unfold szQ;decide+kernel
 refine Ab (args:=[frV f,stV s S]) Tryz.func103 I I I ?_
 refine zA (zB ?_)
 (refine Ak rfl rfl rfl rfl ?_;intro)
 (refine Ak rfl rfl rfl rfl ?_;intro)
 refine wP I (wP I (Aa (zE (zA (zA (zB (wB 0 I I I (wB 1 I I I (wC I I (fun W1 hp=>HV f hf s S h hs W1 (hv.hp hp) (ht.hp hp)) (wP I (Aa (zE (zA ?_)))))))))))))
 refine zB (wP I (wP I (Aa (zE (zS I (zI (zE (zA (zU (qP I (qB 0 I I I (qP I (qB 1 I I I ?_)))))))))))))
 refine qP I (qB 1 I I I (qC I I (fun W1 hp=>Hi S.z1 S.z0 (sz2 z1 z0 (by decide)) W1 (hv.hp hp) (ht.hp hp)) (qC I I (fun W1 hp=>PP f.sp (S.z1-S.z0) (sz2 hf.sp zw (by decide)) W1 (hv.hp hp) (ht.hp hp)) (qP I (AB (Aa (zE (zA (zU (qP I (qB 1 I I I (qP I (qB 1 I I I ?_)))))))))))))
 refine qC I I (fun W1 hp=>Hi S.b S.a (sz2 zb za (by decide)) W1 (hv.hp hp) (ht.hp hp)) (qP I (qB 1 I I I (qP I (qB 1 I I I (qC I I (fun W1 hp=>Hi S.d S.c (sz2 zd zc (by decide)) W1 (hv.hp hp) (ht.hp hp)) (qC I I (fun W1 hp=>PA (S.b-S.a) (S.d-S.c) (sz2 (zb.sub za) (zd.sub zc) (by decide)) W1 (hv.hp hp) (ht.hp hp)) (qP I (qC I I (fun W1 hp=>C2 (S.b-S.a+(S.d-S.c)) (f.sp*(S.z1-S.z0)) (sz2 zs zm (by decide)) W1 (hv.hp hp) (ht.hp hp)) ?_))))))))
 iterate 5 refine qP I ?_
 refine AB (Aa (zE (zA (zA (zB (wP I (wP I (Aa (zE (zS I (zI (zE (zA ?_)))))))))))))
 refine zB (wP I ?_)
 refine wC I I (fun W1 hp=>(show Ad Tryz.prog 18 #[str (Ac ((S.b-S.a+(S.d-S.c))*(f.sp*(S.z1-S.z0)))),str [49,47,50]] W1 (fun _:Unit=> .tuple #[str (Ac (S.area f)), .int .i64 0]) (fun _=>True) (fun _=>[]) by
  have h2:=C2 ((S.b-S.a+(S.d-S.c))*(f.sp*(S.z1-S.z0))) (1/2) (sz2 zn zh (by decide)) W1 (hv.hp hp) (ht.hp hp)
  rw[T4] at h2
  exact h2)) ?_
 exact wP I (wP I (wP I (wP I (Aa (zE (zO (wR2 I I I)))))))
end
section
theorem E2 (a b:Rat):a<b∨b≤a:=by grind
abbrev Ar:=Rat×Rat
def Ew (p q r:Ar):Rat:=(q.1-p.1)*(r.2-p.2)-(q.2-p.2)*(r.1-p.1)
def Re (t:Rat) (p q:Ar):Ar:=(p.1+t*(q.1-p.1),p.2+t*(q.2-p.2))
structure DY where
 a:Rat
 b:Rat
 c:Rat
def DY.at (f:DY) (p:Ar):Rat:=f.a*p.1+f.b*p.2-f.c
theorem Lv (p q r:Ar):Ew p q r=Ew q r p:=by unfold Ew;grind
theorem Wl (p q:Ar):Ew p p q=0:=by unfold Ew;grind
theorem W8 (p q:Ar):Ew p q q=0:=by unfold Ew;grind
theorem Wt (p q:Ar):Ew p q p=0:=by unfold Ew;grind
theorem XL (p q:Ar):Re 0 p q=p:=by unfold Re;ext<;>grind
theorem IA {a b:Rat} (ha:0<a) (h:0<a*b):0<b:=by
 rcases E2 0 b with h1|h1
 ·exact h1
 ·have:=Rat.mul_le_mul_of_nonneg_left h1 (Rat.le_of_lt ha)
  grind
structure ET (P:Nat→Ar) (n:Nat):Prop where
 n3:3≤n
 cl:P n=P 0
 tri: ∀i j k,i<j→j<k→k<n→0<Ew (P i) (P j) (P k)
theorem ET.str {P:Nat→Ar} {n:Nat} (h:ET P n) {i j k:Nat} (h1:i<j) (h2:j<k) (h3:k≤n) (h4: ¬(i=0∧k=n)):0<Ew (P i) (P j) (P k):=by
 by_cases e:k=n
 ·subst e
  rw[h.cl, ←Lv]
  exact h.tri 0 i j (by omega) h1 h2
 ·exact h.tri i j k h1 h2 (by omega)
theorem ET.nn {P:Nat→Ar} {n:Nat} (h:ET P n) {i j k:Nat} (h1:i≤j) (h2:j≤k) (h3:k≤n):0≤Ew (P i) (P j) (P k):=by
 by_cases a:i=j
 ·subst a;rw[Wl];grind
 by_cases b:j=k
 ·subst b;rw[W8];grind
 by_cases c:i=0∧k=n
 ·obtain⟨rfl,rfl⟩:=c;rw[h.cl,Wt];grind
 exact Rat.le_of_lt (h.str (by omega) (by omega) h3 c)
theorem ET.side {P:Nat→Ar} {n:Nat} (h:ET P n) {i k:Nat} (hi:i<n) (hk:k≤n):0≤Ew (P i) (P (i+1)) (P k):=by
 rcases Nat.lt_or_ge i k with a|a
 ·exact h.nn (by omega) (by omega) hk
 ·rw[←Lv];exact h.nn a (by omega) (by omega)
theorem ET.sideS {P:Nat→Ar} {n:Nat} (h:ET P n) {i k:Nat} (hi:i<n) (hk:k<n) (h1:k≠i) (h2:k≠i+1) (h3: ¬(k=0∧i+1=n)):0<Ew (P i) (P (i+1)) (P k):=by
 rcases Nat.lt_or_ge i k with a|a
 ·exact h.str (by omega) (by omega) (by omega) (by omega)
 ·rw[←Lv];exact h.str (by omega) (by omega) (by omega) (by omega)
abbrev WE:=Nat×Rat
def Tm (P:Nat→Ar) (k:WE):Ar:=Re k.2 (P k.1) (P (k.1+1))
def Tj (P:Nat→Ar) (n:Nat) (f:DY) (k:WE):Prop:=k.1<n∧(k.2=0∧f.at (P k.1)≤0∨f.at (P k.1)*f.at (P (k.1+1))<0∧k.2=f.at (P k.1)/(f.at (P k.1)-f.at (P (k.1+1))))
theorem Tj.cut {P:Nat→Ar} {n i:Nat} {f:DY} (hi:i<n) (h:f.at (P i)*f.at (P (i+1))<0):Tj P n f (i,f.at (P i)/(f.at (P i)-f.at (P (i+1)))):=⟨hi,Or.inr ⟨h,rfl⟩⟩
theorem TJ {u v:Rat} (h:u*v<0):0<u/(u-v)∧u/(u-v)<1∧(1-u/(u-v))*u+u/(u-v)*v=0:=by
 have hd:u-v≠0:=by
  intro e
  have e2:u=v:=by grind
  subst e2
  have:0≤u*u:=by
   rcases E2 u 0 with a|a
   ·have:=Rat.mul_pos (show 0< -u by grind) (show 0< -u by grind)
    grind
   ·exact Rat.mul_nonneg a a
  grind
 have e:u/(u-v)*(u-v)=u:=Rat.div_mul_cancel hd
 have key:0<u/(u-v)∧u/(u-v)<1:=by
  rcases E2 0 (u-v) with a|a
  ·have u0:0<u:=by
    rcases E2 0 u with b|b
    ·exact b
    ·exfalso
     have:=Rat.mul_nonneg (show 0≤ -u by grind) (show 0≤ -v by grind)
     grind
   have v0:v<0:=by
    rcases E2 v 0 with b|b
    ·exact b
    ·exfalso
     have:=Rat.mul_nonneg (Rat.le_of_lt u0) b
     grind
   constructor
   ·exact IA a (by grind)
   ·have:0<1-u/(u-v):=IA a (by grind)
    grind
  ·have b:u-v<0:=by grind
   have u0:u<0:=by
    rcases E2 u 0 with b|b
    ·exact b
    ·exfalso
     have:=Rat.mul_nonneg b (show 0≤v by grind)
     grind
   have v0:0<v:=by
    rcases E2 0 v with b|b
    ·exact b
    ·exfalso
     have:=Rat.mul_nonneg (show 0≤ -u by grind) (show 0≤ -v by grind)
     grind
   constructor
   ·exact IA (show 0< -(u-v) by grind) (by grind)
   ·have:0<1-u/(u-v):=IA (show 0< -(u-v) by grind) (by grind)
    grind
 refine⟨key.1,key.2,by grind⟩
end
section
def Av (l:List Ar) (i:Nat):Ar:=(l[i%l.length]?).getD (0,0)
theorem CT {l:List Ar} {i:Nat} (h:i<l.length):Av l i=l[i]:=by
 unfold Av;rw[Nat.mod_eq_of_lt h,List.getElem?_eq_getElem h];rfl
theorem J7 (l:List Ar) (i:Nat):Av l (i%l.length)=Av l i:=by
 unfold Av;simp
def HH (l:List Ar):Prop:=ET (Av l) l.length
def Do (P:Nat→Ar) (n:Nat) (f:DY):List WE:=(List.range n).flatMap fun i=>
 (if f.at (P i)≤0 then[(i,0)] else[])++(if f.at (P i)*f.at (P (i+1))<0 then[(i,f.at (P i)/(f.at (P i)-f.at (P (i+1))))] else[])
theorem D5 {P:Nat→Ar} {n:Nat} {f:DY} (k:WE):k∈Do P n f↔Tj P n f k:=by
 unfold Do Tj
 rw[List.mem_flatMap]
 constructor
 ·rintro⟨i,hi,hk⟩
  rw[List.mem_range] at hi
  rw[List.mem_append] at hk
  rcases hk with hk|hk
  ·split at hk
   ·rename_i c
    rw[List.mem_singleton] at hk;subst hk
    exact⟨hi,Or.inl ⟨I,c⟩⟩
   ·exact absurd hk (by simp)
  ·split at hk
   ·rename_i c
    rw[List.mem_singleton] at hk;subst hk
    exact⟨hi,Or.inr ⟨c,I⟩⟩
   ·exact absurd hk (by simp)
 ·obtain⟨i,t⟩:=k
  rintro⟨hi,hk⟩
  refine⟨i,List.mem_range.2 hi, ?_⟩
  rw[List.mem_append]
  rcases hk with⟨a,b⟩|⟨a,b⟩
  ·left;simp only at a b;rw[if_pos b,a];simp
  ·right;simp only at a b;rw[if_pos a,b];simp
def Ce (f:DY) (l:List Ar):List Ar:=(Do (Av l) l.length f).map (Tm (Av l))
theorem XQ {α:Type} {l:List α} {a b c:α} (ha:a∈l) (hb:b∈l) (hc:c∈l) (h1:a≠b) (h2:a≠c) (h3:b≠c):3≤l.length:=by
 match l,ha,hb,hc with
 |[x],ha,hb,_=>simp at ha hb;exact absurd (ha.trans hb.symm) h1
 |[x,y],ha,hb,hc=>
  simp at ha hb hc
  rcases ha with rfl|rfl<;>rcases hb with rfl|rfl<;>rcases hc with rfl|rfl<;>simp_all
 |_::_::_::l,_,_,_=>simp
theorem Wf {P:Nat→Ar} {n:Nat} {f:DY} (h:ET P n) {i:Nat} (hi:i<n) (hf:f.at (P i)<0):3≤(Do P n f).length:=by
 have n3:=h.n3
 have k1:(i,(0:Rat))∈Do P n f:=(D5 _).2 ⟨hi,Or.inl ⟨rfl,Rat.le_of_lt hf⟩⟩
 -- the next one
 have nx: ∃k∈Do P n f,(k.1=i∧0<k.2)∨(k.2=0∧(k.1=i+1∨k.1=0∧i+1=n)):=by
  rcases E2 0 (f.at (P (i+1))) with c|c
  ·have pr:f.at (P i)*f.at (P (i+1))<0:=by
    have:=Rat.mul_pos (show 0< -f.at (P i) by grind) c;grind
   exact⟨_,(D5 _).2 (Tj.cut hi pr),Or.inl ⟨I,(TJ pr).1⟩⟩
  ·by_cases e:i+1=n
   ·exact⟨(0,0),(D5 _).2 ⟨show 0<n by omega,Or.inl ⟨I,by rw[e,h.cl] at c;exact c⟩⟩,Or.inr ⟨I,Or.inr ⟨I,e⟩⟩⟩
   ·exact⟨(i+1,0),(D5 _).2 ⟨show i+1<n by omega,Or.inl ⟨I,c⟩⟩,Or.inr ⟨I,Or.inl I⟩⟩
 have pv: ∃k∈Do P n f,(k.1+1=i∨k.1+1=n∧i=0):=by
  obtain⟨j,hj,e1,e2⟩: ∃j,j<n∧(j+1=i∨j+1=n∧i=0)∧P (j+1)=P i:=by
   rcases Nat.eq_zero_or_pos i with rfl|c
   ·exact⟨n-1,by omega,Or.inr ⟨by omega,I⟩,by rw[show n-1+1=n by omega];exact h.cl⟩
   ·exact⟨i-1,by omega,Or.inl (by omega),by rw[show i-1+1=i by omega]⟩
  rcases E2 0 (f.at (P j)) with c|c
  ·have pr:f.at (P j)*f.at (P (j+1))<0:=by
    rw[e2]
    have:=Rat.mul_pos c (show 0< -f.at (P i) by grind);grind
   exact⟨_,(D5 _).2 (Tj.cut hj pr),e1⟩
  ·exact⟨(j,0),(D5 _).2 ⟨hj,Or.inl ⟨I,c⟩⟩,e1⟩
 obtain⟨k2,m2,h2⟩:=nx
 obtain⟨k3,m3,h3⟩:=pv
 refine XQ k1 m2 m3 ?_ ?_ ?_
 ·rintro rfl
  rcases h2 with⟨_,b⟩|⟨_,b|b⟩
  ·simp only at b;grind
  ·simp only at b;omega
  ·simp only at b;omega
 ·rintro rfl
  simp only at h3;omega
 ·rintro rfl
  rcases h2 with⟨b,_⟩|⟨_,b|b⟩<;>omega
theorem PG (f:DY) (l:List Ar):(Ce f l).length=(Do (Av l) l.length f).length:=by unfold Ce;rw[List.length_map]
end
section
def Rc (k:Nat) (l:List Ar):List Ar:=l.drop k++l.take k
theorem Rq {k:Nat} {l:List Ar} (hk:k≤l.length):(Rc k l).length=l.length:=by
 unfold Rc;rw[List.length_append,List.length_drop,List.length_take];omega
def BT (p q:Ar):Prop:=p.1<q.1∨p.1=q.1∧p.2<q.2
theorem J3 (p q:Ar):BT p q∨p=q∨BT q p:=by
 unfold BT
 rcases E2 p.1 q.1 with a|a
 ·exact Or.inl (Or.inl a)
 rcases E2 q.1 p.1 with b|b
 ·exact Or.inr (Or.inr (Or.inl b))
 have e:p.1=q.1:=by grind
 rcases E2 p.2 q.2 with c|c
 ·exact Or.inl (Or.inr ⟨e,c⟩)
 rcases E2 q.2 p.2 with d|d
 ·exact Or.inr (Or.inr (Or.inr ⟨e.symm,d⟩))
 ·refine Or.inr (Or.inl ?_)
  ext
  ·exact e
  ·grind
theorem Ig {p q:Ar} (h:BT p q): ¬BT q p:=by
 unfold BT at*
 rintro(c|⟨c,d⟩)<;>rcases h with a|⟨a,b⟩<;>grind
theorem SR (p:Ar): ¬BT p p:=fun h=>Ig h h
theorem H6 {l:List Ar} (h:0<l.length) (i:Nat):Av l i∈l:=by
 rw[←J7,CT (Nat.mod_lt i h)]
 exact List.getElem_mem _
theorem EN {l:List Ar} {x:Ar} (h:x∈l): ∃i,i<l.length∧Av l i=x:=by
 obtain⟨i,hi,rfl⟩:=List.getElem_of_mem h
 exact⟨i,hi,CT hi⟩
end
section
def E6 (p q:Ar):Bool:=decide (p.1<q.1)||(decide (p.1=q.1)&&decide (p.2<q.2))
theorem CK {p q:Ar}:E6 p q=true↔BT p q:=by unfold E6 BT;simp
def Cj (l:List Ar):Nat→Nat
 |0=>0
 |k+1=>if E6 (Av l k) (Av l (Cj l k)) then k else Cj l k
theorem Km (l:List Ar): ∀k,(Cj l k=0∨Cj l k<k)∧ ∀i,i<k→ ¬BT (Av l i) (Av l (Cj l k)):=by
 intro k
 induction k with
 |zero=>exact⟨Or.inl rfl,fun i h=>by omega⟩
 |succ k ih=>
  unfold Cj
  split
  ·rename_i c
   refine⟨Or.inr (by omega),fun i hi=> ?_⟩
   rcases Nat.eq_or_lt_of_le (show i≤k by omega) with rfl|q
   ·exact SR _
   ·intro hp
    have hc:=CK.1 c
    have a:=ih.2 i q
    -- i < k < the least one
    apply a
    unfold BT at*
    rcases hp with hp|⟨hp,hp2⟩<;>rcases hc with hc|⟨hc,hc2⟩<;>grind
  ·rename_i c
   refine⟨by rcases ih.1 with a|a<;>omega,fun i hi=> ?_⟩
   rcases Nat.eq_or_lt_of_le (show i≤k by omega) with rfl|q
   ·intro hp;exact c (CK.2 hp)
   ·exact ih.2 i q
def CU (l:List Ar):List Ar:=Rc (Cj l l.length) l
theorem T2 (l:List Ar):Cj l l.length≤l.length:=by
 rcases(Km l l.length).1 with a|a<;>omega
def JU (f:DY) (l:List Ar):Bool:=l.any fun p=>decide (f.at p<0)
theorem Rz {f:DY} {l:List Ar}:JU f l=true↔ ∃p∈l,f.at p<0:=by unfold JU;simp
def F9 (f:DY) (l:List Ar):List Ar:=if JU f l then CU (Ce f l) else[]
end
section
def RF (F:Nat→Rat):Nat→Rat
 |0=>0
 |n+1=>RF F n+F n
def Tu (p q:Ar):Rat:=p.1*q.2-q.1*p.2
def O9 (l:List Ar):Rat:=RF (fun i=>Tu (Av l i) (Av l (i+1))) l.length
theorem MW {u v:Rat}:u*v<0↔(u<0∧0<v)∨(0<u∧v<0):=by
 constructor
 ·intro h
  rcases E2 u 0 with a|a
  ·rcases E2 0 v with b|b
   ·exact Or.inl ⟨a,b⟩
   ·have:=Rat.mul_nonneg (show 0≤ -u by grind) (show 0≤ -v by grind);grind
  ·rcases E2 v 0 with b|b
   ·refine Or.inr ⟨?_,b⟩
    rcases E2 0 u with c|c
    ·exact c
    ·have e:u=0:=by grind
     rw[e] at h;grind
   ·have:=Rat.mul_nonneg a b;grind
 ·rintro(⟨a,b⟩|⟨a,b⟩)
  ·have:=Rat.mul_pos (show 0< -u by grind) b;grind
  ·have:=Rat.mul_pos a (show 0< -v by grind);grind
def NF (f:DY) (p q:Ar):List Ar:=(if f.at p≤0 then[p] else[])++(if f.at p*f.at q<0 then[Re (f.at p/(f.at p-f.at q)) p q] else[])
theorem NP (P:Nat→Ar) (n:Nat) (f:DY):(Do P (n+1) f).map (Tm P)=(Do P n f).map (Tm P)++NF f (P n) (P (n+1)):=by
 unfold Do NF
 rw[List.range_succ,List.flatMap_append,List.map_append]
 congr 1
 rw[List.flatMap_cons,List.flatMap_nil,List.append_nil,List.map_append]
 congr 1
 ·split
  ·show[Tm P (n,0)]=_
   unfold Tm;rw[XL]
  ·rfl
 ·split<;>rfl
end
section
theorem PI {p q r:Ar} (h1:BT p q) (h2:BT q r):BT p r:=by
 unfold BT at*
 rcases h1 with h1|⟨h1,h3⟩<;>rcases h2 with h2|⟨h2,h4⟩<;>grind
def Cl (p:Ar):List Ar→List Ar
 |b::a::t=>if Ew a b p≤0 then Cl p (a::t) else b::a::t
 |l=>l
def DI (l:List Ar):List Ar:=l.foldl (fun r p=>p::Cl p r) []
end
section
def Sl (S:List Ar):List Ar:=(DI S).tail.reverse++(DI S.reverse).tail.reverse
end
section
open Go Go.RowKit Go.Am Go.Lib
set_option maxRecDepth 10000
-- BOXES 3
-- CODE2
theorem Vs (b:UInt8):decide (((b.toNat:Nat):Int)<48)=decide (b.toNat<48):=decide_eq_decide.2 (by omega)
theorem Va (b:UInt8):decide (((b.toNat:Nat):Int)>57)=decide (57<b.toNat):=decide_eq_decide.2 (by omega)
def dgB (s:List UInt8):Bool:=decide (s=decDigits (AJ s))
theorem Gp {s:List UInt8}:dgB s=true↔M3 s:=by unfold dgB;rw[decide_eq_true_iff];exact Qv.symm
theorem Rb {s:List UInt8} (h: ¬M3 s):dgB s=false:=by
 cases e:dgB s
 ·rfl
 ·exact absurd (Gp.1 e) h
theorem GS (s:List UInt8) (hs:s.length<4611686018427387904):AY Tryz.prog 175 [str s] (.bool (dgB s)):=by
 intro W
 refine Ab Tryz.func175 I I I ?_
 refine zA (zB (wP I (Aa (A8 (Az (Az ?_))))))
 refine AC (X:=Unit) (fun _=>[(0,str s),(16, .bool (decide (s=[]∨(1<s.length∧s[0]? =some 48))))]) (fun _=>[]) (fun _=>True) ?_ ?_
 ·refine zB (wP I (wP I ?_))
  refine Ao 5 (.int .i64 (s.length:Nat)) I (congrArg (fun n:Nat=>Value.int .i64 (n:Int)) (A5 s)) ?_
  refine wP I ?_
  by_cases h0:s=[]
  ·refine wU 6 true I (by rw[h0];rfl) (wP I ?_)
   iterate 8 refine Ah I I ?_
   exact wP I (Aa (An () tO ⟨I,by rw[dT (Or.inl h0)];rfl,tO⟩ [] I))
  ·have hpos:0<s.length:=List.length_pos_iff.2 h0
   refine wU 6 false I (by rw[beq_eq_false_iff_ne];omega) (wP I (wP I (wP I ?_)))
   refine Ao 9 (.int .i64 (s.length:Nat)) I (congrArg (fun n:Nat=>Value.int .i64 (n:Int)) (A5 s)) ?_
   refine wP I ?_
   by_cases h1:1<s.length
   ·refine wU 10 true I (dT (by omega)) ?_
    obtain⟨b,hb⟩: ∃b,s[0]? =some b:=⟨s[0],List.getElem?_eq_getElem hpos⟩
    refine wP I (wP I ?_)
    refine Bi 0 tH I I I I I I I I hb ?_
    refine wP I (wU 14 (decide (b=48)) I (Fv b 48) (wP I (wP I (Aa ?_))))
    refine An () tO ⟨I, ?_,tO⟩ [] I
    have e:decide (s=[]∨(1<s.length∧s[0]? =some 48))=decide (b=48):=by
     rw[decide_eq_decide,hb]
     constructor
     ·rintro(h|⟨_,h⟩)
      ·exact absurd h h0
      ·exact Option.some.inj h
     ·intro h;exact .inr ⟨h1,by rw[h]⟩
    rw[e];rfl
   ·refine wU 10 false I (dF (by omega)) (wP I ?_)
    iterate 3 refine Ah I I ?_
    exact wP I (wP I (Aa (An () tO ⟨I,by rw[show decide (s=[]∨1<s.length∧s[0]? =some 48)=false from dF (fun h=>h.elim h0 (fun h=>h1 h.1))];rfl,tO⟩ [] I)))
 intro _ _
 refine Aj I (fun hc=> ?_) (fun hc=> ?_)
 ·have hc:=of_decide_eq_true hc
  refine zA (zB (wP I (Aa (zE (zO (zP ?_))))))
  refine wR1 I I ?_
  rw[Rb fun h=> ?_]
  rcases hc with hc|⟨h1,h2⟩
  ·exact h.ne hc
  ·exact h.lead h1 h2
 have hc:=of_decide_eq_false hc
 have hne:s≠[]:=fun h=>hc (.inl h)
 have hlead:1<s.length→s[0]? ≠some 48:=fun h1 h2=>hc (.inr ⟨h1,h2⟩)
 refine zI (zE (zA (zA (zB (wP I (Aa (zE (zH ?_))))))))
 refine Aw (X:=Nat) (fun i=>[(0,str s),(3, .int .i64 (i:Nat))]) (fun _=>[]) (fun i=>i≤s.length∧ ∀b∈s.take i,DF b=true) (fun i=>s.length-i) 0 ⟨Nat.zero_le _,fun b hb=>by simp at hb⟩ ⟨I,I,tO⟩ [] I ?_
 rintro i ⟨hi,hdg⟩
 have hi:i≤s.length:=hi
 have hdg: ∀b∈s.take i,DF b=true:=hdg
 refine zA (zA (zB (wP I (wP I (wP I ?_)))))
 refine Ao 19 (.int .i64 (s.length:Nat)) I (congrArg (fun n:Nat=>Value.int .i64 (n:Int)) (A5 s)) ?_
 refine wP I ?_
 by_cases hlt:i<s.length
 ·refine wU 20 true I (dT (by omega)) (Aa (zE (zR I (zI (zE (zA (zH (zA (zB ?_)))))))))
  obtain⟨b,hb⟩: ∃b,s[i]? =some b:=⟨s[i],List.getElem?_eq_getElem hlt⟩
  have hbm:b∈s:=List.mem_of_getElem? hb
  refine wP I (wP I ?_)
  refine Bi i tH I I I I I I I I hb ?_
  refine wP I ?_
  by_cases h48:b.toNat<48
  ·refine wU 26 true I ((Vs b).trans (dT h48)) (wP I ?_)
   iterate 4 refine Ah I I ?_
   refine wP I (Aa (zE (zR I (zA (zB (wP I (Aa (zE (zO (zQ (zP (zP (zQ ?_)))))))))))))
   refine zP ?_
   refine wR1 I I ?_
   rw[Rb fun h=>by have:=Ct.1 (h.all b hbm);omega]
  ·refine wU 26 false I ((Vs b).trans (dF h48)) (wP I (wP I (wP I ?_)))
   refine Bi i tH I I I I I I I I hb ?_
   refine wP I ?_
   by_cases h57:57<b.toNat
   ·refine wU 31 true I ((Va b).trans (dT h57)) (wP I (Aa (zE (zR I (zA (zB (wP I (Aa (zE (zO (zQ (zP (zP ?_)))))))))))))
    refine zQ (zP ?_)
    refine wR1 I I ?_
    rw[Rb fun h=>by have:=Ct.1 (h.all b hbm);omega]
   ·refine wU 31 false I ((Va b).trans (dF h57)) (wP I (Aa (zE (zS I (zI (zN (zE (zB (wP I (wP I (wV 22 ((i+1:Nat):Int) I (Ax (by omega)) (wP I (Aa ?_)))))))))))))
    refine Al (i+1) ⟨hlt,fun c hc=> ?_⟩ (by show s.length-(i+1)<s.length-i;omega) ⟨I,I,tO⟩ [] I
    rw[List.take_add_one,hb,List.mem_append] at hc
    rcases hc with hc|hc
    ·exact hdg c hc
    ·obtain rfl:c=b:=by simpa using hc
     exact Ct.2 ⟨by omega,by omega⟩
 ·refine wU 20 false I (dF (by omega)) (Aa (zE (zS I (zJ (zK (zK (zL (zE (zA (zB (wP I (Aa (zE ?_)))))))))))))
  refine zO ?_
  refine wR1 I I ?_
  rw[List.take_of_length_le (by omega)] at hdg
  rw[Gp.2 ⟨hne,hdg,hlead⟩]
theorem Pk (a b:Nat) (ha:a<9223372036854775808) (hb:b<9223372036854775808):AY Tryz.prog 176 [.int .i64 (a:Nat), .int .i64 (b:Nat)] (.int .i64 (Nat.gcd a b:Nat)):=by
 intro W
 refine Ab Tryz.func176 I I I ?_
 refine zA (zB (wP I (Aa (zE (zA (zH ?_))))))
 refine Aw (X:=Nat×Nat) (fun x=>[(0, .int .i64 (x.1:Nat)),(1, .int .i64 (x.2:Nat))]) (fun _=>[]) (fun x=>x.1<9223372036854775808∧x.2<9223372036854775808∧Nat.gcd x.1 x.2=Nat.gcd a b) (fun x=>x.2) (a,b) ⟨ha,hb,I⟩ ⟨I,I,tO⟩ [] I ?_
 rintro⟨x,y⟩ ⟨hx,hy,hg⟩
 have hx:x<9223372036854775808:=hx
 have hy:y<9223372036854775808:=hy
 have hg:Nat.gcd x y=Nat.gcd a b:=hg
 refine zA (zA (zB (wP I (wP I (Aa (zE ?_))))))
 by_cases h0:y=0
 ·refine AT 6 (.bool false) I (congrArg Value.bool (by rw[bne_eq_false_iff_eq];omega)) ?_
  exact zS I (zJ (zK (zK (zL (zE (zA (zB (wP I (wP I (Aa (zE (zO (wR1 I I (by rw[←hg,h0,Nat.gcd_zero_right]))))))))))))))
 ·refine AT 6 (.bool true) I (congrArg Value.bool (by rw[bne_iff_ne];omega)) ?_
  refine zR I (zI (zE (zH (zU (qP I (qP I (qP I ?_)))))))
  refine Ed I I I I I (by omega) ?_
  refine qP I (qP I (AB (Aa (zN ?_))))
  have hr:x%y<y:=Nat.mod_lt _ (by omega)
  exact Al (y,x%y) ⟨hy,Nat.lt_trans hr hy,by show Nat.gcd y (x%y)=_;rw[Nat.gcd_comm, ←Nat.gcd_rec,Nat.gcd_comm];exact hg⟩ hr ⟨I,I,tO⟩ [] I
theorem El (s:List UInt8) (hs:s.length≤18) (hd: ∀b∈s,DF b=true):AY Tryz.prog 107 [str s] (.int .i64 (AJ s:Nat)):=by
 intro W
 have hlt: ∀i,AJ (s.take i)<1000000000000000000:=fun i=>by
  have h1:=F0 (s.take i).length (s:=s.take i) rfl fun b hb=>hd b (List.mem_of_mem_take hb)
  have h2:(s.take i).length≤18:=by rw[List.length_take];omega
  exact Nat.lt_of_lt_of_le h1 (Nat.pow_le_pow_right (by decide) h2)
 refine Ab Tryz.func107 I I I ?_
 refine zA (zB (wP I (Aa (zE (zA (zB (wP I (Aa (zE (zA (zA (zB (wP I ?_)))))))))))))
 refine Aa (zE (zH ?_))
 refine Aw (X:=Nat) (fun i=>[(0,str s),(3, .int .i64 (AJ (s.take i):Nat)),(4, .int .i64 (i:Nat))]) (fun _=>[]) (fun i=>i≤s.length) (fun i=>s.length-i) 0 (Nat.zero_le _) ⟨I,I,I,tO⟩ [] I ?_
 intro i hi
 have hi:i≤s.length:=hi
 refine zA (zA (zB (wP I (wP I (wP I ?_)))))
 refine Ao 7 (.int .i64 (s.length:Nat)) I (congrArg (fun n:Nat=>Value.int .i64 (n:Int)) (A5 s)) ?_
 refine wP I ?_
 by_cases h:i<s.length
 ·refine wU 8 true I (dT (by omega)) (Aa (zE (zR I (zI (zE (zA (zH (zB ?_))))))))
  obtain⟨b,hb⟩: ∃b,s[i]? =some b:=⟨s[i],List.getElem?_eq_getElem h⟩
  have hdb:=Ct.1 (hd b (List.mem_of_getElem? hb))
  have e1:AJ (s.take (i+1))=10*AJ (s.take i)+(b.toNat-48):=by
   rw[List.take_add_one,hb];exact CW _ _
  have l1:=hlt i
  have l2:=hlt (i+1)
  refine wP I (wP I (wV 12 ((10*AJ (s.take i):Nat):Int) I (show w64 (10*(AJ (s.take i):Nat))=_ by rw[Ap (by omega) (by omega)];omega) (wP I (wP I ?_))))
  refine Bi i tH I I I I I I I I hb ?_
  refine wP I ?_
  refine Ao 16 (.int .u8 ((b.toNat-48:Nat):Int)) I (congrArg (Value.int .u8) (show IntKind.u8.wrap ((b.toNat:Nat)-48)=_ by
   simp only[IntKind.wrap,IntKind.signed,IntKind.bits];simp;omega)) ?_
  refine J4 Tryz.underlying5 Tryz.underlying3 I I I I ?_
  exact wV 17 ((b.toNat-48:Nat):Int) I (BB (by omega)) (wP I (wV 18 ((AJ (s.take (i+1)):Nat):Int) I (show w64 (((10*AJ (s.take i):Nat):Int)+((b.toNat-48:Nat):Int))=_ by rw[Ap (by omega) (by omega),e1];omega) (wP I (Aa (zN (zE (zB (wP I (wP I (wV 10 ((i+1:Nat):Int) I (Ax (by omega)) (wP I (Aa (Al (i+1) h (by show s.length-(i+1)<s.length-i;omega) ⟨I,I,I,tO⟩ [] I)))))))))))))
 ·refine wU 8 false I (dF (by omega)) (Aa (zE (zS I (zJ (zK (zK (zL (zE (zA (zB (wP I (wP I (Aa ?_)))))))))))))
  exact zE (zO (wR1 I I (by rw[List.take_of_length_le (by omega)])))
-- BOXES 3
-- CODE2
section
variable {r:Option Nat} {n:Nat} {P:Program} {N:Nat} {D:List Deferred} {ops:List Oper} {Q:Exit→Act→World→Prop} {o:Oper} {rest:List Oper} {env:Env} {A:World→Prop} {A2:World→Prop} {R:Act→World→Prop}
theorem UJ {T:Tbl} {i:TI} {ρ:Operand→Value} {a:List UInt8} {t:TypeId} {x y:Operand} {k:IntKind} (l:Nat) (hT:Go.Am.okB P T=true) (ho:o.op= .slice t x none (some y) none) (ht:BO T t=some i) (hk:i.kind=1)
  (hx:ρ x=str a) (hy:ρ y= .int k l) (h1:l≤a.length) (W:World):(execOp ρ o).run P W= .ok (.value (str (a.take l))) W:=by
 have hu:=Gc (Bo hT ht) hk
 have hsz:(⟨a.toArray⟩:ByteArray).size=a.length:=by show a.toArray.size=_;simp
 have e:(⟨a.toArray⟩:ByteArray).extract 0 l=⟨(a.take l).toArray⟩:=by
  apply ByteArray.ext
  rw[ByteArray.data_extract]
  apply Array.toList_inj.1
  simp[List.extract_eq_take_drop]
 simp[execOp,ho,Instr.sliceAt,Instr.slice,Instr.sliceBounds,Instr.sliceBound,hx,hy,asIntOf,run_underlying hu,hsz,h1,e]
theorem WI (l:Nat) {T:Tbl} {i:TI} {a:List UInt8} {d:Nat} {t:TypeId} {x y:Operand} {k:IntKind} {z:Int} (hT:Go.Am.okB P T=true) (hg:A0 ops N env o=some true) (hd:o.dst=some d) (ho:o.op= .slice t x none (some y) none) (ht:BO T t=some i) (hk:i.kind=1)
  (hx:evO N env x=some (str a)) (hy:evO N env y=some (.int k z)) (hz:z=l) (h1:l≤a.length)
  (hn:WQ P N D ops A2 R rest ((d,str (a.take l))::env) A):WQ P N D ops A2 R (o::rest) env A:=
 Dx hg hd (fun c e=>by rw[ho] at e;cases e) (fun ρ W hρ _=>UJ l hT ho ht hk (hρ _ _ hx) (by rw[←hz];exact hρ _ _ hy) h1 W) hn
end
section
variable {n:Nat} {P:Program} {W0:World} {N:Nat} {env:Env} {bxs:List Bx}
theorem SJ {fn:Func} {T:Tbl} {r1 r2 r3 r4:ResultVar} {v1 v2 v3 v4:Value} {X:Type} {val:X→Value} {Φ:X→Prop} {nb:X→List Bx} (hT:Go.Am.okB P T=true) (hr:fn.results= #[r1,r2,r3,r4])
  (h1:Res P T env bxs N r1 v1) (h2:Res P T env bxs N r2 v2) (h3:Res P T env bxs N r3 v3) (h4:Res P T env bxs N r4 v4)
  (x:X) (hv: .tuple #[v1,v2,v3,v4]=val x) (hx:Φ x) (hnb: ∀W,Hp W0 bxs W→As W0 W (nb x)):NE N [] (Gd P fn W0 val Φ nb) .ret env (Hp W0 bxs):=
 Lr (rvs:=[r1,r2,r3,r4]) (vs:=[v1,v2,v3,v4]) hT hr rfl (fun i h _=>by
  match i,h with
  |0,_=>exact h1
  |1,_=>exact h2
  |2,_=>exact h3
  |3,_=>exact h4
  |i+4,h=>exact absurd h (by show¬i+4<4;omega)) x (by simpa using hv) hx hnb
end
def Ph (a:List UInt8):Value:= .tuple #[.bool (hasPrefix a [45]),str (cut (trimPrefix a [45]) [47]).1,str (cut (trimPrefix a [45]) [47]).2.1, .bool (cut (trimPrefix a [45]) [47]).2.2]
theorem Ft (a:List UInt8) (ha:a.length<4611686018427387904):AY Tryz.prog 106 [str a] (Ph a):=by
 intro W
 refine Ab Tryz.func106 I I I ?_
 refine zA (zB (wP I (wP I (wP I (wP I (Aa (zE (zA (zB (wP I (wP I (Aa (A8 ?_)))))))))))))
 refine Az ?_
 refine AC (X:=Unit) (fun _=>[(6,str a),(7, .bool (hasPrefix a [45]))]) (fun _=>[]) (fun _=>True) ?_ ?_
 ·refine zB (wP I (wP I ?_))
  refine Ao 11 (.int .i64 (a.length:Nat)) I (congrArg (fun n:Nat=>Value.int .i64 (n:Int)) (A5 a)) ?_
  refine wP I ?_
  cases ea:a with
  |nil=>
   refine Ao 12 (.bool false) I I ?_
   refine wP I ?_
   iterate 3 refine Ah I I ?_
   exact wP I (wP I (Aa (An () tO ⟨I,I,tO⟩ [] I)))
  |cons b t=>
   refine wU 12 true I (dT (by show(((b::t).length:Nat):Int)>0;rw[List.length_cons];omega)) (wP I (wP I ?_))
   refine Bi 0 tH I I I I I I I I (show(b::t)[0]? =some b from I) ?_
   exact wP I (wU 16 (hasPrefix (b::t) [45]) I ((Fv b 45).trans (by rw[Bj];exact decide_eq_decide.2 (by simp))) (wP I (wP I (Aa (An () tO ⟨I,I,tO⟩ [] I)))))
 intro _ _
 refine zA (zA (zB (wP I (Aa (A8 ?_)))))
 try refine Az ?_
 obtain⟨b,hb⟩: ∃b,b=trimPrefix a [45]:=⟨_,rfl⟩
 have hbl:b.length≤a.length:=by rw[hb,AR];split<;>simp
 refine AC (X:=Unit) (fun _=>[(6,str b),(7, .bool (hasPrefix a [45]))]) (fun _=>[]) (fun _=>True) ?_ ?_
 ·refine Aj I (fun hm=> ?_) (fun hm=> ?_)
  ·have hm:a[0]? =some 45:=by rw[Bj] at hm;exact of_decide_eq_true hm
   have h1:1≤a.length:=(List.getElem?_eq_some_iff.1 hm).1
   refine zB (wP I ?_)
   refine KK 1 tH I I I I I I I I h1 ?_
   exact wP I (Aa (An () tO ⟨by rw[hb,AR,if_pos hm];rfl,I,tO⟩ [] I))
  ·have hm: ¬a[0]? =some 45:=by rw[Bj] at hm;exact of_decide_eq_false hm
   exact zI (An () tO ⟨by rw[hb,AR,if_neg hm];rfl,I,tO⟩ [] I)
 intro _ _
 refine zA (zA (zB (wP I (Aa (zE (zH ?_))))))
 refine Aw (X:=Nat) (fun i=>[(6,str b),(7, .bool (hasPrefix a [45])),(8, .int .i64 (i:Nat))]) (fun _=>[]) (fun i=>i≤b.length∧47∉b.take i) (fun i=>b.length-i) 0 ⟨Nat.zero_le _,by simp⟩ ⟨I,I,I,tO⟩ [] I ?_
 rintro i ⟨hi,hno⟩
 have hi:i≤b.length:=hi
 have hno:47∉b.take i:=hno
 refine zA (zA (zB (wP I (wP I (wP I ?_)))))
 refine Ao 23 (.int .i64 (b.length:Nat)) I (congrArg (fun n:Nat=>Value.int .i64 (n:Int)) (A5 b)) ?_
 refine wP I ?_
 by_cases hlt:i<b.length
 ·refine wU 24 true I (dT (by omega)) (Aa (zE (zR I (zI (zE (zA (zH (zA (zB ?_)))))))))
  obtain⟨c,hc⟩: ∃c,b[i]? =some c:=⟨b[i],List.getElem?_eq_getElem hlt⟩
  refine wP I (wP I ?_)
  refine Bi i tH I I I I I I I I hc ?_
  refine wP I (wU 30 (decide (c=47)) I (Fv c 47) (Aa (zE ?_)))
  refine Aj I (fun h47=> ?_) (fun h47=> ?_)
  ·have h47:c=47:=of_decide_eq_true h47
   have eb:b=b.take i++47::b.drop (i+1):=by
    conv=>lhs;rw[←List.take_append_drop i b]
    rw[List.drop_eq_getElem_cons hlt]
    have:b[i]=47:=by rw[List.getElem?_eq_getElem hlt] at hc;rw[Option.some.inj hc];exact h47
    rw[this]
   have ec:=FB (b.drop (i+1)) hno
   rw[←eb,hb] at ec
   refine zA (zU (qP I (qP I (qP I ?_))))
   refine WI i tH I I I I I I I I (by omega) ?_
   refine qP I (qP I (qP I (qV 37 ((i+1:Nat):Int) I (Ax (by omega)) ?_)))
   refine O7 (i+1) tH I I I I I I I I (by omega) ?_
   exact qP I (qP I (qP I (qP I (AB (Aa (zE (zO (zQ (zP (zP (zQ (zP (SJ tH I (.tmp I) (.tmp I) (.tmp I) (.tmp I) () (by rw[Ph,ec,hb]) tO fun W _=>As.nil _ _)))))))))))))
  ·have h47: ¬c=47:=of_decide_eq_false h47
   refine zI (zN (zE (zB (wP I (wP I (wV 26 ((i+1:Nat):Int) I (Ax (by omega)) (wP I (Aa ?_))))))))
   refine Al (i+1) ⟨hlt,fun h=> ?_⟩ (by show b.length-(i+1)<b.length-i;omega) ⟨I,I,I,tO⟩ [] I
   rw[List.take_add_one,hc,List.mem_append] at h
   rcases h with h|h
   ·exact hno h
   ·exact h47 (by simpa using h:(47:UInt8)=c).symm
 ·refine wU 24 false I (dF (by omega)) (Aa (zE (zS I (zJ (zK (zK (zL (zE (zA (zB ?_))))))))))
  rw[List.take_of_length_le (by omega)] at hno
  have ec:=Et hno
  rw[hb] at ec
  iterate 6 refine wP I ?_
  exact Aa (zE (zO (SJ tH I (.tmp I) (.tmp I) (.tmp I) (.tmp I) () (by rw[Ph,ec,hb]) tO fun W _=>As.nil _ _)))
theorem Sh {z:Int} {d:Nat} (_hd:1≤d):hasPrefix (Gg z d) [45]=decide (z<0)∧cut (trimPrefix (Gg z d) [45]) [47]=(decDigits z.natAbs,if d=1 then[] else decDigits d,decide (d≠1)):=by
 have hn47:(47:UInt8)∉decDigits z.natAbs:=fun h=>by have:=EP _ _ h;exact absurd this.1 (by decide)
 have hp: ∀r,hasPrefix (itoa z++r) [45]=decide (z<0):=fun r=>by
  rw[Bj]
  unfold itoa
  split
  ·rename_i h;rw[dT h];rfl
  ·rename_i h
   rw[dF h]
   obtain⟨b,t,hb,h3,_⟩:=Cx z.toNat
   rw[hb]
   refine dF fun e=> ?_
   have e:b=45:=by simpa using e
   rw[e] at h3;exact absurd h3 (by decide)
 have ht: ∀r,trimPrefix (itoa z++r) [45]=decDigits z.natAbs++r:=fun r=>by
  have h1:=hp r
  rw[AR]
  rw[Bj] at h1
  by_cases hz:z<0
  ·rw[dT hz] at h1
   rw[if_pos (of_decide_eq_true h1)]
   unfold itoa
   rw[if_pos hz];rfl
  ·rw[dF hz] at h1
   rw[if_neg (of_decide_eq_false h1)]
   unfold itoa
   rw[if_neg hz,show z.toNat=z.natAbs by omega]
 unfold Gg
 by_cases h1:d=1
 ·rw[if_pos h1]
  have e1:=hp []
  have e2:=ht []
  rw[List.append_nil] at e1 e2
  rw[List.append_nil] at e2
  exact⟨e1,by rw[e2,Et hn47,if_pos h1,h1];rfl⟩
 ·rw[if_neg h1]
  exact⟨hp _,by rw[ht,FB _ hn47,if_neg h1,dT (show d≠1 from h1)]⟩
theorem NI (q:Rat):Ph (Ac q)= .tuple #[.bool (decide (q.num<0)),str (decDigits q.num.natAbs),str (if q.den=1 then[] else decDigits q.den), .bool (decide (q.den≠1))]:=by
 obtain⟨h1,h2⟩:=Sh (z:=q.num) q.den_pos
 unfold Ph Ac
 rw[h1,h2]
def E5 (q:Rat):Bool:=decide ((decDigits q.num.natAbs).length≤9)&&(decide (q.den=1)||decide ((decDigits q.den).length≤9))
theorem Mm {n:Nat} (h:(decDigits n).length≤9):n<1000000000:=Nat.lt_of_lt_of_le (Gi n) (Nat.pow_le_pow_right (by decide) h)
theorem Ju {q:Rat} (h:E5 q=true):q.num.natAbs<1000000000∧q.den<1000000000:=by
 unfold E5 at h
 simp only[Bool.and_eq_true,Bool.or_eq_true,decide_eq_true_eq] at h
 refine⟨Mm h.1, ?_⟩
 rcases h.2 with e|e
 ·rw[e];decide
 ·exact Mm e
theorem Ri (q:Rat) (hl:(Ac q).length<4611686018427387904):AY Tryz.prog 40 [str (Ac q)] (if E5 q=true then .tuple #[.int .i64 q.num, .int .i64 (q.den:Nat), .bool true] else .tuple #[.int .i64 0, .int .i64 0, .bool false]):=by
 intro W
 obtain⟨n,hn⟩: ∃n,n=decDigits q.num.natAbs:=⟨_,rfl⟩
 obtain⟨e,he⟩: ∃e,e=(if q.den=1 then[] else decDigits q.den):=⟨_,rfl⟩
 have hsp:Ad Tryz.prog 106 #[str (Ac q)] W (fun _:Unit=> .tuple #[.bool (decide (q.num<0)),str n,str e, .bool (decide (q.den≠1))]) (fun _=>True) (fun _=>[]):=(Ft (Ac q) hl W).cast (by rw[NI,hn,he])
 have hsh:E5 q=(decide (n.length≤9)&&decide (e.length≤9)):=by
  unfold E5
  rw[hn,he]
  by_cases h1:q.den=1
  ·rw[if_pos h1,dT h1];rfl
  ·rw[if_neg h1,dF h1,Bool.false_or]
 have hnd: ∀b∈n,DF b=true:=by rw[hn];exact(Ha _).all
 refine Ab Tryz.func40 I I I ?_
 refine zA (zB (wP I (wP I (wP I (Aa (zE (zA (zB (wP I (wC I I (fun W1 hp=>(Ft (Ac q) hl W1).cast (v':= .tuple #[.bool (decide (q.num<0)),str n,str e, .bool (decide (q.den≠1))]) (by rw[NI,hn,he])) ?_))))))))))
 iterate 9 refine wP I ?_
 refine Aa ?_
 by_cases hs:E5 q=true
 ·rw[if_pos hs]
  have hs2:=hs
  rw[hsh,Bool.and_eq_true,decide_eq_true_eq,decide_eq_true_eq] at hs2
  obtain⟨hs2,hs3⟩:=hs2
  obtain⟨l1,l2⟩:=Ju hs
  refine zE (zA (zA (zB (wP I (wP I ?_)))))
  refine Ao 19 (.int .i64 (n.length:Nat)) I (congrArg (fun n:Nat=>Value.int .i64 (n:Int)) (A5 n)) ?_
  refine wP I (wU 20 false I (dF (by omega)) (wP I (wP I (wP I ?_))))
  refine Ao 23 (.int .i64 (e.length:Nat)) I (congrArg (fun n:Nat=>Value.int .i64 (n:Int)) (A5 e)) ?_
  refine wP I (wU 24 false I (dF (by omega)) (wP I (Aa (zE (zS I (zI (zE (zA (zB (wP I (wC I I (fun W1 hp=>(El n (by omega) hnd W1).cast (v':= .int .i64 (q.num.natAbs:Nat)) (by rw[hn,Cq])) (wP I (wP I ?_)))))))))))))
  refine Aa (zE (zA (zA (zB (wP I (Aa (A8 ?_)))))))
  try refine Az ?_
  refine AC (X:=Unit) (fun _=>[(5, .bool (decide (q.num<0))),(9, .int .i64 (q.num.natAbs:Nat)),(10, .int .i64 (q.den:Nat))]) (fun _=>[]) (fun _=>True) ?_ ?_
  ·refine Aj I (fun h1=> ?_) (fun h1=> ?_)
   ·have h1:q.den≠1:=of_decide_eq_true h1
    have e1:e=decDigits q.den:=by rw[he,if_neg h1]
    exact zB (wP I (wC I I (fun W1 hp=>(El e (by omega) (by rw[e1];exact(Ha _).all) W1).cast (v':= .int .i64 (q.den:Nat)) (by rw[e1,Cq])) (wP I (Aa (An () tO ⟨I,I,I,tO⟩ [] I)))))
   ·have h1:q.den=1:=Decidable.byContradiction fun h=>absurd h1 (by rw[dT h];decide)
    exact zI (An () tO ⟨I,I,by rw[h1];rfl,tO⟩ [] I)
  intro _ _
  refine zA (zA (zB (wP I (Aa (A8 ?_)))))
  try refine Az ?_
  refine AC (X:=Unit) (fun _=>[(9, .int .i64 q.num),(10, .int .i64 (q.den:Nat))]) (fun _=>[]) (fun _=>True) ?_ ?_
  ·refine Aj I (fun h1=> ?_) (fun h1=> ?_)
   ·have h1:q.num<0:=of_decide_eq_true h1
    exact zB (wP I (wP I (wV 33 q.num I (by show w64 (0-((q.num.natAbs:Nat):Int))=_;rw[Ap (by omega) (by omega)];omega) (wP I (Aa (An () tO ⟨I,I,tO⟩ [] I))))))
   ·have h1: ¬q.num<0:=of_decide_eq_false h1
    exact zI (An () tO ⟨congrArg (fun z=>some (Value.int .i64 z)) (by omega),I,tO⟩ [] I)
  intro _ _
  refine zA (zB ?_)
  iterate 5 refine wP I ?_
  exact Aa (zE (zO (wR3 I I I)))
 ·rw[if_neg hs]
  have hs2: ¬(n.length≤9∧e.length≤9):=fun h=>hs (by rw[hsh,dT h.1,dT h.2];rfl)
  refine A8 (Az (Az ?_))
  refine AC (X:=Unit) (fun _=>[(25, .bool true)]) (fun _=>[]) (fun _=>True) ?_ ?_
  ·refine zB (wP I (wP I ?_))
   refine Ao 19 (.int .i64 (n.length:Nat)) I (congrArg (fun n:Nat=>Value.int .i64 (n:Int)) (A5 n)) ?_
   refine wP I ?_
   by_cases h1:n.length≤9
   ·refine wU 20 false I (dF (by omega)) (wP I (wP I (wP I ?_)))
    refine Ao 23 (.int .i64 (e.length:Nat)) I (congrArg (fun n:Nat=>Value.int .i64 (n:Int)) (A5 e)) ?_
    exact wP I (wU 24 true I (dT (by omega)) (wP I (Aa (An () tO ⟨I,tO⟩ [] I))))
   ·refine wU 20 true I (dT (by omega)) (wP I ?_)
    iterate 3 refine Ah I I ?_
    exact wP I (Aa (An () tO ⟨I,tO⟩ [] I))
  intro _ _
  exact zR I (zA (zB (wP I (wP I (wP I (Aa (zE (zO (zP (wR3 I I I))))))))))
theorem QW (q:Rat) (hl:(Ac q).length≤1000):AY Tryz.prog 41 [str (Ac q)] (.tuple #[str (itoa q.num),str (decDigits q.den)]):=by
 intro W
 have hlen:(decDigits q.num.natAbs).length≤1000:=by
  have:=S8 (a:=Ac q) (Fg q.num q.den_pos)
  omega
 refine Ab Tryz.func41 I I I ?_
 refine zA (zB (wP I (wP I (Aa (zE (zA (zB (wP I (wC I I (fun W1 hp=>(Ft (Ac q) (by omega) W1).cast (NI q)) ?_)))))))))
 iterate 9 refine wP I ?_
 refine Aa (zE (zA (zA (zB (wP I (Aa (A8 ?_)))))))
 try refine Az ?_
 refine AC (X:=Unit) (fun _=>[(5,str (itoa q.num)),(6,str (if q.den=1 then[] else decDigits q.den)),(7, .bool (decide (q.den≠1)))]) (fun _=>[]) (fun _=>True) ?_ ?_
 ·refine Aj I (fun h1=> ?_) (fun h1=> ?_)
  ·have h1:q.num<0:=of_decide_eq_true h1
   refine zB (wP I ?_)
   refine Ei I I I I I (a:=[45]) (b:=decDigits q.num.natAbs) (by decide) (by omega) ?_
   exact wP I (Aa (An () tO ⟨by unfold itoa;rw[if_pos h1];rfl,I,I,tO⟩ [] I))
  ·have h1: ¬q.num<0:=of_decide_eq_false h1
   exact zI (An () tO ⟨by unfold itoa;rw[if_neg h1,show q.num.toNat=q.num.natAbs by omega];rfl,I,I,tO⟩ [] I)
 intro _ _
 refine zA (zA (zB (wP I (wP I (Aa (A8 ?_))))))
 try refine Az ?_
 refine AC (X:=Unit) (fun _=>[(5,str (itoa q.num)),(6,str (decDigits q.den))]) (fun _=>[]) (fun _=>True) ?_ ?_
 ·refine Aj I (fun h1=> ?_) (fun h1=> ?_)
  ·have h1:q.den=1:=Decidable.byContradiction fun h=>absurd h1 (by rw[dT h];decide)
   exact zB (wP I (Aa (An () tO ⟨I,by rw[h1,FF];rfl,tO⟩ [] I)))
  ·have h1:q.den≠1:=Decidable.byContradiction fun h=>absurd h1 (by rw[dF h];decide)
   exact zI (An () tO ⟨I,by rw[if_neg h1];rfl,tO⟩ [] I)
 intro _ _
 exact zA (zB (wP I (wP I (wP I (wP I (Aa (zE (zO (wR2 I I I)))))))))
-- BOXES 1
-- CODE2
def byV (l:List UInt8):List Value:=l.map fun b=> .int .u8 (b.toNat:Int)
def zrV (k:Nat):List Value:=BA [.int .u8 0] k
theorem KL (k:Nat):(zrV k).length=k:=by unfold zrV;rw[Ex];simp
theorem Ue (k:Nat):zrV (k+1)=zrV k++[.int .u8 0]:=by
 induction k with
 |zero=>rfl
 |succ k ih=>
  have e: ∀j,zrV (j+1)=[.int .u8 0]++zrV j:=fun j=>rfl
  rw[e,ih, ←List.append_assoc, ←e,ih]
theorem VI {k:Nat} {c:UInt8} {suf:List UInt8}:Bw (zrV (k+1)++byV suf) (0+k*1) [.int .u8 (c.toNat:Int)]=zrV k++byV (c::suf):=by
 rw[Ue,show 0+k*1=(zrV k).length+0 by rw[KL];omega,List.append_assoc,DV]
 rfl
theorem Wn {k:Nat} {l:List UInt8} {j:Nat} (hj:j<l.length):(zrV k++byV l)[k+j]? =some (.int .u8 (l[j].toNat:Int)):=by
 rw[List.getElem?_append_right (by rw[KL];omega),KL,Nat.add_sub_cancel_left]
 unfold byV
 rw[List.getElem?_map,List.getElem?_eq_getElem hj];rfl
theorem XH (u:Nat):IntKind.u8.wrap ((48+u%10:Nat):Int)=((UInt8.ofNat (48+u%10)).toNat:Int):=by
 rw[PU (by omega) (by omega),Da (Nat.mod_lt _ (by omega))]
-- BOXES 5
-- CODE2
abbrev cvV (p:Ar):Value:= .agg #[str (Ac p.1),str (Ac p.2)]
def Dc (W:World) (c:Nat):Prop:=W.heap[c]? =some (.cells #[.int .i64 0] 317 (0,0))
theorem Dc.hp {W0 W:World} {bxs:List Bx} {c:Nat} (h:Dc W0 c) (hp:Hp W0 bxs W):Dc W c:=
 (hp.below.block c (Array.getElem?_eq_some_iff.1 h).1).trans h
theorem Dc.row {W:World} {c:Nat} (h:Dc W c):Ai W c 0 [.int .i64 0]:=Ai.of_block h
theorem H5 (c g:Nat) (a b v:List UInt8) (W:World) (hc:Dc W c) (hE:AN Tryz.prog g=true) (hg: ∀W1,Below W.heap.size W W1→Ad Tryz.prog g #[str a,str b] W1 (fun _:Unit=> .tuple #[str v, .int .i64 0]) (fun _=>True) (fun _=>[])):
  Ad Tryz.prog 329 #[Af c, .func (.func g) #[] #[],str a,str b] W (fun _:Unit=>str v) (fun _=>True) (fun _=>[]):=by
 refine Ab (args:=[Af c, .func (.func g) #[] #[],str a,str b]) Tryz.func329 I I I ?_
 refine zA (zB (wP I (Aa (zE (zA (zA (zB (wP I ?_))))))))
 refine AK I I I I ?_
 refine wP I (wL 0 I I (fun W1 hp=>(hc.hp hp).row) I (wP I (Aa (zE (zS I (zI (zE (zA (zB (wP I (wP I (wP I ?_))))))))))))
 refine Bh (capt:=[]) I I I I I I hE (fun W1 h=>hg W1 h.below) ?_
 iterate 5 refine wP I ?_
 refine Aa (zE (zA (zA (zB (wP I (wP I ?_))))))
 refine AK I I I I ?_
 refine wP I ?_
 refine G3 (c:=[.int .i64 0]) (ty:=317) tH I I I I I I I I I I (fun W1 hp=>hc.hp hp) ?_
 refine Aa (zE (zA (zB (wP I (wP I (Aa (zE (zS I (zI (zE (zA (zB (wP I (wP I ?_))))))))))))))
 exact Aa (zE (zO (wR1 I I I)))
theorem EU (c:Nat) (p q:Rat) (hz:Sz2 p q) (W:World) (hc:Dc W c) (hv:AL W) (ht:AA W):
  Ad Tryz.prog 285 #[Af c,str (Ac p),str (Ac q)] W (fun _:Unit=>str (Ac (p+q))) (fun _=>True) (fun _=>[]):=by
 refine Ab (args:=[Af c,str (Ac p),str (Ac q)]) Tryz.func285 I I I ?_
 refine zA (zB (wP I (Aa (zE (zA (zB (wP I (wP I (wP I (wC I I (fun W hp=>H5 c 19 (Ac p) (Ac q) (Ac (p+q)) W (hc.hp hp) (by kernel_rfl) (fun W1 hb=>CN p q hz W1 ((hv.hp hp).below hb) ((ht.hp hp).below hb))) (wP I (Aa (zE ?_)))))))))))))
 exact zO (wR1 I I I)
theorem BR (c:Nat) (p q:Rat) (hz:Sz2 p q) (W:World) (hc:Dc W c) (hv:AL W) (ht:AA W):
  Ad Tryz.prog 283 #[Af c,str (Ac p),str (Ac q)] W (fun _:Unit=>str (Ac (p-q))) (fun _=>True) (fun _=>[]):=by
 refine Ab (args:=[Af c,str (Ac p),str (Ac q)]) Tryz.func283 I I I ?_
 refine zA (zB (wP I (Aa (zE (zA (zB (wP I (wP I (wP I (wC I I (fun W hp=>H5 c 21 (Ac p) (Ac q) (Ac (p-q)) W (hc.hp hp) (by kernel_rfl) (fun W1 hb=>CO p q hz W1 ((hv.hp hp).below hb) ((ht.hp hp).below hb))) (wP I (Aa (zE ?_)))))))))))))
 exact zO (wR1 I I I)
theorem Cm (c:Nat) (p q:Rat) (hz:Sz2 p q) (W:World) (hc:Dc W c) (hv:AL W) (ht:AA W):
  Ad Tryz.prog 286 #[Af c,str (Ac p),str (Ac q)] W (fun _:Unit=>str (Ac (p*q))) (fun _=>True) (fun _=>[]):=by
 refine Ab (args:=[Af c,str (Ac p),str (Ac q)]) Tryz.func286 I I I ?_
 refine zA (zB (wP I (Aa (zE (zA (zB (wP I (wP I (wP I (wC I I (fun W hp=>H5 c 18 (Ac p) (Ac q) (Ac (p*q)) W (hc.hp hp) (by kernel_rfl) (fun W1 hb=>C2 p q hz W1 ((hv.hp hp).below hb) ((ht.hp hp).below hb))) (wP I (Aa (zE ?_)))))))))))))
 exact zO (wR1 I I I)
theorem LK (c:Nat) (p q:Rat) (hz:Sz2 p q) (h0:q.num≠0) (W:World) (hc:Dc W c) (hv:AL W) (ht:AA W):
  Ad Tryz.prog 289 #[Af c,str (Ac p),str (Ac q)] W (fun _:Unit=>str (Ac (p/q))) (fun _=>True) (fun _=>[]):=by
 refine Ab (args:=[Af c,str (Ac p),str (Ac q)]) Tryz.func289 I I I ?_
 refine zA (zB (wP I (Aa (zE (zA (zB (wP I (wP I (wP I (wC I I (fun W hp=>H5 c 26 (Ac p) (Ac q) (Ac (p/q)) W (hc.hp hp) (by kernel_rfl) (fun W1 hb=>(KY p q hz W1 ((hv.hp hp).below hb) ((ht.hp hp).below hb)).cast (by rw[Ly,if_neg h0]))) (wP I (Aa (zE ?_)))))))))))))
 exact zO (wR1 I I I)
theorem DT (c:Nat) (p q:Rat) (hz:Sz2 p q) (W:World) (hc:Dc W c) (hv:AL W) (ht:AA W):
  Ad Tryz.prog 356 #[Af c,str (Ac p),str (Ac q)] W (fun _:Unit=> .int .i64 (Cw p q)) (fun _=>True) (fun _=>[]):=by
 refine Ab (args:=[Af c,str (Ac p),str (Ac q)]) Tryz.func356 I I I ?_
 refine zA (zB (wP I (Aa (zE (zA (zA (zB (wP I ?_))))))))
 refine AK I I I I ?_
 refine wP I (wL 0 I I (fun W1 hp=>(hc.hp hp).row) I (wP I (Aa (zE (zS I (zI (zE (zA (zB (wP I (wP I (wC I I (fun W hp=>(DM p q hz W (hv.hp hp) (ht.hp hp)).cast (v':= .tuple #[.int .i64 (Cw p q), .int .i64 0]) (by rw[JP])) ?_))))))))))))
 iterate 5 refine wP I ?_
 refine Aa (zE (zA (zB (wP I (wP I ?_)))))
 refine AK I I I I ?_
 refine wP I ?_
 refine G3 (c:=[.int .i64 0]) (ty:=317) tH I I I I I I I I I I (fun W1 hp=>hc.hp hp) ?_
 exact Aa (zE (zA (zB (wP I (wP I (Aa (zE (zO (wR1 I I I)))))))))
structure Xn (p q r:Ar):Prop where
 s1:Sz2 q.1 p.1
 s2:Sz2 r.2 p.2
 s3:Sz2 q.2 p.2
 s4:Sz2 r.1 p.1
 m1:Sz2 (q.1-p.1) (r.2-p.2)
 m2:Sz2 (q.2-p.2) (r.1-p.1)
 o:Sz2 ((q.1-p.1)*(r.2-p.2)) ((q.2-p.2)*(r.1-p.1))
def Rr (p q r:Ar):Int:=Cw ((q.1-p.1)*(r.2-p.2)) ((q.2-p.2)*(r.1-p.1))
theorem QV (c:Nat) (p q r:Ar) (hz:Xn p q r) (W:World) (hc:Dc W c) (hv:AL W) (ht:AA W):
  Ad Tryz.prog 325 #[Af c,cvV p,cvV q,cvV r] W (fun _:Unit=> .int .i64 (Rr p q r)) (fun _=>True) (fun _=>[]):=by
 refine Ab (args:=[Af c,cvV p,cvV q,cvV r]) Tryz.func325 I I I ?_
 refine zA (zB ?_)
 (refine Ak rfl rfl rfl rfl ?_;intro)
 (refine Ak rfl rfl rfl rfl ?_;intro)
 (refine Ak rfl rfl rfl rfl ?_;intro)
 refine wP I (Aa (zE (zA (zU (qP I (qP I (qB 1 I I I (qP I (qB 0 I I I (qC I I (fun W hp=>BR c q.1 p.1 hz.s1 W (hc.hp hp) (hv.hp hp) (ht.hp hp)) (qP I (qP I (qB 2 I I I ?_)))))))))))))
 refine qP I (qB 0 I I I (qC I I (fun W hp=>BR c r.2 p.2 hz.s2 W (hc.hp hp) (hv.hp hp) (ht.hp hp)) (qP I (qP I (AB (Aa (zE (zA (zU (qP I (qP I (qB 1 I I I (qP I ?_)))))))))))))
 refine qB 0 I I I (qC I I (fun W hp=>BR c q.2 p.2 hz.s3 W (hc.hp hp) (hv.hp hp) (ht.hp hp)) (qP I (qP I (qB 2 I I I (qP I (qB 0 I I I (qC I I (fun W hp=>BR c r.1 p.1 hz.s4 W (hc.hp hp) (hv.hp hp) (ht.hp hp)) (qP I (qP I (AB (Aa (zE (zA ?_)))))))))))))
 refine zB (wP I (wP I (wP I (wP I (wC I I (fun W hp=>Cm c (q.1-p.1) (r.2-p.2) hz.m1 W (hc.hp hp) (hv.hp hp) (ht.hp hp)) (wP I (wP I (wP I (wC I I (fun W hp=>Cm c (q.2-p.2) (r.1-p.1) hz.m2 W (hc.hp hp) (hv.hp hp) (ht.hp hp)) (wC I I (fun W hp=>DT c _ _ hz.o W (hc.hp hp) (hv.hp hp) (ht.hp hp)) (wP I (Aa (zE ?_)))))))))))))
 exact zO (wR1 I I I)
def Jv (p q:Ar):Int:=if Cw p.1 q.1=0 then Cw p.2 q.2 else Cw p.1 q.1
theorem Gr (p q:Rat):Cw p q= -1∨Cw p q=0∨Cw p q=1:=by
 unfold Cw
 split
 ·exact Or.inl I
 ·split
  ·exact Or.inr (Or.inl I)
  ·exact Or.inr (Or.inr I)
theorem Qf (c:Nat) (p q:Ar) (h1:Sz2 p.1 q.1) (h2:Sz2 p.2 q.2) (W:World) (hc:Dc W c) (hv:AL W) (ht:AA W):
  Ad Tryz.prog 323 #[Af c,cvV p,cvV q] W (fun _:Unit=> .int .i64 (Jv p q)) (fun _=>True) (fun _=>[]):=by
 refine Ab (args:=[Af c,cvV p,cvV q]) Tryz.func323 I I I ?_
 refine zA (zB ?_)
 (refine Ak rfl rfl rfl rfl ?_;intro)
 (refine Ak rfl rfl rfl rfl ?_;intro)
 refine wP I (Aa (zE (zA (zA (zB (wP I (wP I (wB 0 I I I (wP I (wB 1 I I I ?_))))))))))
 rcases Gr p.1 q.1 with e|e|e
 ·refine wC I I (fun W hp=>(DT c p.1 q.1 h1 W (hc.hp hp) (hv.hp hp) (ht.hp hp)).cast (congrArg (Value.int .i64) e)) (wP I (Aa (zE (zA (zB (wP I (wP I (Aa (zE (zR I (zA (zB (wP I (wP I ?_))))))))))))))
  exact Aa (zE (zO (zP (wR1 I I (by rw[Jv,e,if_neg (by decide)])))))
 ·refine wC I I (fun W hp=>(DT c p.1 q.1 h1 W (hc.hp hp) (hv.hp hp) (ht.hp hp)).cast (congrArg (Value.int .i64) e)) (wP I (Aa (zE (zA (zB (wP I (wP I (Aa (zE (zS I (zI (zE (zA ?_)))))))))))))
  exact zB (wP I (wP I (wB 0 I I I (wP I (wB 1 I I I (wC I I (fun W hp=>DT c p.2 q.2 h2 W (hc.hp hp) (hv.hp hp) (ht.hp hp)) (wP I (Aa (zE (zO (wR1 I I (by rw[Jv,if_pos e]))))))))))))
 ·refine wC I I (fun W hp=>(DT c p.1 q.1 h1 W (hc.hp hp) (hv.hp hp) (ht.hp hp)).cast (congrArg (Value.int .i64) e)) (wP I (Aa (zE (zA (zB (wP I (wP I (Aa (zE (zR I (zA (zB (wP I (wP I ?_))))))))))))))
  exact Aa (zE (zO (zP (wR1 I I (by rw[Jv,e,if_neg (by decide)])))))
def FX (q:Rat):Int:=if q.num=0 then 0 else if q.num<0 then -1 else 1
theorem Hg (q:Rat):AY Tryz.prog 332 [str (Ac q)] (.int .i64 (FX q)):=by
 intro W
 refine Ab Tryz.func332 I I I ?_
 refine zA (zB (wP I (Aa (zE (zA (zH (zA (zB (wP I (wP I (wU 5 (decide (Ac q=[48])) I (Bd _ _) (wP I (Aa ?_)))))))))))))
 refine zE ?_
 refine Aj I (fun h=> ?_) (fun h=> ?_)
 ·have h:q.num=0:=Iv.1 (of_decide_eq_true h)
  exact zA (zB (wP I (Aa (zE (zO (zQ (zP (wR1 I I (by rw[FX,if_pos h])))))))))
 have h: ¬q.num=0:=fun e=>of_decide_eq_false h (Iv.2 e)
 have hpre:=(Sh (z:=q.num) q.den_pos).1
 rw[Bj] at hpre
 obtain⟨c,hc⟩: ∃c,(Ac q)[0]? =some c:=by
  cases e:Ac q with
  |nil=>
   have:=congrArg List.length e
   unfold Ac Gg at this
   have h2:itoa q.num≠[]:=by unfold itoa;split;simp;exact Gj _
   split at this
   ·exact absurd (List.length_eq_zero_iff.1 this) h2
   ·rw[List.length_append] at this;simp at this
  |cons c t=>exact⟨c,rfl⟩
 have hc45:decide (c=45)=decide (q.num<0):=by
  rw[←hpre]
  show _=decide ((Ac q)[0]? =some 45)
  exact decide_eq_decide.2 (by rw[hc];simp)
 refine zA (zB (wP I ?_))
 refine Bi 0 tH I I I I I I I I hc ?_
 refine wP I (wU 9 (decide (q.num<0)) I ((Fv c 45).trans hc45) (wP I (Aa (zE ?_))))
 refine Aj I (fun hn=> ?_) (fun hn=> ?_)
 ·have hn:q.num<0:=of_decide_eq_true hn
  exact zA (zB (wP I (Aa (zE (zO (zQ (zP (wR1 I I (by rw[FX,if_neg h,if_pos hn])))))))))
 ·have hn: ¬q.num<0:=of_decide_eq_false hn
  exact zI (zN (zE (zA (zB (wP I (Aa (zE (zO (wR1 I I (by rw[FX,if_neg h,if_neg hn]))))))))))
-- BOXES 4
-- CODE2
abbrev br:Nat:=1000000
theorem br2:2≤br:=by decide
theorem DD {g cap:Nat} {junk:List Value} {l:List Nat} (h:(⟨some g,cap,junk⟩:Vec).OK 1 l.length (nI l)) (hl: ∀x∈l,x<br):
  ∃junk',(⟨some g,cap,junk'⟩:Vec).OK 1 (lbs br (lv br l)).length (nI (lbs br (lv br l)))∧nI l++junk=nI (lbs br (lv br l))++junk':=by
 obtain⟨h1,h2,h3⟩:=h.cap (by simp)
 have e:=LC br2 hl
 have hlen:=(B9 br2).2 (EY br2 hl)
 have e2:nI l=nI (lbs br (lv br l))++nI (l.drop (lbs br (lv br l)).length):=by
  conv=>lhs;rw[←List.take_append_drop (lbs br (lv br l)).length l]
  rw[Iy, ←e]
 have h3':(nI l).length+junk.length=cap*1:=h3
 have h2':cap≤maxLen:=h2
 refine⟨nI (l.drop (lbs br (lv br l)).length)++junk,⟨En _,(fun h=>by cases h),fun _=>⟨by show _≤cap;rw[Bv] at h3';omega,h2', ?_⟩⟩, ?_⟩
 ·show(nI (lbs br (lv br l))).length+(nI (l.drop (lbs br (lv br l)).length)++junk).length=cap*1
  rw[List.length_append,Bv,Bv,List.length_drop]
  rw[Bv] at h3';omega
 ·rw[←List.append_assoc, ←e2]
theorem CP (W:World) (p:Option Addr) (cap n:Nat) (l:List Nat) (i x:Nat) (h:A4 W p l) (hn:l.length=n) (hi:i<4611686018427387904) (hx:lim l i=x):Ad Tryz.prog 242 #[slv p n cap, .int .i64 (i:Nat)] W (fun _:Unit=> .int .i64 (x:Nat)) (fun _=>True) (fun _=>[]):=by
 subst hn hx
 refine Ab (args:=[slv p l.length cap, .int .i64 (i:Nat)]) Tryz.func242 I I I ?_
 refine zA (zB (wP I (Aa (zE (zA (zA (zB (wP I (wP I (wP I (wP I (Aa (zE ?_)))))))))))))
 refine Aj I (fun hc=> ?_) (fun hc=> ?_)
 ·have hl:i<l.length:=by simp at hc;omega
  obtain⟨b,off,rfl,hrow⟩:=h.row hl
  refine zA (zB (wP I (wP I ?_)))
  refine wJ ?_
  exact wL 0 I I (fun W hp=>(hrow i hl).hp hp) I (wP I (Aa (zE (zO (zP (wR1 I I I))))))
 ·have hl:l.length≤i:=by simp at hc;omega
  exact zI (zE (zA (zB (wP I (Aa (zE (zO (wR1 I I (by rw[QI hl];rfl)))))))))
theorem Cz (W:World) (p:Option Addr) (cap:Nat) (l:List Nat) (h:A4 W p l) (hl: ∀x∈l,x<br) (hc:l.length≤cap) (hn:l.length<4611686018427387904):
  Ad Tryz.prog 185 #[slv p l.length cap] W (fun _:Unit=>slv p (lbs br (lv br l)).length cap) (fun _=>True) (fun _=>[]):=by
 refine Ab (args:=[slv p l.length cap]) Tryz.func185 I I I ?_
 refine zA (zB (wP I (Aa (zE (zA (zB (wP I (wP I (wP I (Aa (zE (zA (zH ?_)))))))))))))
 refine Aw (X:=Nat) (fun k=>[(0,slv p l.length cap),(3, .int .i64 (k:Nat))]) (fun _=>[]) (fun k=>k≤l.length∧ ∀i,k≤i→i<l.length→l[i]? =some 0) (fun k=>k) l.length ⟨Nat.le_refl _,fun i h1 h2=>by omega⟩ ⟨I,I,tO⟩ [] I ?_
 rintro k ⟨hk,hz⟩
 have hk:k≤l.length:=hk
 have hend:(k=0∨l[k-1]? ≠some 0)→(lbs br (lv br l)).length=k:=fun h0=>by
  rw[←Qj br2 hk hl hz h0,List.length_take];omega
 by_cases h0:k=0
 ·subst h0
  refine zA (zA (zB (wP I (wP I ?_))))
  refine Ao 7 (.bool false) I I ?_
  refine wP I ?_
  iterate 6 refine Ah I I ?_
  refine wP I (Aa (zE (zS I (zJ (zK (zK (zL (zE (zA (zB (wP I (wP I ?_))))))))))))
  refine Bm 0 tH I I I I I I I I (by omega) ?_
  exact wP I (Aa (zE (zO (wR1 I I (by rw[hend (.inl I)])))))
 ·refine zA (zA (zB (wP I (wP I (wU 7 true I (by simp;omega) ?_)))))
  obtain⟨b,off,rfl,hrow⟩:=h.row (show k-1<l.length by omega)
  refine wP I (wP I (wP I (wP I (wV 11 ((k-1:Nat):Int) I (by show w64 ((k:Int)-1)=_;rw[Ap (by omega) (by omega)];omega) ?_))))
  refine wJ ?_
  refine wL 0 I I (fun W hp=>(hrow (k-1) (by omega)).hp hp) I (wP I (wP I (Aa (zE ?_))))
  have e1:((lim l (k-1):Int)==0)=decide (l[k-1]? =some 0):=by
   rw[Df (show k-1<l.length by omega),QE]
   simp
  refine Aj I (fun hc=> ?_) (fun hc=> ?_)
  ·have hz0:l[k-1]? =some 0:=by simpa[e1] using hc
   refine zI (zE (zH (zB (wP I (wP I (wV 17 ((k-1:Nat):Int) I (by show w64 ((k:Int)-1)=_;rw[Ap (by omega) (by omega)];omega) (wP I (Aa (zN ?_)))))))))
   refine Al (k-1) ⟨by show k-1≤_;omega,fun i h1 h2=> ?_⟩ (by show k-1<k;omega) ⟨I,I,tO⟩ [] I
   by_cases hi:i=k-1
   ·rw[hi];exact hz0
   ·exact hz i (by have h1:k-1≤i:=h1;omega) h2
  ·have hz0:l[k-1]? ≠some 0:=by simpa[e1] using hc
   refine zJ (zK (zK (zL (zE (zA (zB (wP I (wP I ?_))))))))
   refine Bm k tH I I I I I I I I (by omega) ?_
   exact wP I (Aa (zE (zO (wR1 I I (by rw[hend (.inr hz0)])))))
theorem Mc {a b:Nat} (h:(lbs br a).length<(lbs br b).length):a<b:=by
 rcases Nat.lt_or_ge a b with h1|h1
 ·exact h1
 ·have:=(B9 br2 (n:=b)).2 (Nat.lt_of_le_of_lt h1 (AF br2 a))
  omega
theorem XD {B:Nat} (_hB:2≤B) {a b:Nat} {k:Nat} (h:a/B^(k+1)=b/B^(k+1)):(a/B^k<b/B^k↔a/B^k%B<b/B^k%B)∧(a/B^k=b/B^k↔a/B^k%B=b/B^k%B):=by
 have h1:=Nat.mod_add_div (a/B^k) B
 have h2:=Nat.mod_add_div (b/B^k) B
 rw[Nat.div_div_eq_div_mul,show B^k*B=B^(k+1) from(Nat.pow_succ ..).symm] at h1 h2
 rw[h] at h1
 constructor<;>constructor<;>intro<;>omega
theorem N0 {a b c:Nat} (h:a/c<b/c):a<b:=by
 rcases Nat.lt_or_ge a b with h1|h1
 ·exact h1
 ·exact absurd (Nat.div_le_div_right (c:=c) h1) (by omega)
def Lu (a b:Nat):Int:=if a<b then -1 else if b<a then 1 else 0
theorem Kn (W:World) (p q:Option Addr) (cap cap2:Nat) (a b:Nat) (hA:A4 W p (lbs br a)) (hB:A4 W q (lbs br b)) (hna:(lbs br a).length≤1000000) (_hnb:(lbs br b).length≤1000000):
  Ad Tryz.prog 183 #[slv p (lbs br a).length cap,slv q (lbs br b).length cap2] W (fun _:Unit=> .int .i64 (Lu a b)) (fun _=>True) (fun _=>[]):=by
 have hal:=AF br2 a
 have hbl:=AF br2 b
 refine Ab (args:=[slv p (lbs br a).length cap,slv q (lbs br b).length cap2]) Tryz.func183 I I I ?_
 refine zA (zB (wP I (Aa (zE (zA (zA (zB ?_)))))))
 iterate 5 refine wP I ?_
 by_cases hl:(lbs br a).length=(lbs br b).length
 rotate_left
 ·refine wU 10 true I (bne_iff_ne.2 (by omega)) (Aa (zE (zR I (zA (zA (zB ?_))))))
  iterate 5 refine wP I ?_
  by_cases h:(lbs br a).length<(lbs br b).length
  ·have hlt:=Mc h
   exact wU 15 true I (dT (by omega)) (Aa (zE (zR I (zA (zB (wP I (Aa (zE (zO (zP (zP (wR1 I I (by unfold Lu;rw[if_pos hlt])))))))))))))
  ·have hlt:=Mc (a:=b) (b:=a) (by omega)
   exact wU 15 false I (dF (by omega)) (Aa (zE (zS I (zI (zE (zA (zB (wP I (Aa (zE (zO (zP (wR1 I I (by unfold Lu;rw[if_neg (by omega),if_pos hlt]))))))))))))))
 obtain⟨K,hK⟩: ∃K,(lbs br b).length=K:=⟨_,rfl⟩
 rw[hl,hK] at hal
 rw[hK] at hbl hl
 rw[hl,hK]
 refine wU 10 false I (by simp) (Aa (zE (zS I (zI (zE (zA (zA (zB (wP I (wP I (wP I (wV 18 ((K:Int)-1) I (Ap (by omega) (by omega)) (wP I ?_)))))))))))))
 refine Aa (zE (zH ?_))
 refine Aw (X:=Nat) (fun k=>[(0,slv p K cap),(1,slv q K cap2),(5, .int .i64 ((k:Nat)-1:Int))]) (fun _=>[]) (fun k=>k≤K∧a/br^k=b/br^k) (fun k=>k) K ⟨Nat.le_refl _,by rw[Nat.div_eq_of_lt hal,Nat.div_eq_of_lt hbl]⟩ ⟨I,I,I,tO⟩ [] I ?_
 rintro k ⟨hk,hq⟩
 have hk:k≤K:=hk
 refine zA (zA (zB (wP I (wP I ?_))))
 cases k with
 |zero=>
  have e:a=b:=by have hq:a/br^0=b/br^0:=hq;simpa using hq
  refine wU 20 false I (dF (by show¬(((0:Nat):Int)-1≥0);omega)) (Aa (zE (zS I (zJ (zK (zK (zL (zE (zA (zB (wP I (Aa (zE ?_)))))))))))))
  exact zO (wR1 I I (by unfold Lu;rw[e,if_neg (Nat.lt_irrefl _),if_neg (Nat.lt_irrefl _)]))
 |succ k=>
  have hq:a/br^(k+1)=b/br^(k+1):=hq
  obtain⟨h1,h2⟩:=XD br2 hq
  obtain⟨b1,o1,rfl,r1⟩:=hA.row (show k<(lbs br a).length by omega)
  obtain⟨b2,o2,rfl,r2⟩:=hB.row (show k<(lbs br b).length by omega)
  have r1:=r1 k (by omega)
  have r2:=r2 k (by omega)
  obtain⟨x,hx⟩: ∃x,lim (lbs br a) k=x:=⟨_,rfl⟩
  obtain⟨y,hy⟩: ∃y,lim (lbs br b) k=y:=⟨_,rfl⟩
  rw[hx] at r1
  rw[hy] at r2
  rw[AZ br2] at hx hy
  rw[hx,hy] at h1 h2
  have hxb:x<br:=by rw[←hx];exact Nat.mod_lt _ (by decide)
  have hyb:y<br:=by rw[←hy];exact Nat.mod_lt _ (by decide)
  have hxb:x<1000000:=hxb
  have hyb:y<1000000:=hyb
  refine wU 20 true I (dT (by show(((k+1:Nat):Int)-1≥0);omega)) (Aa (zE (zR I (zI (zE (zA (zH (zA (zA (zU (qP I (qP I (qV 24 (k:Nat) I (by show((k+1:Nat):Int)-1=_;omega) ?_)))))))))))))
  refine qJ ?_
  refine qL 0 I I (fun W hp=>r1.hp hp) I (qP I (qP I (qV 28 (k:Nat) I (by show((k+1:Nat):Int)-1=_;omega) ?_)))
  refine qJ ?_
  refine qL 0 I I (fun W hp=>r2.hp hp) I (qP I ?_)
  by_cases hlt:x<y
  ·have:=N0 (h1.2 hlt)
   refine qU 31 true I (dT (by omega)) (AB (Aa (zE (zR I (zA (zB (wP I (Aa (zE (zO (zP (zQ (zP (zP ?_))))))))))))))
   exact zQ (zP (wR1 I I (by unfold Lu;rw[if_pos this])))
  refine qU 31 false I (dF (by omega)) (AB (Aa (zE (zS I (zI (zE (zA (zU (qP I (qP I (qV 33 (k:Nat) I (by show((k+1:Nat):Int)-1=_;omega) ?_)))))))))))
  refine qJ ?_
  refine qL 0 I I (fun W hp=>r1.hp hp) I (qP I (qP I (qV 37 (k:Nat) I (by show((k+1:Nat):Int)-1=_;omega) ?_)))
  refine qJ ?_
  refine qL 0 I I (fun W hp=>r2.hp hp) I (qP I ?_)
  by_cases hgt:y<x
  ·have h3: ¬a/br^k<b/br^k:=fun h=>hlt (h1.1 h)
   have h4: ¬a/br^k=b/br^k:=fun h=>by have:=h2.1 h;omega
   have:=N0 (a:=b) (b:=a) (c:=br^k) (by omega)
   refine qU 40 true I (dT (by show((x:Nat):Int)>(y:Nat);omega)) (AB (Aa (zE (zR I (zA (zB (wP I (Aa (zE (zO (zQ (zP (zP ?_)))))))))))))
   exact zQ (zP (wR1 I I (by unfold Lu;rw[if_neg (by omega),if_pos this])))
  refine qU 40 false I (dF (by show¬((x:Nat):Int)>(y:Nat);omega)) (AB (Aa (zE (zS I (zI (zN (zE (zB (wP I (wV 21 (k:Nat) I (by show((k+1:Nat):Int)-1=_;omega) (wP I (wV 22 ((k:Nat)-1:Int) I (Ap (by omega) (by omega)) (wP I ?_)))))))))))))
  exact Aa (Al k ⟨by show k≤K;omega,h2.2 (by omega)⟩ (by show k<k+1;omega) ⟨I,I,I,tO⟩ [] I)
def FL (a b:List Nat):Nat→List Nat×Nat
 |0=>([],0)
 |i+1=>((FL a b i).1++[(lim a i+lim b i+(FL a b i).2)%br],(lim a i+lim b i+(FL a b i).2)/br)
theorem LY (a b:List Nat): ∀i,(FL a b i).1.length=i
 |0=>rfl
 |i+1=>by show(_++[_]).length=_;rw[List.length_append,LY a b i];rfl
theorem SM {a b:List Nat} (ha: ∀x∈a,x<br) (hb: ∀x∈b,x<br): ∀i,(∀x∈(FL a b i).1,x<br)∧(FL a b i).2≤1
 |0=>⟨fun x h=>(by cases h),Nat.zero_le _⟩
 |i+1=>by
  obtain⟨h1,h2⟩:=SM ha hb i
  have l1:lim a i<1000000:=AW br2 ha i
  have l2:lim b i<1000000:=AW br2 hb i
  refine⟨fun x hx=> ?_, ?_⟩
  ·rcases List.mem_append.1 hx with hx|hx
   ·exact h1 x hx
   ·obtain rfl:=List.mem_singleton.1 hx;exact Nat.mod_lt _ (by decide)
  ·show _/1000000≤1;omega
theorem Ms (a b:Nat): ∀i,lv br (FL (lbs br a) (lbs br b) i).1+br^i*(FL (lbs br a) (lbs br b) i).2=a%br^i+b%br^i
 |0=>by show 0+br^0*0=_;rw[Nat.pow_zero,Nat.mod_one,Nat.mod_one]
 |i+1=>N2 (LY _ _ i) (Ms a b i) (by rw[AZ br2,AZ br2])
theorem Qo (W:World) (p q:Option Addr) (cap cap2:Nat) (a b:Nat) (hA:A4 W p (lbs br a)) (hB:A4 W q (lbs br b)) (hna:(lbs br a).length≤1000000) (hnb:(lbs br b).length≤1000000):
  Ad Tryz.prog 182 #[slv p (lbs br a).length cap,slv q (lbs br b).length cap2] W (fun x:NV=>B2 x (lbs br (a+b)).length) (fun x=>BW x (lbs br (a+b))) (fun x=>[B3 x (lbs br (a+b))]):=by
 have hla:=Bf br2 a
 have hlb:=Bf br2 b
 have hal:=AF br2 a
 have hbl:=AF br2 b
 obtain⟨na,hna'⟩: ∃n,(lbs br a).length=n:=⟨_,rfl⟩
 obtain⟨nb,hnb'⟩: ∃n,(lbs br b).length=n:=⟨_,rfl⟩
 rw[hna'] at hna hal
 rw[hnb'] at hnb hbl
 obtain⟨M,hM⟩: ∃M,M=max na nb:=⟨_,rfl⟩
 have ham:a<br^M:=Nat.lt_of_lt_of_le hal (Nat.pow_le_pow_right (by decide) (by omega))
 have hbm:b<br^M:=Nat.lt_of_lt_of_le hbl (Nat.pow_le_pow_right (by decide) (by omega))
 refine Ab (args:=[slv p (lbs br a).length cap,slv q (lbs br b).length cap2]) Tryz.func182 I I I ?_
 rw[hna',hnb']
 refine zA (zB (wP I (Aa (zE (zA (zB ?_))))))
 refine Em tH I I I I I ?_
 intro g
 refine wP I (Aa (zE (zA (zB (wP I (Aa (zE (zA (zA (zB (wP I (Aa (zE ?_)))))))))))))
 refine zH ?_
 refine Aw (X:=Nat×NV) (fun x=>[(0,slv p na cap),(1,slv q nb cap2),(5,B2 x.2 x.1),(6, .int .i64 ((FL (lbs br a) (lbs br b) x.1).2:Nat)),(7, .int .i64 (x.1:Nat))]) (fun x=>[B3 x.2 (FL (lbs br a) (lbs br b) x.1).1])
  (fun x=>x.1≤M+1∧BW x.2 (FL (lbs br a) (lbs br b) x.1).1∧(x.1=M+1→(FL (lbs br a) (lbs br b) (M+1)).2=0)) (fun x=>M+1-x.1) (0,g,0,[]) ⟨Nat.zero_le _,⟨rfl,(fun h=>by cases h),fun _=>⟨Nat.le_refl _,Nat.zero_le _,rfl⟩⟩,fun h=>by have h:0=M+1:=h;omega⟩ ⟨rfl,rfl,rfl,rfl,rfl,trivial⟩ [] rfl ?_
 rintro⟨i,x⟩ ⟨hi,hx,hend⟩
 have hi:i≤M+1:=hi
 have hx:BW x (FL (lbs br a) (lbs br b) i).1:=hx
 have hlen:=LY (lbs br a) (lbs br b) i
 obtain⟨hob,hc1⟩:=SM hla hlb i
 have hval:=Ms a b i
 obtain⟨out,hout⟩: ∃out,(FL (lbs br a) (lbs br b) i).1=out:=⟨_,rfl⟩
 obtain⟨c,hc⟩: ∃c,(FL (lbs br a) (lbs br b) i).2=c:=⟨_,rfl⟩
 rw[hout] at hx hlen hob hval
 rw[hc] at hc1 hval
 have eout:B3 x (FL (lbs br a) (lbs br b) i).1=B3 x out:=by rw[hout]
 simp only[hc,hout]
 refine Az (Az ?_)
 refine AC (X:=Unit) (fun _=>[(0,slv p na cap),(1,slv q nb cap2),(5,B2 x i),(6, .int .i64 (c:Nat)),(7, .int .i64 (i:Nat)),(23, .bool (decide (i<na∨i<nb∨0<c)))]) (fun _=>[B3 x out]) (fun _=>True) ?_ ?_
 ·refine zB (wP I (wP I (wP I (wP I ?_))))
  by_cases h1:i<na
  ·refine wU 13 true I (dT (by omega)) (wP I ?_)
   iterate 4 refine Ah I I ?_
   refine wP I (wP I ?_)
   iterate 2 refine Ah I I ?_
   exact wP I (Aa (An () tO ⟨I,I,I,I,I,by rw[dT (Or.inl h1)];rfl,tO⟩ [] I))
  refine wU 13 false I (dF (by omega)) ?_
  iterate 5 refine wP I ?_
  by_cases h2:i<nb
  ·refine wU 18 true I (dT (by omega)) (wP I (wP I ?_))
   iterate 2 refine Ah I I ?_
   exact wP I (Aa (An () tO ⟨I,I,I,I,I,by rw[dT (Or.inr (Or.inl h2))];rfl,tO⟩ [] I))
  exact wU 18 false I (dF (by omega)) (wP I (wP I (wP I (wP I (wU 22 (decide (i<na∨i<nb∨0<c)) I (decide_eq_decide.2 (by omega)) (wP I (Aa (An () tO ⟨I,I,I,I,I,I,tO⟩ [] I))))))))
 intro _ _
 refine Aj I (fun hcd=> ?_) (fun hcd=> ?_)
 ·have hcd:i<na∨i<nb∨0<c:=of_decide_eq_true hcd
  have hiM:i≤M:=by
   rcases Nat.lt_or_ge M i with h|h
   ·have h1:i=M+1:=by omega
    have h2:=hend h1
    rw[←h1,hc] at h2
    omega
   ·exact h
  obtain⟨u,hu⟩: ∃u,lim (lbs br a) i=u:=⟨_,rfl⟩
  obtain⟨v,hv⟩: ∃v,lim (lbs br b) i=v:=⟨_,rfl⟩
  have hub:u<1000000:=by rw[←hu];exact AW br2 hla i
  have hvb:v<1000000:=by rw[←hv];exact AW br2 hlb i
  have e1:(FL (lbs br a) (lbs br b) (i+1)).1=out++[(u+v+c)%br]:=by show _++[_]=_;rw[hout,hu,hv,hc]
  have e2:(FL (lbs br a) (lbs br b) (i+1)).2=(u+v+c)/br:=by show _/_=_;rw[hu,hv,hc]
  refine zI (zE (zA (zH (zA (zB (wP I (wP I (wC I I (fun W' hp=>CP W' p cap na (lbs br a) i u (hA.hp hp) hna' (by omega) hu) (wP I (wP I (wC I I (fun W' hp=>CP W' q cap2 nb (lbs br b) i v (hB.hp hp) hnb' (by omega) hv) (wP I (wP I (wP I ?_))))))))))))))
  refine wV 34 ((u+v+c:Nat):Int) I (by show w64 (w64 ((u:Int)+v)+c)=_;rw[AO (by omega),AO (by omega)]) (wP I (Aa (zE (zA (zB (wP I (wP I ?_)))))))
  refine Gq I I I I I (by decide) ?_
  refine At Tryz.hZ tH I I I I I I I I I I I fun bN=> ?_
  refine AH (V:=nvV x) (len:=i) (xs:=nI out) 0 1 Tryz.vec162 (i+1) (nI (out++[(u+v+c)%br])) I I I I I I I I I I I (by rw[←hlen];exact hx) I I I (by rw[Iy];rfl) (by simp only[maxLen];omega) (by omega) I ?_
  intro g1 c1 j1 hV1
  refine wP I (Aa (zE (zB (wP I ?_))))
  refine EV I I I I I (by decide) ?_
  refine wV 41 (((u+v+c)/br:Nat):Int) I (BB (show(u+v+c)/1000000<9223372036854775808 by omega)) (wP I (Aa (zN (zE (zB (wP I (wP I (wV 25 ((i+1:Nat):Int) I (Ax (by omega)) (wP I (Aa ?_))))))))))
  refine Al (i+1,g1,c1,j1) ⟨by show i+1≤M+1;omega, ?_,fun h=> ?_⟩ (by show M+1-(i+1)<M+1-i;omega) ⟨I,I,I,by rw[e2];rfl,I,tO⟩ _ (by show _=[B3 _ (FL _ _ (i+1)).1]++_;rw[e1];rfl)
  ·show BW _ (FL (lbs br a) (lbs br b) (i+1)).1
   rw[e1]
   show Vec.OK _ 1 (out++[_]).length _
   rw[List.length_append,hlen]
   exact hV1
  ·have h:i+1=M+1:=h
   have h9:=Ms a b (M+1)
   have hp1:br^(M+1)=br^M*br:=Nat.pow_succ ..
   have hp2:br^M*2≤br^M*br:=Nat.mul_le_mul_left _ br2
   rw[Nat.mod_eq_of_lt (by omega),Nat.mod_eq_of_lt (by omega)] at h9
   rcases Nat.eq_zero_or_pos (FL (lbs br a) (lbs br b) (M+1)).2 with h0|h0
   ·exact h0
   ·have:=Nat.mul_le_mul_left (br^(M+1)) h0
    omega
 ·have hcd: ¬(i<na∨i<nb∨0<c):=of_decide_eq_false hcd
  have ev:lv br out=a+b:=by
   have hc0:c=0:=by omega
   rw[hc0,Nat.mul_zero,Nat.add_zero] at hval
   have h3:br^M≤br^i:=Nat.pow_le_pow_right (by decide) (by omega)
   rw[Nat.mod_eq_of_lt (by omega),Nat.mod_eq_of_lt (by omega)] at hval
   exact hval
  obtain⟨j2,hj1,hj2⟩:=DD hx hob
  rw[ev] at hj1 hj2
  refine zJ (zK (zK (zL (zE (zA (zB (wP I ?_)))))))
  refine Ao 42 (slv (some ⟨x.1,0,none⟩) out.length x.2.1) I (by rw[hlen]) ?_
  exact wC I I (fun W' hp=>Cz W' (some ⟨x.1,0,none⟩) x.2.1 out (A4.of_bx hp 0 I) hob (by have:=(hx.cap (by simp)).1;exact this) (by omega)) (wP I (Aa (zE (zO (Ay tH I (.tmp I) ((x.1,x.2.1,j2):NV) (by rw[ev]) hj1 fun W hp=>As.of_hp1 hp 0 (by show some (⟨x.1,3,nI out++x.2.2,true,none⟩:Bx)=some ⟨x.1,3,nI (lbs br (a+b))++j2,true,none⟩;rw[hj2]))))))
-- BOXES 4
-- CODE2
def Hw (x y c:Nat):Nat×Nat:=if y+c≤x then(x-y-c,0) else(x+br-y-c,1)
theorem SL {x y c:Nat} (hx:x<br) (hy:y<br) (hc:c≤1):(Hw x y c).1<br∧(Hw x y c).2≤1∧(Hw x y c).1+y+c=x+br*(Hw x y c).2:=by
 have hx:x<1000000:=hx
 have hy:y<1000000:=hy
 unfold Hw
 split
 ·exact⟨by show x-y-c<1000000;omega,Nat.zero_le _,by show x-y-c+y+c=x+1000000*0;omega⟩
 ·exact⟨by show x+1000000-y-c<1000000;omega,Nat.le_refl _,by show x+1000000-y-c+y+c=x+1000000*1;omega⟩
def GJ (a b:List Nat):Nat→List Nat×Nat
 |0=>([],0)
 |i+1=>((GJ a b i).1++[(Hw (lim a i) (lim b i) (GJ a b i).2).1],(Hw (lim a i) (lim b i) (GJ a b i).2).2)
theorem Lt (a b:List Nat): ∀i,(GJ a b i).1.length=i
 |0=>rfl
 |i+1=>by show(_++[_]).length=_;rw[List.length_append,Lt a b i];rfl
theorem NH {a b:List Nat} (ha: ∀x∈a,x<br) (hb: ∀x∈b,x<br): ∀i,(∀x∈(GJ a b i).1,x<br)∧(GJ a b i).2≤1
 |0=>⟨fun x h=>(by cases h),Nat.zero_le _⟩
 |i+1=>by
  obtain⟨h1,h2⟩:=NH ha hb i
  obtain⟨h3,h4,_⟩:=SL (AW br2 ha i) (AW br2 hb i) h2
  refine⟨fun x hx=> ?_,h4⟩
  rcases List.mem_append.1 hx with hx|hx
  ·exact h1 x hx
  ·obtain rfl:=List.mem_singleton.1 hx;exact h3
theorem Qw (a b:Nat): ∀i,lv br (GJ (lbs br a) (lbs br b) i).1+b%br^i=a%br^i+br^i*(GJ (lbs br a) (lbs br b) i).2
 |0=>by show 0+_=_+br^0*0;rw[Nat.pow_zero,Nat.mod_one,Nat.mod_one]
 |i+1=>by
  have hc:=(NH (Bf br2 a) (Bf br2 b) i).2
  exact Ln (Lt _ _ i) (Qw a b i) (by rw[←AZ br2 b i, ←AZ br2 a i];exact(SL (AW br2 (Bf br2 a) i) (AW br2 (Bf br2 b) i) hc).2.2)
theorem EI (W:World) (p q:Option Addr) (cap cap2:Nat) (a b:Nat) (hba:b≤a) (hA:A4 W p (lbs br a)) (hB:A4 W q (lbs br b)) (hna:(lbs br a).length≤1000000):
  Ad Tryz.prog 184 #[slv p (lbs br a).length cap,slv q (lbs br b).length cap2] W (fun x:NV=>B2 x (lbs br (a-b)).length) (fun x=>BW x (lbs br (a-b))) (fun x=>[B3 x (lbs br (a-b))]):=by
 have hla:=Bf br2 a
 have hlb:=Bf br2 b
 have hal:=AF br2 a
 obtain⟨na,hna'⟩: ∃n,(lbs br a).length=n:=⟨_,rfl⟩
 obtain⟨nb,hnb'⟩: ∃n,(lbs br b).length=n:=⟨_,rfl⟩
 rw[hna'] at hna hal
 refine Ab (args:=[slv p (lbs br a).length cap,slv q (lbs br b).length cap2]) Tryz.func184 I I I ?_
 rw[hna',hnb']
 refine zA (zB (wP I (Aa (zE (zA (zB ?_))))))
 refine Em tH I I I I I ?_
 intro g
 refine wP I (Aa (zE (zA (zB (wP I (Aa (zE (zA (zA (zB (wP I (Aa (zE ?_)))))))))))))
 refine zH ?_
 refine Aw (X:=Nat×NV) (fun x=>[(0,slv p na cap),(1,slv q nb cap2),(5,B2 x.2 x.1),(6, .int .i64 ((GJ (lbs br a) (lbs br b) x.1).2:Nat)),(7, .int .i64 (x.1:Nat))]) (fun x=>[B3 x.2 (GJ (lbs br a) (lbs br b) x.1).1])
  (fun x=>x.1≤na∧BW x.2 (GJ (lbs br a) (lbs br b) x.1).1) (fun x=>na-x.1) (0,g,0,[]) ⟨Nat.zero_le _,⟨rfl,(fun h=>by cases h),fun _=>⟨Nat.le_refl _,Nat.zero_le _,rfl⟩⟩⟩ ⟨rfl,rfl,rfl,rfl,rfl,trivial⟩ [] rfl ?_
 rintro⟨i,x⟩ ⟨hi,hx⟩
 have hi:i≤na:=hi
 have hx:BW x (GJ (lbs br a) (lbs br b) i).1:=hx
 have hlen:=Lt (lbs br a) (lbs br b) i
 obtain⟨hob,hc1⟩:=NH hla hlb i
 have hval:=Qw a b i
 obtain⟨out,hout⟩: ∃out,(GJ (lbs br a) (lbs br b) i).1=out:=⟨_,rfl⟩
 obtain⟨c,hc⟩: ∃c,(GJ (lbs br a) (lbs br b) i).2=c:=⟨_,rfl⟩
 rw[hout] at hx hlen hob hval
 rw[hc] at hc1 hval
 simp only[hc,hout]
 refine zA (zA (zB (wP I (wP I (wP I (wP I ?_))))))
 by_cases h1:i<na
 ·refine wU 13 true I (dT (by omega)) (Aa (zE (zR I (zI (zE (zA (zH (zA (zU ?_)))))))))
  obtain⟨u,hu⟩: ∃u,lim (lbs br a) i=u:=⟨_,rfl⟩
  obtain⟨v,hv⟩: ∃v,lim (lbs br b) i=v:=⟨_,rfl⟩
  have hub:u<1000000:=by rw[←hu];exact AW br2 hla i
  have hvb:v<1000000:=by rw[←hv];exact AW br2 hlb i
  obtain⟨b1,o1,rfl,r1⟩:=hA.row (show i<(lbs br a).length by omega)
  have r1:=r1 i (by omega)
  rw[hu] at r1
  have e1:(GJ (lbs br a) (lbs br b) (i+1)).1=out++[(Hw u v c).1]:=by show _++[_]=_;rw[hout,hu,hv,hc]
  have e2:(GJ (lbs br a) (lbs br b) (i+1)).2=(Hw u v c).2:=by show(Hw _ _ _).2=_;rw[hu,hv,hc]
  refine qP I (qP I ?_)
  refine qJ ?_
  refine qL 0 I I (fun W hp=>r1.hp hp) I (qP I (qP I (qC I I (fun W' hp=>CP W' q cap2 nb (lbs br b) i v (hB.hp hp) hnb' (by omega) hv) (qP I (qP I (qP I (qV 25 ((u:Int)-v-c) I (by show w64 (w64 ((u:Int)-v)-c)=_;rw[Ap (x:=(u:Int)-v) (by omega) (by omega),Ap (by omega) (by omega)]) (qP I (AB (Aa (zE (zA (zB ?_)))))))))))))
  refine wP I (Aa (A8 (Az (Az (zB (wP I (wP I ?_)))))))
  refine Ao 27 (.bool (decide ((u:Int)-v-c<0))) I I ?_
  refine Aa (A8 ?_)
  try refine Az ?_
  refine AC (X:=Unit) (fun _=>[(0,slv (some ⟨b1,o1,none⟩) na cap),(1,slv q nb cap2),(5,B2 x i),(6, .int .i64 ((Hw u v c).2:Nat)),(7, .int .i64 (i:Nat)),(8, .int .i64 ((Hw u v c).1:Nat))]) (fun _=>[B3 x out]) (fun _=>True) ?_ ?_
  ·refine Aj I (fun hn=> ?_) (fun hn=> ?_)
   ·have hn:(u:Int)-v-c<0:=of_decide_eq_true hn
    have em:Hw u v c=(u+br-v-c,1):=by unfold Hw;rw[if_neg (by omega)]
    exact zA (zB (wP I (wP I (wV 29 ((u+br-v-c:Nat):Int) I (by show w64 (((u:Int)-v-c)+((1000000:Nat):Int))=_;rw[Ap (by omega) (by omega)];show _=((u+1000000-v-c:Nat):Int);omega) (wP I (Aa (zE (zB (wP I (Aa (An () tO ⟨I,I,I,by rw[em];rfl,I,by rw[em];rfl,tO⟩ [] I)))))))))))
   ·have hn: ¬(u:Int)-v-c<0:=of_decide_eq_false hn
    have em:Hw u v c=(u-v-c,0):=by unfold Hw;rw[if_pos (by omega)]
    exact zI (An () tO ⟨I,I,I,by rw[em];rfl,I,by rw[em];exact congrArg (fun z=>some (Value.int .i64 z)) (by show(u:Int)-v-c=((u-v-c:Nat):Int);omega),tO⟩ [] I)
  intro _ _
  refine zB (wP I (wP I ?_))
  refine At Tryz.hZ tH I I I I I I I I I I I fun bN=> ?_
  refine AH (V:=nvV x) (len:=i) (xs:=nI out) 0 1 Tryz.vec162 (i+1) (nI (out++[(Hw u v c).1])) I I I I I I I I I I I (by rw[←hlen];exact hx) I I I (by rw[Iy];rfl) (by simp only[maxLen];omega) (by omega) I ?_
  intro g1 c1 j1 hV1
  refine wP I (Aa (zN (zE (zB (wP I (wP I (wV 15 ((i+1:Nat):Int) I (Ax (by omega)) (wP I (Aa ?_)))))))))
  refine Al (i+1,g1,c1,j1) ⟨h1, ?_⟩ (by show na-(i+1)<na-i;omega) ⟨I,I,I,by rw[e2];rfl,I,tO⟩ _ (by show _=[B3 _ (GJ _ _ (i+1)).1]++_;rw[e1];rfl)
  show BW _ (GJ (lbs br a) (lbs br b) (i+1)).1
  rw[e1]
  show Vec.OK _ 1 (out++[_]).length _
  rw[List.length_append,hlen]
  exact hV1
 ·have e:i=na:=by omega
  subst e
  have ev:lv br out=a-b:=Ny br2 hlen hob hval hal hba
  obtain⟨j2,hj1,hj2⟩:=DD hx hob
  rw[ev] at hj1 hj2
  refine wU 13 false I (dF (by omega)) (Aa (zE (zS I (zJ (zK (zK (zL (zE (zA (zB (wP I ?_)))))))))))
  refine Ao 34 (slv (some ⟨x.1,0,none⟩) out.length x.2.1) I (by rw[hlen]) ?_
  exact wC I I (fun W' hp=>Cz W' (some ⟨x.1,0,none⟩) x.2.1 out (A4.of_bx hp 0 I) hob (by have:=(hx.cap (by simp)).1;exact this) (by omega)) (wP I (Aa (zE (zO (Ay tH I (.tmp I) ((x.1,x.2.1,j2):NV) (by rw[ev]) hj1 fun W hp=>As.of_hp1 hp 0 (by show some (⟨x.1,3,nI out++x.2.2,true,none⟩:Bx)=some ⟨x.1,3,nI (lbs br (a-b))++j2,true,none⟩;rw[hj2]))))))
-- BOXES 4
-- CODE2
theorem UF {x y:Nat} (hx:x<br) (hy:y<br):x*y≤999998000001:=(Nat.mul_le_mul (Nat.le_of_lt_succ hx) (Nat.le_of_lt_succ hy):x*y≤999999*999999)
theorem HU (W:World) (p q:Option Addr) (cap cap2:Nat) (a:Nat) (lb:List Nat) (hlb: ∀x∈lb,x<br) (hA:A4 W p (lbs br a)) (hB:A4 W q lb) (hna:(lbs br a).length≤1000000) (hnb:lb.length≤1000000):
  Ad Tryz.prog 241 #[slv p (lbs br a).length cap,slv q lb.length cap2] W (fun x:NV=>B2 x (lbs br (a*lv br lb)).length) (fun x=>BW x (lbs br (a*lv br lb))) (fun x=>[B3 x (lbs br (a*lv br lb))]):=by
 have hla:=Bf br2 a
 have hal:=AF br2 a
 have hbl:=EY br2 hlb
 obtain⟨b,hbv⟩: ∃b,lv br lb=b:=⟨_,rfl⟩
 rw[hbv] at hbl⊢
 obtain⟨na,hna'⟩: ∃n,(lbs br a).length=n:=⟨_,rfl⟩
 obtain⟨nb,hnb'⟩: ∃n,lb.length=n:=⟨_,rfl⟩
 obtain⟨M,hM⟩: ∃M,M=na+nb+1:=⟨_,rfl⟩
 rw[hna'] at hna hal
 rw[hnb'] at hnb hbl
 refine Ab (args:=[slv p (lbs br a).length cap,slv q lb.length cap2]) Tryz.func241 I I I ?_
 rw[hna',hnb']
 refine zA (zB (wP I (Aa (zE (zA (zB ?_))))))
 iterate 6 refine wP I ?_
 refine wV 15 (M:Nat) I (by show w64 (w64 ((na:Int)+nb)+1)=_;rw[AO (by omega),Ax (by omega),hM]) ?_
 refine Cg Tryz.vec162 M I I I I I I I (by simp only[maxLen];omega) (by omega) ?_
 intro g
 have ez:BA (Value.cells (.int .i64 0)).toList M=nI (List.replicate M 0)++[]:=by rw[List.append_nil];exact Fh M
 rw[ez]
 refine wP I (Aa (zE (zA (zA (zB (wP I (Aa (zE (zH ?_)))))))))
 refine Aw (X:=Nat×List Nat) (fun x=>[(0,slv p na cap),(1,slv q nb cap2),(5,slv (some ⟨g,0,none⟩) M M),(6, .int .i64 (x.1:Nat))]) (fun x=>[⟨g,3,nI x.2++[],true,none⟩])
  (fun x=>x.1≤na∧x.2.length=M∧(∀y∈x.2,y<br)∧lv br x.2=a%br^x.1*b) (fun x=>na-x.1) (0,List.replicate M 0) ⟨Nat.zero_le _,List.length_replicate,fun y hy=>by rw[List.eq_of_mem_replicate hy];decide,by rw[Ez];show 0=a%br^0*b;rw[Nat.pow_zero,Nat.mod_one,Nat.zero_mul]⟩ ⟨rfl,rfl,rfl,rfl,trivial⟩ [] rfl ?_
 rintro⟨i,out⟩ ⟨hi,hlen,hob,hov⟩
 have hi:i≤na:=hi
 have hlen:out.length=M:=hlen
 refine zA (zA (zB (wP I (wP I (wP I (wP I ?_))))))
 by_cases hi':i<na
 ·refine wU 20 true I (dT (by omega)) (Aa (zE (zR I (zI (zE (zA (zH (zA (zB ?_)))))))))
  obtain⟨pb,po,rfl,hrow⟩:=hA.row (show i<(lbs br a).length by omega)
  obtain⟨x,hx⟩: ∃x,lim (lbs br a) i=x:=⟨_,rfl⟩
  have hrx: ∀W' bx,Hp W bx W'→Ai W' pb (po+i*1) [.int .i64 (x:Nat)]:=fun W' bx hp=>by
   have:=(hrow i (by omega)).hp hp
   rwa [hx] at this
  have hxb:x<br:=by rw[←hx];exact AW br2 hla i
  have hxe:x=a/br^i%br:=by rw[←hx];exact AZ br2 a i
  refine wP I (Aa (zE (zA (zB (wP I (Aa (zE (zH ?_))))))))
  refine Aw (X:=Nat×List Nat×Nat) (fun x'=>[(0,slv (some ⟨pb,po,none⟩) na cap),(1,slv q nb cap2),(5,slv (some ⟨g,0,none⟩) M M),(6, .int .i64 (i:Nat)),(7, .int .i64 (x'.2.2:Nat)),(8, .int .i64 (x'.1:Nat))]) (fun x'=>[⟨g,3,nI x'.2.1++[],true,none⟩])
   (fun x'=>x'.1≤nb+1∧x'.2.1.length=M∧(∀y∈x'.2.1,y<br)∧x'.2.2<br∧lv br x'.2.1+br^(i+x'.1)*x'.2.2=lv br out+br^i*(x*(b%br^x'.1))) (fun x'=>nb+1-x'.1) (0,out,0) ⟨Nat.zero_le _,hlen,hob,show 0<br by decide,by show lv br out+br^(i+0)*0=lv br out+br^i*(x*(b%br^0));rw[Nat.pow_zero,Nat.mod_one];simp⟩ ⟨rfl,rfl,rfl,rfl,rfl,rfl,trivial⟩ [] rfl ?_
  rintro⟨k,u,c⟩ ⟨hk,hul,hub,hcb,huv⟩
  have hk:k≤nb+1:=hk
  have hul:u.length=M:=hul
  have hcb:c<1000000:=hcb
  have huv:lv br u+br^(i+k)*c=lv br out+br^i*(x*(b%br^k)):=huv
  have hlast:k=nb+1→c=0:=fun e=>by
   subst e
   exact(NA br2 huv hbl hxb (by rw[hov];exact Kc br2 hbl)).2
  refine Az (Az ?_)
  refine AC (X:=Unit) (fun _=>[(0,slv (some ⟨pb,po,none⟩) na cap),(1,slv q nb cap2),(5,slv (some ⟨g,0,none⟩) M M),(6, .int .i64 (i:Nat)),(7, .int .i64 (c:Nat)),(8, .int .i64 (k:Nat)),(30, .bool (decide (k<nb∨0<c)))]) (fun _=>[⟨g,3,nI u++[],true,none⟩]) (fun _=>True) ?_ ?_
  ·refine zB (wP I (wP I (wP I (wP I ?_))))
   by_cases h1:k<nb
   ·refine wU 26 true I (dT (by omega)) (wP I ?_)
    iterate 2 refine Ah I I ?_
    exact wP I (Aa (An () tO ⟨I,I,I,I,I,I,by rw[dT (Or.inl h1)];rfl,tO⟩ [] I))
   ·exact wU 26 false I (dF (by omega)) (wP I (wP I (wP I (wU 29 (decide (k<nb∨0<c)) I (decide_eq_decide.2 (by show((c:Nat):Int)>0↔(k<nb∨0<c);omega)) (wP I (Aa (An () tO ⟨I,I,I,I,I,I,I,tO⟩ [] I)))))))
  intro _ _
  refine Aj I (fun hc=> ?_) (fun hc=> ?_)
  ·have hc:k<nb∨0<c:=of_decide_eq_true hc
   have hk':k<nb+1:=by
    rcases Nat.lt_or_ge k (nb+1) with h|h
    ·exact h
    ·have:=hlast (by omega);omega
   have hik:i+k<u.length:=by rw[hul];omega
   obtain⟨o,ho⟩: ∃o,lim u (i+k)=o:=⟨_,rfl⟩
   obtain⟨y,hy⟩: ∃y,lim lb k=y:=⟨_,rfl⟩
   have hob':o<br:=by rw[←ho];exact AW br2 hub _
   have hyb:y<br:=by rw[←hy];exact AW br2 hlb _
   have hou:u[i+k]? =some o:=by rw[Df hik,ho]
   obtain⟨n,hn⟩: ∃n,n=o+x*y+c:=⟨_,rfl⟩
   have hnb2:=Ke hxb hyb hob' hcb hn
   have hn63:n<1000000000000:=hnb2.2
   have hxy:=UF hxb hyb
   have hyy:=hy
   rw[Ch br2 k hlb,hbv] at hyy
   have hstep:=Iw (n:=n) hou huv (by rw[hn,hyy])
   have hrx':=hrx
   refine zI (zE (zA (zH (zA (zU (qP I (qP I (qP I (qP I (qV 36 ((i+k:Nat):Int) I (AO (by omega)) ?_))))))))))
   refine qJ ?_
   refine qL 0 I I (fun W' hp=>Ai.of_intsX hp 0 I hik ho) I (qP I (qP I ?_))
   refine qJ ?_
   refine qL 0 I I (fun W' hp=>hrx W' _ hp) I (qP I (qP I (qC I I (fun W' hp=>CP W' q cap2 nb lb k y (hB.hp hp) hnb' (by omega) hy) (qP I (qP I (qP I (qP I (qV 49 (n:Nat) I (by show w64 (w64 ((o:Int)+w64 ((x:Int)*y))+c)=_;rw[BV (by omega),AO (by omega),AO (by omega),hn]) (qP I (AB (Aa (zE (zA ?_)))))))))))))
   refine zB (wP I (wP I (wP I (wP I (wV 53 ((i+k:Nat):Int) I (AO (by omega)) (wP I ?_))))))
   refine Gq I I I I I (by decide) ?_
   refine wJ ?_
   refine AE 0 (nI (u.set (i+k) (n%br))++[]) tH I I I I I I I I I I (by show 0+(i+k)*1+1≤(nI u++[]).length;rw[List.append_nil,Bv];omega) (Cb hik (n%br)) ?_
   refine Aa (zE (zB (wP I ?_)))
   refine EV I I I I I (by decide) ?_
   exact wV 58 ((n/br:Nat):Int) I (BB (show n/1000000<9223372036854775808 by omega)) (wP I (Aa (zN (zE (zB (wP I (wP I (wV 32 ((k+1:Nat):Int) I (Ax (by omega)) (wP I (Aa (Al (k+1,u.set (i+k) (n%br),n/br) ⟨hk',by rw[List.length_set];exact hul,C5 hub (Nat.mod_lt _ (by decide)),hnb2.1,hstep⟩ (by show nb+1-(k+1)<nb+1-k;omega) ⟨I,I,I,I,I,I,tO⟩ [] I)))))))))))
  ·have hc: ¬(k<nb∨0<c):=of_decide_eq_false hc
   have hc0:c=0:=by omega
   have h1:lv br u=lv br out+br^i*(x*b):=by
    rw[hc0,Nat.mul_zero,Nat.add_zero] at huv
    have h3:br^nb≤br^k:=Nat.pow_le_pow_right (by decide) (by omega)
    rw[Nat.mod_eq_of_lt (show b<br^k by omega)] at huv
    exact huv
   have h2:=L9 (a:=a) (b:=b) (i:=i) hov
   rw[←hxe, ←h1] at h2
   exact zJ (zK (zK (zL (zN (zE (zB (wP I (wP I (wV 22 ((i+1:Nat):Int) I (Ax (by omega)) (wP I (Aa (Al (i+1,u) ⟨hi',hul,hub,h2⟩ (by show na-(i+1)<na-i;omega) ⟨I,I,I,I,tO⟩ [] I))))))))))))
 ·have hi':i=na:=by omega
  subst hi'
  rw[Nat.mod_eq_of_lt hal] at hov
  refine wU 20 false I (dF (by omega)) (Aa (zE (zS I (zJ (zK (zK (zL (zE (zA (zB ?_))))))))))
  have hV0:(⟨some g,M,[]⟩:Vec).OK 1 out.length (nI out):=⟨En _,(fun h=>by cases h),fun _=>⟨by show _≤M;omega,by show M≤maxLen;simp only[maxLen];omega,by show(nI out).length+0=M*1;rw[Bv];omega⟩⟩
  obtain⟨j',hV2,he⟩:=DD hV0 hob
  refine wP I ?_
  refine Ao 59 (slv (some ⟨g,0,none⟩) out.length M) I (by rw[hlen]) ?_
  refine wC I I (fun W hp=>Cz W _ M _ (A4.of_bx hp 0 I) hob (by omega) (by omega)) (wP I (Aa (zE (zO ?_))))
  rw[hov] at hV2 he
  exact Ay tH I (.tmp I) ((g,M,j'):NV) (by rw[hov]) hV2 fun W hp=>As.of_hp1 hp 0 (by show some (⟨g,3,nI out++[],true,none⟩:Bx)=some ⟨g,3,nI (lbs br (a*b))++j',true,none⟩;rw[he])
theorem Jg (W:World) (p q:Option Addr) (cap cap2:Nat) (a b:Nat) (hA:A4 W p (lbs br a)) (hB:A4 W q (lbs br b)) (hna:(lbs br a).length≤1000000) (hnb:(lbs br b).length≤1000000):
  Ad Tryz.prog 241 #[slv p (lbs br a).length cap,slv q (lbs br b).length cap2] W (fun x:NV=>B2 x (lbs br (a*b)).length) (fun x=>BW x (lbs br (a*b))) (fun x=>[B3 x (lbs br (a*b))]):=by
 have h:=HU W p q cap cap2 a (lbs br b) (Bf br2 b) hA hB hna hnb
 rwa [JL br2] at h
-- BOXES 2
-- CODE2
def Ie (z:Int):List UInt8:=if z<0 then[45] else[]
theorem Dl (z:Int):itoa z=Ie z++decDigits z.natAbs:=by
 unfold itoa Ie
 split
 ·rfl
 ·rw[show z.toNat=z.natAbs by omega];rfl
theorem OE (z:Int):(Ie z).length≤1:=by unfold Ie;split<;>decide
theorem Ma (z:Int): ∃c,(itoa z)[0]? =some c∧decide (c=45)=decide (z<0):=by
 have h:=Kh z
 rw[Bj] at h
 cases e:itoa z with
 |nil=>
  rw[Dl] at e
  exact absurd (List.append_eq_nil_iff.1 e).2 (Gj _)
 |cons c t=>
  rw[e] at h
  exact⟨c,I,by rw[←h];exact decide_eq_decide.2 (by simp)⟩
theorem Vl {n:Nat} (h:(decDigits n)[0]? =some 48):n=0:=by
 rcases Nat.eq_zero_or_pos n with h0|h0
 ·exact h0
 ·obtain⟨b,r,h1,h2⟩:=KD n (by omega)
  rw[h1] at h
  have h:b=48:=by simpa using h
  rw[h] at h2;exact absurd rfl h2
theorem G0 (z:Int) (hl:(decDigits z.natAbs).length≤300):AY Tryz.prog 180 [str (itoa z)] (.int .i64 0):=by
 intro W
 obtain⟨s,hs⟩: ∃s,s=itoa z:=⟨_,rfl⟩
 obtain⟨dd,hdd⟩: ∃dd,dd=decDigits z.natAbs:=⟨_,rfl⟩
 obtain⟨f,hf⟩: ∃f,f=(Ie z).length:=⟨_,rfl⟩
 have hss:s=Ie z++dd:=by rw[hs,hdd];exact Dl z
 have hf1:f≤1:=hf▸OE z
 have hsl:s.length=f+dd.length:=by rw[hss,List.length_append,hf]
 have hd0:0<dd.length:=by rw[hdd];exact List.length_pos_iff.2 (Gj _)
 have hget: ∀i,f≤i→s[i]? =dd[i-f]? :=fun i hi=>by rw[hss,List.getElem?_append_right (by omega),hf]
 obtain⟨c0,hc0,hc45⟩:=Ma z
 rw[←hs] at hc0⊢
 rw[←hdd] at hl
 have hdg: ∀b∈dd,DF b=true:=by rw[hdd];exact(Ha _).all
 refine Ab Tryz.func180 I I I ?_
 refine zA (zB (wP I (Aa (zE (zA (zB (wP I (Aa (zE (zA (zA (zB (wP I (wP I ?_))))))))))))))
 refine Ao 6 (.int .i64 (s.length:Nat)) I (congrArg (fun n:Nat=>Value.int .i64 (n:Int)) (A5 s)) ?_
 refine wP I (wU 7 true I (dT (by omega)) (wP I (wP I ?_)))
 refine Bi 0 tH I I I I I I I I hc0 ?_
 refine wP I (wU 11 (decide (z<0)) I ((Fv c0 45).trans hc45) (wP I (Aa (A8 ?_))))
 try refine Az ?_
 refine AC (X:=Unit) (fun _=>[(0,str s),(3, .int .i64 (f:Nat))]) (fun _=>[]) (fun _=>True) ?_ ?_
 ·refine Aj I (fun h=> ?_) (fun h=> ?_)
  ·have h:z<0:=of_decide_eq_true h
   exact zB (wP I (Aa (An () tO ⟨I,by rw[hf];unfold Ie;rw[if_pos h];rfl,tO⟩ [] I)))
  ·have h: ¬z<0:=of_decide_eq_false h
   exact zI (An () tO ⟨I,by rw[hf];unfold Ie;rw[if_neg h];rfl,tO⟩ [] I)
 intro _ _
 refine Az (Az ?_)
 refine AC (X:=Unit) (fun _=>[(0,str s),(3, .int .i64 (f:Nat)),(27, .bool false)]) (fun _=>[]) (fun _=>True) ?_ ?_
 ·refine zB (wP I (wP I (wP I ?_)))
  refine Ao 15 (.int .i64 (s.length:Nat)) I (congrArg (fun n:Nat=>Value.int .i64 (n:Int)) (A5 s)) ?_
  refine wP I (wU 16 false I (by rw[beq_eq_false_iff_ne];omega) ?_)
  obtain⟨b,hb⟩: ∃b,dd[0]? =some b:=⟨dd[0],List.getElem?_eq_getElem hd0⟩
  have hsb:s[f]? =some b:=by rw[hget f (Nat.le_refl _),Nat.sub_self];exact hb
  refine wP I (wP I (wP I ?_))
  refine Bi f tH I I I I I I I I hsb ?_
  refine wP I ?_
  by_cases h48:b=48
  ·rw[h48,hdd] at hb
   have h0:=Vl hb
   have hz:z=0:=by omega
   have hs1:s.length=1:=by rw[hs,hz,CX];rfl
   refine wU 21 true I ((Fv b 48).trans (dT h48)) (wP I (wP I (wP I ?_)))
   refine Ao 24 (.int .i64 (s.length:Nat)) I (congrArg (fun n:Nat=>Value.int .i64 (n:Int)) (A5 s)) ?_
   exact wP I (wU 25 false I (dF (by omega)) (wP I (wP I (Aa (An () tO ⟨I,I,I,tO⟩ [] I)))))
  ·refine wU 21 false I ((Fv b 48).trans (dF h48)) (wP I ?_)
   iterate 3 refine Ah I I ?_
   exact wP I (wP I (Aa (An () tO ⟨I,I,I,tO⟩ [] I)))
 intro _ _
 refine zS I (zI (zE (zA (zA (zB (wP I (wP I (Aa (zE (zH ?_))))))))))
 refine Aw (X:=Nat) (fun i=>[(0,str s),(3, .int .i64 (f:Nat)),(4, .int .i64 (i:Nat))]) (fun _=>[]) (fun i=>i≤s.length∧f≤i) (fun i=>s.length-i) f ⟨by omega,Nat.le_refl _⟩ ⟨I,I,I,tO⟩ [] I ?_
 rintro i ⟨hi,hfi⟩
 have hi:i≤s.length:=hi
 have hfi:f≤i:=hfi
 refine zA (zA (zB (wP I (wP I (wP I ?_)))))
 refine Ao 31 (.int .i64 (s.length:Nat)) I (congrArg (fun n:Nat=>Value.int .i64 (n:Int)) (A5 s)) ?_
 refine wP I ?_
 by_cases hlt:i<s.length
 ·refine wU 32 true I (dT (by omega)) (Aa (zE (zR I (zI (zE (zA (zH (zA (zB ?_)))))))))
  obtain⟨b,hb⟩: ∃b,dd[i-f]? =some b:=⟨dd[i-f]'(by omega),List.getElem?_eq_getElem (by omega)⟩
  have hsb:s[i]? =some b:=by rw[hget i hfi];exact hb
  have hbd:=Ct.1 (hdg b (List.mem_of_getElem? hb))
  refine wP I (wP I ?_)
  refine Bi i tH I I I I I I I I hsb ?_
  refine wP I (wU 38 false I ((Vs b).trans (dF (by omega))) (wP I (wP I (wP I ?_))))
  refine Bi i tH I I I I I I I I hsb ?_
  refine wP I (wU 43 false I ((Va b).trans (dF (by omega))) (wP I (Aa (zE (zS I (zI (zN (zE (zB (wP I (wP I (wV 34 ((i+1:Nat):Int) I (Ax (by omega)) (wP I ?_)))))))))))))
  exact Aa (Al (i+1) ⟨hlt,by show f≤i+1;omega⟩ (by show s.length-(i+1)<s.length-i;omega) ⟨I,I,I,tO⟩ [] I)
 ·refine wU 32 false I (dF (by omega)) (Aa (zE (zS I (zJ (zK (zK (zL (zE (zA (zA (zB (wP I (wP I ?_)))))))))))))
  refine Ao 46 (.int .i64 (s.length:Nat)) I (congrArg (fun n:Nat=>Value.int .i64 (n:Int)) (A5 s)) ?_
  refine wP I (wP I (wV 48 (dd.length:Nat) I (by show w64 ((s.length:Int)-f)=_;rw[Ap (by omega) (by omega)];omega) (wP I (wU 49 false I (dF (by omega)) (Aa (zE (zS I (zI (zE (zA (zB (wP I (Aa ?_)))))))))))))
  exact zE (zO (wR1 I I I))
theorem GU (a b:Int) (ha:(decDigits a.natAbs).length≤300) (hb:(decDigits b.natAbs).length≤300):AY Tryz.prog 109 [str (itoa a),str (itoa b)] (.int .i64 0):=by
 intro W
 refine Ab Tryz.func109 I I I ?_
 refine zA (zB (wP I (Aa (zE (zA (zA (zB (wP I (wC I I (fun W _=>G0 a ha W) (wP I (Aa (zE (zA ?_)))))))))))))
 refine zB (wP I (wP I (Aa (zE (zS I (zI (zE (zA (zB (wP I (wC I I (fun W _=>G0 b hb W) (wP I (Aa ?_)))))))))))))
 exact zE (zO (wR1 I I I))
def smI (z:Int):Bool:=decide ((itoa z).length≤17)
theorem Vn {z:Int} (h:smI z=true):z.natAbs<100000000000000000:=by
 have h:(itoa z).length≤17:=of_decide_eq_true h
 rw[Dl,List.length_append] at h
 exact Nat.lt_of_lt_of_le (Gi _) (show _≤10^17 from Nat.pow_le_pow_right (by decide) (by omega))
theorem IE (z:Int) (hl:(itoa z).length<4611686018427387904):AY Tryz.prog 181 [str (itoa z)] (.tuple #[.int .i64 (if smI z=true then z else 0), .bool (smI z)]):=by
 intro W
 obtain⟨s,hs⟩: ∃s,s=itoa z:=⟨_,rfl⟩
 obtain⟨dd,hdd⟩: ∃dd,dd=decDigits z.natAbs:=⟨_,rfl⟩
 obtain⟨f,hf⟩: ∃f,f=(Ie z).length:=⟨_,rfl⟩
 have hss:s=Ie z++dd:=by rw[hs,hdd];exact Dl z
 have hf1:f≤1:=hf▸OE z
 have hsl:s.length=f+dd.length:=by rw[hss,List.length_append,hf]
 have hd0:0<dd.length:=by rw[hdd];exact List.length_pos_iff.2 (Gj _)
 have hget: ∀i,f≤i→s[i]? =dd[i-f]? :=fun i hi=>by rw[hss,List.getElem?_append_right (by omega),hf]
 have hneg: ∀i,i<f→s[i]? =some 45:=fun i hi=>by
  have h0:i=0:=by omega
  subst h0
  rw[hss]
  unfold Ie at hf⊢
  split
  ·rfl
  ·rename_i h;rw[if_neg h] at hf;simp at hf;omega
 obtain⟨c0,hc0,hc45⟩:=Ma z
 have hsm:smI z=decide (s.length≤17):=by rw[hs];rfl
 rw[←hs] at hc0 hl⊢
 have hdg: ∀b∈dd,DF b=true:=by rw[hdd];exact(Ha _).all
 refine Ab Tryz.func181 I I I ?_
 refine zA (zB (wP I (wP I (Aa (zE (zA (zA (zB (wP I (wP I ?_))))))))))
 refine Ao 7 (.int .i64 (s.length:Nat)) I (congrArg (fun n:Nat=>Value.int .i64 (n:Int)) (A5 s)) ?_
 refine wP I ?_
 by_cases h17:s.length≤17
 rotate_left
 ·exact wU 8 true I (dT (by show((s.length:Nat):Int)>17;omega)) (Aa (zE (zR I (zA (zB (wP I (wP I (Aa (zE (zO (zP (wR2 I I (by rw[hsm,dF h17];rfl)))))))))))))
 have hlt: ∀i,AJ (dd.take i)<100000000000000000:=fun i=>by
  have h1:=F0 (dd.take i).length (s:=dd.take i) rfl fun b hb=>hdg b (List.mem_of_mem_take hb)
  have h2:(dd.take i).length≤17:=by rw[List.length_take];omega
  exact Nat.lt_of_lt_of_le h1 (show _≤10^17 from Nat.pow_le_pow_right (by decide) h2)
 refine wU 8 false I (dF (by show¬((s.length:Nat):Int)>17;omega)) (Aa (zE (zS I (zI (zE (zA (zB (wP I (Aa (zE (zA (zA (zB ?_)))))))))))))
 refine wP I (Aa (zE (zH ?_)))
 refine Aw (X:=Nat) (fun i=>[(0,str s),(4, .int .i64 (AJ (dd.take (i-f)):Nat)),(5, .int .i64 (i:Nat))]) (fun _=>[]) (fun i=>i≤s.length) (fun i=>s.length-i) 0 (Nat.zero_le _) ⟨I,by show some _=some (Value.int .i64 (AJ (dd.take (0-f)):Nat));rw[Nat.zero_sub,List.take_zero];rfl,I,tO⟩ [] I ?_
 intro i hi
 have hi:i≤s.length:=hi
 refine zA (zA (zB (wP I (wP I (wP I ?_)))))
 refine Ao 11 (.int .i64 (s.length:Nat)) I (congrArg (fun n:Nat=>Value.int .i64 (n:Int)) (A5 s)) ?_
 refine wP I ?_
 by_cases hlt':i<s.length
 ·refine wU 12 true I (dT (by omega)) (Aa (zE (zR I (zI (zE ?_)))))
  try refine Az ?_
  refine AC (X:=Unit) (fun _=>[(0,str s),(4, .int .i64 (AJ (dd.take (i+1-f)):Nat)),(5, .int .i64 (i:Nat))]) (fun _=>[]) (fun _=>True) ?_ ?_
  ·refine zH (zA (zB (wP I (wP I ?_))))
   by_cases hif:i<f
   ·refine Bi i tH I I I I I I I I (hneg i hif) ?_
    exact wP I (Aa (zE (zS I (zI (zN (An () tO ⟨I,by rw[show i+1-f=0 by omega,show i-f=0 by omega];rfl,I,tO⟩ [] I))))))
   obtain⟨b,hb⟩: ∃b,dd[i-f]? =some b:=⟨dd[i-f]'(by omega),List.getElem?_eq_getElem (by omega)⟩
   have hsb:s[i]? =some b:=by rw[hget i (by omega)];exact hb
   have hbd:=Ct.1 (hdg b (List.mem_of_getElem? hb))
   have e1:AJ (dd.take (i+1-f))=10*AJ (dd.take (i-f))+(b.toNat-48):=by
    rw[show i+1-f=i-f+1 by omega,List.take_add_one,hb];exact CW _ _
   have l1:=hlt (i-f)
   have l2:=hlt (i+1-f)
   refine Bi i tH I I I I I I I I hsb ?_
   refine wP I ?_
   refine Ao 18 (.bool true) I (congrArg Value.bool (by
    show(!((((b.toNat:Nat):Int))==(45:Int)))=true
    rw[Bool.not_eq_true',beq_eq_false_iff_ne];omega)) ?_
   refine Aa (zE (zR I (zB (wP I (wP I (wV 20 ((10*AJ (dd.take (i-f)):Nat):Int) I (show w64 (10*(AJ (dd.take (i-f)):Nat))=_ by rw[Ap (by omega) (by omega)];omega) (wP I (wP I ?_))))))))
   refine Bi i tH I I I I I I I I hsb ?_
   refine wP I ?_
   refine Ao 24 (.int .u8 ((b.toNat-48:Nat):Int)) I (congrArg (Value.int .u8) (by show IntKind.u8.wrap (((b.toNat:Nat):Int)-48)=_;rw[show((b.toNat:Nat):Int)-48=((b.toNat-48:Nat):Int) by omega,PU (by omega) (by omega)])) ?_
   refine J4 Tryz.underlying5 Tryz.underlying3 I I I I ?_
   exact wV 25 ((b.toNat-48:Nat):Int) I (BB (by omega)) (wP I (wV 26 ((AJ (dd.take (i+1-f)):Nat):Int) I (show w64 (((10*AJ (dd.take (i-f)):Nat):Int)+((b.toNat-48:Nat):Int))=_ by rw[Ap (by omega) (by omega),e1];omega) (wP I (Aa (zN (An () tO ⟨I,I,I,tO⟩ [] I))))))
  intro _ _
  exact zB (wP I (wP I (wV 14 ((i+1:Nat):Int) I (Ax (by omega)) (wP I (Aa (Al (i+1) hlt' (by show s.length-(i+1)<s.length-i;omega) ⟨I,I,I,tO⟩ [] I))))))
 ·refine wU 12 false I (dF (by omega)) (Aa (zE (zS I (zJ (zK (zK (zL (zE (zA (zA (zB ?_)))))))))))
  have hv:AJ (dd.take (i-f))=z.natAbs:=by rw[List.take_of_length_le (by omega),hdd,Cq]
  have hzl:z.natAbs<100000000000000000:=by rw[←hv];exact hlt _
  refine wP I ?_
  refine Bi 0 tH I I I I I I I I hc0 ?_
  refine wP I (wU 29 (decide (z<0)) I ((Fv c0 45).trans hc45) (Aa (A8 ?_)))
  try refine Az ?_
  refine AC (X:=Unit) (fun _=>[(4, .int .i64 z)]) (fun _=>[]) (fun _=>True) ?_ ?_
  ·refine Aj I (fun h=> ?_) (fun h=> ?_)
   ·have h:z<0:=of_decide_eq_true h
    exact zB (wP I (wP I (wV 31 z I (by rw[hv];show w64 (0-((z.natAbs:Nat):Int))=_;rw[Ap (by omega) (by omega)];omega) (wP I (Aa (An () tO ⟨I,tO⟩ [] I))))))
   ·have h: ¬z<0:=of_decide_eq_false h
    exact zI (An () tO ⟨congrArg (fun z=>some (Value.int .i64 z)) (by rw[hv];omega),tO⟩ [] I)
  intro _ _
  exact zA (zB (wP I (wP I (wP I (Aa (zE (zO (wR2 I I (by rw[hsm,dT h17,if_pos I])))))))))
theorem L4 (a b:Int) (ha:(itoa a).length<4611686018427387904) (hb:(itoa b).length<4611686018427387904):AY Tryz.prog 110 [str (itoa a),str (itoa b)] (.tuple #[.int .i64 (if smI a=true then a else 0), .int .i64 (if smI a=true then(if smI b=true then b else 0) else 0), .bool (smI a&&smI b)]):=by
 intro W
 refine Ab Tryz.func110 I I I ?_
 refine zA (zB (wP I (wP I (wP I (Aa (zE (zA (zB (wP I (wC I I (fun W _=>IE a ha W) ?_))))))))))
 iterate 5 refine wP I ?_
 refine Aa ?_
 cases hsa:smI a with
 |false=>
  refine zE (zA (zA (zB (wP I (wP I (Aa (zE (zR I (zA (zB (wP I (wP I (wP I ?_)))))))))))))
  exact Aa (zE (zO (zP (wR3 I I I))))
 |true=>
  refine zE (zA (zA (zB (wP I (wP I (Aa (zE (zS I (zI (zE (zA (zB (wP I ?_)))))))))))))
  refine wC I I (fun W _=>IE b hb W) ?_
  iterate 5 refine wP I ?_
  refine Aa (zE (zA (zB ?_)))
  iterate 6 refine wP I ?_
  exact Aa (zE (zO (wR3 I I I)))
-- BOXES 4
-- CODE2
theorem Nz (a:List UInt8): ∀(n:Nat) (b:List UInt8),b.length=n→AJ (a++b)=AJ a*10^n+AJ b
 |0,b,h=>by
  rw[List.length_eq_zero_iff.1 h,List.append_nil,Nat.pow_zero,Nat.mul_one];rfl
 |n+1,b,h=>by
  obtain⟨c,d,rfl⟩: ∃c d,b=c++[d]:=⟨b.dropLast,b.getLast (fun e=>by rw[e] at h;cases h),(List.dropLast_concat_getLast _).symm⟩
  have hc:c.length=n:=by rw[List.length_append] at h;exact Nat.succ.inj h
  rw[←List.append_assoc,CW,Nz a n c hc,CW,Nat.pow_succ]
  grind
theorem PZ (a b:List UInt8):AJ (a++b)=AJ a*10^b.length+AJ b:=Nz a b.length b rfl
theorem Ve {m lo e:Nat} (_h1:lo≤e) (h2:e≤(decDigits m).length):AJ (((decDigits m).take e).drop lo)=m/10^((decDigits m).length-e)%10^(e-lo):=by
 obtain⟨dd,hdd⟩: ∃dd,dd=decDigits m:=⟨_,rfl⟩
 have hdg: ∀b∈dd,DF b=true:=by rw[hdd];exact(Ha m).all
 have hv:AJ dd=m:=by rw[hdd];exact Cq m
 rw[←hdd] at h2⊢
 have a1:=PZ (dd.take e) (dd.drop e)
 rw[List.take_append_drop,hv,List.length_drop] at a1
 have b1:=F0 (dd.drop e).length (s:=dd.drop e) rfl fun b hb=>hdg b (List.mem_of_mem_drop hb)
 rw[List.length_drop] at b1
 have c1:m/10^(dd.length-e)=AJ (dd.take e):=by
  rw[a1,Nat.mul_comm,Nat.mul_add_div (Nat.pow_pos (by decide)),Nat.div_eq_of_lt b1,Nat.add_zero]
 rw[c1]
 have a2:=PZ ((dd.take e).take lo) ((dd.take e).drop lo)
 have b2:=F0 ((dd.take e).drop lo).length (s:=(dd.take e).drop lo) rfl fun b hb=>hdg b (List.mem_of_mem_take (List.mem_of_mem_drop hb))
 rw[List.take_append_drop] at a2
 have hl:((dd.take e).drop lo).length=e-lo:=by rw[List.length_drop,List.length_take,Nat.min_eq_left h2]
 rw[hl] at a2 b2
 rw[a2,Nat.mul_comm,Nat.mul_add_mod,Nat.mod_eq_of_lt b2]
def rdL (m:Nat) (j:Nat):List Nat:=(List.range j).map fun i=>m/br^i%br
theorem QB (m j:Nat):rdL m (j+1)=rdL m j++[m/br^j%br]:=by unfold rdL;rw[List.range_succ,List.map_append];rfl
theorem KE (m j:Nat):(rdL m j).length=j:=by unfold rdL;rw[List.length_map,List.length_range]
theorem Vf (m j:Nat): ∀x∈rdL m j,x<br:=fun x hx=>by
 obtain⟨i,_,rfl⟩:=List.mem_map.1 hx
 exact Nat.mod_lt _ (by decide)
theorem SE (m:Nat): ∀j,lv br (rdL m j)=m%br^j
 |0=>by show 0=_;rw[Nat.pow_zero,Nat.mod_one]
 |j+1=>by rw[QB,O6 (KE m j),SE m j, ←DJ]
theorem JH (j:Nat):br^j=10^(6*j):=by rw[Nat.pow_mul]
theorem Uh {m k:Nat} (h:m<10^(6*k)):(lbs br m).length≤k:=(B9 br2).2 (by rw[JH];exact h)
theorem Xb {m e k:Nat} (h:(decDigits m).length≤e) (he:e=6*k):(lbs br m).length≤k:=by
 subst he
 exact Uh (Nat.lt_of_lt_of_le (Gi m) (Nat.pow_le_pow_right (by decide) h))
theorem Fc {m:Nat} (h:(decDigits m).length≤606):(lbs br m).length≤101:=Xb h rfl
abbrev Xp (z:Int) (x:NV):Value:= .agg #[.bool (decide (z<0)),B2 x (lbs br z.natAbs).length]
theorem VD (y:Int):(if y>0 then y else 0)=max 0 y:=by omega
theorem Cy (z:Int) (hl:(decDigits z.natAbs).length≤1000) (W:World):
  Ad Tryz.prog 112 #[str (itoa z)] W (fun x:NV=>Xp z x) (fun x=>BW x (lbs br z.natAbs)) (fun x=>[B3 x (lbs br z.natAbs)]):=by
 obtain⟨m,hm⟩: ∃m,m=z.natAbs:=⟨_,rfl⟩
 obtain⟨c0,hc0,hc45⟩:=Ma z
 have hzl:=Dl z
 refine Ab (args:=[str (itoa z)]) Tryz.func112 I I I ?_
 refine zA (zB ?_)
 (refine Ae Tryz.hZ rfl rfl rfl rfl ?_;intro)
 refine Aa ?_
 rename_i b2
 refine zE (zA (zB ?_))
 refine Au Tryz.hZ tH I I I I I I I I ?_
 (refine Ae Tryz.hZ rfl rfl rfl rfl ?_;intro)
 refine wS 1 I I I (Aa ?_)
 rename_i b3
 refine zE (zA (zA (zB (wP I ?_))))
 refine Bi 0 tH I I I I I I I I hc0 ?_
 refine wP I (wU 10 (decide (z<0)) I ((Fv c0 45).trans hc45) (Aa (A8 ?_)))
 try refine Az ?_
 refine AC (X:=Unit) (fun _=>[(0,str (decDigits m)),(2,Af b2),(3,Af b3)]) (fun _=>[⟨b2,164,[.bool false, .slice none 0 0],true,none⟩,⟨b3,164,[.bool (decide (z<0)), .slice none 0 0],true,none⟩]) (fun _=>True) ?_ ?_
 ·refine Aj I (fun h=> ?_) (fun h=> ?_)
  ·have h:z<0:=of_decide_eq_true h
   have e:itoa z=45::decDigits m:=by rw[hzl,hm];unfold Ie;rw[if_pos h];rfl
   refine zA (zB (wP I (wS 1 I I I (Aa (zE (zB (wP I ?_)))))))
   refine KK 1 tH I I I I I I I I (by rw[e,List.length_cons];omega) ?_
   exact wP I (Aa (An () tO ⟨by rw[e];rfl,I,I,tO⟩ [] (by rw[dT h];rfl)))
  ·have h: ¬z<0:=of_decide_eq_false h
   have e:itoa z=decDigits m:=by rw[hzl,hm];unfold Ie;rw[if_neg h];rfl
   exact zI (An () tO ⟨by rw[e];rfl,I,I,tO⟩ [] (by rw[dF h];rfl))
 intro _ _
 rw[←hm] at hl⊢
 obtain⟨dd,hdd⟩: ∃dd,dd=decDigits m:=⟨_,rfl⟩
 have hdg: ∀b∈dd,DF b=true:=by rw[hdd];exact(Ha m).all
 have hd0:0<dd.length:=by rw[hdd];exact List.length_pos_iff.2 (Gj _)
 have hmid: ∀lo e,lo≤e→e≤dd.length→AJ ((dd.take e).drop lo)=m/10^(dd.length-e)%10^(e-lo):=fun lo e h1 h2=>by
  rw[hdd] at h2⊢;exact Ve h1 h2
 have hmlt:m<10^dd.length:=by rw[hdd];exact Gi m
 rw[←hdd] at hl⊢
 refine zA (zA (zB (wP I (wP I ?_))))
 refine Ao 15 (.int .i64 (dd.length:Nat)) I (congrArg (fun n:Nat=>Value.int .i64 (n:Int)) (A5 dd)) ?_
 refine wP I (Aa (zE (zH ?_)))
 refine Cp ?_
 refine Aw (X:=Nat×Vec) (fun x=>[(0,str dd),(2,Af b2),(3,Af b3),(4, .int .i64 ((dd.length:Int)-6*(x.1:Nat)))])
  (fun x=>[⟨b2,164,[.bool false, .slice none 0 0],true,none⟩,⟨b3,164,[.bool (decide (z<0)),x.2.val x.1],true,none⟩,x.2.bx 3 (nI (rdL m x.1))])
  (fun x=>x.2.OK 1 x.1 (nI (rdL m x.1))∧6*x.1<dd.length+6) (fun x=>dd.length+6-6*x.1) (0,Vec.empty) ⟨Vec.OK.empty 1,by show 6*0<_;omega⟩ ⟨rfl,rfl,rfl,congrArg (fun z=>some (Value.int .i64 z)) (by show((dd.length:Nat):Int)=(dd.length:Int)-6*((0:Nat):Int);omega),trivial⟩ [] rfl ?_
 rintro⟨j,V⟩ ⟨hV,hj⟩
 have hV:V.OK 1 j (nI (rdL m j)):=hV
 have hj:6*j<dd.length+6:=hj
 refine zA (zA (zB (wP I (wP I ?_))))
 by_cases hlt:6*j<dd.length
 ·refine wU 17 true I (dT (by show(dd.length:Int)-6*(j:Nat)>0;omega)) (Aa (zE (zR I (zI (zE (zA (zH (zA (zB ?_)))))))))
  obtain⟨e,he⟩: ∃e,e=dd.length-6*j:=⟨_,rfl⟩
  have hev:(dd.length:Int)-6*(j:Nat)=(e:Nat):=by omega
  obtain⟨lo,hlo⟩: ∃lo,lo=e-6:=⟨_,rfl⟩
  have hlim:AJ ((dd.take e).drop lo)=m/br^j%br:=by
   rw[hmid lo e (by omega) (by omega),JH,show dd.length-e=6*j by omega]
   by_cases h6:6≤e
   ·rw[show e-lo=6 by omega]
   ·have hl0:lo=0:=by omega
    have h1:m/10^(6*j)<10^e:=by
     apply Nat.div_lt_of_lt_mul
     rw[←Nat.pow_add,show 6*j+e=dd.length by omega];exact hmlt
    have h2:(10:Nat)^e≤10^6:=Nat.pow_le_pow_right (by decide) (by omega)
    rw[hl0,Nat.sub_zero,Nat.mod_eq_of_lt h1,Nat.mod_eq_of_lt (show m/10^(6*j)<br by show _<10^6;omega)]
  refine wP I (Aa (zE (zA (zA (zB (wP I (wP I (wV 21 ((e:Int)-6) I (by show w64 ((dd.length:Int)-6*(j:Nat)-6)=_;rw[hev,Ap (by omega) (by omega)]) (wP I (wV 22 (lo:Nat) I (by show(if (e:Int)-6>0 then(e:Int)-6 else 0)=_;rw[VD];omega) (wP I (Aa (zE ?_)))))))))))))
  refine zH ?_
  refine Aw (X:=Nat) (fun i=>[(0,str dd),(2,Af b2),(3,Af b3),(4, .int .i64 (e:Nat)),(5, .int .i64 (AJ ((dd.take i).drop lo):Nat)),(6, .int .i64 (i:Nat))])
   (fun _=>[⟨b2,164,[.bool false, .slice none 0 0],true,none⟩,⟨b3,164,[.bool (decide (z<0)),V.val j],true,none⟩,V.bx 3 (nI (rdL m j))])
   (fun i=>lo≤i∧i≤e) (fun i=>e-i) lo ⟨Nat.le_refl _,by omega⟩ ⟨rfl,rfl,rfl,(by rw[hev];rfl),by show some _=some (Value.int .i64 (AJ ((dd.take lo).drop lo):Nat));rw[List.drop_of_length_le (by rw[List.length_take];omega)];rfl,rfl,trivial⟩ [] rfl ?_
  rintro i ⟨hi1,hi2⟩
  have hi1:lo≤i:=hi1
  have hi2:i≤e:=hi2
  refine zA (zA (zB (wP I (wP I (wP I ?_)))))
  by_cases hie:i<e
  ·refine wU 25 true I (dT (by omega)) (Aa (zE (zR I (zI (zE (zA (zH (zB ?_))))))))
   obtain⟨b,hb⟩: ∃b,dd[i]? =some b:=⟨dd[i]'(by omega),List.getElem?_eq_getElem (by omega)⟩
   have hbd:=Ct.1 (hdg b (List.mem_of_getElem? hb))
   have e1:AJ ((dd.take (i+1)).drop lo)=10*AJ ((dd.take i).drop lo)+(b.toNat-48):=by
    rw[List.take_add_one,hb,List.drop_append_of_le_length (by rw[List.length_take];omega)]
    exact CW _ _
   have hbnd: ∀k,k≤e→AJ ((dd.take k).drop lo)<1000000:=fun k hk=>by
    have h1:=F0 ((dd.take k).drop lo).length (s:=(dd.take k).drop lo) rfl fun b hb=>hdg b (List.mem_of_mem_take (List.mem_of_mem_drop hb))
    have h2:((dd.take k).drop lo).length≤6:=by rw[List.length_drop,List.length_take];omega
    exact Nat.lt_of_lt_of_le h1 (show _≤10^6 from Nat.pow_le_pow_right (by decide) h2)
   have l1:=hbnd i hi2
   have l2:=hbnd (i+1) hie
   refine wP I (wP I (wV 29 ((10*AJ ((dd.take i).drop lo):Nat):Int) I (show w64 (10*(AJ ((dd.take i).drop lo):Nat))=_ by rw[Ap (by omega) (by omega)];omega) (wP I (wP I ?_))))
   refine Bi i tH I I I I I I I I hb ?_
   refine wP I ?_
   refine Ao 33 (.int .u8 ((b.toNat-48:Nat):Int)) I (congrArg (Value.int .u8) (by show IntKind.u8.wrap (((b.toNat:Nat):Int)-48)=_;rw[show((b.toNat:Nat):Int)-48=((b.toNat-48:Nat):Int) by omega,PU (by omega) (by omega)])) ?_
   refine J4 Tryz.underlying5 Tryz.underlying3 I I I I ?_
   exact wV 34 ((b.toNat-48:Nat):Int) I (BB (by omega)) (wP I (wV 35 ((AJ ((dd.take (i+1)).drop lo):Nat):Int) I (show w64 (((10*AJ ((dd.take i).drop lo):Nat):Int)+((b.toNat-48:Nat):Int))=_ by rw[Ap (by omega) (by omega),e1];omega) (wP I (Aa (zN (zE (zB (wP I (wP I (wV 27 ((i+1:Nat):Int) I (Ax (by omega)) (wP I (Aa (Al (i+1) ⟨by show lo≤i+1;omega,hie⟩ (by show e-(i+1)<e-i;omega) ⟨I,I,I,I,I,I,tO⟩ [] I)))))))))))))
  ·have hie:i=e:=by omega
   subst hie
   refine wU 25 false I (dF (by omega)) (Aa (zE (zS I (zJ (zK (zK (zL (zE (zB ?_)))))))))
   rw[hlim]
   refine wP I (wB 1 I I I (wP I ?_))
   refine At Tryz.hZ tH I I I I I I I I I I I fun bN=> ?_
   refine AH (V:=V) (len:=j) (xs:=nI (rdL m j)) 2 3 Tryz.vec162 (j+1) (nI (rdL m (j+1))) I I I I I I I I I I I hV I I I (by rw[QB,Iy];rfl) (by simp only[maxLen];omega) (by omega) I ?_
   intro g1 c1 j1 hV1
   exact wP I (wS 1 I I I (Aa (zN (zE (zB (wP I (wP I (wV 19 ((dd.length:Int)-6*((j+1:Nat):Int)) I (by show w64 (((i:Nat):Int)-6)=_;rw[Ap (by omega) (by omega)];omega) (wP I (Aa (Al (j+1,⟨some g1,c1,j1⟩) ⟨hV1,by show 6*(j+1)<_;omega⟩ (by show dd.length+6-6*(j+1)<dd.length+6-6*j;omega) ⟨I,I,I,I,tO⟩ _ I)))))))))))
 ·refine wU 17 false I (dF (by show¬(dd.length:Int)-6*(j:Nat)>0;omega)) (Aa (zE (zS I (zJ (zK (zK (zL (zE (zA (zB ?_))))))))))
  obtain⟨pV,cV,jV⟩:=V
  cases pV with
  |none=>have:=hV.nil rfl;omega
  |some g=>
  have hval:lv br (rdL m j)=m:=by
   rw[SE,JH]
   exact Nat.mod_eq_of_lt (Nat.lt_of_lt_of_le hmlt (Nat.pow_le_pow_right (by decide) (by omega)))
  have hV2:(⟨some g,cV,jV⟩:Vec).OK 1 (rdL m j).length (nI (rdL m j)):=by rw[KE];exact hV
  obtain⟨j2,hj1,hj2⟩:=DD hV2 (Vf m j)
  rw[hval] at hj1 hj2
  refine wP I (wB 1 I I I ?_)
  refine Ao 43 (slv (some ⟨g,0,none⟩) (rdL m j).length cV) I (by rw[KE];rfl) ?_
  refine wC I I (fun W' hp=>(Cz W' (some ⟨g,0,none⟩) cV (rdL m j) (A4.of_bx hp 2 I) (Vf m j) (by have:=(hV2.cap (by simp)).1;exact this) (by rw[KE];omega)).cast (v':=slv (some ⟨g,0,none⟩) (lbs br m).length cV) (by rw[hval])) (wP I (wS 1 I I I (Aa (zE (zA (zB (wB 1 I I I (wS 0 I I I (Aa (zE (zO ?_)))))))))))
  subst hm
  exact Ay tH I (.cell 0 I I I I I) ((g,cV,j2):NV) I hj1 fun W hp=>As.of_hp1 hp 2 (by
   show some (⟨g,3,nI (rdL z.natAbs j)++jV,true,none⟩:Bx)=some (⟨g,3,nI (lbs br z.natAbs)++j2,true,none⟩:Bx)
   rw[hj2])
def FA (m:Nat):Nat→List UInt8
 |0=>[]
 |d+1=>UInt8.ofNat (48+m/10^d%10)::FA m d
theorem Jk (m:Nat): ∀d,(FA m d).length=d
 |0=>rfl
 |d+1=>by show(FA m d).length+1=_;rw[Jk m d]
theorem Ql (m:Nat): ∀(d i:Nat),i<d→(FA m d)[d-1-i]? =some (UInt8.ofNat (48+m/10^i%10))
 |0,_,h=>absurd h (Nat.not_lt_zero _)
 |d+1,i,h=>by
  by_cases e:i=d
  ·subst e
   rw[show i+1-1-i=0 by omega];rfl
  ·rw[show d+1-1-i=(d-1-i)+1 by omega]
   show(_::FA m d)[_+1]? =_
   rw[List.getElem?_cons_succ]
   exact Ql m d i (by omega)
theorem Ws {m d:Nat} (h:(decDigits m).length≤d):FA m d=List.replicate (d-(decDigits m).length) 48++decDigits m:=by
 apply List.ext_getElem?
 intro t
 by_cases ht:t<d
 ·have h1:=Ql m d (d-1-t) (by omega)
  rw[show d-1-(d-1-t)=t by omega] at h1
  rw[h1]
  by_cases h2:t<d-(decDigits m).length
  ·rw[List.getElem?_append_left (by rw[List.length_replicate];exact h2),List.getElem?_replicate_of_lt h2]
   have h3:m/10^(d-1-t)=0:=Nat.div_eq_of_lt (Nat.lt_of_lt_of_le (Gi m) (Nat.pow_le_pow_right (by decide) (by omega)))
   rw[h3];rfl
  ·rw[List.getElem?_append_right (by rw[List.length_replicate];omega),List.length_replicate]
   have h3:=UX (n:=m) (i:=d-1-t) (by omega)
   rw[←h3]
   congr 1;omega
 ·rw[List.getElem?_eq_none (by rw[Jk];omega),List.getElem?_eq_none (by rw[List.length_append,List.length_replicate];omega)]
theorem UV {m i k:Nat} (hk:k<6):m/br^i%br/10^k%10=m/10^(6*i+k)%10:=by
 rw[Nat.pow_add, ←JH, ←Nat.div_div_eq_div_mul]
 generalize m/br^i=x
 have h:k=0∨k=1∨k=2∨k=3∨k=4∨k=5:=by omega
 show x%1000000/10^k%10=x/10^k%10
 rcases h with rfl|rfl|rfl|rfl|rfl|rfl<;>simp only[Nat.reducePow,Nat.div_one]<;>omega
theorem IM (z:Int) (hl:(decDigits z.natAbs).length≤606) (W:World) (p:Option Addr) (cap:Nat) (hA:A4 W p (lbs br z.natAbs)):
  Ad Tryz.prog 240 #[.agg #[.bool (decide (z<0)),slv p (lbs br z.natAbs).length cap]] W (fun _:Unit=>str (itoa z)) (fun _=>True) (fun _=>[]):=by
 obtain⟨m,hm⟩: ∃m,z.natAbs=m:=⟨_,rfl⟩
 rw[hm] at hl hA⊢
 obtain⟨L,hL⟩: ∃L,(lbs br m).length=L:=⟨_,rfl⟩
 have hL101:L≤101:=by rw[←hL];exact Fc hl
 have hml:m<br^L:=by rw[←hL];exact AF br2 m
 refine Ab (args:=[.agg #[.bool (decide (z<0)),slv p (lbs br m).length cap]]) Tryz.func240 I I I ?_
 rw[hL]
 refine zA (zB ?_)
 (refine Ak rfl rfl rfl rfl ?_;intro)
 refine wP I (Aa ?_)
 rename_i b1
 refine zE (zA (zA (zB (wP I (wB 0 I I I (wP I (wP I ?_)))))))
 by_cases hm0:m=0
 ·have hL0:L=0:=by rw[←hL,hm0,AX];rfl
  have hz:z=0:=by omega
  exact wU 10 true I (by rw[beq_iff_eq,hL0];rfl) (Aa (zE (zR I (zA (zB (wP I (Aa (zE (zO (zP (wR1 I I (by rw[hz,CX]))))))))))))
 have hL0:L≠0:=fun e=>hm0 ((Dp br2).1 (List.length_eq_zero_iff.1 (hL.trans e)))
 refine wU 10 false I (by rw[beq_eq_false_iff_ne];omega) (Aa (zE (zS I (zI (zE (zA (zB ?_)))))))
 obtain⟨K,hK⟩: ∃K,K=6*L:=⟨_,rfl⟩
 refine wP I (wB 0 I I I (wP I (wP I (wV 14 (K:Nat) I (by show w64 (6*(L:Int))=_;rw[Ap (by omega) (by omega)];omega) ?_))))
 refine Cg Tryz.vec284 K I I I I I I I (by simp only[maxLen];omega) (by omega) ?_
 intro g
 refine wP I (Aa (zE (zA (zA (zB (wP I (Aa (A8 ?_))))))))
 try refine Az ?_
 refine AC (X:=Unit) (fun _=>[(1,Af b1),(3, .slice (some ⟨g,0,none⟩) K K)]) (fun _=>[⟨b1,164,[.bool (decide (z<0)),slv p L cap],true,none⟩,⟨g,5,zrV 0++byV (FA m K),true,none⟩]) (fun _=>True) ?_ ?_
 ·refine zH ?_
  refine Aw (X:=Nat) (fun i=>[(1,Af b1),(3, .slice (some ⟨g,0,none⟩) K K),(4, .int .i64 (i:Nat))]) (fun i=>[⟨b1,164,[.bool (decide (z<0)),slv p L cap],true,none⟩,⟨g,5,zrV (K-6*i)++byV (FA m (6*i)),true,none⟩]) (fun i=>i≤L) (fun i=>L-i) 0 (Nat.zero_le _) ⟨I,I,I,tO⟩ [] (by show _=[_,(⟨g,5,zrV (K-0)++[],true,none⟩:Bx)]++[];simp only[List.append_nil,Nat.sub_zero];rfl) ?_
  intro i hi
  have hi:i≤L:=hi
  refine zA (zA (zB (wP I (wP I (wB 0 I I I (wP I (wP I ?_)))))))
  by_cases hiL:i<L
  ·refine wU 20 true I (dT (by omega)) (Aa (zE (zR I (zI (zE (zA (zH (zA (zB ?_)))))))))
   obtain⟨bA,oA,rfl,rA⟩:=hA.row (show i<(lbs br m).length by omega)
   have rA:=rA i (by omega)
   rw[AZ br2] at rA
   obtain⟨v,hv⟩: ∃v,v=m/br^i%br:=⟨_,rfl⟩
   rw[←hv] at rA
   have hvb:v<1000000:=by rw[hv];exact Nat.mod_lt _ (by decide)
   refine wP I (wB 0 I I I (wP I ?_))
   refine wJ ?_
   refine wL 0 I I (fun W hp=>rA.hp hp) I (wP I (Aa (zE (zA (zB (wP I (Aa (zE (zH ?_)))))))))
   refine Aw (X:=Nat) (fun k=>[(1,Af b1),(3, .slice (some ⟨g,0,none⟩) K K),(4, .int .i64 (i:Nat)),(5, .int .i64 ((v/10^k:Nat):Int)),(6, .int .i64 ((k+1:Nat):Int))]) (fun k=>[⟨b1,164,[.bool (decide (z<0)),slv (some ⟨bA,oA,none⟩) L cap],true,none⟩,⟨g,5,zrV (K-(6*i+k))++byV (FA m (6*i+k)),true,none⟩]) (fun k=>k≤6) (fun k=>6-k) 0 (by decide) ⟨I,I,I,by show some _=some (Value.int .i64 ((v/1:Nat):Int));rw[Nat.div_one],I,tO⟩ [] I ?_
   intro k hk
   have hk:k≤6:=hk
   refine zA (zA (zB (wP I (wP I ?_))))
   by_cases hk6:k<6
   ·refine wU 29 true I (dT (by show((k+1:Nat):Int)≤6;omega)) (Aa (zE (zR I (zI (zE (zA (zH (zA (zB ?_)))))))))
    obtain⟨u,hu⟩: ∃u,u=v/10^k:=⟨_,rfl⟩
    have hub:u<1000000:=by rw[hu];exact Nat.lt_of_le_of_lt (Nat.div_le_self ..) hvb
    have hdig:u%10=m/10^(6*i+k)%10:=by rw[hu,hv];exact UV hk6
    have hu2:v/10^(k+1)=u/10:=by rw[hu,Nat.pow_succ,Nat.div_div_eq_div_mul]
    obtain⟨d,hd⟩: ∃d,d=6*i+k:=⟨_,rfl⟩
    have hdK:d<K:=by omega
    rw[←hu, ←hd]
    rw[←hd] at hdig
    iterate 5 refine wP I ?_
    refine wV 36 ((6*i:Nat):Int) I (by show w64 (6*(i:Int))=_;rw[Ap (by omega) (by omega)];omega) (wP I (wV 37 ((K-6*i:Nat):Int) I (by show w64 ((K:Int)-((6*i:Nat):Int))=_;rw[Ap (by omega) (by omega)];omega) (wP I (wP I (wV 39 ((K-d-1:Nat):Int) I (by show w64 (((K-6*i:Nat):Int)-((k+1:Nat):Int))=_;rw[Ap (by omega) (by omega)];omega) (wP I ?_))))))
    refine Gq I I I I I (by decide) ?_
    refine wV 41 ((u%10:Nat):Int) I (show Int.tmod (u:Nat) ((10:Nat):Int)=_ from(Int.ofNat_tmod _ _).symm) (wP I (wV 42 ((48+u%10:Nat):Int) I (show w64 (48+((u%10:Nat):Int))=_ by rw[Ap (by omega) (by omega)];omega) ?_))
    refine XK Tryz.underlying3 Tryz.underlying5 I I I I ?_
    refine Ao 43 (.int .u8 ((UInt8.ofNat (48+m/10^d%10)).toNat:Int)) I (congrArg (Value.int .u8) (by rw[XH u,hdig])) ?_
    refine wJ ?_
    refine AE 1 (zrV (K-d-1)++byV (FA m (d+1))) tH I I I I I I I I I I (by show 0+(K-d-1)*1+1≤(zrV (K-d)++byV (FA m d)).length;rw[List.length_append,KL];omega) (by
     show Bw (zrV (K-d)++byV (FA m d)) _ _=_
     rw[show K-d=K-d-1+1 by omega]
     exact VI) ?_
    refine Aa (zE (zB (wP I ?_)))
    refine EV I I I I I (by decide) ?_
    exact wV 46 ((u/10:Nat):Int) I (show w64 (Int.tdiv (u:Nat) ((10:Nat):Int))=_ by rw[←Int.ofNat_tdiv,Ap (by omega) (by omega)]) (wP I (Aa (zN (zE (zB (wP I (wP I (wV 31 ((k+1+1:Nat):Int) I (Ax (by omega)) (wP I (Aa (Al (k+1) hk6 (by show 6-(k+1)<6-k;omega) ⟨I,I,I,by show some _=some (Value.int .i64 ((v/10^(k+1):Nat):Int));rw[hu2],I,tO⟩ [] (by show _=[_,(⟨g,5,zrV (K-(6*i+(k+1)))++byV (FA m (6*i+(k+1))),true,none⟩:Bx)]++[];rw[show 6*i+(k+1)=d+1 by omega,show K-(d+1)=K-d-1 by omega];rfl))))))))))))
   ·have hk6:k=6:=by omega
    subst hk6
    refine wU 29 false I (dF (by decide)) (Aa (zE (zS I (zJ (zK (zK (zL (zN (zE (zB (wP I (wP I (wV 22 ((i+1:Nat):Int) I (Ax (by omega)) ?_)))))))))))))
    exact wP I (Aa (Al (i+1) hiL (by show L-(i+1)<L-i;omega) ⟨I,I,I,tO⟩ [] (by show _=[_,(⟨g,5,zrV (K-6*(i+1))++byV (FA m (6*(i+1))),true,none⟩:Bx)]++[];rw[show 6*(i+1)=6*i+6 by omega];rfl)))
  ·have hiL:i=L:=by omega
   subst hiL
   exact wU 20 false I (dF (by omega)) (Aa (zE (zS I (zJ (zK (zK (zL (An () tO ⟨I,I,tO⟩ [] (by rw[←hK,Nat.sub_self];rfl)))))))))
 intro _ _
 obtain⟨nd,hnd⟩: ∃nd,(decDigits m).length=nd:=⟨_,rfl⟩
 have hndK:nd≤K:=by
  rw[←hnd]
  refine CM K m (by omega) ?_
  rw[hK, ←JH];exact hml
 have hnd0:0<nd:=by rw[←hnd];exact List.length_pos_iff.2 (Gj _)
 have hlow:=Ws (m:=m) (d:=K) (by rw[hnd];exact hndK)
 rw[hnd] at hlow
 have hgetB: ∀j,j<K→ ∃b,(FA m K)[j]? =some b∧(zrV 0++byV (FA m K))[0+j]? =some (.int .u8 (b.toNat:Int)):=fun j hj=>by
  refine⟨(FA m K)[j]'(by rw[Jk];exact hj),List.getElem?_eq_getElem _, ?_⟩
  exact Wn (k:=0) (by rw[Jk];exact hj)
 try refine A8 ?_
 try refine Az ?_
 refine AC (X:=Unit) (fun _=>[(1,Af b1),(3, .slice (some ⟨g,K-nd,none⟩) nd nd)]) (fun _=>[⟨b1,164,[.bool (decide (z<0)),slv p L cap],true,none⟩,⟨g,5,zrV 0++byV (FA m K),true,none⟩]) (fun _=>True) ?_ ?_
 ·refine zH ?_
  refine Aw (X:=Nat) (fun j=>[(1,Af b1),(3, .slice (some ⟨g,j,none⟩) (K-j) (K-j))]) (fun _=>[⟨b1,164,[.bool (decide (z<0)),slv p L cap],true,none⟩,⟨g,5,zrV 0++byV (FA m K),true,none⟩]) (fun j=>j≤K-nd) (fun j=>K-nd-j) 0 (Nat.zero_le _) ⟨I,I,tO⟩ [] I ?_
  intro j hj
  have hj:j≤K-nd:=hj
  obtain⟨b,hb,hbc⟩:=hgetB j (by omega)
  rw[Nat.zero_add] at hbc
  have hrow: ∀W1 bxs,Hp W bxs W1→nth bxs 1=some (⟨g,5,zrV 0++byV (FA m K),true,none⟩:Bx)→Ai W1 g j [.int .u8 (b.toNat:Int)]:=fun W1 bxs hp h1=>by
   have h:=Ai.of_bx hp 1 h1 rfl
   exact⟨h.lt,fun t u hu=>by
    have ht:t=0:=by have:=(List.getElem?_eq_some_iff.1 hu).1;simpa using this
    subst ht
    have hu:u= .int .u8 (b.toNat:Int):=by simpa using hu.symm
    rw[hu]
    have:=h.get j _ hbc
    rwa [Nat.zero_add] at this⟩
  refine zA (zA (zB (wP I (wI I I (by decide) (by show(0:Int)<((K-j:Nat):Int);omega) ?_))))
  refine Ao 48 (.pointer (some ⟨g,j,none⟩)) I I ?_
  refine wL 0 I I (fun W1 hp=>hrow W1 _ hp I) I (wP I (wU 50 (decide (b=48)) I (Fv b 48) (Aa (zE ?_))))
  refine Aj I (fun h48=> ?_) (fun h48=> ?_)
  ·have h48:b=48:=of_decide_eq_true h48
   have hjl:j<K-nd:=by
    rcases Nat.lt_or_ge j (K-nd) with h|h
    ·exact h
    ·have e:j=K-nd:=by omega
     rw[hlow,List.getElem?_append_right (by rw[List.length_replicate];omega),List.length_replicate,e,Nat.sub_self,h48] at hb
     exact absurd (Vl hb) hm0
   refine zI (zE (zH (zB (wP I ?_))))
   refine Dw 1 tH I I I I I I I I (by show 1≤K-j;omega) (Nat.le_refl _) ?_
   refine Ao 52 (.slice (some ⟨g,j+1,none⟩) (K-(j+1)) (K-(j+1))) I (by rw[if_neg (show¬K-j=1 by omega)];show Value.slice (some ⟨g,j+1*1,none⟩) (K-j-1) (K-j-1)=_;rw[show K-(j+1)=K-j-1 by omega]) ?_
   exact wP I (Aa (zN (Al (j+1) hjl (by show K-nd-(j+1)<K-nd-j;omega) ⟨I,I,tO⟩ [] I)))
  ·have h48: ¬b=48:=of_decide_eq_false h48
   have e:j=K-nd:=by
    rcases Nat.lt_or_ge j (K-nd) with h|h
    ·rw[hlow,List.getElem?_append_left (by rw[List.length_replicate];exact h),List.getElem?_replicate_of_lt h] at hb
     exact absurd (Option.some.inj hb).symm h48
    ·omega
   exact zJ (zK (zK (zL (An () tO ⟨I,by rw[e,show K-(K-nd)=nd by omega];rfl,tO⟩ [] I))))
 intro _ _
 have hbytes: ∀j (hj:j<(decDigits m).length),(zrV 0++byV (FA m K))[K-nd+j]? =some (.int .u8 ((decDigits m)[j].toNat:Int)):=fun j hj=>by
  obtain⟨b,hb,hbc⟩:=hgetB (K-nd+j) (by omega)
  rw[Nat.zero_add] at hbc
  rw[hbc]
  rw[hlow,List.getElem?_append_right (by rw[List.length_replicate];omega),List.length_replicate,Nat.add_sub_cancel_left,List.getElem?_eq_getElem hj] at hb
  rw[Option.some.inj hb]
 refine zA (zA (zB (wP I (wB 0 I I I (Aa (zE ?_))))))
 refine Aj I (fun hn=> ?_) (fun hn=> ?_)
 ·have hn:z<0:=of_decide_eq_true hn
  refine zA (zB (wP I ?_))
  refine Kl 1 (decDigits m) (e:=5) (by kernel_rfl) Tryz.underlying5 (by kernel_rfl) I I I I I I hnd.symm hbytes ?_
  refine Ei I I I I I (a:=[45]) (b:=decDigits m) (by decide) (by omega) ?_
  exact wP I (Aa (zE (zO (zP (wR1 I I (by rw[Dl,hm];unfold Ie;rw[if_pos hn]))))))
 ·have hn: ¬z<0:=of_decide_eq_false hn
  refine zI (zE (zA (zB (wP I ?_))))
  refine Kl 1 (decDigits m) (e:=5) (by kernel_rfl) Tryz.underlying5 (by kernel_rfl) I I I I I I hnd.symm hbytes ?_
  exact wP I (Aa (zE (zO (wR1 I I (by rw[Dl,hm];unfold Ie;rw[if_neg hn];rfl)))))
theorem HY (z:Int) (hl:(decDigits z.natAbs).length≤300) (W:World) (p:Option Addr) (cap:Nat) (hA:A4 W p (lbs br z.natAbs)):
  Ad Tryz.prog 178 #[.agg #[.bool (decide (z<0)),slv p (lbs br z.natAbs).length cap]] W (fun _:Unit=> .tuple #[str (itoa z), .int .i64 0]) (fun _=>True) (fun _=>[]):=by
 refine Ab (args:=[.agg #[.bool (decide (z<0)),slv p (lbs br z.natAbs).length cap]]) Tryz.func178 I I I ?_
 refine zA (zB ?_)
 (refine Ak rfl rfl rfl rfl ?_;intro)
 refine wP I (wP I (Aa (zE (zA (zB (wB 0 I I I (wC I I (fun W hp=>IM z (by omega) W p cap (hA.hp hp)) (wP I (Aa (zE (zA (zA (zB ?_)))))))))))))
 refine wP I (wC I I (fun W _=>G0 z hl W) (wP I (Aa (zE (zS I (zI (zE (zA (zB (wP I (wP I (wP I (Aa ?_)))))))))))))
 exact zE (zO (wR2 I I I))
-- BOXES 6
-- CODE2
abbrev IZ (z:Int) (p:Option Addr) (cap:Nat):Value:= .agg #[.bool (decide (z<0)),slv p (lbs br z.natAbs).length cap]
abbrev M7 (b:Nat) (z:Int) (p:Option Addr) (cap:Nat):Bx:=⟨b,164,[.bool (decide (z<0)),slv p (lbs br z.natAbs).length cap],true,none⟩
theorem R3 (z:Int) (W:World) (p:Option Addr) (cap:Nat):Ad Tryz.prog 113 #[IZ z p cap] W (fun _:Unit=>IZ (-z) p cap) (fun _=>True) (fun _=>[]):=by
 obtain⟨n,hn⟩: ∃n,z.natAbs=n:=⟨_,rfl⟩
 refine Ab (args:=[IZ z p cap]) Tryz.func113 I I I ?_
 unfold IZ
 rw[Int.natAbs_neg,hn]
 refine zA (zB ?_)
 (refine Ak rfl rfl rfl rfl ?_;intro)
 (refine Ae Tryz.hZ rfl rfl rfl rfl ?_;intro)
 refine Aa (zE (zA (zA (zB (wP I (wB 0 I I I (wP I (wP I ?_))))))))
 by_cases h0:n=0
 ·have hz:z=0:=by omega
  exact wU 6 true I (by rw[h0,AX];rfl) (Aa (zE (zR I (zA (zB (wB 0 I I I (wS 1 I I I (Aa (zE (zO (zP (Ay tH I (.cell 1 I I I I I) () (by rw[hz];rfl) tO fun W _=>As.nil _ _))))))))))))
 ·have hL:(lbs br n).length≠0:=fun e=>h0 ((Dp br2).1 (List.length_eq_zero_iff.1 e))
  refine wU 6 false I (by rw[beq_eq_false_iff_ne];omega) (Aa (zE (zS I (zI (zE (zA (zB (wP I (wB 0 I I I (wP I (wP I (wB 0 I I I ?_))))))))))))
  refine Au Tryz.hZ tH I I I I I I I I ?_
  refine wS 1 I I I (Aa (zE (zO ?_)))
  exact Ay tH I (.cell 1 I I I I I) () (by
   show Value.agg #[.bool (!decide (z<0)),_]=_
   have e:(!decide (z<0))=decide (-z<0):=by
    by_cases h:z<0
    ·rw[dT h,dF (by omega)];rfl
    ·rw[dF h,dT (by omega)];rfl
   rw[e]) trivial fun W _=>As.nil _ _
theorem RV (a b:Int) (W:World) (p q:Option Addr) (cap cap2:Nat) (hA:A4 W p (lbs br a.natAbs)) (hB:A4 W q (lbs br b.natAbs)) (hna:(lbs br a.natAbs).length≤1000) (hnb:(lbs br b.natAbs).length≤1000):
  Ad Tryz.prog 111 #[IZ a p cap,IZ b q cap2] W (fun x:NV=>Xp (a+b) x) (fun x=>BW x (lbs br (a+b).natAbs)) (fun x=>[B3 x (lbs br (a+b).natAbs)]):=by
 refine Ab (args:=[IZ a p cap,IZ b q cap2]) Tryz.func111 I I I ?_
 refine zA (zB ?_)
 (refine Ak rfl rfl rfl rfl ?_;intro)
 (refine Ak rfl rfl rfl rfl ?_;intro)
 (refine Ae Tryz.hZ rfl rfl rfl rfl ?_;intro)
 refine Aa ?_
 rename_i b2 b3 b4
 refine zE (zA (zA (zB (wP I (wB 0 I I I (wP I (wB 1 I I I ?_)))))))
 by_cases hs:decide (a<0)=decide (b<0)
 ·refine DX (c:=true) Tryz.underlying4 I I I I I (congrArg some (by rw[hs];exact beq_self_eq_true _)) ?_
  refine Aa ?_
  have en:(a+b).natAbs=a.natAbs+b.natAbs:=by
   by_cases h1:a<0<;>by_cases h2:b<0<;>simp[h1,h2] at hs<;>omega
  have es:decide (a<0)=decide (a+b<0):=by
   by_cases h1:a<0<;>by_cases h2:b<0<;>simp[h1,h2] at hs⊢ <;>omega
  refine zE (zR I (Az ?_))
  refine AV (X:= { x:NV//BW x (lbs br (a+b).natAbs) }) [true,true,true,true,true,true,false,false,false] (fun _=>[(4,Af b4)]) (fun x=>[M7 b2 a p cap,M7 b3 b q cap2,⟨b4,164,[.bool (decide (a+b<0)),B2 x.1 (lbs br (a+b).natAbs).length],true,none⟩,B3 x.1 (lbs br (a+b).natAbs)])
   3 [M7 b2 a p cap,M7 b3 b q cap2,⟨b4,164,[.bool false, .slice none 0 0],true,none⟩] Tryz.mixed (by kernel_rfl) ?_ ?_
  ·refine qP I (qB 0 I I I (qP I (qB 0 I I I (qP I (qB 1 I I I (BU (wX (wZ ?_))))))))
   refine wD (X:=NV) rfl rfl (fun W' hp=>Qo W' p q cap cap2 a.natAbs b.natAbs (hA.hp hp) (hB.hp hp) (by omega) (by omega)) ?_;intro x hx
   refine Aa (Ag (wX (wZ ?_)))
   refine Au Tryz.hZ tH I I I I I I I I ?_
   refine Aa (Ag (wX (wZ (wS 2 I I I (Aa (Ag ?_))))))
   rw[←en] at hx⊢;first|refine AG rfl (by((repeat (first|refine AI.same ?_|refine AI.off rfl ?_));exact trivial)) ?_|refine AP rfl (by kernel_rfl) ?_
   exact A6 ⟨x,hx⟩ ⟨I,tO⟩ [0,1,2,3] (by decide) (by rw[es];rfl)
  rintro⟨x,hx⟩
  exact zE (zO (zP (Ay tH I (.cell 2 I I I I I) x I hx fun W hp=>As.of_hp1 hp 3 I)))
 refine DX (c:=false) Tryz.underlying4 I I I I I (congrArg some (beq_eq_false_iff_ne.2 hs)) ?_
 refine Aa (zE (zS I (zI (zE (zA (zA (zB (wP I (wB 0 I I I (wP I (wB 1 I I I (wC I I (fun W' hp=>Kn W' p q cap cap2 a.natAbs b.natAbs (hA.hp hp) (hB.hp hp) (by omega) (by omega)) (wP I ?_)))))))))))))
 refine wU 24 (decide (a.natAbs<b.natAbs)) I (decide_eq_decide.2 (by unfold Lu;split<;>(try split)<;>omega)) (Aa (A8 ?_))
 try refine Az ?_
 refine AC (X:=(Int×Option Addr×Nat)×(Int×Option Addr×Nat)) (fun _=>[(2,Af b2),(3,Af b3),(4,Af b4)]) (fun x=>[M7 b2 x.1.1 x.1.2.1 x.1.2.2,M7 b3 x.2.1 x.2.2.1 x.2.2.2,⟨b4,164,[.bool false, .slice none 0 0],true,none⟩])
  (fun x=>A4 W x.1.2.1 (lbs br x.1.1.natAbs)∧A4 W x.2.2.1 (lbs br x.2.1.natAbs)∧x.2.1.natAbs≤x.1.1.natAbs∧x.1.1+x.2.1=a+b∧(decide (x.1.1<0)≠decide (x.2.1<0))∧(lbs br x.1.1.natAbs).length≤1000) ?_ ?_
 ·refine Aj I (fun h=> ?_) (fun h=> ?_)
  ·have h:a.natAbs<b.natAbs:=of_decide_eq_true h
   exact zB (wB 1 I I I (wB 0 I I I (wS 0 I I I (wS 1 I I I (Aa (An ((b,q,cap2),(a,p,cap)) ⟨hB,hA,Nat.le_of_lt h,Int.add_comm ..,Ne.symm hs,hnb⟩ ⟨I,I,I,tO⟩ [] I))))))
  ·have h: ¬a.natAbs<b.natAbs:=of_decide_eq_false h
   exact zI (An ((a,p,cap),(b,q,cap2)) ⟨hA,hB,by show b.natAbs≤a.natAbs;omega,I,hs,hna⟩ ⟨I,I,I,tO⟩ [] I)
 rintro⟨⟨u,pu,cu⟩,⟨v,pv,cv⟩⟩ ⟨hU,hV,hle,hsum,hsg,hul⟩
 have hU:A4 W pu (lbs br u.natAbs):=hU
 have hV:A4 W pv (lbs br v.natAbs):=hV
 have hle:v.natAbs≤u.natAbs:=hle
 have hsum:u+v=a+b:=hsum
 have hsg:decide (u<0)≠decide (v<0):=hsg
 have hul:(lbs br u.natAbs).length≤1000:=hul
 have en:(a+b).natAbs=u.natAbs-v.natAbs:=by
  rw[←hsum]
  by_cases h1:u<0<;>by_cases h2:v<0<;>simp[h1,h2] at hsg<;>omega
 have es:(a+b).natAbs≠0→decide (u<0)=decide (a+b<0):=fun h0=>by
  rw[←hsum] at h0⊢
  by_cases h1:u<0<;>by_cases h2:v<0<;>simp[h1,h2] at hsg⊢ <;>omega
 refine Az ?_
 refine AV (X:= { y:Nat×NV//BW y.2 (lbs br (a+b).natAbs) }) [true,true,true,true,true,true,false,false,false,false] (fun y=>[(4,Af b4),(5,Af y.1.1)]) (fun y=>[⟨b4,164,[.bool false, .slice none 0 0],true,none⟩,⟨y.1.1,164,[.bool (decide (u<0)),B2 y.1.2 (lbs br (a+b).natAbs).length],true,none⟩,B3 y.1.2 (lbs br (a+b).natAbs)])
  4 [M7 b2 u pu cu,M7 b3 v pv cv,⟨b4,164,[.bool false, .slice none 0 0],true,none⟩] Tryz.mixed (by kernel_rfl) ?_ ?_
 ·refine qP I (qB 0 I I I (qP I (qB 0 I I I (qP I (qB 1 I I I (BU (wX ?_)))))))
  refine RS.cons ?_ (RS.cons ?_ (RS.nil))
  ·refine wD (X:=NV) rfl rfl (fun W' hp=>EI W' pu pv cu cv u.natAbs v.natAbs hle (hU.hp hp) (hV.hp hp) (by omega)) ?_;intro x hx
   refine Aa (Ag (wX ?_))
   refine RS.cons ?_ (RS.cons ?_ (RS.nil))
   ·refine Au Tryz.hZ tH I I I I I I I I ?_
    refine Aa (Ag (wX (wZ ?_)))
    refine Ae Tryz.hZ rfl rfl rfl rfl ?_;intro b5
    refine Aa (Ag (wX (wZ (wS 4 I I I (Aa (Ag ?_))))))
    rw[←en] at hx⊢;first|refine AG rfl (by((repeat (first|refine AI.same ?_|refine AI.off rfl ?_));exact trivial)) ?_|refine AP rfl (by kernel_rfl) ?_
    exact A6 ⟨(b5,x),hx⟩ ⟨I,I,tO⟩ [2,4,3] (by decide) I
   ·refine Ae Tryz.hZ rfl rfl rfl rfl ?_;intro b5
    refine Aa (Ag (wX (wZ ?_)))
    refine Au Tryz.hZ tH I I I I I I I I ?_
    refine Aa (Ag (wX (wZ (wS 4 I I I (Aa (Ag ?_))))))
    rw[←en] at hx⊢;first|refine AG rfl (by((repeat (first|refine AI.same ?_|refine AI.off rfl ?_));exact trivial)) ?_|refine AP rfl (by kernel_rfl) ?_
    exact A6 ⟨(b5,x),hx⟩ ⟨I,I,tO⟩ [2,4,3] (by decide) I
  ·refine Ae Tryz.hZ rfl rfl rfl rfl ?_;intro b5
   refine Aa (Ag (wX (wZ ?_)))
   refine wD (X:=NV) rfl rfl (fun W' hp=>EI W' pu pv cu cv u.natAbs v.natAbs hle (hU.hp hp) (hV.hp hp) (by omega)) ?_;intro x hx
   refine Aa (Ag (wX (wZ ?_)))
   refine Au Tryz.hZ tH I I I I I I I I ?_
   refine Aa (Ag (wX (wZ (wS 3 I I I (Aa (Ag ?_))))))
   rw[←en] at hx⊢;first|refine AG rfl (by((repeat (first|refine AI.same ?_|refine AI.off rfl ?_));exact trivial)) ?_|refine AP rfl (by kernel_rfl) ?_
   exact A6 ⟨(b5,x),hx⟩ ⟨I,I,tO⟩ [2,3,4] (by decide) I
 rintro⟨⟨b5,x⟩,hx⟩
 have hx:BW x (lbs br (a+b).natAbs):=hx
 refine zE (zA (zA (zB (wP I (wB 1 I I I (wP I (wP I ?_)))))))
 refine Ao 38 (.bool (decide ((a+b).natAbs=0))) I (congrArg Value.bool (by
  by_cases h0:(a+b).natAbs=0
  ·rw[dT h0,h0,AX];rfl
  ·have hL:(lbs br (a+b).natAbs).length≠0:=fun e=>h0 ((Dp br2).1 (List.length_eq_zero_iff.1 e))
   rw[dF h0,beq_eq_false_iff_ne];omega)) ?_
 refine Aa (A8 ?_)
 try refine Az ?_
 refine AC (X:=Unit) (fun _=>[(4,Af b4),(5,Af b5)]) (fun _=>[⟨b4,164,[.bool false, .slice none 0 0],true,none⟩,⟨b5,164,[.bool (decide (a+b<0)),B2 x (lbs br (a+b).natAbs).length],true,none⟩,B3 x (lbs br (a+b).natAbs)]) (fun _=>True) ?_ ?_
 ·refine Aj I (fun h=> ?_) (fun h=> ?_)
  ·have h:(a+b).natAbs=0:=of_decide_eq_true h
   exact zB (wP I (wS 1 I I I (Aa (An () tO ⟨I,I,tO⟩ [] (by rw[dF (show¬a+b<0 by omega)];rfl)))))
  ·have h: ¬(a+b).natAbs=0:=of_decide_eq_false h
   exact zI (An () tO ⟨I,I,tO⟩ [] (by rw[←es h];rfl))
 intro _ _
 exact zA (zB (wB 1 I I I (wS 0 I I I (Aa (zE (zO (Ay tH I (.cell 0 I I I I I) x I hx fun W hp=>As.of_hp1 hp 2 I)))))))
theorem KV (a b:Int) (W:World) (p q:Option Addr) (cap cap2:Nat) (hA:A4 W p (lbs br a.natAbs)) (hB:A4 W q (lbs br b.natAbs)) (hna:(lbs br a.natAbs).length≤1000) (hnb:(lbs br b.natAbs).length≤1000):
  Ad Tryz.prog 179 #[IZ a p cap,IZ b q cap2] W (fun x:NV=>Xp (a*b) x) (fun x=>BW x (lbs br (a*b).natAbs)) (fun x=>[B3 x (lbs br (a*b).natAbs)]):=by
 have en:(a*b).natAbs=a.natAbs*b.natAbs:=Int.natAbs_mul a b
 have es:(a*b).natAbs≠0→(decide (a<0) !=decide (b<0))=decide (a*b<0):=fun h0=>by
  rw[en] at h0
  have ha:a≠0:=fun e=>h0 (by rw[e];simp)
  have hb:b≠0:=fun e=>h0 (by rw[e];simp)
  by_cases h1:a<0<;>by_cases h2:b<0
  ·rw[dT h1,dT h2,dF (by have:=Int.mul_pos_of_neg_of_neg h1 h2;omega)];rfl
  ·rw[dT h1,dF h2,dT (Int.mul_neg_of_neg_of_pos h1 (by omega))];rfl
  ·rw[dF h1,dT h2,dT (Int.mul_neg_of_pos_of_neg (by omega) h2)];rfl
  ·rw[dF h1,dF h2,dF (by have:=Int.mul_pos (show 0<a by omega) (show 0<b by omega);omega)];rfl
 refine Ab (args:=[IZ a p cap,IZ b q cap2]) Tryz.func179 I I I ?_
 refine zA (zB ?_)
 (refine Ak rfl rfl rfl rfl ?_;intro)
 (refine Ak rfl rfl rfl rfl ?_;intro)
 (refine Ae Tryz.hZ rfl rfl rfl rfl ?_;intro)
 refine Aa ?_
 rename_i b2 b3 b4
 refine zE (Az ?_)
 refine AV (X:= { y:Nat×NV//BW y.2 (lbs br (a*b).natAbs) }) [true,true,true,true,true,true,true,true,true,false,false,false,false] (fun y=>[(4,Af b4),(5,Af y.1.1)]) (fun y=>[⟨b4,164,[.bool false, .slice none 0 0],true,none⟩,⟨y.1.1,164,[.bool (decide (a<0) !=decide (b<0)),B2 y.1.2 (lbs br (a*b).natAbs).length],true,none⟩,B3 y.1.2 (lbs br (a*b).natAbs)])
  4 [M7 b2 a p cap,M7 b3 b q cap2,⟨b4,164,[.bool false, .slice none 0 0],true,none⟩] Tryz.mixed (by kernel_rfl) ?_ ?_
 ·refine qP I (qB 0 I I I (qP I (qB 1 I I I ?_)))
  refine Uf Tryz.underlying4 I I I I I I ?_
  refine qP I (qB 0 I I I (qP I (qB 1 I I I (BU (wX ?_)))))
  refine RS.cons ?_ (RS.cons ?_ (RS.nil))
  ·refine wD (X:=NV) rfl rfl (fun W' hp=>Jg W' p q cap cap2 a.natAbs b.natAbs (hA.hp hp) (hB.hp hp) (by omega) (by omega)) ?_;intro x hx
   refine Aa (Ag (wX ?_))
   refine RS.cons ?_ (RS.cons ?_ (RS.nil))
   ·refine Au Tryz.hZ tH I I I I I I I I ?_
    refine Aa (Ag (wX (wZ ?_)))
    refine Ae Tryz.hZ rfl rfl rfl rfl ?_;intro b5
    refine Aa (Ag (wX (wZ (wS 4 I I I (Aa (Ag ?_))))))
    rw[←en] at hx⊢;first|refine AG rfl (by((repeat (first|refine AI.same ?_|refine AI.off rfl ?_));exact trivial)) ?_|refine AP rfl (by kernel_rfl) ?_
    exact A6 ⟨(b5,x),hx⟩ ⟨I,I,tO⟩ [2,4,3] (by decide) I
   ·refine Ae Tryz.hZ rfl rfl rfl rfl ?_;intro b5
    refine Aa (Ag (wX (wZ ?_)))
    refine Au Tryz.hZ tH I I I I I I I I ?_
    refine Aa (Ag (wX (wZ (wS 4 I I I (Aa (Ag ?_))))))
    rw[←en] at hx⊢;first|refine AG rfl (by((repeat (first|refine AI.same ?_|refine AI.off rfl ?_));exact trivial)) ?_|refine AP rfl (by kernel_rfl) ?_
    exact A6 ⟨(b5,x),hx⟩ ⟨I,I,tO⟩ [2,4,3] (by decide) I
  ·refine Ae Tryz.hZ rfl rfl rfl rfl ?_;intro b5
   refine Aa (Ag (wX (wZ ?_)))
   refine wD (X:=NV) rfl rfl (fun W' hp=>Jg W' p q cap cap2 a.natAbs b.natAbs (hA.hp hp) (hB.hp hp) (by omega) (by omega)) ?_;intro x hx
   refine Aa (Ag (wX (wZ ?_)))
   refine Au Tryz.hZ tH I I I I I I I I ?_
   refine Aa (Ag (wX (wZ (wS 3 I I I (Aa (Ag ?_))))))
   rw[←en] at hx⊢;first|refine AG rfl (by((repeat (first|refine AI.same ?_|refine AI.off rfl ?_));exact trivial)) ?_|refine AP rfl (by kernel_rfl) ?_
   exact A6 ⟨(b5,x),hx⟩ ⟨I,I,tO⟩ [2,3,4] (by decide) I
 rintro⟨⟨b5,x⟩,hx⟩
 have hx:BW x (lbs br (a*b).natAbs):=hx
 refine zE (zA (zA (zB (wP I (wB 1 I I I (wP I (wP I ?_)))))))
 refine Ao 20 (.bool (decide ((a*b).natAbs=0))) I (congrArg Value.bool (by
  by_cases h0:(a*b).natAbs=0
  ·rw[dT h0,h0,AX];rfl
  ·have hL:(lbs br (a*b).natAbs).length≠0:=fun e=>h0 ((Dp br2).1 (List.length_eq_zero_iff.1 e))
   rw[dF h0,beq_eq_false_iff_ne];omega)) ?_
 refine Aa (A8 ?_)
 try refine Az ?_
 refine AC (X:=Unit) (fun _=>[(4,Af b4),(5,Af b5)]) (fun _=>[⟨b4,164,[.bool false, .slice none 0 0],true,none⟩,⟨b5,164,[.bool (decide (a*b<0)),B2 x (lbs br (a*b).natAbs).length],true,none⟩,B3 x (lbs br (a*b).natAbs)]) (fun _=>True) ?_ ?_
 ·refine Aj I (fun h=> ?_) (fun h=> ?_)
  ·have h:(a*b).natAbs=0:=of_decide_eq_true h
   exact zB (wP I (wS 1 I I I (Aa (An () tO ⟨I,I,tO⟩ [] (by rw[dF (show¬a*b<0 by omega)];rfl)))))
  ·have h: ¬(a*b).natAbs=0:=of_decide_eq_false h
   exact zI (An () tO ⟨I,I,tO⟩ [] (by rw[←es h];rfl))
 intro _ _
 exact zA (zB (wB 1 I I I (wS 0 I I I (Aa (zE (zO (Ay tH I (.cell 0 I I I I I) x I hx fun W hp=>As.of_hp1 hp 2 I)))))))
-- BOXES 6
-- CODE2
theorem Pf {z:Int} (h:(decDigits z.natAbs).length≤300):(itoa z).length≤301:=by
 rw[Dl,List.length_append]
 have:=OE z
 omega
theorem OA {a b:Int} (h:(smI a&&smI b)=true):AY Tryz.prog 110 [str (itoa a),str (itoa b)] (.tuple #[.int .i64 a, .int .i64 b, .bool true]):=fun W=>by
 obtain⟨h1,h2⟩:=Bool.and_eq_true_iff.1 h
 have l1:(itoa a).length≤17:=of_decide_eq_true h1
 have l2:(itoa b).length≤17:=of_decide_eq_true h2
 have:=L4 a b (by omega) (by omega) W
 rw[h1,h2] at this
 exact this
theorem NT {a b:Int} (h:(smI a&&smI b)=false) (ha:(decDigits a.natAbs).length≤300) (hb:(decDigits b.natAbs).length≤300): ∃x y:Int,AY Tryz.prog 110 [str (itoa a),str (itoa b)] (.tuple #[.int .i64 x, .int .i64 y, .bool false]):=
 ⟨_,_,fun W=>by
  have l1:=Pf ha
  have l2:=Pf hb
  have:=L4 a b (by omega) (by omega) W
  rw[h] at this
  exact this⟩
theorem LX (a b:Int) (ha:(decDigits a.natAbs).length≤300) (hb:(decDigits b.natAbs).length≤300) (hab:(decDigits (a*b).natAbs).length≤300) (W:World) (ht:AA W):
  Ad Tryz.prog 108 #[str (itoa a),str (itoa b)] W (fun _:Unit=> .tuple #[str (itoa (a*b)), .int .i64 0]) (fun _=>True) (fun _=>[]):=by
 have la:=Fc (m:=a.natAbs) (by omega)
 have lb:=Fc (m:=b.natAbs) (by omega)
 have l1:=Pf ha
 have l2:=Pf hb
 refine Ab (args:=[str (itoa a),str (itoa b)]) Tryz.func108 I I I ?_
 refine zA (zB (wP I (wP I (Aa (zE (zA (zA (zB (wP I (wP I (wC I I (fun W _=>GU a b ha hb W) (wP I (Aa ?_)))))))))))))
 refine zE (zA (zB (wP I (wP I (Aa (zE (zS I (zI (zE (zA (zA (zB ?_))))))))))))
 cases hs:smI a&&smI b with
 |true=>
  refine wP I (wP I (wC I I (fun W _=>OA hs W) ?_))
  iterate 7 refine wP I ?_
  refine Aa (zE (zA (zB (wP I (wP I (wP I (wP I ?_)))))))
  refine Ao 26 (.int .i64 ((itoa a).length:Nat)) I (congrArg (fun n:Nat=>Value.int .i64 (n:Int)) (A5 _)) ?_
  refine wP I (wP I ?_)
  refine Ao 28 (.int .i64 ((itoa b).length:Nat)) I (congrArg (fun n:Nat=>Value.int .i64 (n:Int)) (A5 _)) ?_
  refine wP I (wV 29 (((itoa a).length+(itoa b).length:Nat):Int) I (AO (by omega)) (wP I (wU 30 (decide ((itoa a).length+(itoa b).length≤18)) I (decide_eq_decide.2 (by omega)) (wP I (Aa (zE ?_))))))
  refine Aj I (fun h18=> ?_) (fun h18=> ?_)
  ·have h18:(itoa a).length+(itoa b).length≤18:=of_decide_eq_true h18
   have hm:(a*b).natAbs<1000000000000000000:=by
    have p1:=Gi a.natAbs
    have p2:=Gi b.natAbs
    have q1:(decDigits a.natAbs).length≤(itoa a).length:=by rw[Dl,List.length_append];omega
    have q2:(decDigits b.natAbs).length≤(itoa b).length:=by rw[Dl,List.length_append];omega
    rw[Int.natAbs_mul]
    have r1:=Nat.mul_lt_mul'' p1 p2
    rw[←Nat.pow_add] at r1
    exact Nat.lt_of_lt_of_le r1 (show _≤10^18 from Nat.pow_le_pow_right (by decide) (by omega))
   exact zA (zB (wP I (wP I (wP I (wV 34 (a*b) I (Ap (by omega) (by omega)) (wC I I (fun W hp=>Bs (a*b) (by omega) (by omega) W (ht.hp hp)) (wP I (wP I (Aa (zE (zO (zP (wR2 I I I)))))))))))))
  ·refine zI (zE (zA (zB (wP I ?_))))
   refine wD (X:=NV) I I (fun W' _=>Cy a (by omega) W') ?_
   intro x hx
   refine wP I ?_
   refine wD (X:=NV) I I (fun W' _=>Cy b (by omega) W') ?_
   intro y hy
   refine wD (X:=NV) I I (fun W' hp=>KV a b W' (some ⟨x.1,0,none⟩) (some ⟨y.1,0,none⟩) x.2.1 y.2.1 (A4.of_bx hp 0 I) (A4.of_bx hp 1 I) (by omega) (by omega)) ?_
   intro w hw
   exact wC I I (fun W' hp=>HY (a*b) hab W' (some ⟨w.1,0,none⟩) w.2.1 (A4.of_bx hp 2 I)) (wP I (wP I (wP I (wP I (Aa (zE (zO (wR2 I I I))))))))
 |false=>
  obtain⟨x0,y0,h2⟩:=NT hs ha hb
  refine wP I (wP I (wC I I (fun W _=>h2 W) ?_))
  iterate 7 refine wP I ?_
  refine Aa (zE (zA (zB (wP I (wP I ?_)))))
  iterate 6 refine Ah I I ?_
  refine wP I (Aa (zE (zS I (zI (zE (zA (zB (wP I ?_))))))))
  refine wD (X:=NV) I I (fun W' _=>Cy a (by omega) W') ?_
  intro x hx
  refine wP I ?_
  refine wD (X:=NV) I I (fun W' _=>Cy b (by omega) W') ?_
  intro y hy
  refine wD (X:=NV) I I (fun W' hp=>KV a b W' (some ⟨x.1,0,none⟩) (some ⟨y.1,0,none⟩) x.2.1 y.2.1 (A4.of_bx hp 0 I) (A4.of_bx hp 1 I) (by omega) (by omega)) ?_
  intro w hw
  exact wC I I (fun W' hp=>HY (a*b) hab W' (some ⟨w.1,0,none⟩) w.2.1 (A4.of_bx hp 2 I)) (wP I (wP I (wP I (wP I (Aa (zE (zO (wR2 I I I))))))))
theorem RE (a b:Int) (ha:(decDigits a.natAbs).length≤300) (hb:(decDigits b.natAbs).length≤300) (W:World):
  Ad Tryz.prog 43 #[str (itoa a),str (itoa b)] W (fun _:Unit=> .tuple #[.int .i64 (FN a b), .int .i64 0]) (fun _=>True) (fun _=>[]):=by
 have la:=Fc (m:=a.natAbs) (by omega)
 have lb:=Fc (m:=b.natAbs) (by omega)
 refine Ab (args:=[str (itoa a),str (itoa b)]) Tryz.func43 I I I ?_
 refine zA (zB (wP I (wP I (Aa (zE (zA (zA (zB (wP I (wP I (wC I I (fun W _=>GU a b ha hb W) (wP I (Aa ?_)))))))))))))
 refine zE (zA (zB (wP I (wP I (Aa (zE (zS I (zI (zE (zA (zA (zB ?_))))))))))))
 cases hs:smI a&&smI b with
 |true=>
  refine wP I (wP I (wC I I (fun W _=>OA hs W) ?_))
  iterate 7 refine wP I ?_
  refine Aa (zE (zA (zB (wP I (Aa (zE (zR I (zA (zA (zB (wP I (wP I (wP I ?_)))))))))))))
  by_cases h1:a<b
  ·exact wU 27 true I (dT h1) (Aa (zE (zR I (zA (zB (wP I (wP I (Aa (zE (zO (zP (zP (wR2 I I (by rw[FN,if_pos h1]))))))))))))))
  refine wU 27 false I (dF h1) (Aa (zE (zS I (zI (zE (zA (zA (zB (wP I (wP I (wP I ?_)))))))))))
  by_cases h2:b<a
  ·exact wU 30 true I (dT h2) (Aa (zE (zR I (zA (zB (wP I (wP I (Aa (zE (zO (zP (zP (wR2 I I (by rw[FN,if_neg h1,if_neg (by omega)]))))))))))))))
  exact wU 30 false I (dF h2) (Aa (zE (zS I (zI (zE (zA (zB (wP I (wP I (Aa (zE (zO (zP (wR2 I I (by rw[FN,if_neg h1,if_pos (by omega)])))))))))))))))
 |false=>
  obtain⟨x0,y0,h2⟩:=NT hs ha hb
  refine wP I (wP I (wC I I (fun W _=>h2 W) ?_))
  iterate 7 refine wP I ?_
  refine Aa (zE (zA (zB (wP I (Aa (zE (zS I (zI (zE (zA (zB (wP I ?_))))))))))))
  refine wD (X:=NV) I I (fun W' _=>Cy a (by omega) W') ?_
  intro x hx
  refine wP I ?_
  refine wD (X:=NV) I I (fun W' _=>Cy b (by omega) W') ?_
  intro y hy
  refine wC I I (fun W' hp=>R3 b W' (some ⟨y.1,0,none⟩) y.2.1) ?_
  refine wD (X:=NV) I I (fun W' hp=>RV a (-b) W' (some ⟨x.1,0,none⟩) (some ⟨y.1,0,none⟩) x.2.1 y.2.1 (A4.of_bx hp 0 I) (by rw[Int.natAbs_neg];exact A4.of_bx hp 1 I) (by omega) (by rw[Int.natAbs_neg];omega)) ?_
  intro w hw
  (refine Ae Tryz.hZ rfl rfl rfl rfl ?_;intro)
  refine wS 3 I I I (Aa ?_)
  rename_i b10
  refine zE (zA (zA (zB (wP I (wB 3 I I I (wP I (wP I ?_)))))))
  refine Ao 40 (.bool (decide (a=b))) I (congrArg Value.bool (by
   by_cases h0:a=b
   ·rw[dT h0,show(a+ -b).natAbs=0 by omega,AX];rfl
   ·have hL:(lbs br (a+ -b).natAbs).length≠0:=fun e=>by have:=(Dp br2).1 (List.length_eq_zero_iff.1 e);omega
    rw[dF h0,beq_eq_false_iff_ne];omega)) ?_
  refine Aa (zE ?_)
  refine Aj I (fun h0=> ?_) (fun h0=> ?_)
  ·have h0:a=b:=of_decide_eq_true h0
   exact zA (zB (wP I (wP I (Aa (zE (zO (zP (wR2 I I (by rw[FN,if_neg (by omega),if_pos h0])))))))))
  have h0: ¬a=b:=of_decide_eq_false h0
  refine zI (zE (zA (zA (zB (wP I (wB 3 I I I (Aa (zE ?_))))))))
  refine Aj I (fun h1=> ?_) (fun h1=> ?_)
  ·have h1:a+ -b<0:=of_decide_eq_true h1
   exact zA (zB (wP I (wP I (Aa (zE (zO (zP (wR2 I I (by rw[FN,if_pos (by omega)])))))))))
  ·have h1: ¬a+ -b<0:=of_decide_eq_false h1
   exact zI (zE (zA (zB (wP I (wP I (Aa (zE (zO (wR2 I I (by rw[FN,if_neg (by omega),if_neg h0]))))))))))
-- BOXES 6
-- CODE2
theorem H7 {z:Int} (h: ¬okN z):JN z= .tuple #[str [], .int .i64 4]:=if_neg h
end
end Go.Proofs.YtndkgionklmdfaaGreatDoor
