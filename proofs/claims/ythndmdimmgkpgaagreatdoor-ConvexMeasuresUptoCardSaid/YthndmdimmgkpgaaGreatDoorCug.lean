/-
  Lemmas that the theorem convexMeasures_upto_card needs (part 7 of 8).
-/
import Derived.Test.YthndmdimmgkpgaaGreatDoorCuf
set_option maxHeartbeats 64000000
namespace Go.Proofs.YthndmdimmgkpgaaGreatDoor
section
open Go Go.RowKit Go.Am Go.Lib
set_option maxRecDepth 10000
-- BOXES 9
-- CODE2
def Zp (D:List Ag) (L:List Ag) (e:Bool):Prop:=(e=false∧Yc D∧L=Bt D)∨(e=true∧ ¬Yc D∧L=[])
theorem Ny (D:List Ag) (hq: ∀x∈D,okP x) (h0:0<D.length) (hn:D.length≤100000) (L:List Ag) (e:Bool) (hr:Zp D L e) (g cap:Nat) (hcap:D.length≤cap) (W:World) (hA:Cs W (some ⟨g,0,none⟩) D) (ht:AM W):
  Ai Tryz.prog 95 #[slv (some ⟨g,0,none⟩) D.length cap] W (fun V:Vec=> .tuple #[V.val L.length, .int .i64 (erI e)]) (fun V=>V.OK 2 L.length (ptC L)) (fun V=>[V.bx 35 (ptC L)]):=by
 have hrw:Ak W g 0 (ptC D):=by
  rcases hA.cells with h|⟨b,off,e,h⟩
  ·exfalso
   have h2:D.length*2=0:=by rw[←AI,h];rfl
   omega
  ·cases e;exact h
 have hrow: ∀j,j<D.length→Ak W g (0+j*2) [str (Ad (Ab D j).1),str (Ad (Ab D j).2)]:=fun j hj=>by
  obtain⟨g',off',e',h2⟩:=hA.at_ hj
  cases e'
  rw[AE hj]
  exact h2 j hj
 have ok: ∀j,okP (Ab D j):=fun j=>hq _ (AD h0 j)
 refine Ae (args:=[slv (some ⟨g,0,none⟩) D.length cap]) Tryz.func95 I I I ?_
 refine zA (zB (wP I (wP I (Aa (zE (zA (zB (wP I (Aa (zE (zA (zA (zB ?_)))))))))))))
 refine wP I (Aa (zE (zH ?_)))
 refine A8 (X:=Nat) (fun i=>[(0,slv (some ⟨g,0,none⟩) D.length cap),(4, .int .i64 (B9 D (i+1):Nat)),(5, .int .i64 ((i+1:Nat):Int))]) (fun _=>[]) (fun i=>i+1≤D.length∧ ∀j,j<i→K0 (Ab D (j+1)) (Ab D (B9 D (j+1)))) (fun i=>D.length-i) 0 ⟨h0,fun _ h=>absurd h (Nat.not_lt_zero _)⟩ ⟨I,(by rw[WW];rfl),I,tO⟩ [] I ?_
 rintro i ⟨hi,hok⟩
 have hi:i+1≤D.length:=hi
 have hok: ∀j,j<i→K0 (Ab D (j+1)) (Ab D (B9 D (j+1))):=hok
 have hle:B9 D (i+1)≤i:=by
  have h1:=V8 false D i
  rw[TN hok] at h1
  exact h1
 obtain⟨m,hm⟩: ∃m,m=B9 D (i+1):=⟨_,rfl⟩
 rw[←hm] at hle
 rw[←hm]
 refine zA (zA (zB (wP I (wP I (wP I (wP I ?_))))))
 by_cases hlt:i+1<D.length
 ·refine wU 11 true I (dT (by omega)) (Aa ?_)
  obtain⟨⟨y,s⟩,hy⟩: ∃y,y=kLs false (Ab D (i+1)) (Ab D m):=⟨_,rfl⟩
  have hso:s=false↔K0 (Ab D (i+1)) (Ab D m):=by
   have:=Zw (p:=Ab D (i+1)) (q:=Ab D m)
   rw[←hy] at this;exact this
  have c1: ∀W1,AM W1→Ai Tryz.prog 80 #[cvV (Ab D (i+1)),cvV (Ab D m)] W1 (fun _:Unit=> .tuple #[.int .i64 y, .int .i64 (erI s)]) (fun _=>True) (fun _=>[]):=fun W1 h=>by
   have:=Ic (Ab D (i+1)) (Ab D m) (ok _) (ok _) W1 h
   rw[←hy] at this;exact this
  refine zE (zR I (zI (zE (Ao (B8 (Ao (zU (qP I (qP I ?_)))))))))
  refine qJ ?_
  refine qL 0 I I (fun W1 hp=>(hrow (i+1) hlt).hp hp) I (qP I (qP I ?_))
  refine qJ ?_
  refine qL 0 I I (fun W1 hp=>(hrow m (by omega)).hp hp) I (qC I I (fun W1 hp=>c1 W1 (ht.hp hp)) ?_)
  iterate 5 refine qP I ?_
  refine AQ (Aa ?_)
  cases s with
  |true=>
   obtain⟨rfl,rfl⟩:e=true∧L=[]:=by
    rcases hr with c|c
    ·have hb:=c.2.1 i hlt
     rw[←hm] at hb
     exact absurd (hso.2 hb) (by decide)
    ·exact⟨c.1,c.2.2⟩
   refine zE (zA (zA (zB (wP I (wP I (Aa (zE (zR I (zA (zB (wP I (wP I (wP I ?_)))))))))))))
   exact Aa (zE (zO (zP (zQ (zP (zP (zQ (zP (A7 tH rfl (.tmp rfl) (.tmp rfl) Vec.empty rfl (Vec.OK.empty 2) fun W1 hp=>Own.one (fun p hp=>by cases hp) List.nodup_nil)))))))))
  |false=>
   have hls:=hso.1 rfl
   have hok1: ∀j,j<i+1→K0 (Ab D (j+1)) (Ab D (B9 D (j+1))):=fun j hj=>by
    by_cases c:j=i
    ·subst c;rw[←hm];exact hls
    ·exact hok j (by omega)
   have hsu:B9 D (i+1+1)=if y<0 then i+1 else m:=by
    have h1:=TN (D:=D) (i:=i+1) hok1
    have h2:=TN hok
    have h3:bgE false D (i+1)=(if (kLs (bgE false D i).2 (Ab D (i+1)) (Ab D (bgE false D i).1)).1<0 then i+1 else(bgE false D i).1,(kLs (bgE false D i).2 (Ab D (i+1)) (Ab D (bgE false D i).1)).2):=rfl
    rw[h2, ←hm, ←hy,h1] at h3
    exact congrArg Prod.fst h3
   refine zE (zA (zA (zB (wP I (wP I (Aa (zE (zS I (zI (zE (zA (zB (wP I (wP I ?_))))))))))))))
   by_cases hy0:y<0
   ·rw[if_pos hy0] at hsu
    refine wU 30 true I (dT hy0) (Aa (zE (zR I (zB (wP I (wP I (Aa (zN (zE (zB (wP I (wP I (wV 13 ((i+1+1:Nat):Int) I (As (by omega)) ?_)))))))))))))
    exact wP I (Aa (Ay (i+1) ⟨hlt,hok1⟩ (by show D.length-(i+1)<D.length-i;omega) ⟨I,congrArg (fun n:Nat=>some (Value.int .i64 (n:Int))) hsu.symm,I,tO⟩ [] I))
   ·rw[if_neg hy0] at hsu
    exact wU 30 false I (dF hy0) (Aa (zE (zS I (zI (zN (zE (zB (wP I (wP I (wV 13 ((i+1+1:Nat):Int) I (As (by omega)) (wP I (Aa (Ay (i+1) ⟨hlt,hok1⟩ (by show D.length-(i+1)<D.length-i;omega) ⟨I,congrArg (fun n:Nat=>some (Value.int .i64 (n:Int))) hsu.symm,I,tO⟩ [] I)))))))))))))
 have eD:i+1=D.length:=by omega
 have hB:Yc D:=fun j hj=>hok j (by omega)
 obtain⟨rfl,rfl⟩:e=false∧L=Bt D:=by
  rcases hr with c|c
  ·exact⟨c.1,c.2.2⟩
  ·exact absurd hB c.2.1
 have hbe:Bt D=D.drop m++D.take m:=by rw[hm,eD];rfl
 have hmD:m<D.length:=by omega
 have hl1:(D.drop m).length=D.length-m:=List.length_drop
 have hl2:(D.take m).length=m:=by rw[List.length_take];omega
 have hlr:(Bt D).length=D.length:=by rw[hbe,List.length_append,hl1,hl2];omega
 have hsplit:ptC D=ptC (D.take m)++ptC (D.drop m):=by rw[←Cr,List.take_append_drop]
 have hr2:Ak W g (m*2) (ptC (D.drop m)):=by
  rw[hsplit] at hrw
  have h2:=GG hrw
  rw[AI,hl2,Nat.zero_add] at h2
  exact h2
 have hr1:Ak W g 0 (ptC (D.take m)):=by
  rw[hsplit] at hrw
  exact CD hrw
 have hlen:0+(D.length-m)+m=D.length:=by omega
 have hcel:[]++ptC (D.drop m)++ptC (D.take m)=ptC (Bt D):=by rw[List.nil_append, ←Cr, ←hbe]
 refine wU 11 false I (dF (by omega)) (Aa (zE (zS I (zJ (zK (zK (zL (zE (Ao ?_)))))))))
 refine AL (X:= { V:Vec//V.OK 2 D.length (ptC (Bt D)) }) [false,true,true,false,false,true,true,false,false,false,false] (fun V=>[(2,V.1.val D.length),(3, .int .i64 0)]) (fun V=>[V.1.bx 35 (ptC (Bt D))])
  7 [] Tryz.mixed (by kernel_rfl) ?_ ?_
 ·refine qP I (qP I (qP I (qP I (Bu (wX ?_)))))
  refine RS.cons ?_ (RS.cons ?_ (RS.cons ?_ (RS.nil)))
  ·refine BV tH rfl rfl rfl rfl rfl ?_;intro b0
   refine Aa (Ac (wX ?_))
   refine RS.cons ?_ (RS.cons ?_ (RS.nil))
   ·refine Ct m tH I I I I I I I I (by omega) (by omega) ?_;refine Aj 35 (.slice (some ⟨g,m*2,none⟩) (D.length-m) (cap-m)) I (by rw[if_neg (by omega),Nat.zero_add]) ?_
    refine Aa (Ac (wX ?_))
    refine RS.cons ?_ (RS.cons ?_ (RS.nil))
    ·refine Bv (len:=0) (V:=⟨some b0,0,[]⟩) (xs:=[]) (news:=ptC (D.drop m)) 0 Tryz.vec22 rfl rfl rfl rfl rfl rfl rfl rfl rfl ⟨rfl,(fun h=>by cases h),fun _=>⟨Nat.le_refl _,Nat.zero_le _,rfl⟩⟩ (by rw[AI,hl1]) (fun W1 hp j u hj=>by rw[Addr.add_none];exact(hr2.hp hp).get j u hj) (BY _) (by simp only[maxLen];omega) (by omega) ?_;intro V1 hV1 _
     refine Aa (Ac (wX (wZ ?_)))
     refine B4 m tH I I I I I I I I (by omega) ?_
     refine Aa (Ac (wX (wZ ?_)))
     refine Bv (len:=0+(D.length-m)) (V:=V1) (xs:=[]++ptC (D.drop m)) (news:=ptC (D.take m)) 0 Tryz.vec22 rfl rfl rfl rfl rfl rfl rfl rfl rfl hV1 (by rw[AI,hl2]) (fun W1 hp j u hj=>by rw[Addr.add_none];exact(hr1.hp hp).get j u hj) (BY _) (by simp only[maxLen];omega) (by omega) ?_;intro V2 hV2 _
     refine Aa (Ac (wX (wZ (wP I (Aa (Ac (wX (wZ (wP I (Aa (Ac ?_)))))))))))
     rw[hlen,hcel] at hV2;rw[hlen,hcel];first|refine A5 rfl (by((repeat (first|refine A9.same ?_|refine A9.off rfl ?_));exact trivial)) ?_|refine AF rfl (by kernel_rfl) ?_
     exact Al ⟨V2,hV2⟩ ⟨I,I,tO⟩ [0] (by decide) I
    ·refine B4 m tH I I I I I I I I (by omega) ?_
     refine Aa (Ac (wX (wZ ?_)))
     refine Bv (len:=0) (V:=⟨some b0,0,[]⟩) (xs:=[]) (news:=ptC (D.drop m)) 0 Tryz.vec22 rfl rfl rfl rfl rfl rfl rfl rfl rfl ⟨rfl,(fun h=>by cases h),fun _=>⟨Nat.le_refl _,Nat.zero_le _,rfl⟩⟩ (by rw[AI,hl1]) (fun W1 hp j u hj=>by rw[Addr.add_none];exact(hr2.hp hp).get j u hj) (BY _) (by simp only[maxLen];omega) (by omega) ?_;intro V1 hV1 _
     refine Aa (Ac (wX (wZ ?_)))
     refine Bv (len:=0+(D.length-m)) (V:=V1) (xs:=[]++ptC (D.drop m)) (news:=ptC (D.take m)) 0 Tryz.vec22 rfl rfl rfl rfl rfl rfl rfl rfl rfl hV1 (by rw[AI,hl2]) (fun W1 hp j u hj=>by rw[Addr.add_none];exact(hr1.hp hp).get j u hj) (BY _) (by simp only[maxLen];omega) (by omega) ?_;intro V2 hV2 _
     refine Aa (Ac (wX (wZ (wP I (Aa (Ac (wX (wZ (wP I (Aa (Ac ?_)))))))))))
     rw[hlen,hcel] at hV2;rw[hlen,hcel];first|refine A5 rfl (by((repeat (first|refine A9.same ?_|refine A9.off rfl ?_));exact trivial)) ?_|refine AF rfl (by kernel_rfl) ?_
     exact Al ⟨V2,hV2⟩ ⟨I,I,tO⟩ [0] (by decide) I
   ·refine B4 m tH I I I I I I I I (by omega) ?_
    refine Aa (Ac (wX (wZ ?_)))
    refine Ct m tH I I I I I I I I (by omega) (by omega) ?_;refine Aj 35 (.slice (some ⟨g,m*2,none⟩) (D.length-m) (cap-m)) I (by rw[if_neg (by omega),Nat.zero_add]) ?_
    refine Aa (Ac (wX (wZ ?_)))
    refine Bv (len:=0) (V:=⟨some b0,0,[]⟩) (xs:=[]) (news:=ptC (D.drop m)) 0 Tryz.vec22 rfl rfl rfl rfl rfl rfl rfl rfl rfl ⟨rfl,(fun h=>by cases h),fun _=>⟨Nat.le_refl _,Nat.zero_le _,rfl⟩⟩ (by rw[AI,hl1]) (fun W1 hp j u hj=>by rw[Addr.add_none];exact(hr2.hp hp).get j u hj) (BY _) (by simp only[maxLen];omega) (by omega) ?_;intro V1 hV1 _
    refine Aa (Ac (wX (wZ ?_)))
    refine Bv (len:=0+(D.length-m)) (V:=V1) (xs:=[]++ptC (D.drop m)) (news:=ptC (D.take m)) 0 Tryz.vec22 rfl rfl rfl rfl rfl rfl rfl rfl rfl hV1 (by rw[AI,hl2]) (fun W1 hp j u hj=>by rw[Addr.add_none];exact(hr1.hp hp).get j u hj) (BY _) (by simp only[maxLen];omega) (by omega) ?_;intro V2 hV2 _
    refine Aa (Ac (wX (wZ (wP I (Aa (Ac (wX (wZ (wP I (Aa (Ac ?_)))))))))))
    rw[hlen,hcel] at hV2;rw[hlen,hcel];first|refine A5 rfl (by((repeat (first|refine A9.same ?_|refine A9.off rfl ?_));exact trivial)) ?_|refine AF rfl (by kernel_rfl) ?_
    exact Al ⟨V2,hV2⟩ ⟨I,I,tO⟩ [0] (by decide) I
  ·refine Ct m tH I I I I I I I I (by omega) (by omega) ?_;refine Aj 35 (.slice (some ⟨g,m*2,none⟩) (D.length-m) (cap-m)) I (by rw[if_neg (by omega),Nat.zero_add]) ?_
   refine Aa (Ac (wX ?_))
   refine RS.cons ?_ (RS.cons ?_ (RS.nil))
   ·refine BV tH rfl rfl rfl rfl rfl ?_;intro b0
    refine Aa (Ac (wX ?_))
    refine RS.cons ?_ (RS.cons ?_ (RS.nil))
    ·refine Bv (len:=0) (V:=⟨some b0,0,[]⟩) (xs:=[]) (news:=ptC (D.drop m)) 0 Tryz.vec22 rfl rfl rfl rfl rfl rfl rfl rfl rfl ⟨rfl,(fun h=>by cases h),fun _=>⟨Nat.le_refl _,Nat.zero_le _,rfl⟩⟩ (by rw[AI,hl1]) (fun W1 hp j u hj=>by rw[Addr.add_none];exact(hr2.hp hp).get j u hj) (BY _) (by simp only[maxLen];omega) (by omega) ?_;intro V1 hV1 _
     refine Aa (Ac (wX (wZ ?_)))
     refine B4 m tH I I I I I I I I (by omega) ?_
     refine Aa (Ac (wX (wZ ?_)))
     refine Bv (len:=0+(D.length-m)) (V:=V1) (xs:=[]++ptC (D.drop m)) (news:=ptC (D.take m)) 0 Tryz.vec22 rfl rfl rfl rfl rfl rfl rfl rfl rfl hV1 (by rw[AI,hl2]) (fun W1 hp j u hj=>by rw[Addr.add_none];exact(hr1.hp hp).get j u hj) (BY _) (by simp only[maxLen];omega) (by omega) ?_;intro V2 hV2 _
     refine Aa (Ac (wX (wZ (wP I (Aa (Ac (wX (wZ (wP I (Aa (Ac ?_)))))))))))
     rw[hlen,hcel] at hV2;rw[hlen,hcel];first|refine A5 rfl (by((repeat (first|refine A9.same ?_|refine A9.off rfl ?_));exact trivial)) ?_|refine AF rfl (by kernel_rfl) ?_
     exact Al ⟨V2,hV2⟩ ⟨I,I,tO⟩ [0] (by decide) I
    ·refine B4 m tH I I I I I I I I (by omega) ?_
     refine Aa (Ac (wX (wZ ?_)))
     refine Bv (len:=0) (V:=⟨some b0,0,[]⟩) (xs:=[]) (news:=ptC (D.drop m)) 0 Tryz.vec22 rfl rfl rfl rfl rfl rfl rfl rfl rfl ⟨rfl,(fun h=>by cases h),fun _=>⟨Nat.le_refl _,Nat.zero_le _,rfl⟩⟩ (by rw[AI,hl1]) (fun W1 hp j u hj=>by rw[Addr.add_none];exact(hr2.hp hp).get j u hj) (BY _) (by simp only[maxLen];omega) (by omega) ?_;intro V1 hV1 _
     refine Aa (Ac (wX (wZ ?_)))
     refine Bv (len:=0+(D.length-m)) (V:=V1) (xs:=[]++ptC (D.drop m)) (news:=ptC (D.take m)) 0 Tryz.vec22 rfl rfl rfl rfl rfl rfl rfl rfl rfl hV1 (by rw[AI,hl2]) (fun W1 hp j u hj=>by rw[Addr.add_none];exact(hr1.hp hp).get j u hj) (BY _) (by simp only[maxLen];omega) (by omega) ?_;intro V2 hV2 _
     refine Aa (Ac (wX (wZ (wP I (Aa (Ac (wX (wZ (wP I (Aa (Ac ?_)))))))))))
     rw[hlen,hcel] at hV2;rw[hlen,hcel];first|refine A5 rfl (by((repeat (first|refine A9.same ?_|refine A9.off rfl ?_));exact trivial)) ?_|refine AF rfl (by kernel_rfl) ?_
     exact Al ⟨V2,hV2⟩ ⟨I,I,tO⟩ [0] (by decide) I
   ·refine B4 m tH I I I I I I I I (by omega) ?_
    refine Aa (Ac (wX (wZ ?_)))
    refine BV tH rfl rfl rfl rfl rfl ?_;intro b0
    refine Aa (Ac (wX (wZ ?_)))
    refine Bv (len:=0) (V:=⟨some b0,0,[]⟩) (xs:=[]) (news:=ptC (D.drop m)) 0 Tryz.vec22 rfl rfl rfl rfl rfl rfl rfl rfl rfl ⟨rfl,(fun h=>by cases h),fun _=>⟨Nat.le_refl _,Nat.zero_le _,rfl⟩⟩ (by rw[AI,hl1]) (fun W1 hp j u hj=>by rw[Addr.add_none];exact(hr2.hp hp).get j u hj) (BY _) (by simp only[maxLen];omega) (by omega) ?_;intro V1 hV1 _
    refine Aa (Ac (wX (wZ ?_)))
    refine Bv (len:=0+(D.length-m)) (V:=V1) (xs:=[]++ptC (D.drop m)) (news:=ptC (D.take m)) 0 Tryz.vec22 rfl rfl rfl rfl rfl rfl rfl rfl rfl hV1 (by rw[AI,hl2]) (fun W1 hp j u hj=>by rw[Addr.add_none];exact(hr1.hp hp).get j u hj) (BY _) (by simp only[maxLen];omega) (by omega) ?_;intro V2 hV2 _
    refine Aa (Ac (wX (wZ (wP I (Aa (Ac (wX (wZ (wP I (Aa (Ac ?_)))))))))))
    rw[hlen,hcel] at hV2;rw[hlen,hcel];first|refine A5 rfl (by((repeat (first|refine A9.same ?_|refine A9.off rfl ?_));exact trivial)) ?_|refine AF rfl (by kernel_rfl) ?_
    exact Al ⟨V2,hV2⟩ ⟨I,I,tO⟩ [0] (by decide) I
  ·refine B4 m tH I I I I I I I I (by omega) ?_
   refine Aa (Ac (wX ?_))
   refine RS.cons ?_ (RS.cons ?_ (RS.nil))
   ·refine BV tH rfl rfl rfl rfl rfl ?_;intro b0
    refine Aa (Ac (wX (wZ ?_)))
    refine Ct m tH I I I I I I I I (by omega) (by omega) ?_;refine Aj 35 (.slice (some ⟨g,m*2,none⟩) (D.length-m) (cap-m)) I (by rw[if_neg (by omega),Nat.zero_add]) ?_
    refine Aa (Ac (wX (wZ ?_)))
    refine Bv (len:=0) (V:=⟨some b0,0,[]⟩) (xs:=[]) (news:=ptC (D.drop m)) 0 Tryz.vec22 rfl rfl rfl rfl rfl rfl rfl rfl rfl ⟨rfl,(fun h=>by cases h),fun _=>⟨Nat.le_refl _,Nat.zero_le _,rfl⟩⟩ (by rw[AI,hl1]) (fun W1 hp j u hj=>by rw[Addr.add_none];exact(hr2.hp hp).get j u hj) (BY _) (by simp only[maxLen];omega) (by omega) ?_;intro V1 hV1 _
    refine Aa (Ac (wX (wZ ?_)))
    refine Bv (len:=0+(D.length-m)) (V:=V1) (xs:=[]++ptC (D.drop m)) (news:=ptC (D.take m)) 0 Tryz.vec22 rfl rfl rfl rfl rfl rfl rfl rfl rfl hV1 (by rw[AI,hl2]) (fun W1 hp j u hj=>by rw[Addr.add_none];exact(hr1.hp hp).get j u hj) (BY _) (by simp only[maxLen];omega) (by omega) ?_;intro V2 hV2 _
    refine Aa (Ac (wX (wZ (wP I (Aa (Ac (wX (wZ (wP I (Aa (Ac ?_)))))))))))
    rw[hlen,hcel] at hV2;rw[hlen,hcel];first|refine A5 rfl (by((repeat (first|refine A9.same ?_|refine A9.off rfl ?_));exact trivial)) ?_|refine AF rfl (by kernel_rfl) ?_
    exact Al ⟨V2,hV2⟩ ⟨I,I,tO⟩ [0] (by decide) I
   ·refine Ct m tH I I I I I I I I (by omega) (by omega) ?_;refine Aj 35 (.slice (some ⟨g,m*2,none⟩) (D.length-m) (cap-m)) I (by rw[if_neg (by omega),Nat.zero_add]) ?_
    refine Aa (Ac (wX (wZ ?_)))
    refine BV tH rfl rfl rfl rfl rfl ?_;intro b0
    refine Aa (Ac (wX (wZ ?_)))
    refine Bv (len:=0) (V:=⟨some b0,0,[]⟩) (xs:=[]) (news:=ptC (D.drop m)) 0 Tryz.vec22 rfl rfl rfl rfl rfl rfl rfl rfl rfl ⟨rfl,(fun h=>by cases h),fun _=>⟨Nat.le_refl _,Nat.zero_le _,rfl⟩⟩ (by rw[AI,hl1]) (fun W1 hp j u hj=>by rw[Addr.add_none];exact(hr2.hp hp).get j u hj) (BY _) (by simp only[maxLen];omega) (by omega) ?_;intro V1 hV1 _
    refine Aa (Ac (wX (wZ ?_)))
    refine Bv (len:=0+(D.length-m)) (V:=V1) (xs:=[]++ptC (D.drop m)) (news:=ptC (D.take m)) 0 Tryz.vec22 rfl rfl rfl rfl rfl rfl rfl rfl rfl hV1 (by rw[AI,hl2]) (fun W1 hp j u hj=>by rw[Addr.add_none];exact(hr1.hp hp).get j u hj) (BY _) (by simp only[maxLen];omega) (by omega) ?_;intro V2 hV2 _
    refine Aa (Ac (wX (wZ (wP I (Aa (Ac (wX (wZ (wP I (Aa (Ac ?_)))))))))))
    rw[hlen,hcel] at hV2;rw[hlen,hcel];first|refine A5 rfl (by((repeat (first|refine A9.same ?_|refine A9.off rfl ?_));exact trivial)) ?_|refine AF rfl (by kernel_rfl) ?_
    exact Al ⟨V2,hV2⟩ ⟨I,I,tO⟩ [0] (by decide) I
 rintro⟨V,hV⟩
 exact zE (zO (A7 tH I (.tmp I) (.tmp I) V (by rw[hlr];rfl) (by rw[hlr];exact hV) fun W1 hp=>Ar.of_hp hp))
-- BOXES 14
-- CODE2
theorem Zg {p q r:Ag} (a:CV q.1 p.1) (b:CV r.2 p.2) (m:Cf (q.1-p.1) (r.2-p.2)):tA p q r=some ((q.1-p.1)*(r.2-p.2)):=by
 unfold tA
 rw[show Bq (some q.1) (some p.1)=some (q.1-p.1) from Dk a,show Bq (some r.2) (some p.2)=some (r.2-p.2) from Dk b]
 exact Dk m
theorem Z2 {p q r:Ag} (a:CV q.2 p.2) (b:CV r.1 p.1) (m:Cf (q.2-p.2) (r.1-p.1)):tB p q r=some ((q.2-p.2)*(r.1-p.1)):=by
 unfold tB
 rw[show Bq (some q.2) (some p.2)=some (q.2-p.2) from Dk a,show Bq (some r.1) (some p.1)=some (r.1-p.1) from Dk b]
 exact Dk m
theorem ZN {p q r:Ag} (h: ¬(CV q.1 p.1∧CV r.2 p.2∧Cf (q.1-p.1) (r.2-p.2))):tA p q r=none:=by
 unfold tA
 by_cases a:CV q.1 p.1
 ·rw[show Bq (some q.1) (some p.1)=some (q.1-p.1) from Dk a]
  by_cases b:CV r.2 p.2
  ·rw[show Bq (some r.2) (some p.2)=some (r.2-p.2) from Dk b]
   exact EL fun m=>h ⟨a,b,m⟩
  ·rw[show Bq (some r.2) (some p.2)=none from EL b];rfl
 ·rw[show Bq (some q.1) (some p.1)=none from EL a,Od]
theorem ZI {p q r:Ag} (h: ¬(CV q.2 p.2∧CV r.1 p.1∧Cf (q.2-p.2) (r.1-p.1))):tB p q r=none:=by
 unfold tB
 by_cases a:CV q.2 p.2
 ·rw[show Bq (some q.2) (some p.2)=some (q.2-p.2) from Dk a]
  by_cases b:CV r.1 p.1
  ·rw[show Bq (some r.1) (some p.1)=some (r.1-p.1) from Dk b]
   exact EL fun m=>h ⟨a,b,m⟩
  ·rw[show Bq (some r.1) (some p.1)=none from EL b];rfl
 ·rw[show Bq (some q.2) (some p.2)=none from EL a,Od]
theorem Yh {p q r:Ag} (h:Gl p q r):tnR p q r=(Ha p q r,0):=by
 unfold tnR
 rw[Zg h.a h.b h.m,Z2 h.c h.d h.n]
 show(if AR _ _ then _ else _)=_
 rw[if_pos h.o];rfl
theorem Y1 {p q r:Ag} (h: ¬Gl p q r):(tnR p q r).2=4:=by
 unfold tnR
 by_cases a:CV q.1 p.1∧CV r.2 p.2∧Cf (q.1-p.1) (r.2-p.2)
 ·by_cases b:CV q.2 p.2∧CV r.1 p.1∧Cf (q.2-p.2) (r.1-p.1)
  ·rw[Zg a.1 a.2.1 a.2.2,Z2 b.1 b.2.1 b.2.2]
   show(if AR _ _ then _ else _:Int×Int).2=_
   rw[if_neg fun o=>h ⟨a.1,a.2.1,b.1,b.2.1,a.2.2,b.2.2,o⟩]
  ·rw[Zg a.1 a.2.1 a.2.2,ZI b]
 ·rw[ZN a]
theorem Zv {s:Bool} {x y:Rat} (h:(kOr s x y).2=true):(kOr s x y).1=0:=by
 cases s with
 |true=>rw[Ry]
 |false=>
  by_cases c:AR x y
  ·rw[Gg c] at h;cases h
  ·rw[RB c]
theorem Z5 {p q r:Ag} (h: ¬Gl p q r):kLf false p q r=(0,true):=by
 have h2:(kLf false p q r).2=true:=by
  cases c:(kLf false p q r).2 with
  |true=>rfl
  |false=>exact absurd (Yw.1 c).2 h
 have h1:(kLf false p q r).1=0:=Zv h2
 exact Prod.ext h1 h2
theorem NT (l:List Ag) (hq: ∀x∈l,okP x) (h3:3≤l.length) (hn:l.length≤4096) (p:Option Addr) (cap:Nat) (W:World) (hA:Cs W p l) (hv:BT W) (ht:AM W):
  Ai Tryz.prog 18 #[slv p l.length cap] W (fun e:Int=> .int .i64 e) (fun e=>e=0↔La l) (fun _=>[]):=by
 have hn0:0<l.length:=by omega
 have hz:(l.length:Int)≠0:=by omega
 have okl: ∀j,okP (Ab l j):=fun j=>hq _ (AD hn0 j)
 refine Ae (args:=[slv p l.length cap]) Tryz.func18 I I I ?_
 refine zA (zB ?_)
 (refine Ax rfl rfl rfl rfl ?_;intro)
 (refine Af Tryz.hZ rfl rfl rfl rfl ?_;intro)
 refine Aa ?_
 rename_i b1 b2
 refine zE (zA (zH (zA (zB (wB 0 I I I (wP I (wP I (wU 13 false I (dF (by omega)) (wP I (Aa (zE (zS I (zA ?_)))))))))))))
 refine zB (wB 0 I I I (wP I (wP I (wU 17 false I (dF (by omega)) (wP I (Aa (zE (zS I (zI (zN (zE (zA (zA ?_)))))))))))))
 refine zB (wB 0 I I I (wC I I (fun W1 hp=>Fm W1 p cap l (hA.hp hp) (by omega) (fun q h=>hq q h) (hv.hp hp) (ht.hp hp)) (wP I (Aa (zE (zA (zB (wP I (wP I (Aa (zE (zS I (zI ?_)))))))))))))
 refine zE (zA (zB ?_))
 refine Av Tryz.hZ tH I I I I I I I I ?_
 (refine Ax rfl rfl rfl rfl ?_;intro)
 (refine Af Tryz.hZ rfl rfl rfl rfl ?_;intro)
 (refine Af Tryz.hZ rfl rfl rfl rfl ?_;intro)
 refine wS 3 I I I (wS 4 I I I (Aa ?_))
 rename_i bC b4 b5
 refine zE (zA (zA (zB (wB 0 I I I ?_))))
 refine wD (X:=Nat) I I (fun W1 _=>CJ p l.length cap W1) ?_
 intro bp _
 refine Aa (zE (zH ?_))
 refine DH (X:=Bool×Bool) (fun x=>[⟨b1,22,[slv p l.length cap],true,none⟩,⟨b2,27,[.int .i64 (erI x.2)],true,none⟩,caE bC x.2,⟨b4,59,[Ah bC],true,none⟩,⟨b5,4,[.bool (!x.1)],true,none⟩,⟨bp,22,[slv p l.length cap],true,none⟩])
  (fun k x=>x.2=false∧FE l k 0 x.1) (fun c x=>c= .ret∧x.2=true∧ ¬La l) (true,false) rfl (by kernel_rfl) (Da l bp p cap (by omega)) (fun _=>rfl)
  ⟨rfl,FE.zero l⟩ [] rfl (fun k x W1 _ hp=>⟨Ak.of_bx hp 5 rfl rfl,hA.hp hp⟩) ?_ ?_ ?_
 ·rintro k ⟨c0,z⟩ d l' rec L hk ⟨ez,hU0⟩ hrec
  obtain rfl:z=false:=ez
  have hk:k<l.length:=hk
  have hU0:FE l k 0 c0:=hU0
  refine zA (zB (wP I (Aa (zE (zB ?_)))))
  (refine Af Tryz.hZ rfl rfl rfl rfl ?_;intro)
  refine wS 9 I I I (Aa ?_)
  rename_i b7
  refine CK 8 hrec I ?_
  refine B8 (zA (zB (wB 1 I I I (wP I (wP I (Aa (zE (zH ?_))))))))
  refine A8 (X:=Nat×Bool) (fun x=>[(1,Ah b1),(2,Ah b2),(4,Ah b4),(5,Ah b5),(6, .int .i64 (k:Nat)),(7,Ah b7),(29,slv p l.length cap),(30, .int .i64 (l.length:Nat)),(31, .int .i64 (x.1:Nat))])
   (fun x=>[AT L,⟨b1,22,[slv p l.length cap],true,none⟩,⟨b2,27,[.int .i64 0],true,none⟩,caE bC false,⟨b4,59,[Ah bC],true,none⟩,⟨b5,4,[.bool (!x.2)],true,none⟩,⟨bp,22,[slv p l.length cap],true,none⟩,B6 d,Bi l' rec .busy none,⟨b7,66,(sdV (Ab l k) (Ab l (k+1))).cells.toList,true,none⟩])
   (fun x=>x.1≤l.length∧FE l k x.1 x.2) (fun x=>l.length-x.1) (0,c0) ⟨Nat.zero_le _,hU0⟩ ⟨rfl,rfl,rfl,rfl,rfl,rfl,rfl,rfl,rfl,trivial⟩ [] rfl ?_
  rintro⟨i,c⟩ ⟨hi,hU⟩
  have hi:i≤l.length:=hi
  have hU:FE l k i c:=hU
  refine zA (zB (wP I ?_))
  by_cases hlt:i<l.length
  rotate_left
  ·exact wU 32 false I (dF (by omega)) (Aa (zE (zA (zS I (zJ (zK (zK (zL (zN (Co 8 (c,false) hrec I ⟨I,hU.next (by omega)⟩ [_] I))))))))))
  refine wU 32 true I (dT (by omega)) (Aa (zE (zA (zR I (zI (zE (zA (zH (zA (zB ?_))))))))))
  obtain⟨g,off,hpe,hrow⟩:=hA.at_ hlt
  have hrow:=hrow i hlt
  rw[←AE hlt] at hrow
  subst hpe
  refine wP I ?_
  refine wJ ?_
  refine wL 0 I I (fun W1 hp=>hrow.hp hp) I ?_
  (refine Af Tryz.hZ rfl rfl rfl rfl ?_;intro)
  refine wP I (wS 10 I I I (Aa ?_))
  rename_i b9
  refine zE (zA (zA (zB (wP I (wP I (wP I ?_))))))
  by_cases h1:i=k
  ·refine wU 38 false I (bne_eq_false_iff_eq.2 (by omega)) (wP I ?_)
   iterate 7 refine At I I ?_
   refine wP I (wP I ?_)
   iterate 8 refine At I I ?_
   refine wP I (Aa (zE (zS I (zI (zE (zA (zB (wB 4 I I I ?_))))))))
   refine AH I I I I ?_
   exact wP I (wB 3 I I I (wP I (Aa (zE (zS I (zI (zN (zE (zB (wP I (wV 67 ((i+1:Nat):Int) I (As (by omega)) (wP I (Aa (Ay (i+1,c) ⟨hlt,hU.skip fun h=>h.1 h1⟩ (by show l.length-(i+1)<l.length-i;omega) ⟨I,I,I,I,I,I,I,I,I,tO⟩ [_] I))))))))))))))
  refine wU 38 true I (bne_iff_ne.2 (by omega)) (wP I (wP I (wP I (wP I (wV 42 ((k+1:Nat):Int) I (As (by omega)) (wB 1 I I I (wP I ?_)))))))
  refine Ft I I I I I hz ?_
  refine wV 45 (((k+1)%l.length:Nat):Int) I I (wP I ?_)
  by_cases h2:i=(k+1)%l.length
  ·refine wU 46 false I (bne_eq_false_iff_eq.2 (by omega)) (wP I (wP I ?_))
   iterate 8 refine At I I ?_
   refine wP I (Aa (zE (zS I (zI (zE (zA (zB (wB 4 I I I ?_))))))))
   refine AH I I I I ?_
   exact wP I (wB 3 I I I (wP I (Aa (zE (zS I (zI (zN (zE (zB (wP I (wV 67 ((i+1:Nat):Int) I (As (by omega)) (wP I (Aa (Ay (i+1,c) ⟨hlt,hU.skip fun h=>h.2 h2⟩ (by show l.length-(i+1)<l.length-i;omega) ⟨I,I,I,I,I,I,I,I,I,tO⟩ [_] I))))))))))))))
  have hap:N7 l k i:=⟨h1,h2⟩
  refine wU 46 true I (bne_iff_ne.2 (by omega)) (wP I (wP I (wB 4 I I I ?_)))
  refine DF Tryz.underlying66 Tryz.sizeOf35 I I I I I ⟨by decide,by decide⟩ ?_
  refine wB 9 I I I ?_
  refine DF Tryz.underlying66 Tryz.sizeOf35 I I I I I ⟨by decide,by decide⟩ ?_
  refine wB 9 I I I (wB 10 I I I ?_)
  by_cases hok:Gl (Ab l k) (Ab l (k+1)) (Ab l i)
  ·have htn:=Yh hok
   have c1: ∀W1,KcP bC false W1→EM 55 [Ah bC,cvV (Ab l k),cvV (Ab l (k+1)),cvV (Ab l i)] bC (Ha (Ab l k) (Ab l (k+1)) (Ab l i),false) W1:=fun W1 h=>by
    have:=FG bC false _ _ _ (okl k) (okl (k+1)) (okl i) W1 h
    rwa [Ws hok] at this
   have hst:FE l k (i+1) (c&&decide (0<Ha (Ab l k) (Ab l (k+1)) (Ab l i))):=by
    have:=hU.step (by unfold KT;rw[htn]) hlt hap
    unfold KT at this
    rwa [htn] at this
   obtain⟨v,hvv⟩: ∃v,v=Ha (Ab l k) (Ab l (k+1)) (Ab l i):=⟨_,rfl⟩
   rw[←hvv] at c1 hst
   refine AO 3 bC I I I I I I (by kernel_rfl) I (fun W1 hp=>c1 W1 (KcP.of hp 3 I hv ht)) ?_
   refine wP I ?_
   by_cases hv0:v≤0
   ·rw[dF (by omega: ¬0<v),Bool.and_false] at hst
    refine wU 56 true I (dT hv0) (wP I (Aa (zE (zR I (zB (wS 5 I I I (Aa (zE (zA (zB (wB 4 I I I ?_)))))))))))
    refine AH I I I I ?_
    exact wP I (wB 3 I I I (wP I (Aa (zE (zS I (zI (zN (zE (zB (wP I (wV 67 ((i+1:Nat):Int) I (As (by omega)) (wP I (Aa (Ay (i+1,false) ⟨hlt,hst⟩ (by show l.length-(i+1)<l.length-i;omega) ⟨I,I,I,I,I,I,I,I,I,tO⟩ [_] I))))))))))))))
   ·rw[dT (by omega:0<v),Bool.and_true] at hst
    refine wU 56 false I (dF hv0) (wP I (Aa (zE (zS I (zI (zE (zA (zB (wB 4 I I I ?_)))))))))
    refine AH I I I I ?_
    exact wP I (wB 3 I I I (wP I (Aa (zE (zS I (zI (zN (zE (zB (wP I (wV 67 ((i+1:Nat):Int) I (As (by omega)) (wP I (Aa (Ay (i+1,c) ⟨hlt,hst⟩ (by show l.length-(i+1)<l.length-i;omega) ⟨I,I,I,I,I,I,I,I,I,tO⟩ [_] I))))))))))))))
  ·have hnc: ¬La l:=fun h=>by
    have h4:=(h k i hk hlt hap).1
    unfold KT at h4
    rw[Y1 hok] at h4
    exact absurd h4 (by decide)
   have c1: ∀W1,KcP bC false W1→EM 55 [Ah bC,cvV (Ab l k),cvV (Ab l (k+1)),cvV (Ab l i)] bC (0,true) W1:=fun W1 h=>by
    have:=FG bC false _ _ _ (okl k) (okl (k+1)) (okl i) W1 h
    rwa [Z5 hok] at this
   refine AO 3 bC I I I I I I (by kernel_rfl) I (fun W1 hp=>c1 W1 (KcP.of hp 3 I hv ht)) ?_
   refine wP I (wP I (Aa (zE (zR I (zB (wS 5 I I I (Aa (zE (zA (zB (wB 4 I I I ?_)))))))))))
   refine AH I I I I ?_
   refine wP I (wB 3 I I I (wP I (Aa (zE (zR I (zA (zB (wB 4 I I I ?_))))))))
   refine AH I I I I ?_
   exact wP I (wB 3 I I I (wS 2 I I I (Aa (zE (zO (zQ (zP (zP (zQ (zQ (JE 8 (false,true) hrec I ⟨I,I,hnc⟩ [_,_] I)))))))))))
 ·rintro⟨c,z⟩ d l' rec ⟨ez,hU⟩
  obtain rfl:z=false:=ez
  have hU:FE l l.length 0 c:=hU
  have hc:c=true↔La l:=by
   rw[hU.c0]
   exact⟨fun h i k hi hk ha=>⟨hU.e0 i k (.inl hi) hk ha,h i k (.inl hi) hk ha⟩,fun h i k hi hk ha=>(h i k (by omega) hk ha).2⟩
  refine zN (zE (zA (zA (zB ?_))))
  cases c with
  |true=>
   refine wB 4 I I I (Aa (zE (zS I (zI (zE (zA (zB (wS 1 I I I (Aa (zE (zO ?_)))))))))))
   refine Cl 6 I ?_
   exact Az tH I (.cell 1 I I I I I) (0:Int) I ⟨fun _=>hc.1 I,fun _=>rfl⟩ fun W _=>Ar.nil _ _
  |false=>
   refine wB 4 I I I (Aa (zE (zR I (zA (zB (wS 1 I I I (Aa (zE (zO (zP ?_))))))))))
   refine Cl 6 I ?_
   exact Az tH I (.cell 1 I I I I I) (15:Int) I ⟨fun h=>absurd h (by decide),fun h=>absurd (hc.2 h) (by decide)⟩ fun W _=>Ar.nil _ _
 ·rintro⟨c,z⟩ d l' rec cd ⟨rfl,ez,hnc⟩
  obtain rfl:z=true:=ez
  refine zO (zQ (zP ?_))
  refine Cl 6 I ?_
  exact Az tH I (.cell 1 I I I I I) (4:Int) I ⟨fun h=>absurd h (by decide),fun h=>absurd h hnc⟩ fun W _=>Ar.nil _ _
def IM (l:List PtS):Prop:= ∃m:List Ag,l=m.map cvS∧3≤m.length∧(∀x∈m,okP x)∧La m
theorem IA: ∀ {m m':List Ag},m.map cvS=m'.map cvS→m=m'
 |[],[],_=>rfl
 |[],_::_,h=>by cases h
 |_::_,[],h=>by cases h
 |x::m,y::m',h=>by
  rw[List.map_cons,List.map_cons] at h
  injection h with h1 h2
  have e1:=Ij.1 (congrArg Prod.fst h1)
  have e2:=Ij.1 (congrArg Prod.snd h1)
  rw[Prod.ext e1 e2,IA h2]
theorem IM.nErr {l:List PtS} (h:IM l):nErr l=0:=by
 obtain⟨m,rfl,_,hm,_⟩:=h
 exact FJ hm
theorem HX (W:World) (p:Option Addr) (cap:Nat) (l:List PtS) (hA:Dm W p l) (h4:l.length≤4096) (hs: ∀x∈l,x.1.length≤604∧x.2.length≤604) (ht:AM W):
  Ai Tryz.prog 39 #[slv p l.length cap] W (fun e:Int=> .int .i64 e) (fun e=>e=0↔IM l) (fun _=>[]):=by
 by_cases hv:nErr l=0∧3≤l.length
 ·obtain⟨m,rfl,hm⟩:=Hh hv.1
  have h3:=hv.2
  rw[List.length_map] at h3 h4
  have h:=IN W p cap m hA h3 h4 hm ht
  rw[List.length_map]
  refine⟨h.out.mono ?_⟩
  rintro e W' ⟨x,he,hx,hb⟩
  refine⟨x,he,hx.trans ⟨fun h=>⟨m,I,h3,hm,h⟩, ?_⟩,hb⟩
  rintro⟨m',e',_,_,h'⟩
  rw[IA e'];exact h'
 ·have h:=Qm W p cap l hA h4 (fun x hx=>by have:=hs x hx;omega) ht
  refine⟨h.out.mono ?_⟩
  rintro e W' ⟨x,he,hx,hb⟩
  refine⟨x,he,⟨fun h0=> ?_,fun h0=> ?_⟩,hb⟩
  ·obtain⟨m,rfl,h3,hm,_⟩:=hx h0
   exact absurd ⟨FJ hm,by rw[List.length_map];exact h3⟩ hv
  ·obtain⟨m,rfl,h3,hm,_⟩:=h0
   exact absurd ⟨FJ hm,by rw[List.length_map];exact h3⟩ hv
theorem SC (W:World) (p:Option Addr) (cap:Nat) (l:List PtS) (hA:Dm W p l) (h4:l.length≤4096) (hs: ∀x∈l,x.1.length≤604∧x.2.length≤604) (hv:BT W) (ht:AM W):
  Ai Tryz.prog 18 #[slv p l.length cap] W (fun e:Int=> .int .i64 e) (fun e=>e=0↔IM l) (fun _=>[]):=by
 by_cases h3:3≤l.length
 rotate_left
 ·refine Ae (args:=[slv p l.length cap]) Tryz.func18 I I I ?_
  refine zA (zB ?_)
  (refine Ax rfl rfl rfl rfl ?_;intro)
  (refine Af Tryz.hZ rfl rfl rfl rfl ?_;intro)
  refine Aa (zE (zA (zH (zA (zB (wB 0 I I I (wP I (wP I (wU 13 true I (dT (by omega)) (wP I (Aa (zE (zR I ?_)))))))))))))
  refine zA (zB (wS 1 I I I (Aa (zE (zO (zQ (zP ?_)))))))
  exact Az tH I (.cell 1 I I I I I) (5:Int) I ⟨fun h=>absurd h (by decide),fun h=>by
   obtain⟨m,rfl,h3',_,_⟩:=h
   rw[List.length_map] at h3
   exact absurd h3' h3⟩ fun W _=>Ar.nil _ _
 by_cases h0:nErr l=0
 ·obtain⟨m,rfl,hm⟩:=Hh h0
  rw[List.length_map] at h3 h4
  have h:=NT m hm h3 h4 p cap W hA.p hv ht
  rw[List.length_map]
  refine⟨h.out.mono ?_⟩
  rintro e W' ⟨x,he,hx,hb⟩
  refine⟨x,he,hx.trans ⟨fun h=>⟨m,I,h3,hm,h⟩, ?_⟩,hb⟩
  rintro⟨m',e',_,_,h'⟩
  rw[IA e'];exact h'
 ·refine Ae (args:=[slv p l.length cap]) Tryz.func18 I I I ?_
  refine zA (zB ?_)
  (refine Ax rfl rfl rfl rfl ?_;intro)
  (refine Af Tryz.hZ rfl rfl rfl rfl ?_;intro)
  refine Aa (zE (zA (zH (zA (zB (wB 0 I I I (wP I (wP I (wU 13 false I (dF (by omega)) (wP I (Aa (zE (zS I ?_)))))))))))))
  refine zA (zB (wB 0 I I I (wP I (wP I (wU 17 false I (dF (by omega)) (wP I (Aa (zE (zS I (zI (zN (zE (zA (zA ?_))))))))))))))
  refine zB (wB 0 I I I (wC I I (fun W1 hp=>Gf W1 p cap l (hA.hp hp) (by omega) (fun x hx=>by have:=hs x hx;omega) (hv.hp hp) (ht.hp hp)) (wP I (Aa (zE (zA (zB (wP I (wP I (wU 21 true I (bne_iff_ne.2 h0) (Aa (zE (zR I ?_)))))))))))))
  exact zA (zB (wP I (wS 1 I I I (Aa (zE (zO (zP (Az tH I (.cell 1 I I I I I) (nErr l) I ⟨fun h=>absurd h h0,fun h=>absurd h.nErr h0⟩ fun W _=>Ar.nil _ _))))))))
end
section
open Go Go.RowKit Go.Am Go.Lib
theorem Jj {q:Rat} {X W:Int} {k:Nat} (hW:W≠0) (h:q*(W:Rat)=X) (h1:X.natAbs<10^k) (h2:W.natAbs<10^k):szQ q k:=by
 have hw:(W:Rat)≠0:=fun e=>hW (by have h:=congrArg Rat.num e;rwa [Rat.num_intCast] at h)
 have e:q=(X:Rat)/(W:Rat):=by rw[←h,Rat.mul_div_cancel hw]
 have h:=Ko X hW h1 h2
 rw[Kk X hW,Rat.divInt_eq_div] at h
 rw[e]
 exact h
def Hm (e:Nat) (p:Ag):Prop:= ∃X Y W:Int,W≠0∧X.natAbs<10^e∧Y.natAbs<10^e∧W.natAbs<10^e∧p.1*(W:Rat)=X∧p.2*(W:Rat)=Y
theorem Hm.sz {e:Nat} {p:Ag} (h:Hm e p):szQ p.1 e∧szQ p.2 e:=by
 obtain⟨X,Y,W,h0,hX,hY,hW,e1,e2⟩:=h
 exact⟨Jj h0 e1 hX hW,Jj h0 e2 hY hW⟩
theorem Hm.mono {e e':Nat} {p:Ag} (h:Hm e p) (he:e≤e'):Hm e' p:=by
 obtain⟨X,Y,W,h0,hX,hY,hW,e1,e2⟩:=h
 have:=Nat.pow_le_pow_right (show 0<10 by decide) he
 exact⟨X,Y,W,h0,by omega,by omega,by omega,e1,e2⟩
def LnH (f:Bg):Prop:= ∃A B C D:Int,D≠0∧A.natAbs<10^11∧B.natAbs<10^11∧C.natAbs<10^11∧D.natAbs<10^9∧f.a*(D:Rat)=A∧f.b*(D:Rat)=B∧f.c*(D:Rat)=C
theorem WF {u v D Wp Wq p1 q1 Xp Xq U V t:Rat} (hp:p1*Wp=Xp) (hq:q1*Wq=Xq) (hU:u*(D*Wp)=U) (hV:v*(D*Wq)=V) (ht:t*(u-v)=u):(p1+t*(q1-p1))*(U*Wq-V*Wp)=U*Xq-V*Xp:=by
 subst hp hq hU hV
 have e:(p1+t*(q1-p1))*(u-v)=u*q1-v*p1:=by
  have:(p1+t*(q1-p1))*(u-v)=p1*(u-v)+t*(u-v)*(q1-p1):=by grind
  rw[this,ht];grind
 have:(p1+t*(q1-p1))*(u*(D*Wp)*Wq-v*(D*Wq)*Wp)=(p1+t*(q1-p1))*(u-v)*(D*Wp*Wq):=by grind
 rw[this,e];grind
theorem WS {a b c x y A B C D W X Y:Rat} (h1:a*D=A) (h2:b*D=B) (h3:c*D=C) (h4:x*W=X) (h5:y*W=Y):(a*x+b*y-c)*(D*W)=A*X+B*Y-C*W:=by
 subst h1 h2 h3 h4 h5;grind
theorem Zy {u v D Wp Wq U V t:Rat} (hU:u*(D*Wp)=U) (hV:v*(D*Wq)=V) (ht:t*(u-v)=u):t*(U*Wq-V*Wp)=U*Wq:=by
 subst hU hV
 have:t*(u*(D*Wp)*Wq-v*(D*Wq)*Wp)=t*(u-v)*(D*Wp*Wq):=by grind
 rw[this,ht];grind
theorem Yg {u v:Rat} (h:u*v<0):u-v≠0:=fun e=>by
 have e2:u=v:=by grind
 subst e2
 rcases IX.1 h with⟨a,b⟩|⟨a,b⟩<;>first|exact Rat.not_lt.2 (Rat.le_of_lt a) b|exact Rat.not_lt.2 (Rat.le_of_lt b) a
theorem Hm.at_ {e:Nat} {p:Ag} {f:Bg} (hp:Hm e p) (hf:LnH f):szQ (f.at p) (e+13):=by
 obtain⟨X,Y,W,h0,hX,hY,hW,e1,e2⟩:=hp
 obtain⟨A,B,C,D,hD0,hA,hB,hC,hD,f1,f2,f3⟩:=hf
 have hU:=WS f1 f2 f3 e1 e2
 have b1:=Ix (B5 hA hX) (B5 hB hY)
 have b2:(C*W).natAbs<10^(11+e+1):=Nat.lt_of_lt_of_le (B5 hC hW) (Nat.pow_le_pow_right (by decide) (by omega))
 have b3:=EG b1 b2
 refine Jj (W:=D*W) (X:=A*X+B*Y-C*W) (Int.mul_ne_zero hD0 h0) ?_ (by rw[show e+13=11+e+1+1 by omega];exact b3) ?_
 ·unfold Bg.at
  rw[Rat.intCast_mul,Rat.intCast_sub,Rat.intCast_add,Rat.intCast_mul,Rat.intCast_mul,Rat.intCast_mul]
  exact hU
 ·exact Nat.lt_of_lt_of_le (B5 hD hW) (Nat.pow_le_pow_right (by decide) (by omega))
theorem Hm.cut {e:Nat} {p q:Ag} {f:Bg} (hp:Hm e p) (hq:Hm e q) (hf:LnH f) (h:f.at p*f.at q<0):
  Hm (2*e+14) (G5 (f.at p/(f.at p-f.at q)) p q)∧szQ (f.at p/(f.at p-f.at q)) (2*e+14):=by
 have hn:=Yg h
 obtain⟨X,Y,W,h0,hX,hY,hW,e1,e2⟩:=hp
 obtain⟨X',Y',W',h0',hX',hY',hW',e1',e2'⟩:=hq
 obtain⟨A,B,C,D,hD0,hA,hB,hC,hD,f1,f2,f3⟩:=hf
 have hU:f.at p*((D:Rat)*W)=((A*X+B*Y-C*W:Int):Rat):=by
  rw[Rat.intCast_sub,Rat.intCast_add,Rat.intCast_mul,Rat.intCast_mul,Rat.intCast_mul]
  exact WS f1 f2 f3 e1 e2
 have hV:f.at q*((D:Rat)*W')=((A*X'+B*Y'-C*W':Int):Rat):=by
  rw[Rat.intCast_sub,Rat.intCast_add,Rat.intCast_mul,Rat.intCast_mul,Rat.intCast_mul]
  exact WS f1 f2 f3 e1' e2'
 have bU:(A*X+B*Y-C*W).natAbs<10^(11+e+1+1):=EG (Ix (B5 hA hX) (B5 hB hY)) (Nat.lt_of_lt_of_le (B5 hC hW) (Nat.pow_le_pow_right (by decide) (by omega)))
 have bV:(A*X'+B*Y'-C*W').natAbs<10^(11+e+1+1):=EG (Ix (B5 hA hX') (B5 hB hY')) (Nat.lt_of_lt_of_le (B5 hC hW') (Nat.pow_le_pow_right (by decide) (by omega)))
 generalize A*X+B*Y-C*W=U at hU bU
 generalize A*X'+B*Y'-C*W'=V at hV bV
 have ht:f.at p/(f.at p-f.at q)*(f.at p-f.at q)=f.at p:=Rat.div_mul_cancel hn
 generalize f.at p/(f.at p-f.at q)=t at ht
 have hwn:U*W'-V*W≠0:=fun e0=>by
  have c0:((U*W'-V*W:Int):Rat)=0:=by rw[e0];rfl
  rw[Rat.intCast_sub,Rat.intCast_mul,Rat.intCast_mul, ←hU, ←hV] at c0
  have c1:f.at p*((D:Rat)*W)*W'-f.at q*((D:Rat)*W')*W=(f.at p-f.at q)*((D:Rat)*W*W'):=by grind
  rw[c1] at c0
  have nz: ∀ {z:Int},z≠0→(z:Rat)≠0:=fun hz e=>hz (by have h:=congrArg Rat.num e;rwa [Rat.num_intCast] at h)
  rcases Rat.mul_eq_zero.1 c0 with c|c
  ·exact hn c
  ·rcases Rat.mul_eq_zero.1 c with c|c
   ·rcases Rat.mul_eq_zero.1 c with c|c
    ·exact nz hD0 c
    ·exact nz h0 c
   ·exact nz h0' c
 have pw: ∀ {a b:Int},a.natAbs<10^(11+e+1+1)→b.natAbs<10^e→(a*b).natAbs<10^(2*e+13):=fun ha hb=>by
  rw[show 2*e+13=11+e+1+1+e by omega];exact B5 ha hb
 refine⟨⟨U*X'-V*X,U*Y'-V*Y,U*W'-V*W,hwn,EG (pw bU hX') (pw bV hX),EG (pw bU hY') (pw bV hY),EG (pw bU hW') (pw bV hW), ?_, ?_⟩, ?_⟩
 ·rw[Rat.intCast_sub,Rat.intCast_sub,Rat.intCast_mul,Rat.intCast_mul,Rat.intCast_mul,Rat.intCast_mul]
  exact WF e1 e1' hU hV ht
 ·rw[Rat.intCast_sub,Rat.intCast_sub,Rat.intCast_mul,Rat.intCast_mul,Rat.intCast_mul,Rat.intCast_mul]
  exact WF e2 e2' hU hV ht
 ·refine Jj hwn (X:=U*W') ?_ (Nat.lt_of_lt_of_le (pw bU hW') (Nat.pow_le_pow_right (by decide) (by omega))) (EG (pw bU hW') (pw bV hW))
  rw[Rat.intCast_sub,Rat.intCast_mul,Rat.intCast_mul]
  exact Zy hU hV ht
theorem LnH.sz {f:Bg} (hf:LnH f):szQ f.a 11∧szQ f.b 11∧szQ f.c 11:=by
 obtain⟨A,B,C,D,hD0,hA,hB,hC,hD,f1,f2,f3⟩:=hf
 have hD':D.natAbs<10^11:=Nat.lt_of_lt_of_le hD (Nat.pow_le_pow_right (by decide) (by decide))
 exact⟨Jj hD0 f1 hA hD',Jj hD0 f2 hB hD',Jj hD0 f3 hC hD'⟩
theorem Hm.kept {e:Nat} {f:Bg} {l:List Ag} (hf:LnH f) (hl: ∀p∈l,Hm e p): ∀k,k≤l.length→ ∀p∈EK f l k,Hm (2*e+14) p
 |0,_,p,hp=>absurd hp (by simp[EK,DG])
 |k+1,hk,p,hp=>by
  have h0:0<l.length:=by omega
  rw[KG,G7,List.mem_append,List.mem_append] at hp
  rcases hp with(hp|hp)|hp
  ·exact Hm.kept hf hl k (by omega) p hp
  ·split at hp
   ·rw[List.mem_singleton.1 hp];exact(hl _ (AD h0 k)).mono (by omega)
   ·exact absurd hp (by simp)
  ·split at hp
   ·rename_i c
    rw[List.mem_singleton.1 hp];exact((hl _ (AD h0 k)).cut (hl _ (AD h0 (k+1))) hf c).1
   ·exact absurd hp (by simp)
theorem ClZ.of {e:Nat} {f:Bg} {l:List Ag} (hf:LnH f) (he:e≤50) (hl: ∀p∈l,Hm e p):ClZ f l:=by
 obtain⟨sa,sb,sc⟩:=hf.sz
 refine⟨fun q hq=> ?_,fun i hi hc=> ?_,fun p hp=> ?_⟩
 ·obtain⟨q1,q2⟩:=(hl q hq).sz
  exact⟨sz2 sa q1 (by omega),sz2 sb q2 (by omega),sz2 (sa.mul q1) (sb.mul q2) (by omega),sz2 ((sa.mul q1).add (sb.mul q2)) sc (by omega)⟩
 ·have h0:0<l.length:=by omega
  have hp:=hl _ (AD h0 i)
  have hq:=hl _ (AD h0 (i+1))
  have hu:=hp.at_ hf
  have hv:=hq.at_ hf
  have ht:=(hp.cut hq hf hc).2
  obtain⟨p1,p2⟩:=hp.sz
  obtain⟨q1,q2⟩:=hq.sz
  exact⟨sz2 hu hv (by omega),sz2 hu (hu.sub hv) (by omega),Nz (Yg hc),sz2 q1 p1 (by omega),sz2 ht (q1.sub p1) (by omega),sz2 p1 (ht.mul (q1.sub p1)) (by omega),sz2 q2 p2 (by omega),sz2 ht (q2.sub p2) (by omega),sz2 p2 (ht.mul (q2.sub p2)) (by omega)⟩
 ·have h:=(Hm.kept hf hl l.length (Nat.le_refl _) p hp).sz
  exact⟨h.1.mono (by omega),h.2.mono (by omega)⟩
end
section
open Go Go.RowKit Go.Am Go.Lib
set_option maxRecDepth 10000
-- BOXES 15
-- CODE2
theorem X6 (q:Rat):(F8 q==0)=decide (q=0):=by
 have h2:q.num=0↔q=0:=Rat.num_eq_zero
 rw[Bool.eq_iff_iff,beq_iff_eq,decide_eq_true_iff, ←h2]
 unfold F8
 split
 ·rename_i e
  exact⟨fun _=>e,fun _=>rfl⟩
 ·rename_i e
  split
  ·exact⟨fun h=>absurd h (by decide),fun h=>absurd h e⟩
  ·exact⟨fun h=>absurd h (by decide),fun h=>absurd h e⟩
theorem CY.keep {W W':World} {c g:Nat} (h:CY W c) (hk:GB W W' g) (hne:c≠g):CY W' c:=(hk.at_ c hne (Array.getElem?_eq_some_iff.1 h).1).trans h
def ES (f:Bg) (l:List Ag) (k:Nat):List Ag:=(LK (Ab l) k f).map (H0 (Ab l))
def HB (f:Bg) (l:List Ag) (k:Nat):List Ag:=ES f l k++(if f.at (Ab l k)=0 then[Ab l k] else[])
theorem U0 (f:Bg) (l:List Ag) (k:Nat):ES f l (k+1)=HB f l k++(if f.at (Ab l k)*f.at (Ab l (k+1))<0 then[G5 (f.at (Ab l k)/(f.at (Ab l k)-f.at (Ab l (k+1)))) (Ab l k) (Ab l (k+1))] else[]):=by
 unfold ES HB LK
 rw[List.range_succ,List.flatMap_append,List.map_append,List.flatMap_cons,List.flatMap_nil,List.append_nil,List.map_append, ←List.append_assoc]
 have e1:(if f.at (Ab l k)=0 then[((k,0):Ra)] else[]).map (H0 (Ab l))=if f.at (Ab l k)=0 then[Ab l k] else[]:=by
  split
  ·show[G5 0 (Ab l k) (Ab l (k+1))]=_
   rw[MB]
  ·rfl
 have e2:(if f.at (Ab l k)*f.at (Ab l (k+1))<0 then[((k,f.at (Ab l k)/(f.at (Ab l k)-f.at (Ab l (k+1)))):Ra)] else[]).map (H0 (Ab l))=if f.at (Ab l k)*f.at (Ab l (k+1))<0 then[G5 (f.at (Ab l k)/(f.at (Ab l k)-f.at (Ab l (k+1)))) (Ab l k) (Ab l (k+1))] else[]:=by
  split
  ·rfl
  ·rfl
 rw[e1,e2]
 rfl
theorem Kp (f:Bg) (l:List Ag) (k:Nat):(ES f l k).length≤k:=by unfold ES;rw[List.length_map];exact QB _ _ _
theorem Wz (f:Bg) (l:List Ag) (k:Nat):(HB f l k).length≤k+1:=by
 unfold HB
 have:=Kp f l k
 rw[List.length_append]
 have a:(if f.at (Ab l k)=0 then[Ab l k] else[]).length≤1:=by split<;>simp
 omega
structure SeZ (f:Bg) (l:List Ag):Prop where
 v: ∀q∈l,Zm f q
 c: ∀i,i<l.length→f.at (Ab l i)*f.at (Ab l (i+1))<0→YG (Ab l i) (Ab l (i+1)) (f.at (Ab l i)) (f.at (Ab l (i+1)))
 n2:(FA f l).length≤2
 s: ∀x y,FA f l=[x,y]→Sz2 y.1 x.1∧Sz2 y.2 x.2
def ptV (x:Ag):Value:= .agg #[str (Ad x.1),str (Ad x.2)]
def Tu (l:List Ag):Value:=match l with
 |[x,y]=> .tuple #[ptV (if Bc y x=true then y else x),ptV (if Bc y x=true then x else y), .bool true, .int .i64 0]
 |_=> .tuple #[.agg #[str [],str []], .agg #[str [],str []], .bool false, .int .i64 0]
section
variable {P:Program} {N:Nat} {D:List Deferred} {ops:List Oper} {o:Oper} {rest:List Oper} {env:Env} {A A2:World→Prop} {R:Act→World→Prop}
theorem Gs {d:Nat} {x:Operand} {a:Addr} (hg:AC ops N env o=some true) (hd:o.dst=some d) (ho:o.op= .nilCheck x) (hx:evO N env x=some (.pointer (some a)))
  (h:WQ P N D ops A2 R rest ((d, .pointer (some a))::env) A):WQ P N D ops A2 R (o::rest) env A:=
 Ec hg hd (fun c e=>by rw[ho] at e;cases e) (fun _ W hρ _=>by simp[execOp,ho,hρ _ _ hx]) h
end
theorem MR (f:Bg) (hf:VX f) (l:List Ag) (hz:SeZ f l) (p:Option Addr) (cap:Nat) (W:World) (h:Ih W p l):
  Ai Tryz.prog 24 #[slv p l.length cap,str (Ad f.a),str (Ad f.b),str (Ad f.c)] W (fun _:Unit=>Tu (FA f l)) (fun _=>True) (fun _=>[]):=by
 have h3:=h.n3
 have hn:=h.n
 have hA:=h.m
 have hn0:0<l.length:=by omega
 have hzz:(l.length:Int)≠0:=by omega
 have hvl:(l.map f.at).length=l.length:=List.length_map _
 refine Ae (args:=[slv p l.length cap,str (Ad f.a),str (Ad f.b),str (Ad f.c)]) Tryz.func24 I I I ?_
 refine zA (zB ?_)
 (refine Ax rfl rfl rfl rfl ?_;intro)
 (refine Af Tryz.hZ rfl rfl rfl rfl ?_;intro)
 (refine Af Tryz.hZ rfl rfl rfl rfl ?_;intro)
 refine wP I (wP I (Aa ?_))
 rename_i b4 b8 b9
 refine zE (zA (zA (zB (wB 0 I I I (wP I (wP I (wP I ?_)))))))
 refine AN Tryz.hZ tH I I I I I I I I I I I fun bS=> ?_
 refine wC I I (fun W1 hp=>IR l p cap f.a f.b f.c hf.a hf.b hf.c hf.n bS 3 W1 (h.hp hp) (Ak.of_bx hp 3 I I)) (wP I (Aa (zE (zA (zB (wP I (wP I (Aa (zE (zS I (zI (zE (zA ?_)))))))))))))
 refine zB ?_
 refine Av Tryz.hZ tH I I I I I I I I ?_
 (refine Ax rfl rfl rfl rfl ?_;intro)
 (refine Af Tryz.hZ rfl rfl rfl rfl ?_;intro)
 refine wS 5 I I I (Aa ?_)
 rename_i bC b13
 refine zE (Ao ?_)
 refine AL (X:= { s:Nat×Vec//s.2.OK 1 l.length (vsC (l.map f.at)) }) [true,true,true,true,true,false,false,false,false] (fun s=>[(4,Ah b4),(8,Ah b8),(9,Ah b9),(10, .bool false),(11, .int .i64 0),(13,Ah b13),(14,Ah s.1.1)]) (fun s=>[lsB b4 (slv p l.length cap),ptB b8 [] [],ptB b9 [] [],caB bC,ckB b13 bC,nmB s.1.1 (s.1.2.val l.length),s.1.2.bx 23 (vsC (l.map f.at))])
  4 [lsB b4 (slv p l.length cap),ptB b8 [] [],ptB b9 [] [],⟨bS,23,[str (Ad f.a),str (Ad f.b),str (Ad f.c)],true,none⟩,caB bC,ckB b13 bC] Tryz.mixed (by kernel_rfl) ?_ ?_
 ·refine qB 0 I I I (qB 5 I I I (qP I (qP I (qP I (Bu (wX ?_))))))
  refine RS.cons ?_ (RS.cons ?_ (RS.nil))
  ·refine wD (X:=Nat×Nat×Nat×Nat) rfl rfl (fun W1 _=>F5 bC f W1) ?_;rintro⟨v4,v5,v6,v7⟩ _
   refine Aa (Ac (wX ?_))
   refine RS.cons ?_ (RS.cons ?_ (RS.nil))
   ·refine wD (X:=Vec) rfl rfl (fun W1 hp=>Do l f.at 132 [Ah v4,Ah v5,Ah v6,Ah v7] (by kernel_rfl) hn p cap W1 (hA.hp hp) (fun q hq W2 hb=>Dn v4 v5 v6 v7 bC f q (hz.v q hq) W2 (KM.below (by first|exact⟨Ak.of_bx hp 6 rfl rfl,Ak.of_bx hp 7 rfl rfl,Ak.of_bx hp 8 rfl rfl,Ak.of_bx hp 9 rfl rfl,BQ hp 4 rfl,h.v.hp hp,h.t.hp hp⟩|exact⟨Ak.of_bx hp 7 rfl rfl,Ak.of_bx hp 8 rfl rfl,Ak.of_bx hp 9 rfl rfl,Ak.of_bx hp 10 rfl rfl,BQ hp 4 rfl,h.v.hp hp,h.t.hp hp⟩) hb))) ?_;rintro⟨pV1,cV1,jV1⟩ hV1;obtain⟨gV1,rfl⟩: ∃g,pV1=some g:=Option.ne_none_iff_exists'.1 (fun e=>absurd (hV1.nil e) (by omega))
    refine Aa (Ac (wX (wZ ?_)))
    refine Af Tryz.hZ rfl rfl rfl rfl ?_;intro b14
    refine Aa (Ac (wX (wZ (wS 11 I I I (Aa (Ac ?_))))))
    refine A5 I (by((repeat (first|refine A9.same ?_|refine A9.off I ?_));exact tO)) ?_
    exact Al (⟨(b14,⟨some gV1,cV1,jV1⟩),hV1⟩: { s:Nat×Vec//s.2.OK 1 l.length (vsC (l.map f.at)) }) ⟨I,I,I,I,I,I,I,tO⟩ [0,1,2,4,5,11,10] (by decide) I
   ·refine Af Tryz.hZ rfl rfl rfl rfl ?_;intro b14
    refine Aa (Ac (wX (wZ ?_)))
    refine wD (X:=Vec) rfl rfl (fun W1 hp=>Do l f.at 132 [Ah v4,Ah v5,Ah v6,Ah v7] (by kernel_rfl) hn p cap W1 (hA.hp hp) (fun q hq W2 hb=>Dn v4 v5 v6 v7 bC f q (hz.v q hq) W2 (KM.below (by first|exact⟨Ak.of_bx hp 6 rfl rfl,Ak.of_bx hp 7 rfl rfl,Ak.of_bx hp 8 rfl rfl,Ak.of_bx hp 9 rfl rfl,BQ hp 4 rfl,h.v.hp hp,h.t.hp hp⟩|exact⟨Ak.of_bx hp 7 rfl rfl,Ak.of_bx hp 8 rfl rfl,Ak.of_bx hp 9 rfl rfl,Ak.of_bx hp 10 rfl rfl,BQ hp 4 rfl,h.v.hp hp,h.t.hp hp⟩) hb))) ?_;rintro⟨pV1,cV1,jV1⟩ hV1;obtain⟨gV1,rfl⟩: ∃g,pV1=some g:=Option.ne_none_iff_exists'.1 (fun e=>absurd (hV1.nil e) (by omega))
    refine Aa (Ac (wX (wZ (wS 10 I I I (Aa (Ac ?_))))))
    refine A5 I (by((repeat (first|refine A9.same ?_|refine A9.off I ?_));exact tO)) ?_
    exact Al (⟨(b14,⟨some gV1,cV1,jV1⟩),hV1⟩: { s:Nat×Vec//s.2.OK 1 l.length (vsC (l.map f.at)) }) ⟨I,I,I,I,I,I,I,tO⟩ [0,1,2,4,5,10,11] (by decide) I
  ·refine Af Tryz.hZ rfl rfl rfl rfl ?_;intro b14
   refine Aa (Ac (wX (wZ ?_)))
   refine wD (X:=Nat×Nat×Nat×Nat) rfl rfl (fun W1 _=>F5 bC f W1) ?_;rintro⟨v4,v5,v6,v7⟩ _
   refine Aa (Ac (wX (wZ ?_)))
   refine wD (X:=Vec) rfl rfl (fun W1 hp=>Do l f.at 132 [Ah v4,Ah v5,Ah v6,Ah v7] (by kernel_rfl) hn p cap W1 (hA.hp hp) (fun q hq W2 hb=>Dn v4 v5 v6 v7 bC f q (hz.v q hq) W2 (KM.below (by first|exact⟨Ak.of_bx hp 6 rfl rfl,Ak.of_bx hp 7 rfl rfl,Ak.of_bx hp 8 rfl rfl,Ak.of_bx hp 9 rfl rfl,BQ hp 4 rfl,h.v.hp hp,h.t.hp hp⟩|exact⟨Ak.of_bx hp 7 rfl rfl,Ak.of_bx hp 8 rfl rfl,Ak.of_bx hp 9 rfl rfl,Ak.of_bx hp 10 rfl rfl,BQ hp 4 rfl,h.v.hp hp,h.t.hp hp⟩) hb))) ?_;rintro⟨pV1,cV1,jV1⟩ hV1;obtain⟨gV1,rfl⟩: ∃g,pV1=some g:=Option.ne_none_iff_exists'.1 (fun e=>absurd (hV1.nil e) (by omega))
   refine Aa (Ac (wX (wZ (wS 6 I I I (Aa (Ac ?_))))))
   refine A5 I (by((repeat (first|refine A9.same ?_|refine A9.off I ?_));exact tO)) ?_
   exact Al (⟨(b14,⟨some gV1,cV1,jV1⟩),hV1⟩: { s:Nat×Vec//s.2.OK 1 l.length (vsC (l.map f.at)) }) ⟨I,I,I,I,I,I,I,tO⟩ [0,1,2,4,5,6,11] (by decide) I
 rintro⟨⟨b14,⟨pV,cV,jV⟩⟩,hV⟩
 obtain⟨gV,rfl⟩: ∃g,pV=some g:=by
  cases pV with
  |none=>have:=hV.nil rfl;omega
  |some g=>exact⟨g,rfl⟩
 have hcapV:=(hV.cap (by simp)).1
 refine zE (zA (zA (zB (wB 4 I I I ?_))))
 refine AH I I I I ?_
 refine wP I (wB 3 I I I (wP I (Aa (zE (zS I (zI (zE (zA (zB ?_)))))))))
 (refine Af Tryz.hZ rfl rfl rfl rfl ?_;intro)
 refine Aa ?_
 rename_i b15
 refine zE (zA (zA (zB (wB 0 I I I ?_))))
 refine wD (X:=Nat) I I (fun W1 _=>CJ p l.length cap W1) ?_
 intro bp _
 refine Aa (zE (zH ?_))
 refine Ga ?_
 refine DH (X:=Nat×Vec) (fun x=>[lsB b4 (slv p l.length cap),ptB b8 [] [],ptB b9 [] [],caB bC,ckB b13 bC,nmB b14 (.slice (some ⟨gV,0,none⟩) l.length cV),⟨gV,23,vsC (l.map f.at)++jV,true,none⟩,lsB b15 (x.2.val (ES f l x.1).length),lsB bp (slv p l.length cap),x.2.bx 35 (ptC (ES f l x.1))])
  (fun j x=>x.1=j∧x.2.OK 2 (ES f l x.1).length (ptC (ES f l x.1))) (fun _ _=>False) (0,Vec.empty) rfl (by kernel_rfl) (Da l bp p cap (by omega)) (fun _=>rfl)
  ⟨rfl,Vec.OK.empty 2⟩ [] rfl (fun k x W1 _ hp=>⟨Ak.of_bx hp 8 rfl rfl,hA.hp hp⟩) ?_ ?_ (fun _ _ _ _ _ h=>h.elim)
 ·rintro k ⟨k',O⟩ d l' rec L hk ⟨e1,hO⟩ hrec
  obtain rfl:k'=k:=e1
  have hk:k'<l.length:=hk
  have hO:O.OK 2 (ES f l k').length (ptC (ES f l k')):=hO
  have hol:=Kp f l k'
  have hml:=Wz f l k'
  have hsl:=Kp f l (k'+1)
  have hk2:(k'+1)%l.length<l.length:=Nat.mod_lt _ hn0
  have ev: ∀i (hi:i<l.length),(l.map f.at)[i]'(by rw[hvl];exact hi)=f.at (Ab l i):=fun i hi=>by rw[List.getElem_map,AE hi]
  have hr1: ∀ {W0 W1:World} {bxs:List Bx} (hp:Hp W0 bxs W1) (m:Nat) (hm:nth bxs m=some ⟨gV,23,vsC (l.map f.at)++jV,true,none⟩),Ak W1 gV (0+k'*1) [str (Ad (f.at (Ab l k')))]:=fun hp m hm=>by
   have:=T1 hp m hm (i:=k') (by rw[hvl];exact hk)
   rwa [ev k' hk] at this
  have hr2: ∀ {W0 W1:World} {bxs:List Bx} (hp:Hp W0 bxs W1) (m:Nat) (hm:nth bxs m=some ⟨gV,23,vsC (l.map f.at)++jV,true,none⟩),Ak W1 gV (0+((k'+1)%l.length)*1) [str (Ad (f.at (Ab l (k'+1))))]:=fun hp m hm=>by
   have:=T1 hp m hm (i:=(k'+1)%l.length) (by rw[hvl];exact hk2)
   rwa [ev _ hk2,Bn] at this
  obtain⟨u,hu⟩: ∃u,u=f.at (Ab l k'):=⟨_,rfl⟩
  obtain⟨v,hvv⟩: ∃v,v=f.at (Ab l (k'+1)):=⟨_,rfl⟩
  have hsu:=U0 f l k'
  have hmu:HB f l k'=ES f l k'++(if u=0 then[Ab l k'] else[]):=by rw[hu];rfl
  have hcz:=hz.c k' hk
  rw[←hu, ←hvv] at hsu hcz
  rw[←hu] at hr1
  rw[←hvv] at hr2
  refine zA (zB (wP I (Aa (zE (zB ?_)))))
  (refine Af Tryz.hZ rfl rfl rfl rfl ?_;intro)
  refine wS 13 I I I (Aa ?_)
  rename_i b17
  refine CK 12 hrec I ?_
  refine B8 (zA (zU (qB 6 I I I (qP I ?_))))
  refine qJ ?_
  refine qL 0 I I (fun W1 hp=>hr1 hp 7 I) I (qC I I (fun W1 _=>Fj u W1) (qB 6 I I I (qP I (qP I (qV 62 ((k'+1:Nat):Int) I (As (by omega)) (qB 1 I I I (qP I ?_)))))))
  refine Ed I I I I I hzz ?_
  refine CU 65 (.int .i64 (((k'+1)%l.length:Nat):Int)) I I ?_
  refine qJ ?_
  refine qL 0 I I (fun W1 hp=>hr2 hp 7 I) I (qC I I (fun W1 _=>Fj v W1) (qP I (qP I (AQ (Aa (zE (zA (zA (zB (wP I (wP I (wU 70 (decide (u=0)) I (X6 u) (Aa ?_)))))))))))))
  refine AP ?_
  refine AJ (X:=Vec) (fun _=>[(4,Ah b4),(8,Ah b8),(9,Ah b9),(10, .bool false),(11, .int .i64 0),(13,Ah b13),(14,Ah b14),(15,Ah b15),(16, .int .i64 (k':Nat)),(17,Ah b17),(18, .int .i64 (F8 u)),(19, .int .i64 (F8 v))])
   (fun O=>[AT L,lsB b4 (slv p l.length cap),ptB b8 [] [],ptB b9 [] [],caB bC,ckB b13 bC,nmB b14 (.slice (some ⟨gV,0,none⟩) l.length cV),⟨gV,23,vsC (l.map f.at)++jV,true,none⟩,lsB b15 (O.val (HB f l k').length),lsB bp (slv p l.length cap),O.bx 35 (ptC (HB f l k')),B6 d,Bi l' rec .busy none,⟨b17,66,(sdV (Ab l k') (Ab l (k'+1))).cells.toList,true,none⟩])
   (fun O=>O.OK 2 (HB f l k').length (ptC (HB f l k'))) ?_ ?_
  ·refine A0 I (fun hc1=> ?_) (fun hc1=> ?_)
   ·rw[if_pos (of_decide_eq_true hc1)] at hmu
    have hlm:(ES f l k').length+1=(HB f l k').length:=by rw[hmu,List.length_append];rfl
    refine zB (wB 8 I I I ?_)
    refine DF Tryz.underlying66 Tryz.sizeOf35 I I I I I ⟨by decide,by decide⟩ ?_
    refine wB 13 I I I ?_
    refine AN Tryz.hZ tH I I I I I I I I I I I fun bS=> ?_
    refine BM (V:=O) (len:=(ES f l k').length) (xs:=ptC (ES f l k')) 10 14 Tryz.vec22 (HB f l k').length (ptC (HB f l k')) I I I I I I I I I I I hO I I hlm (by rw[hmu,Cr];rfl) (by simp only[maxLen];omega) (by omega) I ?_
    intro gO cO jO hO1
    exact wS 8 I I I (Aa (An ⟨some gO,cO,jO⟩ hO1 ⟨I,I,I,I,I,I,I,I,I,I,I,I,tO⟩ [_] I))
   ·rw[if_neg (of_decide_eq_false hc1),List.append_nil] at hmu
    exact zI (An O (by rw[hmu];exact hO) ⟨I,I,I,I,I,I,I,I,I,I,I,I,tO⟩ [] (by rw[hmu];rfl))
  intro O1 hO1
  have hO1:O1.OK 2 (HB f l k').length (ptC (HB f l k')):=hO1
  refine zA (zB (wP I (wP I (wP I (wP I (wU 79 (decide (u*v<0)) I (TP u v) (Aa (zE ?_))))))))
  refine A0 I (fun hc2=> ?_) (fun hc2=> ?_)
  ·have hc2':u*v<0:=of_decide_eq_true hc2
   rw[if_pos hc2'] at hsu
   have hlm:(HB f l k').length+1=(ES f l (k'+1)).length:=by rw[hsu,List.length_append];rfl
   refine AL (X:= { O:Vec//O.OK 2 (ES f l (k'+1)).length (ptC (ES f l (k'+1))) }) [true,true,true,true,true,true,true,true,true,true,true,true,true,true,true,true,true,true,true,false,false,false] (fun _=>[(4,Ah b4),(8,Ah b8),(9,Ah b9),(10, .bool false),(11, .int .i64 0),(13,Ah b13),(14,Ah b14),(15,Ah b15)])
    (fun O=>[AT L,lsB b4 (slv p l.length cap),ptB b8 [] [],ptB b9 [] [],caB bC,ckB b13 bC,nmB b14 (.slice (some ⟨gV,0,none⟩) l.length cV),⟨gV,23,vsC (l.map f.at)++jV,true,none⟩,lsB b15 (O.1.val (ES f l (k'+1)).length),lsB bp (slv p l.length cap),O.1.bx 35 (ptC (ES f l (k'+1))),B6 d,Bi l' rec .busy none])
    3 [AT L,lsB b4 (slv p l.length cap),ptB b8 [] [],ptB b9 [] [],caB bC,ckB b13 bC,nmB b14 (.slice (some ⟨gV,0,none⟩) l.length cV),⟨gV,23,vsC (l.map f.at)++jV,true,none⟩,lsB b15 (O1.val (HB f l k').length),lsB bp (slv p l.length cap),O1.bx 35 (ptC (HB f l k')),B6 d,Bi l' rec .busy none,⟨b17,66,(sdV (Ab l k') (Ab l (k'+1))).cells.toList,true,none⟩] Tryz.mixed (by kernel_rfl) ?_ ?_
   ·refine qB 8 I I I (qB 5 I I I ?_)
    refine AZ Tryz.underlying66 Tryz.sizeOf35 I I I I I ⟨by decide,by decide⟩ ?_
    refine qB 13 I I I ?_
    refine AZ Tryz.underlying66 Tryz.sizeOf35 I I I I I ⟨by decide,by decide⟩ ?_
    refine qB 13 I I I (qB 6 I I I (qP I ?_))
    refine qJ ?_
    refine qL 0 I I (fun W1 hp=>hr1 hp 7 I) I (qB 6 I I I (qP I (qP I (qV 92 ((k'+1:Nat):Int) I (As (by omega)) (qB 1 I I I (qP I ?_))))))
    refine Ed I I I I I hzz ?_
    refine CU 95 (.int .i64 (((k'+1)%l.length:Nat):Int)) I I ?_
    refine qJ ?_
    refine qL 0 I I (fun W1 hp=>hr2 hp 7 I) I (qC I I (fun W1 hp=>Nx bC (Ab l k') (Ab l (k'+1)) u v (hcz hc2') W1 (BQ hp 4 I) (h.v.hp hp) (h.t.hp hp)) (Bu (wX (wZ ?_))))
    refine AN Tryz.hZ tH I I I I I I I I I I I fun bS=> ?_
    refine Aa (Ac (wX (wZ ?_)))
    refine BM (V:=O1) (len:=(HB f l k').length) (xs:=ptC (HB f l k')) 10 14 Tryz.vec22 (ES f l (k'+1)).length (ptC (ES f l (k'+1))) rfl rfl rfl rfl rfl rfl rfl rfl rfl rfl rfl hO1 rfl rfl hlm (by rw[hsu,Cr];rfl) (by simp only[maxLen];omega) (by omega) rfl ?_;intro gO cO jO hO2
    refine Aa (Ac (wY (wZ (wS 8 I I I (Aa (Ac ?_))))))
    refine AF I (by kernel_rfl) ?_
    exact Al (⟨⟨some gO,cO,jO⟩,hO2⟩: { O:Vec//O.OK 2 (ES f l (k'+1)).length (ptC (ES f l (k'+1))) }) ⟨I,I,I,I,I,I,I,I,tO⟩ [0,1,2,3,4,5,6,7,8,9,10,11,12] (by decide) I
   rintro⟨O2,hO2⟩
   exact zN (Co 12 (k'+1,O2) hrec I ⟨I,hO2⟩ [] I)
  ·rw[if_neg (of_decide_eq_false hc2),List.append_nil] at hsu
   exact zI (zN (Co 12 (k'+1,O1) hrec I ⟨I,by show O1.OK 2 (ES f l (k'+1)).length (ptC (ES f l (k'+1)));rw[hsu];exact hO1⟩ [_] (by rw[hsu];rfl)))
 ·rintro⟨k',O⟩ d l' rec ⟨e1,hO⟩
  obtain rfl:k'=l.length:=e1
  have hoe:ES f l l.length=FA f l:=rfl
  have hO:O.OK 2 (FA f l).length (ptC (FA f l)):=hO
  have hol:=Kp f l l.length
  rw[hoe] at hol
  rw[hoe]
  have hn2:=hz.n2
  have hs:=hz.s
  generalize FA f l=S at hO hol hn2 hs⊢
  obtain⟨q,cc,hval⟩: ∃q cc,O.val S.length= .slice q S.length cc:=by
   obtain⟨pO,cO,jO⟩:=O
   cases pO with
   |none=>
    have e:S.length=0:=hO.nil rfl
    exact⟨none,0,by rw[e];rfl⟩
   |some g=>exact⟨some ⟨g,0,none⟩,cO,rfl⟩
  refine zN (zE (zA (zA (zB (wB 4 I I I ?_)))))
  refine AH I I I I ?_
  refine wP I (wB 3 I I I (wP I ?_))
  refine Aj 105 (.bool false) I I ?_
  refine wP I (wB 7 I I I ?_)
  refine Aj 107 (.slice q S.length cc) I hval ?_
  refine wP I (wP I ?_)
  by_cases h2:S.length<2
  ·have eV:Tu S= .tuple #[.agg #[str [],str []], .agg #[str [],str []], .bool false, .int .i64 0]:=by
    match S,h2 with
    |[],_=>rfl
    |[_],_=>rfl
    |_::_::_,h2=>simp at h2;omega
   refine wU 109 true I (dT (by omega)) (wP I (Aa (zE (zR I (Ao ?_)))))
   refine AL (X:=Unit) [true,true,true,true,true,true,false,false,false,false] (fun _=>[(8,Ah b8),(9,Ah b9),(10, .bool false),(11, .int .i64 0)]) (fun _=>[ptB b8 [] [],ptB b9 [] [],B6 d])
    4 [lsB b4 (slv p l.length cap),⟨b8,35,[str [],str []],false,none⟩,⟨b9,35,[str [],str []],false,none⟩,caB bC,ckB b13 bC] Tryz.mixed (by kernel_rfl) ?_ ?_
   ·refine DE Tryz.hZ tH I I I I I I I I ?_
    refine DE Tryz.hZ tH I I I I I I I I ?_
    refine qB 4 I I I ?_
    refine Gs I I I I ?_
    refine qP I (qB 3 I I I (Bu (wX (wZ (wS 1 I I I (Aa (Ac (wX (wZ (wS 2 I I I (Aa (Ac (wX ?_)))))))))))))
    refine wZ (wP I (Aa (Ac (wX (wZ (wP I (Aa (Ac ?_))))))))
    refine A5 I (by((repeat (first|refine A9.same ?_|refine A9.off I ?_));exact tO)) ?_
    exact Al () ⟨I,I,I,I,tO⟩ [1,2,10] (by decide) I
   intro _
   refine zE (zO (zP ?_))
   refine Cl 2 I ?_
   exact LG tH I (.cell 0 I I I I I) (.cell 1 I I I I I) (.tmp I) (.tmp I) () eV.symm tO fun W _=>Ar.nil _ _
  ·obtain⟨x,y,rfl⟩: ∃x y,S=[x,y]:=by
    match S,h2,hn2 with
    |[x,y],_,_=>exact⟨x,y,rfl⟩
    |[],h2,_=>exact absurd Nat.zero_lt_two h2
    |[_],h2,_=>exact absurd (Nat.lt_succ_self 1) h2
    |_::_::_::_,_,hn2=>simp at hn2
   obtain⟨a,b,eab,eV⟩: ∃a b,EH x y=[a,b]∧Tu [x,y]= .tuple #[ptV a,ptV b, .bool true, .int .i64 0]:=by
    show∃a b,(if Bc y x=true then[y,x] else[x,y])=[a,b]∧Value.tuple #[ptV (if Bc y x=true then y else x),ptV (if Bc y x=true then x else y), .bool true, .int .i64 0]=Value.tuple #[ptV a,ptV b, .bool true, .int .i64 0]
    cases Bc y x with
    |true=>exact⟨y,x,rfl,rfl⟩
    |false=>exact⟨x,y,rfl,rfl⟩
   obtain⟨hs1,hs2⟩:=hs x y rfl
   obtain⟨pO,cO,jO⟩:=O
   obtain⟨gO,rfl⟩: ∃g,pO=some g:=Option.ne_none_iff_exists'.1 (fun e=>absurd (hO.nil e) (by show¬2=0;decide))
   refine Aj 109 (.bool false) I I ?_
   refine wP I (Aa (zE (zS I (zI (zE (zA (zB (wB 7 I I I (wB 4 I I I (wP I ?_))))))))))
   refine DV (X:=Unit) (val:=fun _=> .tuple #[]) (Φ:=fun _=>True) (capt:=[]) 9 (B:=Br gO [x,y] jO) (L1:=[]) (L2:=[]) (b:=gO) (ob:= .cells (ptC [x,y]++jO).toArray 35 (0,0)) (fun _=>Br gO (EH x y) jO) (g':=fun _=>gO) (o':=fun _=> .cells (ptC (EH x y)++jO).toArray 35 (0,0))
    rfl rfl rfl rfl rfl rfl (by kernel_rfl) rfl rfl (fun _ _=>rfl) (fun W1 hp=> ?_) (fun _ _=> ?_)
   ·have hc:=hp.own.cell 9 _ rfl (gO, .cells (ptC [x,y]++jO).toArray 35 (0,0)) (List.mem_cons_self ..)
    have hne:bC≠gO:=hp.own.apart 3 9 _ _ rfl rfl (by decide) (bC,_) (List.mem_cons_self ..) (gO,_) (List.mem_cons_self ..)
    exact Qo bC W1 gO cO x y jO hc.1 ⟨fun W2 hk=>⟨(BQ hp 3 I).keep hk hne,h.v.below (hk.below hp.below hc.2),h.t.below (hk.below hp.below hc.2)⟩,hs1,hs2⟩
   rw[eab]
   refine Aa (zE (zA (zA (zB (wB 4 I I I ?_)))))
   refine AH I I I I ?_
   refine wP I (wB 3 I I I (wP I (Aa (zE (zS I (zI (zE (Ao ?_))))))))
   refine AL (X:=Unit) [true,true,true,true,true,true,false,false,false,false] (fun _=>[(8,Ah b8),(9,Ah b9),(10, .bool true),(11, .int .i64 0)]) (fun _=>[ptB b8 (Ad a.1) (Ad a.2),ptB b9 (Ad b.1) (Ad b.2),B6 d])
    4 [lsB b4 (slv p l.length cap),⟨b8,35,[str [],str []],false,none⟩,⟨b9,35,[str [],str []],false,none⟩,caB bC,ckB b13 bC,nmB b14 (.slice (some ⟨gV,0,none⟩) l.length cV),⟨gV,23,vsC (l.map f.at)++jV,true,none⟩,lsB b15 (.slice (some ⟨gO,0,none⟩) 2 cO),lsB bp (slv p l.length cap),Br gO [a,b] jO] Tryz.mixed (by kernel_rfl) ?_ ?_
   ·refine qB 7 I I I (qI I I (by decide) (by decide) (qL 0 I I (fun W1 hp=>WO hp 9 I) I (qB 7 I I I (qI I I (by decide) (by decide) (qL 0 I I (fun W1 hp=>Vo hp 9 I) I (Bu (wX (wZ (wS 1 I I I (Aa (Ac (wX (wZ ?_)))))))))))))
    refine wS 2 I I I (Aa (Ac (wX (wZ (wP I (Aa (Ac (wX (wZ (wP I (Aa (Ac ?_))))))))))))
    refine A5 I (by((repeat (first|refine A9.same ?_|refine A9.off I ?_));exact tO)) ?_
    exact Al () ⟨I,I,I,I,tO⟩ [1,2,10] (by decide) I
   intro _
   refine zE (zO ?_)
   refine Cl 2 I ?_
   exact LG tH I (.cell 0 I I I I I) (.cell 1 I I I I I) (.tmp I) (.tmp I) () eV.symm tO fun W _=>Ar.nil _ _
end
section
open Go Go.RowKit Go.Am Go.Lib
def sq4:List Ag:=[(0,0),(2,0),(2,2),(0,2)]
def tr3:List Ag:=[(0,0),(1,0),(0,1)]
def SD:Bg:=⟨1,1,1⟩
def Pn:Bg:=⟨1, -1,0⟩
theorem V9:Bm sq4:=by
 refine⟨by decide,by decide+kernel,fun i j k h1 h2 h3=> ?_⟩
 have h3:k<4:=h3
 have:(i=0∧j=1∧k=2)∨(i=0∧j=1∧k=3)∨(i=0∧j=2∧k=3)∨(i=1∧j=2∧k=3):=by omega
 rcases this with⟨rfl,rfl,rfl⟩|⟨rfl,rfl,rfl⟩|⟨rfl,rfl,rfl⟩|⟨rfl,rfl,rfl⟩<;>decide+kernel
theorem WP:Bm tr3:=by
 refine⟨by decide,by decide+kernel,fun i j k h1 h2 h3=> ?_⟩
 have h3:k<3:=h3
 obtain⟨rfl,rfl,rfl⟩:i=0∧j=1∧k=2:=by omega
 decide+kernel
theorem Xn:DN SD sq4=tr3:=by decide+kernel
theorem P6:FA Pn sq4=[(0,0),(2,2)]:=by decide+kernel
theorem XO:Bc ((2,2):Ag) (0,0)=false:=by decide+kernel
theorem X7:AY tr3/2=1/2:=by decide+kernel
theorem XV:Fx tr3/(3*AY tr3)=1/3:=by decide+kernel
theorem X4:Fo tr3/(3*AY tr3)=1/3:=by decide+kernel
theorem L6:Ad (0:Rat)=[48]:=CW
theorem YT:Ad (1:Rat)=[49]:=by decide+kernel
theorem D8:Ad (2:Rat)=[50]:=by decide+kernel
theorem Zs:Ad (-1:Rat)=[45,49]:=by decide+kernel
theorem Z0:Ad (1/2:Rat)=[49,47,50]:=by decide+kernel
theorem Z4:Ad (1/3:Rat)=[49,47,51]:=by decide+kernel
theorem Ji {x y:Int} (hx:x.natAbs<10^8) (hy:y.natAbs<10^8):Hm 8 ((x:Rat),(y:Rat)):=⟨x,y,1,by decide,hx,hy,by decide,Rat.mul_one _,Rat.mul_one _⟩
theorem Tb: ∀p∈sq4,Hm 8 p:=fun p hp=>by
 rcases List.mem_cons.1 hp with rfl|hp
 ·exact Ji (x:=0) (y:=0) (by decide) (by decide)
 rcases List.mem_cons.1 hp with rfl|hp
 ·exact Ji (x:=2) (y:=0) (by decide) (by decide)
 rcases List.mem_cons.1 hp with rfl|hp
 ·exact Ji (x:=2) (y:=2) (by decide) (by decide)
 rw[List.mem_singleton.1 hp]
 exact Ji (x:=0) (y:=2) (by decide) (by decide)
theorem To: ∀p∈tr3,Hm 8 p:=fun p hp=>by
 rcases List.mem_cons.1 hp with rfl|hp
 ·exact Ji (x:=0) (y:=0) (by decide) (by decide)
 rcases List.mem_cons.1 hp with rfl|hp
 ·exact Ji (x:=1) (y:=0) (by decide) (by decide)
 rw[List.mem_singleton.1 hp]
 exact Ji (x:=0) (y:=1) (by decide) (by decide)
theorem VN:LnH SD:=⟨1,1,1,1,by decide,by decide,by decide,by decide,by decide,Rat.mul_one _,Rat.mul_one _,Rat.mul_one _⟩
theorem VK:LnH Pn:=⟨1, -1,0,1,by decide,by decide,by decide,by decide,by decide,Rat.mul_one _,Rat.mul_one _,Rat.mul_one _⟩
theorem WK {f:Bg} (hf:LnH f) (n:f.a≠0∨f.b≠0):VX f:=⟨hf.sz.1.ok (by decide),hf.sz.2.1.ok (by decide),hf.sz.2.2.ok (by decide),n⟩
theorem YP:VX SD:=WK VN (.inl (by decide+kernel))
theorem YK:VX Pn:=WK VK (.inl (by decide+kernel))
theorem K3.of_hm {e k:Nat} {l:List Ag} (hl: ∀p∈l,Hm e p) (h:e≤k):K3 k l:=fun p hp=>⟨(hl p hp).sz.1.mono h,(hl p hp).sz.2.mono h⟩
theorem s2 {q:Rat} (h:q.num.natAbs<10^2∧q.den<10^2):szQ q 2:=h
theorem ez2 {p q:Rat} (h:p.num.natAbs<10^2∧p.den<10^2) (h':q.num.natAbs<10^2∧q.den<10^2):Sz2 p q:=sz2 (s2 h) (s2 h') (by decide)
theorem Ti.of {p q:Ag} (hp:szQ p.1 8∧szQ p.2 8) (hq:szQ q.1 8∧szQ q.2 8):Ti p q:=⟨sz2 hp.1 hq.2 (by decide),sz2 hq.1 hp.2 (by decide),sz2 (hp.1.mul hq.2) (hq.1.mul hp.2) (by decide)⟩
theorem Yr (i:Nat):Ti (Ab tr3 i) (Ab tr3 (i+1)):=Ti.of ((K3.of_hm To (Nat.le_refl 8)).at_ (by decide) i) ((K3.of_hm To (Nat.le_refl 8)).at_ (by decide) (i+1))
theorem lt3 {i:Nat} (h:i<tr3.length):i=0∨i=1∨i=2:=by have h:i<3:=h;omega
theorem Yp: ∀i,i<tr3.length→Sz2 (crK tr3 i) (Cx (Ab tr3 i) (Ab tr3 (i+1))):=fun i hi=>by
 rcases lt3 hi with rfl|rfl|rfl<;>exact ez2 (by decide+kernel) (by decide+kernel)
theorem Y8:ArZ tr3:=⟨fun i _=>Yr i,Yp,ez2 (by decide+kernel) (by decide+kernel)⟩
theorem Zf:CeZ tr3:=by
 refine⟨fun i _=>Yr i,Yp,fun i hi=> ?_,fun i hi=> ?_,fun i hi=> ?_,fun i hi=> ?_,fun i hi=> ?_,fun i hi=> ?_,ez2 (by decide+kernel) (by decide+kernel),by decide+kernel,ez2 (by decide+kernel) (by decide+kernel),ez2 (by decide+kernel) (by decide+kernel)⟩<;>
  rcases lt3 hi with rfl|rfl|rfl<;>exact ez2 (by decide+kernel) (by decide+kernel)
theorem YW:SeZ Pn sq4:=by
 have h:=ClZ.of VK (by decide) Tb
 refine⟨h.v,h.c,by rw[P6];decide,fun x y e=> ?_⟩
 rw[P6] at e
 cases e
 exact⟨ez2 (by decide+kernel) (by decide+kernel),ez2 (by decide+kernel) (by decide+kernel)⟩
theorem Vq:Tu (FA Pn sq4)= .tuple #[.agg #[str [48],str [48]], .agg #[str [50],str [50]], .bool true, .int .i64 0]:=by
 rw[P6]
 show Value.tuple #[ptV (if Bc ((2,2):Ag) (0,0)=true then _ else _),ptV (if Bc ((2,2):Ag) (0,0)=true then _ else _), .bool true, .int .i64 0]=_
 rw[XO]
 show Value.tuple #[.agg #[str (Ad 0),str (Ad 0)], .agg #[str (Ad 2),str (Ad 2)], .bool true, .int .i64 0]=_
 rw[L6,D8]
theorem YE:ptC sq4=[str [48],str [48],str [50],str [48],str [50],str [50],str [48],str [50]]:=by
 show[str (Ad 0),str (Ad 0),str (Ad 2),str (Ad 0),str (Ad 2),str (Ad 2),str (Ad 0),str (Ad 2)]=_
 rw[L6,D8]
theorem Y2:ptC tr3=[str [48],str [48],str [49],str [48],str [48],str [49]]:=by
 show[str (Ad 0),str (Ad 0),str (Ad 1),str (Ad 0),str (Ad 0),str (Ad 1)]=_
 rw[L6,YT]
theorem GQ {W:World} {b off:Nat} {l:List Ag} (h:Ak W b off (ptC l)):Cs W (some ⟨b,off,none⟩) l:= .inr ⟨b,off,rfl,fun i hi=>by
 have e:ptC l=ptC (l.take i)++([str (Ad l[i].1),str (Ad l[i].2)]++ptC (l.drop (i+1))):=by
  have e0:l=l.take i++l[i]::l.drop (i+1):=by rw[←List.drop_eq_getElem_cons hi,List.take_append_drop]
  conv=>lhs;rw[e0]
  unfold ptC
  rw[List.flatMap_append,List.flatMap_cons]
 rw[e] at h
 have h1:=GG h
 rw[AI,List.length_take,Nat.min_eq_left (by omega)] at h1
 have h2:=CD h1
 exact h2⟩
end
section
open Go Go.RowKit Go.Am Go.Lib
set_option maxRecDepth 10000
-- BOXES 6
-- CODE2
theorem QG {W:World} {p:Option Addr} (h:Cs W p sq4) (hv:BT W) (ht:AM W):Ih W p sq4:=⟨V9,by decide,by decide,K3.of_hm Tb (by decide),h,hv,ht⟩
theorem QF {W:World} {p:Option Addr} (h:Cs W p tr3) (hv:BT W) (ht:AM W):Ih W p tr3:=⟨WP,by decide,by decide,K3.of_hm To (by decide),h,hv,ht⟩
abbrev Z9 (b:Nat):Bx:=⟨b,35,ptC sq4,true,none⟩
theorem Wa (p:Option Addr) (cap:Nat) (W:World) (h:Ih W p sq4):
  Ai Tryz.prog 12 #[slv p 4 cap,str [49],str [49],str [49]] W (fun V:Vec=> .tuple #[V.val 3, .int .i64 0]) (fun V=>V.OK 2 3 (ptC tr3)) (fun V=>[V.bx 35 (ptC tr3)]):=by
 have h1:=Rr SD YP sq4 (ClZ.of VN (by decide) Tb) p cap W h
 rw[Xn] at h1
 have e:[Ad SD.a,Ad SD.b,Ad SD.c]=[[49],[49],[49]]:=by show[Ad 1,Ad 1,Ad 1]=_;rw[YT]
 simp only[List.cons.injEq,and_true] at e
 obtain⟨e1,e2,e3⟩:=e
 rw[e1,e2,e3] at h1
 exact h1
theorem V5 (p:Option Addr) (cap:Nat) (W:World) (h:Ih W p tr3):
  Ai Tryz.prog 15 #[slv p 3 cap] W (fun _:Unit=> .tuple #[str [49,47,50], .int .i64 0]) (fun _=>True) (fun _=>[]):=by
 have h1:=Qs tr3 Y8 p cap W h
 rw[X7,Z0] at h1
 exact h1
theorem Sx (p:Option Addr) (cap:Nat) (W:World) (h:Ih W p tr3):
  Ai Tryz.prog 35 #[slv p 3 cap] W (fun _:Unit=> .tuple #[.agg #[str [49,47,51],str [49,47,51]], .int .i64 0]) (fun _=>True) (fun _=>[]):=by
 have h1:=NL tr3 Zf p cap W h
 rw[XV,X4,Z4] at h1
 exact h1
theorem R7 (p:Option Addr) (cap:Nat) (W:World) (h:Ih W p sq4):
  Ai Tryz.prog 24 #[slv p 4 cap,str [49],str [45,49],str [48]] W (fun _:Unit=> .tuple #[.agg #[str [48],str [48]], .agg #[str [50],str [50]], .bool true, .int .i64 0]) (fun _=>True) (fun _=>[]):=by
 have h1:=MR Pn YK sq4 YW p cap W h
 rw[Vq] at h1
 have e:[Ad Pn.a,Ad Pn.b,Ad Pn.c]=[[49],[45,49],[48]]:=by show[Ad 1,Ad (-1),Ad 0]=_;rw[YT,Zs,L6]
 simp only[List.cons.injEq,and_true] at e
 obtain⟨e1,e2,e3⟩:=e
 rw[e1,e2,e3] at h1
 exact h1
theorem Ja (W:World) (hv:BT W) (ht:AM W):
  Ai Tryz.prog 11 #[] W (fun _:Unit=> .bool true) (fun _=>True) (fun _=>[]):=by
 refine Ae (args:=[]) Tryz.func11 I I I ?_
 refine zA (zB (wP I (Aa (zE (zA (zB ?_))))))
 iterate 4 refine Av Tryz.hZ tH I I I I I I I I ?_
 refine AN Tryz.hZ tH I I I I I I I I I I I fun bS=> ?_
 refine wP I (Aa ?_)
 refine Iu (bxs':=[Z9 bS]) (by show _=[(⟨bS,35,ptC sq4,true,none⟩:Bx)];rw[YE];rfl) ?_
 refine zE (zA (zB (wP I ?_)))
 refine wD (X:=Vec) I I (fun W1 hp=>Wa (some ⟨bS,0,none⟩) 4 W1 (QG (GQ (Ak.of_bx hp 0 I I)) (hv.hp hp) (ht.hp hp))) ?_
 rintro⟨pV,cV,jV⟩ hV
 obtain⟨gV,rfl⟩: ∃g,pV=some g:=Option.ne_none_iff_exists'.1 (fun e=>absurd (hV.nil e) (by decide))
 iterate 5 refine wP I ?_
 refine Aa (zE (zA (zB (wP I (wC I I (fun W1 hp=>V5 (some ⟨gV,0,none⟩) cV W1 (QF (GQ (CD (Ak.of_bx hp 1 I I:Ak W1 gV 0 (ptC tr3++jV)))) (hv.hp hp) (ht.hp hp))) ?_)))))
 iterate 5 refine wP I ?_
 refine Aa (zE (zA (zB (wP I (wC I I (fun W1 hp=>Sx (some ⟨gV,0,none⟩) cV W1 (QF (GQ (CD (Ak.of_bx hp 1 I I:Ak W1 gV 0 (ptC tr3++jV)))) (hv.hp hp) (ht.hp hp))) (wP I (wP I (wP I ?_))))))))
 (refine Af Tryz.hZ rfl rfl rfl rfl ?_;intro)
 refine wS 2 I I I (wP I (Aa ?_))
 rename_i b6
 refine zE (zA (zB (wP I (wC I I (fun W1 hp=>R7 (some ⟨bS,0,none⟩) 4 W1 (QG (GQ (Ak.of_bx hp 0 I I)) (hv.hp hp) (ht.hp hp))) ?_))))
 iterate 5 refine wP I ?_
 (refine Af Tryz.hZ rfl rfl rfl rfl ?_;intro)
 (refine Af Tryz.hZ rfl rfl rfl rfl ?_;intro)
 refine wS 3 I I I (wS 4 I I I (wP I (wP I (Aa ?_))))
 rename_i b8 b9
 refine zE (Ao ?_)
 refine AL (X:=Unit) [true,true,true,true,true,true,true,true,true,true,true,false,false,false,false,false,false,false,false,false,false,false,false,false,false,false,false,false,false,false,false,false,false,false,false,false,false,false,false,false,false] (fun _=>[(0, .bool true)]) (fun _=>[])
  30 [Z9 bS,⟨gV,35,ptC tr3++jV,true,none⟩,ptB b6 [49,47,51] [49,47,51],ptB b8 [48] [48],ptB b9 [50] [50]] Tryz.mixed (by kernel_rfl) ?_ ?_
 ·refine qP I (qP I (qP I (qP I (qP I ?_))))
  refine CU 43 (.int .i64 0) I I ?_
  refine qP I ?_
  refine CU 44 (.bool true) I I ?_
  refine qP I (qP I ?_)
  iterate 3 refine DE Tryz.hZ tH I I I I I I I I ?_
  refine Bu (wX (wZ ?_))
  refine AN Tryz.hZ tH I I I I I I I I I I I fun bT=> ?_
  refine Aa (Ac (wX (wZ (wC I I (fun W1 hp=>JJ tr3 (by decide) (some ⟨gV,0,none⟩) (some ⟨bT,0,none⟩) cV 3 W1 (GQ (CD (Ak.of_bx hp 1 I I:Ak W1 gV 0 (ptC tr3++jV)))) (GQ (by have h:=Ak.of_bx hp 5 I I;rw[Y2];exact h))) (Aa (Ac (wX (wZ (wP I (Aa (Ac (wX (wZ ?_)))))))))))))
  refine wP I (Aa (Ac (wX (wZ (wP I (Aa (Ac (wX (wZ ?_)))))))))
  refine wP I ?_;refine wU 55 true I ((Bj [49,47,50] [49,47,50]).trans (dT I)) ?_
  refine Aa (Ac (wX (wZ (wP I (Aa (Ac (wX (wZ (wP I (Aa (Ac (wX ?_))))))))))))
  refine RS.cons ?_ (RS.cons ?_ (RS.nil))
  ·refine wB 2 I I I (Aa (Ac (wX (wZ ?_))))
   refine Av Tryz.hZ tH I I I I I I I I ?_
   refine Aa (Ac (wX (wZ ?_)))
   refine AU [49,47,51] [49,47,51] [49,47,51] [49,47,51] I I I I I ?_;refine Aj 60 (.bool true) I I ?_
   refine Aa (Ac (wX (wZ (wP I (Aa (Ac (wX (wZ (wP I (Aa (Ac (wX (wZ ?_)))))))))))))
   refine wP I (Aa (Ac (wX (wZ (wP I (Aa (Ac (wX (wZ (wP I (Aa (Ac (wX ?_)))))))))))))
   refine RS.cons ?_ (RS.cons ?_ (RS.nil))
   ·refine wB 3 I I I (Aa (Ac (wX (wZ (wP I (Aa (Ac (wX (wZ (wI I I (by decide) (by decide) (Aa (Ac (wX ?_)))))))))))))
    refine wZ ?_
    refine wB 0 I I I ?_;refine Aj 69 (.agg #[str [48],str [48]]) I (by rw[←L6];rfl) ?_
    refine Aa (Ac (wX (wZ ?_)))
    refine AU [48] [48] [48] [48] I I I I I ?_;refine Aj 70 (.bool true) I I ?_
    refine Aa (Ac (wX (wZ (wP I (Aa (Ac (wX (wZ (wP I (Aa (Ac (wX ?_))))))))))))
    refine RS.cons ?_ (RS.cons ?_ (RS.nil))
    ·refine wB 4 I I I (Aa (Ac (wX (wZ (wP I (Aa (Ac (wX (wZ (wI I I (by decide) (by decide) (Aa (Ac (wX ?_)))))))))))))
     refine wZ ?_
     refine wB 0 I I I ?_;refine Aj 76 (.agg #[str [50],str [50]]) I (by rw[←D8];rfl) ?_
     refine Aa (Ac (wX (wZ ?_)))
     refine AU [50] [50] [50] [50] I I I I I ?_;refine Aj 77 (.bool true) I I ?_
     refine Aa (Ac (wX (wZ (wP I (Aa (Ac (wX (wZ (wP I (Aa (Ac ?_)))))))))))
     refine A5 I (by((repeat (first|refine A9.same ?_|refine A9.off I ?_));exact tO)) ?_
     exact Al () ⟨I,tO⟩ [] (by decide) I
    ·refine wP I (Aa (Ac (wX ?_)))
     refine RS.cons ?_ (RS.cons ?_ (RS.nil))
     ·refine wB 4 I I I (Aa (Ac (wX (wZ (wI I I (by decide) (by decide) (Aa (Ac (wX (wZ ?_)))))))))
      refine wB 0 I I I ?_;refine Aj 76 (.agg #[str [50],str [50]]) I (by rw[←D8];rfl) ?_
      refine Aa (Ac (wX (wZ ?_)))
      refine AU [50] [50] [50] [50] I I I I I ?_;refine Aj 77 (.bool true) I I ?_
      refine Aa (Ac (wX (wZ (wP I (Aa (Ac (wX (wZ (wP I (Aa (Ac ?_)))))))))))
      refine A5 I (by((repeat (first|refine A9.same ?_|refine A9.off I ?_));exact tO)) ?_
      exact Al () ⟨I,tO⟩ [] (by decide) I
     ·refine wI I I (by decide) (by decide) (Aa (Ac (wX ?_)))
      refine RS.cons ?_ (RS.cons ?_ (RS.nil))
      ·refine wB 4 I I I (Aa (Ac (wX (wZ ?_))))
       refine wB 0 I I I ?_;refine Aj 76 (.agg #[str [50],str [50]]) I (by rw[←D8];rfl) ?_
       refine Aa (Ac (wX (wZ ?_)))
       refine AU [50] [50] [50] [50] I I I I I ?_;refine Aj 77 (.bool true) I I ?_
       refine Aa (Ac (wX (wZ (wP I (Aa (Ac (wX (wZ (wP I (Aa (Ac ?_)))))))))))
       refine A5 I (by((repeat (first|refine A9.same ?_|refine A9.off I ?_));exact tO)) ?_
       exact Al () ⟨I,tO⟩ [] (by decide) I
      ·refine wB 0 I I I ?_;refine Aj 76 (.agg #[str [50],str [50]]) I (by rw[←D8];rfl) ?_
       refine Aa (Ac (wX (wZ (wB 4 I I I (Aa (Ac (wX (wZ ?_))))))))
       refine AU [50] [50] [50] [50] I I I I I ?_;refine Aj 77 (.bool true) I I ?_
       refine Aa (Ac (wX (wZ (wP I (Aa (Ac (wX (wZ (wP I (Aa (Ac ?_)))))))))))
       refine A5 I (by((repeat (first|refine A9.same ?_|refine A9.off I ?_));exact tO)) ?_
       exact Al () ⟨I,tO⟩ [] (by decide) I
   ·refine wP I (Aa (Ac (wX ?_)))
    refine RS.cons ?_ (RS.cons ?_ (RS.nil))
    ·refine wB 3 I I I (Aa (Ac (wX (wZ (wI I I (by decide) (by decide) (Aa (Ac (wX (wZ ?_)))))))))
     refine wB 0 I I I ?_;refine Aj 69 (.agg #[str [48],str [48]]) I (by rw[←L6];rfl) ?_
     refine Aa (Ac (wX (wZ ?_)))
     refine AU [48] [48] [48] [48] I I I I I ?_;refine Aj 70 (.bool true) I I ?_
     refine Aa (Ac (wX (wZ (wP I (Aa (Ac (wX (wZ (wP I (Aa (Ac (wX ?_))))))))))))
     refine RS.cons ?_ (RS.cons ?_ (RS.nil))
     ·refine wB 4 I I I (Aa (Ac (wX (wZ (wP I (Aa (Ac (wX (wZ (wI I I (by decide) (by decide) (Aa (Ac (wX ?_)))))))))))))
      refine wZ ?_
      refine wB 0 I I I ?_;refine Aj 76 (.agg #[str [50],str [50]]) I (by rw[←D8];rfl) ?_
      refine Aa (Ac (wX (wZ ?_)))
      refine AU [50] [50] [50] [50] I I I I I ?_;refine Aj 77 (.bool true) I I ?_
      refine Aa (Ac (wX (wZ (wP I (Aa (Ac (wX (wZ (wP I (Aa (Ac ?_)))))))))))
      refine A5 I (by((repeat (first|refine A9.same ?_|refine A9.off I ?_));exact tO)) ?_
      exact Al () ⟨I,tO⟩ [] (by decide) I
     ·refine wP I (Aa (Ac (wX ?_)))
      refine RS.cons ?_ (RS.cons ?_ (RS.nil))
      ·refine wB 4 I I I (Aa (Ac (wX (wZ (wI I I (by decide) (by decide) (Aa (Ac (wX (wZ ?_)))))))))
       refine wB 0 I I I ?_;refine Aj 76 (.agg #[str [50],str [50]]) I (by rw[←D8];rfl) ?_
       refine Aa (Ac (wX (wZ ?_)))
       refine AU [50] [50] [50] [50] I I I I I ?_;refine Aj 77 (.bool true) I I ?_
       refine Aa (Ac (wX (wZ (wP I (Aa (Ac (wX (wZ (wP I (Aa (Ac ?_)))))))))))
       refine A5 I (by((repeat (first|refine A9.same ?_|refine A9.off I ?_));exact tO)) ?_
       exact Al () ⟨I,tO⟩ [] (by decide) I
      ·refine wI I I (by decide) (by decide) (Aa (Ac (wX ?_)))
       refine RS.cons ?_ (RS.cons ?_ (RS.nil))
       ·refine wB 4 I I I (Aa (Ac (wX (wZ ?_))))
        refine wB 0 I I I ?_;refine Aj 76 (.agg #[str [50],str [50]]) I (by rw[←D8];rfl) ?_
        refine Aa (Ac (wX (wZ ?_)))
        refine AU [50] [50] [50] [50] I I I I I ?_;refine Aj 77 (.bool true) I I ?_
        refine Aa (Ac (wX (wZ (wP I (Aa (Ac (wX (wZ (wP I (Aa (Ac ?_)))))))))))
        refine A5 I (by((repeat (first|refine A9.same ?_|refine A9.off I ?_));exact tO)) ?_
        exact Al () ⟨I,tO⟩ [] (by decide) I
       ·refine wB 0 I I I ?_;refine Aj 76 (.agg #[str [50],str [50]]) I (by rw[←D8];rfl) ?_
        refine Aa (Ac (wX (wZ (wB 4 I I I (Aa (Ac (wX (wZ ?_))))))))
        refine AU [50] [50] [50] [50] I I I I I ?_;refine Aj 77 (.bool true) I I ?_
        refine Aa (Ac (wX (wZ (wP I (Aa (Ac (wX (wZ (wP I (Aa (Ac ?_)))))))))))
        refine A5 I (by((repeat (first|refine A9.same ?_|refine A9.off I ?_));exact tO)) ?_
        exact Al () ⟨I,tO⟩ [] (by decide) I
    ·refine wI I I (by decide) (by decide) (Aa (Ac (wX ?_)))
     refine RS.cons ?_ (RS.cons ?_ (RS.nil))
     ·refine wB 3 I I I (Aa (Ac (wX (wZ ?_))))
      refine wB 0 I I I ?_;refine Aj 69 (.agg #[str [48],str [48]]) I (by rw[←L6];rfl) ?_
      refine Aa (Ac (wX (wZ ?_)))
      refine AU [48] [48] [48] [48] I I I I I ?_;refine Aj 70 (.bool true) I I ?_
      refine Aa (Ac (wX (wZ (wP I (Aa (Ac (wX (wZ (wP I (Aa (Ac (wX ?_))))))))))))
      refine RS.cons ?_ (RS.cons ?_ (RS.nil))
      ·refine wB 4 I I I (Aa (Ac (wX (wZ (wP I (Aa (Ac (wX (wZ (wI I I (by decide) (by decide) (Aa (Ac (wX ?_)))))))))))))
       refine wZ ?_
       refine wB 0 I I I ?_;refine Aj 76 (.agg #[str [50],str [50]]) I (by rw[←D8];rfl) ?_
       refine Aa (Ac (wX (wZ ?_)))
       refine AU [50] [50] [50] [50] I I I I I ?_;refine Aj 77 (.bool true) I I ?_
       refine Aa (Ac (wX (wZ (wP I (Aa (Ac (wX (wZ (wP I (Aa (Ac ?_)))))))))))
       refine A5 I (by((repeat (first|refine A9.same ?_|refine A9.off I ?_));exact tO)) ?_
       exact Al () ⟨I,tO⟩ [] (by decide) I
      ·refine wP I (Aa (Ac (wX ?_)))
       refine RS.cons ?_ (RS.cons ?_ (RS.nil))
       ·refine wB 4 I I I (Aa (Ac (wX (wZ (wI I I (by decide) (by decide) (Aa (Ac (wX (wZ ?_)))))))))
        refine wB 0 I I I ?_;refine Aj 76 (.agg #[str [50],str [50]]) I (by rw[←D8];rfl) ?_
        refine Aa (Ac (wX (wZ ?_)))
        refine AU [50] [50] [50] [50] I I I I I ?_;refine Aj 77 (.bool true) I I ?_
        refine Aa (Ac (wX (wZ (wP I (Aa (Ac (wX (wZ (wP I (Aa (Ac ?_)))))))))))
        refine A5 I (by((repeat (first|refine A9.same ?_|refine A9.off I ?_));exact tO)) ?_
        exact Al () ⟨I,tO⟩ [] (by decide) I
       ·refine wI I I (by decide) (by decide) (Aa (Ac (wX ?_)))
        refine RS.cons ?_ (RS.cons ?_ (RS.nil))
        ·refine wB 4 I I I (Aa (Ac (wX (wZ ?_))))
         refine wB 0 I I I ?_;refine Aj 76 (.agg #[str [50],str [50]]) I (by rw[←D8];rfl) ?_
         refine Aa (Ac (wX (wZ ?_)))
         refine AU [50] [50] [50] [50] I I I I I ?_;refine Aj 77 (.bool true) I I ?_
         refine Aa (Ac (wX (wZ (wP I (Aa (Ac (wX (wZ (wP I (Aa (Ac ?_)))))))))))
         refine A5 I (by((repeat (first|refine A9.same ?_|refine A9.off I ?_));exact tO)) ?_
         exact Al () ⟨I,tO⟩ [] (by decide) I
        ·refine wB 0 I I I ?_;refine Aj 76 (.agg #[str [50],str [50]]) I (by rw[←D8];rfl) ?_
         refine Aa (Ac (wX (wZ (wB 4 I I I (Aa (Ac (wX (wZ ?_))))))))
         refine AU [50] [50] [50] [50] I I I I I ?_;refine Aj 77 (.bool true) I I ?_
         refine Aa (Ac (wX (wZ (wP I (Aa (Ac (wX (wZ (wP I (Aa (Ac ?_)))))))))))
         refine A5 I (by((repeat (first|refine A9.same ?_|refine A9.off I ?_));exact tO)) ?_
         exact Al () ⟨I,tO⟩ [] (by decide) I
     ·refine wB 0 I I I ?_;refine Aj 69 (.agg #[str [48],str [48]]) I (by rw[←L6];rfl) ?_
      refine Aa (Ac (wX (wZ (wB 3 I I I (Aa (Ac (wX (wZ ?_))))))))
      refine AU [48] [48] [48] [48] I I I I I ?_;refine Aj 70 (.bool true) I I ?_
      refine Aa (Ac (wX (wZ (wP I (Aa (Ac (wX (wZ (wP I (Aa (Ac (wX ?_))))))))))))
      refine RS.cons ?_ (RS.cons ?_ (RS.nil))
      ·refine wB 4 I I I (Aa (Ac (wX (wZ (wP I (Aa (Ac (wX (wZ (wI I I (by decide) (by decide) (Aa (Ac (wX ?_)))))))))))))
       refine wZ ?_
       refine wB 0 I I I ?_;refine Aj 76 (.agg #[str [50],str [50]]) I (by rw[←D8];rfl) ?_
       refine Aa (Ac (wX (wZ ?_)))
       refine AU [50] [50] [50] [50] I I I I I ?_;refine Aj 77 (.bool true) I I ?_
       refine Aa (Ac (wX (wZ (wP I (Aa (Ac (wX (wZ (wP I (Aa (Ac ?_)))))))))))
       refine A5 I (by((repeat (first|refine A9.same ?_|refine A9.off I ?_));exact tO)) ?_
       exact Al () ⟨I,tO⟩ [] (by decide) I
      ·refine wP I (Aa (Ac (wX ?_)))
       refine RS.cons ?_ (RS.cons ?_ (RS.nil))
       ·refine wB 4 I I I (Aa (Ac (wX (wZ (wI I I (by decide) (by decide) (Aa (Ac (wX (wZ ?_)))))))))
        refine wB 0 I I I ?_;refine Aj 76 (.agg #[str [50],str [50]]) I (by rw[←D8];rfl) ?_
        refine Aa (Ac (wX (wZ ?_)))
        refine AU [50] [50] [50] [50] I I I I I ?_;refine Aj 77 (.bool true) I I ?_
        refine Aa (Ac (wX (wZ (wP I (Aa (Ac (wX (wZ (wP I (Aa (Ac ?_)))))))))))
        refine A5 I (by((repeat (first|refine A9.same ?_|refine A9.off I ?_));exact tO)) ?_
        exact Al () ⟨I,tO⟩ [] (by decide) I
       ·refine wI I I (by decide) (by decide) (Aa (Ac (wX ?_)))
        refine RS.cons ?_ (RS.cons ?_ (RS.nil))
        ·refine wB 4 I I I (Aa (Ac (wX (wZ ?_))))
         refine wB 0 I I I ?_;refine Aj 76 (.agg #[str [50],str [50]]) I (by rw[←D8];rfl) ?_
         refine Aa (Ac (wX (wZ ?_)))
         refine AU [50] [50] [50] [50] I I I I I ?_;refine Aj 77 (.bool true) I I ?_
         refine Aa (Ac (wX (wZ (wP I (Aa (Ac (wX (wZ (wP I (Aa (Ac ?_)))))))))))
         refine A5 I (by((repeat (first|refine A9.same ?_|refine A9.off I ?_));exact tO)) ?_
         exact Al () ⟨I,tO⟩ [] (by decide) I
        ·refine wB 0 I I I ?_;refine Aj 76 (.agg #[str [50],str [50]]) I (by rw[←D8];rfl) ?_
         refine Aa (Ac (wX (wZ (wB 4 I I I (Aa (Ac (wX (wZ ?_))))))))
         refine AU [50] [50] [50] [50] I I I I I ?_;refine Aj 77 (.bool true) I I ?_
         refine Aa (Ac (wX (wZ (wP I (Aa (Ac (wX (wZ (wP I (Aa (Ac ?_)))))))))))
         refine A5 I (by((repeat (first|refine A9.same ?_|refine A9.off I ?_));exact tO)) ?_
         exact Al () ⟨I,tO⟩ [] (by decide) I
  ·refine Av Tryz.hZ tH I I I I I I I I ?_
   refine Aa (Ac (wX (wZ (wB 2 I I I (Aa (Ac (wX (wZ ?_))))))))
   refine AU [49,47,51] [49,47,51] [49,47,51] [49,47,51] I I I I I ?_;refine Aj 60 (.bool true) I I ?_
   refine Aa (Ac (wX (wZ (wP I (Aa (Ac (wX (wZ (wP I (Aa (Ac (wX (wZ ?_)))))))))))))
   refine wP I (Aa (Ac (wX (wZ (wP I (Aa (Ac (wX (wZ (wP I (Aa (Ac (wX ?_)))))))))))))
   refine RS.cons ?_ (RS.cons ?_ (RS.nil))
   ·refine wB 3 I I I (Aa (Ac (wX (wZ (wP I (Aa (Ac (wX (wZ (wI I I (by decide) (by decide) (Aa (Ac (wX ?_)))))))))))))
    refine wZ ?_
    refine wB 0 I I I ?_;refine Aj 69 (.agg #[str [48],str [48]]) I (by rw[←L6];rfl) ?_
    refine Aa (Ac (wX (wZ ?_)))
    refine AU [48] [48] [48] [48] I I I I I ?_;refine Aj 70 (.bool true) I I ?_
    refine Aa (Ac (wX (wZ (wP I (Aa (Ac (wX (wZ (wP I (Aa (Ac (wX ?_))))))))))))
    refine RS.cons ?_ (RS.cons ?_ (RS.nil))
    ·refine wB 4 I I I (Aa (Ac (wX (wZ (wP I (Aa (Ac (wX (wZ (wI I I (by decide) (by decide) (Aa (Ac (wX ?_)))))))))))))
     refine wZ ?_
     refine wB 0 I I I ?_;refine Aj 76 (.agg #[str [50],str [50]]) I (by rw[←D8];rfl) ?_
     refine Aa (Ac (wX (wZ ?_)))
     refine AU [50] [50] [50] [50] I I I I I ?_;refine Aj 77 (.bool true) I I ?_
     refine Aa (Ac (wX (wZ (wP I (Aa (Ac (wX (wZ (wP I (Aa (Ac ?_)))))))))))
     refine A5 I (by((repeat (first|refine A9.same ?_|refine A9.off I ?_));exact tO)) ?_
     exact Al () ⟨I,tO⟩ [] (by decide) I
    ·refine wP I (Aa (Ac (wX ?_)))
     refine RS.cons ?_ (RS.cons ?_ (RS.nil))
     ·refine wB 4 I I I (Aa (Ac (wX (wZ (wI I I (by decide) (by decide) (Aa (Ac (wX (wZ ?_)))))))))
      refine wB 0 I I I ?_;refine Aj 76 (.agg #[str [50],str [50]]) I (by rw[←D8];rfl) ?_
      refine Aa (Ac (wX (wZ ?_)))
      refine AU [50] [50] [50] [50] I I I I I ?_;refine Aj 77 (.bool true) I I ?_
      refine Aa (Ac (wX (wZ (wP I (Aa (Ac (wX (wZ (wP I (Aa (Ac ?_)))))))))))
      refine A5 I (by((repeat (first|refine A9.same ?_|refine A9.off I ?_));exact tO)) ?_
      exact Al () ⟨I,tO⟩ [] (by decide) I
     ·refine wI I I (by decide) (by decide) (Aa (Ac (wX ?_)))
      refine RS.cons ?_ (RS.cons ?_ (RS.nil))
      ·refine wB 4 I I I (Aa (Ac (wX (wZ ?_))))
       refine wB 0 I I I ?_;refine Aj 76 (.agg #[str [50],str [50]]) I (by rw[←D8];rfl) ?_
       refine Aa (Ac (wX (wZ ?_)))
       refine AU [50] [50] [50] [50] I I I I I ?_;refine Aj 77 (.bool true) I I ?_
       refine Aa (Ac (wX (wZ (wP I (Aa (Ac (wX (wZ (wP I (Aa (Ac ?_)))))))))))
       refine A5 I (by((repeat (first|refine A9.same ?_|refine A9.off I ?_));exact tO)) ?_
       exact Al () ⟨I,tO⟩ [] (by decide) I
      ·refine wB 0 I I I ?_;refine Aj 76 (.agg #[str [50],str [50]]) I (by rw[←D8];rfl) ?_
       refine Aa (Ac (wX (wZ (wB 4 I I I (Aa (Ac (wX (wZ ?_))))))))
       refine AU [50] [50] [50] [50] I I I I I ?_;refine Aj 77 (.bool true) I I ?_
       refine Aa (Ac (wX (wZ (wP I (Aa (Ac (wX (wZ (wP I (Aa (Ac ?_)))))))))))
       refine A5 I (by((repeat (first|refine A9.same ?_|refine A9.off I ?_));exact tO)) ?_
       exact Al () ⟨I,tO⟩ [] (by decide) I
   ·refine wP I (Aa (Ac (wX ?_)))
    refine RS.cons ?_ (RS.cons ?_ (RS.nil))
    ·refine wB 3 I I I (Aa (Ac (wX (wZ (wI I I (by decide) (by decide) (Aa (Ac (wX (wZ ?_)))))))))
     refine wB 0 I I I ?_;refine Aj 69 (.agg #[str [48],str [48]]) I (by rw[←L6];rfl) ?_
     refine Aa (Ac (wX (wZ ?_)))
     refine AU [48] [48] [48] [48] I I I I I ?_;refine Aj 70 (.bool true) I I ?_
     refine Aa (Ac (wX (wZ (wP I (Aa (Ac (wX (wZ (wP I (Aa (Ac (wX ?_))))))))))))
     refine RS.cons ?_ (RS.cons ?_ (RS.nil))
     ·refine wB 4 I I I (Aa (Ac (wX (wZ (wP I (Aa (Ac (wX (wZ (wI I I (by decide) (by decide) (Aa (Ac (wX ?_)))))))))))))
      refine wZ ?_
      refine wB 0 I I I ?_;refine Aj 76 (.agg #[str [50],str [50]]) I (by rw[←D8];rfl) ?_
      refine Aa (Ac (wX (wZ ?_)))
      refine AU [50] [50] [50] [50] I I I I I ?_;refine Aj 77 (.bool true) I I ?_
      refine Aa (Ac (wX (wZ (wP I (Aa (Ac (wX (wZ (wP I (Aa (Ac ?_)))))))))))
      refine A5 I (by((repeat (first|refine A9.same ?_|refine A9.off I ?_));exact tO)) ?_
      exact Al () ⟨I,tO⟩ [] (by decide) I
     ·refine wP I (Aa (Ac (wX ?_)))
      refine RS.cons ?_ (RS.cons ?_ (RS.nil))
      ·refine wB 4 I I I (Aa (Ac (wX (wZ (wI I I (by decide) (by decide) (Aa (Ac (wX (wZ ?_)))))))))
       refine wB 0 I I I ?_;refine Aj 76 (.agg #[str [50],str [50]]) I (by rw[←D8];rfl) ?_
       refine Aa (Ac (wX (wZ ?_)))
       refine AU [50] [50] [50] [50] I I I I I ?_;refine Aj 77 (.bool true) I I ?_
       refine Aa (Ac (wX (wZ (wP I (Aa (Ac (wX (wZ (wP I (Aa (Ac ?_)))))))))))
       refine A5 I (by((repeat (first|refine A9.same ?_|refine A9.off I ?_));exact tO)) ?_
       exact Al () ⟨I,tO⟩ [] (by decide) I
      ·refine wI I I (by decide) (by decide) (Aa (Ac (wX ?_)))
       refine RS.cons ?_ (RS.cons ?_ (RS.nil))
       ·refine wB 4 I I I (Aa (Ac (wX (wZ ?_))))
        refine wB 0 I I I ?_;refine Aj 76 (.agg #[str [50],str [50]]) I (by rw[←D8];rfl) ?_
        refine Aa (Ac (wX (wZ ?_)))
        refine AU [50] [50] [50] [50] I I I I I ?_;refine Aj 77 (.bool true) I I ?_
        refine Aa (Ac (wX (wZ (wP I (Aa (Ac (wX (wZ (wP I (Aa (Ac ?_)))))))))))
        refine A5 I (by((repeat (first|refine A9.same ?_|refine A9.off I ?_));exact tO)) ?_
        exact Al () ⟨I,tO⟩ [] (by decide) I
       ·refine wB 0 I I I ?_;refine Aj 76 (.agg #[str [50],str [50]]) I (by rw[←D8];rfl) ?_
        refine Aa (Ac (wX (wZ (wB 4 I I I (Aa (Ac (wX (wZ ?_))))))))
        refine AU [50] [50] [50] [50] I I I I I ?_;refine Aj 77 (.bool true) I I ?_
        refine Aa (Ac (wX (wZ (wP I (Aa (Ac (wX (wZ (wP I (Aa (Ac ?_)))))))))))
        refine A5 I (by((repeat (first|refine A9.same ?_|refine A9.off I ?_));exact tO)) ?_
        exact Al () ⟨I,tO⟩ [] (by decide) I
    ·refine wI I I (by decide) (by decide) (Aa (Ac (wX ?_)))
     refine RS.cons ?_ (RS.cons ?_ (RS.nil))
     ·refine wB 3 I I I (Aa (Ac (wX (wZ ?_))))
      refine wB 0 I I I ?_;refine Aj 69 (.agg #[str [48],str [48]]) I (by rw[←L6];rfl) ?_
      refine Aa (Ac (wX (wZ ?_)))
      refine AU [48] [48] [48] [48] I I I I I ?_;refine Aj 70 (.bool true) I I ?_
      refine Aa (Ac (wX (wZ (wP I (Aa (Ac (wX (wZ (wP I (Aa (Ac (wX ?_))))))))))))
      refine RS.cons ?_ (RS.cons ?_ (RS.nil))
      ·refine wB 4 I I I (Aa (Ac (wX (wZ (wP I (Aa (Ac (wX (wZ (wI I I (by decide) (by decide) (Aa (Ac (wX ?_)))))))))))))
       refine wZ ?_
       refine wB 0 I I I ?_;refine Aj 76 (.agg #[str [50],str [50]]) I (by rw[←D8];rfl) ?_
       refine Aa (Ac (wX (wZ ?_)))
       refine AU [50] [50] [50] [50] I I I I I ?_;refine Aj 77 (.bool true) I I ?_
       refine Aa (Ac (wX (wZ (wP I (Aa (Ac (wX (wZ (wP I (Aa (Ac ?_)))))))))))
       refine A5 I (by((repeat (first|refine A9.same ?_|refine A9.off I ?_));exact tO)) ?_
       exact Al () ⟨I,tO⟩ [] (by decide) I
      ·refine wP I (Aa (Ac (wX ?_)))
       refine RS.cons ?_ (RS.cons ?_ (RS.nil))
       ·refine wB 4 I I I (Aa (Ac (wX (wZ (wI I I (by decide) (by decide) (Aa (Ac (wX (wZ ?_)))))))))
        refine wB 0 I I I ?_;refine Aj 76 (.agg #[str [50],str [50]]) I (by rw[←D8];rfl) ?_
        refine Aa (Ac (wX (wZ ?_)))
        refine AU [50] [50] [50] [50] I I I I I ?_;refine Aj 77 (.bool true) I I ?_
        refine Aa (Ac (wX (wZ (wP I (Aa (Ac (wX (wZ (wP I (Aa (Ac ?_)))))))))))
        refine A5 I (by((repeat (first|refine A9.same ?_|refine A9.off I ?_));exact tO)) ?_
        exact Al () ⟨I,tO⟩ [] (by decide) I
       ·refine wI I I (by decide) (by decide) (Aa (Ac (wX ?_)))
        refine RS.cons ?_ (RS.cons ?_ (RS.nil))
        ·refine wB 4 I I I (Aa (Ac (wX (wZ ?_))))
         refine wB 0 I I I ?_;refine Aj 76 (.agg #[str [50],str [50]]) I (by rw[←D8];rfl) ?_
         refine Aa (Ac (wX (wZ ?_)))
         refine AU [50] [50] [50] [50] I I I I I ?_;refine Aj 77 (.bool true) I I ?_
         refine Aa (Ac (wX (wZ (wP I (Aa (Ac (wX (wZ (wP I (Aa (Ac ?_)))))))))))
         refine A5 I (by((repeat (first|refine A9.same ?_|refine A9.off I ?_));exact tO)) ?_
         exact Al () ⟨I,tO⟩ [] (by decide) I
        ·refine wB 0 I I I ?_;refine Aj 76 (.agg #[str [50],str [50]]) I (by rw[←D8];rfl) ?_
         refine Aa (Ac (wX (wZ (wB 4 I I I (Aa (Ac (wX (wZ ?_))))))))
         refine AU [50] [50] [50] [50] I I I I I ?_;refine Aj 77 (.bool true) I I ?_
         refine Aa (Ac (wX (wZ (wP I (Aa (Ac (wX (wZ (wP I (Aa (Ac ?_)))))))))))
         refine A5 I (by((repeat (first|refine A9.same ?_|refine A9.off I ?_));exact tO)) ?_
         exact Al () ⟨I,tO⟩ [] (by decide) I
     ·refine wB 0 I I I ?_;refine Aj 69 (.agg #[str [48],str [48]]) I (by rw[←L6];rfl) ?_
      refine Aa (Ac (wX (wZ (wB 3 I I I (Aa (Ac (wX (wZ ?_))))))))
      refine AU [48] [48] [48] [48] I I I I I ?_;refine Aj 70 (.bool true) I I ?_
      refine Aa (Ac (wX (wZ (wP I (Aa (Ac (wX (wZ (wP I (Aa (Ac (wX ?_))))))))))))
      refine RS.cons ?_ (RS.cons ?_ (RS.nil))
      ·refine wB 4 I I I (Aa (Ac (wX (wZ (wP I (Aa (Ac (wX (wZ (wI I I (by decide) (by decide) (Aa (Ac (wX ?_)))))))))))))
       refine wZ ?_
       refine wB 0 I I I ?_;refine Aj 76 (.agg #[str [50],str [50]]) I (by rw[←D8];rfl) ?_
       refine Aa (Ac (wX (wZ ?_)))
       refine AU [50] [50] [50] [50] I I I I I ?_;refine Aj 77 (.bool true) I I ?_
       refine Aa (Ac (wX (wZ (wP I (Aa (Ac (wX (wZ (wP I (Aa (Ac ?_)))))))))))
       refine A5 I (by((repeat (first|refine A9.same ?_|refine A9.off I ?_));exact tO)) ?_
       exact Al () ⟨I,tO⟩ [] (by decide) I
      ·refine wP I (Aa (Ac (wX ?_)))
       refine RS.cons ?_ (RS.cons ?_ (RS.nil))
       ·refine wB 4 I I I (Aa (Ac (wX (wZ (wI I I (by decide) (by decide) (Aa (Ac (wX (wZ ?_)))))))))
        refine wB 0 I I I ?_;refine Aj 76 (.agg #[str [50],str [50]]) I (by rw[←D8];rfl) ?_
        refine Aa (Ac (wX (wZ ?_)))
        refine AU [50] [50] [50] [50] I I I I I ?_;refine Aj 77 (.bool true) I I ?_
        refine Aa (Ac (wX (wZ (wP I (Aa (Ac (wX (wZ (wP I (Aa (Ac ?_)))))))))))
        refine A5 I (by((repeat (first|refine A9.same ?_|refine A9.off I ?_));exact tO)) ?_
        exact Al () ⟨I,tO⟩ [] (by decide) I
       ·refine wI I I (by decide) (by decide) (Aa (Ac (wX ?_)))
        refine RS.cons ?_ (RS.cons ?_ (RS.nil))
        ·refine wB 4 I I I (Aa (Ac (wX (wZ ?_))))
         refine wB 0 I I I ?_;refine Aj 76 (.agg #[str [50],str [50]]) I (by rw[←D8];rfl) ?_
         refine Aa (Ac (wX (wZ ?_)))
         refine AU [50] [50] [50] [50] I I I I I ?_;refine Aj 77 (.bool true) I I ?_
         refine Aa (Ac (wX (wZ (wP I (Aa (Ac (wX (wZ (wP I (Aa (Ac ?_)))))))))))
         refine A5 I (by((repeat (first|refine A9.same ?_|refine A9.off I ?_));exact tO)) ?_
         exact Al () ⟨I,tO⟩ [] (by decide) I
        ·refine wB 0 I I I ?_;refine Aj 76 (.agg #[str [50],str [50]]) I (by rw[←D8];rfl) ?_
         refine Aa (Ac (wX (wZ (wB 4 I I I (Aa (Ac (wX (wZ ?_))))))))
         refine AU [50] [50] [50] [50] I I I I I ?_;refine Aj 77 (.bool true) I I ?_
         refine Aa (Ac (wX (wZ (wP I (Aa (Ac (wX (wZ (wP I (Aa (Ac ?_)))))))))))
         refine A5 I (by((repeat (first|refine A9.same ?_|refine A9.off I ?_));exact tO)) ?_
         exact Al () ⟨I,tO⟩ [] (by decide) I
 intro _
 exact zE (zO (wR1 I I I))
-- BOXES 8
-- CODE2
def Ot (V:Vec):Option Addr:=V.p.map fun g=>⟨g,0,none⟩
def QO (V:Vec):Nat:=match V.p with
 |none=>0
 |some _=>V.cap
theorem QM {V:Vec} {l:List Ag} (h:V.OK 2 l.length (ptC l)):V.val l.length=slv (Ot V) l.length (QO V):=by
 obtain⟨p,c,j⟩:=V
 cases p with
 |none=>
  have e:l.length=0:=h.nil rfl
  rw[e];rfl
 |some g=>rfl
theorem RZ {W0 W:World} {bxs:List Bx} (hp:Hp W0 bxs W) (k:Nat) {V:Vec} {l:List Ag} (h:V.OK 2 l.length (ptC l)) (hk:nth bxs k=some (V.bx 35 (ptC l))):Cs W (Ot V) l:=by
 obtain⟨p,c,j⟩:=V
 cases p with
 |none=>
  have e:l.length=0:=h.nil rfl
  exact .inl (List.length_eq_zero_iff.1 e)
 |some g=>exact Cs.of_row (Ak.of_bx hp k hk rfl)
-- BOXES 8
-- CODE2
def mnQ (x y:Rat):Rat:=if x<y then x else y
def mxQ (x y:Rat):Rat:=if y<x then x else y
-- BOXES 9
-- CODE2
structure MV (p q:Ag):Prop where
 a:Cf p.1 q.2
 b:Cf q.1 p.2
 c:CV (p.1*q.2) (q.1*p.2)
def dfE (s:Bool) (p q:Ag):Rat×Bool:=kSb (kMu (kMu s p.1 q.2).2 q.1 p.2).2 (kMu s p.1 q.2).1 (kMu (kMu s p.1 q.2).2 q.1 p.2).1
theorem Qk {p q:Ag} (h:MV p q):dfE false p q=(Cx p q,false):=by
 have a:kMu false p.1 q.2=(p.1*q.2,false):=BU h.a
 have b:kMu false q.1 p.2=(q.1*p.2,false):=BU h.b
 unfold dfE
 simp only[a,b]
 exact BU h.c
theorem Yv {s:Bool} {p q:Ag}:(dfE s p q).2=false↔s=false∧MV p q:=by
 constructor
 ·intro h
  unfold dfE at h
  have h3:=DM.1 h
  have h2:=DM.1 h3.1
  have h1:=DM.1 h2.1
  obtain⟨rfl,a⟩:=h1
  have ea:kMu false p.1 q.2=(p.1*q.2,false):=BU a
  have b:=h2.2
  have c:=h3.2
  have eb:kMu false q.1 p.2=(q.1*p.2,false):=BU b
  simp only[ea,eb] at c
  exact⟨I,a,b,c⟩
 ·rintro⟨rfl,h⟩
  rw[Qk h]
theorem Vf (s:Bool) (p q:Ag):okQ (dfE s p q).1:=My _ _ _
theorem Kj (c:Nat) (s:Bool) (p q:Ag) (hp:okP p) (hq:okP q) (W:World) (h:KcP c s W):Ca 46 [Ah c,sdV p q] c (dfE s p q) W:=by
 obtain⟨x1,e1⟩: ∃x,x=kMu s p.1 q.2:=⟨_,rfl⟩
 obtain⟨x2,e2⟩: ∃x,x=kMu x1.2 q.1 p.2:=⟨_,rfl⟩
 obtain⟨x3,e3⟩: ∃x,x=kSb x2.2 x1.1 x2.1:=⟨_,rfl⟩
 have eL:dfE s p q=x3:=by rw[e3,e2,e1];rfl
 have o1:okQ x1.1:=by rw[e1];exact Jd _ _ _
 have o2:okQ x2.1:=by rw[e2];exact Jd _ _ _
 have c1: ∀W1,KcP c s W1→Ca 60 [Ah c,str (Ad p.1),str (Ad q.2)] c x1 W1:=fun W1 h=>by rw[e1];exact D2 c _ _ _ hp.1 hq.2 W1 h
 have c2: ∀W1,KcP c x1.2 W1→Ca 60 [Ah c,str (Ad q.1),str (Ad p.2)] c x2 W1:=fun W1 h=>by rw[e2];exact D2 c _ _ _ hq.1 hp.2 W1 h
 have c3: ∀W1,KcP c x2.2 W1→Ca 59 [Ah c,str (Ad x1.1),str (Ad x2.1)] c x3 W1:=fun W1 h=>by rw[e3];exact Fk c _ _ _ o1 o2 W1 h
 rw[eL]
 clear eL e1 e2 e3
 refine Cm.enter h Tryz.func46 I I I ?_
 refine zA (zB ?_)
 (refine Ax rfl rfl rfl rfl ?_;intro)
 refine wP I (Aa ?_)
 rename_i b3
 refine zE (Ao ?_)
 refine AL (X:=Unit) [true,true,true,true,true,true,true,false,true,true,true,true,true,true,true,false,false,false] (fun _=>[(0,Ah c),(5,str (Ad x1.1)),(6,str (Ad x2.1))]) (fun _=>[AT (Aw W c),caE c x2.2])
  4 [AT (Aw W c),caF c s,⟨b3,66,(sdV p q).cells.toList,true,none⟩] Tryz.mixed (by kernel_rfl) ?_ ?_
 ·refine qP I ?_
  refine AZ Tryz.underlying66 Tryz.sizeOf35 I I I I I ⟨by decide,by decide⟩ ?_
  refine qP I (qB 2 I I I ?_)
  refine AZ Tryz.underlying66 Tryz.sizeOf35 I I I I I ⟨by decide,by decide⟩ ?_
  refine qP I (qB 2 I I I (qP I ?_))
  refine AZ Tryz.underlying66 Tryz.sizeOf35 I I I I I ⟨by decide,by decide⟩ ?_
  refine qP I (qB 2 I I I ?_)
  refine AZ Tryz.underlying66 Tryz.sizeOf35 I I I I I ⟨by decide,by decide⟩ ?_
  refine qP I (qB 2 I I I (Bu (wX (wZ ?_))))
  refine AO 1 c I I I I I I (by kernel_rfl) I (fun W1 hp1=>c1 W1 (h.at_ (bs:=[]) (hp1.pick (l:=[AT (Aw W c),caE c s]) [0,1] (by decide) I))) ?_
  refine Aa (Ac (wX (wZ ?_)))
  refine AO 1 c I I I I I I (by kernel_rfl) I (fun W1 hp1=>c2 W1 (h.at_ (bs:=[]) (hp1.pick (l:=[AT (Aw W c),caE c x1.2]) [0,1] (by decide) I))) ?_
  refine Aa (Ac (wX (wZ (wP I (Aa (Ac (wX (wZ (wP I (Aa (Ac ?_)))))))))))
  refine A5 I (by((repeat (first|refine A9.same ?_|refine A9.off I ?_));exact tO)) ?_
  exact Al () ⟨I,I,I,tO⟩ [0,1] (by decide) I
 intro _
 refine zE (zA (zB (wP I (wP I (wP I ?_)))))
 refine AO 1 c I I I I I I (by kernel_rfl) I (fun W1 hp1=>c3 W1 (h.at_ (bs:=[]) hp1)) ?_
 exact wP I (Aa (zE (zO (Az tH I (.tmp I) () I tO fun W1 hp=>EE hp))))
theorem G0 (W:World) (p:Option Addr) (cap:Nat) (l:List PtS) (hA:Dm W p l) (h4:l.length≤4096) (hs: ∀x∈l,x.1.length≤604∧x.2.length≤604) (hv:BT W) (ht:AM W):
  Ai Tryz.prog 41 #[slv p l.length cap, .slice none 0 0] W (fun e:Int=> .int .i64 e) (fun e=>e=0∧IM l∨e=1∧ ¬IM l) (fun _=>[]):=by
 refine Ae (args:=[slv p l.length cap, .slice none 0 0]) Tryz.func41 I I I ?_
 refine zA (zB (wP I (Aa (zE (zA (zA (zB (wP I ?_))))))))
 refine wD (X:=Int) I I (fun W1 hp=>SC W1 p cap l (hA.hp hp) h4 hs (hv.hp hp) (ht.hp hp)) ?_
 intro e1 he1
 have he1:e1=0↔IM l:=he1
 refine wP I ?_
 by_cases h1:e1=0
 rotate_left
 ·exact wU 10 true I (bne_iff_ne.2 h1) (Aa (zE (zR I (zA (zB (wP I (Aa (zE (zO (zP (Az tH I (.tmp I) (1:Int) I (.inr ⟨I,fun h=>h1 (he1.2 h)⟩) fun W _=>Ar.nil _ _)))))))))))
 refine wU 10 false I (bne_eq_false_iff_eq.2 h1) (Aa (zE (zS I (zI (zE (zA (zA (zB (wP I (wP I (wP I (Aa (zE ?_)))))))))))))
 refine zH ?_
 refine A8 (X:=Unit) (fun _=>[(1, .slice none 0 0),(4, .int .i64 0),(12, .int .i64 0),(13, .int .i64 0)]) (fun _=>[]) (fun _=>True) (fun _=>0) () tO ⟨I,I,I,I,tO⟩ [] I ?_
 intro _ _
 refine zA (zB (wP I (Aa (zE (zA (zS I (zJ (zK (zK (zL (zE (zA (zA ?_)))))))))))))
 refine zB (wP I (wP I (wP I (wP I ?_))))
 iterate 4 refine At I I ?_
 refine wP I (wP I ?_)
 iterate 4 refine At I I ?_
 exact wP I (Aa (zE (zS I (zI (zE (zA (zB (wP I (Aa (zE (zO (Az tH I (.tmp I) (0:Int) I (.inl ⟨I,he1.1 h1⟩) fun W _=>Ar.nil _ _))))))))))))
def K1 (l:List Ag) (k:Nat):Prop:= ∀j,j<k→MV (Ab l j) (Ab l (j+1))∧BL (crK l j) (Cx (Ab l j) (Ab l (j+1)))
structure ArI (l:List Ag) (k:Nat) (x:Rat×Bool):Prop where
 ok:okQ x.1
 val:x.2=false→x.1=crK l k
 st:x.2=false↔K1 l k
theorem ArI.next {l:List Ag} {k:Nat} {x:Rat×Bool} (h:ArI l k x):ArI l (k+1) (kAd (dfE x.2 (Ab l k) (Ab l (k+1))).2 x.1 (dfE x.2 (Ab l k) (Ab l (k+1))).1):=by
 obtain⟨v,s⟩:=x
 have hv:s=false→v=crK l k:=h.val
 have hst:s=false↔K1 l k:=h.st
 have key:K1 l (k+1)→K1 l k∧MV (Ab l k) (Ab l (k+1))∧BL (crK l k) (Cx (Ab l k) (Ab l (k+1))):=fun g=>⟨fun j hj=>g j (by omega),g k (by omega)⟩
 have fw:K1 l (k+1)→kAd (dfE s (Ab l k) (Ab l (k+1))).2 v (dfE s (Ab l k) (Ab l (k+1))).1=(crK l (k+1),false):=fun g=>by
  obtain⟨a,b,c⟩:=key g
  obtain rfl:=hst.2 a
  rw[Qk b,hv rfl,GJ]
  exact BU c
 have bw:(kAd (dfE s (Ab l k) (Ab l (k+1))).2 v (dfE s (Ab l k) (Ab l (k+1))).1).2=false→K1 l (k+1):=fun g=>by
  have h2:=DM.1 g
  obtain⟨rfl,h1⟩:=Yv.1 h2.1
  have a:=hst.1 rfl
  have c:=h2.2
  rw[Qk h1,hv rfl] at c
  intro j hj
  by_cases e:j=k
  ·subst e;exact⟨h1,c⟩
  ·exact a j (by omega)
 exact⟨K8 _ _ _,fun g=>by rw[fw (bw g)],⟨bw,fun g=>by rw[fw g]⟩⟩
def NQ (l:List Ag):Prop:=K1 l l.length∧AR (AY l) 2
def Lg (xs:List PtS) (s:List UInt8) (e:Int):Prop:=(∃l,xs=l.map cvS∧IM xs∧((NQ l∧s=Ad (AY l/2)∧e=0)∨(¬NQ l∧s=[]∧e=4)))∨(¬IM xs∧s=[]∧e=1)
theorem Lg.det {xs:List PtS} {s s':List UInt8} {e e':Int} (h:Lg xs s e) (h':Lg xs s' e'):s=s'∧e=e':=by
 rcases h with⟨l,h1,h2,h3⟩|⟨hn,rfl,rfl⟩<;>rcases h' with⟨l',h1',h2',h3'⟩|⟨hn',rfl,rfl⟩
 ·obtain rfl:=IA (h1.symm.trans h1')
  rcases h3 with⟨a,rfl,rfl⟩|⟨a,rfl,rfl⟩<;>rcases h3' with⟨b,rfl,rfl⟩|⟨b,rfl,rfl⟩
  ·exact⟨I,I⟩
  ·exact absurd a b
  ·exact absurd b a
  ·exact⟨I,I⟩
 ·exact absurd h2 hn'
 ·exact absurd h2' hn
 ·exact⟨I,I⟩
theorem Yu:okQ 2:=by
 have h:szQ 2 1:=by unfold szQ;decide+kernel
 exact h.ok (by decide)
theorem PU (xs:List PtS) (hx:xs.length≤8) (hxs: ∀x∈xs,x.1.length≤604∧x.2.length≤604) (p:Option Addr) (cap:Nat) (W:World) (hA:Dm W p xs) (hv:BT W) (ht:AM W):
  Ai Tryz.prog 15 #[slv p xs.length cap] W (fun x:List UInt8×Int=> .tuple #[str x.1, .int .i64 x.2]) (fun x=>Lg xs x.1 x.2) (fun _=>[]):=by
 refine Ae (args:=[slv p xs.length cap]) Tryz.func15 I I I ?_
 refine zA (zB (wP I (wP I (Aa (zE (zA (zA (zB (wP I ?_)))))))))
 refine wD (X:=Int) I I (fun W1 hp=>G0 W1 p cap xs (hA.hp hp) (by omega) hxs (hv.hp hp) (ht.hp hp)) ?_
 rintro e1 (⟨rfl,hV⟩|⟨rfl,hV⟩)
 rotate_left
 ·refine wP I (Aa (zE (zA (zB (wP I (wP I (Aa (zE (zR I (zA (zB (wP I (wP I (wP I ?_))))))))))))))
  exact Aa (zE (zO (zP (A7 tH I (.tmp I) (.tmp I) ([],1) I (.inr ⟨hV,I,I⟩) fun W1 hp=>Ar.nil _ _))))
 obtain⟨l,hl,hl3,hlq,_⟩:=id hV
 have hX: ∀s e,(NQ l∧s=Ad (AY l/2)∧e=0)∨(¬NQ l∧s=[]∧e=4)→Lg xs s e:=fun s e h=> .inl ⟨l,hl,hV,h⟩
 have exl:xs.length=l.length:=by rw[hl,List.length_map]
 have hAl:Cs W p l:=Dm.p (by rw[hl] at hA;exact hA)
 rw[exl] at hx
 rw[exl]
 have okl: ∀j,okP (Ab l j):=fun j=>hlq _ (AD (by omega) j)
 clear hl
 refine wP I (Aa (zE (zA (zB (wP I (wP I (Aa (zE (zS I (zI (zE (zA (zB ?_)))))))))))))
 refine Av Tryz.hZ tH I I I I I I I I ?_
 (refine Ax rfl rfl rfl rfl ?_;intro)
 (refine Af Tryz.hZ rfl rfl rfl rfl ?_;intro)
 (refine Af Tryz.hZ rfl rfl rfl rfl ?_;intro)
 refine wS 1 I I I (wS 2 I I I (Aa ?_))
 rename_i bC b5 b6
 refine Iu (bxs':=[caE bC false,ckB b5 bC,nuB b6 0]) (by rw[nuB,CW];rfl) ?_
 refine zE (zA (zA (zB (wP I ?_))))
 refine wD (X:=Nat) I I (fun W1 _=>CJ p l.length cap W1) ?_
 intro bp _
 refine Aa (zE (zH ?_))
 refine DH (X:=Rat×Bool) (fun x=>[caE bC x.2,ckB b5 bC,nuB b6 x.1,lsB bp (slv p l.length cap)])
  (fun k x=>ArI l k x) (fun _ _=>False) (0,false) rfl (by kernel_rfl) (Da l bp p cap (by omega)) (fun _=>rfl)
  ⟨Kc,fun _=>rfl,⟨fun _ j hj=>absurd hj (Nat.not_lt_zero _),fun _=>rfl⟩⟩ [] rfl (fun k x W1 _ hp=>⟨Ak.of_bx hp 3 rfl rfl,hAl.hp hp⟩) ?_ ?_ (fun _ _ _ _ _ h=>h.elim)
 ·rintro k ⟨v,s⟩ d l' rec L hk hI hrec
  have hk:k<l.length:=hk
  have hI1:=hI.next
  have hvq:okQ v:=hI.ok
  obtain⟨x1,e1⟩: ∃x,x=dfE s (Ab l k) (Ab l (k+1)):=⟨_,rfl⟩
  obtain⟨x2,e2⟩: ∃x,x=kAd x1.2 v x1.1:=⟨_,rfl⟩
  have hI1:ArI l (k+1) x2:=by rw[e2,e1];exact hI1
  have o1:okQ x1.1:=by rw[e1];exact Vf _ _ _
  have c1: ∀W1,KcP bC s W1→Ca 46 [Ah bC,sdV (Ab l k) (Ab l (k+1))] bC x1 W1:=fun W1 h=>by rw[e1];exact Kj bC _ _ _ (okl _) (okl _) W1 h
  have c2: ∀W1,KcP bC x1.2 W1→Ca 45 [Ah bC,str (Ad v),str (Ad x1.1)] bC x2 W1:=fun W1 h=>by rw[e2];exact Eo bC _ _ _ hvq o1 W1 h
  clear e1 e2
  refine zB ?_
  (refine Af Tryz.hZ rfl rfl rfl rfl ?_;intro)
  refine wS 7 I I I (Aa ?_)
  rename_i b8
  refine CK 6 hrec I ?_
  refine B8 ?_
  refine AL (X:=Unit) [true,true,true,true,false,false,false] (fun _=>[(5,Ah b5)]) (fun _=>[AT L,caE bC x2.2,ckB b5 bC,nuB b6 x2.1,lsB bp (slv p l.length cap),B6 d,Bi l' rec .busy none])
   3 [AT L,caF bC s,ckB b5 bC,nuB b6 v,lsB bp (slv p l.length cap),B6 d,Bi l' rec .busy none,⟨b8,66,(sdV (Ab l k) (Ab l (k+1))).cells.toList,true,none⟩] Tryz.mixed (by kernel_rfl) ?_ ?_
  ·refine qB 2 I I I (qB 3 I I I (qB 2 I I I (qB 7 I I I (Bu (wX (wZ ?_))))))
   refine AO 1 bC I I I I I I (by kernel_rfl) I (fun W1 hp1=>c1 W1 (KcP.of hp1 1 I hv ht)) ?_
   refine Aa (Ac (wX (wZ ?_)))
   refine AO 1 bC I I I I I I (by kernel_rfl) I (fun W1 hp1=>c2 W1 (KcP.of hp1 1 I hv ht)) ?_
   refine Aa (Ac (wX (wZ (wS 3 I I I (Aa (Ac ?_))))))
   refine AF I (by kernel_rfl) ?_
   exact Al () ⟨I,tO⟩ [0,1,2,3,4,5,6] (by decide) I
  intro _
  exact zN (Co 6 x2 hrec I hI1 [] I)
 ·rintro⟨v,s⟩ d l' rec hI
  have hI:ArI l l.length (v,s):=hI
  have hvq:okQ v:=hI.ok
  obtain⟨⟨v2,s2⟩,e1⟩: ∃x,x=kDi s v 2:=⟨_,rfl⟩
  have hst:s2=false↔s=false∧AR v 2:=by
   have h1:(kDi s v 2).2=false↔s=false∧AR v 2:=DM
   rw[←e1] at h1;exact h1
  have c1: ∀W1,KcP bC s W1→Ca 47 [Ah bC,str (Ad v),str [50]] bC (v2,s2) W1:=fun W1 h=>by
   have h1:=KW bC s v 2 hvq Yu (fun _=>by decide) W1 h
   rw[PF, ←e1] at h1
   exact h1
  refine zN (zE (zA (zA (zB (wB 1 I I I (wB 2 I I I ?_))))))
  refine AO 0 bC I I I I I I (by kernel_rfl) I (fun W1 hp1=>c1 W1 (KcP.of hp1 0 I hv ht)) ?_
  refine wP I (Aa ?_)
  cases s2 with
  |false=>
   obtain⟨rfl,hdv⟩:=hst.1 rfl
   have hvs:v=AY l:=hI.val rfl
   have hok:NQ l:=⟨hI.st.1 rfl,by rw[←hvs];exact hdv⟩
   obtain rfl:v2=AY l/2:=by
    have h1:kDi false v 2=(v/2,false):=BU hdv
    rw[h1] at e1
    rw[←hvs];exact congrArg Prod.fst e1
   refine zE (zA (zB (wB 1 I I I ?_)))
   refine AH I I I I ?_
   refine wP I (wB 0 I I I (wP I (Aa (zE (zR I (zA (zB (wP I (wP I (wP I (Aa (zE (zO ?_)))))))))))))
   refine zP ?_
   refine Cl 4 I ?_
   exact A7 tH I (.tmp I) (.tmp I) (Ad (AY l/2),0) I (hX _ _ (.inl ⟨hok,I,I⟩)) fun W _=>Ar.nil _ _
  |true=>
   have hno: ¬NQ l:=fun h=>by
    have h1:s=false:=hI.st.2 h.1
    have h2:=hI.val h1
    exact absurd (hst.2 ⟨h1,by rw[show v=AY l from h2];exact h.2⟩) (by decide)
   refine zE (zA (zB (wB 1 I I I ?_)))
   refine AH I I I I ?_
   refine wP I (wB 0 I I I (wP I (Aa (zE (zS I (zI (zE (Ao (zU (qB 1 I I I ?_))))))))))
   refine Gs I I I I ?_
   refine qP I (qB 0 I I I (qP I (qP I (AQ (Aa (zE (zO ?_)))))))
   refine Cl 4 I ?_
   exact A7 tH I (.tmp I) (.tmp I) ([],4) I (hX _ _ (.inr ⟨hno,I,I⟩)) fun W _=>Ar.nil _ _
-- BOXES 14
-- CODE2
structure Zx (l:List Ag) (j:Nat):Prop where
 d:MV (Ab l j) (Ab l (j+1))
 x1:BL (Ab l j).1 (Ab l (j+1)).1
 x2:Cf ((Ab l j).1+(Ab l (j+1)).1) (Cx (Ab l j) (Ab l (j+1)))
 x3:BL (moX l j) (((Ab l j).1+(Ab l (j+1)).1)*Cx (Ab l j) (Ab l (j+1)))
 y1:BL (Ab l j).2 (Ab l (j+1)).2
 y2:Cf ((Ab l j).2+(Ab l (j+1)).2) (Cx (Ab l j) (Ab l (j+1)))
 y3:BL (moY l j) (((Ab l j).2+(Ab l (j+1)).2)*Cx (Ab l j) (Ab l (j+1)))
 s:BL (crK l j) (Cx (Ab l j) (Ab l (j+1)))
def S3 (l:List Ag) (k:Nat):Prop:= ∀j,j<k→Zx l j
structure CnI (l:List Ag) (k:Nat) (X Y S:Rat) (s:Bool):Prop where
 ox:okQ X
 oy:okQ Y
 os:okQ S
 val:s=false→X=moX l k∧Y=moY l k∧S=crK l k
 st:s=false↔S3 l k
theorem CnI.next {l:List Ag} {k:Nat} {X Y S:Rat} {s:Bool} (h:CnI l k X Y S s) {a0 a1 a2 a3 b1 b2 b3 c:Rat×Bool}
  (e0:a0=dfE s (Ab l k) (Ab l (k+1))) (e1:a1=kAd a0.2 (Ab l k).1 (Ab l (k+1)).1) (e2:a2=kMu a1.2 a1.1 a0.1) (e3:a3=kAd a2.2 X a2.1)
  (f1:b1=kAd a3.2 (Ab l k).2 (Ab l (k+1)).2) (f2:b2=kMu b1.2 b1.1 a0.1) (f3:b3=kAd b2.2 Y b2.1) (g:c=kAd b3.2 S a0.1):CnI l (k+1) a3.1 b3.1 c.1 c.2:=by
 have key:S3 l (k+1)→S3 l k∧Zx l k:=fun g=>⟨fun j hj=>g j (by omega),g k (by omega)⟩
 have fw:S3 l (k+1)→a3=(moX l (k+1),false)∧b3=(moY l (k+1),false)∧c=(crK l (k+1),false):=fun w=>by
  obtain⟨a,b⟩:=key w
  obtain rfl:=h.st.2 a
  obtain⟨rfl,rfl,rfl⟩:=h.val rfl
  have h0:a0=(Cx (Ab l k) (Ab l (k+1)),false):=by rw[e0,Qk b.d]
  have h1:a1=((Ab l k).1+(Ab l (k+1)).1,false):=by rw[e1,h0];exact BU b.x1
  have h2:a2=(((Ab l k).1+(Ab l (k+1)).1)*Cx (Ab l k) (Ab l (k+1)),false):=by rw[e2,h1,h0];exact BU b.x2
  have h3:a3=(moX l (k+1),false):=by rw[e3,h2,MQ];exact BU b.x3
  have i1:b1=((Ab l k).2+(Ab l (k+1)).2,false):=by rw[f1,h3];exact BU b.y1
  have i2:b2=(((Ab l k).2+(Ab l (k+1)).2)*Cx (Ab l k) (Ab l (k+1)),false):=by rw[f2,i1,h0];exact BU b.y2
  have i3:b3=(moY l (k+1),false):=by rw[f3,i2,QJ];exact BU b.y3
  exact⟨h3,i3,by rw[g,i3,h0,GJ];exact BU b.s⟩
 have bw:c.2=false→S3 l (k+1):=fun w=>by
  rw[g] at w
  have w8:=DM.1 w
  have w7:=w8.1;rw[f3] at w7;have w7:=DM.1 w7
  have w6:=w7.1;rw[f2] at w6;have w6:=DM.1 w6
  have w5:=w6.1;rw[f1] at w5;have w5:=DM.1 w5
  have w4:=w5.1;rw[e3] at w4;have w4:=DM.1 w4
  have w3:=w4.1;rw[e2] at w3;have w3:=DM.1 w3
  have w2:=w3.1;rw[e1] at w2;have w2:=DM.1 w2
  have w1:=w2.1;rw[e0] at w1
  obtain⟨rfl,d⟩:=Yv.1 w1
  obtain⟨rfl,rfl,rfl⟩:=h.val rfl
  have x1:=w2.2
  have h0:a0=(Cx (Ab l k) (Ab l (k+1)),false):=by rw[e0,Qk d]
  have h1:a1=((Ab l k).1+(Ab l (k+1)).1,false):=by rw[e1,h0];exact BU x1
  have x2:=w3.2
  rw[h1,h0] at x2
  have h2:a2=(((Ab l k).1+(Ab l (k+1)).1)*Cx (Ab l k) (Ab l (k+1)),false):=by rw[e2,h1,h0];exact BU x2
  have x3:=w4.2
  rw[h2] at x3
  have h3:a3=(moX l (k+1),false):=by rw[e3,h2,MQ];exact BU x3
  have y1:=w5.2
  have i1:b1=((Ab l k).2+(Ab l (k+1)).2,false):=by rw[f1,h3];exact BU y1
  have y2:=w6.2
  rw[i1,h0] at y2
  have i2:b2=(((Ab l k).2+(Ab l (k+1)).2)*Cx (Ab l k) (Ab l (k+1)),false):=by rw[f2,i1,h0];exact BU y2
  have y3:=w7.2
  rw[i2] at y3
  have s8:=w8.2
  rw[h0] at s8
  intro j hj
  by_cases e:j=k
  ·subst e;exact⟨d,x1,x2,x3,y1,y2,y3,s8⟩
  ·exact h.st.1 I j (by omega)
 refine⟨by rw[e3];exact K8 _ _ _,by rw[f3];exact K8 _ _ _,by rw[g];exact K8 _ _ _,fun w=> ?_,⟨bw,fun w=>by rw[(fw w).2.2]⟩⟩
 obtain⟨q1,q2,q3⟩:=fw (bw w)
 exact⟨by rw[q1],by rw[q2],by rw[q3]⟩
structure KS (l:List Ag):Prop where
 k:S3 l l.length
 m:Cf 3 (AY l)
 x:AR (Fx l) (3*AY l)
 y:AR (Fo l) (3*AY l)
def Kz (xs:List PtS) (S:PtS) (e:Int):Prop:=(∃l,xs=l.map cvS∧IM xs∧((KS l∧S=ptS (HC l)∧e=0)∨(¬KS l∧S=([],[])∧e=4)))∨(¬IM xs∧S=([],[])∧e=1)
theorem Kz.det {xs:List PtS} {s s':PtS} {e e':Int} (h:Kz xs s e) (h':Kz xs s' e'):s=s'∧e=e':=by
 rcases h with⟨l,h1,h2,h3⟩|⟨hn,rfl,rfl⟩<;>rcases h' with⟨l',h1',h2',h3'⟩|⟨hn',rfl,rfl⟩
 ·obtain rfl:=IA (h1.symm.trans h1')
  rcases h3 with⟨a,rfl,rfl⟩|⟨a,rfl,rfl⟩<;>rcases h3' with⟨b,rfl,rfl⟩|⟨b,rfl,rfl⟩
  ·exact⟨I,I⟩
  ·exact absurd a b
  ·exact absurd b a
  ·exact⟨I,I⟩
 ·exact absurd h2 hn'
 ·exact absurd h2' hn
 ·exact⟨I,I⟩
theorem Ym:okQ 3:=by
 have h:szQ 3 1:=by unfold szQ;decide+kernel
 exact h.ok (by decide)
theorem M1 (xs:List PtS) (hx:xs.length≤8) (hxs: ∀x∈xs,x.1.length≤604∧x.2.length≤604) (p:Option Addr) (cap:Nat) (W:World) (hA:Dm W p xs) (hv:BT W) (ht:AM W):
  Ai Tryz.prog 35 #[slv p xs.length cap] W (fun x:PtS×Int=> .tuple #[.agg #[str x.1.1,str x.1.2], .int .i64 x.2]) (fun x=>Kz xs x.1 x.2) (fun _=>[]):=by
 refine Ae (args:=[slv p xs.length cap]) Tryz.func35 I I I ?_
 refine zA (zB ?_)
 (refine Af Tryz.hZ rfl rfl rfl rfl ?_;intro)
 refine wP I (Aa ?_)
 rename_i b2
 refine zE (zA (zA (zB (wP I ?_))))
 refine wD (X:=Int) I I (fun W1 hp=>G0 W1 p cap xs (hA.hp hp) (by omega) hxs (hv.hp hp) (ht.hp hp)) ?_
 rintro e1 (⟨rfl,hV⟩|⟨rfl,hV⟩)
 rotate_left
 ·refine wP I (Aa (zE (zA (zB (wP I (wP I (Aa (zE (zR I (zA (zB ?_)))))))))))
  refine Av Tryz.hZ tH I I I I I I I I ?_
  exact wP I (wS 0 I I I (wP I (Aa (zE (zO (zP (A7 tH I (.cell 0 I I I I I) (.tmp I) (([],[]),1) I (.inr ⟨hV,I,I⟩) fun W1 hp=>Ar.nil _ _)))))))
 obtain⟨l,hl,hl3,hlq,hcv⟩:=id hV
 have hX: ∀s e,(KS l∧s=ptS (HC l)∧e=0)∨(¬KS l∧s=([],[])∧e=4)→Kz xs s e:=fun s e h=> .inl ⟨l,hl,hV,h⟩
 have exl:xs.length=l.length:=by rw[hl,List.length_map]
 have hAl:Cs W p l:=Dm.p (by rw[hl] at hA;exact hA)
 rw[exl] at hx
 rw[exl]
 have okl: ∀j,okP (Ab l j):=fun j=>hlq _ (AD (by omega) j)
 have hnz:3*AY l≠0:=by have:=MI (hcv.poly hl3);grind
 clear hl
 refine wP I (Aa (zE (zA (zB (wP I (wP I (Aa (zE (zS I (zI (zE (zA (zB ?_)))))))))))))
 refine Av Tryz.hZ tH I I I I I I I I ?_
 (refine Ax rfl rfl rfl rfl ?_;intro)
 (refine Af Tryz.hZ rfl rfl rfl rfl ?_;intro)
 refine wS 2 I I I (Aa ?_)
 rename_i bC b5
 refine zE (zA (zB ?_))
 (refine Af Tryz.hZ rfl rfl rfl rfl ?_;intro)
 (refine Af Tryz.hZ rfl rfl rfl rfl ?_;intro)
 (refine Af Tryz.hZ rfl rfl rfl rfl ?_;intro)
 refine wS 3 I I I (wS 4 I I I (wS 5 I I I (Aa ?_)))
 rename_i b6 b7 b8
 refine Iu (bxs':=[ptB b2 [] [],caE bC false,ckB b5 bC,nuB b6 0,nuB b7 0,nuB b8 0]) (by rw[nuB,nuB,nuB,CW];rfl) ?_
 refine zE (zA (zA (zB (wP I ?_))))
 refine wD (X:=Nat) I I (fun W1 _=>CJ p l.length cap W1) ?_
 intro bp _
 refine Aa (zE (zH ?_))
 refine DH (X:=Rat×Rat×Rat×Bool) (fun x=>[ptB b2 [] [],caE bC x.2.2.2,ckB b5 bC,nuB b6 x.1,nuB b7 x.2.1,nuB b8 x.2.2.1,lsB bp (slv p l.length cap)])
  (fun k x=>CnI l k x.1 x.2.1 x.2.2.1 x.2.2.2) (fun _ _=>False) (0,0,0,false) rfl (by kernel_rfl) (Da l bp p cap (by omega)) (fun _=>rfl)
  ⟨Kc,Kc,Kc,fun _=>⟨rfl,rfl,rfl⟩,⟨fun _ j hj=>absurd hj (Nat.not_lt_zero _),fun _=>rfl⟩⟩ [] rfl (fun k x W1 _ hp=>⟨Ak.of_bx hp 6 rfl rfl,hAl.hp hp⟩) ?_ ?_ (fun _ _ _ _ _ h=>h.elim)
 ·rintro k ⟨X,Y,S,s⟩ d l' rec L hk hI hrec
  have hI:CnI l k X Y S s:=hI
  have hk:k<l.length:=hk
  have okk:=okl k
  have okk1:=okl (k+1)
  obtain⟨P,hP⟩: ∃P,P=Ab l k:=⟨_,rfl⟩
  obtain⟨Q,hQ⟩: ∃Q,Q=Ab l (k+1):=⟨_,rfl⟩
  obtain⟨a0,e0⟩: ∃x,x=dfE s P Q:=⟨_,rfl⟩
  obtain⟨a1,e1⟩: ∃x,x=kAd a0.2 P.1 Q.1:=⟨_,rfl⟩
  obtain⟨a2,e2⟩: ∃x,x=kMu a1.2 a1.1 a0.1:=⟨_,rfl⟩
  obtain⟨a3,e3⟩: ∃x,x=kAd a2.2 X a2.1:=⟨_,rfl⟩
  obtain⟨d1,f1⟩: ∃x,x=kAd a3.2 P.2 Q.2:=⟨_,rfl⟩
  obtain⟨d2,f2⟩: ∃x,x=kMu d1.2 d1.1 a0.1:=⟨_,rfl⟩
  obtain⟨d3,f3⟩: ∃x,x=kAd d2.2 Y d2.1:=⟨_,rfl⟩
  obtain⟨c,g0⟩: ∃x,x=kAd d3.2 S a0.1:=⟨_,rfl⟩
  have hI1:CnI l (k+1) a3.1 d3.1 c.1 c.2:=hI.next (by rw[←hP, ←hQ];exact e0) (by rw[←hP, ←hQ];exact e1) e2 e3 (by rw[←hP, ←hQ];exact f1) f2 f3 g0
  rw[←hP] at okk
  rw[←hQ] at okk1
  have oa0:okQ a0.1:=by rw[e0];exact Vf _ _ _
  have oa1:okQ a1.1:=by rw[e1];exact K8 _ _ _
  have oa2:okQ a2.1:=by rw[e2];exact Jd _ _ _
  have od1:okQ d1.1:=by rw[f1];exact K8 _ _ _
  have od2:okQ d2.1:=by rw[f2];exact Jd _ _ _
  have ca0: ∀W1,KcP bC s W1→Ca 46 [Ah bC,sdV P Q] bC a0 W1:=fun W1 h=>by rw[e0];exact Kj bC _ _ _ okk okk1 W1 h
  have ca1: ∀W1,KcP bC a0.2 W1→Ca 45 [Ah bC,str (Ad P.1),str (Ad Q.1)] bC a1 W1:=fun W1 h=>by rw[e1];exact Eo bC _ _ _ okk.1 okk1.1 W1 h
  have ca2: ∀W1,KcP bC a1.2 W1→Ca 60 [Ah bC,str (Ad a1.1),str (Ad a0.1)] bC a2 W1:=fun W1 h=>by rw[e2];exact D2 bC _ _ _ oa1 oa0 W1 h
  have ca3: ∀W1,KcP bC a2.2 W1→Ca 45 [Ah bC,str (Ad X),str (Ad a2.1)] bC a3 W1:=fun W1 h=>by rw[e3];exact Eo bC _ _ _ hI.ox oa2 W1 h
  have cd1: ∀W1,KcP bC a3.2 W1→Ca 45 [Ah bC,str (Ad P.2),str (Ad Q.2)] bC d1 W1:=fun W1 h=>by rw[f1];exact Eo bC _ _ _ okk.2 okk1.2 W1 h
  have cd2: ∀W1,KcP bC d1.2 W1→Ca 60 [Ah bC,str (Ad d1.1),str (Ad a0.1)] bC d2 W1:=fun W1 h=>by rw[f2];exact D2 bC _ _ _ od1 oa0 W1 h
  have cd3: ∀W1,KcP bC d2.2 W1→Ca 45 [Ah bC,str (Ad Y),str (Ad d2.1)] bC d3 W1:=fun W1 h=>by rw[f3];exact Eo bC _ _ _ hI.oy od2 W1 h
  have cc: ∀W1,KcP bC d3.2 W1→Ca 45 [Ah bC,str (Ad S),str (Ad a0.1)] bC c W1:=fun W1 h=>by rw[g0];exact Eo bC _ _ _ hI.os oa0 W1 h
  clear e0 e1 e2 e3 f1 f2 f3 g0
  refine zB ?_
  (refine Af Tryz.hZ rfl rfl rfl rfl ?_;intro)
  refine wS 10 I I I (Aa ?_)
  rename_i b10
  rw[←hP, ←hQ]
  refine CK 9 hrec I ?_
  refine B8 (zA (zB (wB 3 I I I (wB 10 I I I ?_))))
  refine AO 2 bC I I I I I I (by kernel_rfl) I (fun W1 hp1=>ca0 W1 (KcP.of hp1 2 I hv ht)) ?_
  refine wP I (Aa (zE (Ao ?_)))
  refine AL (X:=Unit) [true,true,true,true,true,true,true,true,true,true,false,true,false,false,false] (fun _=>[(5,Ah b5),(6,Ah b6),(7,Ah b7),(8,Ah b8),(10,Ah b10),(11,str (Ad a0.1))]) (fun _=>[AT L,ptB b2 [] [],caE bC a3.2,ckB b5 bC,nuB b6 a3.1,nuB b7 Y,nuB b8 S,lsB bp (slv p l.length cap),B6 d,Bi l' rec .busy none,⟨b10,66,(sdV P Q).cells.toList,true,none⟩])
   4 [AT L,ptB b2 [] [],caF bC a0.2,ckB b5 bC,nuB b6 X,nuB b7 Y,nuB b8 S,lsB bp (slv p l.length cap),B6 d,Bi l' rec .busy none,⟨b10,66,(sdV P Q).cells.toList,true,none⟩] Tryz.mixed (by kernel_rfl) ?_ ?_
  ·refine qB 3 I I I (qB 4 I I I (qB 3 I I I (qB 3 I I I ?_)))
   refine AZ Tryz.underlying66 Tryz.sizeOf35 I I I I I ⟨by decide,by decide⟩ ?_
   refine qP I (qB 10 I I I ?_)
   refine AZ Tryz.underlying66 Tryz.sizeOf35 I I I I I ⟨by decide,by decide⟩ ?_
   refine qP I (qB 10 I I I (qP I (Bu (wX (wZ ?_)))))
   refine AO 2 bC I I I I I I (by kernel_rfl) I (fun W1 hp1=>ca1 W1 (KcP.of hp1 2 I hv ht)) ?_
   refine Aa (Ac (wX (wZ ?_)))
   refine AO 2 bC I I I I I I (by kernel_rfl) I (fun W1 hp1=>ca2 W1 (KcP.of hp1 2 I hv ht)) ?_
   refine Aa (Ac (wX (wZ ?_)))
   refine AO 2 bC I I I I I I (by kernel_rfl) I (fun W1 hp1=>ca3 W1 (KcP.of hp1 2 I hv ht)) ?_
   refine Aa (Ac (wX (wZ (wS 4 I I I (Aa (Ac ?_))))))
   refine AF I (by kernel_rfl) ?_
   exact Al () ⟨I,I,I,I,I,I,tO⟩ [0,1,2,3,4,5,6,7,8,9,10] (by decide) I
  intro _
  refine zE (Ao ?_)
  refine AL (X:=Unit) [true,true,true,true,true,true,true,true,true,true,false,true,false,false,false] (fun _=>[(5,Ah b5),(8,Ah b8),(11,str (Ad a0.1))]) (fun _=>[AT L,ptB b2 [] [],caE bC d3.2,ckB b5 bC,nuB b6 a3.1,nuB b7 d3.1,nuB b8 S,lsB bp (slv p l.length cap),B6 d,Bi l' rec .busy none])
   4 [AT L,ptB b2 [] [],caF bC a3.2,ckB b5 bC,nuB b6 a3.1,nuB b7 Y,nuB b8 S,lsB bp (slv p l.length cap),B6 d,Bi l' rec .busy none,⟨b10,66,(sdV P Q).cells.toList,true,none⟩] Tryz.mixed (by kernel_rfl) ?_ ?_
  ·refine qB 3 I I I (qB 5 I I I (qB 3 I I I (qB 3 I I I ?_)))
   refine AZ Tryz.underlying66 Tryz.sizeOf35 I I I I I ⟨by decide,by decide⟩ ?_
   refine qP I (qB 10 I I I ?_)
   refine AZ Tryz.underlying66 Tryz.sizeOf35 I I I I I ⟨by decide,by decide⟩ ?_
   refine qP I (qB 10 I I I (qP I (Bu (wX (wZ ?_)))))
   refine AO 2 bC I I I I I I (by kernel_rfl) I (fun W1 hp1=>cd1 W1 (KcP.of hp1 2 I hv ht)) ?_
   refine Aa (Ac (wX (wZ ?_)))
   refine AO 2 bC I I I I I I (by kernel_rfl) I (fun W1 hp1=>cd2 W1 (KcP.of hp1 2 I hv ht)) ?_
   refine Aa (Ac (wX (wZ ?_)))
   refine AO 2 bC I I I I I I (by kernel_rfl) I (fun W1 hp1=>cd3 W1 (KcP.of hp1 2 I hv ht)) ?_
   refine Aa (Ac (wX (wZ (wS 5 I I I (Aa (Ac ?_))))))
   refine AF I (by kernel_rfl) ?_
   exact Al () ⟨I,I,I,tO⟩ [0,1,2,3,4,5,6,7,8,9] (by decide) I
  intro _
  refine zE (zB (wB 3 I I I (wB 6 I I I (wP I ?_))))
  refine AO 2 bC I I I I I I (by kernel_rfl) I (fun W1 hp1=>cc W1 (KcP.of hp1 2 I hv ht)) ?_
  exact wS 6 I I I (Aa (zN (Co 9 (a3.1,d3.1,c.1,c.2) hrec I hI1 [] I)))
 ·rintro⟨X,Y,S,s⟩ d l' rec hI
  have hI:CnI l l.length X Y S s:=hI
  obtain⟨x1,e1⟩: ∃x,x=kMu s 3 S:=⟨_,rfl⟩
  obtain⟨x2,e2⟩: ∃x,x=kDi x1.2 X x1.1:=⟨_,rfl⟩
  obtain⟨x3,e3⟩: ∃x,x=kDi x2.2 Y x1.1:=⟨_,rfl⟩
  have o1:okQ x1.1:=by rw[e1];exact Jd _ _ _
  have hx1:x1.2=false→s=false∧Cf 3 (AY l)∧x1=(3*AY l,false):=fun h=>by
   rw[e1] at h
   obtain⟨rfl,h2⟩:=DM.1 h
   obtain⟨_,_,rfl⟩:=hI.val rfl
   exact⟨I,h2,by rw[e1];exact BU h2⟩
  have hd:x1.2=false→x1.1≠0:=fun h=>by rw[(hx1 h).2.2];exact hnz
  have hd2:x2.2=false→x1.2=false:=fun h=>by rw[e2] at h;exact(DM.1 h).1
  have o2:okQ x2.1:=by rw[e2];exact W9 _ _ _ hd
  have o3:okQ x3.1:=by rw[e3];exact W9 _ _ _ fun h=>hd (hd2 h)
  have c1: ∀W1,KcP bC s W1→Ca 60 [Ah bC,str [51],str (Ad S)] bC x1 W1:=fun W1 h=>by
   have h1:=D2 bC s 3 S Ym hI.os W1 h
   rw[Pe, ←e1] at h1
   exact h1
  have c2: ∀W1,KcP bC x1.2 W1→Ca 47 [Ah bC,str (Ad X),str (Ad x1.1)] bC x2 W1:=fun W1 h=>by rw[e2];exact KW bC _ _ _ hI.ox o1 (fun k=>Nz (hd k)) W1 h
  have c3: ∀W1,KcP bC x2.2 W1→Ca 47 [Ah bC,str (Ad Y),str (Ad x1.1)] bC x3 W1:=fun W1 h=>by rw[e3];exact KW bC _ _ _ hI.oy o1 (fun k=>Nz (hd (hd2 k))) W1 h
  have hyes:x3.2=false→KS l∧(x2.1,x3.1)=HC l:=fun h=>by
   have h3:=h
   rw[e3] at h3
   obtain⟨g2,d3⟩:=DM.1 h3
   have h2:=g2
   rw[e2] at h2
   obtain⟨g1,d2⟩:=DM.1 h2
   obtain⟨rfl,hm,hx⟩:=hx1 g1
   obtain⟨rfl,rfl,rfl⟩:=hI.val rfl
   rw[hx] at d2 d3
   refine⟨⟨hI.st.1 I,hm,d2,d3⟩, ?_⟩
   have v2:x2=(Fx l/(3*AY l),false):=by rw[e2,hx];exact BU d2
   have v3:x3=(Fo l/(3*AY l),false):=by rw[e3,v2,hx];exact BU d3
   rw[v2,v3];rfl
  have hno:x3.2=true→ ¬KS l:=fun h g=>by
   obtain rfl:=hI.st.2 g.k
   obtain⟨rfl,rfl,rfl⟩:=hI.val rfl
   have hx:x1=(3*AY l,false):=by rw[e1];exact BU g.m
   have v2:x2=(Fx l/(3*AY l),false):=by rw[e2,hx];exact BU g.x
   have v3:x3=(Fo l/(3*AY l),false):=by rw[e3,v2,hx];exact BU g.y
   rw[v3] at h;cases h
  clear e1 e2 e3
  refine zN (zE (zA (zB (wB 2 I I I (wB 5 I I I ?_)))))
  refine AO 1 bC I I I I I I (by kernel_rfl) I (fun W1 hp1=>c1 W1 (KcP.of hp1 1 I hv ht)) ?_
  refine wS 5 I I I (Aa (zE (Ao ?_)))
  refine AL (X:=Nat) [true,true,true,false,true,true,true,false,false,false,false] (fun b=>[(2,Ah b2),(3, .int .i64 0),(5,Ah b5),(12,Ah b)]) (fun b=>[ptB b2 [] [],caE bC x3.2,ckB b5 bC,B6 d,ptB b (Ad x2.1) (Ad x3.1)])
   5 [ptB b2 [] [],caF bC x1.2,ckB b5 bC,nuB b6 X,nuB b7 Y,nuB b8 x1.1,lsB bp (slv p l.length cap),B6 d,Bi l' rec .exhausted none] Tryz.mixed (by kernel_rfl) ?_ ?_
  ·refine qB 2 I I I (qB 3 I I I (qB 5 I I I (qB 2 I I I (qB 4 I I I (qB 5 I I I (Bu (wX ?_)))))))
   refine RS.cons ?_ (RS.cons ?_ (RS.nil))
   ·refine AO 1 bC I I I I I I (by kernel_rfl) I (fun W1 hp1=>c2 W1 (KcP.of hp1 1 I hv ht)) ?_
    refine Aa (Ac (wX ?_))
    refine RS.cons ?_ (RS.cons ?_ (RS.nil))
    ·refine AO 1 bC I I I I I I (by kernel_rfl) I (fun W1 hp1=>c3 W1 (KcP.of hp1 1 I hv ht)) ?_
     refine Aa (Ac (wX ?_))
     refine RS.cons ?_ (RS.cons ?_ (RS.nil))
     ·refine Av Tryz.hZ tH I I I I I I I I ?_
      refine Aa (Ac (wX (wZ ?_)))
      refine Af Tryz.hZ rfl rfl rfl rfl ?_;intro b
      refine Aa (Ac (wX (wZ (wS 9 I I I (Aa (Ac ?_))))))
      refine A5 I (by((repeat (first|refine A9.same ?_|refine A9.off I ?_));exact tO)) ?_
      exact Al b ⟨I,I,I,I,tO⟩ [0,1,2,7,9] (by decide) I
     ·refine Af Tryz.hZ rfl rfl rfl rfl ?_;intro b
      refine Aa (Ac (wX (wZ ?_)))
      refine Av Tryz.hZ tH I I I I I I I I ?_
      refine Aa (Ac (wX (wZ (wS 9 I I I (Aa (Ac ?_))))))
      refine A5 I (by((repeat (first|refine A9.same ?_|refine A9.off I ?_));exact tO)) ?_
      exact Al b ⟨I,I,I,I,tO⟩ [0,1,2,7,9] (by decide) I
    ·refine Af Tryz.hZ rfl rfl rfl rfl ?_;intro b
     refine Aa (Ac (wX (wZ ?_)))
     refine AO 1 bC I I I I I I (by kernel_rfl) I (fun W1 hp1=>c3 W1 (KcP.of hp1 1 I hv ht)) ?_
     refine Aa (Ac (wX (wZ ?_)))
     refine Av Tryz.hZ tH I I I I I I I I ?_
     refine Aa (Ac (wX (wZ (wS 9 I I I (Aa (Ac ?_))))))
     refine A5 I (by((repeat (first|refine A9.same ?_|refine A9.off I ?_));exact tO)) ?_
     exact Al b ⟨I,I,I,I,tO⟩ [0,1,2,7,9] (by decide) I
   ·refine Af Tryz.hZ rfl rfl rfl rfl ?_;intro b
    refine Aa (Ac (wX (wZ ?_)))
    refine AO 1 bC I I I I I I (by kernel_rfl) I (fun W1 hp1=>c2 W1 (KcP.of hp1 1 I hv ht)) ?_
    refine Aa (Ac (wX (wZ ?_)))
    refine AO 1 bC I I I I I I (by kernel_rfl) I (fun W1 hp1=>c3 W1 (KcP.of hp1 1 I hv ht)) ?_
    refine Aa (Ac (wX (wZ ?_)))
    refine Av Tryz.hZ tH I I I I I I I I ?_
    refine Aa (Ac (wX (wZ (wS 9 I I I (Aa (Ac ?_))))))
    refine A5 I (by((repeat (first|refine A9.same ?_|refine A9.off I ?_));exact tO)) ?_
    exact Al b ⟨I,I,I,I,tO⟩ [0,1,2,7,9] (by decide) I
  intro b12
  refine zE (zA (zA (zB ?_)))
  obtain⟨v3,s3⟩:=x3
  cases s3 with
  |false=>
   obtain⟨hok,hval⟩:=hyes rfl
   have hv1:x2.1=(HC l).1:=congrArg Prod.fst hval
   have hv2:v3=(HC l).2:=congrArg Prod.snd hval
   refine wB 2 I I I ?_
   refine AH I I I I ?_
   refine wP I (wB 1 I I I (wP I (Aa (zE (zS I (zI (zE (zA (zB (wB 4 I I I (wS 0 I I I (wP I (Aa ?_)))))))))))))
   refine zE (zO ?_)
   refine Cl 3 I ?_
   exact A7 tH I (.cell 0 I I I I I) (.tmp I) ((Ad x2.1,Ad v3),0) I (hX _ _ (.inl ⟨hok,by rw[hv1,hv2],I⟩)) fun W _=>Ar.nil _ _
  |true=>
   have hn:=hno rfl
   refine wB 2 I I I ?_
   refine AH I I I I ?_
   refine wP I (wB 1 I I I (wP I (Aa (zE (zR I (Ao ?_))))))
   refine AL (X:=Unit) [true,true,true,true,true,false,false] (fun _=>[(2,Ah b2),(3, .int .i64 4)]) (fun _=>[ptB b2 [] [],B6 d])
    2 [⟨b2,35,[str [],str []],false,none⟩,caE bC true,ckB b5 bC,B6 d] Tryz.mixed (by kernel_rfl) ?_ ?_
   ·refine DE Tryz.hZ tH I I I I I I I I ?_
    refine qB 2 I I I ?_
    refine Gs I I I I ?_
    refine qP I (qB 1 I I I (Bu (wX (wZ (wS 0 I I I (Aa (Ac (wX (wZ (wP I (Aa (Ac ?_))))))))))))
    refine A5 I (by((repeat (first|refine A9.same ?_|refine A9.off I ?_));exact tO)) ?_
    exact Al () ⟨I,I,tO⟩ [0,3] (by decide) I
   intro _
   refine zE (zO (zP ?_))
   refine Cl 1 I ?_
   exact A7 tH I (.cell 0 I I I I I) (.tmp I) (([],[]),4) I (hX _ _ (.inr ⟨hn,I,I⟩)) fun W _=>Ar.nil _ _
-- BOXES 9
-- CODE2
def bxK (l:List Ag):Nat→Ag×Ag
 |0=>(Ab l 0,Ab l 0)
 |i+1=>((mnQ (Ab l (i+1)).1 (bxK l i).1.1,mnQ (Ab l (i+1)).2 (bxK l i).1.2),(mxQ (Ab l (i+1)).1 (bxK l i).2.1,mxQ (Ab l (i+1)).2 (bxK l i).2.2))
structure ZA (l:List Ag) (j:Nat):Prop where
 a:AR (Ab l (j+1)).1 (bxK l j).1.1
 b:AR (Ab l (j+1)).2 (bxK l j).1.2
 c:AR (Ab l (j+1)).1 (bxK l j).2.1
 d:AR (Ab l (j+1)).2 (bxK l j).2.2
def H6 (l:List Ag) (k:Nat):Prop:= ∀j,j<k→ZA l j
structure BxI (l:List Ag) (k:Nat) (lo hi:Ag) (s:Bool):Prop where
 okl:okP lo
 okh:okP hi
 val:s=false→(lo,hi)=bxK l k
 st:s=false↔H6 l k
theorem HU {c:Prop} [Decidable c] {x y:Rat} (hx:okQ x) (hy:okQ y):okQ (if c then x else y):=by split<;>assumption
theorem Yi {x y:Rat}:(if (CG x y:Int)<0 then x else y)=mnQ x y:=by
 unfold mnQ
 have h:=JT x y
 rw[decide_eq_decide] at h
 by_cases c:x<y
 ·rw[if_pos (h.2 c),if_pos c]
 ·rw[if_neg (fun g=>c (h.1 g)),if_neg c]
theorem Yy {x y:Rat}:(if 0<(CG x y:Int) then x else y)=mxQ x y:=by
 unfold mxQ
 have h:=I1 x y
 rw[decide_eq_decide] at h
 by_cases c:y<x
 ·rw[if_pos (h.2 c),if_pos c]
 ·rw[if_neg (fun g=>c (h.1 g)),if_neg c]
theorem BxI.next {l:List Ag} {k:Nat} {lo hi:Ag} {s:Bool} (h:BxI l k lo hi s) (hx:okP (Ab l (k+1))) {c1 c2 c3 c4:Int×Bool}
  (e1:c1=kOr s (Ab l (k+1)).1 lo.1) (e2:c2=kOr c1.2 (Ab l (k+1)).2 lo.2) (e3:c3=kOr c2.2 (Ab l (k+1)).1 hi.1) (e4:c4=kOr c3.2 (Ab l (k+1)).2 hi.2):
  BxI l (k+1) (if c1.1<0 then(Ab l (k+1)).1 else lo.1,if c2.1<0 then(Ab l (k+1)).2 else lo.2) (if 0<c3.1 then(Ab l (k+1)).1 else hi.1,if 0<c4.1 then(Ab l (k+1)).2 else hi.2) c4.2:=by
 have key:H6 l (k+1)→H6 l k∧ZA l k:=fun g=>⟨fun j hj=>g j (by omega),g k (by omega)⟩
 have bw:c4.2=false→H6 l (k+1):=fun w=>by
  rw[e4] at w
  have w4:=Iw.1 w
  have w3:=w4.1;rw[e3] at w3;have w3:=Iw.1 w3
  have w2:=w3.1;rw[e2] at w2;have w2:=Iw.1 w2
  have w1:=w2.1;rw[e1] at w1;have w1:=Iw.1 w1
  have hv:=h.val w1.1
  have hl:lo=(bxK l k).1:=congrArg Prod.fst hv
  have hh:hi=(bxK l k).2:=congrArg Prod.snd hv
  intro j hj
  by_cases e:j=k
  ·subst e
   refine⟨?_, ?_, ?_, ?_⟩
   ·rw[←hl];exact w1.2
   ·rw[←hl];exact w2.2
   ·rw[←hh];exact w3.2
   ·rw[←hh];exact w4.2
  ·exact h.st.1 w1.1 j (by omega)
 have fw:H6 l (k+1)→c1=(CG (Ab l (k+1)).1 lo.1,false)∧c2=(CG (Ab l (k+1)).2 lo.2,false)∧c3=(CG (Ab l (k+1)).1 hi.1,false)∧c4=(CG (Ab l (k+1)).2 hi.2,false)∧(lo,hi)=bxK l k:=fun g=>by
  obtain⟨a,b⟩:=key g
  obtain rfl:=h.st.2 a
  have hv:=h.val rfl
  have hl:lo=(bxK l k).1:=congrArg Prod.fst hv
  have hh:hi=(bxK l k).2:=congrArg Prod.snd hv
  have h1:c1=(CG (Ab l (k+1)).1 lo.1,false):=by rw[e1];exact Gg (by rw[hl];exact b.a)
  have h2:c2=(CG (Ab l (k+1)).2 lo.2,false):=by rw[e2,h1];exact Gg (by rw[hl];exact b.b)
  have h3:c3=(CG (Ab l (k+1)).1 hi.1,false):=by rw[e3,h2];exact Gg (by rw[hh];exact b.c)
  exact⟨h1,h2,h3,by rw[e4,h3];exact Gg (by rw[hh];exact b.d),hv⟩
 refine⟨⟨HU hx.1 h.okl.1,HU hx.2 h.okl.2⟩,⟨HU hx.1 h.okh.1,HU hx.2 h.okh.2⟩,fun w=> ?_,⟨bw,fun g=>by rw[(fw g).2.2.2.1]⟩⟩
 obtain⟨h1,h2,h3,h4,hv⟩:=fw (bw w)
 have hl:lo=(bxK l k).1:=congrArg Prod.fst hv
 have hh:hi=(bxK l k).2:=congrArg Prod.snd hv
 rw[h1,h2,h3,h4]
 show((if (CG (Ab l (k+1)).1 lo.1:Int)<0 then _ else _,if (CG (Ab l (k+1)).2 lo.2:Int)<0 then _ else _),(if 0<(CG (Ab l (k+1)).1 hi.1:Int) then _ else _,if 0<(CG (Ab l (k+1)).2 hi.2:Int) then _ else _))=bxK l (k+1)
 rw[Yi,Yi,Yy,Yy,hl,hh]
 rfl
def OM (xs:List PtS) (A B:PtS) (e:Int):Prop:=(∃l,xs=l.map cvS∧IM xs∧((H6 l (l.length-1)∧A=ptS (bxK l (l.length-1)).1∧B=ptS (bxK l (l.length-1)).2∧e=0)∨(¬H6 l (l.length-1)∧A=([],[])∧B=([],[])∧e=4)))∨(¬IM xs∧A=([],[])∧B=([],[])∧e=1)
-- BOXES 9
-- CODE2
theorem Ro (xs:List PtS) (hx:xs.length≤8) (hxs: ∀x∈xs,x.1.length≤604∧x.2.length≤604) (p:Option Addr) (cap:Nat) (hcap:xs.length≤cap) (W:World) (hA:Dm W p xs) (hv:BT W) (ht:AM W):
  Ai Tryz.prog 17 #[slv p xs.length cap] W (fun x:PtS×PtS×Int=> .tuple #[.agg #[str x.1.1,str x.1.2], .agg #[str x.2.1.1,str x.2.1.2], .int .i64 x.2.2]) (fun x=>OM xs x.1 x.2.1 x.2.2) (fun _=>[]):=by
 refine Ae (args:=[slv p xs.length cap]) Tryz.func17 I I I ?_
 refine zA (zB ?_)
 (refine Af Tryz.hZ rfl rfl rfl rfl ?_;intro)
 (refine Af Tryz.hZ rfl rfl rfl rfl ?_;intro)
 refine wP I (Aa ?_)
 rename_i b2 b3
 refine zE (zA (zA (zB (wP I ?_))))
 refine wD (X:=Int) I I (fun W1 hp=>G0 W1 p cap xs (hA.hp hp) (by omega) hxs (hv.hp hp) (ht.hp hp)) ?_
 rintro e1 (⟨rfl,hV⟩|⟨rfl,hV⟩)
 rotate_left
 ·refine wP I (Aa (zE (zA (zB (wP I (wP I (Aa (zE (zR I (zA (zB ?_)))))))))))
  iterate 2 refine Av Tryz.hZ tH I I I I I I I I ?_
  exact wP I (wS 0 I I I (wS 1 I I I (wP I (Aa (zE (zO (zP (Hz tH I (.cell 0 I I I I I) (.cell 1 I I I I I) (.tmp I) (([],[]),([],[]),1) I (.inr ⟨hV,I,I,I⟩) fun W1 hp=>Ar.nil _ _))))))))
 obtain⟨l,hl,hl3,hlq,hcv⟩:=id hV
 have hX: ∀A B e,((H6 l (l.length-1)∧A=ptS (bxK l (l.length-1)).1∧B=ptS (bxK l (l.length-1)).2∧e=0)∨(¬H6 l (l.length-1)∧A=([],[])∧B=([],[])∧e=4))→OM xs A B e:=fun A B e h=> .inl ⟨l,hl,hV,h⟩
 have exl:xs.length=l.length:=by rw[hl,List.length_map]
 have hAl:Cs W p l:=Dm.p (by rw[hl] at hA;exact hA)
 rw[exl] at hx hcap
 rw[exl]
 have h0:0<l.length:=by omega
 have okl: ∀j,okP (Ab l j):=fun j=>hlq _ (AD h0 j)
 clear hl
 refine wP I (Aa (zE (zA (zB (wP I (wP I (Aa (zE (zS I (zI (zE (zA (zB ?_)))))))))))))
 refine Av Tryz.hZ tH I I I I I I I I ?_
 (refine Ax rfl rfl rfl rfl ?_;intro)
 refine wP I (Aa ?_)
 rename_i bC
 obtain⟨g,off,rfl,hrow0⟩:=hAl.at_ h0
 have hrow: ∀i,i<l.length→Ak W g (off+i*2) [str (Ad (Ab l i).1),str (Ad (Ab l i).2)]:=fun i hi=>by rw[AE hi];exact hrow0 i hi
 have hr0:=hrow 0 h0
 obtain⟨x0,hx0⟩: ∃x0,x0=Ab l 0:=⟨_,rfl⟩
 rw[←hx0] at hr0
 have okx0:okP x0:=hx0▸okl 0
 refine zE (Ao ?_)
 refine AL (X:=Nat×Nat) [true,true,true,true,true,true,false,false,false,false] (fun s=>[(0,slv (some ⟨g,off,none⟩) l.length cap),(2,Ah b2),(3,Ah b3),(4, .int .i64 0),(6,Ah bC),(7,Ah s.1),(8,Ah s.2)]) (fun s=>[ptB b2 [] [],ptB b3 [] [],caE bC false,ptB s.1 (Ad x0.1) (Ad x0.2),ptB s.2 (Ad x0.1) (Ad x0.2)])
  4 [ptB b2 [] [],ptB b3 [] [],caE bC false] Tryz.mixed (by kernel_rfl) ?_ ?_
 ·refine qP I (qI I I (by decide) (by omega) (qL 0 I I (fun W1 hp=>hr0.hp hp) I (qP I (qI I I (by decide) (by omega) (qL 0 I I (fun W1 hp=>hr0.hp hp) I (Bu (wX ?_)))))))
  refine RS.cons ?_ (RS.cons ?_ (RS.nil))
  ·refine Af Tryz.hZ rfl rfl rfl rfl ?_;intro b7
   refine Aa (Ac (wX (wZ ?_)))
   refine Af Tryz.hZ rfl rfl rfl rfl ?_;intro b8
   refine Aa (Ac (wX (wZ (wS 3 I I I (Aa (Ac (wX (wZ (wS 4 I I I (Aa (Ac ?_)))))))))))
   refine A5 I (by((repeat (first|refine A9.same ?_|refine A9.off I ?_));exact tO)) ?_
   exact Al (b7,b8) ⟨I,I,I,I,I,I,I,tO⟩ [0,1,2,3,4] (by decide) I
  ·refine Af Tryz.hZ rfl rfl rfl rfl ?_;intro b8
   refine Aa (Ac (wX (wZ ?_)))
   refine Af Tryz.hZ rfl rfl rfl rfl ?_;intro b7
   refine Aa (Ac (wX (wZ (wS 4 I I I (Aa (Ac (wX (wZ (wS 3 I I I (Aa (Ac ?_)))))))))))
   refine A5 I (by((repeat (first|refine A9.same ?_|refine A9.off I ?_));exact tO)) ?_
   exact Al (b7,b8) ⟨I,I,I,I,I,I,I,tO⟩ [0,1,2,4,3] (by decide) I
 rintro⟨b7,b8⟩
 refine zE (zA (zA (zB (wP I ?_))))
 refine Ct 1 tH I I I I I I I I (by omega) hcap ?_
 refine Aj 27 (.slice (some ⟨g,off+1*2,none⟩) (l.length-1) (cap-1)) I (by rw[if_neg (by omega)]) ?_
 refine wP I (wP I (Aa (zE (zH ?_))))
 refine A8 (X:=Nat×Ag×Ag×Bool) (fun s=>[(2,Ah b2),(3,Ah b3),(4, .int .i64 0),(6,Ah bC),(7,Ah b7),(8,Ah b8),(27, .slice (some ⟨g,off+1*2,none⟩) (l.length-1) (cap-1)),(28, .int .i64 ((l.length-1:Nat):Int)),(29, .int .i64 ((s.1:Nat):Int))])
  (fun s=>[ptB b2 [] [],ptB b3 [] [],caE bC s.2.2.2,ptB b7 (Ad s.2.1.1) (Ad s.2.1.2),ptB b8 (Ad s.2.2.1.1) (Ad s.2.2.1.2)]) (fun s=>s.1≤l.length-1∧BxI l s.1 s.2.1 s.2.2.1 s.2.2.2) (fun s=>l.length-1-s.1) (0,x0,x0,false) ⟨Nat.zero_le _,okx0,okx0,fun _=>by rw[hx0];rfl,⟨fun _ j hj=>absurd hj (Nat.not_lt_zero _),fun _=>rfl⟩⟩ ⟨rfl,rfl,rfl,rfl,rfl,rfl,rfl,rfl,rfl,trivial⟩ [] rfl ?_
 rintro⟨i,lo,hi,s⟩ ⟨hi1,hB⟩
 have hi1:i≤l.length-1:=hi1
 have hB:BxI l i lo hi s:=hB
 refine zA (zB (wP I ?_))
 by_cases hlt:i<l.length-1
 ·refine wU 30 true I (dT (by show((i:Nat):Int)<((l.length-1:Nat):Int);omega)) (Aa (zE (zA (zR I (zI (zE (zA (zH (zA (zB ?_))))))))))
  have hr:Ak W g (off+1*2+i*2) [str (Ad (Ab l (i+1)).1),str (Ad (Ab l (i+1)).2)]:=by
   have:=hrow (i+1) (by omega)
   rwa [show off+(i+1)*2=off+1*2+i*2 by omega] at this
  have hxo:=okl (i+1)
  obtain⟨c1,e1⟩: ∃c,c=kOr s (Ab l (i+1)).1 lo.1:=⟨_,rfl⟩
  obtain⟨c2,e2⟩: ∃c,c=kOr c1.2 (Ab l (i+1)).2 lo.2:=⟨_,rfl⟩
  obtain⟨c3,e3⟩: ∃c,c=kOr c2.2 (Ab l (i+1)).1 hi.1:=⟨_,rfl⟩
  obtain⟨c4,e4⟩: ∃c,c=kOr c3.2 (Ab l (i+1)).2 hi.2:=⟨_,rfl⟩
  have hBn:=hB.next hxo e1 e2 e3 e4
  have lq:=hB.okl
  have hq:=hB.okh
  generalize Ab l (i+1)=x at hr hBn hxo e1 e2 e3 e4
  have k1: ∀W1,KcP bC s W1→EM 53 [Ah bC,str (Ad x.1),str (Ad lo.1)] bC c1 W1:=fun W1 h=>by rw[e1];exact C3 bC _ _ _ hxo.1 lq.1 W1 h
  have k2: ∀W1,KcP bC c1.2 W1→EM 53 [Ah bC,str (Ad x.2),str (Ad lo.2)] bC c2 W1:=fun W1 h=>by rw[e2];exact C3 bC _ _ _ hxo.2 lq.2 W1 h
  have k3: ∀W1,KcP bC c2.2 W1→EM 53 [Ah bC,str (Ad x.1),str (Ad hi.1)] bC c3 W1:=fun W1 h=>by rw[e3];exact C3 bC _ _ _ hxo.1 hq.1 W1 h
  have k4: ∀W1,KcP bC c3.2 W1→EM 53 [Ah bC,str (Ad x.2),str (Ad hi.2)] bC c4 W1:=fun W1 h=>by rw[e4];exact C3 bC _ _ _ hxo.2 hq.2 W1 h
  clear e1 e2 e3 e4
  obtain⟨L1,d1⟩: ∃q,q=if c1.1<0 then x.1 else lo.1:=⟨_,rfl⟩
  obtain⟨L2,d2⟩: ∃q,q=if c2.1<0 then x.2 else lo.2:=⟨_,rfl⟩
  obtain⟨H1,d3⟩: ∃q,q=if 0<c3.1 then x.1 else hi.1:=⟨_,rfl⟩
  obtain⟨H2,d4⟩: ∃q,q=if 0<c4.1 then x.2 else hi.2:=⟨_,rfl⟩
  rw[←d1, ←d2, ←d3, ←d4] at hBn
  refine wI I I (by show(0:Int)≤((i:Nat):Int);omega) (by show((i:Nat):Int)<((l.length-1:Nat):Int);omega) (wL 0 I I (fun W1 hp=>hr.hp hp) I ?_)
  (refine Af Tryz.hZ rfl rfl rfl rfl ?_;intro)
  refine wS 5 I I I (Aa ?_)
  rename_i b10
  refine zE (zA (zA (zB (wP I (wP I (wB 5 I I I (wP I (wB 3 I I I ?_))))))))
  refine AO 2 bC I I I I I I (by kernel_rfl) I (fun W1 hp=>k1 W1 (KcP.of hp 2 I hv ht)) ?_
  refine wP I ?_
  refine Aj 39 (.bool (decide (c1.1<0))) I I ?_
  refine Aa (AP ?_)
  refine AJ (X:=Unit) (fun _=>[(2,Ah b2),(3,Ah b3),(4, .int .i64 0),(6,Ah bC),(7,Ah b7),(8,Ah b8),(10,Ah b10),(27, .slice (some ⟨g,off+1*2,none⟩) (l.length-1) (cap-1)),(28, .int .i64 ((l.length-1:Nat):Int)),(29, .int .i64 ((i:Nat):Int))]) (fun _=>[ptB b2 [] [],ptB b3 [] [],caE bC c1.2,ptB b7 (Ad L1) (Ad lo.2),ptB b8 (Ad hi.1) (Ad hi.2),ptB b10 (Ad x.1) (Ad x.2)]) (fun _=>True) ?_ ?_
  ·refine A0 I (fun hc=> ?_) (fun hc=> ?_)
   ·rw[if_pos (of_decide_eq_true hc)] at d1
    subst d1
    exact zB (wP I (wB 5 I I I (wP I (wS 3 I I I (Aa (An () tO ⟨I,I,I,I,I,I,I,I,I,I,tO⟩ [] I))))))
   ·rw[if_neg (of_decide_eq_false hc)] at d1
    subst d1
    exact zI (An () tO ⟨I,I,I,I,I,I,I,I,I,I,tO⟩ [] I)
  intro _ _
  refine zA (zA (zB (wP I (wP I (wB 5 I I I (wP I (wB 3 I I I ?_)))))))
  refine AO 2 bC I I I I I I (by kernel_rfl) I (fun W1 hp=>k2 W1 (KcP.of hp 2 I hv ht)) ?_
  refine wP I ?_
  refine Aj 49 (.bool (decide (c2.1<0))) I I ?_
  refine Aa (AP ?_)
  refine AJ (X:=Unit) (fun _=>[(2,Ah b2),(3,Ah b3),(4, .int .i64 0),(6,Ah bC),(7,Ah b7),(8,Ah b8),(10,Ah b10),(27, .slice (some ⟨g,off+1*2,none⟩) (l.length-1) (cap-1)),(28, .int .i64 ((l.length-1:Nat):Int)),(29, .int .i64 ((i:Nat):Int))]) (fun _=>[ptB b2 [] [],ptB b3 [] [],caE bC c2.2,ptB b7 (Ad L1) (Ad L2),ptB b8 (Ad hi.1) (Ad hi.2),ptB b10 (Ad x.1) (Ad x.2)]) (fun _=>True) ?_ ?_
  ·refine A0 I (fun hc=> ?_) (fun hc=> ?_)
   ·rw[if_pos (of_decide_eq_true hc)] at d2
    subst d2
    exact zB (wP I (wB 5 I I I (wP I (wS 3 I I I (Aa (An () tO ⟨I,I,I,I,I,I,I,I,I,I,tO⟩ [] I))))))
   ·rw[if_neg (of_decide_eq_false hc)] at d2
    subst d2
    exact zI (An () tO ⟨I,I,I,I,I,I,I,I,I,I,tO⟩ [] I)
  intro _ _
  refine zA (zA (zB (wP I (wP I (wB 5 I I I (wP I (wB 4 I I I ?_)))))))
  refine AO 2 bC I I I I I I (by kernel_rfl) I (fun W1 hp=>k3 W1 (KcP.of hp 2 I hv ht)) ?_
  refine wP I ?_
  refine Aj 59 (.bool (decide (0<c3.1))) I I ?_
  refine Aa (AP ?_)
  refine AJ (X:=Unit) (fun _=>[(2,Ah b2),(3,Ah b3),(4, .int .i64 0),(6,Ah bC),(7,Ah b7),(8,Ah b8),(10,Ah b10),(27, .slice (some ⟨g,off+1*2,none⟩) (l.length-1) (cap-1)),(28, .int .i64 ((l.length-1:Nat):Int)),(29, .int .i64 ((i:Nat):Int))]) (fun _=>[ptB b2 [] [],ptB b3 [] [],caE bC c3.2,ptB b7 (Ad L1) (Ad L2),ptB b8 (Ad H1) (Ad hi.2),ptB b10 (Ad x.1) (Ad x.2)]) (fun _=>True) ?_ ?_
  ·refine A0 I (fun hc=> ?_) (fun hc=> ?_)
   ·rw[if_pos (of_decide_eq_true hc)] at d3
    subst d3
    exact zB (wP I (wB 5 I I I (wP I (wS 4 I I I (Aa (An () tO ⟨I,I,I,I,I,I,I,I,I,I,tO⟩ [] I))))))
   ·rw[if_neg (of_decide_eq_false hc)] at d3
    subst d3
    exact zI (An () tO ⟨I,I,I,I,I,I,I,I,I,I,tO⟩ [] I)
  intro _ _
  refine zA (zB (wP I (wP I (wB 5 I I I (wP I (wB 4 I I I ?_))))))
  refine AO 2 bC I I I I I I (by kernel_rfl) I (fun W1 hp=>k4 W1 (KcP.of hp 2 I hv ht)) ?_
  refine wP I ?_
  refine Aj 69 (.bool (decide (0<c4.1))) I I ?_
  refine Aa (zE ?_)
  refine A0 I (fun hc=> ?_) (fun hc=> ?_)
  ·rw[if_pos (of_decide_eq_true hc)] at d4
   exact zB (wP I (wB 5 I I I (wP I (wS 4 I I I (Aa (zN (zE (zB (wP I (wV 73 ((i+1:Nat):Int) I (As (by omega)) (wP I (Aa (Ay (i+1,(L1,L2),(H1,H2),c4.2) ⟨hlt,hBn⟩ (by show l.length-1-(i+1)<l.length-1-i;omega) ⟨I,I,I,I,I,I,I,I,I,tO⟩ [_] (by rw[d4];rfl))))))))))))))
  ·rw[if_neg (of_decide_eq_false hc)] at d4
   exact zI (zN (zE (zB (wP I (wV 73 ((i+1:Nat):Int) I (As (by omega)) (wP I (Aa (Ay (i+1,(L1,L2),(H1,H2),c4.2) ⟨hlt,hBn⟩ (by show l.length-1-(i+1)<l.length-1-i;omega) ⟨I,I,I,I,I,I,I,I,I,tO⟩ [_] (by rw[d4];rfl)))))))))
 ·obtain rfl:i=l.length-1:=by omega
  refine wU 30 false I (dF (by show¬(((l.length-1:Nat):Int)<((l.length-1:Nat):Int));omega)) (Aa (zE (zA (zS I (zJ (zK (zK (zL (zE (zA (zA (zB ?_))))))))))))
  cases s with
  |false=>
   have hok:=hB.st.1 rfl
   have hv1:=hB.val rfl
   have e1:lo=(bxK l (l.length-1)).1:=congrArg Prod.fst hv1
   have e2:hi=(bxK l (l.length-1)).2:=congrArg Prod.snd hv1
   refine wP I ?_
   refine AH I I I I ?_
   refine wP I (wB 2 I I I (wP I (Aa (zE (zS I (zI (zE (Ao ?_))))))))
   refine AL (X:=Unit) [true,true,false,false,false] (fun _=>[(2,Ah b2),(3,Ah b3),(4, .int .i64 0)]) (fun _=>[ptB b2 (Ad lo.1) (Ad lo.2),ptB b3 (Ad hi.1) (Ad hi.2)])
    3 [⟨b2,35,[str [],str []],false,none⟩,⟨b3,35,[str [],str []],false,none⟩,caE bC false,ptB b7 (Ad lo.1) (Ad lo.2),ptB b8 (Ad hi.1) (Ad hi.2)] Tryz.mixed (by kernel_rfl) ?_ ?_
   ·refine qB 3 I I I (qB 4 I I I (Bu (wX (wZ (wS 0 I I I (Aa (Ac (wX (wZ (wS 1 I I I (Aa (Ac (wX ?_)))))))))))))
    refine wZ (wP I (Aa (Ac ?_)))
    refine A5 I (by((repeat (first|refine A9.same ?_|refine A9.off I ?_));exact tO)) ?_
    exact Al () ⟨I,I,I,tO⟩ [0,1] (by decide) I
   intro _
   exact zE (zO (Hz tH I (.cell 0 I I I I I) (.cell 1 I I I I I) (.tmp I) ((Ad lo.1,Ad lo.2),(Ad hi.1,Ad hi.2),0) I (hX _ _ _ (.inl ⟨hok,by rw[e1],by rw[e2],I⟩)) fun W _=>Ar.nil _ _))
  |true=>
   have hn: ¬H6 l (l.length-1):=fun h=>absurd (hB.st.2 h) (by decide)
   refine wP I ?_
   refine AH I I I I ?_
   refine wP I (wB 2 I I I (wP I (Aa (zE (zR I (Ao ?_))))))
   refine AL (X:=Unit) [true,true,true,true,true,true,false,false,false] (fun _=>[(2,Ah b2),(3,Ah b3),(4, .int .i64 4)]) (fun _=>[ptB b2 [] [],ptB b3 [] []])
    3 [⟨b2,35,[str [],str []],false,none⟩,⟨b3,35,[str [],str []],false,none⟩,caE bC true] Tryz.mixed (by kernel_rfl) ?_ ?_
   ·refine DE Tryz.hZ tH I I I I I I I I ?_
    refine DE Tryz.hZ tH I I I I I I I I ?_
    refine qP I ?_
    refine Gs I I I I ?_
    refine qP I (qB 2 I I I (Bu (wX (wZ (wS 0 I I I (Aa (Ac (wX (wZ (wS 1 I I I (Aa (Ac (wX ?_)))))))))))))
    refine wZ (wP I (Aa (Ac ?_)))
    refine A5 I (by((repeat (first|refine A9.same ?_|refine A9.off I ?_));exact tO)) ?_
    exact Al () ⟨I,I,I,tO⟩ [0,1] (by decide) I
   intro _
   exact zE (zO (zP (Hz tH I (.cell 0 I I I I I) (.cell 1 I I I I I) (.tmp I) (([],[]),([],[]),4) I (hX _ _ _ (.inr ⟨hn,I,I,I⟩)) fun W _=>Ar.nil _ _)))
-- BOXES 9
-- CODE2
def dfO (p q:Ag):Option Rat:=Bq (Bf (some p.1) (some q.2)) (Bf (some q.1) (some p.2))
theorem Yj {p q:Ag} (h:MV p q):dfO p q=some (Cx p q):=by
 unfold dfO
 rw[show Bf (some p.1) (some q.2)=some (p.1*q.2) from Dk h.a,show Bf (some q.1) (some p.2)=some (q.1*p.2) from Dk h.b]
 exact Dk h.c
theorem Y0 {p q:Ag} (h: ¬MV p q):dfO p q=none:=by
 unfold dfO
 by_cases a:Cf p.1 q.2
 ·rw[show Bf (some p.1) (some q.2)=some (p.1*q.2) from Dk a]
  by_cases b:Cf q.1 p.2
  ·rw[show Bf (some q.1) (some p.2)=some (q.1*p.2) from Dk b]
   exact EL fun c=>h ⟨a,b,c⟩
  ·rw[show Bf (some q.1) (some p.2)=none from EL b];rfl
 ·rw[show Bf (some p.1) (some q.2)=none from EL a,UF]
theorem HS (p q:Ag) (hp:okP p) (hq:okP q) (W:World) (ht:AM W):
  Ai Tryz.prog 88 #[cvV p,cvV q] W (fun _:Unit=>nmV (dfO p q)) (fun _=>True) (fun _=>[]):=by
 obtain⟨s,e,vd,_⟩:=DY (dfO p q)
 rw[vd]
 refine Ae (args:=[cvV p,cvV q]) Tryz.func88 I I I ?_
 refine zA (zB ?_)
 (refine Ax rfl rfl rfl rfl ?_;intro)
 (refine Ax rfl rfl rfl rfl ?_;intro)
 (refine Af Tryz.hZ rfl rfl rfl rfl ?_;intro)
 refine Aa ?_
 rename_i b2 b3 b4
 refine zE (Ao ?_)
 refine AL (X:=Unit) [true,true,true,true,true,true,true,true,true,true,true,true,true,true,true,false] (fun _=>[(4,Ah b4)]) (fun _=>[nmR b4 s e])
  1 [ptB b2 (Ad p.1) (Ad p.2),ptB b3 (Ad q.1) (Ad q.2),nmR b4 [] 0] Tryz.mixed (by kernel_rfl) ?_ ?_
 ·refine qP I (qB 0 I I I (qC I I (fun W hp=>B3 p.1 W) (qP I (qB 1 I I I (qC I I (fun W hp=>B3 q.2 W) (qC I I (fun W h=>Df (some p.1) (some q.2) hp.1 hq.2 W (ht.hp h)) (qP I (qB 1 I I I (qC I I (fun W hp=>B3 q.1 W) (qP I (qB 0 I I I (qC I I (fun W hp=>B3 p.2 W) (qC I I (fun W h=>Df (some q.1) (some p.2) hq.1 hp.2 W (ht.hp h)) ?_)))))))))))))
  refine qC I I (fun W h=>(E3 (Bf (some p.1) (some q.2)) (Bf (some q.1) (some p.2)) (D5 _ _) (D5 _ _) W (ht.hp h)).cast vd) (Bu (wX (wZ (wS 2 I I I (Aa (Ac ?_))))))
  refine AF I (by kernel_rfl) ?_
  exact Al () ⟨I,tO⟩ [2] (by decide) I
 intro _
 exact zE (zO (Az tH I (.cell 0 I I I I I) () I tO fun W _=>Ar.nil _ _))
def ArO (l:List Ag) (k:Nat) (o:Option Rat):Prop:=(o=some (crK l k)∧K1 l k)∨(o=none∧ ¬K1 l k)
theorem YN {l:List Ag}: ∀ {k:Nat},K1 l k→okQ (crK l k)
 |0,_=>Kc
 |k+1,h=>by rw[GJ];exact Kn (h k (by omega)).2
theorem ArO.ok {l:List Ag} {k:Nat} {o:Option Rat} (h:ArO l k o):okO o:=by
 rcases h with⟨rfl,h⟩|⟨rfl,_⟩
 ·exact YN h
 ·trivial
theorem OY (p q:Ag):okO (dfO p q):=GR _ _
theorem ArO.next {l:List Ag} {k:Nat} {o:Option Rat} (h:ArO l k o):ArO l (k+1) (En o (dfO (Ab l k) (Ab l (k+1)))):=by
 have key:K1 l (k+1)→K1 l k∧MV (Ab l k) (Ab l (k+1))∧BL (crK l k) (Cx (Ab l k) (Ab l (k+1))):=fun g=>⟨fun j hj=>g j (by omega),g k (by omega)⟩
 rcases h with⟨rfl,h⟩|⟨rfl,h⟩
 ·by_cases a:MV (Ab l k) (Ab l (k+1))
  ·rw[Yj a]
   by_cases b:BL (crK l k) (Cx (Ab l k) (Ab l (k+1)))
   ·refine .inl ⟨by rw[GJ];exact Dk b,fun j hj=> ?_⟩
    by_cases e:j=k
    ·subst e;exact⟨a,b⟩
    ·exact h j (by omega)
   ·exact .inr ⟨EL b,fun g=>b (key g).2.2⟩
  ·exact .inr ⟨by rw[Y0 a];rfl,fun g=>a (key g).2.1⟩
 ·exact .inr ⟨Rz _,fun g=>h (key g).1⟩
theorem NR (xs:List PtS) (hx:xs.length≤8) (hxs: ∀x∈xs,x.1.length≤604∧x.2.length≤604) (p:Option Addr) (cap:Nat) (W:World) (hA:Dm W p xs) (ht:AM W):
  Ai Tryz.prog 34 #[slv p xs.length cap] W (fun x:List UInt8×Int=> .tuple #[str x.1, .int .i64 x.2]) (fun x=>Lg xs x.1 x.2) (fun _=>[]):=by
 refine Ae (args:=[slv p xs.length cap]) Tryz.func34 I I I ?_
 refine zA (zB (wP I (wP I (Aa (zE (zA (zA (zB (wP I ?_)))))))))
 refine wD (X:=Int) I I (fun W1 hp=>HX W1 p cap xs (hA.hp hp) (by omega) hxs (ht.hp hp)) ?_
 intro e1 he1
 have he1:e1=0↔IM xs:=he1
 refine wP I ?_
 by_cases h1:e1=0
 rotate_left
 ·exact wU 8 true I (bne_iff_ne.2 h1) (Aa (zE (zR I (zA (zB (wP I (wP I (Aa (zE (zO (zP (A7 tH I (.tmp I) (.tmp I) ([],1) I (.inr ⟨fun h=>h1 (he1.2 h),I,I⟩) fun W1 hp=>Ar.nil _ _))))))))))))
 have hV:=he1.1 h1
 obtain⟨l,hl,hl3,hlq,_⟩:=id hV
 have hX: ∀s e,(NQ l∧s=Ad (AY l/2)∧e=0)∨(¬NQ l∧s=[]∧e=4)→Lg xs s e:=fun s e h=> .inl ⟨l,hl,hV,h⟩
 have exl:xs.length=l.length:=by rw[hl,List.length_map]
 have hAl:Cs W p l:=Dm.p (by rw[hl] at hA;exact hA)
 rw[exl] at hx
 rw[exl]
 have hn0:0<l.length:=by omega
 have hzz:(l.length:Int)≠0:=by omega
 have okl: ∀j,okP (Ab l j):=fun j=>hlq _ (AD (by omega) j)
 obtain⟨g,off,rfl,hrow0⟩:=hAl.at_ hn0
 have hrow: ∀j,j<l.length→Ak W g (off+j*2) [str (Ad (Ab l j).1),str (Ad (Ab l j).2)]:=fun j hj=>by
  rw[AE hj];exact hrow0 j hj
 clear hl
 refine wU 8 false I (bne_eq_false_iff_eq.2 h1) (Aa (zE (zS I (zI (zE (zA (zB (wC I I (fun W1 hp=>by have h1:=B3 0 W1;rw[CW] at h1;exact h1) ?_))))))))
 (refine Af Tryz.hZ rfl rfl rfl rfl ?_;intro)
 refine wS 0 I I I (Aa ?_)
 rename_i b4
 refine zE (zA (zA (zB (wP I (Aa (zE (zH ?_)))))))
 refine A8 (X:=Nat×List UInt8×Int) (fun x=>[(0,slv (some ⟨g,off,none⟩) l.length cap),(4,Ah b4),(5, .int .i64 (x.1:Nat))]) (fun x=>[nmR b4 x.2.1 x.2.2])
  (fun x=>x.1≤l.length∧ ∃o,nmV o= .agg #[str x.2.1, .int .i64 x.2.2]∧ArO l x.1 o) (fun x=>l.length-x.1) (0,Ad 0,0) ⟨Nat.zero_le _,some 0,rfl, .inl ⟨rfl,fun j hj=>absurd hj (Nat.not_lt_zero _)⟩⟩ ⟨rfl,rfl,rfl,trivial⟩ [] rfl ?_
 rintro⟨k,s,e⟩ ⟨hk0,o,vo,hO⟩
 have hk0:k≤l.length:=hk0
 have vo:nmV o= .agg #[str s, .int .i64 e]:=vo
 have hO:ArO l k o:=hO
 refine zA (zA (zB (wP I ?_)))
 refine Aj 10 (.int .i64 (k:Nat)) I I ?_
 refine wP I (wP I (wP I ?_))
 by_cases hk:k<l.length
 rotate_left
 ·obtain rfl:k=l.length:=by omega
  refine wU 13 false I (dF (by omega)) (Aa ?_)
  obtain⟨s2,e2,v2,c2⟩:=DY (GL o (some 2))
  refine zE (zS I (zJ (zK (zK (zL (zE (Ao ?_)))))))
  refine AL (X:=Unit) [true,true,true,false] (fun _=>[(4,Ah b4)]) (fun _=>[nmR b4 s2 e2])
   1 [nmR b4 s e] Tryz.mixed (by kernel_rfl) ?_ ?_
  ·refine qB 0 rfl rfl rfl (qC rfl rfl (fun W1 hp=>by have h1:=B3 2 W1;rw[PF] at h1;exact h1) (qC rfl rfl (fun W1 h=>by have h1:=Gu o (some 2) hO.ok Yu (fun q hq=>by cases hq;decide) W1 (ht.hp h);rw[vo] at h1;exact h1.cast v2) (Bu (wX (wZ (wS 0 rfl rfl rfl (Aa (Ac ?_))))))))
   refine AF I (by kernel_rfl) ?_
   exact Al () ⟨I,tO⟩ [0] (by decide) I
  intro _
  refine zE (zA (zA (zB ?_)))
  rcases c2 with⟨hc,rfl,rfl⟩|⟨x,hc,rfl,rfl⟩
  ·have hno: ¬NQ l:=fun h=>by
    rcases hO with⟨rfl,_⟩|⟨_,c⟩
    ·rw[show GL (some (crK l l.length)) (some 2)=some (crK l l.length/2) from Dk h.2] at hc
     cases hc
    ·exact c h.1
   refine wP I (wB 0 I I I (wP I (Aa (zE (zR I (zA (zU (qP I (qB 0 I I I (qP I (qP I (AQ (Aa ?_)))))))))))))
   exact zE (zO (zP (A7 tH I (.tmp I) (.tmp I) ([],4) I (hX _ _ (.inr ⟨hno,I,I⟩)) fun W1 hp=>Ar.nil _ _)))
  ·obtain⟨hok,rfl⟩:NQ l∧x=AY l/2:=by
    rcases hO with⟨rfl,h⟩|⟨rfl,_⟩
    ·by_cases d:AR (crK l l.length) 2
     ·rw[show GL (some (crK l l.length)) (some 2)=some (crK l l.length/2) from Dk d] at hc
      cases hc
      exact⟨⟨h,d⟩,I⟩
     ·rw[show GL (some (crK l l.length)) (some 2)=none from EL d] at hc
      cases hc
    ·cases hc
   refine wP I (wB 0 I I I (wP I (Aa (zE (zS I (zI (zE (zA (zB (wP I (wB 0 I I I (wP I (wP I ?_)))))))))))))
   exact Aa (zE (zO (A7 tH I (.tmp I) (.tmp I) (Ad (AY l/2),0) I (hX _ _ (.inl ⟨hok,I,I⟩)) fun W1 hp=>Ar.nil _ _)))
 refine wU 13 true I (dT (by omega)) (Aa ?_)
 have hk2:(k+1)%l.length<l.length:=Nat.mod_lt _ hn0
 have hr1:=hrow k hk
 have hr2:=hrow _ hk2
 rw[Bn] at hr2
 have hn:=hO.next
 obtain⟨s1,e1',v1,_⟩:=DY (En o (dfO (Ab l k) (Ab l (k+1))))
 refine zE (zR I (zI (zE (Ao (B8 ?_)))))
 refine AL (X:=Unit) [true,true,true,true,true,true,true,true,true,true,true,true,true,true,true,false] (fun _=>[(0,slv (some ⟨g,off,none⟩) l.length cap),(4,Ah b4),(5, .int .i64 (k:Nat))]) (fun _=>[nmR b4 s1 e1'])
  1 [nmR b4 s e] Tryz.mixed (by kernel_rfl) ?_ ?_
 ·refine qB 0 I I I (qP I (qP I ?_))
  refine CU 18 (.int .i64 (k:Nat)) I I ?_
  refine qJ ?_
  refine qL 0 I I (fun W1 hp=>hr1.hp hp) I (qP I (qP I (qP I (qV 23 ((k+1:Nat):Int) I (As (by omega)) (qP I (qP I ?_))))))
  refine Ed I I I I I hzz ?_
  refine CU 26 (.int .i64 (((k+1)%l.length:Nat):Int)) I I ?_
  refine qJ ?_
  refine qL 0 I I (fun W1 hp=>hr2.hp hp) I (qC I I (fun W1 h=>HS (Ab l k) (Ab l (k+1)) (okl _) (okl _) W1 (ht.hp h)) (qC I I (fun W1 h=>by have h1:=Et o (dfO (Ab l k) (Ab l (k+1))) hO.ok (OY _ _) W1 (ht.hp h);rw[vo] at h1;exact h1.cast v1) (Bu (wX (wZ (wS 0 I I I (Aa (Ac ?_))))))))
  refine AF I (by kernel_rfl) ?_
  exact Al () ⟨I,I,I,tO⟩ [0] (by decide) I
 intro _
 exact zN (zE (zB (wP I (wP I (wV 15 ((k+1:Nat):Int) I (As (by omega)) (wP I (Aa (Ay (k+1,s1,e1') ⟨hk,_,v1,hn⟩ (by show l.length-(k+1)<l.length-k;omega) ⟨I,I,I,tO⟩ [] I))))))))
-- BOXES 12
-- CODE2
def moG (F:Ag→Rat) (l:List Ag) (k:Nat):Rat:=DR (fun i=>(F (Ab l i)+F (Ab l (i+1)))*Cx (Ab l i) (Ab l (i+1))) k
theorem Qr (F:Ag→Rat) (l:List Ag) (k:Nat):moG F l (k+1)=moG F l k+(F (Ab l k)+F (Ab l (k+1)))*Cx (Ab l k) (Ab l (k+1)):=rfl
structure ZG (F:Ag→Rat) (l:List Ag) (j:Nat):Prop where
 d:MV (Ab l j) (Ab l (j+1))
 x1:BL (F (Ab l j)) (F (Ab l (j+1)))
 x2:Cf (F (Ab l j)+F (Ab l (j+1))) (Cx (Ab l j) (Ab l (j+1)))
 x3:BL (moG F l j) ((F (Ab l j)+F (Ab l (j+1)))*Cx (Ab l j) (Ab l (j+1)))
def okG (F:Ag→Rat) (l:List Ag) (k:Nat):Prop:= ∀j,j<k→ZG F l j
def MoO (F:Ag→Rat) (l:List Ag) (k:Nat) (o:Option Rat):Prop:=(o=some (moG F l k)∧okG F l k)∨(o=none∧ ¬okG F l k)
theorem Z1 {F:Ag→Rat} {l:List Ag}: ∀ {k:Nat},okG F l k→okQ (moG F l k)
 |0,_=>Kc
 |k+1,h=>by rw[Qr];exact Kn (h k (by omega)).x3
theorem MoO.ok {F:Ag→Rat} {l:List Ag} {k:Nat} {o:Option Rat} (h:MoO F l k o):okO o:=by
 rcases h with⟨rfl,h⟩|⟨rfl,_⟩
 ·exact Z1 h
 ·trivial
theorem MoO.next {F:Ag→Rat} {l:List Ag} {k:Nat} {o:Option Rat} (h:MoO F l k o):MoO F l (k+1) (En o (Bf (En (some (F (Ab l k))) (some (F (Ab l (k+1))))) (dfO (Ab l k) (Ab l (k+1))))):=by
 have key:okG F l (k+1)→okG F l k∧ZG F l k:=fun g=>⟨fun j hj=>g j (by omega),g k (by omega)⟩
 rcases h with⟨rfl,h⟩|⟨rfl,h⟩
 ·by_cases a:MV (Ab l k) (Ab l (k+1))
  ·rw[Yj a]
   by_cases b:BL (F (Ab l k)) (F (Ab l (k+1)))
   ·rw[show En (some (F (Ab l k))) (some (F (Ab l (k+1))))=some (F (Ab l k)+F (Ab l (k+1))) from Dk b]
    by_cases c:Cf (F (Ab l k)+F (Ab l (k+1))) (Cx (Ab l k) (Ab l (k+1)))
    ·rw[show Bf (some (F (Ab l k)+F (Ab l (k+1)))) (some (Cx (Ab l k) (Ab l (k+1))))=some ((F (Ab l k)+F (Ab l (k+1)))*Cx (Ab l k) (Ab l (k+1))) from Dk c]
     by_cases d:BL (moG F l k) ((F (Ab l k)+F (Ab l (k+1)))*Cx (Ab l k) (Ab l (k+1)))
     ·refine .inl ⟨by rw[Qr];exact Dk d,fun j hj=> ?_⟩
      by_cases e:j=k
      ·subst e;exact⟨a,b,c,d⟩
      ·exact h j (by omega)
     ·exact .inr ⟨EL d,fun g=>d (key g).2.x3⟩
    ·exact .inr ⟨by rw[show Bf (some (F (Ab l k)+F (Ab l (k+1)))) (some (Cx (Ab l k) (Ab l (k+1))))=none from EL c];rfl,fun g=>c (key g).2.x2⟩
   ·exact .inr ⟨by rw[show En (some (F (Ab l k))) (some (F (Ab l (k+1))))=none from EL b];rfl,fun g=>b (key g).2.x1⟩
  ·exact .inr ⟨by rw[Y0 a,K9];rfl,fun g=>a (key g).2.d⟩
 ·exact .inr ⟨Rz _,fun g=>h (key g).1⟩
theorem JO {l:List Ag} {k:Nat}:S3 l k↔K1 l k∧okG (·.1) l k∧okG (·.2) l k:=
 ⟨fun h=>⟨fun j hj=>⟨(h j hj).d,(h j hj).s⟩,fun j hj=>⟨(h j hj).d,(h j hj).x1,(h j hj).x2,(h j hj).x3⟩,fun j hj=>⟨(h j hj).d,(h j hj).y1,(h j hj).y2,(h j hj).y3⟩⟩,
 fun h j hj=>⟨(h.1 j hj).1,(h.2.1 j hj).x1,(h.2.1 j hj).x2,(h.2.1 j hj).x3,(h.2.2 j hj).x1,(h.2.2 j hj).x2,(h.2.2 j hj).x3,(h.1 j hj).2⟩⟩
theorem ZL {l:List Ag} {o ox oy:Option Rat} (h:ArO l l.length o) (hx:MoO (·.1) l l.length ox) (hy:MoO (·.2) l l.length oy):
  (KS l∧GL ox (Bf (some 3) o)=some (HC l).1∧GL oy (Bf (some 3) o)=some (HC l).2)∨(¬KS l∧(GL ox (Bf (some 3) o)=none∨GL oy (Bf (some 3) o)=none)):=by
 rcases h with⟨rfl,h⟩|⟨rfl,h⟩
 rotate_left
 ·exact .inr ⟨fun g=>h (JO.1 g.k).1, .inl (by rw[K9,Q9])⟩
 have ec:crK l l.length=AY l:=rfl
 rw[ec]
 by_cases m:Cf 3 (AY l)
 rotate_left
 ·exact .inr ⟨fun g=>m g.m, .inl (by rw[show Bf (some 3) (some (AY l))=none from EL m,Q9])⟩
 rw[show Bf (some 3) (some (AY l))=some (3*AY l) from Dk m]
 rcases hx with⟨rfl,hx⟩|⟨rfl,hx⟩
 rotate_left
 ·exact .inr ⟨fun g=>hx (JO.1 g.k).2.1, .inl I⟩
 rcases hy with⟨rfl,hy⟩|⟨rfl,hy⟩
 rotate_left
 ·exact .inr ⟨fun g=>hy (JO.1 g.k).2.2, .inr I⟩
 by_cases a:AR (Fx l) (3*AY l)
 rotate_left
 ·exact .inr ⟨fun g=>a g.x, .inl (EL a)⟩
 by_cases b:AR (Fo l) (3*AY l)
 rotate_left
 ·exact .inr ⟨fun g=>b g.y, .inr (EL b)⟩
 exact .inl ⟨⟨JO.2 ⟨h,hx,hy⟩,m,a,b⟩,Dk a,Dk b⟩
theorem N3 (xs:List PtS) (hx:xs.length≤8) (hxs: ∀x∈xs,x.1.length≤604∧x.2.length≤604) (p:Option Addr) (cap:Nat) (W:World) (hA:Dm W p xs) (ht:AM W):
  Ai Tryz.prog 36 #[slv p xs.length cap] W (fun x:PtS×Int=> .tuple #[.agg #[str x.1.1,str x.1.2], .int .i64 x.2]) (fun x=>Kz xs x.1 x.2) (fun _=>[]):=by
 refine Ae (args:=[slv p xs.length cap]) Tryz.func36 I I I ?_
 refine zA (zB ?_)
 (refine Af Tryz.hZ rfl rfl rfl rfl ?_;intro)
 refine wP I (Aa ?_)
 rename_i b2
 refine zE (zA (zA (zB (wP I ?_))))
 refine wD (X:=Int) I I (fun W1 hp=>HX W1 p cap xs (hA.hp hp) (by omega) hxs (ht.hp hp)) ?_
 intro e1 he1
 have he1:e1=0↔IM xs:=he1
 refine wP I ?_
 by_cases h1:e1=0
 rotate_left
 ·refine wU 13 true I (bne_iff_ne.2 h1) (Aa (zE (zR I (zA (zB ?_)))))
  refine Av Tryz.hZ tH I I I I I I I I ?_
  exact wS 0 I I I (wP I (Aa (zE (zO (zP (A7 tH I (.cell 0 I I I I I) (.tmp I) (([],[]),1) I (.inr ⟨fun h=>h1 (he1.2 h),I,I⟩) fun W1 hp=>Ar.nil _ _))))))
 have hV:=he1.1 h1
 obtain⟨l,hl,hl3,hlq,hcv⟩:=id hV
 have hX: ∀s e,(KS l∧s=ptS (HC l)∧e=0)∨(¬KS l∧s=([],[])∧e=4)→Kz xs s e:=fun s e h=> .inl ⟨l,hl,hV,h⟩
 have exl:xs.length=l.length:=by rw[hl,List.length_map]
 have hAl:Cs W p l:=Dm.p (by rw[hl] at hA;exact hA)
 rw[exl] at hx
 rw[exl]
 have hn0:0<l.length:=by omega
 have hzz:(l.length:Int)≠0:=by omega
 have okl: ∀j,okP (Ab l j):=fun j=>hlq _ (AD (by omega) j)
 have hnz:3*AY l≠0:=by have:=MI (hcv.poly hl3);grind
 obtain⟨g,off,rfl,hrow0⟩:=hAl.at_ hn0
 have hrow: ∀j,j<l.length→Ak W g (off+j*2) [str (Ad (Ab l j).1),str (Ad (Ab l j).2)]:=fun j hj=>by
  rw[AE hj];exact hrow0 j hj
 clear hl
 have h00: ∀W1,Ai Tryz.prog 62 #[str [48]] W1 (fun _:Unit=>nmV (some 0)) (fun _=>True) (fun _=>[]):=fun W1=>by have h1:=B3 0 W1;rw[CW] at h1;exact h1
 refine wU 13 false I (bne_eq_false_iff_eq.2 h1) (Aa (zE (zS I (zI (zE (zA (zB (wC I I (fun W1 hp=>h00 W1) (wC I I (fun W1 hp=>h00 W1) (wC I I (fun W1 hp=>h00 W1) ?_))))))))))
 (refine Af Tryz.hZ rfl rfl rfl rfl ?_;intro)
 (refine Af Tryz.hZ rfl rfl rfl rfl ?_;intro)
 (refine Af Tryz.hZ rfl rfl rfl rfl ?_;intro)
 refine wS 1 I I I (wS 2 I I I (wS 3 I I I (Aa ?_)))
 rename_i b4 b5 b6
 refine zE (zA (zA (zB (wP I (Aa (zE (zH ?_)))))))
 refine A8 (X:=Nat×(List UInt8×Int)×(List UInt8×Int)×(List UInt8×Int)) (fun x=>[(0,slv (some ⟨g,off,none⟩) l.length cap),(2,Ah b2),(4,Ah b4),(5,Ah b5),(6,Ah b6),(7, .int .i64 (x.1:Nat))]) (fun x=>[ptB b2 [] [],nmR b4 x.2.1.1 x.2.1.2,nmR b5 x.2.2.1.1 x.2.2.1.2,nmR b6 x.2.2.2.1 x.2.2.2.2])
  (fun x=>x.1≤l.length∧ ∃o ox oy,nmV o= .agg #[str x.2.1.1, .int .i64 x.2.1.2]∧nmV ox= .agg #[str x.2.2.1.1, .int .i64 x.2.2.1.2]∧nmV oy= .agg #[str x.2.2.2.1, .int .i64 x.2.2.2.2]∧ArO l x.1 o∧MoO (·.1) l x.1 ox∧MoO (·.2) l x.1 oy) (fun x=>l.length-x.1) (0,(Ad 0,0),(Ad 0,0),(Ad 0,0)) ⟨Nat.zero_le _,some 0,some 0,some 0,rfl,rfl,rfl, .inl ⟨rfl,fun j hj=>absurd hj (Nat.not_lt_zero _)⟩, .inl ⟨rfl,fun j hj=>absurd hj (Nat.not_lt_zero _)⟩, .inl ⟨rfl,fun j hj=>absurd hj (Nat.not_lt_zero _)⟩⟩ ⟨rfl,rfl,rfl,rfl,rfl,rfl,trivial⟩ [] rfl ?_
 rintro⟨k,⟨s,e⟩,⟨sx,ex⟩,⟨sy,ey⟩⟩ ⟨hk0,o,ox,oy,vo,vx,vy,hO,hOx,hOy⟩
 have hk0:k≤l.length:=hk0
 have vo:nmV o= .agg #[str s, .int .i64 e]:=vo
 have vx:nmV ox= .agg #[str sx, .int .i64 ex]:=vx
 have vy:nmV oy= .agg #[str sy, .int .i64 ey]:=vy
 have hO:ArO l k o:=hO
 have hOx:MoO (·.1) l k ox:=hOx
 have hOy:MoO (·.2) l k oy:=hOy
 refine zA (zA (zB (wP I ?_)))
 refine Aj 18 (.int .i64 (k:Nat)) I I ?_
 refine wP I (wP I (wP I ?_))
 by_cases hk:k<l.length
 rotate_left
 ·obtain rfl:k=l.length:=by omega
  refine wU 21 false I (dF (by omega)) (Aa ?_)
  obtain⟨s3,e3,v3,_⟩:=DY (Bf (some 3) o)
  obtain⟨qx,fx,wx,cx⟩:=DY (GL ox (Bf (some 3) o))
  obtain⟨qy,fy,wy,cy⟩:=DY (GL oy (Bf (some 3) o))
  have hcen:=ZL hO hOx hOy
  have hs3: ∀q,Bf (some 3) o=some q→q.num≠0:=fun q hq=>by
   rcases hO with⟨rfl,_⟩|⟨rfl,_⟩
   ·by_cases m:Cf 3 (crK l l.length)
    ·rw[show Bf (some 3) (some (crK l l.length))=some (3*crK l l.length) from Dk m] at hq
     cases hq
     exact Nz hnz
    ·rw[show Bf (some 3) (some (crK l l.length))=none from EL m] at hq;cases hq
   ·rw[K9] at hq;cases hq
  refine zE (zS I (zJ (zK (zK (zL (zE (Ao ?_)))))))
  refine AL (X:=Unit) [true,true,true,false] (fun _=>[(2,Ah b2),(4,Ah b4),(5,Ah b5),(6,Ah b6)]) (fun _=>[ptB b2 [] [],nmR b4 s3 e3,nmR b5 sx ex,nmR b6 sy ey])
   1 [ptB b2 [] [],nmR b4 s e,nmR b5 sx ex,nmR b6 sy ey] Tryz.mixed (by kernel_rfl) ?_ ?_
  ·refine qC I I (fun W1 hp=>by have h1:=B3 3 W1;rw[Pe] at h1;exact h1) (qB 1 I I I (qC I I (fun W1 h=>by have h1:=Df (some 3) o Ym hO.ok W1 (ht.hp h);rw[vo] at h1;exact h1.cast v3) (Bu (wX (wZ (wS 1 I I I (Aa (Ac ?_))))))))
   refine AF I (by kernel_rfl) ?_
   exact Al () ⟨I,I,I,I,tO⟩ [0,1,2,3] (by decide) I
  intro _
  refine zE (Ao ?_)
  refine AL (X:=Unit) [true,true,true,false,false,false,false,false] (fun _=>[(2,Ah b2),(5,Ah b5),(6,Ah b6)]) (fun _=>[ptB b2 [] [],nmR b5 qx fx,nmR b6 qy fy])
   5 [ptB b2 [] [],nmR b4 s3 e3,nmR b5 sx ex,nmR b6 sy ey] Tryz.mixed (by kernel_rfl) ?_ ?_
  ·refine qB 2 I I I (qB 1 I I I (qC I I (fun W1 h=>by have h1:=Gu ox (Bf (some 3) o) hOx.ok (D5 _ _) hs3 W1 (ht.hp h);rw[vx,v3] at h1;exact h1.cast wx) (Bu (wX ?_))))
   refine RS.cons ?_ (RS.cons ?_ (RS.nil))
   ·refine wB 3 I I I (Aa (Ac (wX (wZ (wB 1 I I I (Aa (Ac (wX (wZ (wC I I (fun W1 h=>by have h1:=Gu oy (Bf (some 3) o) hOy.ok (D5 _ _) hs3 W1 (ht.hp h);rw[vy,v3] at h1;exact h1.cast wy) (Aa (Ac (wX ?_)))))))))))))
    refine wZ (wS 2 I I I (Aa (Ac (wY (wZ (wS 3 I I I (Aa (Ac ?_))))))))
    refine AF I (by kernel_rfl) ?_
    exact Al () ⟨I,I,I,tO⟩ [0,2,3] (by decide) I
   ·refine wB 1 I I I (Aa (Ac (wX (wZ (wB 3 I I I (Aa (Ac (wX (wZ (wC I I (fun W1 h=>by have h1:=Gu oy (Bf (some 3) o) hOy.ok (D5 _ _) hs3 W1 (ht.hp h);rw[vy,v3] at h1;exact h1.cast wy) (Aa (Ac (wX ?_)))))))))))))
    refine wZ (wS 2 I I I (Aa (Ac (wY (wZ (wS 3 I I I (Aa (Ac ?_))))))))
    refine AF I (by kernel_rfl) ?_
    exact Al () ⟨I,I,I,tO⟩ [0,2,3] (by decide) I
  intro _
  refine zE (zA (zA (zB ?_)))
  rcases cx with⟨hx0,rfl,rfl⟩|⟨x,hx0,rfl,rfl⟩
  ·have hn: ¬KS l:=by
    rcases hcen with⟨_,c,_⟩|⟨c,_⟩
    ·rw[hx0] at c;cases c
    ·exact c
   refine wP I (wB 1 I I I (wP I (Aa (zE (zR I (Ao ?_))))))
   refine AL (X:=Unit) [true,true,true,false,false] (fun _=>[(2,Ah b2),(3, .int .i64 4)]) (fun _=>[ptB b2 [] []])
    2 [⟨b2,35,[str [],str []],false,none⟩,nmR b5 [] 4,nmR b6 qy fy] Tryz.mixed (by kernel_rfl) ?_ ?_
   ·refine DE Tryz.hZ tH I I I I I I I I ?_
    refine qP I (qB 1 I I I (Bu (wX (wZ (wS 0 I I I (Aa (Ac (wX (wZ (wP I (Aa (Ac ?_))))))))))))
    refine A5 I (by((repeat (first|refine A9.same ?_|refine A9.off I ?_));exact tO)) ?_
    exact Al () ⟨I,I,tO⟩ [0] (by decide) I
   intro _
   exact zE (zO (zP (A7 tH I (.cell 0 I I I I I) (.tmp I) (([],[]),4) I (hX _ _ (.inr ⟨hn,I,I⟩)) fun W1 hp=>Ar.nil _ _)))
  rcases cy with⟨hy0,rfl,rfl⟩|⟨y,hy0,rfl,rfl⟩
  ·have hn: ¬KS l:=by
    rcases hcen with⟨_,_,c⟩|⟨c,_⟩
    ·rw[hy0] at c;cases c
    ·exact c
   refine wP I (wB 1 I I I (wP I (Aa (zE (zS I (zI (zE (zA (zA (zB (wP I (wB 2 I I I (wP I ?_)))))))))))))
   refine Aa (zE (zR I (Ao ?_)))
   refine AL (X:=Unit) [true,true,true,false,false] (fun _=>[(2,Ah b2),(3, .int .i64 4)]) (fun _=>[ptB b2 [] []])
    2 [⟨b2,35,[str [],str []],false,none⟩,nmR b5 (Ad x) 0,nmR b6 [] 4] Tryz.mixed (by kernel_rfl) ?_ ?_
   ·refine DE Tryz.hZ tH I I I I I I I I ?_
    refine qP I (qB 2 I I I (Bu (wX (wZ (wS 0 I I I (Aa (Ac (wX (wZ (wP I (Aa (Ac ?_))))))))))))
    refine A5 I (by((repeat (first|refine A9.same ?_|refine A9.off I ?_));exact tO)) ?_
    exact Al () ⟨I,I,tO⟩ [0] (by decide) I
   intro _
   exact zE (zO (zP (A7 tH I (.cell 0 I I I I I) (.tmp I) (([],[]),4) I (hX _ _ (.inr ⟨hn,I,I⟩)) fun W1 hp=>Ar.nil _ _)))
  obtain⟨hok,rfl,rfl⟩:KS l∧x=(HC l).1∧y=(HC l).2:=by
   rcases hcen with⟨a,b,c⟩|⟨_,c⟩
   ·rw[hx0] at b
    rw[hy0] at c
    exact⟨a,Option.some.inj b,Option.some.inj c⟩
   ·rw[hx0,hy0] at c
    rcases c with c|c<;>cases c
  refine wP I (wB 1 I I I (wP I (Aa (zE (zS I (zI (zE (zA (zA (zB (wP I (wB 2 I I I (wP I ?_)))))))))))))
  refine Aa (zE (zS I (zI (zE (zA (zB (wP I (wB 1 I I I (wP I (wB 2 I I I ?_))))))))))
  refine Av Tryz.hZ tH I I I I I I I I ?_
  exact wS 0 I I I (wP I (Aa (zE (zO (A7 tH I (.cell 0 I I I I I) (.tmp I) ((Ad (HC l).1,Ad (HC l).2),0) I (hX _ _ (.inl ⟨hok,I,I⟩)) fun W1 hp=>Ar.nil _ _)))))
 refine wU 21 true I (dT (by omega)) (Aa ?_)
 have hk2:(k+1)%l.length<l.length:=Nat.mod_lt _ hn0
 have hr1:=hrow k hk
 have hr2:=hrow _ hk2
 rw[Bn] at hr2
 have okk:=okl k
 have okk1:=okl (k+1)
 have hnO:=hO.next
 have hnX:=hOx.next
 have hnY:=hOy.next
 obtain⟨P,hP⟩: ∃P,P=Ab l k:=⟨_,rfl⟩
 obtain⟨Q,hQ⟩: ∃Q,Q=Ab l (k+1):=⟨_,rfl⟩
 rw[←hP] at hr1 okk
 rw[←hQ] at hr2 okk1
 rw[←hP, ←hQ] at hnO hnX hnY
 obtain⟨sd,ed,vd,_⟩:=DY (dfO P Q)
 obtain⟨s1,g1,v1,_⟩:=DY (En o (dfO P Q))
 obtain⟨s2,g2,v2,_⟩:=DY (En ox (Bf (En (some P.1) (some Q.1)) (dfO P Q)))
 obtain⟨s3,g3,v3,_⟩:=DY (En oy (Bf (En (some P.2) (some Q.2)) (dfO P Q)))
 refine zE (zR I (zI (zE (Ao (B8 (Ao ?_))))))
 refine AL (X:=Nat×Nat) [true,true,true,true,true,true,true,true,true,true,true,true,false,false,false,false] (fun b=>[(0,slv (some ⟨g,off,none⟩) l.length cap),(2,Ah b2),(4,Ah b4),(5,Ah b5),(6,Ah b6),(7, .int .i64 (k:Nat)),(8,Ah b.1),(9,Ah b.2)]) (fun b=>[ptB b2 [] [],nmR b4 s e,nmR b5 sx ex,nmR b6 sy ey,ptB b.1 (Ad P.1) (Ad P.2),ptB b.2 (Ad Q.1) (Ad Q.2)])
  4 [ptB b2 [] [],nmR b4 s e,nmR b5 sx ex,nmR b6 sy ey] Tryz.mixed (by kernel_rfl) ?_ ?_
 ·refine qP I (qP I ?_)
  refine CU 25 (.int .i64 (k:Nat)) I I ?_
  refine qJ ?_
  refine qL 0 I I (fun W1 hp=>hr1.hp hp) I (qP I (qP I (qP I (qV 30 ((k+1:Nat):Int) I (As (by omega)) (qP I (qP I ?_))))))
  refine Ed I I I I I hzz ?_
  refine CU 33 (.int .i64 (((k+1)%l.length:Nat):Int)) I I ?_
  refine qJ ?_
  refine qL 0 I I (fun W1 hp=>hr2.hp hp) I (Bu (wX ?_))
  refine RS.cons ?_ (RS.cons ?_ (RS.nil))
  ·refine Af Tryz.hZ rfl rfl rfl rfl ?_;intro b8
   refine Aa (Ac (wX (wZ ?_)))
   refine Af Tryz.hZ rfl rfl rfl rfl ?_;intro b9
   refine Aa (Ac (wX (wZ (wS 4 I I I (Aa (Ac (wX (wZ (wS 5 I I I (Aa (Ac ?_)))))))))))
   refine A5 I (by((repeat (first|refine A9.same ?_|refine A9.off I ?_));exact tO)) ?_
   exact Al (b8,b9) ⟨I,I,I,I,I,I,I,I,tO⟩ [0,1,2,3,4,5] (by decide) I
  ·refine Af Tryz.hZ rfl rfl rfl rfl ?_;intro b9
   refine Aa (Ac (wX (wZ ?_)))
   refine Af Tryz.hZ rfl rfl rfl rfl ?_;intro b8
   refine Aa (Ac (wX (wZ (wS 5 I I I (Aa (Ac (wX (wZ (wS 4 I I I (Aa (Ac ?_)))))))))))
   refine A5 I (by((repeat (first|refine A9.same ?_|refine A9.off I ?_));exact tO)) ?_
   exact Al (b8,b9) ⟨I,I,I,I,I,I,I,I,tO⟩ [0,1,2,3,5,4] (by decide) I
 rintro⟨b8,b9⟩
 refine zE (zA (zB (wB 4 I I I (wB 5 I I I (wC I I (fun W1 h=>(HS P Q okk okk1 W1 (ht.hp h)).cast vd) ?_)))))
 (refine Af Tryz.hZ rfl rfl rfl rfl ?_;intro)
 refine wS 6 I I I (Aa ?_)
 rename_i b10
 refine zE (zA (zB (wB 1 I I I (wB 6 I I I (wC I I (fun W1 h=>by have h1:=Et o (dfO P Q) hO.ok (OY _ _) W1 (ht.hp h);rw[vo,vd] at h1;exact h1.cast v1) (wS 1 I I I (Aa (zE (Ao ?_)))))))))
 refine AL (X:=Unit) [true,true,true,true,true,true,true,true,true,true,true,false] (fun _=>[(0,slv (some ⟨g,off,none⟩) l.length cap),(2,Ah b2),(4,Ah b4),(5,Ah b5),(6,Ah b6),(7, .int .i64 (k:Nat)),(8,Ah b8),(9,Ah b9),(10,Ah b10)]) (fun _=>[ptB b2 [] [],nmR b4 s1 g1,nmR b5 s2 g2,nmR b6 sy ey,ptB b8 (Ad P.1) (Ad P.2),ptB b9 (Ad Q.1) (Ad Q.2),nmR b10 sd ed])
  1 [ptB b2 [] [],nmR b4 s1 g1,nmR b5 sx ex,nmR b6 sy ey,ptB b8 (Ad P.1) (Ad P.2),ptB b9 (Ad Q.1) (Ad Q.2),nmR b10 sd ed] Tryz.mixed (by kernel_rfl) ?_ ?_
 ·refine qB 2 I I I (qP I (qB 4 I I I (qC I I (fun W hp=>B3 P.1 W) (qP I (qB 5 I I I (qC I I (fun W hp=>B3 Q.1 W) (qC I I (fun W h=>Et (some P.1) (some Q.1) okk.1 okk1.1 W (ht.hp h)) (qB 6 I I I (qC I I (fun W h=>by have h1:=Df (En (some P.1) (some Q.1)) (dfO P Q) (Qt _ _) (OY _ _) W (ht.hp h);rw[vd] at h1;exact h1) (qC I I (fun W h=>by have h1:=Et ox (Bf (En (some P.1) (some Q.1)) (dfO P Q)) hOx.ok (D5 _ _) W (ht.hp h);rw[vx] at h1;exact h1.cast v2) (Bu (wX (wZ ?_)))))))))))))
  refine wS 2 I I I (Aa (Ac ?_))
  refine AF I (by kernel_rfl) ?_
  exact Al () ⟨I,I,I,I,I,I,I,I,I,tO⟩ [0,1,2,3,4,5,6] (by decide) I
 intro _
 refine zE ?_
 refine AL (X:=Unit) [true,true,true,true,true,true,true,true,true,true,true,false] (fun _=>[(0,slv (some ⟨g,off,none⟩) l.length cap),(2,Ah b2),(4,Ah b4),(5,Ah b5),(6,Ah b6),(7, .int .i64 (k:Nat))]) (fun _=>[ptB b2 [] [],nmR b4 s1 g1,nmR b5 s2 g2,nmR b6 s3 g3])
  1 [ptB b2 [] [],nmR b4 s1 g1,nmR b5 s2 g2,nmR b6 sy ey,ptB b8 (Ad P.1) (Ad P.2),ptB b9 (Ad Q.1) (Ad Q.2),nmR b10 sd ed] Tryz.mixed (by kernel_rfl) ?_ ?_
 ·refine qB 3 I I I (qP I (qB 4 I I I (qC I I (fun W hp=>B3 P.2 W) (qP I (qB 5 I I I (qC I I (fun W hp=>B3 Q.2 W) (qC I I (fun W h=>Et (some P.2) (some Q.2) okk.2 okk1.2 W (ht.hp h)) (qB 6 I I I (qC I I (fun W h=>by have h1:=Df (En (some P.2) (some Q.2)) (dfO P Q) (Qt _ _) (OY _ _) W (ht.hp h);rw[vd] at h1;exact h1) (qC I I (fun W h=>by have h1:=Et oy (Bf (En (some P.2) (some Q.2)) (dfO P Q)) hOy.ok (D5 _ _) W (ht.hp h);rw[vy] at h1;exact h1.cast v3) (Bu (wX (wZ ?_)))))))))))))
  refine wS 3 I I I (Aa (Ac ?_))
  refine AF I (by kernel_rfl) ?_
  exact Al () ⟨I,I,I,I,I,I,tO⟩ [0,1,2,3] (by decide) I
 intro _
 exact zN (zE (zB (wP I (wP I (wV 23 ((k+1:Nat):Int) I (As (by omega)) (wP I (Aa (Ay (k+1,(s1,g1),(s2,g2),(s3,g3)) ⟨hk,_,_,_,v1,v2,v3,hnO,hnX,hnY⟩ (by show l.length-(k+1)<l.length-k;omega) ⟨I,I,I,I,I,I,tO⟩ [] I))))))))
-- BOXES 5
-- CODE2
theorem Gj {p q:Rat}:AR p q↔AR q p:=⟨fun h=>⟨h.2,h.1⟩,fun h=>⟨h.2,h.1⟩⟩
theorem OM.det {xs:List PtS} {A B A' B':PtS} {e e':Int} (h:OM xs A B e) (h':OM xs A' B' e'):A=A'∧B=B'∧e=e':=by
 rcases h with⟨l,h1,h2,h3⟩|⟨hn,rfl,rfl,rfl⟩<;>rcases h' with⟨l',h1',h2',h3'⟩|⟨hn',rfl,rfl,rfl⟩
 ·obtain rfl:=IA (h1.symm.trans h1')
  rcases h3 with⟨a,rfl,rfl,rfl⟩|⟨a,rfl,rfl,rfl⟩<;>rcases h3' with⟨b,rfl,rfl,rfl⟩|⟨b,rfl,rfl,rfl⟩
  ·exact⟨I,I,I⟩
  ·exact absurd a b
  ·exact absurd b a
  ·exact⟨I,I,I⟩
 ·exact absurd h2 hn'
 ·exact absurd h2' hn
 ·exact⟨I,I,I⟩
def lsQ (a b:Rat):Rat:=if 0<(kOr false a b).1 then b else a
def gtQ (a b:Rat):Rat:=if (kOr false a b).1<0 then b else a
theorem Ia (a b:Rat) (ha:okQ a) (hb:okQ b) (W:World) (ht:AM W):
  Ai Tryz.prog 90 #[str (Ad a),str (Ad b)] W (fun _:Unit=> .tuple #[str (Ad (lsQ a b)), .int .i64 (erI (kOr false a b).2)]) (fun _=>True) (fun _=>[]):=by
 obtain⟨⟨n,e⟩,h1⟩: ∃x,x=kOr false a b:=⟨_,rfl⟩
 have v1:cmV a b= .tuple #[.int .i64 n, .int .i64 (erI e)]:=by rw[O4, ←h1]
 unfold lsQ
 rw[←h1]
 refine Ae (args:=[str (Ad a),str (Ad b)]) Tryz.func90 I I I ?_
 refine zA (zB (wP I (wP I (Aa (zE (zA (zB (wP I (wP I (wC I I (fun W1 h=>(Ef a b ha hb W1 (ht.hp h)).cast v1) ?_))))))))))
 iterate 5 refine wP I ?_
 refine Aa (zE (zA (zA (zB (wP I (wP I ?_))))))
 by_cases h0:0<n
 ·exact wU 15 true I (dT h0) (Aa (zE (zR I (zA (zB (wP I (wP I (wP I (wP I (Aa (zE (zO (zP (wR2 I I (by show _=Value.tuple #[str (Ad (if 0<n then b else a)),_];rw[if_pos h0])))))))))))))))
 ·refine wU 15 false I (dF h0) (Aa (zE (zS I (zI (zE (zA (zB (wP I (wP I (wP I (wP I (Aa (zE ?_)))))))))))))
  exact zO (wR2 I I (by show _=Value.tuple #[str (Ad (if 0<n then b else a)),_];rw[if_neg h0]))
theorem HD (a b:Rat) (ha:okQ a) (hb:okQ b) (W:World) (ht:AM W):
  Ai Tryz.prog 91 #[str (Ad a),str (Ad b)] W (fun _:Unit=> .tuple #[str (Ad (gtQ a b)), .int .i64 (erI (kOr false a b).2)]) (fun _=>True) (fun _=>[]):=by
 obtain⟨⟨n,e⟩,h1⟩: ∃x,x=kOr false a b:=⟨_,rfl⟩
 have v1:cmV a b= .tuple #[.int .i64 n, .int .i64 (erI e)]:=by rw[O4, ←h1]
 unfold gtQ
 rw[←h1]
 refine Ae (args:=[str (Ad a),str (Ad b)]) Tryz.func91 I I I ?_
 refine zA (zB (wP I (wP I (Aa (zE (zA (zB (wP I (wP I (wC I I (fun W1 h=>(Ef a b ha hb W1 (ht.hp h)).cast v1) ?_))))))))))
 iterate 5 refine wP I ?_
 refine Aa (zE (zA (zA (zB (wP I (wP I ?_))))))
 by_cases h0:n<0
 ·exact wU 15 true I (dT h0) (Aa (zE (zR I (zA (zB (wP I (wP I (wP I (wP I (Aa (zE (zO (zP (wR2 I I (by show _=Value.tuple #[str (Ad (if n<0 then b else a)),_];rw[if_pos h0])))))))))))))))
 ·refine wU 15 false I (dF h0) (Aa (zE (zS I (zI (zE (zA (zB (wP I (wP I (wP I (wP I (Aa (zE ?_)))))))))))))
  exact zO (wR2 I I (by show _=Value.tuple #[str (Ad (if n<0 then b else a)),_];rw[if_neg h0]))
-- BOXES 9
-- CODE2
theorem Ys {a b:Rat} (h:AR a b):lsQ a b=mnQ b a:=by
 unfold lsQ mnQ
 rw[Gg h]
 have g:=I1 a b
 rw[decide_eq_decide] at g
 by_cases c:b<a
 ·rw[if_pos c];exact if_pos (g.2 c)
 ·rw[if_neg c];exact if_neg fun d=>c (g.1 d)
theorem Yl {a b:Rat} (h:AR a b):gtQ a b=mxQ b a:=by
 unfold gtQ mxQ
 rw[Gg h]
 have g:=JT a b
 rw[decide_eq_decide] at g
 by_cases c:a<b
 ·rw[if_pos c];exact if_pos (g.2 c)
 ·rw[if_neg c];exact if_neg fun d=>c (g.1 d)
theorem VE {l:List Ag} (h: ∀j,okP (Ab l j)): ∀k,okP (bxK l k).1∧okP (bxK l k).2
 |0=>⟨h 0,h 0⟩
 |k+1=>by
  have ih:=VE h k
  have hx:=h (k+1)
  exact⟨⟨HU hx.1 ih.1.1,HU hx.2 ih.1.2⟩,⟨HU hx.1 ih.2.1,HU hx.2 ih.2.2⟩⟩
theorem WJ {l:List Ag} {k:Nat} {lo hi x:Ag} (hv:(lo,hi)=bxK l k) (hok:H6 l k) (hx:x=Ab l (k+1)):
  ((kOr false lo.1 x.1).2=false∧(kOr false lo.2 x.2).2=false∧(kOr false hi.1 x.1).2=false∧(kOr false hi.2 x.2).2=false)∧H6 l (k+1)∧((lsQ lo.1 x.1,lsQ lo.2 x.2),(gtQ hi.1 x.1,gtQ hi.2 x.2))=bxK l (k+1)∨
  ¬((kOr false lo.1 x.1).2=false∧(kOr false lo.2 x.2).2=false∧(kOr false hi.1 x.1).2=false∧(kOr false hi.2 x.2).2=false)∧ ¬H6 l (k+1):=by
 have hl:lo=(bxK l k).1:=congrArg Prod.fst hv
 have hh:hi=(bxK l k).2:=congrArg Prod.snd hv
 have e: ∀a b:Rat,(kOr false a b).2=false↔AR b a:=fun a b=>(Iw.trans ⟨fun h=>h.2,fun h=>⟨rfl,h⟩⟩).trans Gj
 rw[e,e,e,e]
 by_cases c:AR x.1 lo.1∧AR x.2 lo.2∧AR x.1 hi.1∧AR x.2 hi.2
 ·refine .inl ⟨c,fun j hj=> ?_, ?_⟩
  ·by_cases d:j=k
   ·subst d
    rw[hl,hh,hx] at c
    exact⟨c.1,c.2.1,c.2.2.1,c.2.2.2⟩
   ·exact hok j (by omega)
  ·rw[Ys (Gj.1 c.1),Ys (Gj.1 c.2.1),Yl (Gj.1 c.2.2.1),Yl (Gj.1 c.2.2.2),hl,hh,hx]
   rfl
 ·refine .inr ⟨c,fun h=>c ?_⟩
  have h:=h k (by omega)
  rw[hl,hh,hx]
  exact⟨h.a,h.b,h.c,h.d⟩
theorem QP (xs:List PtS) (hx:xs.length≤8) (hxs: ∀x∈xs,x.1.length≤604∧x.2.length≤604) (p:Option Addr) (cap:Nat) (W:World) (hA:Dm W p xs) (ht:AM W):
  Ai Tryz.prog 37 #[slv p xs.length cap] W (fun x:PtS×PtS×Int=> .tuple #[.agg #[str x.1.1,str x.1.2], .agg #[str x.2.1.1,str x.2.1.2], .int .i64 x.2.2]) (fun x=>OM xs x.1 x.2.1 x.2.2) (fun _=>[]):=by
 refine Ae (args:=[slv p xs.length cap]) Tryz.func37 I I I ?_
 refine zA (zB ?_)
 (refine Af Tryz.hZ rfl rfl rfl rfl ?_;intro)
 (refine Af Tryz.hZ rfl rfl rfl rfl ?_;intro)
 refine wP I (Aa ?_)
 rename_i b2 b3
 refine zE (zA (zA (zB (wP I ?_))))
 refine wD (X:=Int) I I (fun W1 hp=>HX W1 p cap xs (hA.hp hp) (by omega) hxs (ht.hp hp)) ?_
 intro e1 he1
 have he1:e1=0↔IM xs:=he1
 refine wP I ?_
 by_cases h1:e1=0
 rotate_left
 ·refine wU 18 true I (bne_iff_ne.2 h1) (Aa (zE (zR I (zA (zB ?_)))))
  iterate 2 refine Av Tryz.hZ tH I I I I I I I I ?_
  exact wS 0 I I I (wS 1 I I I (wP I (Aa (zE (zO (zP (Hz tH I (.cell 0 I I I I I) (.cell 1 I I I I I) (.tmp I) (([],[]),([],[]),1) I (.inr ⟨fun h=>h1 (he1.2 h),I,I,I⟩) fun W1 hp=>Ar.nil _ _)))))))
 have hV:=he1.1 h1
 obtain⟨l,hl,hl3,hlq,hcv⟩:=id hV
 have hX: ∀A B e,((H6 l (l.length-1)∧A=ptS (bxK l (l.length-1)).1∧B=ptS (bxK l (l.length-1)).2∧e=0)∨(¬H6 l (l.length-1)∧A=([],[])∧B=([],[])∧e=4))→OM xs A B e:=fun A B e h=> .inl ⟨l,hl,hV,h⟩
 have exl:xs.length=l.length:=by rw[hl,List.length_map]
 have hAl:Cs W p l:=Dm.p (by rw[hl] at hA;exact hA)
 rw[exl] at hx
 rw[exl]
 have h0:0<l.length:=by omega
 have okl: ∀j,okP (Ab l j):=fun j=>hlq _ (AD h0 j)
 clear hl
 refine wU 18 false I (bne_eq_false_iff_eq.2 h1) (Aa ?_)
 obtain⟨g,off,rfl,hrow0⟩:=hAl.at_ h0
 have hrow: ∀i,i<l.length→Ak W g (off+i*2) [str (Ad (Ab l i).1),str (Ad (Ab l i).2)]:=fun i hi=>by rw[AE hi];exact hrow0 i hi
 have hr0:=hrow 0 h0
 obtain⟨x0,hx0⟩: ∃x0,x0=Ab l 0:=⟨_,rfl⟩
 rw[←hx0] at hr0
 refine zE (zS I (zI (zE (Ao ?_))))
 refine AL (X:=Nat×Nat) [true,true,true,true,true,true,false,false,false,false] (fun s=>[(0,slv (some ⟨g,off,none⟩) l.length cap),(2,Ah b2),(3,Ah b3),(5,Ah s.1),(6,Ah s.2)]) (fun s=>[ptB b2 [] [],ptB b3 [] [],ptB s.1 (Ad x0.1) (Ad x0.2),ptB s.2 (Ad x0.1) (Ad x0.2)])
  4 [ptB b2 [] [],ptB b3 [] []] Tryz.mixed (by kernel_rfl) ?_ ?_
 ·refine qP I (qI I I (by decide) (by omega) (qL 0 I I (fun W1 hp=>hr0.hp hp) I (qP I (qI I I (by decide) (by omega) (qL 0 I I (fun W1 hp=>hr0.hp hp) I (Bu (wX ?_)))))))
  refine RS.cons ?_ (RS.cons ?_ (RS.nil))
  ·refine Af Tryz.hZ rfl rfl rfl rfl ?_;intro b5
   refine Aa (Ac (wX (wZ ?_)))
   refine Af Tryz.hZ rfl rfl rfl rfl ?_;intro b6
   refine Aa (Ac (wX (wZ (wS 2 I I I (Aa (Ac (wX (wZ (wS 3 I I I (Aa (Ac ?_)))))))))))
   refine A5 I (by((repeat (first|refine A9.same ?_|refine A9.off I ?_));exact tO)) ?_
   exact Al (b5,b6) ⟨I,I,I,I,I,tO⟩ [0,1,2,3] (by decide) I
  ·refine Af Tryz.hZ rfl rfl rfl rfl ?_;intro b6
   refine Aa (Ac (wX (wZ ?_)))
   refine Af Tryz.hZ rfl rfl rfl rfl ?_;intro b5
   refine Aa (Ac (wX (wZ (wS 3 I I I (Aa (Ac (wX (wZ (wS 2 I I I (Aa (Ac ?_)))))))))))
   refine A5 I (by((repeat (first|refine A9.same ?_|refine A9.off I ?_));exact tO)) ?_
   exact Al (b5,b6) ⟨I,I,I,I,I,tO⟩ [0,1,3,2] (by decide) I
 rintro⟨b5,b6⟩
 refine zE (zA (zA (zB (wP I (Aa (zE (zH ?_)))))))
 refine A8 (X:=Nat×Ag×Ag) (fun s=>[(0,slv (some ⟨g,off,none⟩) l.length cap),(2,Ah b2),(3,Ah b3),(5,Ah b5),(6,Ah b6),(7, .int .i64 ((s.1+1:Nat):Int))])
  (fun s=>[ptB b2 [] [],ptB b3 [] [],ptB b5 (Ad s.2.1.1) (Ad s.2.1.2),ptB b6 (Ad s.2.2.1) (Ad s.2.2.2)]) (fun s=>s.1≤l.length-1∧(s.2.1,s.2.2)=bxK l s.1∧H6 l s.1) (fun s=>l.length-1-s.1) (0,x0,x0) ⟨Nat.zero_le _,by rw[hx0];rfl,fun j hj=>absurd hj (Nat.not_lt_zero _)⟩ ⟨rfl,rfl,rfl,rfl,rfl,rfl,trivial⟩ [] rfl ?_
 rintro⟨k,lo,hi⟩ ⟨hk,hv,hok⟩
 have hk:k≤l.length-1:=hk
 have hv:(lo,hi)=bxK l k:=hv
 have hok:H6 l k:=hok
 have qq:=VE okl k
 rw[←hv] at qq
 have qlo:okP lo:=qq.1
 have qhi:okP hi:=qq.2
 refine zA (zA (zB (wP I (wP I (wP I (wP I ?_))))))
 by_cases hlt:k+1<l.length
 ·refine wU 30 true I (dT (by omega)) (Aa ?_)
  have hr:=hrow (k+1) hlt
  have hxo:=okl (k+1)
  obtain⟨x,hx1⟩: ∃x,x=Ab l (k+1):=⟨_,rfl⟩
  have hrd:=WJ hv hok hx1
  rw[←hx1] at hr hxo
  obtain⟨s1,d1⟩: ∃s,s=(kOr false lo.1 x.1).2:=⟨_,rfl⟩
  obtain⟨s2,d2⟩: ∃s,s=(kOr false lo.2 x.2).2:=⟨_,rfl⟩
  obtain⟨s3,d3⟩: ∃s,s=(kOr false hi.1 x.1).2:=⟨_,rfl⟩
  obtain⟨s4,d4⟩: ∃s,s=(kOr false hi.2 x.2).2:=⟨_,rfl⟩
  obtain⟨A1,f1⟩: ∃s,s=lsQ lo.1 x.1:=⟨_,rfl⟩
  obtain⟨A2,f2⟩: ∃s,s=lsQ lo.2 x.2:=⟨_,rfl⟩
  obtain⟨B1,f3⟩: ∃s,s=gtQ hi.1 x.1:=⟨_,rfl⟩
  obtain⟨B2,f4⟩: ∃s,s=gtQ hi.2 x.2:=⟨_,rfl⟩
  rw[←d1, ←d2, ←d3, ←d4, ←f1, ←f2, ←f3, ←f4] at hrd
  have k1: ∀W1,AM W1→Ai Tryz.prog 90 #[str (Ad lo.1),str (Ad x.1)] W1 (fun _:Unit=> .tuple #[str (Ad A1), .int .i64 (erI s1)]) (fun _=>True) (fun _=>[]):=fun W1 h=>by rw[f1,d1];exact Ia _ _ qlo.1 hxo.1 W1 h
  have k2: ∀W1,AM W1→Ai Tryz.prog 90 #[str (Ad lo.2),str (Ad x.2)] W1 (fun _:Unit=> .tuple #[str (Ad A2), .int .i64 (erI s2)]) (fun _=>True) (fun _=>[]):=fun W1 h=>by rw[f2,d2];exact Ia _ _ qlo.2 hxo.2 W1 h
  have k3: ∀W1,AM W1→Ai Tryz.prog 91 #[str (Ad hi.1),str (Ad x.1)] W1 (fun _:Unit=> .tuple #[str (Ad B1), .int .i64 (erI s3)]) (fun _=>True) (fun _=>[]):=fun W1 h=>by rw[f3,d3];exact HD _ _ qhi.1 hxo.1 W1 h
  have k4: ∀W1,AM W1→Ai Tryz.prog 91 #[str (Ad hi.2),str (Ad x.2)] W1 (fun _:Unit=> .tuple #[str (Ad B2), .int .i64 (erI s4)]) (fun _=>True) (fun _=>[]):=fun W1 h=>by rw[f4,d4];exact HD _ _ qhi.2 hxo.2 W1 h
  refine zE (zR I (zI (zE (Ao (B8 (Ao (zU (qP I (qB 2 I I I (qP I (qP I ?_)))))))))))
  refine qJ ?_
  refine qP I (qL 0 I I (fun W1 hp=>hr.hp hp) I (qC I I (fun W1 hp=>k1 W1 (ht.hp hp)) ?_))
  iterate 5 refine qP I ?_
  refine AQ (Aa (zE (Ao (zU (qP I (qB 2 I I I (qP I (qP I ?_))))))))
  refine qJ ?_
  refine qP I (qL 1 I I (fun W1 hp=>hr.hp hp) I (qC I I (fun W1 hp=>k2 W1 (ht.hp hp)) ?_))
  iterate 5 refine qP I ?_
  refine AQ (Aa (zE (Ao (zU (qP I (qB 3 I I I (qP I (qP I ?_))))))))
  refine qJ ?_
  refine qP I (qL 0 I I (fun W1 hp=>hr.hp hp) I (qC I I (fun W1 hp=>k3 W1 (ht.hp hp)) ?_))
  iterate 5 refine qP I ?_
  refine AQ (Aa (zE (Ao (zU (qP I (qB 3 I I I (qP I (qP I ?_))))))))
  refine qJ ?_
  refine qP I (qL 1 I I (fun W1 hp=>hr.hp hp) I (qC I I (fun W1 hp=>k4 W1 (ht.hp hp)) ?_))
  iterate 5 refine qP I ?_
  refine AQ (Aa (zE (zA (zA (zB ?_)))))
  iterate 6 refine wP I ?_
  refine Aj 82 (.bool (s1||s2||s3||s4)) rfl (by cases s1<;>cases s2<;>cases s3<;>cases s4<;>rfl) ?_
  refine Aa (zE ?_)
  refine A0 I (fun hc=> ?_) (fun hc=> ?_)
  ·have hn: ¬H6 l (l.length-1):=by
    rcases hrd with⟨h,_⟩|⟨_,h⟩
    ·obtain⟨rfl,rfl,rfl,rfl⟩:=h
     cases hc
    ·exact fun g=>h fun j hj=>g j (by omega)
   refine zA (zB ?_)
   iterate 2 refine Av Tryz.hZ tH I I I I I I I I ?_
   exact wS 0 I I I (wS 1 I I I (wP I (Aa (zE (zO (zP (zQ (zP (zP (zQ (zP (Hz tH I (.cell 0 I I I I I) (.cell 1 I I I I I) (.tmp I) (([],[]),([],[]),4) I (hX _ _ _ (.inr ⟨hn,I,I,I⟩)) fun W1 hp=>Ar.nil _ _))))))))))))
  ·have hn:H6 l (k+1)∧((A1,A2),(B1,B2))=bxK l (k+1):=by
    rcases hrd with⟨_,h⟩|⟨h,_⟩
    ·exact h
    ·exfalso
     apply h
     cases s1<;>cases s2<;>cases s3<;>cases s4<;>first|exact⟨rfl,rfl,rfl,rfl⟩|cases hc
   refine zI (zE (zB (wP I (wP I ?_))))
   refine Av Tryz.hZ tH I I I I I I I I ?_
   refine wP I (wP I ?_)
   refine Av Tryz.hZ tH I I I I I I I I ?_
   exact wS 2 I I I (wS 3 I I I (Aa (zN (zE (zB (wP I (wP I (wV 32 ((k+1+1:Nat):Int) I (As (by omega)) (wP I (Aa (Ay (k+1,(A1,A2),(B1,B2)) ⟨by show k+1≤l.length-1;omega,hn.2,hn.1⟩ (by show l.length-1-(k+1)<l.length-1-k;omega) ⟨I,I,I,I,I,I,tO⟩ [] I)))))))))))
 ·obtain rfl:k=l.length-1:=by omega
  refine wU 30 false I (dF (by omega)) (Aa ?_)
  have e1:lo=(bxK l (l.length-1)).1:=congrArg Prod.fst hv
  have e2:hi=(bxK l (l.length-1)).2:=congrArg Prod.snd hv
  refine zE (zS I (zJ (zK (zK (zL (zE (Ao ?_)))))))
  refine AL (X:=Unit) [true,true,false,false,false] (fun _=>[(2,Ah b2),(3,Ah b3),(4, .int .i64 0)]) (fun _=>[ptB b2 (Ad lo.1) (Ad lo.2),ptB b3 (Ad hi.1) (Ad hi.2)])
   3 [⟨b2,35,[str [],str []],false,none⟩,⟨b3,35,[str [],str []],false,none⟩,ptB b5 (Ad lo.1) (Ad lo.2),ptB b6 (Ad hi.1) (Ad hi.2)] Tryz.mixed (by kernel_rfl) ?_ ?_
  ·refine qB 2 I I I (qB 3 I I I (Bu (wX (wZ (wS 0 I I I (Aa (Ac (wX (wZ (wS 1 I I I (Aa (Ac (wX ?_)))))))))))))
   refine wZ (wP I (Aa (Ac ?_)))
   refine A5 I (by((repeat (first|refine A9.same ?_|refine A9.off I ?_));exact tO)) ?_
   exact Al () ⟨I,I,I,tO⟩ [0,1] (by decide) I
  intro _
  exact zE (zO (Hz tH I (.cell 0 I I I I I) (.cell 1 I I I I I) (.tmp I) ((Ad lo.1,Ad lo.2),(Ad hi.1,Ad hi.2),0) I (hX _ _ _ (.inl ⟨hok,by rw[e1],by rw[e2],I⟩)) fun W1 hp=>Ar.nil _ _))
-- BOXES 9
-- CODE2
theorem KcP.beside {c g:Nat} {s:Bool} {W0 W1 W2:World} {bxs:List Bx} {B:Bx} {o:Obj} (hp:Hp W0 bxs W1) (k j:Nat) (hk:nth bxs k=some (caE c s)) (hj:nth bxs j=some B) (hB:(g,o)∈B.blk) (hne:k≠j) (hv:BT W0) (ht:AM W0) (h2:GB W1 W2 g):KcP c s W2:=by
 rw[BI] at hk hj
 have hc:=hp.own.cell k _ hk (c,caO s) (List.mem_cons_self ..)
 have hg:=hp.own.cell j _ hj (g,o) hB
 have ne:c≠g:=hp.own.apart k j _ _ hk hj hne (c,_) (List.mem_cons_self ..) (g,o) hB
 exact⟨(h2.at_ c ne (Array.getElem?_eq_some_iff.1 hc.1).1).trans hc.1,fun W3 h3=>⟨hv.below (h3.below (h2.below hp.below hg.2) hc.2),ht.below (h3.below (h2.below hp.below hg.2) hc.2)⟩⟩
def Ex (l:List Ag):List Ag:=Cb (GP (CI l))
def Uu (l L:List Ag) (e:Int):Prop:=Dl l∧3≤(Ex l).length∧L=Ex l∧e=0∨Dl l∧(Ex l).length<3∧L=[]∧e=12∨ ¬Dl l∧L=[]∧e=4
theorem Dl.tn {l:List Ag} (h:Dl l) {x y z:Ag} (hx:x∈l) (hy:y∈l) (hz:z∈l):Gl x y z:=by
 obtain⟨i,hi,rfl⟩:=BO hx
 obtain⟨j,hj,rfl⟩:=BO hy
 obtain⟨k,hk,rfl⟩:=BO hz
 exact(h i hi j hj).t k hk
theorem Dl.dv {l:List Ag} (h:Dl l) {x y:Ag} (hx:x∈l) (hy:y∈l):AR x.1 y.1∧AR x.2 y.2:=by
 obtain⟨i,hi,rfl⟩:=BO hx
 obtain⟨j,hj,rfl⟩:=BO hy
 exact⟨(h i hi j hj).x,(h i hi j hj).y⟩
theorem QI (l:List Ag) (x:Ag):x∈GP (CI l)↔x∈l:=((OE (N0 l)).2 x).trans QY
theorem Qh (l:List Ag):(GP (CI l)).length≤l.length:=by
 exact Nat.le_trans (Qf (CI l) (CI l).length) (Nat.le_of_eq (Mz l))
theorem Rt (l L:List Ag) (e:Int) (hr:Uu l L e) (hlong:Dl l∨(l.map ptS).any HG=true) (h0:0<l.length) (h12:l.length≤12) (hq: ∀p∈l,okP p) (p:Option Addr) (cap:Nat) (W:World) (hA:Cs W p l) (hv:BT W) (ht:AM W):
  Ai Tryz.prog 26 #[slv p l.length cap] W (fun V:Vec=> .tuple #[V.val L.length, .int .i64 e]) (fun V=>V.OK 2 L.length (ptC L)) (fun V=>[V.bx 35 (ptC L)]):=by
 have hne:l≠[]:=fun h=>by rw[h] at h0;exact absurd h0 (by decide)
 have nilR: ∀ {W1:World} {bs:List Bx},Hp W bs W1→Ar W W1 [Vec.empty.bx 35 (ptC [])]:=fun _=>Own.one (fun p hp=>by cases hp) List.nodup_nil
 refine Ae (args:=[slv p l.length cap]) Tryz.func26 I I I ?_
 refine zA (zB (wP I (wP I (Aa (zE (zA (zH (zA (zB (wP I (wP I (wP I (wU 13 false I (beq_eq_false_iff_ne.2 (by omega)) ?_)))))))))))))
 refine wP I (Aa (zE (zS I (zA (zB (wP I (wP I (wP I (wU 17 false I (dF (by omega)) (wP I (Aa (zE (zS I ?_)))))))))))))
 refine zI (zN (zE (zA (zA (zB (wP I (wC I I (fun W1 hp=>Fm W1 p cap l (hA.hp hp) (by omega) hq (hv.hp hp) (ht.hp hp)) (wP I (Aa (zE (zA (zB (wP I (wP I ?_))))))))))))))
 refine Aa (zE (zS I (zI (zE (zA (zB ?_))))))
 refine Av Tryz.hZ tH I I I I I I I I ?_
 (refine Ax rfl rfl rfl rfl ?_;intro)
 (refine Af Tryz.hZ rfl rfl rfl rfl ?_;intro)
 refine wS 1 I I I (Aa ?_)
 rename_i bC b5
 refine zE (zA (zA (zB (wP I (wC I I (fun W1 hp=>(by have:=RV (l.map ptS) (by rw[List.length_map];omega) p cap W1 (hA.hp hp).b;rwa [List.length_map] at this)) (Aa (AP ?_)))))))
 try refine Ao ?_
 refine AJ (X:=Unit) (fun _=>[(0,slv p l.length cap),(5,Ah b5)]) (fun _=>[caE bC false,ckB b5 bC]) (fun _=>Dl l) ?_ ?_
 ·cases hln:(l.map ptS).any HG with
  |false=>
   have hok:Dl l:=by
    rcases hlong with h|h
    ·exact h
    ·rw[hln] at h;cases h
   exact zS I (zI (An () hok ⟨I,I,tO⟩ [] I))
  |true=>
   refine zR I (zA (zB (wB 1 I I I (wP I ?_))))
   refine RC 0 bC (s:=false) (X:=Bool) I I I I I I (by kernel_rfl) I (fun W1 hp=>N9 bC l h0 (by omega) hq p cap W1 (hA.hp hp) (KcP.of hp 0 I hv ht)) ?_
   intro s hs
   have hs:s=false↔Dl l:=hs
   cases s with
   |true=>
    have hno: ¬Dl l:=fun h=>absurd (hs.2 h) (by decide)
    obtain⟨rfl,rfl⟩:L=[]∧e=4:=by
     rcases hr with h|h|h
     ·exact absurd h.1 hno
     ·exact absurd h.1 hno
     ·exact h.2
    refine wP I (Aa (zE (zA (zB (wP I (wP I (Aa (zE (zR I (zA (zB (wP I (wP I (wP I ?_))))))))))))))
    exact Aa (zE (zO (zP (A7 tH I (.tmp I) (.tmp I) Vec.empty I (Vec.OK.empty 2) fun W1 hp=>nilR hp))))
   |false=>
    exact wP I (Aa (zE (zA (zB (wP I (wP I (Aa (zE (zS I (zI (An () (hs.1 I) ⟨I,I,tO⟩ [] I)))))))))))
 intro _ hok
 have hok:Dl l:=hok
 refine zA (zB (wP I ?_))
 refine wD (X:=Vec) I I (fun W1 hp=>NO W1 p cap l (by omega) (hA.hp hp) hne) ?_
 rintro⟨pS,cS,jS⟩ ⟨hVS,hpS⟩
 obtain⟨gS,rfl⟩: ∃g,pS=some g:=Option.ne_none_iff_exists'.1 hpS
 have hcS:l.length≤cS:=(hVS.cap (by simp)).1
 refine wP I (Aa (zE (zA (zB (wP I (wB 1 I I I (wP I ?_)))))))
 refine DV (X:=Unit) (val:=fun _=> .tuple #[]) (Φ:=fun _=>True) (capt:=[]) 2 (B:=Br gS l jS) (L1:=[]) (L2:=[]) (b:=gS) (ob:= .cells (ptC l++jS).toArray 35 (0,0)) (fun _=>Br gS (CI l) jS) (g':=fun _=>gS) (o':=fun _=> .cells (ptC (CI l)++jS).toArray 35 (0,0))
  rfl rfl rfl rfl rfl rfl (by kernel_rfl) rfl rfl (fun _ _=>rfl) (fun W1 hp=> ?_) (fun _ _=> ?_)
 ·exact Qv bC W1 gS cS l jS h12 (hp.own.cell 2 _ I (gS, .cells (ptC l++jS).toArray 35 (0,0)) (List.mem_cons_self ..)).1 fun W2 h2 x hx y hy=>KK.of (hq x hx) (hq y hy) (hok.dv hx hy).1 (hok.dv hx hy).2 (KcP.beside hp 0 2 I I (List.mem_cons_self ..) (by decide) hv ht h2)
 refine Aa ?_
 have hsl:=Mz l
 obtain⟨S,hS⟩: ∃S,S=GP (CI l):=⟨_,rfl⟩
 have hSm: ∀x,x∈S↔x∈l:=fun x=>by rw[hS];exact QI l x
 have hSl:S.length≤l.length:=by rw[hS];exact Qh l
 have hS0:0<S.length:=by
  have:Ab l 0∈S:=(hSm _).2 (AD h0 0)
  exact List.length_pos_of_mem this
 have hSP: ∀i,Ab S i∈l:=fun i=>(hSm _).1 (AD hS0 i)
 have hH:Ex l=Cb S:=by rw[hS];rfl
 refine zE (zA (zB (wP I ?_)))
 refine DV (X:=List Value) (val:=fun _=> .slice (some ⟨gS,0,none⟩) S.length cS) (Φ:=fun _=>True) (capt:=[]) 2 (B:=Br gS (CI l) jS) (L1:=[]) (L2:=[]) (b:=gS) (ob:= .cells (ptC (CI l)++jS).toArray 35 (0,0)) (fun x=>Br gS S x) (g':=fun _=>gS) (o':=fun x=> .cells (ptC S++x).toArray 35 (0,0))
  rfl rfl rfl rfl rfl rfl (by kernel_rfl) rfl rfl (fun _ _=>rfl) (fun W1 hp=> ?_) ?_
 ·have:=QZ W1 gS cS (CI l) jS (by omega) (by omega) (hp.own.cell 2 _ rfl (gS, .cells (ptC (CI l)++jS).toArray 35 (0,0)) (List.mem_cons_self ..)).1
  rw[←hS,hsl] at this
  exact this
 intro jT _
 refine wP I (Aa (zE (zA (zB (wP I (wP I (Aa ?_)))))))
 have hleft: ∀ {c:Nat} (P:Nat→Ag),(∀i,P i∈l)→ ∀(i j k:Nat) {W1 W2:World},KcP c false W1→Below W1.heap.size W1 W2→KI c (P i) (P j) (P k) W2:=fun {c} P hP i j k {W1 W2} hk hb=>KI.of (hq _ (hP i)) (hq _ (hP j)) (hq _ (hP k)) (hok.tn (hP i) (hP j) (hP k)) (hk.below hb)
 refine zE (zA (zB (wP I (wP I ?_))))
 refine wD (X:=Nat) I I (fun W1 _=>SV (some ⟨gS,0,none⟩) S.length cS W1) ?_
 intro b1 _
 refine wD (X:=Vec) (capt:=[Ah b5]) I I (fun W1 hp=>Lj b5 bC 139 [Ah b1] (by kernel_rfl) S.length (fun k=>k) (Ab S) (fun _=>VZ b1 (some ⟨gS,0,none⟩) cS S) (UP S b1 (some ⟨gS,0,none⟩) cS (by omega)) hS0 (by omega) W1 (Ak.of_bx hp 1 I I)
  (fun _ W2 hb=>⟨(Ak.of_bx hp 3 rfl rfl).below (Nat.le_refl _) hb,(Cs.of_row (Ak.of_bx hp 2 rfl rfl)).below (Nat.le_refl _) hb⟩) (fun i j k _ _ _ W2 hb=>hleft (Ab S) hSP i j k (KcP.of hp 0 rfl hv ht) hb)) ?_
 rintro⟨p1,c1,j1⟩ ⟨hV1,hp1⟩
 obtain⟨g1,rfl⟩: ∃g,p1=some g:=Option.ne_none_iff_exists'.1 hp1
 rw[Mk] at hV1
 refine wP I (wP I ?_)
 refine wD (X:=Nat) I I (fun W1 _=>Rb (some ⟨gS,0,none⟩) S.length cS W1) ?_
 intro b2 _
 refine wD (X:=Vec) (capt:=[Ah b5]) I I (fun W1 hp=>Lj b5 bC 140 [Ah b2] (by kernel_rfl) S.length (fun k=>S.length-1-k) (fun k=>Ab S (S.length-1-k)) (fun _=>VZ b2 (some ⟨gS,0,none⟩) cS S) (Tm S b2 (some ⟨gS,0,none⟩) cS (by omega)) hS0 (by omega) W1 (Ak.of_bx hp 1 I I)
  (fun _ W2 hb=>⟨(Ak.of_bx hp 5 rfl rfl).below (Nat.le_refl _) hb,(Cs.of_row (Ak.of_bx hp 2 rfl rfl)).below (Nat.le_refl _) hb⟩) (fun i j k _ _ _ W2 hb=>hleft (fun k=>Ab S (S.length-1-k)) (fun i=>hSP _) i j k (KcP.of hp 0 rfl hv ht) hb)) ?_
 rintro⟨p2,c2,j2⟩ ⟨hV2,hp2⟩
 obtain⟨g2,rfl⟩: ∃g,p2=some g:=Option.ne_none_iff_exists'.1 hp2
 rw[Qj] at hV2
 have sl1:=Gh (Ab S) S.length
 have sl2:=Gh (fun k=>Ab S (S.length-1-k)) S.length
 have q1:=Mk S
 have q2:=Qj S
 refine AN Tryz.hZ tH I I I I I I I I I I I fun bR=> ?_
 rw[q1] at sl1
 rw[q2] at sl2
 rw[q1,q2]
 obtain⟨A,eA⟩: ∃A,A=(Ap S).tail.reverse:=⟨_,rfl⟩
 obtain⟨B,eB⟩: ∃B,B=(Ap S.reverse).tail.reverse:=⟨_,rfl⟩
 have lA:(Ap S).length-1=A.length:=by rw[eA,List.length_reverse,List.length_tail]
 have lB:(Ap S.reverse).length-1=B.length:=by rw[eB,List.length_reverse,List.length_tail]
 have hHC:Ex l=A++B:=by rw[hH,eA,eB];rfl
 rw[lA] at hV1
 rw[lB] at hV2
 rw[←eA] at hV1
 rw[←eB] at hV2
 rw[←eA, ←eB,lA,lB]
 refine wD (X:=Vec) I I (fun W1 hp=>FY W1 bR 2 (some ⟨g1,0,none⟩) (some ⟨g2,0,none⟩) A.length B.length c1 c2 (ptC A) (ptC B) (Ak.of_bx hp 7 I I) (.inr ⟨g1,0,I,CD (Ak.of_bx hp 4 I I:Ak W1 g1 0 (ptC A++j1))⟩) (.inr ⟨g2,0,I,CD (Ak.of_bx hp 6 I I:Ak W1 g2 0 (ptC B++j2))⟩) (AI A) (AI B) (BY _) (BY _) (by omega) (by omega)) ?_
 intro V hV
 have lAB:A.length+B.length=(Ex l).length:=by rw[hHC,List.length_append]
 have hV:V.OK 2 (Ex l).length (ptC (Ex l)):=by
  have h1:V.OK 2 (A.length+B.length) (ptC A++ptC B):=hV
  rw[←Cr, ←hHC,lAB] at h1
  exact h1
 have hAB:ptC A++ptC B=ptC (Ex l):=by rw[hHC,Cr]
 rw[hAB,lAB]
 refine wP I (Aa (zE (zA (zA (zB (wB 1 I I I ?_))))))
 refine AH I I I I ?_
 refine wP I (wB 0 I I I (wP I (Aa (zE (zS I (zI (zE (zA (zA (zB (wP I ?_)))))))))))
 obtain⟨pV,cV,jV⟩:=V
 by_cases hl3:(Ex l).length<3
 ·obtain⟨rfl,rfl⟩:L=[]∧e=12:=by
   rcases hr with h|h|h
   ·exact absurd hl3 (by omega)
   ·exact h.2.2
   ·exact absurd hok h.1
  cases pV with
  |none=>
   have hz:=hV.nil rfl
   rw[hz]
   exact wP I (wP I (Aa (zE (zR I (zA (zB (wP I (wP I (Aa (zE (zO (zP (A7 tH I (.tmp I) (.tmp I) Vec.empty I (Vec.OK.empty 2) fun W1 hp=>nilR hp)))))))))))))
  |some gV=>
   exact wP I (wP I (wU 63 true I (dT (by omega)) (Aa (zE (zR I (zA (zB (wP I (wP I (Aa (zE (zO (zP (A7 tH I (.tmp I) (.tmp I) Vec.empty I (Vec.OK.empty 2) fun W1 hp=>nilR hp))))))))))))))
 ·obtain⟨rfl,rfl⟩:L=Ex l∧e=0:=by
   rcases hr with h|h|h
   ·exact h.2.2
   ·exact absurd h.2.1 hl3
   ·exact absurd hok h.1
  cases pV with
  |none=>exact absurd (hV.nil rfl) (by omega)
  |some gV=>
   refine wP I (wP I (wU 63 false I (dF (by omega)) (Aa (zE (zS I (zI (zE (zA (zB (wP I (wP I (wP I (Aa ?_)))))))))))))
   exact zE (zO (A7 tH I (.tmp I) (.tmp I) (⟨some gV,cV,jV⟩:Vec) I hV fun W1 hp=>Ar.of_hp (hp.pick (l:=[(⟨some gV,cV,jV⟩:Vec).bx 35 (ptC (Ex l))]) [8] (by decide) I)))
-- BOXES 5
-- CODE2
theorem Gl.of {p q r:Ag} (h:Za p q r):Gl p q r:=
 ⟨EQ.2 ⟨⟨h.s1.c1,h.s1.c2⟩,h.s1.sub,h.s1.d⟩,EQ.2 ⟨⟨h.s2.c1,h.s2.c2⟩,h.s2.sub,h.s2.d⟩,EQ.2 ⟨⟨h.s3.c1,h.s3.c2⟩,h.s3.sub,h.s3.d⟩,EQ.2 ⟨⟨h.s4.c1,h.s4.c2⟩,h.s4.sub,h.s4.d⟩,⟨h.m1.n,h.m1.d⟩,⟨h.m2.n,h.m2.d⟩,⟨h.o.c1,h.o.c2⟩⟩
theorem Vw {l:List Ag} (h:K3 36 l):Dl l:=fun a ha b hb=>by
 have h0:0<l.length:=by omega
 have pa:=h.at_ h0 a
 have pb:=h.at_ h0 b
 have s1:=sz2 pa.1 pb.1 (by decide)
 have s2:=sz2 pa.2 pb.2 (by decide)
 exact⟨⟨s1.c1,s1.c2⟩,⟨s2.c1,s2.c2⟩,fun d _=>Gl.of (Tt pa pb (h.at_ h0 d) (by decide))⟩
section
variable {r:Option Nat} {n:Nat} {P:Program} {W0:World} {N:Nat} {D:List Deferred} {Q:Exit→Act→World→Prop} {env:Env} {bxs:List Bx}
end
-- BOXES 9
-- CODE2
theorem TE {q:Rat} {k:Nat} (hk:0<k) (h:(Ad q).length≤k):szQ q k:=by
 have hi:(itoa q.num).length≤k∧(decDigits q.den).length≤k:=by
  unfold Ad F3 at h
  split at h
  ·rename_i e
   exact⟨h,by rw[e];exact Nat.le_trans (DO 1 1 (by decide) (by decide)) hk⟩
  ·rw[List.length_append,List.length_cons] at h
   omega
 have h2:(decDigits q.num.natAbs).length≤k:=by
  have h1:=hi.1
  rw[Cz,List.length_append] at h1
  omega
 exact⟨Nat.lt_of_lt_of_le (DL _) (Nat.pow_le_pow_right (by decide) h2),Nat.lt_of_lt_of_le (DL _) (Nat.pow_le_pow_right (by decide) hi.2)⟩
theorem Wf {l:List Ag}:Dl l∨(l.map ptS).any HG=true:=by
 cases h:(l.map ptS).any HG with
 |true=>exact .inr rfl
 |false=>
  refine .inl (Vw fun x hx=> ?_)
  have h1:=List.any_eq_false.1 h (ptS x) (List.mem_map_of_mem hx)
  have h2:HG (ptS x)=false:=by
   cases e:HG (ptS x) with
   |true=>exact absurd e h1
   |false=>rfl
  unfold HG at h2
  rw[Bool.or_eq_false_iff] at h2
  have a: ¬30<(Ad x.1).length:=of_decide_eq_false h2.1
  have b: ¬30<(Ad x.2).length:=of_decide_eq_false h2.2
  exact⟨TE (by decide) (by omega),TE (by decide) (by omega)⟩
-- BOXES 9
-- CODE2
def S0 (xs:List PtS) (L:List Ag) (e:Int):Prop:=(xs=[]∧L=[]∧e=5)∨(nErr xs≠0∧L=[]∧e=nErr xs)∨(∃l,l≠[]∧xs=l.map cvS∧(∀x∈l,okP x)∧Uu l L e)
theorem Uu.ex (l:List Ag): ∃L e,Uu l L e:=by
 by_cases h:Dl l
 ·by_cases h3:3≤(Ex l).length
  ·exact⟨Ex l,0, .inl ⟨h,h3,I,I⟩⟩
  ·exact⟨[],12, .inr (.inl ⟨h,by omega,I,I⟩)⟩
 ·exact⟨[],4, .inr (.inr ⟨h,I,I⟩)⟩
theorem S0.ex (xs:List PtS): ∃L e,S0 xs L e:=by
 by_cases h0:xs=[]
 ·exact⟨[],5, .inl ⟨h0,I,I⟩⟩
 ·by_cases h1:nErr xs=0
  ·obtain⟨l,rfl,hm⟩:=Hh h1
   obtain⟨L,e,h⟩:=Uu.ex l
   exact⟨L,e, .inr (.inr ⟨l,fun h=>h0 (by rw[h];rfl),I,hm,h⟩)⟩
  ·exact⟨[],nErr xs, .inr (.inl ⟨h1,I,I⟩)⟩
theorem OU (xs:List PtS) (L:List Ag) (e:Int) (hr:S0 xs L e) (hx:xs.length≤12) (hxs: ∀x∈xs,x.1.length≤604∧x.2.length≤604) (p:Option Addr) (cap:Nat) (W:World) (hA:Dm W p xs) (hv:BT W) (ht:AM W):
  Ai Tryz.prog 26 #[slv p xs.length cap] W (fun V:Vec=> .tuple #[V.val L.length, .int .i64 e]) (fun V=>V.OK 2 L.length (ptC L)) (fun V=>[V.bx 35 (ptC L)]):=by
 have nilR: ∀ {W1:World} {bs:List Bx},Hp W bs W1→Ar W W1 [Vec.empty.bx 35 (ptC [])]:=fun _=>Own.one (fun p hp=>by cases hp) List.nodup_nil
 rcases hr with⟨rfl,rfl,rfl⟩|⟨h1,rfl,rfl⟩|⟨l,hne,rfl,hok,hr⟩
 ·refine Ae (args:=[slv p 0 cap]) Tryz.func26 I I I ?_
  refine zA (zB (wP I (wP I (Aa (zE (zA (zH (zA (zB (wP I (wP I (wP I ?_))))))))))))
  refine Aj 13 (.bool true) I I ?_
  exact wP I (Aa (zE (zR I (zA (zB (wP I (wP I (Aa (zE (zO (zQ (zP (A7 tH I (.tmp I) (.tmp I) Vec.empty I (Vec.OK.empty 2) fun W1 hp=>nilR hp)))))))))))))
 ·have h0:0<xs.length:=by
   cases xs with
   |nil=>exact absurd rfl h1
   |cons x xs=>exact Nat.succ_pos _
  refine Ae (args:=[slv p xs.length cap]) Tryz.func26 I I I ?_
  refine zA (zB (wP I (wP I (Aa (zE (zA (zH (zA (zB (wP I (wP I (wP I (wU 13 false I (beq_eq_false_iff_ne.2 (by omega)) ?_)))))))))))))
  refine wP I (Aa (zE (zS I (zA (zB (wP I (wP I (wP I (wU 17 false I (dF (by omega)) (wP I (Aa (zE (zS I ?_)))))))))))))
  refine zI (zN (zE (zA (zA (zB (wP I (wC I I (fun W1 hp=>Gf W1 p cap xs (hA.hp hp) (by omega) (fun x hx=>by have:=hxs x hx;omega) (hv.hp hp) (ht.hp hp)) (wP I (Aa (zE (zA (zB (wP I (wP I ?_))))))))))))))
  exact wU 21 true I (bne_iff_ne.2 h1) (Aa (zE (zR I (zA (zB (wP I (wP I (wP I (Aa (zE (zO (zP (A7 tH I (.tmp I) (.tmp I) Vec.empty I (Vec.OK.empty 2) fun W1 hp=>nilR hp)))))))))))))
 ·rw[List.length_map] at hx
  rw[List.length_map]
  exact Rt l L e hr Wf (List.length_pos_iff.2 hne) hx hok p cap W hA.p hv ht
end
end Go.Proofs.YthndmdimmgkpgaaGreatDoor
