/-
  Lemmas that the theorem levelLists_upto_card needs (part 8 of 8).
-/
import Derived.Test.YtmblgcglonikiaaGreatDoorLlg
import Derived.Test.YtmblgcglonikiaaGreatDoorRows
import Derived.Deep.Slices
import Derived.ChangeArms
import Derived.ChangeShapes
import Derived.WideShapes
import Derived.Carry
import Derived.Test.YtmblgcglonikiaaGreatDoorCards
import Derived.Test.YtmblgcglonikiaaGreatDoorTie
import Derived.ProofKit
import Derived.OpenShut
import Derived.Deep.DeepHandedRow
import Derived.Lib.LaidTab
import Derived.Stop.LaidErr
import Derived.Lay
import Derived.SevenTiedAt
import Derived.Shelf.Vars
set_option maxHeartbeats 64000000
namespace Go.Proofs.YtmblgcglonikiaaGreatDoor
section
open Go Go.RowKit Go.Am Go.Lib
set_option maxRecDepth 10000
-- BOXES 4
-- CODE2
structure CS (W:World) (p:Option Addr) (rs:List (List Sd)):Prop where
 n:rs.length<1099511627776
 T:tot rs<1099511627776
 R:BB W p rs
 d:KD W
 v:BP W
 t:AM W
theorem CS.hp {W0 W:World} {bxs:List Bx} {p:Option Addr} {rs:List (List Sd)} (h:CS W0 p rs) (hp:Hp W0 bxs W):CS W p rs:=⟨h.n,h.T,h.R.hp hp,h.d.hp hp,h.v.hp hp,h.t.hp hp⟩
theorem CS.w {W:World} {p:Option Addr} {rs:List (List Sd)} (h:CS W p rs) (hc:chk rs=0):CH W p rs:=⟨h.n,h.R,hc,h.d,h.v,h.t⟩
def HC (rs:List (List Sd)) (a:List UInt8):Int:=if chk rs≠0 then 1 else KZ a
theorem OW {rs:List (List Sd)} {a:List UInt8} (h:HC rs a=0):chk rs=0∧ ∃q,szQ q 20∧a=Ac q:=by
 unfold HC at h
 by_cases hc:chk rs=0
 ·rw[if_neg (fun h=>h hc)] at h
  exact⟨hc,UM h⟩
 ·rw[if_pos hc] at h;exact absurd h (by decide)
theorem Jn (W:World) (p:Option Addr) (cap:Nat) (rs:List (List Sd)) (h:CH W p rs):Ad Tryz.prog 49 #[AD p rs.length cap] W (fun _:Unit=> .int .i64 0) (fun _=>True) (fun _=>[]):=
 (CR W p cap rs (by have:=h.n;omega) (by have:=(CP h.c).2.1;omega) h.R).cast (by rw[h.c])
theorem Ra (W:World) (p:Option Addr) (cap:Nat) (rs:List (List Sd)) (h:CH W p rs):
  Ad Tryz.prog 10 #[AD p rs.length cap] W (fun _:Unit=> .tuple #[str (Ac (Rd rs 0)), .int .i64 0]) (fun _=>True) (fun _=>[]):=by
 have hpos:=J6 h.c
 refine Ab (args:=[AD p rs.length cap]) Tryz.func10 I I I ?_
 refine zA (zB ?_)
 (refine Ax rfl rfl rfl rfl ?_;intro)
 refine wP I (wP I (Aa (zE (zA (zA (zB (wB 0 I I I (wC I I (fun W1 hp=>Jn W1 p cap rs (h.hp hp)) (wP I (Aa (zE (zS I (zI ?_)))))))))))))
 refine zE (zA (zB (wB 0 I I I ?_)))
 refine wD (X:=Vec) I I (fun W1 hp=>Gx W1 p cap rs (h.hp hp)) ?_
 intro V hV
 obtain⟨pL,cL,hLv,hLr⟩:=Vec.num hV
 obtain⟨gL,hpe,hLq⟩:=hLr hpos
 subst hpe
 rw[hLv]
 refine wJ ?_
 exact wL 0 I I (fun W1 hp=>PQ hLq hp 1 I 0 hpos) I (wP I (wP I (Aa (zE (zO (wR2 I I I))))))
theorem WB (W:World) (p:Option Addr) (cap:Nat) (rs:List (List Sd)) (h:CS W p rs) (hc:chk rs≠0):
  Ad Tryz.prog 10 #[AD p rs.length cap] W (fun _:Unit=> .tuple #[str [], .int .i64 1]) (fun _=>True) (fun _=>[]):=by
 have hn:=h.n
 have hT:=h.T
 refine Ab (args:=[AD p rs.length cap]) Tryz.func10 I I I ?_
 refine zA (zB ?_)
 (refine Ax rfl rfl rfl rfl ?_;intro)
 refine wP I (wP I (Aa (zE (zA (zA (zB (wB 0 I I I (wC I I (fun W1 hp=>CR W1 p cap rs (by omega) (by omega) (h.R.hp hp)) (wP I (wU 6 true I (bne_iff_ne.2 hc) (Aa (zE (zR I ?_)))))))))))))
 exact zA (zB (wP I (wP I (Aa (zE (zO (zP (wR2 I I I))))))))
theorem Tc (W:World) (p:Option Addr) (cap:Nat) (rs:List (List Sd)) (h:CH W p rs):
  Ad Tryz.prog 12 #[AD p rs.length cap] W (fun V:Vec=> .tuple #[V.val (BM rs).length, .int .i64 0]) (fun V=>V.OK 1 (BM rs).length (nS (BM rs))) (fun V=>[V.bx 25 (nS (BM rs))]):=by
 refine Ab (args:=[AD p rs.length cap]) Tryz.func12 I I I ?_
 refine zA (zB ?_)
 (refine Ax rfl rfl rfl rfl ?_;intro)
 refine wP I (wP I (Aa (zE (zA (zA (zB (wB 0 I I I (wC I I (fun W1 hp=>Jn W1 p cap rs (h.hp hp)) (wP I (Aa (zE (zS I (zI ?_)))))))))))))
 refine zE (zA (zB (wB 0 I I I ?_)))
 refine wD (X:=Vec) I I (fun W1 hp=>Gx W1 p cap rs (h.hp hp)) ?_
 intro V hV
 exact wP I (wP I (Aa (zE (zO (AJ tH I (.tmp I) (.tmp I) V I hV fun W hp=>Au.of_hp1 hp 1 I)))))
theorem YH (W:World) (p:Option Addr) (cap:Nat) (rs:List (List Sd)) (h:CS W p rs) (hc:chk rs≠0):
  Ad Tryz.prog 12 #[AD p rs.length cap] W (fun _:Unit=> .tuple #[.slice none 0 0, .int .i64 1]) (fun _=>True) (fun _=>[]):=by
 have hn:=h.n
 have hT:=h.T
 refine Ab (args:=[AD p rs.length cap]) Tryz.func12 I I I ?_
 refine zA (zB ?_)
 (refine Ax rfl rfl rfl rfl ?_;intro)
 refine wP I (wP I (Aa (zE (zA (zA (zB (wB 0 I I I (wC I I (fun W1 hp=>CR W1 p cap rs (by omega) (by omega) (h.R.hp hp)) (wP I (wU 6 true I (bne_iff_ne.2 hc) (Aa (zE (zR I ?_)))))))))))))
 exact zA (zB (wP I (wP I (Aa (zE (zO (zP (wR2 I I I))))))))
theorem SS (W:World) (p:Option Addr) (cap:Nat) (rs:List (List Sd)) (h:CH W p rs):
  Ad Tryz.prog 15 #[AD p rs.length cap] W (fun _:Unit=> .tuple #[str (Ac (Rd rs ((BM rs).length-1))), .int .i64 0]) (fun _=>True) (fun _=>[]):=by
 have hpos:=J6 h.c
 have hlen:=M1 (CP h.c).2.1
 refine Ab (args:=[AD p rs.length cap]) Tryz.func15 I I I ?_
 refine zA (zB ?_)
 (refine Ax rfl rfl rfl rfl ?_;intro)
 refine wP I (wP I (Aa (zE (zA (zA (zB (wB 0 I I I (wC I I (fun W1 hp=>Jn W1 p cap rs (h.hp hp)) (wP I (Aa (zE (zS I (zI ?_)))))))))))))
 refine zE (zA (zB (wB 0 I I I ?_)))
 refine wD (X:=Vec) I I (fun W1 hp=>Gx W1 p cap rs (h.hp hp)) ?_
 intro V hV
 obtain⟨pL,cL,hLv,hLr⟩:=Vec.num hV
 obtain⟨gL,hpe,hLq⟩:=hLr hpos
 subst hpe
 rw[hLv]
 obtain⟨m,hm⟩: ∃m,m=(BM rs).length-1:=⟨_,rfl⟩
 have hml:m<(BM rs).length:=by omega
 rw[←hm]
 refine wP I (Aa (zE (zA (zB (wP I (wP I (wP I (wP I (wV 13 (m:Nat) I ((Ai (by omega) (by omega)).trans (by omega)) ?_)))))))))
 refine wJ ?_
 exact wL 0 I I (fun W1 hp=>PQ hLq hp 1 I m hml) I (wP I (wP I (Aa (zE (zO (wR2 I I I))))))
theorem X9 (W:World) (p:Option Addr) (cap:Nat) (rs:List (List Sd)) (h:CS W p rs) (hc:chk rs≠0):
  Ad Tryz.prog 15 #[AD p rs.length cap] W (fun _:Unit=> .tuple #[str [], .int .i64 1]) (fun _=>True) (fun _=>[]):=by
 have hn:=h.n
 have hT:=h.T
 refine Ab (args:=[AD p rs.length cap]) Tryz.func15 I I I ?_
 refine zA (zB ?_)
 (refine Ax rfl rfl rfl rfl ?_;intro)
 refine wP I (wP I (Aa (zE (zA (zA (zB (wB 0 I I I (wC I I (fun W1 hp=>CR W1 p cap rs (by omega) (by omega) (h.R.hp hp)) (wP I (wU 7 true I (bne_iff_ne.2 hc) (Aa (zE (zR I ?_)))))))))))))
 exact zA (zB (wP I (wP I (Aa (zE (zO (zP (wR2 I I I))))))))
theorem S3 (W:World) (p:Option Addr) (cap:Nat) (rs:List (List Sd)) (h:CS W p rs) (a:List UInt8) (hl:a.length≤4000000000) (he:HC rs a≠0):
  Ad Tryz.prog 17 #[AD p rs.length cap,str a] W (fun _:Unit=> .tuple #[.slice none 0 0, .int .i64 (HC rs a)]) (fun _=>True) (fun _=>[]):=by
 have hn:=h.n
 have hT:=h.T
 refine Ab (args:=[AD p rs.length cap,str a]) Tryz.func17 I I I ?_
 refine zA (zB ?_)
 (refine Ax rfl rfl rfl rfl ?_;intro)
 refine wP I (wP I (Aa (zE (zA (zA (zB (wB 0 I I I (wP I (wC I I (fun W1 hp=>Fq W1 p cap rs (by omega) (by omega) (h.R.hp hp) a hl (h.t.hp hp)) (wP I (Aa (zE (zA ?_)))))))))))))
 refine zB (wP I (wP I (wU 17 true I (bne_iff_ne.2 he) (Aa (zE (zR I (zA (zB (wP I (wP I (wP I (Aa (zE ?_)))))))))))))
 exact zO (zP (wR2 I I I))
theorem UN (W:World) (p:Option Addr) (cap:Nat) (rs:List (List Sd)) (h:CS W p rs) (a:List UInt8) (hl:a.length≤4000000000) (he:HC rs a≠0):
  Ad Tryz.prog 19 #[AD p rs.length cap,str a] W (fun _:Unit=> .tuple #[.slice none 0 0, .int .i64 (HC rs a)]) (fun _=>True) (fun _=>[]):=by
 have hn:=h.n
 have hT:=h.T
 refine Ab (args:=[AD p rs.length cap,str a]) Tryz.func19 I I I ?_
 refine zA (zB ?_)
 (refine Ax rfl rfl rfl rfl ?_;intro)
 refine wP I (wP I (Aa (zE (zA (zA (zB (wB 0 I I I (wP I (wC I I (fun W1 hp=>Fq W1 p cap rs (by omega) (by omega) (h.R.hp hp) a hl (h.t.hp hp)) (wP I (Aa (zE (zA ?_)))))))))))))
 refine zB (wP I (wP I (wU 20 true I (bne_iff_ne.2 he) (Aa (zE (zR I (zA (zB (wP I (wP I (wP I (Aa (zE ?_)))))))))))))
 exact zO (zP (wR2 I I I))
-- BOXES 5
-- CODE2
theorem Yy (W:World) (p:Option Addr) (cap:Nat) (rs:List (List Sd)) (h:CS W p rs) (hc:chk rs≠0):
  Ad Tryz.prog 41 #[AD p rs.length cap] W (fun _:Unit=> .tuple #[.slice none 0 0, .int .i64 1]) (fun _=>True) (fun _=>[]):=by
 have hn:=h.n
 have hT:=h.T
 refine Ab (args:=[AD p rs.length cap]) Tryz.func41 I I I ?_
 refine zA (zB ?_)
 (refine Ax rfl rfl rfl rfl ?_;intro)
 refine wP I (wP I (Aa (zE (zA (zA (zB (wB 0 I I I (wC I I (fun W1 hp=>Fe W1 p cap rs (by omega) (by omega) (h.R.hp hp)) (wP I (wU 11 true I (bne_iff_ne.2 hc) (Aa (zE (zR I ?_)))))))))))))
 exact zA (zB (wP I (wP I (Aa (zE (zO (zP (wR2 I I I))))))))
theorem KM (W:World) (p:Option Addr) (cap:Nat) (rs:List (List Sd)) (h:CS W p rs) (hc:chk rs≠0):
  Ad Tryz.prog 48 #[AD p rs.length cap] W (fun _:Unit=> .tuple #[.slice none 0 0, .slice none 0 0, .int .i64 1]) (fun _=>True) (fun _=>[]):=by
 refine Ab (args:=[AD p rs.length cap]) Tryz.func48 I I I ?_
 refine zA (zB ?_)
 (refine Ax rfl rfl rfl rfl ?_;intro)
 (refine Ah Tryz.hZ rfl rfl rfl rfl ?_;intro)
 (refine Ah Tryz.hZ rfl rfl rfl rfl ?_;intro)
 (refine Ah Tryz.hZ rfl rfl rfl rfl ?_;intro)
 refine Aa (zE (zA (zB (wB 0 I I I (wC I I (fun W1 hp=>Yy W1 p cap rs (h.hp hp) hc) (wP I (wP I (wP I ?_))))))))
 (refine Ah Tryz.hZ rfl rfl rfl rfl ?_;intro)
 refine wS 4 I I I (wP I (Aa (zE (zA (zA (zB (wP I (wP I (Aa (zE (zR I (zA (zB ?_)))))))))))))
 exact wS 1 I I I (wS 2 I I I (wS 3 I I I (Aa (zE (zO (zP (LE tH I (.cell 1 I I I I I) (.cell 2 I I I I I) (.cell 3 I I I I I) () I O fun W _=>Au.nil _ _)))))))
theorem VQ (W:World) (p:Option Addr) (cap:Nat) (rs:List (List Sd)) (h:CS W p rs) (hc:chk rs≠0):
  Ad Tryz.prog 9 #[AD p rs.length cap] W (fun _:Unit=> .tuple #[str [], .int .i64 1]) (fun _=>True) (fun _=>[]):=by
 refine Ab (args:=[AD p rs.length cap]) Tryz.func9 I I I ?_
 refine zA (zB ?_)
 (refine Ax rfl rfl rfl rfl ?_;intro)
 refine wP I (wP I (Aa (zE (zA (zB (wB 0 I I I (wC I I (fun W1 hp=>KM W1 p cap rs (h.hp hp) hc) ?_)))))))
 iterate 7 refine wP I ?_
 refine Aa (zE (zA (zA (zB (wP I (wP I (Aa (zE (zR I (zA (zB (wP I (wP I (wP I ?_))))))))))))))
 exact Aa (zE (zO (zP (wR2 I I I))))
theorem XD (W:World) (p:Option Addr) (cap:Nat) (rs:List (List Sd)) (h:CS W p rs) (hc:chk rs≠0):
  Ad Tryz.prog 11 #[AD p rs.length cap] W (fun _:Unit=> .tuple #[.slice none 0 0, .int .i64 1]) (fun _=>True) (fun _=>[]):=by
 refine Ab (args:=[AD p rs.length cap]) Tryz.func11 I I I ?_
 refine zA (zB ?_)
 (refine Ax rfl rfl rfl rfl ?_;intro)
 refine wP I (wP I (Aa (zE (zA (zB (wB 0 I I I (wC I I (fun W1 hp=>KM W1 p cap rs (h.hp hp) hc) ?_)))))))
 iterate 7 refine wP I ?_
 exact Aa (zE (zA (zB (wP I (wP I (wP I (wP I (Aa (zE (zO (wR2 I I I)))))))))))
theorem X6 (W:World) (p:Option Addr) (cap:Nat) (rs:List (List Sd)) (h:CS W p rs) (hc:chk rs≠0):
  Ad Tryz.prog 14 #[AD p rs.length cap] W (fun _:Unit=> .tuple #[str [], .int .i64 1]) (fun _=>True) (fun _=>[]):=by
 refine Ab (args:=[AD p rs.length cap]) Tryz.func14 I I I ?_
 refine zA (zB ?_)
 (refine Ax rfl rfl rfl rfl ?_;intro)
 refine wP I (wP I (Aa (zE (zA (zB (wB 0 I I I (wC I I (fun W1 hp=>KM W1 p cap rs (h.hp hp) hc) ?_)))))))
 iterate 7 refine wP I ?_
 refine Aa (zE (zA (zA (zB (wP I (wP I (Aa (zE (zR I (zA (zB (wP I (wP I (wP I ?_))))))))))))))
 exact Aa (zE (zO (zP (wR2 I I I))))
theorem NT (a:List UInt8) (hl:a.length≤4000000000) (W:World) (hv:BP W) (ht:AM W):
  Ad Tryz.prog 110 #[str a] W (fun _:Unit=> .tuple #[str (rdR a).1.1,str (rdR a).1.2, .int .i64 (rdR a).2]) (fun _=>True) (fun _=>[]):=by
 refine Ab (args:=[str a]) Tryz.func110 I I I ?_
 refine zA (zB (wP I (wP I (wP I (Aa (zE (zA (zB (wP I (wC I I (fun W hp=>(Dg a hl W (hv.hp hp) (ht.hp hp)).cast (v':= .tuple #[Jb (rdR a).1.1 (rdR a).1.2, .int .i64 (rdR a).2]) I) (wP I (wP I (wP I ?_)))))))))))))
 (refine Ah Tryz.hZ rfl rfl rfl rfl ?_;intro)
 refine wS 0 I I I (wP I (Aa (zE (zA (zU (qP I (qB 0 I I I (qP I (qB 0 I I I (qP I (qP I (qP I (qP I ?_)))))))))))))
 exact A4 (Aa (zE (zO (wR3 I I I))))
theorem II (W:World) (p:Option Addr) (cap:Nat) (rs:List (List Sd)) (h:CS W p rs) (a:List UInt8) (hl:a.length≤4000000000):
  Ad Tryz.prog 51 #[AD p rs.length cap,str a] W (fun _:Unit=> .int .i64 (HC rs a)) (fun _=>True) (fun _=>[]):=by
 have hn:=h.n
 have hT:=h.T
 refine Ab (args:=[AD p rs.length cap,str a]) Tryz.func51 I I I ?_
 refine zA (zB ?_)
 (refine Ax rfl rfl rfl rfl ?_;intro)
 refine wP I (Aa (zE (zA (zA (zB (wB 0 I I I (wC I I (fun W1 hp=>Fe W1 p cap rs (by omega) (by omega) (h.R.hp hp)) (wP I ?_))))))))
 by_cases hc:chk rs=0
 rotate_left
 ·exact wU 10 true I (bne_iff_ne.2 hc) (Aa (zE (zR I (zA (zB (wP I (Aa (zE (zO (zP (wR1 I I (by unfold HC;rw[if_pos hc]))))))))))))
 have e1:HC rs a=KZ a:=by unfold HC;rw[if_neg (fun h=>h hc)]
 rw[e1]
 refine wU 10 false I (bne_eq_false_iff_eq.2 hc) (Aa (zE (zS I (zI (zE (zA (zB ?_)))))))
 by_cases he:(rdR a).2=0
 rotate_left
 ·skip
  refine wP I (wC I I (fun W1 hp=>NT a hl W1 (h.v.hp hp) (h.t.hp hp)) ?_)
  iterate 7 refine wP I ?_
  refine Aa (zE (zA (zA (zB (wP I (wP I (wU 18 true I (bne_iff_ne.2 he) (Aa (zE (zR I (zA (zB (wP I (wP I ?_))))))))))))))
  exact Aa (zE (zO (zP (wR1 I I (by unfold KZ;rw[if_pos he])))))
 obtain⟨q,hk,rfl⟩:=LW he
 have hE:KZ (Ac q)=if SP (Ac q)=true then 4 else 0:=by unfold KZ;rw[if_neg (fun h=>h he)]
 rw[hE,Mi]
 refine wP I (wC I I (fun W1 hp=>Hl q hk W1 (h.v.hp hp) (h.t.hp hp)) ?_)
 iterate 7 refine wP I ?_
 refine Aa (zE (zA (zA (zB (wP I (wP I (Aa (zE (zS I (zI (zE (zA (zA ?_)))))))))))))
 refine zB (wP I (wC I I (fun W1 _=>Cj (itoa q.num) [45] W1) ?_))
 refine Al 21 (str (decDigits q.num.natAbs)) I (by rw[Bg]) ?_
 refine wP I ?_
 refine Al 22 (.int .i64 ((decDigits q.num.natAbs).length:Nat)) I (congrArg (fun n:Nat=>Value.int .i64 (n:Int)) (A0 _)) ?_
 refine wP I ?_
 by_cases h1:20<(decDigits q.num.natAbs).length
 ·refine wU 23 true I (dT (by omega)) (wP I ?_)
  iterate 3 refine Ae I I ?_
  exact wP I (Aa (zE (zR I (zA (zB (wP I (Aa (zE (zO (zP (wR1 I I (by rw[dT h1];rfl))))))))))))
 rw[dF h1,Bool.false_or]
 refine wU 23 false I (dF (by omega)) (wP I (wP I (wP I ?_)))
 refine Al 26 (.int .i64 ((decDigits q.den).length:Nat)) I (congrArg (fun n:Nat=>Value.int .i64 (n:Int)) ((A0 _).trans (by rw[EJ]))) ?_
 refine wP I (wU 27 (decide (20<(decDigits q.den).length)) I (decide_eq_decide.2 (by omega)) (wP I (Aa (zE ?_))))
 refine Af I (fun h2=> ?_) (fun h2=> ?_)
 ·exact zA (zB (wP I (Aa (zE (zO (zP (wR1 I I (by rw[if_pos h2]))))))))
 ·exact zI (zE (zA (zB (wP I (Aa (zE (zO (wR1 I I (by rw[h2,if_neg (by decide)])))))))))
theorem Tk (W:World) (p:Option Addr) (cap:Nat) (rs:List (List Sd)) (h:CS W p rs) (a:List UInt8) (hl:a.length≤4000000000) (he:HC rs a≠0):
  Ad Tryz.prog 16 #[AD p rs.length cap,str a] W (fun _:Unit=> .tuple #[.slice none 0 0, .int .i64 (HC rs a)]) (fun _=>True) (fun _=>[]):=by
 refine Ab (args:=[AD p rs.length cap,str a]) Tryz.func16 I I I ?_
 refine zA (zB ?_)
 (refine Ax rfl rfl rfl rfl ?_;intro)
 refine wP I (wP I (Aa (zE (zA (zA (zB (wB 0 I I I (wP I (wC I I (fun W1 hp=>II W1 p cap rs (h.hp hp) a hl) (wP I (Aa (zE (zA ?_)))))))))))))
 refine zB (wP I (wP I (wU 17 true I (bne_iff_ne.2 he) (Aa (zE (zR I (zA (zB (wP I (wP I (wP I (Aa (zE ?_)))))))))))))
 exact zO (zP (wR2 I I I))
theorem Vl (W:World) (p:Option Addr) (cap:Nat) (rs:List (List Sd)) (h:CS W p rs) (a:List UInt8) (hl:a.length≤4000000000) (he:HC rs a≠0):
  Ad Tryz.prog 18 #[AD p rs.length cap,str a] W (fun _:Unit=> .tuple #[.slice none 0 0, .int .i64 (HC rs a)]) (fun _=>True) (fun _=>[]):=by
 refine Ab (args:=[AD p rs.length cap,str a]) Tryz.func18 I I I ?_
 refine zA (zB ?_)
 (refine Ax rfl rfl rfl rfl ?_;intro)
 refine wP I (wP I (Aa (zE (zA (zA (zB (wB 0 I I I (wP I (wC I I (fun W1 hp=>II W1 p cap rs (h.hp hp) a hl) (wP I (Aa (zE (zA ?_)))))))))))))
 refine zB (wP I (wP I (wU 17 true I (bne_iff_ne.2 he) (Aa (zE (zR I (zA (zB (wP I (wP I (wP I (Aa (zE ?_)))))))))))))
 exact zO (zP (wR2 I I I))
-- BOXES 6
-- CODE2
def M6 (W:World) (p:Option Addr) (l:List Nat):Prop:=l=[]∨ ∃b off,p=some ⟨b,off,none⟩∧ ∀k (_:k<l.length),An W b (off+k*1) [.int .i64 (l[k]:Nat)]
theorem M6.row {W:World} {p:Option Addr} {l:List Nat} (h:M6 W p l) {i:Nat} (hi:i<l.length): ∃b off,p=some ⟨b,off,none⟩∧ ∀k (_:k<l.length),An W b (off+k*1) [.int .i64 (l[k]:Nat)]:=by
 rcases h with rfl|h
 ·exact absurd hi (Nat.not_lt_zero _)
 ·exact h
theorem Q3 {W:World} {b:Nat} {l:List Nat} {junk:List Value} (h:An W b 0 (iC l++junk)):M6 W (some ⟨b,0,none⟩) l:= .inr ⟨b,0,rfl,fun k hk=>⟨h.lt,fun m u hu=>by
 have hm:m=0:=by have:=(List.getElem?_eq_some_iff.1 hu).1;simpa using this
 subst hm
 have:=h.get k u (by
  rw[List.getElem?_append_left (by rw[List.length_map];exact hk),List.getElem?_map,List.getElem?_eq_getElem hk]
  exact hu)
 rw[Nat.mul_one,Nat.add_zero];exact this⟩⟩
theorem MS {V:Vec} {l:List Nat} (hV:V.OK 1 l.length (iC l)): ∃p cap,V.val l.length= .slice p l.length cap∧
  ∀ {W0 W:World} {bxs:List Bx},Hp W0 bxs W→ ∀k,nth bxs k=some (V.bx 3 (iC l))→M6 W p l:=by
 obtain⟨p,cap,junk⟩:=V
 cases p with
 |none=>
  have h0:=hV.nil rfl
  exact⟨none,0,by rw[h0];rfl,fun _ _ _=> .inl (List.length_eq_zero_iff.1 h0)⟩
 |some g=>exact⟨some ⟨g,0,none⟩,cap,rfl,fun {W0 W bxs} hp k hk=>Q3 (An.of_bx hp k hk rfl)⟩
theorem JI (W:World) (p q:Option Addr) (cap cap2:Nat) (xs ys:List Nat) (hA:M6 W p xs) (hB:M6 W q ys) (hn:xs.length<4611686018427387904) (hm:ys.length<4611686018427387904):
  Ad Tryz.prog 20 #[.slice p xs.length cap, .slice q ys.length cap2] W (fun _:Unit=> .bool (decide (xs=ys))) (fun _=>True) (fun _=>[]):=by
 refine Ab (args:=[.slice p xs.length cap, .slice q ys.length cap2]) Tryz.func20 I I I ?_
 refine zA (zB (wP I (Aa (zE (zA (zA (zB ?_)))))))
 iterate 5 refine wP I ?_
 by_cases hl:xs.length=ys.length
 ·refine wU 10 false I (by rw[hl];simp) (Aa (zE (zS I (zI (zE (zA (zA (zB (wP I (wP I (wP I (Aa (A3 ?_)))))))))))))
  refine A8 (X:=Unit) (fun _=>[(4, .bool false)]) (fun _=>[]) (fun _=>xs=ys) ?_ ?_
  ·refine BL ?_
   refine At (X:=Nat) (fun i=>[(0, .slice p xs.length cap),(1, .slice q ys.length cap2),(4, .bool false),(12, .int .i64 (xs.length:Nat)),(13, .int .i64 (i:Nat))]) (fun _=>[]) (fun i=>i≤xs.length∧xs.take i=ys.take i) (fun i=>xs.length-i) 0 ⟨Nat.zero_le _,I⟩ ⟨I,I,I,I,I,O⟩ [] I ?_
   rintro i ⟨hi,he⟩
   refine zA (zB (wP I ?_))
   by_cases hlt:i<xs.length
   ·refine wU 14 true I (dT (by omega)) (Aa (zE (zA (zR I (zI (zE (zA (zH (zA (zB ?_))))))))))
    obtain⟨pb,po,rfl,hr1⟩:=hA.row hlt
    obtain⟨qb,qo,rfl,hr2⟩:=hB.row (show i<ys.length by omega)
    refine wP I (wP I (Aa (zE (zA (zU (qP I (qP I ?_)))))))
    refine qJ ?_
    refine qL 0 I I (fun W hp=>(hr1 i hlt).hp hp) I (qP I (qP I ?_))
    refine qJ ?_
    refine qL 0 I I (fun W hp=>(hr2 i (by omega)).hp hp) I (qP I ?_)
    by_cases hx:xs[i]=ys[i]
    ·exact qU 24 false I (by rw[hx];simp) (A4 (Aa (zE (zS I (zI (zN (zE (zB (wP I (wV 25 ((i+1:Nat):Int) I (Ar (by omega)) (wP I (Aa (Aj (i+1) ⟨hlt,by rw[List.take_add_one,List.take_add_one,he,List.getElem?_eq_getElem hlt,List.getElem?_eq_getElem (by omega),hx]⟩ (by show xs.length-(i+1)<xs.length-i;omega) ⟨I,I,I,I,I,O⟩ [] I)))))))))))))
    ·refine qU 24 true I (bne_iff_ne.2 (by omega)) (A4 (Aa (zE (zR I (zA (zB (wP I (Aa (zE (zO (zQ (zP (zP ?_)))))))))))))
     exact zQ (zP (wR1 rfl rfl (by rw[dF fun e=>hx (by subst e;rfl)])))
   ·exact wU 14 false I (dF (by omega)) (Aa (zE (zA (zS I (zJ (zK (zK (zL (Ak () (by rw[List.take_of_length_le (by omega),List.take_of_length_le (by omega)] at he;exact he) ⟨I,O⟩ [] I)))))))))
  ·intro _ he
   have he:xs=ys:=he
   exact zA (zB (wP I (Aa (zE (zO (wR1 I I (by rw[dT he])))))))
 ·exact wU 10 true I (by rw[bne_iff_ne];omega) (Aa (zE (zR I (zA (zB (wP I (Aa (zE (zO (zP (wR1 I I (by rw[dF fun e=>hl (by rw[e])]))))))))))))
def sq1 (x y:Int):Sd:=⟨x,y,1,1,false,0,0⟩
def sqG:Sd:=⟨0,0,0,0,true,0,0⟩
def sqL (g:Bool):List Sd:=[if g then sqG else sq1 0 0,sq1 10 0,sq1 10 10,sq1 0 10]
theorem IF (x y:Int) (W:World):Ad Tryz.prog 99 #[.int .i64 x, .int .i64 y] W (fun _:Unit=>(sq1 x y).val) (fun _=>True) (fun _=>[]):=by
 refine Ab (args:=[.int .i64 x, .int .i64 y]) Tryz.func99 I I I ?_
 refine zA (zB ?_)
 (refine Ah Tryz.hZ rfl rfl rfl rfl ?_;intro)
 refine Aa (zE (zA (zB (wP I (wP I ?_)))))
 refine A5 Tryz.hZ tH I I I I I I I I ?_
 exact wS 0 I I I (Aa (zE (zO (A9 tH I (.cell 0 I I I I I) () I O fun W _=>Au.nil _ _))))
theorem Ft (g:Bool) (W:World):Ad Tryz.prog 47 #[.bool g] W (fun x:Nat×Nat=>AD (some ⟨x.2,0,none⟩) 1 1) (fun _=>True)
  (fun x=>[⟨x.1,80,cellsOf (sqL g),true,none⟩,bxE x.2 76 (slv (some ⟨x.1,0,none⟩) 4 4)]):=by
 refine Ab (args:=[.bool g]) Tryz.func47 I I I ?_
 refine zA (zB ?_)
 (refine Ah Tryz.hZ rfl rfl rfl rfl ?_;intro)
 refine Aa (zE (zA (zB (wP I (Aa (zE (zA (zB (wP I ?_)))))))))
 refine AU (capt:=[]) I I I I I I (by kernel_rfl) (fun W _=>IF 0 0 W) ?_
 refine wP I ?_
 refine AU (capt:=[]) I I I I I I (by kernel_rfl) (fun W _=>IF 10 0 W) ?_
 refine wP I ?_
 refine AU (capt:=[]) I I I I I I (by kernel_rfl) (fun W _=>IF 10 10 W) ?_
 refine wP I ?_
 refine AU (capt:=[]) I I I I I I (by kernel_rfl) (fun W _=>IF 0 10 W) ?_
 refine As Tryz.hZ tH I I I I I I I I I I I fun bS=> ?_
 refine wP I (Aa (zE (zA (zA (zB (wP I (Aa ?_)))))))
 cases g with
 |false=>
  refine zE (zS I (zI (zE (zA (zB (wP I ?_))))))
  refine As Tryz.hZ tH I I I I I I I I I I I fun bR=> ?_
  refine A5 Tryz.hZ tH I I I I I I I I ?_
  exact wS 0 I I I (Aa (zE (zO (A9 tH I (.cell 0 I I I I I) (bS,bR) I O fun W hp=>Au.of_hp (hp.pick (l:=[⟨bS,80,cellsOf (sqL false),true,none⟩,bxE bR 76 (slv (some ⟨bS,0,none⟩) 4 4)]) [1,2] (by decide) I)))))
 |true=>
  refine zE (zR I (zB (wP I ?_)))
  refine A5 Tryz.hZ tH I I I I I I I I ?_
  refine wJ ?_
  refine wS 1 I I I (Aa (zE (zA (zB (wP I ?_)))))
  refine As Tryz.hZ tH I I I I I I I I I I I fun bR=> ?_
  refine A5 Tryz.hZ tH I I I I I I I I ?_
  exact wS 0 I I I (Aa (zE (zO (A9 tH I (.cell 0 I I I I I) (bS,bR) I O fun W hp=>Au.of_hp (hp.pick (l:=[⟨bS,80,cellsOf (sqL true),true,none⟩,bxE bR 76 (slv (some ⟨bS,0,none⟩) 4 4)]) [1,2] (by decide) I)))))
theorem P7 {g:Bool} {bS bR:Nat} {W0 W:World} {bxs:List Bx} (hp:Hp W0 bxs W) (k i:Nat) (hk:nth bxs k=some ⟨bS,80,cellsOf (sqL g),true,none⟩) (hi:nth bxs i=some (bxE bR 76 (slv (some ⟨bS,0,none⟩) 4 4))):BB W (some ⟨bR,0,none⟩) [sqL g]:=by
 refine .inr ⟨bR,0,I,⟨fun j l hl=> ?_⟩⟩
 have hj:j=0:=by have:=(List.getElem?_eq_some_iff.1 hl).1;simpa using this
 subst hj
 have hl:sqL g=l:=by simpa using hl
 subst hl
 have hrow:=An.of_bx hp k hk rfl
 exact⟨some ⟨bS,0,none⟩,4,An.of_bx hp i hi I, .inr ⟨bS,0,I,FQ.of_cells hrow.lt fun j u hj=>hrow.get j u hj⟩⟩
theorem Z5 (g:Bool):chk [sqL g]=0:=by cases g<;>decide+kernel
theorem Zy:BM [sqL false]=[q2 0 1,q2 5 1]:=by decide+kernel
theorem YZ:BM [sqL true]=[q2 0 1,q2 5 1,q2 10 1]:=by decide+kernel
theorem Zs:KO (Ao [sqL true]) (q2 5 1) true=[1,3]:=by decide+kernel
theorem ZG:prW (Ao [sqL false]) (q2 5 1)=[(0,2),(1,3)]:=by decide+kernel
-- BOXES 14
-- CODE2
theorem HA (W:World) (p q:Option Addr) (cp cq:Nat) (L:List (Nat×Nat)) (hn:L.length<4611686018427387904) (hp0:Mu W p L) (hq0:Mu W q L):
  Ad Tryz.prog 21 #[.slice p L.length cp, .slice q L.length cq] W (fun _:Unit=> .bool true) (fun _=>True) (fun _=>[]):=by
 refine Ab (args:=[.slice p L.length cp, .slice q L.length cq]) Tryz.func21 I I I ?_
 refine zA (zB (wP I (Aa (zE (zA (zA (zB ?_)))))))
 iterate 5 refine wP I ?_
 refine wU 11 false I (by simp) (Aa (zE (zS I (zI (zE (zA (zA (zB (wP I (Aa (zE (zH ?_))))))))))))
 refine At (X:=Nat) (fun i=>[(0, .slice p L.length cp),(1, .slice q L.length cq),(5, .int .i64 (i:Nat))]) (fun _=>[]) (fun i=>i≤L.length) (fun i=>L.length-i) 0 (Nat.zero_le _) ⟨I,I,I,O⟩ [] I ?_
 intro i hi
 have hi:i≤L.length:=hi
 refine zA (zA (zB (wP I (wP I (wP I (wP I ?_))))))
 by_cases hlt:i<L.length
 ·refine wU 15 true I (dT (by omega)) (Aa (zE (zR I (zI (zE (zA (zH (zA (zA (zU ?_))))))))))
  obtain⟨g1,o1,rfl,h1⟩:=hp0.at_ hlt
  obtain⟨g2,o2,rfl,h2⟩:=hq0.at_ hlt
  obtain⟨c1,s1,r1⟩:=h1 i hlt
  obtain⟨c2,s2,r2⟩:=h2 i hlt
  obtain⟨⟨x,y⟩,hxy⟩: ∃xy,xy=L[i]:=⟨_,rfl⟩
  rw[←hxy] at r1 r2
  refine qP I (qP I ?_)
  refine qJ ?_
  refine qL 0 I I (fun W1 hp=>s1.hp hp) I (qP I (qP I (qP I ?_)))
  refine qJ ?_
  refine qL 0 I I (fun W1 hp=>s2.hp hp) I (qP I (qP I (A4 (Aa (zE (zS I (zI (zE (zA (zB (wP I (Aa (zE ?_)))))))))))))
  refine zH ?_
  refine At (X:=Nat) (fun k=>[(0, .slice (some ⟨g1,o1,none⟩) L.length cp),(1, .slice (some ⟨g2,o2,none⟩) L.length cq),(5, .int .i64 (i:Nat)),(6, .int .i64 (k:Nat))]) (fun _=>[]) (fun k=>k≤2) (fun k=>2-k) 0 (by decide) ⟨I,I,I,I,O⟩ [] I ?_
  intro k hk
  have hk:k≤2:=hk
  refine zA (zA (zB (wP I (wP I (wP I ?_)))))
  refine wJ ?_
  refine wL 0 I I (fun W1 hp=>s1.hp hp) I (wP I (wP I ?_))
  by_cases hk2:k<2
  ·refine wU 35 true I (dT (by show(k:Int)<((2:Nat):Int);omega)) (Aa (zE (zR I (zI (zE (zA (zH (zA (zU ?_)))))))))
   obtain⟨v,hv⟩: ∃v,v=if k=0 then x else y:=⟨_,rfl⟩
   have rr: ∀ {c:Nat},An W c 0 (prC (x,y))→An W c (0+k*1) [.int .i64 (v:Nat)]:=fun {c} h=>by
    have:k=0∨k=1:=by omega
    rcases this with rfl|rfl
    ·rw[if_pos rfl] at hv;subst hv
     exact⟨h.lt,fun m u hu=>by
      have hm:m=0:=by have:=(List.getElem?_eq_some_iff.1 hu).1;simpa using this
      subst hm
      exact h.get 0 u hu⟩
    ·rw[if_neg (by decide)] at hv;subst hv
     exact⟨h.lt,fun m u hu=>by
      have hm:m=0:=by have:=(List.getElem?_eq_some_iff.1 hu).1;simpa using this
      subst hm
      exact h.get 1 u hu⟩
   have q1:=rr r1
   have q2:=rr r2
   refine qP I (qP I ?_)
   refine qJ ?_
   refine qL 0 I I (fun W1 hp=>s1.hp hp) I (qP I ?_)
   refine qJ ?_
   refine qL 0 I I (fun W1 hp=>q1.hp hp) I (qP I (qP I ?_))
   refine qJ ?_
   refine qL 0 I I (fun W1 hp=>s2.hp hp) I (qP I ?_)
   refine qJ ?_
   refine qL 0 I I (fun W1 hp=>q2.hp hp) I (qP I (qU 52 false I (by simp) (A4 (Aa (zE (zS I (zI (zN (zE (zB (wP I (wP I (wV 37 ((k+1:Nat):Int) I (Ar (by omega)) ?_)))))))))))))
   exact wP I (Aa (Aj (k+1) (by show k+1≤2;omega) (by show 2-(k+1)<2-k;omega) ⟨I,I,I,I,O⟩ [] I))
  ·refine wU 35 false I (dF (by show¬(k:Int)<((2:Nat):Int);omega)) (Aa (zE (zS I (zJ (zK (zK (zL (zN (zE (zB (wP I (wP I (wV 17 ((i+1:Nat):Int) I (Ar (by omega)) ?_)))))))))))))
   exact wP I (Aa (Aj (i+1) hlt (by show L.length-(i+1)<L.length-i;omega) ⟨I,I,I,O⟩ [] I))
 ·refine wU 15 false I (dF (by omega)) (Aa (zE (zS I (zJ (zK (zK (zL (zE (zA (zB (wP I (Aa (zE ?_)))))))))))))
  exact zO (wR1 I I I)
theorem Z6 (g:Bool):tot [sqL g]=4:=by cases g<;>rfl
theorem LG {g:Bool} {bS bR:Nat} {W0 W:World} {bxs:List Bx} (hp:Hp W0 bxs W) (k i:Nat) (hk:nth bxs k=some ⟨bS,80,cellsOf (sqL g),true,none⟩) (hi:nth bxs i=some (bxE bR 76 (slv (some ⟨bS,0,none⟩) 4 4))) (hd:KD W0) (hv:BP W0) (ht:AM W0):CH W (some ⟨bR,0,none⟩) [sqL g]:=
 ⟨by show 1<_;decide,P7 hp k i hk hi,Z5 g,hd.hp hp,hv.hp hp,ht.hp hp⟩
theorem Xy {g:Bool} {l:List Rat} (e:BM [sqL g]=l) (W:World) (bR:Nat) (h:CH W (some ⟨bR,0,none⟩) [sqL g]):
  Ad Tryz.prog 11 #[AD (some ⟨bR,0,none⟩) 1 1] W (fun V:Vec=> .tuple #[V.val l.length, .int .i64 0]) (fun V=>V.OK 1 l.length (nS l)) (fun V=>[V.bx 25 (nS l)]):=by
 subst e
 exact MR W (some ⟨bR,0,none⟩) 1 [sqL g] h
theorem Zv (W:World) (bR:Nat) (h:CH W (some ⟨bR,0,none⟩) [sqL true]):
  Ad Tryz.prog 24 #[AD (some ⟨bR,0,none⟩) 1 1,str [53], .bool true] W (fun V:Vec=> .tuple #[V.val [1,3].length, .int .i64 0]) (fun V=>V.OK 1 [1,3].length (iC [1,3])) (fun V=>[V.bx 3 (iC [1,3])]):=by
 have h1:=Pq W (some ⟨bR,0,none⟩) 1 [sqL true] h (by rw[Z6];decide) (q2 5 1) ⟨by decide,by decide⟩ true
 rw[ns5,Zs] at h1
 exact h1
theorem Z4 (W:World) (bR:Nat) (h:CH W (some ⟨bR,0,none⟩) [sqL false]):
  Ad Tryz.prog 18 #[AD (some ⟨bR,0,none⟩) 1 1,str [53]] W (fun x:Vec×HD=> .tuple #[x.1.val x.2.length, .int .i64 0]) (fun x=>x.2.map (·.2)=[(0,2),(1,3)]∧x.1.OK 1 x.2.length (BW x.2)) (fun x=>[x.1.bx 35 (BW x.2),prB x.2]):=by
 have h1:=JG W (some ⟨bR,0,none⟩) 1 [sqL false] h (q2 5 1) ⟨by decide,by decide⟩
 rw[ns5,ZG] at h1
 exact h1
theorem Kj {V:Vec} {l:List Rat} (hV:V.OK 1 l.length (nS l)): ∃p cap,V.val l.length=slv p (l.map Ac).length cap∧
  ∀ {W0 W:World} {bxs:List Bx},Hp W0 bxs W→ ∀k,nth bxs k=some (V.bx 25 (nS l))→O2 W p (l.map Ac):=by
 have e:(l.map Ac).map str=nS l:=by simp[nS]
 obtain⟨p,cap,junk⟩:=V
 cases p with
 |none=>
  have hl:=List.length_eq_zero_iff.1 (hV.nil rfl)
  subst hl
  exact⟨none,0,I,fun _ _ _=> .inl I⟩
 |some g=>
  refine⟨some ⟨g,0,none⟩,cap,by rw[List.length_map];rfl,fun {W0 W bxs} hp k hk=> .inr ⟨g,0,I, ?_⟩⟩
  rw[e]
  exact CZ hp k (A:=[]) (C:=junk) hk I I
theorem QI {W0 W:World} {bxs:List Bx} (hp:Hp W0 bxs W) (k:Nat) {b:Nat} {t:TypeId} {l:List (List UInt8)} (hk:nth bxs k=some ⟨b,t,l.map str,true,none⟩):O2 W (some ⟨b,0,none⟩) l:= .inr ⟨b,0,rfl,An.of_bx hp k hk rfl⟩
theorem WA {W0 W:World} {bxs:List Bx} (hp:Hp W0 bxs W) (k:Nat) {b:Nat} {t:TypeId} {l:List Nat} (hk:nth bxs k=some ⟨b,t,iC l,true,none⟩):M6 W (some ⟨b,0,none⟩) l:=Q3 (junk:=[]) (by rw[List.append_nil];exact An.of_bx hp k hk rfl)
theorem e05:([q2 0 1,q2 5 1]:List Rat).map Ac=[[48],[53]]:=by rw[List.map_cons,List.map_cons,List.map_nil,ns0,ns5]
theorem aG:([q2 0 1,q2 5 1,q2 10 1]:List Rat).map Ac=[[48],[53],[49,48]]:=by rw[List.map_cons,List.map_cons,List.map_cons,List.map_nil,ns0,ns5,aN]
theorem J3 (W:World) (hd:KD W) (hv:BP W) (ht:AM W):Ad Tryz.prog 8 #[] W (fun _:Unit=> .bool true) (fun _=>True) (fun _=>[]):=by
 refine Ab (args:=[]) Tryz.func8 I I I ?_
 refine zA (zB (wP I (Aa (zE (zA (zB ?_))))))
 refine wD (X:=Nat×Nat) I I (fun W1 _=>Ft false W1) ?_
 rintro⟨s1,r1⟩ _
 refine wD (X:=Vec) I I (fun W1 hp=>Xy Zy W1 r1 (LG hp 0 1 I I hd hv ht)) ?_
 intro V1 hV1
 obtain⟨p1,c1,e1,m1⟩:=Kj hV1
 rw[e1]
 iterate 5 refine wP I ?_
 refine Aa (zE (zA (zB ?_)))
 refine wD (X:=Nat×Nat) I I (fun W1 _=>Ft true W1) ?_
 rintro⟨s2,r2⟩ _
 refine wD (X:=Vec) I I (fun W1 hp=>Xy YZ W1 r2 (LG hp 3 4 I I hd hv ht)) ?_
 intro V2 hV2
 obtain⟨p2,c2,e2,m2⟩:=Kj hV2
 rw[e2]
 iterate 5 refine wP I ?_
 refine Aa (zE (zA (zB ?_)))
 refine wD (X:=Nat×Nat) I I (fun W1 _=>Ft true W1) ?_
 rintro⟨s3,r3⟩ _
 refine wD (X:=Vec) I I (fun W1 hp=>Zv W1 r3 (LG hp 6 7 I I hd hv ht)) ?_
 intro V3 hV3
 obtain⟨p3,c3,e3,m3⟩:=MS hV3
 rw[e3]
 iterate 5 refine wP I ?_
 refine Aa (zE (zA (zB ?_)))
 refine wD (X:=Nat×Nat) I I (fun W1 _=>Ft false W1) ?_
 rintro⟨s4,r4⟩ _
 refine wD (X:=Vec×HD) I I (fun W1 hp=>Z4 W1 r4 (LG hp 9 10 I I hd hv ht)) ?_
 rintro⟨V4,mk⟩ ⟨hmk,hV4⟩
 obtain⟨p4,c4,e4,m4⟩:=KR hmk hV4
 dsimp only
 rw[e4]
 iterate 5 refine wP I ?_
 refine Aa (zE (zA (zB ?_)))
 iterate 6 refine wP I ?_
 refine Al 34 (.bool true) I I ?_
 refine wP I (wP I ?_)
 refine As Tryz.hZ tH I I I I I I I I I I I fun bA=> ?_
 refine wC I I (fun W1 hp=>(Ha W1 p1 (some ⟨bA,0,none⟩) c1 2 _ [[48],[53]] (m1 hp 2 I) (QI hp 13 I) (by decide) (by decide)).cast (v':= .bool true) (by rw[e05,dT I])) (wP I (wP I (wP I ?_)))
 refine As Tryz.hZ tH I I I I I I I I I I I fun bB=> ?_
 refine wC I I (fun W1 hp=>(Ha W1 p2 (some ⟨bB,0,none⟩) c2 3 _ [[48],[53],[49,48]] (m2 hp 5 I) (QI hp 14 I) (by decide) (by decide)).cast (v':= .bool true) (by rw[aG,dT I])) (wP I (wP I (wP I ?_)))
 refine As Tryz.hZ tH I I I I I I I I I I I fun bC=> ?_
 refine wC I I (fun W1 hp=>(JI W1 p3 (some ⟨bC,0,none⟩) c3 2 [1,3] [1,3] (m3 hp 8 I) (WA hp 15 I) (by decide) (by decide)).cast (v':= .bool true) (by rw[dT I])) (wP I (wP I (wP I ?_)))
 refine As Tryz.hZ tH I I I I I I I I I I I fun bD=> ?_
 refine As Tryz.hZ tH I I I I I I I I I I I fun bE=> ?_
 refine As Tryz.hZ tH I I I I I I I I I I I fun bF=> ?_
 refine wC I I (fun W1 hp=>HA W1 p4 (some ⟨bF,0,none⟩) c4 2 [(0,2),(1,3)] (by decide) (m4 hp 11 12 I I) (.inr ⟨bF,0,I,fun i hi=> ?_⟩)) ?_
 ·have hF:=An.of_bx hp 18 rfl rfl
  have:i=0∨i=1:=by have:i<2:=hi;omega
  rcases this with rfl|rfl
  ·exact⟨bD,⟨hF.lt,fun m u hu=>by
    have hm:m=0:=by have:=(List.getElem?_eq_some_iff.1 hu).1;simpa using this
    subst hm
    exact hF.get 0 u hu⟩,An.of_bx hp 16 I I⟩
  ·exact⟨bE,⟨hF.lt,fun m u hu=>by
    have hm:m=0:=by have:=(List.getElem?_eq_some_iff.1 hu).1;simpa using this
    subst hm
    exact hF.get 1 u hu⟩,An.of_bx hp 17 I I⟩
 exact wP I (wP I (Aa (zE (zO (wR1 I I I)))))
-- BOXES 4
-- CODE2
theorem Zg (F:List FrP) (z:Rat) {l:List (Nat×Nat)} (hl:l.length≤600):(l.filter (FK F z)).length≤600:=Nat.le_trans (List.length_filter_le ..) hl
theorem Yu (F:List FrP) (z:Rat) (l:List (Nat×Nat)) (q:Nat×Nat):(l++[q]).filter (FK F z)=if FK F z q=true then l.filter (FK F z)++[q] else l.filter (FK F z):=by
 rw[List.filter_append]
 show _++List.filter _ [q]=_
 rw[List.filter_cons,List.filter_nil]
 split
 ·rfl
 ·rw[List.append_nil]
theorem Qn (W:World) (p:Option Addr) (cap:Nat) (rs:List (List Sd)) (h:CH W p rs) (z:Rat) (hz:szQ z 20):
  Ad Tryz.prog 19 #[AD p rs.length cap,str (Ac z)] W (fun x:Vec×HD=> .tuple #[x.1.val x.2.length, .int .i64 0]) (fun x=>x.2.map (·.2)=prW (Ao rs) z∧x.1.OK 1 x.2.length (BW x.2))
   (fun x=>[x.1.bx 35 (BW x.2),prB x.2]):=by
 obtain⟨hne,h24,h0⟩:=CP h.c
 obtain⟨hrg,_⟩:=Cr h.c
 have hn:=h.n
 have hl:=BE (hz.ok (by decide))
 have eF:=Ct rs
 obtain⟨T,hTe⟩: ∃T,T=tot rs:=⟨_,rfl⟩
 have hTn:tot rs<1099511627776:=by omega
 rw[←hTe] at eF h24 h0
 refine Ab (args:=[AD p rs.length cap,str (Ac z)]) Tryz.func19 I I I ?_
 refine zA (zB ?_)
 (refine Ax rfl rfl rfl rfl ?_;intro)
 refine wP I (wP I (Aa ?_))
 rename_i b2
 refine zE (zA (zA (zB (wB 0 I I I (wP I (wC I I (fun W1 hp=>(Fq W1 p cap rs (by omega) hTn (h.R.hp hp) (Ac z) (by omega) (h.t.hp hp)).cast (v':= .int .i64 0) (by rw[if_neg (fun e=>e h.c),Q1 hz])) (wP I (Aa (zE (zA (zB (wP I (wP I ?_)))))))))))))
 refine Aa (zE (zS I (zI (zE (zA (zB (wB 0 I I I ?_)))))))
 refine wD (X:=Vec) I I (fun W1 hp=>Jr W1 p cap rs (h.hp hp)) ?_
 intro F hF
 obtain⟨gF,cF,eFv,hFr⟩:=Vec.frs hF (by omega)
 rw[eFv]
 iterate 5 refine wP I ?_
 refine Aa (zE (zA (zB ?_)))
 refine BH tH I I I I I ?_
 intro gE
 refine wP I (Aa (zE (zA (zA (zB (wP I (Aa (zE (zH ?_)))))))))
 refine Vs ?_
 refine At (X:=Nat×Vec×HD) (fun s=>[(1,str (Ac z)),(7, .slice (some ⟨gF,0,none⟩) (Ao rs).length cF),(9,s.2.1.val s.2.2.length),(10, .int .i64 (s.1:Nat))])
  (fun s=>[bxE b2 24 (slv p rs.length cap),F.bx 48 (frC (Ao rs)),s.2.1.bx 35 (BW s.2.2),prB s.2.2])
  (fun s=>s.1≤T∧s.2.1.OK 1 s.2.2.length (BW s.2.2)∧s.2.2.map (·.2)=((List.range s.1).flatMap (Fi (Ao rs))).filter (FK (Ao rs) z)) (fun s=>T-s.1) (0,⟨some gE,0,[]⟩,[]) ⟨Nat.zero_le _,⟨rfl,(fun h=>by cases h),fun _=>⟨Nat.le_refl _,Nat.zero_le _,rfl⟩⟩,rfl⟩ ⟨rfl,rfl,rfl,rfl,trivial⟩ [] rfl ?_
 rintro⟨i,V,mk⟩ ⟨hi,hV,hmk⟩
 have hi:i≤T:=hi
 have hV:V.OK 1 mk.length (BW mk):=hV
 have hmk:mk.map (·.2)=((List.range i).flatMap (Fi (Ao rs))).filter (FK (Ao rs) z):=hmk
 refine zA (zA (zB (wP I (wP I (wP I (wP I ?_))))))
 by_cases hlt:i<T
 ·refine wU 31 true I (dT (by omega)) (Aa (zE (zR I (zI (zE (zA (zH (zA (zB (wP I (wP I (wV 35 ((i+1:Nat):Int) I (Ar (by omega)) (wP I ?_)))))))))))))
  refine Aa (zE (zH ?_))
  rw[←OV] at hmk
  refine At (X:=Nat×Vec×HD) (fun s=>[(1,str (Ac z)),(7, .slice (some ⟨gF,0,none⟩) (Ao rs).length cF),(9,s.2.1.val s.2.2.length),(10, .int .i64 (i:Nat)),(11, .int .i64 (s.1:Nat))])
   (fun s=>[bxE b2 24 (slv p rs.length cap),F.bx 48 (frC (Ao rs)),s.2.1.bx 35 (BW s.2.2),prB s.2.2])
   (fun s=>(i+1≤s.1∧s.1≤T)∧s.2.1.OK 1 s.2.2.length (BW s.2.2)∧s.2.2.map (·.2)=(pdn (Ao rs) i s.1).filter (FK (Ao rs) z)) (fun s=>T-s.1) (i+1,V,mk) ⟨⟨Nat.le_refl _,hlt⟩,hV,hmk⟩ ⟨rfl,rfl,rfl,rfl,rfl,trivial⟩ [] rfl ?_
  clear hmk hV
  rintro⟨k,V,mk⟩ ⟨⟨hk1,hk⟩,hV,hmk⟩
  have hk1:i+1≤k:=hk1
  have hk:k≤T:=hk
  have hV:V.OK 1 mk.length (BW mk):=hV
  have hmk:mk.map (·.2)=(pdn (Ao rs) i k).filter (FK (Ao rs) z):=hmk
  have hml:mk.length≤600:=by
   have h1:=Zg (Ao rs) z (Ur (F:=Ao rs) (i:=i) (k:=k) (by omega) (by omega) (by omega))
   rw[←hmk,List.length_map] at h1
   exact h1
  refine zA (zA (zB (wP I (wP I (wP I (wP I ?_))))))
  by_cases hkt:k<T
  ·refine wU 39 true I (dT (by omega)) (Aa (zE (zR I (zI (zE (zA (zH (zA (zA (zU ?_))))))))))
   have hsu:=R0 (Ao rs) (show i<k by omega)
   obtain⟨f,hf⟩: ∃f,f=fr (Ao rs) i:=⟨_,rfl⟩
   obtain⟨g,hg⟩: ∃g,g=fr (Ao rs) k:=⟨_,rfl⟩
   have pf:f.Pl:=by rw[hf];exact DH hrg (ED (by omega))
   have pg:g.Pl:=by rw[hg];exact DH hrg (ED (by omega))
   have hok:FK (Ao rs) z (i,k)=(decide (f.at z=g.at z)&& !DR f g):=by unfold FK;rw[hf,hg]
   have hrf: ∀ {W0 W:World} {bxs:List Bx},Hp W0 bxs W→ ∀k,nth bxs k=some (F.bx 48 (frC (Ao rs)))→An W gF (0+i*5) (frV f).cells.toList:=fun hp k hk=>by rw[hf];exact hFr hp k hk i _ (DU (by omega))
   have hrg2: ∀ {W0 W:World} {bxs:List Bx},Hp W0 bxs W→ ∀m,nth bxs m=some (F.bx 48 (frC (Ao rs)))→An W gF (0+k*5) (frV g).cells.toList:=fun hp m hm=>by rw[hg];exact hFr hp m hm k _ (DU (by omega))
   refine qP I (qP I ?_)
   refine qJ ?_
   refine qP I (qL 0 I I (fun W1 hp=>hrf hp 1 I) I (qP I (qP I ?_)))
   refine qJ ?_
   refine qP I (qL 0 I I (fun W1 hp=>hrg2 hp 1 I) I ?_)
   refine KI Tryz.underlying4 I I I I I I ?_
   by_cases hax:f.ax=g.ax
   rotate_left
   ·have e:Ey (Ao rs) i k=[]:=by unfold Ey;rw[←hf, ←hg,if_neg hax]
    rw[e,List.append_nil] at hsu
    refine qU 52 true rfl (by cases h1:f.ax<;>cases h2:g.ax<;>simp_all) (qP rfl ?_)
    iterate 9 refine B7 I I ?_
    refine qP I (A4 (Aa (zE (zR I (zJ (zK (zL (zE (zB (wP I (wP I (wV 41 ((k+1:Nat):Int) I (Ar (by omega)) (wP I ?_)))))))))))))
    exact Aa (Aj (k+1,V,mk) ⟨⟨by show i+1≤k+1;omega,hkt⟩,hV,by rw[hsu];exact hmk⟩ (by show T-(k+1)<T-k;omega) ⟨I,I,I,I,I,O⟩ [] I)
   have e:Ey (Ao rs) i k=[(i,k)]:=by unfold Ey;rw[←hf, ←hg,if_pos hax]
   rw[e] at hsu
   have hsf:(pdn (Ao rs) i (k+1)).filter (FK (Ao rs) z)=if FK (Ao rs) z (i,k)=true then mk.map (·.2)++[(i,k)] else mk.map (·.2):=by rw[hsu,Yu,hmk]
   refine qU 52 false I (by rw[hax];simp) (qP I (qP I (qP I ?_)))
   refine qJ ?_
   refine qL 0 I I (fun W1 hp=>hrf hp 1 I) I (qP I (qP I ?_))
   refine qJ ?_
   refine qL 0 I I (fun W1 hp=>hrg2 hp 1 I) I (qC I I (fun W1 _=>NS f g W1) (qP I (A4 (Aa (zE ?_)))))
   refine Af I (fun hc=> ?_) (fun hc=> ?_)
   ·have hc:DR f g=true:=hc
    rw[hok,hc,Bool.not_true,Bool.and_false,if_neg (by decide)] at hsf
    exact zJ (zK (zL (zE (zB (wP I (wP I (wV 41 ((k+1:Nat):Int) I (Ar (by omega)) (wP I (Aa (Aj (k+1,V,mk) ⟨⟨by show i+1≤k+1;omega,hkt⟩,hV,hsf.symm⟩ (by show T-(k+1)<T-k;omega) ⟨I,I,I,I,I,O⟩ [] I))))))))))
   have hc:DR f g=false:=hc
   rw[hok,hc,Bool.not_false,Bool.and_true] at hsf
   refine zI (zE (zA (zB (wP I (wP I ?_)))))
   refine wJ ?_
   refine wL 0 I I (fun W1 hp=>hrf hp 1 I) I (wP I (wC I I (fun W1 hp=>H8 f pf.ok z (hz.mono (by decide)) W1 (h.t.hp hp)) ?_))
   iterate 5 refine wP I ?_
   refine Aa (zE (zA (zB (wP I (wP I ?_)))))
   refine wJ ?_
   refine wL 0 I I (fun W1 hp=>hrg2 hp 1 I) I (wP I (wC I I (fun W1 hp=>H8 g pg.ok z (hz.mono (by decide)) W1 (h.t.hp hp)) ?_))
   iterate 5 refine wP I ?_
   refine Aa (zE (zA (zB (wP I (wP I (wC I I (fun W1 hp=>E9 (f.at z) (g.at z) (sz2 (L6 pf hz) (L6 pg hz) (by decide)) W1 (h.t.hp hp)) (wP I (wU 85 (decide (f.at z=g.at z)) I (R3 _ _) (Aa (zE ?_))))))))))
   refine Af I (fun hc2=> ?_) (fun hc2=> ?_)
   ·rw[if_pos hc2] at hsf
    have hl1:mk.length+1=(mk++[((0:Nat),(i,k))]).length:=by rw[List.length_append];rfl
    refine zB (wP I (wP I (wP I ?_)))
    refine As Tryz.hZ tH I I I I I I I I I I I fun bA=> ?_
    refine As Tryz.hZ tH I I I I I I I I I I I fun bB=> ?_
    refine AA (V:=V) (len:=mk.length) (xs:=BW mk) 2 5 Tryz.vec38 (mk++[(bA,(i,k))]).length (BW (mk++[(bA,(i,k))])) I I I I I I I I I I I hV I I (by rw[List.length_append];rfl) (by rw[Ns];rfl) (by rw[List.length_append];simp only[maxLen,List.length_singleton];omega) (by rw[List.length_append,List.length_singleton];omega) I ?_
    intro gV cV jV hV1
    refine wP I (Aa (zN (zE (zB (wP I (wP I (wV 41 ((k+1:Nat):Int) I (Ar (by omega)) (wP I (Aa ?_)))))))))
    refine TE 3 4 (prB (mk++[(bA,(i,k))])) I I I (RG mk bA (i,k)) ?_
    exact Aj (k+1,⟨some gV,cV,jV⟩,mk++[(bA,(i,k))]) ⟨⟨by show i+1≤k+1;omega,hkt⟩,hV1,by rw[hsf];exact List.map_append⟩ (by show T-(k+1)<T-k;omega) ⟨I,I,I,I,I,O⟩ [Dc,_] I
   ·have hc2:decide (f.at z=g.at z)=false:=hc2
    rw[hc2,if_neg (by decide)] at hsf
    exact zI (zN (zE (zB (wP I (wP I (wV 41 ((k+1:Nat):Int) I (Ar (by omega)) (wP I (Aa (Aj (k+1,V,mk) ⟨⟨by show i+1≤k+1;omega,hkt⟩,hV,hsf.symm⟩ (by show T-(k+1)<T-k;omega) ⟨I,I,I,I,I,O⟩ [] I)))))))))
  ·have ek:k=(Ao rs).length:=by omega
   rw[ek,TO] at hmk
   refine wU 39 false I (dF (by omega)) (Aa (zE (zS I (zJ (zK (zK (zL (zN (zE (zB (wP I (wP I (wV 33 ((i+1:Nat):Int) I (Ar (by omega)) ?_)))))))))))))
   exact wP I (Aa (Aj (i+1,V,mk) ⟨hlt,hV,hmk⟩ (by show T-(i+1)<T-i;omega) ⟨I,I,I,I,O⟩ [] I))
 ·have ei:i=(Ao rs).length:=by omega
  rw[ei] at hmk
  refine wU 31 false I (dF (by omega)) (Aa (zE (zS I (zJ (zK (zK (zL (zE (zA (zB (wP I (wP I (wP I ?_)))))))))))))
  exact Aa (zE (zO (AJ tH I (.tmp I) (.tmp I) (V,mk) I ⟨hmk,hV⟩ fun W1 hp=>Au.of_hp (hp.pick (l:=[V.bx 35 (BW mk),prB mk]) [2,3] (by decide) I))))
-- BOXES 4
-- CODE2
theorem F4 {P:Program} {f:Nat} {args:Array Value} {W:World} {v:Value} (h:Ad P f args W (fun _:Unit=>v) (fun _=>True) (fun _=>[])) {X:Type} {val:X→Value} {Φ:X→Prop} {nb:X→List Bx} (x:X) (hv:v=val x) (hx:Φ x) (hnb: ∀W',Au W W' (nb x)):Ad P f args W val Φ nb:=by
 refine⟨h.out.mono fun e W' h1=> ?_⟩
 obtain⟨_,he,_,hb,_⟩:=h1
 exact⟨x,by rw[he,hv],hx,hb,hnb W'⟩
theorem Ko (W W':World):Au W W' [Dc]:=Own.one (fun p hp=>by cases hp) List.nodup_nil
theorem VA {rs:List (List Sd)}: ∃(b:List UInt8) (e:Int), ∀(W:World) (p:Option Addr) (cap:Nat),CS W p rs→
  Ad Tryz.prog 9 #[AD p rs.length cap] W (fun _:Unit=> .tuple #[str b, .int .i64 e]) (fun _=>True) (fun _=>[])∧
  Ad Tryz.prog 10 #[AD p rs.length cap] W (fun _:Unit=> .tuple #[str b, .int .i64 e]) (fun _=>True) (fun _=>[]):=by
 by_cases hc:chk rs=0
 ·exact⟨Ac (Rd rs 0),0,fun W p cap h=>⟨QD W p cap rs (h.w hc),Ra W p cap rs (h.w hc)⟩⟩
 ·exact⟨[],1,fun W p cap h=>⟨VQ W p cap rs h hc,WB W p cap rs h hc⟩⟩
theorem XN {rs:List (List Sd)}: ∃(b:List UInt8) (e:Int), ∀(W:World) (p:Option Addr) (cap:Nat),CS W p rs→
  Ad Tryz.prog 14 #[AD p rs.length cap] W (fun _:Unit=> .tuple #[str b, .int .i64 e]) (fun _=>True) (fun _=>[])∧
  Ad Tryz.prog 15 #[AD p rs.length cap] W (fun _:Unit=> .tuple #[str b, .int .i64 e]) (fun _=>True) (fun _=>[]):=by
 by_cases hc:chk rs=0
 ·exact⟨_,0,fun W p cap h=>⟨Tv W p cap rs (h.w hc),SS W p cap rs (h.w hc)⟩⟩
 ·exact⟨[],1,fun W p cap h=>⟨X6 W p cap rs h hc,X9 W p cap rs h hc⟩⟩
theorem Yf {rs:List (List Sd)}: ∃(L:List Rat) (e:Int),L.length≤10000∧ ∀(W:World) (p:Option Addr) (cap:Nat),CS W p rs→
  Ad Tryz.prog 11 #[AD p rs.length cap] W (fun V:Vec=> .tuple #[V.val L.length, .int .i64 e]) (fun V=>V.OK 1 L.length (nS L)) (fun V=>[V.bx 25 (nS L)])∧
  Ad Tryz.prog 12 #[AD p rs.length cap] W (fun V:Vec=> .tuple #[V.val L.length, .int .i64 e]) (fun V=>V.OK 1 L.length (nS L)) (fun V=>[V.bx 25 (nS L)]):=by
 by_cases hc:chk rs=0
 ·exact⟨BM rs,0,M1 (CP hc).2.1,fun W p cap h=>⟨MR W p cap rs (h.w hc),Tc W p cap rs (h.w hc)⟩⟩
 ·exact⟨[],1,by decide,fun W p cap h=>⟨F4 (XD W p cap rs h hc) Vec.empty I (Vec.OK.empty 1) fun W'=>Ko _ _,F4 (YH W p cap rs h hc) Vec.empty I (Vec.OK.empty 1) fun W'=>Ko _ _⟩⟩
theorem Ta {rs:List (List Sd)} (a:List UInt8) (hl:a.length≤4000000000): ∃(L:List Nat) (e:Int),L.length≤24∧ ∀(W:World) (p:Option Addr) (cap:Nat),CS W p rs→
  Ad Tryz.prog 16 #[AD p rs.length cap,str a] W (fun V:Vec=> .tuple #[V.val L.length, .int .i64 e]) (fun V=>V.OK 1 L.length (iC L)) (fun V=>[V.bx 3 (iC L)])∧
  Ad Tryz.prog 17 #[AD p rs.length cap,str a] W (fun V:Vec=> .tuple #[V.val L.length, .int .i64 e]) (fun V=>V.OK 1 L.length (iC L)) (fun V=>[V.bx 3 (iC L)]):=by
 by_cases he:HC rs a=0
 ·obtain⟨hc,z,hz,rfl⟩:=OW he
  exact⟨stI rs z (tot rs),0,Nat.le_trans (GQ rs z (tot rs)) (CP hc).2.1,fun W p cap h=>⟨NO W p cap rs (h.w hc) z hz,Oe W p cap rs (h.w hc) z hz⟩⟩
 ·exact⟨[],HC rs a,by decide,fun W p cap h=>⟨F4 (Tk W p cap rs h a hl he) Vec.empty I (Vec.OK.empty 1) fun W'=>Ko _ _,F4 (S3 W p cap rs h a hl he) Vec.empty I (Vec.OK.empty 1) fun W'=>Ko _ _⟩⟩
theorem RM (W W':World):Au W W' [Dc,prB []]:=by
 refine⟨fun i C hi=> ?_,fun i C hi=> ?_,fun i j C E hi hj hij p hp q hq=> ?_⟩
 ·rcases i with _|_|i
  ·obtain rfl:Dc=C:=by simpa using hi
   intro p hp;cases hp
  ·obtain rfl:prB []=C:=by simpa using hi
   intro p hp;cases hp
  ·simp at hi
 ·rcases i with _|_|i
  ·obtain rfl:Dc=C:=by simpa using hi
   exact List.nodup_nil
  ·obtain rfl:prB []=C:=by simpa using hi
   exact List.nodup_nil
  ·simp at hi
 ·rcases i with _|_|i
  ·obtain rfl:Dc=C:=by simpa using hi
   cases hp
  ·obtain rfl:prB []=C:=by simpa using hi
   cases hp
  ·simp at hi
theorem Y2 {F:List FrP} (h:F.length≤24) (z:Rat):(prW F z).length≤600:=by
 have h1:=List.length_filter_le (FK F z) (prs F)
 have h2:=LN F
 have h3:=Nat.mul_le_mul h h
 unfold prW
 omega
theorem Vc {rs:List (List Sd)} (a:List UInt8) (hl:a.length≤4000000000): ∃(L:List (Nat×Nat)) (e:Int),L.length≤600∧ ∀(W:World) (p:Option Addr) (cap:Nat),CS W p rs→
  Ad Tryz.prog 18 #[AD p rs.length cap,str a] W (fun x:Vec×HD=> .tuple #[x.1.val x.2.length, .int .i64 e]) (fun x=>x.2.map (·.2)=L∧x.1.OK 1 x.2.length (BW x.2)) (fun x=>[x.1.bx 35 (BW x.2),prB x.2])∧
  Ad Tryz.prog 19 #[AD p rs.length cap,str a] W (fun x:Vec×HD=> .tuple #[x.1.val x.2.length, .int .i64 e]) (fun x=>x.2.map (·.2)=L∧x.1.OK 1 x.2.length (BW x.2)) (fun x=>[x.1.bx 35 (BW x.2),prB x.2]):=by
 by_cases he:HC rs a=0
 ·obtain⟨hc,z,hz,rfl⟩:=OW he
  exact⟨prW (Ao rs) z,0,Y2 (by rw[Ct];exact(CP hc).2.1) z,fun W p cap h=>⟨JG W p cap rs (h.w hc) z hz,Qn W p cap rs (h.w hc) z hz⟩⟩
 ·exact⟨[],HC rs a,by decide,fun W p cap h=>⟨F4 (Vl W p cap rs h a hl he) (Vec.empty,[]) I ⟨I,Vec.OK.empty 1⟩ fun W'=>RM _ _,F4 (UN W p cap rs h a hl he) (Vec.empty,[]) I ⟨I,Vec.OK.empty 1⟩ fun W'=>RM _ _⟩⟩
def V8 (a:List UInt8):Bool:=(decide (30<a.length)&&decide (a.length<299))||decide (604<a.length)
theorem P8 (a:List UInt8) (W:World):Ad Tryz.prog 46 #[str a] W (fun _:Unit=> .bool (V8 a)) (fun _=>True) (fun _=>[]):=by
 refine Ab (args:=[str a]) Tryz.func46 I I I ?_
 refine zA (zB (wP I (Aa (zE (zA (zB (wP I (wP I ?_))))))))
 refine Al 4 (.int .i64 (a.length:Nat)) I (congrArg (fun n:Nat=>Value.int .i64 (n:Int)) (A0 _)) ?_
 refine wP I ?_
 by_cases h1:30<a.length
 ·refine wU 5 true I (dT (by omega)) (wP I (wP I (wP I ?_)))
  refine Al 8 (.int .i64 (a.length:Nat)) I (congrArg (fun n:Nat=>Value.int .i64 (n:Int)) (A0 _)) ?_
  refine wP I ?_
  by_cases h2:a.length<299
  ·refine wU 9 true I (dT (by omega)) (wP I (wP I ?_))
   iterate 3 refine Ae I I ?_
   exact wP I (wP I (Aa (zE (zO (wR1 I I (by unfold V8;rw[dT h1,dT h2];rfl))))))
  ·refine wU 9 false I (dF (by omega)) (wP I (wP I (wP I (wP I ?_))))
   refine Al 13 (.int .i64 (a.length:Nat)) I (congrArg (fun n:Nat=>Value.int .i64 (n:Int)) (A0 _)) ?_
   exact wP I (wU 14 (decide (604<a.length)) I (decide_eq_decide.2 (by omega)) (wP I (wP I (Aa (zE (zO (wR1 I I (by unfold V8;rw[dT h1,dF h2];rfl))))))))
 ·refine wU 5 false I (dF (by omega)) (wP I ?_)
  iterate 3 refine Ae I I ?_
  refine wP I (wP I (wP I (wP I ?_)))
  refine Al 13 (.int .i64 (a.length:Nat)) I (congrArg (fun n:Nat=>Value.int .i64 (n:Int)) (A0 _)) ?_
  exact wP I (wU 14 (decide (604<a.length)) I (decide_eq_decide.2 (by omega)) (wP I (wP I (Aa (zE (zO (wR1 I I (by unfold V8;rw[dF h1];rfl))))))))
theorem Pd (W:World) (p:Option Addr) (cap:Nat) (rs:List (List Sd)) (h:CS W p rs) (a:List UInt8):Ad Tryz.prog 7 #[AD p rs.length cap,str a] W (fun _:Unit=> .bool (grt rs 12||V8 a)) (fun _=>True) (fun _=>[]):=by
 have hn:=h.n
 have hT:=h.T
 refine Ab (args:=[AD p rs.length cap,str a]) Tryz.func7 I I I ?_
 refine zA (zB ?_)
 (refine Ax rfl rfl rfl rfl ?_;intro)
 refine wP I (Aa (zE (zA (zB (wB 0 I I I (wC I I (fun W1 hp=>R9 W1 p cap rs 12 (by omega) (by omega) (h.R.hp hp)) ?_))))))
 cases hg:grt rs 12 with
 |true=>
  refine wP I ?_
  iterate 2 refine Ae I I ?_
  exact wP I (wP I (Aa (zE (zO (wR1 I I I)))))
 |false=>
  exact wP I (wP I (wC I I (fun W1 _=>P8 a W1) (wP I (wP I (Aa (zE (zO (wR1 I I I))))))))
-- BOXES 9
-- CODE2
theorem PE (W:World) (p:Option Addr) (cap:Nat) (rs:List (List Sd)) (a:List UInt8) (hl:a.length≤4000000000) (h:CS W p rs):
  Ad Tryz.prog 3 #[AD p rs.length cap,str a] W (fun _:Unit=> .bool true) (fun _=>True) (fun _=>[]):=by
 obtain⟨bB,eB,hB⟩:=VA (rs:=rs)
 obtain⟨bT,eT,hT⟩:=XN (rs:=rs)
 obtain⟨LA,eA,nA,hA⟩:=Yf (rs:=rs)
 obtain⟨LS,eS,nS',hS⟩:=Ta (rs:=rs) a hl
 obtain⟨LP,eP,nP,hP⟩:=Vc (rs:=rs) a hl
 refine Ab (args:=[AD p rs.length cap,str a]) Tryz.func3 I I I ?_
 refine zA (zB ?_)
 (refine Ax rfl rfl rfl rfl ?_;intro)
 refine wP I (Aa (zE (zA (zA (zB (wB 0 I I I (wP I (wC I I (fun W1 hp=>Pd W1 p cap rs (h.hp hp) a) (Aa (zE ?_))))))))))
 refine Af I (fun hg=> ?_) (fun hg=> ?_)
 ·exact zA (zB (wC I I (fun W1 hp=>J3 W1 (h.d.hp hp) (h.v.hp hp) (h.t.hp hp)) (wP I (Aa (zE (zO (zP (wR1 I I I))))))))
 refine zI (zE (zA (zB (wB 0 I I I (wC I I (fun W1 hp=>(hB W1 p cap (h.hp hp)).1) ?_)))))
 iterate 5 refine wP I ?_
 refine Aa (zE (zA (zB (wB 0 I I I (wC I I (fun W1 hp=>(hB W1 p cap (h.hp hp)).2) ?_)))))
 iterate 5 refine wP I ?_
 refine Aa (zE (zA (zB (wB 0 I I I ?_))))
 refine wD (X:=Vec) I I (fun W1 hp=>(hA W1 p cap (h.hp hp)).1) ?_
 intro A1 hA1
 obtain⟨p1,c1,e1,hr1⟩:=Kj hA1
 rw[e1]
 iterate 5 refine wP I ?_
 refine Aa (zE (zA (zB (wB 0 I I I ?_))))
 refine wD (X:=Vec) I I (fun W1 hp=>(hA W1 p cap (h.hp hp)).2) ?_
 intro A2 hA2
 obtain⟨p2,c2,e2,hr2⟩:=Kj hA2
 rw[e2]
 iterate 5 refine wP I ?_
 refine Aa (zE (zA (zA (zB (wP I (wP I (wP I (wU 45 false I (by show(!_)=false;rw[AE,dT I];rfl) (wP I (wP I (wP I (wP I (wU 49 false I (bne_self_eq_false eB) ?_)))))))))))))
 refine wP I (wP I (wP I (wP I (wC I I (fun W1 hp=>(Ha W1 p1 p2 c1 c2 (LA.map Ac) (LA.map Ac) (hr1 hp 1 I) (hr2 hp 2 I) (by rw[List.length_map];omega) (by rw[List.length_map];omega)).cast (v':= .bool true) (by rw[dT I])) ?_))))
 iterate 6 refine wP I ?_
 refine wU 60 false I (bne_self_eq_false eA) (wP I (Aa (zE (zS I (zI (zE (zA (zB (wB 0 I I I (wC I I (fun W1 hp=>(hT W1 p cap (h.hp hp)).1) ?_))))))))))
 iterate 5 refine wP I ?_
 refine Aa (zE (zA (zB (wB 0 I I I (wC I I (fun W1 hp=>(hT W1 p cap (h.hp hp)).2) ?_)))))
 iterate 5 refine wP I ?_
 refine Aa (zE (zA (zB (wB 0 I I I (wP I ?_)))))
 refine wD (X:=Vec) I I (fun W1 hp=>(hS W1 p cap (h.hp hp)).1) ?_
 intro S1 hS1
 obtain⟨p3,c3,e3,hr3⟩:=MS hS1
 rw[e3]
 iterate 5 refine wP I ?_
 refine Aa (zE (zA (zB (wB 0 I I I (wP I ?_)))))
 refine wD (X:=Vec) I I (fun W1 hp=>(hS W1 p cap (h.hp hp)).2) ?_
 intro S2 hS2
 obtain⟨p4,c4,e4,hr4⟩:=MS hS2
 rw[e4]
 iterate 5 refine wP I ?_
 refine Aa (zE (zA (zB (wB 0 I I I (wP I ?_)))))
 refine wD (X:=Vec×HD) I I (fun W1 hp=>(hP W1 p cap (h.hp hp)).1) ?_
 rintro⟨P1,m1⟩ ⟨hm1,hP1⟩
 obtain⟨p5,c5,e5,hr5⟩:=KR hm1 hP1
 dsimp only
 rw[e5]
 iterate 5 refine wP I ?_
 refine Aa (zE (zA (zB (wB 0 I I I (wP I ?_)))))
 refine wD (X:=Vec×HD) I I (fun W1 hp=>(hP W1 p cap (h.hp hp)).2) ?_
 rintro⟨P2,m2⟩ ⟨hm2,hP2⟩
 obtain⟨p6,c6,e6,hr6⟩:=KR hm2 hP2
 dsimp only
 rw[e6]
 iterate 5 refine wP I ?_
 refine Aa (zE (zA (zB (wP I (wP I (wP I (wU 98 true I (by rw[AE];exact dT I) (wP I (wP I (wP I (wP I (wU 102 true I (beq_self_eq_true eT) (wP I (wP I (wP I (wP I ?_))))))))))))))))
 refine wC I I (fun W1 hp=>(JI W1 p3 p4 c3 c4 LS LS (hr3 hp 3 I) (hr4 hp 4 I) (by omega) (by omega)).cast (v':= .bool true) (by rw[dT I])) ?_
 iterate 5 refine wP I ?_
 refine wU 112 true I (beq_self_eq_true eS) (wP I (wP I (wP I (wP I (wC I I (fun W1 hp=>HA W1 p5 p6 c5 c6 LP (by omega) (hr5 hp 5 6 I I) (hr6 hp 7 8 I I)) ?_)))))
 iterate 5 refine wP I ?_
 exact wU 122 true I (beq_self_eq_true eP) (wP I (wP I (wC I I (fun W1 hp=>J3 W1 (h.d.hp hp) (h.v.hp hp) (h.t.hp hp)) (wP I (wP I (Aa (zE (zO (wR1 I I I)))))))))
end
section
open Go Go.RowKit Go.Am Go.ChangeShapes Go.WideShapes Go.Deep
set_option maxRecDepth 10000
theorem c42:Tryz.prog.cellsOf 80=7:=by kernel_rfl
theorem c27:Tryz.prog.cellsOf 76=1:=by kernel_rfl
theorem c24:Tryz.prog.cellsOf 24=1:=by kernel_rfl
theorem c22:Tryz.prog.cellsOf 22=1:=by kernel_rfl
theorem c3:Tryz.prog.cellsOf 3=1:=by kernel_rfl
theorem c4:Tryz.prog.cellsOf 4=1:=by kernel_rfl
theorem Ms {H:Type} (d:DataW H):1≤Rows.uptoBulk d:=by
 cases d with
 |lit l=>cases l<;>simp[Rows.uptoBulk]
 |nil=>simp[Rows.uptoBulk]
 |ptr d=>simp[Rows.uptoBulk]
 |slice elems spare=>simp[Rows.uptoBulk]
 |agg parts=>simp[Rows.uptoBulk]
 |iface t d=>simp[Rows.uptoBulk]
 |map entries=>simp[Rows.uptoBulk]
 |held h=>simp[Rows.uptoBulk]
theorem Ww {H:Type} (l:List (DataW H)):l.length≤Rows.uptoBulkAll l:=by
 induction l with
 |nil=>simp[Rows.uptoBulkAll]
 |cons x r ih=>have:=Ms x;simp only[Rows.uptoBulkAll,List.length_cons];omega
theorem WI {H:Type} {A:Type} (L:A→Nat) (D:A→DataW H) (is:List A) (h: ∀i,i∈is→L i+1≤Rows.uptoBulk (D i)):
  (is.map L).sum+is.length≤Rows.uptoBulkAll (is.map D):=by
 induction is with
 |nil=>simp[Rows.uptoBulkAll]
 |cons x r ih=>
  have h1:=h x (.head _)
  have h2:=ih fun i hi=>h i (.tail _ hi)
  simp only[List.map_cons,List.sum_cons,List.length_cons,Rows.uptoBulkAll]
  omega
theorem N8 {H:Type} (e s:List (DataW H)):Rows.uptoBulkAll e+1≤Rows.uptoBulk (.slice e s):=by
 simp only[Rows.uptoBulk];omega
theorem Td {w:World} {a:Addr} {v:Value} (h:w.cell? a=some v):a.spot=none∧a.block<w.heap.size:=by
 unfold World.cell? at h
 split at h
 ·rename_i hb
  refine⟨?_, ?_⟩
  ·cases hs:a.spot with
   |none=>rfl
   |some k=>simp[hs] at h
  ·exact(Array.getElem?_eq_some_iff.1 hb).1
 ·cases h
theorem Ke {w:World} {base n:Nat} {a:Addr} {cs:List Value} (h:w.cells? base a n=some cs) (hn:0<n):a.spot=none∧An w a.block a.off cs:=by
 obtain⟨_,hl,hg⟩:=World.cells?_some h
 have h0:=hg 0 hn
 have hv:cs[0]? =some cs[0]:=List.getElem?_eq_getElem (by omega)
 rw[hv] at h0
 have hp:=Td h0
 have hs:a.spot=none:=by simpa[Addr.add] using hp.1
 refine⟨hs,⟨by simpa[Addr.add] using hp.2,fun j x hx=> ?_⟩⟩
 have hj:j<n:=by rw[←hl];exact(List.getElem?_eq_some_iff.1 hx).1
 rw[←hx, ←hg j hj]
 congr 1
 unfold Addr.add
 split
 ·subst_vars;cases a;simp_all
 ·rfl
theorem Uf {a:Addr} (hs:a.spot=none) (n:Nat):a.add n=⟨a.block,a.off+n,none⟩:=by
 unfold Addr.add
 split
 ·subst_vars;cases a;simp_all
 ·rfl
def Sd.in64 (s:Sd):Prop:= ∀z∈[s.x,s.y,s.rise,s.run,s.plate,s.over], -9223372036854775808≤z∧z≤9223372036854775807
section
variable {H:Type} {enc:TypeId×Value→H} {w:World} {base:Nat} {spare:Nat→Bool} {held:Bool} {fuel:Nat} {cs:List Value} {x:DataW H×List MemPlace}
theorem Yk (h:DataW.trod enc Tryz.prog w base spare held fuel 80 cs=some x): ∃s:Sd,cs=s.cells∧s.in64:=by
 obtain⟨xs,m,rfl,rfl,hl,hx,hf⟩:=DataW.trod_struct Tryz.underlying80 h
 rw[c42] at hl
 have g: ∀(i:Nat) (o t:Nat) (f:Field),(match Tryz.prog.underlying 80 with|some (.struct fs)=>fs[i]? |_=>none)=some f→f.offset=o→f.type=t→
   ∃y,DataW.trod enc Tryz.prog w base spare held m t ((cs.drop o).take (Tryz.prog.cellsOf t))=some y:=by
  intro i o t f hi ho ht
  rw[Tryz.underlying80] at hi
  subst ho;subst ht
  have h1:=hf i f hi
  have h2:i<xs.length:=by rw[hx];exact(Array.getElem?_eq_some_iff.1 hi).1
  rw[List.getElem?_eq_getElem h2] at h1
  exact⟨_,h1⟩
 match cs,hl with
 |[v0,v1,v2,v3,v4,v5,v6],_=>
  have gi: ∀(i o:Nat) (f:Field) (v:Value),(match Tryz.prog.underlying 80 with|some (.struct fs)=>fs[i]? |_=>none)=some f→f.offset=o→f.type=3→([v0,v1,v2,v3,v4,v5,v6].drop o).take 1=[v]→
    ∃z,v= .int .i64 z∧ -9223372036854775808≤z∧z≤9223372036854775807:=by
   intro i o f v h1 h2 h3 h4
   obtain⟨y,hy⟩:=g i o 3 f h1 h2 h3
   rw[c3,h4] at hy
   obtain⟨z,e1,_,hw⟩:=DataW.trod_int Tryz.underlying3 hy
   refine⟨z,by simpa using e1, ?_⟩
   simpa[Lit.wf,IntKind.min,IntKind.max,IntKind.signed,IntKind.bits] using hw
  obtain⟨z0,rfl,b0⟩:=gi 0 0 _ v0 (by rw[Tryz.underlying80];rfl) rfl rfl rfl
  obtain⟨z1,rfl,b1⟩:=gi 1 1 _ v1 (by rw[Tryz.underlying80];rfl) rfl rfl rfl
  obtain⟨z2,rfl,b2⟩:=gi 2 2 _ v2 (by rw[Tryz.underlying80];rfl) rfl rfl rfl
  obtain⟨z3,rfl,b3⟩:=gi 3 3 _ v3 (by rw[Tryz.underlying80];rfl) rfl rfl rfl
  obtain⟨z5,rfl,b5⟩:=gi 5 5 _ v5 (by rw[Tryz.underlying80];rfl) rfl rfl rfl
  obtain⟨z6,rfl,b6⟩:=gi 6 6 _ v6 (by rw[Tryz.underlying80];rfl) rfl rfl rfl
  obtain⟨y4,hy4⟩:=g 4 4 4 _ (by rw[Tryz.underlying80];rfl) rfl rfl
  rw[c4] at hy4
  obtain⟨z4,e4,_⟩:=DataW.trod_bool Tryz.underlying4 hy4
  obtain rfl:v4= .bool z4:=by simpa using e4
  refine⟨⟨z0,z1,z2,z3,z4,z5,z6⟩,I, ?_⟩
  intro z hz
  simp only[List.mem_cons,List.not_mem_nil,or_false] at hz
  rcases hz with rfl|rfl|rfl|rfl|rfl|rfl<;>assumption
theorem UO (h:DataW.trod enc Tryz.prog w base spare held fuel 76 cs=some x):
  ∃(p:Option Addr) (cap:Nat) (l:List Sd),cs=[slv p l.length cap]∧BY w p l∧(∀s∈l,s.in64)∧l.length+1≤Rows.uptoBulk x.1:=by
 rcases open_slice Tryz.underlying76 h with⟨rfl,rfl⟩|⟨a,len,cap,m,n,D,Pl,rfl,_,hl,_,hm,rfl,hx⟩
 ·exact⟨none,0,[],rfl, .inl rfl,(fun _ hs=>by cases hs),Ms _⟩
 have hlm:len≤m:=by rw[hm];split<;>omega
 obtain⟨S,hS⟩:=choose_lt (α:=Sd) (n:=len) (p:=fun i s=>w.cells? base (a.add (i*7)) 7=some s.cells∧s.in64) fun i hi=>by
  obtain⟨cs',h1,h2⟩:=hx i (by omega)
  rw[c42] at h1
  obtain⟨s,rfl,h3⟩:=Yk h2
  exact⟨s,h1,h3⟩
 refine⟨some a,cap,(List.range len).map S,by simp, ?_, ?_, ?_⟩
 ·by_cases h0:len=0
  ·subst h0;exact .inl rfl
  ·have hs:a.spot=none:=by simpa[Addr.add] using(Ke (hS 0 (by omega)).1 (by decide)).1
   refine .inr ⟨a.block,a.off,by cases a;simp_all,⟨fun i s hi=> ?_⟩⟩
   simp only[List.getElem?_map,Option.map_eq_some_iff] at hi
   obtain⟨k,hk,rfl⟩:=hi
   have hk':i<len∧k=i:=by
    have:=List.getElem?_eq_some_iff.1 hk
    obtain⟨h1,h2⟩:=this
    simp at h1 h2
    exact⟨h1,h2.symm⟩
   obtain⟨h1,rfl⟩:=hk'
   have:=(Ke (hS k h1).1 (by decide)).2
   rwa [Uf hs] at this
 ·intro s hs
  simp only[List.mem_map,List.mem_range] at hs
  obtain⟨i,hi,rfl⟩:=hs
  exact(hS i hi).2
 ·have h1:=Ww ((List.range len).map D)
  have h2:=N8 ((List.range len).map D) ((List.range (m-len)).map fun j=>D (len+j))
  simp only[List.length_map,List.length_range] at h1⊢
  omega
theorem SF (h:DataW.trod enc Tryz.prog w base spare held fuel 22 cs=some x):
  ∃(p:Option Addr) (cap:Nat) (rs:List (List Sd)),cs=[slv p rs.length cap]∧BB w p rs∧(∀l∈rs, ∀s∈l,s.in64)∧tot rs+rs.length+1≤Rows.uptoBulk x.1:=by
 rcases open_slice Tryz.underlying22 h with⟨rfl,rfl⟩|⟨a,len,cap,m,n,D,Pl,rfl,_,hl,_,hm,rfl,hx⟩
 ·exact⟨none,0,[],rfl, .inl rfl,(fun _ hs=>by cases hs),Ms _⟩
 have hlm:len≤m:=by rw[hm];split<;>omega
 obtain⟨L,hL⟩:=choose_lt (α:=List Sd) (n:=len) (p:=fun i l=> ∃q c,w.cells? base (a.add (i*1)) 1=some [slv q l.length c]∧BY w q l∧(∀s∈l,s.in64)∧l.length+1≤Rows.uptoBulk (D i)) fun i hi=>by
  obtain⟨cs',h1,h2⟩:=hx i (by omega)
  rw[c27] at h1
  obtain⟨q,c,l,rfl,h3,h4,h5⟩:=UO h2
  exact⟨l,q,c,h1,h3,h4,h5⟩
 refine⟨some a,cap,(List.range len).map L,by simp, ?_, ?_, ?_⟩
 ·by_cases h0:len=0
  ·subst h0;exact .inl rfl
  ·obtain⟨q0,c0,h00,_⟩:=hL 0 (by omega)
   have hs:a.spot=none:=by simpa[Addr.add] using(Ke h00 (by decide)).1
   refine .inr ⟨a.block,a.off,by cases a;simp_all,⟨fun i l hi=> ?_⟩⟩
   simp only[List.getElem?_map,Option.map_eq_some_iff] at hi
   obtain⟨k,hk,rfl⟩:=hi
   have hk':i<len∧k=i:=by
    obtain⟨h1,h2⟩:=List.getElem?_eq_some_iff.1 hk
    simp at h1 h2
    exact⟨h1,h2.symm⟩
   obtain⟨h1,rfl⟩:=hk'
   obtain⟨q,c,h2,h3,_⟩:=hL k h1
   have:=(Ke h2 (by decide)).2
   rw[Uf hs] at this
   exact⟨q,c,this,h3⟩
 ·intro l hl'
  simp only[List.mem_map,List.mem_range] at hl'
  obtain⟨i,hi,rfl⟩:=hl'
  obtain⟨_,_,_,_,h3,_⟩:=hL i hi
  exact h3
 ·have h1:=WI (fun i=>(L i).length) D (List.range len) fun i hi=>by
   obtain⟨_,_,_,_,_,h3⟩:=hL i (by simpa using hi)
   exact h3
  have h2:=N8 ((List.range len).map D) ((List.range (m-len)).map fun j=>D (len+j))
  simp only[tot,List.map_map,List.length_map,List.length_range] at h1⊢
  have h3:(List.range len).map (List.length∘L)=(List.range len).map fun i=>(L i).length:=rfl
  rw[h3]
  show _≤Rows.uptoBulk (DataW.slice _ _)
  omega
end
section
variable {H:Type} {enc:TypeId×Value→H} {w:World} {base:Nat} {spare:Nat→Bool} {held:Bool} {v:Value} {d:DataW H} {ps:List MemPlace}
theorem UF {r:Reach} {b0:Nat} (hv:Value.okWide Tryz.prog w r b0 24 v) (h:DataW.Trod enc Tryz.prog w base spare held 24 v d ps):
  ∃(p:Option Addr) (cap:Nat) (rs:List (List Sd)),v=AD p rs.length cap∧BB w p rs∧(∀l∈rs, ∀s∈l,s.in64)∧tot rs+rs.length+2≤Rows.uptoBulk d:=by
 obtain⟨cs,rfl,hc⟩:=okWide_struct Tryz.underlying24 hv
 obtain⟨fuel,hf⟩:=h
 obtain⟨xs,m,rfl,hx,hl,hn,hg⟩:=DataW.trod_struct Tryz.underlying24 hf
 rw[c24] at hc
 obtain⟨y0,rfl⟩: ∃y,xs=[y]:=by
  match xs,hn with
  |[y],_=>exact⟨y,rfl⟩
 have h0:DataW.trod enc Tryz.prog w base spare held m 22 (List.take (Tryz.prog.cellsOf 22) (List.drop 0 cs.toList))=some y0:=hg 0 _ rfl
 rw[c22] at h0
 obtain⟨c0,rfl⟩: ∃c,cs= #[c]:=by
  obtain⟨l⟩:=cs
  match l,hc with
  |[c],_=>exact⟨c,rfl⟩
 obtain⟨p,cap,rs,e1,e2,e3,e4⟩:=SF h0
 simp only[Prod.mk.injEq] at hx
 obtain⟨rfl,_⟩:=hx
 refine⟨p,cap,rs, ?_,e2,e3, ?_⟩
 ·have:c0=slv p rs.length cap:=by simpa[Value.cells] using e1
  rw[this]
 ·simp only[List.map_cons,List.map_nil,Rows.uptoBulk,Rows.uptoBulkAll]
  have:y0.1=(y0:DataW H×List MemPlace).1:=rfl
  omega
end
end
section
open Go
noncomputable abbrev laidL:List (String×DataW Unit):=Rows.levelListsRow.laid
end
section
open Go Go.RowKit Go.Am Go.ChangeShapes Go.WideShapes Go.Deep Go.ChangeAt
set_option maxRecDepth 100000
section
variable {H:Type} {enc:TypeId×Value→H} {w:World} {base:Nat} {spare:Nat→Bool} {held:Bool} {v:Value} {d:DataW H} {ps:List MemPlace}
end
theorem own:ownKnob Tryz.prog.godebug=none:=by kernel_rfl
theorem Uk:laidOutB Tryz.prog=true:=by kernel_rfl
theorem Jt:(laidL.all fun x=>x.2.handleName?.isNone)=true:=by kernel_rfl
theorem Q6 {W:World} (h:laidMetH Tryz.prog laidL W):AM W:=by
 rw[MakeChecks.laidMetH_plain _ _ _ Jt] at h
 exact Lib.tabIs_of_head (g:=3) (t:=322) (e:=194) (n:=20) (by kernel_rfl) (by kernel_rfl) (by kernel_rfl) (by kernel_rfl) (by kernel_rfl) (by kernel_rfl) h.tail.tail
theorem Zm {W:World} (hS:W.ShapedOpen Tryz.prog):BP W:=
 cell_of_shapedOpen_int (g:=4) (t:=3) (zero:= #[.int .i64 0]) hS (of_decide_eq_true (by kernel_rfl)) (by kernel_rfl) rfl (by kernel_rfl) (by kernel_rfl) Tryz.underlying3
noncomputable def witW (os:Os):World:=World.laidAll Tryz.prog os laidL
theorem X0 (os:Os) (args:Array Value):laidMetH Tryz.prog laidL ((witW os).forCall (fun _ _=>0) ⟨#[],args,[]⟩).memory:=by
 rw[MakeChecks.laidMetH_plain _ _ _ Jt]
 exact laidMet_laidAll _ (by kernel_rfl) (by kernel_rfl)
theorem SE (os:Os) (args:Array Value):((witW os).forCall (fun _ _=>0) ⟨#[],args,[]⟩).Shaped Tryz.prog:=
 World.shaped_of_ZipB (by kernel_rfl) (by kernel_rfl)
theorem XW {H:Type} {enc:TypeId×Value→H} (os:Os) {f:FuncId} {fn:Func} {s:OpenSpec} {conds:List PathCond} (args:Array Value)
  (hok:Input.okWideB Tryz.prog ((witW os).forCall (fun _ _=>0) ⟨#[],args,[]⟩) f ⟨#[],args,[]⟩=true)
  (hrow:s.preRow enc Tryz.prog fn conds false laidL ((witW os).forCall (fun _ _=>0) ⟨#[],args,[]⟩).memory args):
  ∃(w:World) (tape:Tape) (i:Input),w.os=os∧(w.forCall tape i).Shaped Tryz.prog∧i.vars=[]∧Input.okWide Tryz.prog (w.forCall tape i) .any w.heap.size f i∧
   s.preRow enc Tryz.prog fn conds false laidL (w.forCall tape i).memory i.args∧({}:Assume).holds Tryz.prog (lone (Frame.enter Tryz.prog f i.args .normal) [] (w.forCall tape i)):=
 ⟨witW os,fun _ _=>0,⟨#[],args,[]⟩,World.laidAll_os _ _ _,SE os args,(Input.okWide_of_okWideB (base:=0) hok).1,(Input.okWide_of_okWideB hok).2,hrow,by
  simp only[Assume.holds]
  exact⟨by simp,by simp,by simp,by simp,by simp,by simp⟩⟩
theorem ZT:Tryz.prog.cellsOf 149=2:=by kernel_rfl
theorem ZK:Tryz.prog.cellsOf 150=8:=by kernel_rfl
theorem ZM:Tryz.prog.cellsOf 4=1:=by kernel_rfl
theorem aK:Tryz.prog.cellsOf 3=1:=by kernel_rfl
section
variable {H:Type} {enc:TypeId×Value→H} {w:World} {base:Nat} {spare:Nat→Bool} {held:Bool} {fuel:Nat} {cs:List Value} {x:DataW H×List MemPlace}
theorem Kd (h:DataW.trod enc Tryz.prog w base spare held fuel 149 cs=some x): ∃(b:Bool) (z:Int),cs=[.bool b, .int .i64 z]∧x.1= .agg [.lit (.bool b), .lit (.int .i64 z)]:=by
 obtain⟨xs,m,rfl,rfl,hl,hn,hg⟩:=DataW.trod_struct Tryz.underlying149 h
 rw[ZT] at hl
 match cs,hl with
 |[u,v],_=>
  match xs,hn with
  |[y0,y1],_=>
   have h0:DataW.trod enc Tryz.prog w base spare held m 4 (([u,v].drop 0).take (Tryz.prog.cellsOf 4))=some y0:=hg 0 _ rfl
   have h1:DataW.trod enc Tryz.prog w base spare held m 3 (([u,v].drop 1).take (Tryz.prog.cellsOf 3))=some y1:=hg 1 _ rfl
   rw[ZM] at h0
   rw[aK] at h1
   obtain⟨b,e0,f0⟩:=DataW.trod_bool Tryz.underlying4 h0
   obtain⟨z,e1,f1,_⟩:=DataW.trod_int Tryz.underlying3 h1
   refine⟨b,z, ?_, ?_⟩
   ·have a0:u= .bool b:=by simpa using e0
    have a1:v= .int .i64 z:=by simpa using e1
    rw[a0,a1]
   ·simp[f0,f1]
theorem UT (h:DataW.trod enc Tryz.prog w base spare held fuel 150 cs=some x) (hx:x.1= .agg [.agg [.lit (.bool false), .lit (.int .i64 1)], .agg [.lit (.bool true), .lit (.int .i64 (-1))], .agg [.lit (.bool false), .lit (.int .i64 (-1))], .agg [.lit (.bool true), .lit (.int .i64 1)]]):cs=Z0:=by
 obtain⟨xs,m,rfl,rfl,hl,hn,hg⟩:=DataW.trod_array Tryz.underlying150 h
 rw[ZK] at hl
 match cs,hl with
 |[a0,a1,a2,a3,a4,a5,a6,a7],_=>
  match xs,hn with
  |[y0,y1,y2,y3],_=>
   have h0:=hg 0 (by decide)
   have h1:=hg 1 (by decide)
   have h2:=hg 2 (by decide)
   have h3:=hg 3 (by decide)
   rw[ZT] at h0 h1 h2 h3
   obtain⟨b0,z0,e0,f0⟩:=Kd (x:=y0) h0
   obtain⟨b1,z1,e1,f1⟩:=Kd (x:=y1) h1
   obtain⟨b2,z2,e2,f2⟩:=Kd (x:=y2) h2
   obtain⟨b3,z3,e3,f3⟩:=Kd (x:=y3) h3
   simp only[List.map_cons,List.map_nil,f0,f1,f2,f3,DataW.agg.injEq,List.cons.injEq,DataW.lit.injEq,Lit.bool.injEq,Lit.int.injEq,true_and,and_true] at hx
   obtain⟨⟨rfl,rfl⟩,⟨rfl,rfl⟩,⟨rfl,rfl⟩,⟨rfl,rfl⟩⟩:=hx
   simp at e0 e1 e2 e3
   obtain⟨rfl,rfl⟩:=e0
   obtain⟨rfl,rfl⟩:=e1
   obtain⟨rfl,rfl⟩:=e2
   obtain⟨rfl,rfl⟩:=e3
   rfl
end
theorem RJ {W:World} (h:laidMetH Tryz.prog laidL W):KD W:=by
 rw[MakeChecks.laidMetH_plain _ _ _ Jt] at h
 obtain⟨ps,⟨g',t',cs,fuel,p,q,hg',ht',hvar,hd,_,_⟩,_⟩:=h.tail.tail.tail.tail.tail.tail
 obtain rfl := Option.some.inj ((show Tryz.prog.globalNamed "kingpost/front.directions" = some 0 by kernel_rfl).symm.trans hg')
 obtain rfl:=Option.some.inj ((show(Tryz.prog.globals[0]?).map (·.type)=some 150 by kernel_rfl).symm.trans ht')
 have e:=UT hd rfl
 have hc: ∀i u,Z0[i]? =some u→W.cell? ⟨0,i,none⟩=some u:=fun i u hu=>by
  rw[World.var?_cell hg' hvar i]
  rw[←e] at hu
  simpa using hu
 refine⟨?_,fun m u hu=> ?_⟩
 ·obtain⟨c,ty,fr,h1,_⟩:=Sort.cells_of_cell? (hc 0 _ rfl)
  exact(Array.getElem?_eq_some_iff.1 h1).1
 ·rw[Nat.zero_add]
  exact hc m u hu
end
end Go.Proofs.YtmblgcglonikiaaGreatDoor
