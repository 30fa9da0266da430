/-
  What is known of the frame and of memory, told anew.
-/
import Derived.Test.YtnpfkmbcejgnjaaGreatDoorAo
namespace Go.Am
section
variable {r : Option Nat} {n : Nat} {P : Program} {W0 : World} {N : Nat} {D : List Deferred} {ops : List Oper} {Q : Exit → Act → World → Prop} {l : List Oper} {env : Env} {bxs : List Bx}
theorem wl_reset (L : Env) (B : List Bx) (hL : liveB N env L) (s : List Nat) (hs : s.Nodup) (hp : pick bxs s = some B) (h : WL r n P N D ops Q l L (Hp W0 B)) : WL r n P N D ops Q l env (Hp W0 bxs) := .mk fun a W ha hd hh => by
  have hl := live_of ha hd hL
  have h1 := h.out (ov env a) W hl.size hl.defers (hh.pick s hs hp)
  rw [ov_same (fun p hp _ => hl.get p hp)] at h1
  exact h1
theorem wc_reset {c : Code} (L : Env) (B : List Bx) (hL : liveB N env L) (s : List Nat) (hs : s.Nodup) (hp : pick bxs s = some B) (h : WC r n P N D c Q L (Hp W0 B)) : WC r n P N D c Q env (Hp W0 bxs) := .mk fun a W ha hd hh => by
  have hl := live_of ha hd hL
  have h1 := h.out (ov env a) W hl.size hl.defers (hh.pick s hs hp)
  rw [ov_same (fun p hp _ => hl.get p hp)] at h1
  exact h1
theorem ne_reset {e : Exit} (L : Env) (B : List Bx) (hL : liveB N env L) (s : List Nat) (hs : s.Nodup) (hp : pick bxs s = some B) (h : NE N D Q e L (Hp W0 B)) : NE N D Q e env (Hp W0 bxs) := .mk fun a W ha hd hh => by
  have hl := live_of ha hd hL
  have h1 := h.out (ov env a) W hl.size hl.defers (hh.pick s hs hp)
  rw [ov_same (fun p hp _ => hl.get p hp)] at h1
  exact h1
end
end Go.Am
