/- The contracts of agree's liar.next, Decide. -/
import Derived.Test.YtllgjbjcdenchaaMaj
import Derived.Test.YtllgjbjcdenchaaAgreePlain
import Derived.Test.YtllgjbjcdenchaaRows4
import Derived.BigRegion
set_option linter.unusedVariables false
namespace Go.Proofs.Ytllgjbjcdenchaa
open Go.RowKit Mj Ag

/-- the liar at block g hands out the numbers zs; p of them are handed out (or more) -/
def Liar (w : World) (g : Nat) (A : Option Addr) (n c p : Nat) : Prop := Blk w g 91 #[.slice A n c, .int .i64 ((min p n : Nat) : Int)]

set_option maxHeartbeats 1000000 in
theorem next_any (g : Nat) (A : Option Addr) (n c p : Nat) (zs : List Int) (w : World) (h : Liar w g A n c p) (hi : Ints w .i64 A n zs) (hd : ∀ ad, A = some ad → ad.block ≠ g) (hn : n ≤ 1152921504606846976) :
    Calls Try.prog 61 #[.pointer (some ⟨g, 0, none⟩)] w fun e w' => e = .returned (.int .i64 (zs.getD p 0)) ∧ Liar w' g A n c (p + 1) ∧ w.grownBy w' (some g) := by
  unfold Liar at h ⊢
  have c0 := h.cell 0
  have c1 := h.cell 1
  have f0 := h.frozen 0
  have f1 := h.frozen 1
  simp only [List.getElem?_toArray, List.getElem?_cons_zero, List.getElem?_cons_succ] at c0 c1
  by_cases hp : p < n
  · obtain ⟨b, off, rfl, hb, hcell⟩ := hi.2 (by omega)
    have hx := hcell p hp
    rw [show min p n = p by omega] at *
    rw [show min (p + 1) n = p + 1 by omega]
    have hgb : ¬ b = g := hd _ rfl
    have hgb2 : ¬ g = b := fun e => hgb e.symm
    have hs := h.set_ 1 (.int .i64 ((p : Int) + 1))
    simp at hs
    have H := Lib.hid hs
    clear hi hcell h hd hs
    generalize zs.getD p 0 = x at *
    go_enter Try.func61, Try.ntmps61
    go_wp2_with fail
    go_quiet (fail)
    go_wp2_with fail
    go_quiet (fail)
    go_wp2_with fail
    go_ret
    exact ⟨rfl, H.out, grown_trans (grown_below (below_drewN _ w _)) (grown_trans (grown_set _ g 1 _) (grown_below (below_drewN _ _ _)))⟩
  · rw [show min p n = n by omega] at *
    rw [show min (p + 1) n = n by omega]
    have e : zs.getD p 0 = 0 := by
      have := hi.1
      simp [List.getD, List.getElem?_eq_none (show zs.length ≤ p by omega)]
    rw [e]
    have H := Lib.hid h
    clear e h hi hd
    go_enter Try.func61, Try.ntmps61
    go_wp2_with fail
    go_quiet (fail)
    go_wp2_with fail
    go_ret
    exact ⟨rfl, H.out, grown_below (below_drewN _ _ _)⟩

theorem decide_any (x y z : Int) (w : World) :
    Calls Try.prog 62 #[.int .i64 x, .int .i64 y, .int .i64 z] w fun e w' => e = .returned (.int .i64 (maj [x, y, z] 0)) ∧ Below w.heap.size w w' := by
  go_enter Try.func62, Try.ntmps62
  go_wp2_with fail
  refine (maj_any _ 3 3 [x, y, z] 0 _ ⟨rfl, fun _ => ⟨w.heap.size, 0, rfl, by simp, fun j hj => ?_⟩⟩ (by decide)).mono ?_
  · rw [Nat.zero_add, (Blk.new w _ _).cell j]
    match j, hj with
    | 0, _ => rfl
    | 1, _ => rfl
    | 2, _ => rfl
  · rintro e w' ⟨rfl, rfl⟩
    go_wp2_with fail
    go_ret
    exact ⟨rfl, (Below.refl _ _).alloc (Nat.le_refl _) _⟩
end Go.Proofs.Ytllgjbjcdenchaa
