/- mat.at, mat.see: a number of a matrix at work is read; whether anything was bent is remembered. -/
import Derived.Test.YtnhklfdchfndjaaMatPut
import Derived.BigRegion
set_option linter.unusedVariables false
namespace Go.Proofs.Ytnhklfdchfndjaa.Mt
open Go.RowKit Go.Proofs.Ytnhklfdchfndjaa Fx

/-- numbers behind an address, by index -/
def Nums (w : World) (A : Option Addr) (m : Nat) (f : Nat → Int) : Prop := ∃ g off, A = some ⟨g, off, none⟩ ∧ g < w.heap.size ∧ ∀ j, j < m → w.cell? ⟨g, off + j, none⟩ = some (.int .i64 (f j))
theorem Nums.below {w w' : World} {A : Option Addr} {m : Nat} {f : Nat → Int} (h : Nums w A m f) (hb : Below w.heap.size w w') : Nums w' A m f := by
  obtain ⟨g, off, e, hlt, hc⟩ := h
  exact ⟨g, off, e, Nat.lt_of_lt_of_le hlt hb.size, fun j hj => (hb.cell (p := ⟨g, off + j, none⟩) hlt).trans (hc j hj)⟩
theorem nums_blk {w : World} {g : Nat} {t : TypeId} {n : Nat} {f : Nat → Int} (h : Blk w g t (tabN n f)) : Nums w (some ⟨g, 0, none⟩) n f :=
  ⟨g, 0, rfl, h.lt, fun j hj => by rw [Nat.zero_add, h.cell j, tabN_get f hj]⟩
theorem nums_ints {w : World} {A : Option Addr} {n : Nat} {zs : List Int} (h : Ints w .i64 A n zs) (hn : 0 < n) : Nums w A n (fun j => zs.getD j 0) := by
  obtain ⟨g, off, e, hlt, hc⟩ := h.2 hn
  exact ⟨g, off, e, hlt, hc⟩
/-- a matrix at work whose numbers lie anywhere -/
def workA (N : Int) (A : Option Addr) (l c b : Nat) : Value := .agg #[.int .i64 N, .slice A l c, .pointer (some ⟨b, 0, none⟩)]

set_option maxRecDepth 100000 in
set_option maxHeartbeats 1000000 in
theorem at_any (n b i k c : Nat) (A : Option Addr) (f : Nat → Int) (h6 : n ≤ 6) (hi : i < n) (hk : k < n) (w : World) (h : Nums w A (n * n) f) :
    Calls Try.prog 29 #[workA n A (n * n) c b, .int .i64 i, .int .i64 k] w fun e w' => e = .returned (.int .i64 (f (i * n + k))) ∧ Below w.heap.size w w' := by
  have hlt := idx_lt hi hk
  have hp : n * n ≤ 36 := Nat.le_trans (Nat.mul_le_mul h6 h6) (by omega)
  have hq1 : (0 : Int) ≤ (i : Int) * (n : Int) := by exact_mod_cast Nat.zero_le (i * n)
  have hq2 : (i : Int) * (n : Int) ≤ 36 := by exact_mod_cast (show i * n ≤ 36 by omega)
  have hq3 : (i : Int) * (n : Int) + (k : Int) ≤ 36 := by exact_mod_cast (show i * n + k ≤ 36 by omega)
  have hq4 : (i : Int) * (n : Int) + (k : Int) < ((n * n : Nat) : Int) := by exact_mod_cast hlt
  have e1 : ((i : Int) * (n : Int) + (k : Int)).toNat = i * n + k := by
    rw [show (i : Int) * (n : Int) + (k : Int) = ((i * n + k : Nat) : Int) by push_cast; rfl]; rfl
  obtain ⟨g, off, rfl, hg, hc⟩ := h
  have d0 := hc (i * n + k) hlt
  clear hc
  unfold workA
  go_enter Try.func29, Try.ntmps29
  go_wp2_with fail
  go_ret
  exact ⟨rfl, (Below.refl _ _).alloc (Nat.le_refl _) _⟩

set_option maxRecDepth 100000 in
set_option maxHeartbeats 1000000 in
theorem msee_any (N x : Int) (A : Option Addr) (l c b : Nat) (o t : Bool) (w : World) (h : Blk w b 4 #[.bool o]) :
    Calls Try.prog 28 #[workA N A l c b, .int .i64 x, .bool t] w fun e w' => e = .returned (.int .i64 x) ∧ Blk w' b 4 #[.bool (o || t)] ∧ w.grownBy w' (some b) := by
  have d0 := (Blk.alloc h (.cells #[.int .i64 N, .slice A l c, .pointer (some ⟨b, 0, none⟩)] 57)).cell 0
  have f0 := (Blk.alloc h (.cells #[.int .i64 N, .slice A l c, .pointer (some ⟨b, 0, none⟩)] 57)).frozen 0
  simp only [List.getElem?_toArray, List.getElem?_cons_zero] at d0
  have H := Lib.hid h
  have hlt := h.lt
  clear h
  unfold workA
  cases o
  all_goals
    go_enter Try.func28, Try.ntmps28
    go_upto_region 1 with fail
    go_region
    go_wp2_with fail
    go_ret
    exact ⟨rfl, ((H.out.set_ 0 _).alloc _).drew, grown_trans (grown_set _ _ _ _) (grown_below (((Below.refl _ _).alloc (Nat.le_refl _) _).drew))⟩
end Go.Proofs.Ytnhklfdchfndjaa.Mt
