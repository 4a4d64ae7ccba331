/- clock.Middle at every list; it answers. -/
import Derived.Test.YtaobnddnefabeaaMiddle
import Derived.Test.YtaobnddnefabeaaOpen
import Derived.Test.YtaobnddnefabeaaSpot
set_option linter.unusedVariables false
namespace Go.Proofs.Ytaobnddnefabeaa.Md
open Go.RowKit Go.Proofs.Ytaobnddnefabeaa Go.Proofs Go.Shelf

/-- is there a middle? -/
def midB (n : Nat) : Bool := decide (0 < n ∧ n ≤ 64)
def midV (zs : List Int) : Int := if midB zs.length = true then midZ zs else 0
def midE (n : Nat) : Int := if midB n = true then 0 else 8
def In64 (z : Int) : Prop := -9223372036854775808 ≤ z ∧ z ≤ 9223372036854775807
theorem midV_ok {zs : List Int} (h0 : 0 < zs.length) (h : zs.length ≤ 64) : midV zs = midZ zs := by unfold midV midB; rw [if_pos (by simp; omega)]
theorem midE_ok {n : Nat} (h0 : 0 < n) (h : n ≤ 64) : midE n = 0 := by unfold midE midB; rw [if_pos (by simp; omega)]
theorem midE_bad {n : Nat} (h : n = 0 ∨ 64 < n) : midE n = 8 := by unfold midE midB; rw [if_neg (by simp; omega)]
theorem midV_bad {zs : List Int} (h : zs.length = 0 ∨ 64 < zs.length) : midV zs = 0 := by unfold midV midB; rw [if_neg (by simp; omega)]
theorem midV_perm {l m : List Int} (h : l.Perm m) : midV l = midV m := by unfold midV; rw [h.length_eq, mid_perm h]

theorem Middle_any (A : Option Addr) (len cap : Nat) (zs : List Int) (w : World) (hI : Ints w .i64 A len zs) (hz : ∀ z ∈ zs, In64 z) (hl : len ≤ 9223372036854775807) :
    Calls Try.prog 26 #[.slice A len cap] w fun e w' => e = .returned (.tuple #[.int .i64 (midV zs), .int .i64 (midE len)]) ∧ Below w.heap.size w w' := by
  have hlen := hI.1
  by_cases h : 0 < len ∧ len ≤ 64
  · rw [midV_ok (by omega) (by omega), midE_ok h.1 h.2]
    exact Middle_ok A len cap zs h.1 h.2 w hI hz
  · rw [midV_bad (by omega), midE_bad (by omega)]
    refine (Middle_bad A len cap (by omega) hl w).mono ?_
    rintro e w' ⟨he, rfl⟩
    exact ⟨he, Below.refl _ _⟩

theorem mid_test : midZ [1, 2, 4, 100] = 3 := by
  unfold midZ
  rw [srt_eq (l := [1, 2, 4, 100]) (s := [1, 2, 4, 100]) (List.Perm.refl _) (by simp)]
  rfl

set_option maxRecDepth 100000 in
set_option maxHeartbeats 1000000 in
theorem middles_any (w : World) : Calls Try.prog 27 #[] w fun e w' => e = .returned (.bool true) ∧ Below w.heap.size w w' := by
  have k := Middle_ok (some ⟨w.heap.size, 0, none⟩) 4 4 [1, 2, 4, 100] (by omega) (by omega) (w.alloc (.cells #[.int .i64 1, .int .i64 2, .int .i64 4, .int .i64 100] 3))
    ⟨rfl, fun _ => ⟨w.heap.size, 0, rfl, by simp, fun j hj => by
      have := (Blk.new w 3 #[.int .i64 1, .int .i64 2, .int .i64 4, .int .i64 100]).cell j
      rw [Nat.zero_add, this]
      match j, hj with
      | 0, _ => rfl
      | 1, _ => rfl
      | 2, _ => rfl
      | 3, _ => rfl⟩⟩ (by simp)
  rw [mid_test] at k
  have K := Lib.hid k
  clear k
  go_enter Try.func27, Try.ntmps27
  go_wp2_with fail
  refine K.out.mono ?_
  rintro e w1 ⟨rfl, hB⟩
  have HB := Lib.hid hB
  clear hB
  go_wp2_with fail
  go_ret
  exact ⟨rfl, below_next ((Below.refl _ _).alloc (Nat.le_refl _) _) HB.out⟩

set_option maxRecDepth 100000 in
/-- a list that came in -/
theorem list_in {H : Type} {enc : TypeId × Value → H} {W : World} {base : Nat} {v : Value} {d : DataW H} {p : List MemPlace} (h0 : Value.okWide Try.prog W .any base 51 v)
    (k0 : DataW.Trod enc Try.prog W 0 (fun _ => true) true 51 v d p) (s0 : ∀ es sp, d = .slice es sp → (es.length + sp.length) * Try.prog.bytesOf 3 ≤ reachBytes) :
    ∃ (A : Option Addr) (n c : Nat) (zs : List Int), v = .slice A n c ∧ Ints W .i64 A n zs ∧ (∀ z ∈ zs, In64 z) ∧ (A = none → n = 0 ∧ c = 0) ∧ n ≤ c ∧ c * 8 ≤ 140737488351232 := by
  obtain ⟨A, n, c, rfl, hnc, _, hA, _⟩ := ok_slice Try.underlying51 h0
  obtain ⟨zs, hI, hz, _, hr⟩ := ints_in Try.underlying51 Try.underlying3 (by kernel_rfl) k0 s0
  have hb : Try.prog.bytesOf 3 = 8 := by kernel_rfl
  rw [hb] at hr
  refine ⟨A, n, c, zs, rfl, hI, fun z h => ?_, hA, hnc, by unfold reachBytes at hr; omega⟩
  unfold In64
  simpa [Lit.wf, IntKind.has, IntKind.min, IntKind.max, IntKind.signed, IntKind.bits] using hz z h
end Go.Proofs.Ytaobnddnefabeaa.Md
