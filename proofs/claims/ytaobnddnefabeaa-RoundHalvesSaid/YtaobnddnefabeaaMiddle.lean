/- clock.Middle: the middle of a list. -/
import Derived.Test.YtaobnddnefabeaaMidSort
import Derived.Deep.QuietTactic
set_option linter.unusedVariables false
namespace Go.Proofs.Ytaobnddnefabeaa.Md
open Go.RowKit Go.Proofs.Ytaobnddnefabeaa Go.Proofs Go.Shelf

theorem Values_any (a : Option Addr) (len cap : Nat) (w : World) :
    Calls Try.prog 43 #[.slice a len cap] w fun e w' => e = .returned (.func (.func 53) #[] #[.pointer (some ⟨w.heap.size, 0, none⟩)]) ∧ w' = w.alloc (.cells #[.slice a len cap] 51) :=
  (callsIn_wide (n := 6)).1 (values_in Fence.wide 6 trivial rfl a len cap w)

set_option maxRecDepth 100000 in
set_option maxHeartbeats 2000000 in
theorem Middle_ok (A : Option Addr) (len cap : Nat) (zs : List Int) (h0 : 0 < len) (h64 : len ≤ 64) (w : World) (hI : Ints w .i64 A len zs) (hz : ∀ z ∈ zs, -9223372036854775808 ≤ z ∧ z ≤ 9223372036854775807) :
    Calls Try.prog 26 #[.slice A len cap] w fun e w' => e = .returned (.tuple #[.int .i64 (midZ zs), .int .i64 0]) ∧ Below w.heap.size w w' := by
  have hzl := hI.1
  have ks := Sorted_any w.heap.size len cap A zs h0 (by unfold maxLen; omega) (by omega) (w.alloc (.cells #[.slice A len cap] 51)) (hI.alloc _) (by simp) ((Blk.new w 51 #[.slice A len cap]).cell 0)
  obtain ⟨q1, q2, q3, q4⟩ := third_lt h0
  have mem : ∀ i, i < len → -9223372036854775808 ≤ (srt zs).getD i 0 ∧ (srt zs).getD i 0 ≤ 9223372036854775807 := fun i hi => hz _ (srt_mem (by omega))
  have kh := fun W => half_any _ _ (mem _ q1) (mem _ q2) W
  have hmid : ((srt zs).getD (third len) 0 + (srt zs).getD (len - 1 - third len) 0) / 2 = midZ zs := by unfold midZ; rw [hzl]
  rw [hmid] at kh
  have ek : ((len : Int) - 1) / 3 = ((third len : Nat) : Int) := by unfold third; omega
  obtain ⟨r, hr, e1⟩ : ∃ r, len - third len - third len = r + 1 ∧ len - 1 - third len = third len + r := ⟨len - third len - third len - 1, by omega, by omega⟩
  rw [e1] at kh
  have hr1 : third len + r < len := by omega
  have HR := Lib.hid hr
  have KS := Lib.hid ks
  have KH := Lib.hid kh
  have EK := Lib.hid ek
  clear ks kh ek hmid mem hzl hI hz hr e1 q2 q3 q4
  generalize third len = k at *
  generalize midZ zs = m at *
  have t1 : ((len : Int) == 0) = false := by simp; omega
  have t2 : decide (64 < (len : Int)) = false := by simp; omega
  have ek2 : (len - 1) / 3 = k := by have := EK.out; omega
  have EK2 := Lib.hid ek2
  clear ek2
  go_enter Try.func26, Try.ntmps26
  go_wp2_with (first
    | (go_at_call 43; (with_reducible refine (Values_any _ _ _ _).mono ?_); rintro e w1 ⟨rfl, rfl⟩)
    | (go_at_call 42; (with_reducible refine KS.out.mono ?_); rintro e w1 ⟨g, c, rfl, hg, hlc, hI1, hB1⟩))
  rw [EK.out, EK2.out]
  obtain ⟨-, hI2⟩ := hI1
  obtain ⟨g', off, eg, hlt, hc⟩ := hI2 (by omega)
  injection eg with eg
  injection eg with eg eo
  subst eg
  subst eo
  simp only [Nat.zero_add] at hc
  have d0 := hc k (by omega)
  have d1 := hc (k + r) hr1
  have hkk : k < c := by omega
  rw [HR.out]
  have hz3 : IntKind.i64.wrap (r : Int) = (r : Int) := IntWalk.i64_in _ (by omega)
  have hz4 : IntKind.i64.wrap ((r : Int) + 1 - 1) = (r : Int) := by rw [show (r : Int) + 1 - 1 = r by omega]; exact hz3
  have D0 := Lib.hid d0
  have D1 := Lib.hid d1
  generalize (srt zs).getD k 0 = x at *
  generalize (srt zs).getD (k + r) 0 = y at *
  clear HR
  clear hc hI2
  have hz5 : (r : Int) < (r : Int) + 1 := by omega
  have HB := Lib.hid hB1
  clear hB1
  go_quiet ((go_at_call 44; exact Calls.quiet_of_same (KH.out _)))
  go_wp2_with fail
  refine bodyPost_ret (v := .tuple #[.int .i64 m, .int .i64 0]) (by simp [results, Try.results26, go_sem]) rfl ⟨rfl, ?_⟩
  exact (below_next ((Below.refl w.heap.size w).alloc (Nat.le_refl _) _) HB.out).trans (below_drewN _ _ _)

set_option maxRecDepth 100000 in
set_option maxHeartbeats 2000000 in
theorem Middle_bad (A : Option Addr) (len cap : Nat) (h : len = 0 ∨ 64 < len) (hl : len ≤ 9223372036854775807) (w : World) :
    Calls Try.prog 26 #[.slice A len cap] w fun e w' => e = .returned (.tuple #[.int .i64 0, .int .i64 8]) ∧ w = w' := by
  rcases Nat.eq_zero_or_pos len with rfl | h0
  · go_enter Try.func26, Try.ntmps26
    go_wp2_with fail
    refine bodyPost_ret (v := .tuple #[.int .i64 0, .int .i64 8]) (by simp [results, Try.results26, go_sem]) rfl ⟨rfl, rfl⟩
  · have t1 : ((len : Int) == 0) = false := by simp; omega
    have t2 : decide (64 < (len : Int)) = true := by simp; omega
    go_enter Try.func26, Try.ntmps26
    go_wp2_with fail
    refine bodyPost_ret (v := .tuple #[.int .i64 0, .int .i64 8]) (by simp [results, Try.results26, go_sem]) rfl ⟨rfl, rfl⟩
end Go.Proofs.Ytaobnddnefabeaa.Md
