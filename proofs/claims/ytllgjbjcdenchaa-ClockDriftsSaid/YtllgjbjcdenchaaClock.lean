/- Contracts of the package clock's functions on single clocks. -/
import Derived.Test.YtllgjbjcdenchaaProg
import Derived.Test.YtllgjbjcdenchaaKit
set_option linter.unusedVariables false
namespace Go.Proofs.Ytllgjbjcdenchaa
open Go.RowKit

def partB (n m : Int) : Bool := decide (-m ≤ n) && decide (n ≤ m)

theorem part_any (n m : Int) (w : World) (hm : 0 ≤ m) (hm' : m ≤ 4611686018427387904) :
    Calls Try.prog 50 #[.int .i64 n, .int .i64 m] w fun e w' => e = .returned (.bool (partB n m)) ∧ w = w' := by
  by_cases h1 : -m ≤ n
  · by_cases h2 : n ≤ m
    · go_enter Try.func50, Try.ntmps50
      go_wp2
      go_ret
      exact ⟨by simp [partB, h1, h2], rfl⟩
    · go_enter Try.func50, Try.ntmps50
      go_wp2
      go_ret
      exact ⟨by simp [partB]; omega, rfl⟩
  · go_enter Try.func50, Try.ntmps50
    go_wp2
    go_ret
    exact ⟨by simp [partB]; omega, rfl⟩

theorem floor_any (a : Int) (w : World) (ha : -4611686018427387904 ≤ a) (ha' : a ≤ 4611686018427387904) :
    Calls Try.prog 51 #[.int .i64 a, .int .i64 1000000] w fun e w' => e = .returned (.int .i64 (a / 1000000)) ∧ w = w' := by
  have t1 := tdiv_eq_if a 1000000
  have t2 : a.tmod 1000000 = a - 1000000 * (a.tdiv 1000000) := by have := Int.mul_tdiv_add_tmod a 1000000; omega
  have t3 : a.tmod 1000000 < 0 → wrap64 (a.tdiv 1000000 - 1) = a / 1000000 := by
    intro h; rw [t2, t1] at h; rw [IntWalk.wrap64_in _ (by rw [t1]; split <;> omega), t1]; split at h <;> simp_all <;> omega
  have t4 : 0 ≤ a.tmod 1000000 → a.tdiv 1000000 = a / 1000000 := by
    intro h; rw [t2, t1] at h; rw [t1]; split at h <;> simp_all <;> omega
  have H3 := Lib.hid t3
  have H4 := Lib.hid t4
  clear t1 t2 t3 t4
  go_enter Try.func51, Try.ntmps51
  go_wp2
  · have := H3.out (by assumption)
    go_ret
    exact ⟨ret_i64 this, rfl⟩
  · have := H4.out (by assumption)
    go_ret
    exact ⟨ret_i64 this, rfl⟩

def locB (o r t : Int) : Bool := partB o 1073741824 && partB r 500 && decide (0 ≤ t) && decide (t ≤ 1099511627776)

theorem local_bad (o r t : Int) (w : World) (hb : locB o r t = false) :
    Calls Try.prog 21 #[.agg #[.int .i64 o, .int .i64 r], .int .i64 t] w fun e w' => e = .returned (.tuple #[.int .i64 0, .int .i64 3]) ∧ Below w.heap.size w w' := by
  by_cases h1 : partB o 1073741824 = true
  · by_cases h2 : partB r 500 = true
    · by_cases h3 : 0 ≤ t
      · have h4 : 1099511627776 < t := by unfold locB at hb; simp [h1, h2, h3] at hb; omega
        clear hb
        go_enter Try.func21, Try.ntmps21
        go_wp2_with (go_at_call 50; refine (part_any _ _ _ (by omega) (by omega)).mono ?_; rintro e w' ⟨rfl, rfl⟩)
        go_ret2
        exact ⟨rfl, (Below.refl _ _).alloc (Nat.le_refl _) _⟩
      · clear hb
        go_enter Try.func21, Try.ntmps21
        go_wp2_with (go_at_call 50; refine (part_any _ _ _ (by omega) (by omega)).mono ?_; rintro e w' ⟨rfl, rfl⟩)
        go_ret2
        exact ⟨rfl, (Below.refl _ _).alloc (Nat.le_refl _) _⟩
    · clear hb
      have h2' : partB r 500 = false := by simpa using h2
      clear h2
      go_enter Try.func21, Try.ntmps21
      go_wp2_with (go_at_call 50; refine (part_any _ _ _ (by omega) (by omega)).mono ?_; rintro e w' ⟨rfl, rfl⟩)
      go_ret2
      exact ⟨rfl, (Below.refl _ _).alloc (Nat.le_refl _) _⟩
  · clear hb
    have h1' : partB o 1073741824 = false := by simpa using h1
    clear h1
    go_enter Try.func21, Try.ntmps21
    go_wp2_with (go_at_call 50; refine (part_any _ _ _ (by omega) (by omega)).mono ?_; rintro e w' ⟨rfl, rfl⟩)
    go_ret2
    exact ⟨rfl, (Below.refl _ _).alloc (Nat.le_refl _) _⟩

theorem mul_bound {t r : Int} (b1 : -500 ≤ r) (b2 : r ≤ 500) (h3 : 0 ≤ t) (h4 : t ≤ 1099511627776) : -549755813888000 ≤ t * r ∧ t * r ≤ 549755813888000 := by
  have q1 : -500 * t ≤ r * t := Int.mul_le_mul_of_nonneg_right b1 h3
  have q2 : r * t ≤ 500 * t := Int.mul_le_mul_of_nonneg_right b2 h3
  rw [Int.mul_comm r t] at q1 q2
  omega

theorem locB_get {o r t : Int} (hb : locB o r t = true) : partB o 1073741824 = true ∧ partB r 500 = true ∧ 0 ≤ t ∧ t ≤ 1099511627776 := by
  unfold locB at hb
  simp only [Bool.and_eq_true, decide_eq_true_eq] at hb
  exact ⟨hb.1.1.1, hb.1.1.2, hb.1.2, hb.2⟩
theorem partB_get {n m : Int} (h : partB n m = true) : -m ≤ n ∧ n ≤ m := by
  unfold partB at h
  simpa only [Bool.and_eq_true, decide_eq_true_eq] using h

theorem local_ok (o r t p : Int) (w : World) (hb : locB o r t = true) (hp : p = t * r) :
    Calls Try.prog 21 #[.agg #[.int .i64 o, .int .i64 r], .int .i64 t] w fun e w' => e = .returned (.tuple #[.int .i64 (t + o + p / 1000000), .int .i64 0]) ∧ Below w.heap.size w w' := by
  obtain ⟨h1, h2, h3, h4⟩ := locB_get hb
  obtain ⟨b1, b1'⟩ := partB_get h1
  obtain ⟨b2, b2'⟩ := partB_get h2
  obtain ⟨q1, q2⟩ := mul_bound b2 b2' h3 h4
  have hp' : IntKind.i64.wrap (t * r) = p := by rw [← hp]; exact IntWalk.i64_in _ (by omega)
  rw [← hp] at q1 q2
  clear hp hb
  have s1 : IntKind.i64.wrap (t + o) = t + o := IntWalk.i64_in _ (by omega)
  have s2 : IntKind.i64.wrap (t + o + p / 1000000) = t + o + p / 1000000 := IntWalk.i64_in _ (by omega)
  have k51 := fun (W : World) => floor_any p W (by omega) (by omega)
  have K51 := Lib.hid k51
  clear k51
  go_enter Try.func21, Try.ntmps21
  go_wp2_with (first | (go_at_call 50; refine (part_any _ _ _ (by omega) (by omega)).mono ?_; rintro e w' ⟨rfl, rfl⟩))
  go_quiet ((go_at_call 51; exact quietSame (K51.out _)))
  go_wp2
  go_ret2
  exact ⟨rfl, ((Below.refl _ _).alloc (Nat.le_refl _) _).trans (below_drewN _ _ _)⟩

/-- what a clock shows, or the refusal -/
def locV (o r t : Int) : Int := if locB o r t = true then t + o + t * r / 1000000 else 0
def locE (o r t : Int) : Int := if locB o r t = true then 0 else 3

theorem local_any (o r t x e : Int) (w : World) (hx : locV o r t = x) (he : locE o r t = e) :
    Calls Try.prog 21 #[.agg #[.int .i64 o, .int .i64 r], .int .i64 t] w fun z w' => z = .returned (.tuple #[.int .i64 x, .int .i64 e]) ∧ Below w.heap.size w w' := by
  subst hx
  subst he
  unfold locV locE
  cases h : locB o r t with
  | false => simpa using local_bad o r t w h
  | true => simpa using local_ok o r t _ w h rfl

theorem drift_law {o r t u : Int} (h1 : locB o r t = true) (_h2 : locB o r u = true) (htu : t ≤ u) :
    ((u + o + u * r / 1000000) - (t + o + t * r / 1000000)) - (u - t) ≤ (u - t) * 500 / 1000000 + 1 ∧
    -(((u + o + u * r / 1000000) - (t + o + t * r / 1000000)) - (u - t)) ≤ (u - t) * 500 / 1000000 + 1 ∧
    t + o + t * r / 1000000 ≤ u + o + u * r / 1000000 := by
  obtain ⟨_, hr, _, _⟩ := locB_get h1
  obtain ⟨b1, b2⟩ := partB_get hr
  have q1 : -500 * (u - t) ≤ r * (u - t) := Int.mul_le_mul_of_nonneg_right b1 (by omega)
  have q2 : r * (u - t) ≤ 500 * (u - t) := Int.mul_le_mul_of_nonneg_right b2 (by omega)
  have q3 : r * (u - t) = u * r - t * r := by rw [Int.mul_sub, Int.mul_comm r u, Int.mul_comm r t]
  rw [q3] at q1 q2
  generalize u * r = q at *
  generalize t * r = p at *
  omega
end Go.Proofs.Ytllgjbjcdenchaa
