/- Merged: MidPlain. -/
import Derived.Laws.Bits64b
import Derived.Test.YtofeoeknmlkjgaaProg
import Derived.WalkKit
set_option linter.unusedVariables false
set_option linter.unusedSimpArgs false
section
/- The middle of a list, in plain Lean. -/
namespace Go.Proofs.Ytofeoeknmlkjgaa.Md
open Go

/-! what stands in the middle of two numbers -/
theorem nat_halves : ∀ (n a b : Nat), a ≤ n → a + b = (a ^^^ b) + 2 * (a &&& b) := by
  intro n
  induction n with
  | zero => intro a b h; obtain rfl : a = 0 := (by omega); rw [Nat.zero_xor, Nat.zero_and]; omega
  | succ n ih =>
    intro a b h
    have h1 := ih (a / 2) (b / 2) (by omega)
    have e1 : (a ^^^ b) / 2 = a / 2 ^^^ b / 2 := Nat.xor_div_two
    have e2 : (a &&& b) / 2 = a / 2 &&& b / 2 := Nat.and_div_two
    have e3 : (a ^^^ b) % 2 = (a + b) % 2 := by
      have := Nat.xor_mod_two_eq_one (a := a) (b := b)
      omega
    have e4 : (a &&& b) % 2 = 1 ↔ a % 2 = 1 ∧ b % 2 = 1 := Nat.and_mod_two_eq_one
    have d1 := Nat.div_add_mod (a ^^^ b) 2
    have d2 := Nat.div_add_mod (a &&& b) 2
    rw [e1] at d1
    rw [e2] at d2
    generalize a / 2 ^^^ b / 2 = x at *
    generalize a / 2 &&& b / 2 = y at *
    by_cases hb : a % 2 = 1 ∧ b % 2 = 1
    · have := e4.2 hb; omega
    · have : (a &&& b) % 2 ≠ 1 := fun h => hb (e4.1 h)
      omega
theorem wrap_split (p : Nat) (hp : p < 18446744073709551616) : ∃ p' s : Nat, p = p' + 9223372036854775808 * s ∧ p % 9223372036854775808 = p' ∧ p' < 9223372036854775808 ∧ s ≤ 1 ∧ IntKind.i64.wrap (p : Int) = (p' : Int) - 9223372036854775808 * (s : Int) := by
  refine ⟨p % 9223372036854775808, p / 9223372036854775808, by omega, rfl, by omega, by omega, ?_⟩
  rw [IntKind.wrap_i64]
  rcases Nat.lt_or_ge p 9223372036854775808 with h | h
  · have e : p / 9223372036854775808 = 0 := by omega
    rw [e]; omega
  · have e : p / 9223372036854775808 = 1 := by omega
    rw [e]; omega
theorem halves_arith (a b : Int) (x' y' p' q' sx sy sp sq : Nat) (ha : a = (x' : Int) - 9223372036854775808 * (sx : Int)) (hb : b = (y' : Int) - 9223372036854775808 * (sy : Int))
    (k3 : x' + 9223372036854775808 * sx + (y' + 9223372036854775808 * sy) = q' + 9223372036854775808 * sq + 2 * (p' + 9223372036854775808 * sp)) (k4 : x' + y' = q' + 2 * p')
    (h1 : p' < 9223372036854775808) (h2 : q' < 9223372036854775808) (h3 : sp ≤ 1) (h4 : sq ≤ 1) :
    ((p' : Int) - 9223372036854775808 * (sp : Int)) + ((q' : Int) - 9223372036854775808 * (sq : Int)) / 2 = (a + b) / 2 ∧ -9223372036854775808 ≤ (p' : Int) - 9223372036854775808 * (sp : Int) ∧ (p' : Int) - 9223372036854775808 * (sp : Int) ≤ 9223372036854775807 ∧ -9223372036854775808 ≤ (q' : Int) - 9223372036854775808 * (sq : Int) ∧ (q' : Int) - 9223372036854775808 * (sq : Int) ≤ 9223372036854775807 := by
  have e : sx + sy = sq + 2 * sp := by omega
  refine ⟨?_, by omega, by omega, by omega, by omega⟩
  have : a + b = 2 * ((p' : Int) - 9223372036854775808 * (sp : Int)) + ((q' : Int) - 9223372036854775808 * (sq : Int)) := by omega
  rw [this]
  omega
theorem half_i64 (a b : Int) (ha : -9223372036854775808 ≤ a ∧ a ≤ 9223372036854775807) (hb : -9223372036854775808 ≤ b ∧ b ≤ 9223372036854775807) :
    bits .and .i64 a b + bits .xor .i64 a b / 2 = (a + b) / 2 ∧ -9223372036854775808 ≤ bits .and .i64 a b ∧ bits .and .i64 a b ≤ 9223372036854775807 ∧ -9223372036854775808 ≤ bits .xor .i64 a b ∧ bits .xor .i64 a b ≤ 9223372036854775807 := by
  have k1 : ∀ x y, bits .and .i64 x y = IntKind.i64.wrap (((BitVec.ofInt 64 x &&& BitVec.ofInt 64 y).toNat : Nat) : Int) := fun _ _ => rfl
  have k2 : ∀ x y, bits .xor .i64 x y = IntKind.i64.wrap (((BitVec.ofInt 64 x ^^^ BitVec.ofInt 64 y).toNat : Nat) : Int) := fun _ _ => rfl
  have m1 : ∀ x y : Nat, (x ^^^ y) % 9223372036854775808 = x % 9223372036854775808 ^^^ y % 9223372036854775808 := fun x y => Nat.xor_mod_two_pow (n := 63)
  have m2 : ∀ x y : Nat, (x &&& y) % 9223372036854775808 = x % 9223372036854775808 &&& y % 9223372036854775808 := fun x y => Nat.and_mod_two_pow (n := 63)
  rw [k1, k2, BitVec.toNat_and, BitVec.toNat_xor]
  have w1 : IntKind.i64.wrap ((BitVec.ofInt 64 a).toNat : Int) = a := by rw [BitVec.toNat_ofInt, IntKind.wrap_i64]; omega
  have w2 : IntKind.i64.wrap ((BitVec.ofInt 64 b).toNat : Int) = b := by rw [BitVec.toNat_ofInt, IntKind.wrap_i64]; omega
  have l3 := (BitVec.ofInt 64 a).isLt
  have l4 := (BitVec.ofInt 64 b).isLt
  generalize (BitVec.ofInt 64 a).toNat = x at *
  generalize (BitVec.ofInt 64 b).toNat = y at *
  have l1 : x &&& y < 18446744073709551616 := Nat.and_lt_two_pow (n := 64) _ l4
  have l2 : x ^^^ y < 18446744073709551616 := Nat.xor_lt_two_pow (n := 64) l3 l4
  have k3 := nat_halves x x y (Nat.le_refl _)
  have k4 := nat_halves (x % 9223372036854775808) (x % 9223372036854775808) (y % 9223372036854775808) (Nat.le_refl _)
  rw [← m1, ← m2] at k4
  generalize x &&& y = p at *
  generalize x ^^^ y = q at *
  obtain ⟨x', sx, rfl, ex, _, hsx, vx⟩ := wrap_split x l3
  obtain ⟨y', sy, rfl, ey, _, hsy, vy⟩ := wrap_split y l4
  obtain ⟨p', sp, rfl, ep, hp', hsp, vp⟩ := wrap_split p l1
  obtain ⟨q', sq, rfl, eq, hq', hsq, vq⟩ := wrap_split q l2
  rw [ex, ey, ep, eq] at k4
  rw [vx] at w1
  rw [vy] at w2
  rw [vp, vq]
  exact halves_arith a b x' y' p' q' sx sy sp sq w1.symm w2.symm k3 k4 hp' hq' hsp hsq

/-! the sorted list -/
def srt (l : List Int) : List Int := l.mergeSort (fun x y => decide (x ≤ y))
theorem srt_perm (l : List Int) : (srt l).Perm l := List.mergeSort_perm _ _
theorem srt_len (l : List Int) : (srt l).length = l.length := (srt_perm l).length_eq
theorem srt_pw (l : List Int) : (srt l).Pairwise (· ≤ ·) := by
  have h := List.pairwise_mergeSort (le := fun x y : Int => decide (x ≤ y)) (fun a b c h1 h2 => by simp at *; omega) (fun a b => by simp; omega) l
  exact h.imp (fun h => by simpa using h)
theorem srt_le {l : List Int} {i j : Nat} (hij : i ≤ j) (hj : j < l.length) : (srt l).getD i 0 ≤ (srt l).getD j 0 := by
  have hl := srt_len l
  have h := List.pairwise_iff_getElem.1 (srt_pw l)
  have hi' : i < (srt l).length := by omega
  have hj' : j < (srt l).length := by omega
  simp only [List.getD, List.getElem?_eq_getElem hi', List.getElem?_eq_getElem hj', Option.getD_some]
  rcases Nat.lt_or_ge i j with h1 | h1
  · exact h i j hi' hj' h1
  · obtain rfl : i = j := by omega
    exact Int.le_refl _
theorem srt_mem {l : List Int} {i : Nat} (hi : i < l.length) : (srt l).getD i 0 ∈ l := by
  have hl := srt_len l
  have hi' : i < (srt l).length := by omega
  simp only [List.getD, List.getElem?_eq_getElem hi', Option.getD_some]
  exact (srt_perm l).mem_iff.1 (List.getElem_mem hi')
theorem srt_count_le {l : List Int} {j : Nat} (hj : j < l.length) : j + 1 ≤ l.countP (fun x => decide (x ≤ (srt l).getD j 0)) := by
  have hl := srt_len l
  rw [← (srt_perm l).countP_eq]
  have h1 : (List.countP (fun x => decide (x ≤ (srt l).getD j 0)) ((srt l).take (j + 1))) = j + 1 := by
    rw [List.countP_eq_length.2]
    · rw [List.length_take]; omega
    · intro a ha
      obtain ⟨i, hi, rfl⟩ := List.getElem_of_mem ha
      rw [List.length_take] at hi
      rw [List.getElem_take]
      have := srt_le (l := l) (i := i) (j := j) (by omega) hj
      have hi' : i < (srt l).length := by omega
      simp only [List.getD, List.getElem?_eq_getElem hi', Option.getD_some] at this
      exact decide_eq_true this
  calc j + 1 = _ := h1.symm
    _ ≤ _ := (List.take_sublist _ _).countP_le
theorem srt_count_ge {l : List Int} {j : Nat} (hj : j < l.length) : l.length - j ≤ l.countP (fun x => decide ((srt l).getD j 0 ≤ x)) := by
  have hl := srt_len l
  rw [← (srt_perm l).countP_eq]
  have h1 : (List.countP (fun x => decide ((srt l).getD j 0 ≤ x)) ((srt l).drop j)) = l.length - j := by
    rw [List.countP_eq_length.2]
    · rw [List.length_drop]; omega
    · intro a ha
      obtain ⟨i, hi, rfl⟩ := List.getElem_of_mem ha
      rw [List.length_drop] at hi
      rw [List.getElem_drop]
      have := srt_le (l := l) (i := j) (j := j + i) (by omega) (by omega)
      have hi' : j + i < (srt l).length := by omega
      simp only [List.getD, List.getElem?_eq_getElem hi', Option.getD_some] at this
      exact decide_eq_true this
  calc l.length - j = _ := h1.symm
    _ ≤ _ := (List.drop_sublist _ _).countP_le
def third (n : Nat) : Nat := (n - 1) / 3
def midZ (l : List Int) : Int := ((srt l).getD (third l.length) 0 + (srt l).getD (l.length - 1 - third l.length) 0) / 2
theorem third_lt {n : Nat} (h : 0 < n) : third n < n ∧ n - 1 - third n < n ∧ third n ≤ n - 1 - third n ∧ n - (n - 1 - third n) = third n + 1 := by unfold third; omega
theorem mid_guard {lies good : List Int} (h3 : 3 * lies.length < lies.length + good.length) {lo hi : Int} (h : ∀ g ∈ good, lo ≤ g ∧ g ≤ hi) : lo ≤ midZ (lies ++ good) ∧ midZ (lies ++ good) ≤ hi := by
  have hpos : 0 < (lies ++ good).length := by rw [List.length_append]; omega
  obtain ⟨t1, t2, t3, t4⟩ := third_lt hpos
  have hk : lies.length ≤ third (lies ++ good).length := by unfold third; rw [List.length_append]; omega
  have c1 := srt_count_le t1
  have c2 := srt_count_ge t2
  have c3 := srt_le t3 t2
  rw [t4] at c2
  have u1 : lo ≤ (srt (lies ++ good)).getD (third (lies ++ good).length) 0 := by
    apply Decidable.byContradiction
    intro hn
    have z : List.countP (fun x => decide (x ≤ (srt (lies ++ good)).getD (third (lies ++ good).length) 0)) good = 0 := by
      rw [List.countP_eq_zero]
      intro g hg
      have := (h g hg).1
      simp only [decide_eq_true_eq]
      omega
    rw [List.countP_append, z] at c1
    have := List.countP_le_length (p := fun x => decide (x ≤ (srt (lies ++ good)).getD (third (lies ++ good).length) 0)) (l := lies)
    omega
  have u2 : (srt (lies ++ good)).getD ((lies ++ good).length - 1 - third (lies ++ good).length) 0 ≤ hi := by
    apply Decidable.byContradiction
    intro hn
    have z : List.countP (fun x => decide ((srt (lies ++ good)).getD ((lies ++ good).length - 1 - third (lies ++ good).length) 0 ≤ x)) good = 0 := by
      rw [List.countP_eq_zero]
      intro g hg
      have := (h g hg).2
      simp only [decide_eq_true_eq]
      omega
    rw [List.countP_append, z] at c2
    have := List.countP_le_length (p := fun x => decide ((srt (lies ++ good)).getD ((lies ++ good).length - 1 - third (lies ++ good).length) 0 ≤ x)) (l := lies)
    omega
  unfold midZ
  omega
/-! three good readings and a lie -/
def clampZ (x z a : Int) : Int := if a < x then x else if z < a then z else a
end Go.Proofs.Ytofeoeknmlkjgaa.Md
end
