/- A round of clocks, in plain Lean. -/
import Derived.Test.YtaobnddnefabeaaMidPlain
namespace Go.Proofs.Ytaobnddnefabeaa.Md
open Go

/-- what clock i is told by clock q -/
def told (o l : Nat → Int) (bad : Int) (i q : Nat) : Int := if (q : Int) = bad then l i else o q
def lst (o l : Nat → Int) (bad : Int) (i : Nat) (n : Nat) : List Int := (List.range n).map fun q => told o l bad i q - o i
def newR (o l : Nat → Int) (bad : Int) (i : Nat) : Int := if (i : Int) = bad then o i else o i + midZ (lst o l bad i 4)
theorem lst_len (o l : Nat → Int) (bad : Int) (i n : Nat) : (lst o l bad i n).length = n := by simp [lst]
theorem lst_succ (o l : Nat → Int) (bad : Int) (i n : Nat) : lst o l bad i (n + 1) = lst o l bad i n ++ [told o l bad i n - o i] := by simp [lst, List.range_succ]
theorem lst_mem {o l : Nat → Int} {bad : Int} {i n : Nat} {M : Int} (ho : ∀ k, k < 4 → -M ≤ o k ∧ o k ≤ M) (hl : ∀ k, k < 4 → -M ≤ l k ∧ l k ≤ M) (hi : i < 4) (hn : n ≤ 4) : ∀ z ∈ lst o l bad i n, -(2 * M) ≤ z ∧ z ≤ 2 * M := by
  intro z hz
  obtain ⟨q, hq, rfl⟩ := List.mem_map.1 hz
  rw [List.mem_range] at hq
  have h1 := ho i hi
  have h2 := ho q (by omega)
  have h3 := hl i hi
  simp only [told]
  split <;> omega
theorem lst_mid {o l : Nat → Int} {bad : Int} {i : Nat} {M : Int} (ho : ∀ k, k < 4 → -M ≤ o k ∧ o k ≤ M) (hl : ∀ k, k < 4 → -M ≤ l k ∧ l k ≤ M) (hi : i < 4) : -(2 * M) ≤ midZ (lst o l bad i 4) ∧ midZ (lst o l bad i 4) ≤ 2 * M := by
  have h := mid_guard (lies := []) (good := lst o l bad i 4) (lo := -(2 * M)) (hi := 2 * M) (by rw [lst_len]; simp) (lst_mem ho hl hi (Nat.le_refl _))
  simpa using h
/-- the new offset is the middle of what is told -/
theorem newR_eq {o l : Nat → Int} {bad : Int} {i : Nat} (h : (i : Int) ≠ bad) : newR o l bad i = midZ [told o l bad i 0, told o l bad i 1, told o l bad i 2, told o l bad i 3] := by
  have e : lst o l bad i 4 = [told o l bad i 0, told o l bad i 1, told o l bad i 2, told o l bad i 3].map (· + (-(o i))) := by simp [lst, List.range_succ]; omega
  rw [newR, if_neg h, e, mid_shift _ _ (by simp)]
  omega
/-- the good ones' least and greatest -/
def Wide (o : Nat → Int) (bad lo hi : Int) : Prop := ∀ k : Nat, k < 4 → (k : Int) ≠ bad → lo ≤ o k ∧ o k ≤ hi
theorem all4 {p : Nat → Prop} (h : ∀ k, k < 4 → p k) : p 0 ∧ p 1 ∧ p 2 ∧ p 3 := ⟨h 0 (by omega), h 1 (by omega), h 2 (by omega), h 3 (by omega)⟩
theorem newR_in {o l : Nat → Int} {bad lo hi : Int} (h : Wide o bad lo hi) {i : Nat} (hi4 : i < 4) (hb : (i : Int) ≠ bad) : lo ≤ newR o l bad i ∧ newR o l bad i ≤ hi := by
  rw [newR_eq hb]
  obtain ⟨h0, h1, h2, h3⟩ := all4 (p := fun k => (k : Int) ≠ bad → lo ≤ o k ∧ o k ≤ hi) h
  by_cases c0 : ((0 : Nat) : Int) = bad
  · subst c0
    have g := mid_guard (lies := [l i]) (good := [o 1, o 2, o 3]) (by simp) (lo := lo) (hi := hi) (by simpa using ⟨h1 (by omega), h2 (by omega), h3 (by omega)⟩)
    simpa [told] using g
  by_cases c1 : ((1 : Nat) : Int) = bad
  · subst c1
    have g := mid_guard (lies := [l i]) (good := [o 0, o 2, o 3]) (by simp) (lo := lo) (hi := hi) (by simpa using ⟨h0 (by omega), h2 (by omega), h3 (by omega)⟩)
    rw [mid_perm (l := [l i] ++ [o 0, o 2, o 3]) (m := [o 0, l i, o 2, o 3]) (List.Perm.swap _ _ _)] at g
    simpa [told] using g
  by_cases c2 : ((2 : Nat) : Int) = bad
  · subst c2
    have g := mid_guard (lies := [l i]) (good := [o 0, o 1, o 3]) (by simp) (lo := lo) (hi := hi) (by simpa using ⟨h0 (by omega), h1 (by omega), h3 (by omega)⟩)
    rw [mid_perm (l := [l i] ++ [o 0, o 1, o 3]) (m := [o 0, o 1, l i, o 3]) (List.perm_append_comm_assoc [l i] [o 0, o 1] [o 3])] at g
    simpa [told] using g
  by_cases c3 : ((3 : Nat) : Int) = bad
  · subst c3
    have g := mid_guard (lies := [l i]) (good := [o 0, o 1, o 2]) (by simp) (lo := lo) (hi := hi) (by simpa using ⟨h0 (by omega), h1 (by omega), h2 (by omega)⟩)
    rw [mid_perm (m := [o 0, o 1, o 2, l i]) (List.perm_append_comm (l₁ := [l i]) (l₂ := [o 0, o 1, o 2]))] at g
    simpa [told] using g
  · have g := mid_guard (lies := []) (good := [o 0, o 1, o 2, o 3]) (by simp) (lo := lo) (hi := hi) (by simpa using ⟨h0 c0, h1 c1, h2 c2, h3 c3⟩)
    have e0 : told o l bad i 0 = o 0 := if_neg c0
    have e1 : told o l bad i 1 = o 1 := if_neg c1
    have e2 : told o l bad i 2 = o 2 := if_neg c2
    have e3 : told o l bad i 3 = o 3 := if_neg c3
    rw [e0, e1, e2, e3]
    exact g
/-- two good clocks behind a round -/
theorem newR_near {o l : Nat → Int} {bad lo hi : Int} (h : Wide o bad lo hi) {i j : Nat} (hi4 : i < 4) (hj4 : j < 4) (hi_ : (i : Int) ≠ bad) (hj : (j : Int) ≠ bad) : 2 * (newR o l bad i - newR o l bad j) ≤ (hi - lo) + 1 := by
  rw [newR_eq hi_, newR_eq hj]
  obtain ⟨h0, h1, h2, h3⟩ := all4 (p := fun k => (k : Int) ≠ bad → lo ≤ o k ∧ o k ≤ hi) h
  have key : ∀ p q r a b : Int, lo ≤ p ∧ p ≤ hi → lo ≤ q ∧ q ≤ hi → lo ≤ r ∧ r ≤ hi → 2 * (midZ [a, p, q, r] - midZ [b, p, q, r]) ≤ (hi - lo) + 1 := by
    intro p q r a b k1 k2 k3
    have := (mid_halves p q r a b).1
    rw [mid_perm (l := [p, q, r, a]) (m := [a, p, q, r]) (List.perm_append_comm (l₁ := [p, q, r]) (l₂ := [a]))] at this
    omega
  by_cases c0 : ((0 : Nat) : Int) = bad
  · subst c0
    have g := key (o 1) (o 2) (o 3) (l i) (l j) (h1 (by omega)) (h2 (by omega)) (h3 (by omega))
    simpa [told] using g
  by_cases c1 : ((1 : Nat) : Int) = bad
  · subst c1
    have g := key (o 0) (o 2) (o 3) (l i) (l j) (h0 (by omega)) (h2 (by omega)) (h3 (by omega))
    rw [mid_perm (l := [l i, o 0, o 2, o 3]) (m := [o 0, l i, o 2, o 3]) (List.Perm.swap _ _ _), mid_perm (l := [l j, o 0, o 2, o 3]) (m := [o 0, l j, o 2, o 3]) (List.Perm.swap _ _ _)] at g
    simpa [told] using g
  by_cases c2 : ((2 : Nat) : Int) = bad
  · subst c2
    have g := key (o 0) (o 1) (o 3) (l i) (l j) (h0 (by omega)) (h1 (by omega)) (h3 (by omega))
    rw [mid_perm (l := [l i, o 0, o 1, o 3]) (m := [o 0, o 1, l i, o 3]) (List.perm_append_comm_assoc [l i] [o 0, o 1] [o 3]), mid_perm (l := [l j, o 0, o 1, o 3]) (m := [o 0, o 1, l j, o 3]) (List.perm_append_comm_assoc [l j] [o 0, o 1] [o 3])] at g
    simpa [told] using g
  by_cases c3 : ((3 : Nat) : Int) = bad
  · subst c3
    have g := key (o 0) (o 1) (o 2) (l i) (l j) (h0 (by omega)) (h1 (by omega)) (h2 (by omega))
    rw [mid_perm (l := [l i, o 0, o 1, o 2]) (m := [o 0, o 1, o 2, l i]) (List.perm_append_comm (l₁ := [l i]) (l₂ := [o 0, o 1, o 2])), mid_perm (l := [l j, o 0, o 1, o 2]) (m := [o 0, o 1, o 2, l j]) (List.perm_append_comm (l₁ := [l j]) (l₂ := [o 0, o 1, o 2]))] at g
    simpa [told] using g
  · have := h0 c0
    have e : ∀ z q : Nat, (q : Int) ≠ bad → told o l bad z q = o q := fun z q h => if_neg h
    rw [e i 0 c0, e i 1 c1, e i 2 c2, e i 3 c3, e j 0 c0, e j 1 c1, e j 2 c2, e j 3 c3]
    omega
/-- how far the good ones are apart -/
def Spr (o : Nat → Int) (bad s : Int) : Prop := ∃ i j : Nat, i < 4 ∧ j < 4 ∧ (i : Int) ≠ bad ∧ (j : Int) ≠ bad ∧ s = o i - o j ∧ Wide o bad (o j) (o i)
theorem spr_halves {o l : Nat → Int} {bad a b : Int} (ha : Spr o bad a) (hb : Spr (newR o l bad) bad b) : 2 * b ≤ a + 1 := by
  obtain ⟨i, j, hi, hj, ni, nj, rfl, hw⟩ := ha
  obtain ⟨p, q, hp, hq, np, nq, rfl, _⟩ := hb
  exact newR_near hw hp hq np nq
/-- what Spread keeps: the least, the greatest, none yet? -/
def SprL (o : Nat → Int) (bad : Int) (k : Nat) (lo hi : Int) (f : Bool) : Prop :=
  (f = true ∧ lo = 0 ∧ hi = 0 ∧ ∀ j, j < k → (j : Int) = bad) ∨ (f = false ∧ ∃ i j : Nat, i < k ∧ j < k ∧ (i : Int) ≠ bad ∧ (j : Int) ≠ bad ∧ hi = o i ∧ lo = o j ∧ ∀ q, q < k → (q : Int) ≠ bad → lo ≤ o q ∧ o q ≤ hi)
theorem SprL.start (o : Nat → Int) (bad : Int) : SprL o bad 0 0 0 true := .inl ⟨rfl, rfl, rfl, fun j hj => by omega⟩
theorem SprL.skip {o : Nat → Int} {bad : Int} {k : Nat} {lo hi : Int} {f : Bool} (h : SprL o bad k lo hi f) (hb : (k : Int) = bad) : SprL o bad (k + 1) lo hi f := by
  rcases h with ⟨h1, h2, h3, h4⟩ | ⟨h1, i, j, a, b, c, d, e, g, h⟩
  · exact .inl ⟨h1, h2, h3, fun j hj => by rcases Nat.lt_or_ge j k with h | h; exact h4 j h; obtain rfl : j = k := (by omega); exact hb⟩
  · exact .inr ⟨h1, i, j, by omega, by omega, c, d, e, g, fun q hq hn => by rcases Nat.lt_or_ge q k with h' | h'; exact h q h' hn; obtain rfl : q = k := (by omega); exact absurd hb hn⟩
theorem SprL.take {o : Nat → Int} {bad : Int} {k : Nat} {lo hi : Int} {f : Bool} (h : SprL o bad k lo hi f) (hb : (k : Int) ≠ bad) {lo' hi' : Int} (hlo : lo' = if f = true ∨ o k < lo then o k else lo) (hhi : hi' = if f = true ∨ hi < o k then o k else hi) : SprL o bad (k + 1) lo' hi' false := by
  refine .inr ⟨rfl, ?_⟩
  rcases h with ⟨h1, h2, h3, h4⟩ | ⟨h1, i, j, a, b, c, d, e, g, h⟩
  · subst h1
    simp at hlo hhi
    refine ⟨k, k, by omega, by omega, hb, hb, hhi, hlo, fun q hq hn => ?_⟩
    rcases Nat.lt_or_ge q k with h | h
    · exact absurd (h4 q h) hn
    · obtain rfl : q = k := by omega
      omega
  · subst h1
    simp at hlo hhi
    have hall : ∀ q, q < k + 1 → (q : Int) ≠ bad → lo' ≤ o q ∧ o q ≤ hi' := by
      intro q hq hn
      rcases Nat.lt_or_ge q k with h' | h'
      · have := h q h' hn
        rw [hlo, hhi]
        split <;> split <;> omega
      · obtain rfl : q = k := by omega
        rw [hlo, hhi]
        split <;> split <;> omega
    by_cases c1 : o k < lo <;> by_cases c2 : hi < o k
    · exact ⟨k, k, by omega, by omega, hb, hb, by rw [hhi, if_pos c2], by rw [hlo, if_pos c1], hall⟩
    · exact ⟨i, k, by omega, by omega, c, hb, by rw [hhi, if_neg c2, e], by rw [hlo, if_pos c1], hall⟩
    · exact ⟨k, j, by omega, by omega, hb, d, by rw [hhi, if_pos c2], by rw [hlo, if_neg c1, g], hall⟩
    · exact ⟨i, j, by omega, by omega, c, d, by rw [hhi, if_neg c2, e], by rw [hlo, if_neg c1, g], hall⟩
theorem SprL.done {o : Nat → Int} {bad : Int} {lo hi : Int} {f : Bool} (h : SprL o bad 4 lo hi f) : Spr o bad (hi - lo) := by
  rcases h with ⟨h1, h2, h3, h4⟩ | ⟨h1, i, j, a, b, c, d, rfl, rfl, h⟩
  · have a := h4 0 (by omega)
    have b := h4 1 (by omega)
    omega
  · exact ⟨i, j, a, b, c, d, rfl, h⟩
end Go.Proofs.Ytaobnddnefabeaa.Md
