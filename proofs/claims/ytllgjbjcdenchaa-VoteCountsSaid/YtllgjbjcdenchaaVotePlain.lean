/- What a vote comes to, in plain Lean. -/
set_option linter.unusedVariables false
namespace Go.Proofs.Ytllgjbjcdenchaa.Vt

abbrev Vs := List (Int × Bool)
/-- how many of the first k that are in say v -/
def cnt (L : Vs) (k : Nat) (v : Int) : Nat := ((L.take k).filter fun p => p.2 && p.1 == v).length
/-- how many of the first k are in -/
def tot (L : Vs) (k : Nat) : Nat := ((L.take k).filter fun p => p.2).length
/-- the most votes among the first k, and whose they are -/
def bst (L : Vs) : Nat → Nat × Int
  | 0 => (0, 0)
  | k + 1 => if (L.getD k (0, false)).2 = true ∧ (bst L k).1 < cnt L L.length (L.getD k (0, false)).1 then (cnt L L.length (L.getD k (0, false)).1, (L.getD k (0, false)).1) else bst L k
def val (L : Vs) : Int := (bst L L.length).2
def best (L : Vs) : Nat := (bst L L.length).1
def strong (L : Vs) : Bool := decide (tot L L.length < 2 * best L)
def agree (L : Vs) (v : Int) : Bool := decide (0 < tot L L.length) && (v == val L)

theorem take_snoc (L : Vs) (k : Nat) (h : k < L.length) : L.take (k + 1) = L.take k ++ [L.getD k (0, false)] := by
  rw [List.take_succ_eq_append_getElem h]; simp [List.getD, List.getElem?_eq_getElem h]
theorem cnt_yes (L : Vs) (k : Nat) (v : Int) (h : k < L.length) (hb : (L.getD k (0, false)).2 = true) : cnt L (k + 1) v = if (L.getD k (0, false)).1 = v then cnt L k v + 1 else cnt L k v := by
  unfold cnt
  rw [take_snoc L k h, List.filter_append]
  generalize L.getD k (0, false) = p at *
  by_cases e : p.1 = v
  · simp [hb, e]
  · simp [e]
theorem cnt_no (L : Vs) (k : Nat) (v : Int) (h : k < L.length) (hb : (L.getD k (0, false)).2 = false) : cnt L (k + 1) v = cnt L k v := by
  unfold cnt
  rw [take_snoc L k h, List.filter_append]
  generalize L.getD k (0, false) = p at *
  simp [hb]
theorem tot_yes (L : Vs) (k : Nat) (h : k < L.length) (hb : (L.getD k (0, false)).2 = true) : tot L (k + 1) = tot L k + 1 := by
  unfold tot
  rw [take_snoc L k h, List.filter_append]
  generalize L.getD k (0, false) = p at *
  simp [hb]
theorem tot_no (L : Vs) (k : Nat) (h : k < L.length) (hb : (L.getD k (0, false)).2 = false) : tot L (k + 1) = tot L k := by
  unfold tot
  rw [take_snoc L k h, List.filter_append]
  generalize L.getD k (0, false) = p at *
  simp [hb]
theorem cnt_le (L : Vs) (k : Nat) (v : Int) : cnt L k v ≤ k := by
  unfold cnt
  exact Nat.le_trans (List.length_filter_le _ _) (List.length_take_le _ _)
theorem tot_le (L : Vs) (k : Nat) : tot L k ≤ k := by
  unfold tot
  exact Nat.le_trans (List.length_filter_le _ _) (List.length_take_le _ _)
theorem bst_yes (L : Vs) (k : Nat) (hb : (L.getD k (0, false)).2 = true) (h : (bst L k).1 < cnt L L.length (L.getD k (0, false)).1) :
    bst L (k + 1) = (cnt L L.length (L.getD k (0, false)).1, (L.getD k (0, false)).1) := by
  unfold bst; rw [if_pos ⟨hb, h⟩]
theorem bst_no (L : Vs) (k : Nat) (h : (L.getD k (0, false)).2 = false ∨ ¬ (bst L k).1 < cnt L L.length (L.getD k (0, false)).1) :
    bst L (k + 1) = bst L k := by
  conv => lhs; unfold bst
  rw [if_neg]
  rintro ⟨h1, h2⟩
  rcases h with h | h
  · rw [h1] at h; cases h
  · exact h h2
theorem bst_le (L : Vs) (k : Nat) : (bst L k).1 ≤ L.length := by
  induction k with
  | zero => simp [bst]
  | succ k ih =>
    by_cases h : (L.getD k (0, false)).2 = true ∧ (bst L k).1 < cnt L L.length (L.getD k (0, false)).1
    · rw [bst_yes L k h.1 h.2]; exact cnt_le _ _ _
    · rw [bst_no L k (by
        by_cases h2 : (L.getD k (0, false)).2 = true
        · exact .inr fun h3 => h ⟨h2, h3⟩
        · exact .inl (by simpa using h2))]; exact ih

/-- how many of the first k that are in agree -/
def agc (L : Vs) (k : Nat) : Nat := ((L.take k).filter fun p => p.2 && agree L p.1).length
theorem agc_yes (L : Vs) (k : Nat) (h : k < L.length) (hb : (L.getD k (0, false)).2 = true) (ha : agree L (L.getD k (0, false)).1 = true) : agc L (k + 1) = agc L k + 1 := by
  unfold agc
  rw [take_snoc L k h, List.filter_append]
  generalize L.getD k (0, false) = p at *
  simp [hb, ha]
theorem agc_no (L : Vs) (k : Nat) (h : k < L.length) (hb : (L.getD k (0, false)).2 = false ∨ agree L (L.getD k (0, false)).1 = false) : agc L (k + 1) = agc L k := by
  unfold agc
  rw [take_snoc L k h, List.filter_append]
  generalize L.getD k (0, false) = p at *
  rcases hb with hb | hb <;> simp [hb]
theorem agc_le (L : Vs) (k : Nat) : agc L k ≤ k := by
  unfold agc
  exact Nat.le_trans (List.length_filter_le _ _) (List.length_take_le _ _)

theorem bst_inv (L : Vs) : ∀ k, k ≤ L.length → (∀ j, j < k → (L.getD j (0, false)).2 = true → cnt L L.length (L.getD j (0, false)).1 ≤ (bst L k).1) ∧ ((bst L k).1 = 0 ∨ (bst L k).1 = cnt L L.length (bst L k).2) := by
  intro k
  induction k with
  | zero => intro _; exact ⟨fun j hj => by omega, .inl rfl⟩
  | succ k ih =>
    intro hk
    obtain ⟨h1, h2⟩ := ih (by omega)
    by_cases h : (L.getD k (0, false)).2 = true ∧ (bst L k).1 < cnt L L.length (L.getD k (0, false)).1
    · rw [bst_yes L k h.1 h.2]
      refine ⟨fun j hj hb => ?_, .inr rfl⟩
      by_cases e : j = k
      · subst e; exact Nat.le_refl _
      · have := h1 j (by omega) hb; have := h.2; show cnt _ _ _ ≤ cnt _ _ _; omega
    · have hn : (L.getD k (0, false)).2 = false ∨ ¬ (bst L k).1 < cnt L L.length (L.getD k (0, false)).1 := by
        by_cases h2 : (L.getD k (0, false)).2 = true
        · exact .inr fun h3 => h ⟨h2, h3⟩
        · exact .inl (by simpa using h2)
      rw [bst_no L k hn]
      refine ⟨fun j hj hb => ?_, h2⟩
      by_cases e : j = k
      · subst e
        rcases hn with hn | hn
        · rw [hb] at hn; cases hn
        · omega
      · exact h1 j (by omega) hb

theorem cnt_pos (L : Vs) (j : Nat) (hj : j < L.length) (hb : (L.getD j (0, false)).2 = true) : 0 < cnt L L.length (L.getD j (0, false)).1 := by
  unfold cnt
  rw [List.take_length]
  apply List.length_pos_of_mem (a := L.getD j (0, false))
  rw [List.mem_filter]
  refine ⟨?_, by rw [hb]; simp⟩
  have : L.getD j (0, false) = L[j] := by simp [List.getD, List.getElem?_eq_getElem hj]
  rw [this]; exact List.getElem_mem hj

theorem tot_pos (L : Vs) (h : 0 < tot L L.length) : ∃ j, j < L.length ∧ (L.getD j (0, false)).2 = true := by
  unfold tot at h
  rw [List.take_length] at h
  obtain ⟨p, hp⟩ := List.exists_mem_of_length_pos h
  rw [List.mem_filter] at hp
  obtain ⟨j, hj, e⟩ := List.getElem_of_mem hp.1
  refine ⟨j, hj, ?_⟩
  have : L.getD j (0, false) = L[j] := by simp [List.getD, List.getElem?_eq_getElem hj]
  rw [this, e]; exact hp.2

theorem best_pos (L : Vs) (h : 0 < tot L L.length) : 0 < best L := by
  obtain ⟨j, hj, hb⟩ := tot_pos L h
  have := (bst_inv L L.length (Nat.le_refl _)).1 j hj hb
  have := cnt_pos L j hj hb
  unfold best; omega

theorem agc_best (L : Vs) : agc L L.length = best L := by
  by_cases h : 0 < tot L L.length
  · have hp := best_pos L h
    have h2 := (bst_inv L L.length (Nat.le_refl _)).2
    have e : agc L L.length = cnt L L.length (val L) := by
      unfold agc cnt agree
      simp [h]
    rw [e]
    unfold best at hp ⊢
    unfold val
    omega
  · have e : agc L L.length = 0 := by
      unfold agc agree
      simp [h]
    rw [e]
    have hn : ∀ j, j < L.length → (L.getD j (0, false)).2 = false := by
      intro j hj
      cases hb : (L.getD j (0, false)).2 with
      | false => rfl
      | true =>
        exfalso; apply h
        unfold tot
        rw [List.take_length]
        apply List.length_pos_of_mem (a := L.getD j (0, false))
        rw [List.mem_filter]
        refine ⟨?_, hb⟩
        have : L.getD j (0, false) = L[j] := by simp [List.getD, List.getElem?_eq_getElem hj]
        rw [this]; exact List.getElem_mem hj
    have hz : ∀ k, k ≤ L.length → (bst L k).1 = 0 := by
      intro k
      induction k with
      | zero => intro _; rfl
      | succ k ih => intro hk; rw [bst_no L k (.inl (hn k (by omega)))]; exact ih (by omega)
    unfold best
    exact (hz _ (Nat.le_refl _)).symm
theorem cnt_best (L : Vs) (j : Nat) (hj : j < L.length) (hb : (L.getD j (0, false)).2 = true) : cnt L L.length (L.getD j (0, false)).1 ≤ best L :=
  (bst_inv L L.length (Nat.le_refl _)).1 j hj hb
end Go.Proofs.Ytllgjbjcdenchaa.Vt
