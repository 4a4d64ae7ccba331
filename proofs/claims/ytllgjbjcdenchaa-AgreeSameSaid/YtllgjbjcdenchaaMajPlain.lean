/- The majority of a list, in plain Lean: whoever is left over may be it. -/
set_option linter.unusedVariables false
namespace Go.Proofs.Ytllgjbjcdenchaa.Mj

/-- one more voice -/
def st (s : Nat × Int) (v : Int) : Nat × Int := if s.1 = 0 then (1, v) else if v = s.2 then (s.1 + 1, s.2) else (s.1 - 1, s.2)
def bm (l : List Int) : Nat × Int := l.foldl st (0, 0)
def cn (v : Int) (l : List Int) : Nat := (l.filter (· == v)).length
def maj (l : List Int) (other : Int) : Int := if l.length < 2 * cn (bm l).2 l then (bm l).2 else other

theorem take_snoc (l : List Int) (k : Nat) (h : k < l.length) : l.take (k + 1) = l.take k ++ [l.getD k 0] := by
  rw [List.take_succ_eq_append_getElem h]; simp [List.getD, List.getElem?_eq_getElem h]
theorem bm_snoc (l : List Int) (k : Nat) (h : k < l.length) : bm (l.take (k + 1)) = st (bm (l.take k)) (l.getD k 0) := by
  rw [take_snoc l k h]; unfold bm; rw [List.foldl_append]; rfl
theorem cn_snoc (v : Int) (l : List Int) (k : Nat) (h : k < l.length) : cn v (l.take (k + 1)) = if l.getD k 0 = v then cn v (l.take k) + 1 else cn v (l.take k) := by
  rw [take_snoc l k h]
  generalize l.getD k 0 = x
  unfold cn
  rw [List.filter_append]
  by_cases e : x = v
  · simp [e]
  · simp [e]
theorem cn_le (v : Int) (l : List Int) : cn v l ≤ l.length := List.length_filter_le _ _
theorem cn_append (v : Int) (l m : List Int) : cn v (l ++ m) = cn v l + cn v m := by unfold cn; rw [List.filter_append, List.length_append]

theorem bm_inv (l : List Int) : (∀ v, v ≠ (bm l).2 → 2 * cn v l + (bm l).1 ≤ l.length) ∧ 2 * cn (bm l).2 l ≤ l.length + (bm l).1 := by
  have key : ∀ (m : List Int) (p : List Int), ((∀ v, v ≠ (bm p).2 → 2 * cn v p + (bm p).1 ≤ p.length) ∧ 2 * cn (bm p).2 p ≤ p.length + (bm p).1) →
      ((∀ v, v ≠ (bm (p ++ m)).2 → 2 * cn v (p ++ m) + (bm (p ++ m)).1 ≤ (p ++ m).length) ∧ 2 * cn (bm (p ++ m)).2 (p ++ m) ≤ (p ++ m).length + (bm (p ++ m)).1) := by
    intro m
    induction m with
    | nil => intro p h; simpa using h
    | cons x m ih =>
      intro p h
      have e : p ++ x :: m = (p ++ [x]) ++ m := by simp
      rw [e]
      apply ih
      have eb : bm (p ++ [x]) = st (bm p) x := by unfold bm; rw [List.foldl_append]; rfl
      have ec : ∀ v, cn v (p ++ [x]) = if x = v then cn v p + 1 else cn v p := by
        intro v
        rw [cn_append]
        unfold cn
        by_cases e : x = v <;> simp [e]
      have el : (p ++ [x]).length = p.length + 1 := by simp
      obtain ⟨h1, h2⟩ := h
      rw [eb, el]
      unfold st
      generalize bm p = s at *
      obtain ⟨n, a⟩ := s
      simp only at h1 h2 ⊢
      by_cases hn : n = 0
      · subst hn
        rw [if_pos rfl]
        simp only
        refine ⟨fun v hv => ?_, ?_⟩
        · rw [ec, if_neg (fun e => hv e.symm)]
          by_cases e : v = a
          · subst e; omega
          · have := h1 v e; omega
        · rw [ec, if_pos rfl]
          by_cases e : x = a
          · subst e; omega
          · have := h1 x e; omega
      · rw [if_neg hn]
        by_cases hx : x = a
        · subst hx
          rw [if_pos rfl]
          simp only
          refine ⟨fun v hv => ?_, ?_⟩
          · rw [ec, if_neg (fun e => hv e.symm)]; have := h1 v hv; omega
          · rw [ec, if_pos rfl]; omega
        · rw [if_neg hx]
          simp only
          refine ⟨fun v hv => ?_, ?_⟩
          · have := h1 v hv
            rw [ec]
            split <;> omega
          · rw [ec, if_neg hx]; omega
  have := key l [] ⟨fun v _ => by simp [cn, bm], by simp [cn, bm]⟩
  simpa using this

theorem maj_of {l : List Int} {other v : Int} (h : l.length < 2 * cn v l) : maj l other = v := by
  have hv : v = (bm l).2 := by
    by_cases e : v = (bm l).2
    · exact e
    · have := (bm_inv l).1 v e; omega
  unfold maj
  rw [← hv, if_pos h]
theorem maj_no {l : List Int} {other : Int} (h : ∀ v, 2 * cn v l ≤ l.length) : maj l other = other := by
  unfold maj
  rw [if_neg (by have := h (bm l).2; omega)]
/-- the majority goes by how often each number stands there -/
theorem maj_congr {l m : List Int} (hl : l.length = m.length) (h : ∀ v, cn v l = cn v m) (other : Int) : maj l other = maj m other := by
  by_cases e : ∃ v, l.length < 2 * cn v l
  · obtain ⟨v, hv⟩ := e
    rw [maj_of hv, maj_of (l := m) (v := v) (by rw [← hl, ← h]; exact hv)]
  · have hn : ∀ v, 2 * cn v l ≤ l.length := fun v => Nat.le_of_not_lt (fun hc => e ⟨v, hc⟩)
    rw [maj_no hn, maj_no (l := m) (fun v => by rw [← hl, ← h]; exact hn v)]
theorem maj_turn (l : List Int) (k : Nat) (other : Int) : maj (l.drop k ++ l.take k) other = maj l other := by
  refine maj_congr ?_ (fun v => ?_) other
  · simp; omega
  · rw [cn_append, Nat.add_comm, ← cn_append, List.take_append_drop]
end Go.Proofs.Ytllgjbjcdenchaa.Mj
