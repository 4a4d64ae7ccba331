/- A diagonal matrix as it is filled, in plain Lean. -/
import Derived.Test.YtflaanfmanileaaSolve
set_option linter.unusedVariables false
namespace Go.Proofs.Ytflaanfmanileaa.Mt
open Go.RowKit Go.Proofs.Ytflaanfmanileaa Fx

def diaTo (n : Nat) (d : Nat → Int) (i : Nat) : Nat → Int := fun t => if t % n = t / n ∧ t / n < i then d (t / n) else 0
theorem diaTo_zero (n : Nat) (d : Nat → Int) : diaTo n d 0 = fun _ => 0 := by funext t; simp [diaTo]
theorem diaTo_step {n i : Nat} (d : Nat → Int) (hi : i < n) : updI (diaTo n d i) (i * n + i) (d i) = diaTo n d (i + 1) := by
  funext t
  unfold updI
  by_cases h : t = i * n + i
  · subst h
    rw [if_pos rfl]
    unfold diaTo
    rw [mod_at hi, div_at hi, if_pos ⟨rfl, by omega⟩]
  · rw [if_neg h]
    unfold diaTo
    by_cases h2 : t % n = t / n ∧ t / n < i
    · rw [if_pos h2, if_pos ⟨h2.1, by omega⟩]
    · rw [if_neg h2, if_neg]
      rintro ⟨h3, h4⟩
      have h5 : t / n = i := by
        rcases Nat.lt_or_ge (t / n) i with h6 | h6
        · exact absurd ⟨h3, h6⟩ h2
        · omega
      have e := Nat.div_add_mod t n
      rw [h3, h5, Nat.mul_comm] at e
      omega
theorem diaTo_all (n : Nat) (d : Nat → Int) : tabN (n * n) (diaTo n d n) = tabN (n * n) (diaF n d) := by
  apply tabN_congr
  intro t ht
  have := div_lt ht
  unfold diaTo diaF
  by_cases h : t % n = t / n
  · rw [if_pos ⟨h, this⟩, if_pos h]
  · rw [if_neg (fun h2 => h h2.1), if_neg h]
theorem dia_pos {n : Nat} {d : Nat → Int} (hd : ∀ j, j < n → In (d j)) : (∀ j, j < n → 0 < facD n (diaF n d) j) ↔ ∀ j, j < n → 0 < d j := by
  constructor
  · intro h j
    induction j using Nat.strongRecOn with
    | ind j ih =>
      intro hj
      have := h j hj
      rwa [piv_dia hd hj (fun k hk => ih k hk (by omega))] at this
  · intro h j hj
    rw [piv_dia hd hj (fun k hk => h k (by omega))]
    exact h j hj
/-- are the first numbers above 0? -/
def okTo (d : Nat → Int) (i : Nat) : Bool := (List.range i).all fun k => decide (0 < d k)
theorem okTo_succ (d : Nat → Int) (i : Nat) : okTo d (i + 1) = (okTo d i && decide (d i > 0)) := by unfold okTo; rw [List.range_succ, List.all_append]; simp
theorem okTo_iff (d : Nat → Int) (i : Nat) : okTo d i = true ↔ ∀ j, j < i → 0 < d j := by unfold okTo; simp
/-- what stands while it is filled -/
def DFr (w0 W : World) (n : Nat) (F : Nat → Int) : Prop :=
  Blk W w0.heap.size 3 (tabN (n * n) F) ∧ Blk W (w0.heap.size + 1) 31 #[.int .i64 n, .slice (some ⟨w0.heap.size, 0, none⟩) (n * n) (n * n)] ∧ Below w0.heap.size w0 W
section
variable {w0 W W' : World} {n : Nat} {F F' : Nat → Int}
theorem DFr.drew (h : DFr w0 W n F) : DFr w0 W.drew n F := ⟨h.1, h.2.1, h.2.2.drew⟩
theorem DFr.set_ (h : DFr w0 W n F) {t : Nat} (ht : t < n * n) (x : Int) : DFr w0 (W.setCell ⟨w0.heap.size, t, none⟩ (.int .i64 x)) n (updI F t x) := by
  refine ⟨?_, h.2.1.far (by simp) _, h.2.2.setCell (by simp) _⟩
  rw [← tabN_set _ ht]
  exact h.1.set_ _ _
theorem DFr.to (h : DFr w0 W n F) (e : F = F') : DFr w0 W n F' := by subst e; exact h
end
end Go.Proofs.Ytflaanfmanileaa.Mt
