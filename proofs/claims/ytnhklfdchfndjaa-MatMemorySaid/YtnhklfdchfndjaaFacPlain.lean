/- The factor of a matrix, in plain Lean. -/
import Derived.Test.YtnhklfdchfndjaaMatLess
import Derived.Test.YtnhklfdchfndjaaFixDiv
set_option linter.unusedVariables false
namespace Go.Proofs.Ytnhklfdchfndjaa.Mt
open Go.RowKit Go.Proofs.Ytnhklfdchfndjaa Fx

/-- the j-th number of the diagonal -/
def pivot (n : Nat) (f : Nat → Int) (j : Nat) (F D : Nat → Int) : Int := lessZ (f (j * n + j)) (fun k => F (j * n + k)) (fun k => F (j * n + k)) D j
/-- a number of the j-th column, in row i -/
def below (n : Nat) (f : Nat → Int) (i j : Nat) (F D : Nat → Int) : Int := divR (lessZ (f (i * n + j)) (fun k => F (i * n + k)) (fun k => F (j * n + k)) D j) (pivot n f j F D)
/-- the j-th column written, in the rows ahead of m -/
def colF (n : Nat) (f : Nat → Int) (j : Nat) (F D : Nat → Int) (m : Nat) : Nat → Int := fun t => if t % n = j ∧ j ≤ t / n ∧ t / n < m then (if t / n = j then 4294967296 else below n f (t / n) j F D) else F t
/-- matrix and diagonal when j columns are done -/
def facS (n : Nat) (f : Nat → Int) : Nat → (Nat → Int) × (Nat → Int)
  | 0 => (fun _ => 0, fun _ => 0)
  | j + 1 => (colF n f j (facS n f j).1 (facS n f j).2 n, updI (facS n f j).2 j (pivot n f j (facS n f j).1 (facS n f j).2))
def facL (n : Nat) (f : Nat → Int) : Nat → Int := (facS n f n).1
def facD (n : Nat) (f : Nat → Int) : Nat → Int := (facS n f n).2
theorem facS_zero (n : Nat) (f : Nat → Int) : facS n f 0 = (fun _ => 0, fun _ => 0) := rfl
theorem facS_succ (n : Nat) (f : Nat → Int) (j : Nat) : facS n f (j + 1) = (colF n f j (facS n f j).1 (facS n f j).2 n, updI (facS n f j).2 j (pivot n f j (facS n f j).1 (facS n f j).2)) := rfl

theorem colF_start {n : Nat} (f : Nat → Int) {j : Nat} (hj : j < n) (F D : Nat → Int) : updI F (j * n + j) 4294967296 = colF n f j F D (j + 1) := by
  funext t
  unfold updI colF
  by_cases h : t = j * n + j
  · subst h
    rw [if_pos rfl, mod_at hj, div_at hj, if_pos ⟨rfl, by omega, by omega⟩, if_pos rfl]
  · rw [if_neg h, if_neg]
    rintro ⟨h1, h2, h3⟩
    have e := Nat.div_add_mod t n
    rw [h1, show t / n = j by omega, Nat.mul_comm] at e
    omega
theorem colF_step {n : Nat} (f : Nat → Int) {i j : Nat} (hj : j < n) (hij : j < i) (F D : Nat → Int) : updI (colF n f j F D i) (i * n + j) (below n f i j F D) = colF n f j F D (i + 1) := by
  funext t
  unfold updI colF
  by_cases h : t = i * n + j
  · subst h
    rw [if_pos rfl, mod_at hj, div_at hj, if_pos ⟨rfl, by omega, by omega⟩, if_neg (by omega)]
  · rw [if_neg h]
    by_cases h2 : t % n = j ∧ j ≤ t / n ∧ t / n < i
    · rw [if_pos h2, if_pos (c := t % n = j ∧ j ≤ t / n ∧ t / n < i + 1) ⟨h2.1, h2.2.1, by omega⟩]
    · rw [if_neg h2, if_neg]
      rintro ⟨h1, h3, h4⟩
      have h5 : t / n = i := by
        rcases Nat.lt_or_ge (t / n) i with h6 | h6
        · exact absurd ⟨h1, h3, h6⟩ h2
        · omega
      have e := Nat.div_add_mod t n
      rw [h1, h5, Nat.mul_comm] at e
      omega
/-- the columns before are as they were -/
theorem colF_far {n : Nat} (f : Nat → Int) {i j k m : Nat} (hk : k < j) (hj : j < n) (F D : Nat → Int) : colF n f j F D m (i * n + k) = F (i * n + k) := by
  unfold colF
  rw [mod_at (show k < n by omega), if_neg (by omega)]
theorem less_col {n : Nat} (f : Nat → Int) {i j m : Nat} (hj : j < n) (F D z : Nat → Int) (s : Int) (hz : ∀ k, k < j → z k = D k) :
    lessZ s (fun k => colF n f j F D m (i * n + k)) (fun k => colF n f j F D m (j * n + k)) z j = lessZ s (fun k => F (i * n + k)) (fun k => F (j * n + k)) D j :=
  lessZ_congr j fun k hk => ⟨colF_far f hk hj F D, colF_far f hk hj F D, hz k hk⟩

/-- the numbers of the diagonal stay -/
theorem facS_keep {n : Nat} (f : Nat → Int) {j : Nat} : ∀ m, j < m → (facS n f m).2 j = (facS n f (j + 1)).2 j
  | 0, h => by omega
  | m + 1, h => by
    rcases Nat.lt_or_ge j m with h1 | h1
    · rw [facS_succ]
      show updI _ m _ j = _
      rw [updI_far _ _ (by omega), facS_keep f m h1]
    · obtain rfl : j = m := by omega
      rfl
theorem facS_piv {n : Nat} (f : Nat → Int) (j : Nat) : (facS n f (j + 1)).2 j = pivot n f j (facS n f j).1 (facS n f j).2 := by
  rw [facS_succ]; exact updI_same _ _ _
theorem facD_at {n : Nat} (f : Nat → Int) {j : Nat} (hj : j < n) : facD n f j = pivot n f j (facS n f j).1 (facS n f j).2 := by
  unfold facD; rw [facS_keep f n hj, facS_piv]
/-- everything is a number of 64 bits -/
theorem pivot_in {n : Nat} {f : Nat → Int} (hf : ∀ t, t < n * n → In (f t)) {j : Nat} (hj : j < n) (F D : Nat → Int) : In (pivot n f j F D) := lessZ_in (hf _ (idx_lt hj hj)) _ _ _ _
theorem colF_in {n : Nat} {f : Nat → Int} {j m : Nat} {F D : Nat → Int} (hF : ∀ t, In (F t)) (t : Nat) : In (colF n f j F D m t) := by
  unfold colF
  split
  · split
    · unfold In; omega
    · exact In_divR _ _
  · exact hF t
theorem facS_in {n : Nat} {f : Nat → Int} (hf : ∀ t, t < n * n → In (f t)) : ∀ j, j ≤ n → (∀ t, In ((facS n f j).1 t)) ∧ (∀ t, In ((facS n f j).2 t))
  | 0, _ => ⟨fun t => by show In 0; unfold In; omega, fun t => by show In 0; unfold In; omega⟩
  | j + 1, h => by
    obtain ⟨h1, h2⟩ := facS_in hf j (by omega)
    rw [facS_succ]
    refine ⟨fun t => colF_in h1 t, fun t => ?_⟩
    show In (updI _ j _ t)
    unfold updI
    split
    · exact pivot_in hf (by omega) _ _
    · exact h2 t
/-- nothing stands above the diagonal -/
theorem facS_above {n : Nat} (f : Nat → Int) : ∀ j i k, k < n → i < k → (facS n f j).1 (i * n + k) = 0
  | 0, i, k, _, _ => rfl
  | j + 1, i, k, hk, hik => by
    rw [facS_succ]
    show colF n f j _ _ n (i * n + k) = 0
    unfold colF
    rw [mod_at hk, div_at hk, if_neg (by omega)]
    exact facS_above f j i k hk hik
/-- ones stand on it -/
theorem facS_one {n : Nat} (f : Nat → Int) : ∀ m j, j < m → m ≤ n → (facS n f m).1 (j * n + j) = 4294967296
  | 0, j, h, _ => by omega
  | m + 1, j, h, hm => by
    have hjn : j < n := by omega
    rw [facS_succ]
    show colF n f m _ _ n (j * n + j) = _
    unfold colF
    rw [mod_at hjn, div_at hjn]
    by_cases e : j = m
    · rw [if_pos ⟨e, by omega, hjn⟩, if_pos e]
    · rw [if_neg (by omega)]
      exact facS_one f m j (by omega) (by omega)
/-- noughts that are taken away leave a number -/
theorem lessZ_nought {s : Int} (hs : In s) {x y z : Nat → Int} : ∀ m, (∀ k, k < m → x k = 0) → lessZ s x y z m = s
  | 0, _ => rfl
  | m + 1, h => by
    unfold lessZ lessP
    rw [lessZ_nought hs m (fun k hk => h k (by omega)), h m (by omega)]
    have e1 : ∀ b, mulZ 0 b = 0 := fun b => by unfold mulZ; simp
    have e2 : cl 0 = 0 := (cl_in (show In 0 by unfold In; omega)).1
    rw [e1, e2, e1, e2, Int.sub_zero, (cl_in hs).1]
/-- the matrix of a diagonal -/
def diaF (n : Nat) (d : Nat → Int) : Nat → Int := fun t => if t % n = t / n then d (t / n) else 0
theorem diaF_at {n i k : Nat} (d : Nat → Int) (hk : k < n) : diaF n d (i * n + k) = if k = i then d i else 0 := by unfold diaF; rw [mod_at hk, div_at hk]
theorem div_nought {b : Int} (hb : 0 < b) : divR 0 b = 0 := by
  unfold divR divZ
  rw [if_neg (by omega)]
  have e : decide (b < 0) = false := decide_eq_false (by omega)
  rw [e]
  simp only [Int.lt_irrefl, decide_false, BEq.rfl, Bool.not_true, Bool.false_eq_true, if_false, Int.natAbs_zero, Nat.zero_mul]
  rw [quoN_up _ _ (by omega), Nat.div_eq_of_lt (by omega)]
  exact (cl_in (show In 0 by unfold In; omega)).1
theorem fac_dia {n : Nat} {d : Nat → Int} (hd : ∀ j, j < n → In (d j)) : ∀ j, j ≤ n → (∀ k, k < j → 0 < d k) → (∀ k, k < j → (facS n (diaF n d) j).2 k = d k) ∧ (∀ i k, i < n → k < n → i ≠ k → (facS n (diaF n d) j).1 (i * n + k) = 0)
  | 0, _, _ => ⟨fun k h => by omega, fun i k _ _ _ => rfl⟩
  | j + 1, h, hp => by
    obtain ⟨h1, h2⟩ := fac_dia hd j (by omega) (fun k hk => hp k (by omega))
    have hjn : j < n := by omega
    have hpiv : pivot n (diaF n d) j (facS n (diaF n d) j).1 (facS n (diaF n d) j).2 = d j := by
      unfold pivot
      rw [diaF_at d hjn, if_pos rfl, lessZ_nought (hd j hjn) j (fun k hk => h2 j k hjn (by omega) (by omega))]
    rw [facS_succ]
    refine ⟨fun k hk => ?_, fun i k hi hk hne => ?_⟩
    · show updI _ j _ k = d k
      rcases Nat.lt_or_ge k j with h3 | h3
      · rw [updI_far _ _ (by omega), h1 k h3]
      · obtain rfl : k = j := by omega
        rw [updI_same, hpiv]
    · show colF n _ j _ _ n (i * n + k) = 0
      unfold colF
      rw [mod_at hk, div_at hk]
      split
      · rename_i hc
        obtain ⟨rfl, h4, h5⟩ := hc
        rw [if_neg hne]
        unfold below
        rw [hpiv, diaF_at d hjn, if_neg (fun e => hne e.symm), lessZ_nought (by unfold In; omega) k (fun q hq => h2 i q hi (by omega) (by omega))]
        exact div_nought (hp k (by omega))
      · exact h2 i k hi hk hne
theorem piv_dia {n : Nat} {d : Nat → Int} (hd : ∀ j, j < n → In (d j)) {j : Nat} (hj : j < n) (hp : ∀ k, k < j → 0 < d k) : facD n (diaF n d) j = d j := by
  obtain ⟨h1, h2⟩ := fac_dia hd j (by omega) hp
  rw [facD_at _ hj]
  unfold pivot
  rw [diaF_at d hj, if_pos rfl, lessZ_nought (hd j hj) j (fun k hk => h2 j k hj (by omega) (by omega))]
end Go.Proofs.Ytnhklfdchfndjaa.Mt
