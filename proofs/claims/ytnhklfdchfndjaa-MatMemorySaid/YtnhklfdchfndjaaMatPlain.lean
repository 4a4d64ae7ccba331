/- Matrices as numbers by index, in plain Lean: the product, the turned matrix, the unit matrix. -/
import Derived.Test.YtnhklfdchfndjaaMatBlk
set_option linter.unusedVariables false
namespace Go.Proofs.Ytnhklfdchfndjaa.Mt
open Go.RowKit Go.Proofs.Ytnhklfdchfndjaa Fx

/-- the sum of the first products of a row and a column, as it is reckoned -/
def accD (x y : Nat → Int) : Nat → Int
  | 0 => 0
  | j + 1 => cl (accD x y j + cl (mulZ (x j) (y j)))
/-- was anything bent in it? -/
def accO (x y : Nat → Int) : Nat → Bool
  | 0 => false
  | j + 1 => (accO x y j || out (mulZ (x j) (y j))) || out (accD x y j + cl (mulZ (x j) (y j)))
theorem accD_in (x y : Nat → Int) (j : Nat) : In (accD x y j) := by
  cases j with
  | zero => unfold accD In; omega
  | succ j => exact In_cl _
theorem acc_congr {x y x' y' : Nat → Int} : ∀ n : Nat, (∀ j, j < n → mulZ (x j) (y j) = mulZ (x' j) (y' j)) → accD x y n = accD x' y' n ∧ accO x y n = accO x' y' n
  | 0, _ => ⟨rfl, rfl⟩
  | n + 1, h => by
    obtain ⟨h1, h2⟩ := acc_congr n (fun j hj => h j (by omega))
    simp only [accD, accO, h1, h2, h n (by omega)]
    exact ⟨trivial, trivial⟩
theorem mulZ_swap (a b : Int) : mulZ a b = mulZ b a := by unfold mulZ; rw [Int.mul_comm]
/-- a row and a column, just one number of which is one and the others nought -/
theorem acc_unit {x y : Nat → Int} {k : Nat} (hx : ∀ j, In (x j)) (hk : y k = 4294967296) (h0 : ∀ j, j ≠ k → y j = 0) : ∀ n : Nat, accD x y n = (if k < n then x k else 0) ∧ accO x y n = false
  | 0 => ⟨by simp [accD], rfl⟩
  | n + 1 => by
    obtain ⟨h1, h2⟩ := acc_unit hx hk h0 n
    simp only [accD, accO, h1, h2]
    rcases Nat.lt_trichotomy k n with h | h | h
    · have e : mulZ (x n) (y n) = 0 := by rw [h0 n (by omega)]; unfold mulZ; simp
      rw [e, if_pos h, if_pos (by omega)]
      have hc := cl_in (show In 0 by unfold In; omega)
      rw [hc.1, hc.2, Int.add_zero]
      have hc2 := cl_in (hx k)
      rw [hc2.1, hc2.2]
      exact ⟨rfl, rfl⟩
    · subst h
      have e : mulZ (x k) (y k) = x k := by rw [hk]; unfold mulZ; omega
      rw [e, if_neg (by omega), if_pos (by omega)]
      have hc2 := cl_in (hx k)
      rw [hc2.1, hc2.2, Int.zero_add, hc2.1, hc2.2]
      exact ⟨rfl, rfl⟩
    · have e : mulZ (x n) (y n) = 0 := by rw [h0 n (by omega)]; unfold mulZ; simp
      rw [e, if_neg (by omega), if_neg (by omega)]
      have hc := cl_in (show In 0 by unfold In; omega)
      rw [hc.1, hc.2, Int.add_zero, hc.1, hc.2]
      exact ⟨rfl, rfl⟩

/-- the product's numbers -/
def mulF (n : Nat) (A B : Nat → Int) : Nat → Int := fun t => accD (fun j => A (t / n * n + j)) (fun j => B (j * n + t % n)) n
def rowO (n : Nat) (A B : Nat → Int) (i k : Nat) : Bool := (List.range k).any fun k' => accO (fun j => A (i * n + j)) (fun j => B (j * n + k')) n
/-- was anything bent in the rows ahead of the i-th one? -/
def allO (n : Nat) (A B : Nat → Int) (i : Nat) : Bool := (List.range i).any fun i' => rowO n A B i' n
theorem rowO_succ (n : Nat) (A B : Nat → Int) (i k : Nat) : rowO n A B i (k + 1) = (rowO n A B i k || accO (fun j => A (i * n + j)) (fun j => B (j * n + k)) n) := by
  unfold rowO; rw [List.range_succ, List.any_append]; simp
theorem allO_succ (n : Nat) (A B : Nat → Int) (i : Nat) : allO n A B (i + 1) = (allO n A B i || rowO n A B i n) := by
  unfold allO; rw [List.range_succ, List.any_append]; simp
theorem rowO_iff (n : Nat) (A B : Nat → Int) (i k : Nat) : rowO n A B i k = true ↔ ∃ k', k' < k ∧ accO (fun j => A (i * n + j)) (fun j => B (j * n + k')) n = true := by
  unfold rowO; simp [List.any_eq_true]
theorem allO_iff (n : Nat) (A B : Nat → Int) (i : Nat) : allO n A B i = true ↔ ∃ i', i' < i ∧ ∃ k', k' < n ∧ accO (fun j => A (i' * n + j)) (fun j => B (j * n + k')) n = true := by
  unfold allO; simp only [List.any_eq_true, List.mem_range, rowO_iff]

theorem div_at {n i k : Nat} (hk : k < n) : (i * n + k) / n = i := by
  rw [Nat.mul_comm, Nat.mul_add_div (by omega), Nat.div_eq_of_lt hk, Nat.add_zero]
theorem mod_at {n i k : Nat} (hk : k < n) : (i * n + k) % n = k := by
  rw [Nat.mul_comm, Nat.mul_add_mod, Nat.mod_eq_of_lt hk]
theorem mulF_at {n : Nat} (A B : Nat → Int) {i k : Nat} (hk : k < n) : mulF n A B (i * n + k) = accD (fun j => A (i * n + j)) (fun j => B (j * n + k)) n := by
  unfold mulF; rw [div_at hk, mod_at hk]

/-- the numbers ahead of the m-th one are F's, the others nought -/
def fillTo (F : Nat → Int) (m : Nat) : Nat → Int := fun t => if t < m then F t else 0
theorem fillTo_zero (F : Nat → Int) : fillTo F 0 = fun _ => 0 := by funext t; simp [fillTo]
theorem fillTo_succ (F : Nat → Int) (m : Nat) : updI (fillTo F m) m (F m) = fillTo F (m + 1) := by
  funext t
  unfold updI fillTo
  by_cases h : t = m
  · subst h; simp
  · rw [if_neg h]
    by_cases h2 : t < m
    · rw [if_pos h2, if_pos (by omega)]
    · rw [if_neg h2, if_neg (by omega)]
theorem tabN_congr {m : Nat} {f g : Nat → Int} (h : ∀ t, t < m → f t = g t) : tabN m f = tabN m g := by
  unfold tabN
  congr 1
  exact List.map_congr_left fun t ht => by rw [h t (List.mem_range.1 ht)]
theorem tabN_full (F : Nat → Int) (m : Nat) : tabN m (fillTo F m) = tabN m F := tabN_congr fun t ht => by simp [fillTo, ht]

/-- the turned matrix -/
def turnF (n : Nat) (A : Nat → Int) : Nat → Int := fun t => A (t % n * n + t / n)
theorem turnF_at {n : Nat} (A : Nat → Int) {i k : Nat} (hk : k < n) : turnF n A (i * n + k) = A (k * n + i) := by unfold turnF; rw [div_at hk, mod_at hk]
/-- turned as far as row i, number k -/
def turnTo (n : Nat) (A : Nat → Int) (i k : Nat) : Nat → Int := fun t => if t % n < i ∨ (t % n = i ∧ t / n < k) then turnF n A t else 0
theorem turnTo_zero (n : Nat) (A : Nat → Int) : turnTo n A 0 0 = fun _ => 0 := by funext t; simp [turnTo]
theorem turnTo_step {n : Nat} (A : Nat → Int) {i k : Nat} (hi : i < n) : updI (turnTo n A i k) (k * n + i) (A (i * n + k)) = turnTo n A i (k + 1) := by
  funext t
  unfold updI
  by_cases h : t = k * n + i
  · subst h
    rw [if_pos rfl]
    unfold turnTo
    rw [mod_at hi, div_at hi, if_pos (by omega), turnF_at A hi]
  · rw [if_neg h]
    unfold turnTo
    by_cases h2 : t % n < i ∨ (t % n = i ∧ t / n < k)
    · rw [if_pos h2, if_pos (by omega)]
    · rw [if_neg h2, if_neg]
      rintro (h3 | ⟨h3, h4⟩)
      · omega
      · have : t / n = k := by omega
        have e := Nat.div_add_mod t n
        rw [this, h3, Nat.mul_comm] at e
        omega
theorem div_lt {n t : Nat} (ht : t < n * n) : t / n < n := Nat.div_lt_of_lt_mul ht
theorem turnTo_row {n : Nat} (A : Nat → Int) (i : Nat) : tabN (n * n) (turnTo n A i n) = tabN (n * n) (turnTo n A (i + 1) 0) := by
  apply tabN_congr
  intro t ht
  have hq := div_lt ht
  unfold turnTo
  generalize t / n = q at *
  by_cases h : t % n < i ∨ (t % n = i ∧ q < n)
  · rw [if_pos h, if_pos (by omega)]
  · rw [if_neg h, if_neg (by omega)]
theorem turnTo_all {n : Nat} (hn : 0 < n) (A : Nat → Int) : tabN (n * n) (turnTo n A n 0) = tabN (n * n) (turnF n A) := by
  apply tabN_congr
  intro t ht
  unfold turnTo
  rw [if_pos (.inl (Nat.mod_lt _ hn))]
theorem turn_twice {n : Nat} (A : Nat → Int) {t : Nat} (ht : t < n * n) : turnF n (turnF n A) t = A t := by
  have h := div_lt ht
  show turnF n A (t % n * n + t / n) = A t
  rw [turnF_at A h, Nat.mul_comm, Nat.div_add_mod]
theorem idx2_lt {n i k : Nat} (hi : i < n) (hk : k < n) : i * n + k < n * n := by
  have : i * n + n ≤ n * n := by
    have := Nat.mul_le_mul_right n (Nat.succ_le_of_lt hi)
    rwa [Nat.succ_mul] at this
  omega
theorem mod_lt2 {n t : Nat} (ht : t < n * n) : t % n < n := by
  apply Nat.mod_lt
  rcases Nat.eq_zero_or_pos n with rfl | h
  · simp at ht
  · exact h
/-- only numbers within the matrices count -/
theorem mulF_congr {n : Nat} {A B A' B' : Nat → Int} (hA : ∀ t, t < n * n → A t = A' t) (hB : ∀ t, t < n * n → B t = B' t) {t : Nat} (ht : t < n * n) : mulF n A B t = mulF n A' B' t := by
  refine (acc_congr n fun j hj => ?_).1
  rw [hA _ (idx2_lt (div_lt ht) hj), hB _ (idx2_lt hj (mod_lt2 ht))]
theorem allO_congr {n : Nat} {A B A' B' : Nat → Int} (hA : ∀ t, t < n * n → A t = A' t) (hB : ∀ t, t < n * n → B t = B' t) : allO n A B n = allO n A' B' n := by
  rw [Bool.eq_iff_iff, allO_iff, allO_iff]
  refine exists_congr fun i => and_congr_right fun hi => exists_congr fun k => and_congr_right fun hk => ?_
  rw [(acc_congr (x' := fun j => A' (i * n + j)) (y' := fun j => B' (j * n + k)) n fun j hj => by rw [hA _ (idx2_lt hi hj), hB _ (idx2_lt hj hk)]).2]
/-- the turned product is the product of the turned ones, swapped -/
theorem turn_mul {n : Nat} (A B : Nat → Int) {t : Nat} (ht : t < n * n) : mulF n (turnF n B) (turnF n A) t = turnF n (mulF n A B) t := by
  have h := div_lt ht
  have h2 := mod_lt2 ht
  show _ = mulF n A B (t % n * n + t / n)
  rw [mulF_at A B h]
  refine (acc_congr n fun j hj => ?_).1
  rw [turnF_at B hj, turnF_at A h2, mulZ_swap]
theorem turn_bent {n : Nat} (A B : Nat → Int) : allO n (turnF n B) (turnF n A) n = allO n A B n := by
  rw [Bool.eq_iff_iff, allO_iff, allO_iff]
  have key : ∀ i k, i < n → k < n → accO (fun j => turnF n B (i * n + j)) (fun j => turnF n A (j * n + k)) n = accO (fun j => A (k * n + j)) (fun j => B (j * n + i)) n := by
    intro i k hi hk
    refine (acc_congr n fun j hj => ?_).2
    rw [turnF_at B hj, turnF_at A hk, mulZ_swap]
  constructor
  · rintro ⟨i, hi, k, hk, h⟩
    exact ⟨k, hk, i, hi, by rw [← key i k hi hk]; exact h⟩
  · rintro ⟨i, hi, k, hk, h⟩
    exact ⟨k, hk, i, hi, by rw [key k i hk hi]; exact h⟩
/-- the unit matrix -/
def unitF (n : Nat) : Nat → Int := fun t => if t % n = t / n then 4294967296 else 0
theorem unitF_at {n i k : Nat} (hk : k < n) : unitF n (i * n + k) = if k = i then 4294967296 else 0 := by unfold unitF; rw [div_at hk, mod_at hk]
theorem mul_unit {n : Nat} (A : Nat → Int) (hA : ∀ t, In (A t)) {t : Nat} (ht : t < n * n) : mulF n A (unitF n) t = A t := by
  have h := div_lt ht
  have h2 := mod_lt2 ht
  have key := (acc_unit (x := fun j => A (t / n * n + j)) (y := fun j => if t % n = j then 4294967296 else 0) (k := t % n) (fun j => hA _) (by simp) (fun j hj => if_neg (fun e => hj e.symm)) n).1
  unfold mulF
  rw [(acc_congr (x' := fun j => A (t / n * n + j)) (y' := fun j => if t % n = j then 4294967296 else 0) n fun j hj => by rw [unitF_at h2]).1, key, if_pos h2, Nat.mul_comm, Nat.div_add_mod]
theorem mul_unit_bent {n : Nat} (A : Nat → Int) (hA : ∀ t, In (A t)) : allO n A (unitF n) n = false := by
  rw [Bool.eq_false_iff]
  intro h
  obtain ⟨i, hi, k, hk, h⟩ := (allO_iff _ _ _ _).1 h
  have key := (acc_unit (x := fun j => A (i * n + j)) (y := fun j => if k = j then 4294967296 else 0) (k := k) (fun j => hA _) (by simp) (fun j hj => if_neg (fun e => hj e.symm)) n).2
  rw [(acc_congr (x' := fun j => A (i * n + j)) (y' := fun j => if k = j then 4294967296 else 0) n fun j hj => by rw [unitF_at hk]).2, key] at h
  cases h
theorem unit_mul {n : Nat} (A : Nat → Int) (hA : ∀ t, In (A t)) {t : Nat} (ht : t < n * n) : mulF n (unitF n) A t = A t := by
  have h := div_lt ht
  have h2 := mod_lt2 ht
  have key := (acc_unit (x := fun j => A (j * n + t % n)) (y := fun j => if j = t / n then 4294967296 else 0) (k := t / n) (fun j => hA _) (by simp) (fun j hj => if_neg hj) n).1
  unfold mulF
  rw [(acc_congr (x' := fun j => A (j * n + t % n)) (y' := fun j => if j = t / n then 4294967296 else 0) n fun j hj => by rw [unitF_at hj, mulZ_swap]).1, key, if_pos h, Nat.mul_comm, Nat.div_add_mod]
theorem unit_mul_bent {n : Nat} (A : Nat → Int) (hA : ∀ t, In (A t)) : allO n (unitF n) A n = false := by
  rw [Bool.eq_false_iff]
  intro h
  obtain ⟨i, hi, k, hk, h⟩ := (allO_iff _ _ _ _).1 h
  have key := (acc_unit (x := fun j => A (j * n + k)) (y := fun j => if j = i then 4294967296 else 0) (k := i) (fun j => hA _) (by simp) (fun j hj => if_neg hj) n).2
  rw [(acc_congr (x' := fun j => A (j * n + k)) (y' := fun j => if j = i then 4294967296 else 0) n fun j hj => by rw [unitF_at hj, mulZ_swap]).2, key] at h
  cases h
end Go.Proofs.Ytnhklfdchfndjaa.Mt
