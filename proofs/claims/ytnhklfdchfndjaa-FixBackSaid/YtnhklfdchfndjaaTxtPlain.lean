/- A number's decimal text, in plain Lean: the digits ahead of the point and behind it, and what is read back of them. -/
namespace Go.Proofs.Ytnhklfdchfndjaa.Tx

/-- digits, the lowest first -/
def low (n : Nat) : List Nat := if h : n < 10 then [n] else n % 10 :: low (n / 10)
termination_by n
decreasing_by omega
theorem low_small {n : Nat} (h : n < 10) : low n = [n] := by rw [low]; simp [h]
theorem low_step {n : Nat} (h : ¬ n < 10) : low n = n % 10 :: low (n / 10) := by rw [low]; simp [h]
theorem low_ne (n : Nat) : low n ≠ [] := by rw [low]; split <;> simp
theorem low_lt : ∀ (n : Nat), ∀ d ∈ low n, d < 10 := by
  intro n
  induction n using Nat.strongRecOn with
  | _ n ih =>
    intro d hd
    by_cases h : n < 10
    · rw [low_small h] at hd; simp at hd; omega
    · rw [low_step h] at hd
      rcases List.mem_cons.1 hd with rfl | hd
      · omega
      · exact ih (n / 10) (by omega) d hd
theorem low_len : ∀ (k n : Nat), n < 10 ^ (k + 1) → (low n).length ≤ k + 1 := by
  intro k
  induction k with
  | zero => intro n h; rw [low_small (by omega)]; simp
  | succ k ih =>
    intro n h
    by_cases h1 : n < 10
    · rw [low_small h1]; simp
    · rw [low_step h1, List.length_cons]
      have := ih (n / 10) (by rw [Nat.pow_succ] at h; omega)
      omega
theorem low_last : ∀ (n : Nat), 1 < (low n).length → (low n).getLast? ≠ some 0 := by
  intro n
  induction n using Nat.strongRecOn with
  | _ n ih =>
    intro h
    by_cases h1 : n < 10
    · rw [low_small h1] at h; simp at h
    · rw [low_step h1, List.getLast?_cons_of_ne_nil (low_ne _)]
      by_cases h2 : n / 10 < 10
      · rw [low_small h2]; simp; omega
      · refine ih (n / 10) (by omega) ?_
        rw [low_step h2, List.length_cons]
        have := List.length_pos_iff.2 (low_ne (n / 10 / 10))
        omega
/-- where the writing of the whole part stands -/
def LowAt (n : Nat) (d : List Nat) (m : Nat) : Prop := (d = [] ∧ m = n) ∨ (0 < m ∧ d ≠ [] ∧ d ++ low m = low n) ∨ (m = 0 ∧ d = low n)
theorem LowAt.start (n : Nat) : LowAt n [] n := .inl ⟨rfl, rfl⟩
theorem LowAt.app {n m : Nat} {d : List Nat} (h : LowAt n d m) (hg : 0 < m ∨ d = []) : d ++ low m = low n := by
  rcases h with ⟨rfl, rfl⟩ | ⟨_, _, h⟩ | ⟨h0, h⟩
  · rfl
  · exact h
  · rcases hg with hg | rfl
    · omega
    · exact absurd h.symm (low_ne n)
theorem LowAt.step {n m : Nat} {d : List Nat} (h : LowAt n d m) (hg : 0 < m ∨ d = []) : LowAt n (d ++ [m % 10]) (m / 10) := by
  have ha := h.app hg
  by_cases h1 : m < 10
  · refine .inr (.inr ⟨by omega, ?_⟩)
    rw [low_small h1] at ha
    rw [← ha, Nat.mod_eq_of_lt h1]
  · refine .inr (.inl ⟨by omega, by simp, ?_⟩)
    rw [low_step h1] at ha
    rw [← ha]; simp
theorem LowAt.done {n m : Nat} {d : List Nat} (h : LowAt n d m) (h0 : m = 0) (hd : d ≠ []) : d = low n := by
  rcases h with ⟨rfl, rfl⟩ | ⟨h1, _, _⟩ | ⟨_, h⟩
  · exact absurd rfl hd
  · omega
  · exact h
/-- the number that digits tell, the highest first -/
def num (l : List Nat) : Nat := l.foldl (fun a d => a * 10 + d) 0
theorem num_foldl (l : List Nat) : ∀ a, l.foldl (fun a d => a * 10 + d) a = a * 10 ^ l.length + num l := by
  unfold num
  induction l with
  | nil => intro a; simp
  | cons x l ih =>
    intro a
    rw [List.foldl_cons, List.foldl_cons, ih, ih (0 * 10 + x), List.length_cons, Nat.pow_succ, Nat.add_mul, Nat.mul_assoc]
    rw [Nat.mul_comm 10 (10 ^ l.length), Nat.zero_mul, Nat.zero_add, Nat.add_assoc]
theorem num_snoc (l : List Nat) (d : Nat) : num (l ++ [d]) = num l * 10 + d := by unfold num; rw [List.foldl_append]; rfl
theorem num_cons (x : Nat) (l : List Nat) : num (x :: l) = x * 10 ^ l.length + num l := by
  have := num_foldl l (0 * 10 + x)
  rw [Nat.zero_mul, Nat.zero_add] at this
  exact (show num (x :: l) = _ from by unfold num; rw [List.foldl_cons, Nat.zero_mul, Nat.zero_add]; exact this)
theorem num_low : ∀ n, num (low n).reverse = n := by
  intro n
  induction n using Nat.strongRecOn with
  | _ n ih =>
    by_cases h : n < 10
    · rw [low_small h]; simp [num]
    · rw [low_step h, List.reverse_cons, num_snoc, ih (n / 10) (by omega)]; omega
theorem num_lt (l : List Nat) (h : ∀ d ∈ l, d < 10) : num l < 10 ^ l.length := by
  induction l with
  | nil => simp [num]
  | cons x l ih =>
    have h1 := ih (fun d hd => h d (List.mem_cons_of_mem _ hd))
    have h2 := h x (List.mem_cons_self)
    rw [num_cons, List.length_cons, Nat.pow_succ]
    have : x * 10 ^ l.length ≤ 9 * 10 ^ l.length := Nat.mul_le_mul_right _ (by omega)
    omega

/-- digits behind the point: at most k of them -/
def fr : Nat → Nat → List Nat
  | 0, _ => []
  | k + 1, p => if p = 0 then [] else p * 10 / 4294967296 :: fr k (p * 10 % 4294967296)
/-- so many more digits are enough -/
def Fits (k p : Nat) : Prop := p < 4294967296 ∧ p * 2 ^ k % 4294967296 = 0
theorem Fits.start {p : Nat} (h : p < 4294967296) : Fits 32 p := ⟨h, by omega⟩
theorem Fits.zero {p : Nat} (h : Fits 0 p) : p = 0 := by unfold Fits at h; omega
theorem Fits.step {k p : Nat} (h : Fits (k + 1) p) : Fits k (p * 10 % 4294967296) := by
  obtain ⟨h1, h2⟩ := h
  refine ⟨Nat.mod_lt _ (by omega), ?_⟩
  rw [Nat.pow_succ] at h2
  generalize 2 ^ k = t at *
  have e : p * 10 * t = 5 * (p * (t * 2)) := by
    rw [Nat.mul_assoc, Nat.mul_comm t 2, Nat.mul_left_comm 5, ← Nat.mul_assoc 5 2 t]
  rw [Nat.mod_mul_mod, e, Nat.mul_mod, h2]
theorem fr_lt : ∀ (k p : Nat), p < 4294967296 → ∀ d ∈ fr k p, d < 10 := by
  intro k
  induction k with
  | zero => intro p _ d hd; simp [fr] at hd
  | succ k ih =>
    intro p hp d hd
    rw [fr] at hd
    split at hd
    · simp at hd
    · rcases List.mem_cons.1 hd with rfl | hd
      · omega
      · exact ih _ (Nat.mod_lt _ (by omega)) d hd
theorem fr_len : ∀ (k p : Nat), (fr k p).length ≤ k := by
  intro k
  induction k with
  | zero => intro p; simp [fr]
  | succ k ih =>
    intro p
    rw [fr]
    split
    · simp
    · rw [List.length_cons]; have := ih (p * 10 % 4294967296); omega
theorem fr_ne {k p : Nat} (h : 0 < p) : fr (k + 1) p ≠ [] := by rw [fr]; split; omega; simp
theorem fr_num : ∀ (k p : Nat), Fits k p → num (fr k p) * 4294967296 = p * 10 ^ (fr k p).length := by
  intro k
  induction k with
  | zero => intro p h; rw [h.zero]; simp [fr, num]
  | succ k ih =>
    intro p h
    rw [fr]
    split
    · rename_i h0; simp [num, h0]
    · have h1 := ih _ h.step
      rw [num_cons, List.length_cons, Nat.pow_succ, Nat.add_mul, h1]
      generalize 10 ^ (fr k (p * 10 % 4294967296)).length = t
      have hd := Nat.div_add_mod (p * 10) 4294967296
      generalize p * 10 % 4294967296 = r at *
      generalize p * 10 / 4294967296 = q at *
      have e1 : q * t * 4294967296 = 4294967296 * q * t := by
        rw [Nat.mul_comm (q * t), Nat.mul_assoc]
      rw [e1, ← Nat.add_mul, hd, Nat.mul_assoc, Nat.mul_comm 10 t]

/-- digits doubled, from the lowest on: what is carried, and the digits -/
def twice : List Nat → Nat × List Nat
  | [] => (0, [])
  | x :: l => ((2 * x + (twice l).1) / 10, (2 * x + (twice l).1) % 10 :: (twice l).2)
theorem twice_len (l : List Nat) : (twice l).2.length = l.length := by
  induction l with
  | nil => rfl
  | cons x l ih => simp [twice, ih]
theorem twice_lt (l : List Nat) : ∀ d ∈ (twice l).2, d < 10 := by
  induction l with
  | nil => simp [twice]
  | cons x l ih =>
    intro d hd
    rw [twice] at hd
    rcases List.mem_cons.1 hd with rfl | hd
    · omega
    · exact ih d hd
theorem twice_num (l : List Nat) : (twice l).1 * 10 ^ l.length + num (twice l).2 = 2 * num l := by
  induction l with
  | nil => simp [twice, num]
  | cons x l ih =>
    rw [twice, num_cons, num_cons, twice_len, List.length_cons, Nat.pow_succ, Nat.mul_add, ← ih]
    generalize (twice l).1 = c at *
    generalize 10 ^ l.length = t at *
    generalize num (twice l).2 = y at *
    have hd := Nat.div_add_mod (2 * x + c) 10
    generalize (2 * x + c) % 10 = r at *
    generalize (2 * x + c) / 10 = q at *
    have e1 : q * (t * 10) + r * t = (10 * q + r) * t := by
      rw [Nat.add_mul, Nat.mul_comm t 10, ← Nat.mul_assoc, Nat.mul_comm q 10]
    rw [← Nat.add_assoc, e1, hd, Nat.add_mul, Nat.mul_assoc, Nat.add_assoc]
theorem twice_c (l : List Nat) (h : ∀ d ∈ l, d < 10) : (twice l).1 = 2 * num l / 10 ^ l.length ∧ num (twice l).2 = 2 * num l % 10 ^ l.length ∧ (twice l).1 ≤ 1 := by
  have h1 := twice_num l
  have h2 := num_lt _ (twice_lt l)
  rw [twice_len] at h2
  have h3 := num_lt l h
  generalize 10 ^ l.length = t at *
  have hp : 0 < t := by omega
  have e : 2 * num l = num (twice l).2 + t * (twice l).1 := by rw [← h1, Nat.mul_comm]; omega
  refine ⟨?_, ?_, ?_⟩
  · rw [e, Nat.add_mul_div_left _ _ hp, Nat.div_eq_of_lt h2]; omega
  · rw [e, Nat.add_mul_mod_self_left, Nat.mod_eq_of_lt h2]
  · rcases Nat.lt_or_ge (twice l).1 2 with h | h
    · omega
    · have := Nat.mul_le_mul_right t h; omega
/-- k doublings: the number made, and the digits left -/
def dbl (l : List Nat) : Nat → Nat × List Nat
  | 0 => (0, l)
  | k + 1 => (2 * (dbl l k).1 + (twice (dbl l k).2).1, (twice (dbl l k).2).2)
theorem dbl_lt (l : List Nat) (h : ∀ d ∈ l, d < 10) : ∀ k, ∀ d ∈ (dbl l k).2, d < 10 := by
  intro k
  cases k with
  | zero => exact h
  | succ k => exact twice_lt _
theorem dbl_len (l : List Nat) : ∀ k, (dbl l k).2.length = l.length := by
  intro k
  induction k with
  | zero => rfl
  | succ k ih => rw [dbl]; simp only; rw [twice_len, ih]
theorem dbl_num (l : List Nat) (h : ∀ d ∈ l, d < 10) : ∀ k, (dbl l k).1 * 10 ^ l.length + num (dbl l k).2 = num l * 2 ^ k ∧ (dbl l k).1 < 2 ^ k := by
  intro k
  induction k with
  | zero => simp [dbl]
  | succ k ih =>
    obtain ⟨h1, h2⟩ := ih
    have h3 := twice_num (dbl l k).2
    have h4 := (twice_c _ (dbl_lt l h k)).2.2
    rw [dbl_len] at h3
    rw [dbl]
    simp only
    generalize 10 ^ l.length = t at *
    generalize (dbl l k).1 = u at *
    generalize (dbl l k).2 = d at *
    generalize (twice d).1 = c at *
    refine ⟨?_, by rw [Nat.pow_succ]; omega⟩
    rw [Nat.pow_succ, ← Nat.mul_assoc, ← h1, Nat.add_mul, Nat.add_mul, Nat.add_assoc, h3, Nat.mul_comm 2 u, Nat.mul_assoc u 2 t, Nat.mul_comm 2 t, ← Nat.mul_assoc, Nat.mul_comm (num d) 2]
theorem dbl_end {p : Nat} (hp : p < 4294967296) : (dbl (fr 32 p) 32).1 = p ∧ num (dbl (fr 32 p) 32).2 = 0 := by
  have h := dbl_num _ (fr_lt 32 p hp) 32
  have h2 := num_lt _ (dbl_lt _ (fr_lt 32 p hp) 32)
  have h3 := fr_num 32 p (Fits.start hp)
  rw [dbl_len] at h2
  rw [show (2 : Nat) ^ 32 = 4294967296 from by decide, h3] at h
  obtain ⟨h1, _⟩ := h
  generalize 10 ^ (fr 32 p).length = t at *
  generalize num (dbl (fr 32 p) 32).2 = y at *
  generalize (dbl (fr 32 p) 32).1 = u at *
  have ht : 0 < t := by omega
  have e1 : (u * t + y) / t = u := by rw [Nat.mul_comm, Nat.mul_add_div ht, Nat.div_eq_of_lt h2]; rfl
  have e2 : (u * t + y) % t = y := by rw [Nat.mul_comm, Nat.mul_add_mod, Nat.mod_eq_of_lt h2]
  rw [h1] at e1 e2
  rw [Nat.mul_div_cancel _ ht] at e1
  rw [Nat.mul_mod_left] at e2
  exact ⟨e1.symm, e2.symm⟩
theorem num_zero : ∀ (l : List Nat), num l = 0 → ∀ d ∈ l, d = 0 := by
  intro l
  induction l with
  | nil => intro _ d hd; cases hd
  | cons x l ih =>
    intro h d hd
    rw [num_cons] at h
    have hp : 0 < 10 ^ l.length := Nat.pow_pos (by omega)
    have hx : x = 0 := by
      rcases Nat.eq_zero_or_pos x with h0 | h0
      · exact h0
      · have := Nat.mul_pos h0 hp; omega
    rcases List.mem_cons.1 hd with rfl | hd
    · exact hx
    · exact ih (by omega) d hd
end Go.Proofs.Ytnhklfdchfndjaa.Tx
