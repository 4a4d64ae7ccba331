/- The plain law of the cyclic sum of 32 bits: what eight bits do is linear and loses nothing. No program in sight. -/
set_option linter.unusedVariables false
namespace Go.Proofs.Ytdlcjieaoalhoaa.Crc

/-- what one bit does to a sum -/
def s1 (c : BitVec 32) : BitVec 32 := (c >>> 1) ^^^ (if c.getLsbD 0 then 0xEDB88320#32 else 0#32)

/-- n bits of nought -/
def it : Nat → BitVec 32 → BitVec 32
  | 0, c => c
  | n + 1, c => it n (s1 c)

theorem it_add (a b : Nat) (c : BitVec 32) : it (a + b) c = it b (it a c) := by
  induction a generalizing c with
  | zero => simp [it]
  | succ a ih => rw [Nat.succ_add]; exact ih (s1 c)

theorem s1_zero : s1 0#32 = 0#32 := by decide

theorem s1_xor (a b : BitVec 32) : s1 (a ^^^ b) = s1 a ^^^ s1 b := by
  have h : (a ^^^ b) >>> 1 = (a >>> 1) ^^^ (b >>> 1) := BitVec.ushiftRight_xor_distrib a b 1
  unfold s1
  rw [h, BitVec.getLsbD_xor]
  cases a.getLsbD 0 <;> cases b.getLsbD 0 <;> simp
  · ac_rfl
  · ac_rfl
  · have e : a >>> 1 ^^^ 0xEDB88320#32 ^^^ (b >>> 1 ^^^ 0xEDB88320#32) = (a >>> 1 ^^^ b >>> 1) ^^^ (0xEDB88320#32 ^^^ 0xEDB88320#32) := by ac_rfl
    rw [e]; simp

theorem it_zero (n : Nat) : it n 0#32 = 0#32 := by
  induction n with
  | zero => rfl
  | succ n ih => unfold it; rw [s1_zero]; exact ih

theorem it_xor (n : Nat) (a b : BitVec 32) : it n (a ^^^ b) = it n a ^^^ it n b := by
  induction n generalizing a b with
  | zero => rfl
  | succ n ih => unfold it; rw [s1_xor]; exact ih _ _

/-- a sum whose next is nought is nought -/
theorem s1_ker (a : BitVec 32) (h : s1 a = 0#32) : a = 0#32 := by
  have top : (s1 a).getLsbD 31 = a.getLsbD 0 := by
    unfold s1
    rw [BitVec.getLsbD_xor]
    have e : (a >>> 1).getLsbD 31 = false := by simp
    rw [e]
    cases a.getLsbD 0 <;> simp
  rw [h] at top
  have z0 : a.getLsbD 0 = false := by simpa using top.symm
  unfold s1 at h
  rw [z0] at h
  simp only [Bool.false_eq_true, if_false, BitVec.xor_zero] at h
  apply BitVec.eq_of_getLsbD_eq
  intro i hi
  simp only [BitVec.getLsbD_zero]
  cases i with
  | zero => exact z0
  | succ i =>
    have := congrArg (fun v : BitVec 32 => v.getLsbD i) h
    simp only [BitVec.getLsbD_ushiftRight, BitVec.getLsbD_zero] at this
    rw [Nat.add_comm]
    exact this

theorem it_ker (n : Nat) (a : BitVec 32) (h : it n a = 0#32) : a = 0#32 := by
  induction n generalizing a with
  | zero => exact h
  | succ n ih => exact s1_ker a (ih _ h)

theorem it_inj (n : Nat) (a b : BitVec 32) (h : it n a = it n b) : a = b := by
  have e : it n (a ^^^ b) = 0#32 := by rw [it_xor, h]; simp
  have := it_ker n _ e
  have h2 : a ^^^ b ^^^ b = 0#32 ^^^ b := by rw [this]
  rw [BitVec.xor_assoc] at h2
  simpa using h2

/-- a byte joins a sum -/
def by1 (c : BitVec 32) (x : Int) : BitVec 32 := it 8 (c ^^^ BitVec.ofInt 32 x)

/-- bytes join a sum -/
def go (c : BitVec 32) (l : List Int) : BitVec 32 := l.foldl by1 c

theorem go_nil (c : BitVec 32) : go c [] = c := rfl
theorem go_cons (c : BitVec 32) (x : Int) (l : List Int) : go c (x :: l) = go (by1 c x) l := rfl
theorem go_append (c : BitVec 32) (l m : List Int) : go c (l ++ m) = go (go c l) m := List.foldl_append

theorem by1_xor (a b : BitVec 32) (x : Int) : by1 (a ^^^ b) x = by1 a x ^^^ it 8 b := by
  unfold by1
  rw [← it_xor]
  congr 1
  ac_rfl

theorem go_xor (l : List Int) (a b : BitVec 32) : go (a ^^^ b) l = go a l ^^^ it (8 * l.length) b := by
  induction l generalizing a b with
  | nil => simp [go, it]
  | cons x l ih =>
    rw [go_cons, go_cons, by1_xor, ih, List.length_cons, Nat.mul_succ, Nat.add_comm, it_add]

/-- the sum of bytes, as a number -/
def sumFrom (s : BitVec 32) (l : List Int) : BitVec 32 := ~~~ (go (~~~ s) l)

theorem sum_joins (s : BitVec 32) (a b : List Int) : sumFrom (sumFrom s a) b = sumFrom s (a ++ b) := by
  unfold sumFrom
  rw [BitVec.not_not, go_append]

/-- one bit, as the program has it -/
theorem s1_odd (c : BitVec 32) (h : c.getLsbD 0 = true) : s1 c = (c >>> 1) ^^^ 0xEDB88320#32 := by unfold s1; rw [h]; simp
theorem s1_even (c : BitVec 32) (h : c.getLsbD 0 = false) : s1 c = c >>> 1 := by unfold s1; rw [h]; simp
theorem it_succ' (n : Nat) (c : BitVec 32) : it (n + 1) c = s1 (it n c) := by rw [it_add n 1]; rfl

theorem s1_shl (x : BitVec 32) (h : x.getLsbD 31 = false) : s1 (x <<< 1) = x := by
  unfold s1
  have z : (x <<< 1).getLsbD 0 = false := by simp
  rw [z]
  simp only [Bool.false_eq_true, if_false, BitVec.xor_zero]
  apply BitVec.eq_of_getLsbD_eq
  intro i hi
  simp only [BitVec.getLsbD_ushiftRight, BitVec.getLsbD_shiftLeft]
  by_cases h31 : i = 31
  · subst h31; simp; simpa using h
  · have h1 : 1 + i < 32 := by omega
    simp [h1]

theorem it_shl (n : Nat) (x : BitVec 32) (h : ∀ i, 32 - n ≤ i → i < 32 → x.getLsbD i = false) (hn : n ≤ 32) : it n (x <<< n) = x := by
  induction n with
  | zero => simp [it]
  | succ n ih =>
    have e : x <<< (n + 1) = (x <<< n) <<< 1 := by rw [BitVec.shiftLeft_add]
    rw [it, e, s1_shl]
    · exact ih (fun i h1 h2 => h i (by omega) h2) (by omega)
    · simp only [BitVec.getLsbD_shiftLeft]
      have := h (31 - n) (by omega) (by omega)
      simp [this]

/-- the table: what eight bits do to a byte -/
def tab (i : Nat) : BitVec 32 := it 8 (BitVec.ofNat 32 i)

theorem split8 (c : BitVec 32) : c = (c &&& 0xFF#32) ^^^ ((c >>> 8) <<< 8) := by
  apply BitVec.eq_of_getLsbD_eq
  intro i hi
  simp only [BitVec.getLsbD_xor, BitVec.getLsbD_and, BitVec.getLsbD_shiftLeft, BitVec.getLsbD_ushiftRight]
  by_cases h : i < 8
  · have : i = 0 ∨ i = 1 ∨ i = 2 ∨ i = 3 ∨ i = 4 ∨ i = 5 ∨ i = 6 ∨ i = 7 := by omega
    rcases this with rfl | rfl | rfl | rfl | rfl | rfl | rfl | rfl <;> simp
  · have e : (0xFF#32).getLsbD i = false := by
      have : i = 8 + (i - 8) := by omega
      simp only [BitVec.getLsbD_ofNat]
      have hp : 255 < 2 ^ i := by
        have : 2 ^ 8 ≤ 2 ^ i := Nat.pow_le_pow_right (by decide) (by omega)
        omega
      rw [Nat.testBit_lt_two_pow hp]; simp
    rw [e]
    have : 8 + (i - 8) = i := by omega
    simp [h, hi, this]

theorem it8_tab (c : BitVec 32) : it 8 c = tab (c.toNat % 256) ^^^ (c >>> 8) := by
  have h := split8 c
  have e : (c &&& 0xFF#32) = BitVec.ofNat 32 (c.toNat % 256) := by
    apply BitVec.eq_of_toNat_eq
    simp only [BitVec.toNat_and, BitVec.toNat_ofNat]
    have := Nat.and_two_pow_sub_one_eq_mod c.toNat 8
    have h2 : c.toNat % 256 % 2 ^ 32 = c.toNat % 256 := Nat.mod_eq_of_lt (by omega)
    rw [h2]; exact this
  conv => lhs; rw [h]
  rw [it_xor, e, it_shl 8 (c >>> 8) _ (by decide)]
  · rfl
  · intro i h1 h2
    simp only [BitVec.getLsbD_ushiftRight]
    exact BitVec.getLsbD_of_ge _ _ (by omega)

theorem it_one_shl (k : Nat) (hk : k < 32) : it k (1#32 <<< k) = 1#32 := by
  apply it_shl k 1#32 _ (by omega)
  intro i h1 h2
  simp only [BitVec.getLsbD_one]
  simp; omega

theorem it_shl_long (N k : Nat) (hk : k < 32) (hN : k ≤ N) : it N (1#32 <<< k) = it (N - k) 1#32 := by
  have e : N = k + (N - k) := by omega
  conv => lhs; rw [e]
  rw [it_add, it_one_shl k hk]

/-- one bit of one byte turned -/
theorem go_turn (I : BitVec 32) (l : List Int) (j : Nat) (x x' : Int) (hj : j < 8 * l.length) (hx : l.getD (j / 8) 0 = x)
    (hx' : BitVec.ofInt 32 x' = BitVec.ofInt 32 x ^^^ (1#32 <<< (j % 8))) :
    go I (l.set (j / 8) x') = go I l ^^^ it (8 * l.length - j) 1#32 := by
  have hi : j / 8 < l.length := by omega
  have hl : l = l.take (j / 8) ++ x :: l.drop (j / 8 + 1) := by
    have hx2 : l[j / 8] = x := by rw [← hx]; simp [List.getD, List.getElem?_eq_getElem hi]
    rw [← hx2]
    simp
  have hs : l.set (j / 8) x' = l.take (j / 8) ++ x' :: l.drop (j / 8 + 1) := by
    rw [List.set_eq_take_append_cons_drop, if_pos hi]
  rw [hs]
  conv => rhs; arg 1; rw [hl]
  rw [go_append, go_append, go_cons, go_cons]
  generalize go I (l.take (j / 8)) = s
  have hb : by1 s x' = by1 s x ^^^ it (8 - j % 8) 1#32 := by
    unfold by1
    rw [hx', ← BitVec.xor_assoc, it_xor, it_shl_long 8 (j % 8) (by omega) (by omega)]
  rw [hb, go_xor, ← it_add]
  congr 2
  rw [List.length_drop]
  omega

/-- zs' came of zs by turning some of k bits in a row, the first of them surely; N: how many bits there are from the first of them on -/
def Bst (zs zs' : List Int) (N k : Nat) : Prop :=
  zs'.length = zs.length ∧ (∀ z ∈ zs', 0 ≤ z ∧ z ≤ 255) ∧ ∃ m : BitVec 32, (∀ I, go I zs' = go I zs ^^^ it N m) ∧ (∀ i, k ≤ i → m.getLsbD i = false) ∧ (0 < k → m.getLsbD 0 = true)

theorem Bst.start (zs : List Int) (N : Nat) (hz : ∀ z ∈ zs, 0 ≤ z ∧ z ≤ 255) : Bst zs zs N 0 :=
  ⟨rfl, hz, 0#32, fun I => by rw [it_zero]; simp, fun i _ => by simp, fun h => by omega⟩
theorem Bst.skip {zs zs' : List Int} {N k : Nat} (h : Bst zs zs' N k) (hk : 0 < k) : Bst zs zs' N (k + 1) := by
  obtain ⟨h1, h2, m, h3, h4, h5⟩ := h
  exact ⟨h1, h2, m, h3, fun i hi => h4 i (by omega), fun _ => h5 hk⟩
theorem Bst.turn {zs zs' : List Int} {at_ k : Nat} {x x' : Int} (h : Bst zs zs' (8 * zs.length - at_) k) (hk : k < 32) (hj : at_ + k < 8 * zs.length) (hx : zs'.getD ((at_ + k) / 8) 0 = x)
    (hx' : BitVec.ofInt 32 x' = BitVec.ofInt 32 x ^^^ (1#32 <<< ((at_ + k) % 8))) (hb : 0 ≤ x' ∧ x' ≤ 255) :
    Bst zs (zs'.set ((at_ + k) / 8) x') (8 * zs.length - at_) (k + 1) := by
  obtain ⟨h1, h2, m, h3, h4, h5⟩ := h
  refine ⟨by simpa using h1, fun z hz => ?_, m ^^^ (1#32 <<< k), fun I => ?_, fun i hi => ?_, fun _ => ?_⟩
  · rcases List.mem_or_eq_of_mem_set hz with h | rfl
    · exact h2 z h
    · exact hb
  · rw [go_turn I zs' (at_ + k) x x' (by rw [h1]; exact hj) hx hx', h3, it_xor, it_shl_long _ k hk (by omega), h1, BitVec.xor_assoc]
    congr 3
    omega
  · rw [BitVec.getLsbD_xor, h4 i (by omega), BitVec.getLsbD_shiftLeft]
    by_cases hi2 : i < 32
    · have : 1 ≤ i - k := by omega
      simp [BitVec.getLsbD_one]; omega
    · simp; omega
  · rw [BitVec.getLsbD_xor, BitVec.getLsbD_shiftLeft]
    by_cases hk0 : k = 0
    · subst hk0; rw [h4 0 (by omega)]; simp
    · rw [h5 (by omega)]; simp; omega
/-- .. and so no sum is what it was -/
theorem Bst.differs {zs zs' : List Int} {N k : Nat} (h : Bst zs zs' N k) (hk : 0 < k) (I : BitVec 32) : go I zs' ≠ go I zs := by
  obtain ⟨h1, h2, m, h3, h4, h5⟩ := h
  intro e
  rw [h3 I] at e
  have e2 : it N m = 0#32 := by
    have h : go I zs ^^^ (go I zs ^^^ it N m) = go I zs ^^^ go I zs := by rw [e]
    rw [← BitVec.xor_assoc] at h
    simpa using h
  have := it_ker N m e2
  rw [this] at h5
  simp at h5
  omega
end Go.Proofs.Ytdlcjieaoalhoaa.Crc
