/- The plain laws of sealed bytes. -/
import Derived.Test.YtccebaadpjflkaaUnseal
set_option linter.unusedVariables false
namespace Go.Proofs.Ytccebaadpjflkaa.Crc

/-- the lowest 8 k bits of d -/
def low (d k : Nat) : BitVec 32 := BitVec.ofNat 32 (d % 2 ^ (8 * k))
theorem low_succ (d k : Nat) (hk : k < 4) : low d (k + 1) = low d k ^^^ (BitVec.ofNat 32 (d / 256 ^ k % 256) <<< (8 * k)) := by
  have e : 256 ^ k = 2 ^ (8 * k) := by rw [Nat.pow_mul]
  unfold low
  rw [e]
  apply BitVec.eq_of_getLsbD_eq
  intro i hi
  rw [BitVec.getLsbD_xor, BitVec.getLsbD_shiftLeft, BitVec.getLsbD_ofNat, BitVec.getLsbD_ofNat, BitVec.getLsbD_ofNat, Nat.testBit_mod_two_pow, Nat.testBit_mod_two_pow, show 256 = 2 ^ 8 from rfl, Nat.testBit_mod_two_pow, Nat.testBit_div_two_pow]
  by_cases h1 : i < 8 * k
  · simp [hi, h1, show i < 8 * (k + 1) by omega]
  · by_cases h2 : i < 8 * (k + 1)
    · simp [hi, h1, h2, show i - 8 * k < 8 by omega, show i - 8 * k < 32 by omega, show i - 8 * k + 8 * k = i by omega]
    · simp [hi, h1, h2, show ¬ i - 8 * k < 8 by omega]
theorem go_le (c : BitVec 32) (d k : Nat) (hk : k ≤ 4) : go c (leTo d k) = it (8 * k) (c ^^^ low d k) := by
  induction k with
  | zero => simp [leTo, go, it, low, Nat.mod_one]
  | succ k ih =>
    rw [leTo_succ, go_append, ih (by omega), low_succ d k (by omega)]
    have hx : d / 256 ^ k % 256 < 256 := Nat.mod_lt _ (by decide)
    generalize d / 256 ^ k % 256 = x at hx
    have e1 : BitVec.ofInt 32 ((x : Nat) : Int) = BitVec.ofNat 32 x := by simp
    have e2 : it (8 * k) (BitVec.ofNat 32 x <<< (8 * k)) = BitVec.ofNat 32 x := by
      refine it_shl _ _ (fun i h1 h2 => ?_) (by omega)
      rw [BitVec.getLsbD_ofNat, Nat.testBit_lt_two_pow (Nat.lt_of_lt_of_le (show x < 2 ^ 8 by omega) (Nat.pow_le_pow_right (by decide) (by omega)))]
      simp
    rw [go_cons, go_nil]
    unfold by1
    rw [e1, show 8 * (k + 1) = 8 * k + 8 by omega, it_add (8 * k) 8, ← BitVec.xor_assoc, it_xor (8 * k) (c ^^^ low d k), e2]

/-- what a sealed list goes to is always the same -/
theorem go_sealed (zs : List Int) : go (~~~ 0#32) (sealed zs) = it 32 (BitVec.allOnes 32) := by
  unfold sealed
  rw [go_append, go_le _ _ 4 (by decide)]
  congr 1
  have e : low (sumFrom 0#32 zs).toNat 4 = sumFrom 0#32 zs := by
    unfold low
    rw [Nat.mod_eq_of_lt (BitVec.isLt _)]
    simp
  rw [e]
  unfold sumFrom
  generalize go (~~~ 0#32) zs = q
  apply BitVec.eq_of_getLsbD_eq
  intro i hi
  rw [BitVec.getLsbD_xor, BitVec.getLsbD_not, BitVec.getLsbD_allOnes]
  cases q.getLsbD i <;> simp [hi]
theorem tail_le (zs : List Int) (s : Nat) (hs : s < 4294967296) : tailTo (zs ++ leTo s 4) zs.length 4 = s := by
  have hg : ∀ j, j < 4 → (zs ++ leTo s 4).getD (zs.length + j) 0 = ((s / 256 ^ j % 256 : Nat) : Int) := by
    intro j hj
    simp [List.getD, leTo, hj]
  simp only [tailTo, hg 3 (by decide), hg 2 (by decide), hg 1 (by decide), hg 0 (by decide), Nat.sub_zero, Nat.reduceSub, Int.toNat_natCast, Nat.sub_self]
  omega
theorem sealed_len (zs : List Int) : (sealed zs).length = zs.length + 4 := by simp [sealed, leTo_len]
theorem sealed_take (zs : List Int) : (sealed zs).take zs.length = zs := by simp [sealed]
theorem sealed_tail (zs : List Int) : tailTo (sealed zs) zs.length 4 = (sumFrom 0#32 zs).toNat := tail_le zs _ (BitVec.isLt _)
theorem sealed_in (zs : List Int) (hz : ∀ z ∈ zs, 0 ≤ z ∧ z ≤ 255) : ∀ z ∈ sealed zs, 0 ≤ z ∧ z ≤ 255 := by
  intro z h
  rcases List.mem_append.1 h with h | h
  · exact hz z h
  · exact leTo_in _ _ z h

/-- a list of which the last four bytes make s -/
theorem le_tail (zs : List Int) (m : Nat) (hl : zs.length = m + 4) (hz : ∀ z ∈ zs, 0 ≤ z ∧ z ≤ 255) : zs = zs.take m ++ leTo (tailTo zs m 4) 4 := by
  obtain ⟨a, b, c, d, hd⟩ : ∃ a b c d, zs.drop m = [a, b, c, d] := by
    have h4 : (zs.drop m).length = 4 := by simp [hl]
    match zs.drop m, h4 with
    | [a, b, c, d], _ => exact ⟨a, b, c, d, rfl⟩
  have hm : ∀ z ∈ [a, b, c, d], 0 ≤ z ∧ z ≤ 255 := fun z h => hz z (by rw [← hd] at h; exact List.mem_of_mem_drop h)
  have h1 := hm a (by simp)
  have h2 := hm b (by simp)
  have h3 := hm c (by simp)
  have h4 := hm d (by simp)
  have hg : ∀ j, zs.getD (m + j) 0 = [a, b, c, d].getD j 0 := by
    intro j
    rw [← hd]
    simp [List.getD, List.getElem?_drop]
  have ht : tailTo zs m 4 = ((d.toNat * 256 + c.toNat) * 256 + b.toNat) * 256 + a.toNat := by
    simp only [tailTo, hg]
    simp
  conv => lhs; rw [← List.take_append_drop m zs, hd]
  congr 1
  rw [ht]
  simp only [leTo, List.range_succ, List.range_zero, List.nil_append, List.cons_append, List.map_cons, List.map_nil, List.cons.injEq]
  refine ⟨by omega, by omega, by omega, by omega, trivial⟩

/-- turned sealed bytes are not opened -/
theorem turned (zs zs' : List Int) (N k : Nat) (h : Bst (sealed zs) zs' N k) (hk : 0 < k) (m : Nat) (hl : zs'.length = m + 4) : tailTo zs' m 4 ≠ (sumFrom 0#32 (zs'.take m)).toNat := by
  intro e
  have h1 := le_tail zs' m hl h.2.1
  rw [e] at h1
  have h2 := go_sealed (zs'.take m)
  have h3 := go_sealed zs
  unfold sealed at h2
  rw [← h1] at h2
  exact h.differs hk _ (h2.trans h3.symm)
end Go.Proofs.Ytccebaadpjflkaa.Crc
