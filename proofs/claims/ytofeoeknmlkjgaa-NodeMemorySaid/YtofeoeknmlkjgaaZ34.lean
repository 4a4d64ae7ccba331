/- Merged: Bytes Seal Unseal SealPlain WirePlain WirePut. -/
import Derived.IntWalk
import Derived.Lib.SlBytesConst
import Derived.Test.YtofeoeknmlkjgaaProg
import Derived.Test.YtofeoeknmlkjgaaZ03
import Derived.Test.YtofeoeknmlkjgaaZ12
set_option linter.unusedVariables false
set_option linter.unusedSimpArgs false
section
/- The contracts of the small helpers on bytes: bytes, sums. -/
set_option linter.unusedVariables false
namespace Go.Proofs.Ytofeoeknmlkjgaa
open Go.RowKit Crc

def NewBytes (w w' : World) (A : Option Addr) (n c : Nat) (zs : List Int) : Prop :=
  w'.ownsRow w.heap.size 5 1 (.slice A n c) n (zs.map (Value.int .u8)) ∧ Below w.heap.size w w'

end Go.Proofs.Ytofeoeknmlkjgaa
end
section
/- The contracts of sum.Seal and sum.Open. -/
set_option linter.unusedVariables false
namespace Go.Proofs.Ytofeoeknmlkjgaa
open Go.RowKit Crc

def leTo (s k : Nat) : List Int := (List.range k).map fun j => ((s / 256 ^ j % 256 : Nat) : Int)
theorem leTo_succ (s k : Nat) : leTo s (k + 1) = leTo s k ++ [((s / 256 ^ k % 256 : Nat) : Int)] := by simp [leTo, List.range_succ]
theorem leTo_len (s k : Nat) : (leTo s k).length = k := by simp [leTo]
def sealed (zs : List Int) : List Int := zs ++ leTo (sumFrom 0#32 zs).toNat 4

end Go.Proofs.Ytofeoeknmlkjgaa
end
section
/- The contract of sum.Open. -/
set_option linter.unusedVariables false
namespace Go.Proofs.Ytofeoeknmlkjgaa
open Go.RowKit Crc

def tailTo (zs : List Int) (m : Nat) : Nat → Nat
  | 0 => 0
  | k + 1 => tailTo zs m k * 256 + (zs.getD (m + (3 - k)) 0).toNat
def Opened (zs : List Int) (w w' : World) (e : Ending) : Prop :=
  (4 ≤ zs.length ∧ tailTo zs (zs.length - 4) 4 = (sumFrom 0#32 (zs.take (zs.length - 4))).toNat ∧ ∃ A' c', e = .returned (.tuple #[.slice A' (zs.length - 4) c', .bool true]) ∧ NewBytes w w' A' (zs.length - 4) c' (zs.take (zs.length - 4))) ∨
  ((4 ≤ zs.length → tailTo zs (zs.length - 4) 4 ≠ (sumFrom 0#32 (zs.take (zs.length - 4))).toNat) ∧ e = .returned (.tuple #[.slice none 0 0, .bool false]) ∧ Below w.heap.size w w')

end Go.Proofs.Ytofeoeknmlkjgaa
end
section
/- The plain laws of sealed bytes. -/
set_option linter.unusedVariables false
namespace Go.Proofs.Ytofeoeknmlkjgaa.Crc

def low (d k : Nat) : BitVec 32 := BitVec.ofNat 32 (d % 2 ^ (8 * k))
theorem low_succ (d k : Nat) (hk : k < 4) : low d (k + 1) = low d k ^^^ (BitVec.ofNat 32 (d / 256 ^ k % 256) <<< (8 * k)) := by
  have e : 256 ^ k = 2 ^ (8 * k) := by rw [Nat.pow_mul]
  unfold low
  rw [e]
  apply BitVec.eq_of_getLsbD_eq
  intro i hi
  rw [BitVec.getLsbD_xor, BitVec.getLsbD_shiftLeft, BitVec.getLsbD_ofNat, BitVec.getLsbD_ofNat, BitVec.getLsbD_ofNat, Nat.testBit_mod_two_pow, Nat.testBit_mod_two_pow, show 256 = 2 ^ 8 from rfl, Nat.testBit_mod_two_pow, Nat.testBit_div_two_pow]
  by_cases h1 : i < 8 * k
  · simp [hi, h1, show i < 8 * (k + 1) by omega]
  · by_cases h2 : i < 8 * (k + 1)
    · simp [hi, h1, h2, show i - 8 * k < 8 by omega, show i - 8 * k < 32 by omega, show i - 8 * k + 8 * k = i by omega]
    · simp [hi, h1, h2, show ¬ i - 8 * k < 8 by omega]
theorem go_le (c : BitVec 32) (d k : Nat) (hk : k ≤ 4) : go c (leTo d k) = it (8 * k) (c ^^^ low d k) := by
  induction k with
  | zero => simp [leTo, go, it, low, Nat.mod_one]
  | succ k ih =>
    rw [leTo_succ, go_append, ih (by omega), low_succ d k (by omega)]
    have hx : d / 256 ^ k % 256 < 256 := Nat.mod_lt _ (by decide)
    generalize d / 256 ^ k % 256 = x at hx
    have e1 : BitVec.ofInt 32 ((x : Nat) : Int) = BitVec.ofNat 32 x := by simp
    have e2 : it (8 * k) (BitVec.ofNat 32 x <<< (8 * k)) = BitVec.ofNat 32 x := by
      refine it_shl _ _ (fun i h1 h2 => ?_) (by omega)
      rw [BitVec.getLsbD_ofNat, Nat.testBit_lt_two_pow (Nat.lt_of_lt_of_le (show x < 2 ^ 8 by omega) (Nat.pow_le_pow_right (by decide) (by omega)))]
      simp
    rw [go_cons, go_nil]
    unfold by1
    rw [e1, show 8 * (k + 1) = 8 * k + 8 by omega, it_add (8 * k) 8, ← BitVec.xor_assoc, it_xor (8 * k) (c ^^^ low d k), e2]

theorem go_sealed (zs : List Int) : go (~~~ 0#32) (sealed zs) = it 32 (BitVec.allOnes 32) := by
  unfold sealed
  rw [go_append, go_le _ _ 4 (by decide)]
  congr 1
  have e : low (sumFrom 0#32 zs).toNat 4 = sumFrom 0#32 zs := by
    unfold low
    rw [Nat.mod_eq_of_lt (BitVec.isLt _)]
    simp
  rw [e]
  unfold sumFrom
  generalize go (~~~ 0#32) zs = q
  apply BitVec.eq_of_getLsbD_eq
  intro i hi
  rw [BitVec.getLsbD_xor, BitVec.getLsbD_not, BitVec.getLsbD_allOnes]
  cases q.getLsbD i <;> simp [hi]
theorem sealed_len (zs : List Int) : (sealed zs).length = zs.length + 4 := by simp [sealed, leTo_len]
theorem sealed_take (zs : List Int) : (sealed zs).take zs.length = zs := by simp [sealed]
theorem le_tail (zs : List Int) (m : Nat) (hl : zs.length = m + 4) (hz : ∀ z ∈ zs, 0 ≤ z ∧ z ≤ 255) : zs = zs.take m ++ leTo (tailTo zs m 4) 4 := by
  obtain ⟨a, b, c, d, hd⟩ : ∃ a b c d, zs.drop m = [a, b, c, d] := by
    have h4 : (zs.drop m).length = 4 := by simp [hl]
    match zs.drop m, h4 with
    | [a, b, c, d], _ => exact ⟨a, b, c, d, rfl⟩
  have hm : ∀ z ∈ [a, b, c, d], 0 ≤ z ∧ z ≤ 255 := fun z h => hz z (by rw [← hd] at h; exact List.mem_of_mem_drop h)
  have h1 := hm a (by simp)
  have h2 := hm b (by simp)
  have h3 := hm c (by simp)
  have h4 := hm d (by simp)
  have hg : ∀ j, zs.getD (m + j) 0 = [a, b, c, d].getD j 0 := by
    intro j
    rw [← hd]
    simp [List.getD, List.getElem?_drop]
  have ht : tailTo zs m 4 = ((d.toNat * 256 + c.toNat) * 256 + b.toNat) * 256 + a.toNat := by
    simp only [tailTo, hg]
    simp
  conv => lhs; rw [← List.take_append_drop m zs, hd]
  congr 1
  rw [ht]
  simp only [leTo, List.range_succ, List.range_zero, List.nil_append, List.cons_append, List.map_cons, List.map_nil, List.cons.injEq]
  refine ⟨by omega, by omega, by omega, by omega, trivial⟩

theorem turned (zs zs' : List Int) (N k : Nat) (h : Bst (sealed zs) zs' N k) (hk : 0 < k) (m : Nat) (hl : zs'.length = m + 4) : tailTo zs' m 4 ≠ (sumFrom 0#32 (zs'.take m)).toNat := by
  intro e
  have h1 := le_tail zs' m hl h.2.1
  rw [e] at h1
  have h2 := go_sealed (zs'.take m)
  have h3 := go_sealed zs
  unfold sealed at h2
  rw [← h1] at h2
  exact h.differs hk _ (h2.trans h3.symm)
end Go.Proofs.Ytofeoeknmlkjgaa.Crc
end
section
/- Messages as bytes, in plain Lean: what put and get reckon, what a message's bytes are, that no two messages have the same bytes. -/
set_option linter.unusedVariables false
namespace Go.Proofs.Ytofeoeknmlkjgaa.Wr
open Go.RowKit Go.Proofs.Ytofeoeknmlkjgaa Crc

def Byts (zs : List Int) : Prop := ∀ z ∈ zs, 0 ≤ z ∧ z ≤ 255
def In64 (z : Int) : Prop := -9223372036854775808 ≤ z ∧ z ≤ 9223372036854775807

def beTo (v : Int) (n : Nat) : Nat → List Int
  | 0 => []
  | k + 1 => beTo v n k ++ [v / 2 ^ (8 * (n - 1 - k)) % 256]
theorem two_pow (j : Nat) : (2 : Int) ^ (8 * j) = ((256 ^ j : Nat) : Int) := by
  rw [show (256 : Nat) = 2 ^ 8 from rfl, ← Nat.pow_mul, Int.natCast_pow]
  rfl
def beB (v : Int) (n : Nat) : List Int := beTo v n n
theorem beTo_len (v : Int) (n k : Nat) : (beTo v n k).length = k := by
  induction k with
  | zero => rfl
  | succ k ih => simp [beTo, ih]
theorem beB_len (v : Int) (n : Nat) : (beB v n).length = n := beTo_len v n n
def nv (zs : List Int) : Int := zs.foldl (fun a c => a * 256 + c) 0
theorem nv_snoc (zs : List Int) (c : Int) : nv (zs ++ [c]) = nv zs * 256 + c := by simp [nv, List.foldl_append]
theorem mod_step (q M : Int) (hM : 0 < M) : (q / 256 % M) * 256 + q % 256 = q % (256 * M) := by
  rw [Int.emod_def (q / 256) M, Int.emod_def q (256 * M), Int.emod_def q 256, ← Int.ediv_ediv_of_nonneg (by decide : (0 : Int) ≤ 256)]
  generalize q / 256 / M = t
  rw [Int.sub_mul, Int.mul_assoc 256 M t, Int.mul_comm (M * t) 256]
  generalize M * t = u
  omega
theorem nv_beTo (v : Int) (n k : Nat) (hk : k ≤ n) : nv (beTo v n k) = v / ((256 ^ (n - k) : Nat) : Int) % ((256 ^ k : Nat) : Int) := by
  induction k with
  | zero => rw [show ((256 ^ 0 : Nat) : Int) = 1 from rfl, Int.emod_one]; rfl
  | succ k ih =>
    rw [beTo, nv_snoc, ih (by omega), two_pow]
    have e1 : n - k = (n - (k + 1)) + 1 := by omega
    have e2 : n - 1 - k = n - (k + 1) := by omega
    rw [e1, e2, Nat.pow_succ, Nat.pow_succ]
    have hq : 0 < 256 ^ k := Nat.pow_pos (by decide)
    generalize (256 ^ k : Nat) = q at *
    generalize (256 ^ (n - (k + 1)) : Nat) = p at *
    rw [Int.natCast_mul, Int.natCast_mul, ← Int.ediv_ediv_of_nonneg (Int.natCast_nonneg p), Int.mul_comm (q : Int)]
    exact mod_step _ _ (by omega)
theorem nv_beB (v : Int) (n : Nat) : nv (beB v n) = v % ((256 ^ n : Nat) : Int) := by
  unfold beB
  rw [nv_beTo v n n (Nat.le_refl _), Nat.sub_self]
  simp
def gv (zs : List Int) : Int := IntKind.i64.wrap (nv zs)
theorem wrap_eq (x : Int) : IntKind.i64.wrap x = if x % 18446744073709551616 < 9223372036854775808 then x % 18446744073709551616 else x % 18446744073709551616 - 18446744073709551616 := by
  have e : (2 : Int) ^ 64 = 18446744073709551616 := by decide
  have e2 : (2 : Int) ^ (64 - 1) = 9223372036854775808 := by decide
  simp only [IntKind.wrap, IntKind.signed, IntKind.bits, Bool.true_and, decide_eq_true_eq, ge_iff_le, e, e2]
  split <;> split <;> omega
theorem gv_beB8 (v : Int) (h : In64 v) : gv (beB v 8) = v := by
  unfold gv In64 at *
  rw [nv_beB, wrap_eq]
  simp only [show ((256 ^ 8 : Nat) : Int) = 18446744073709551616 by decide]
  split <;> omega
theorem gv_beB4 (v : Int) (h0 : 0 ≤ v) (h : v < 4294967296) : gv (beB v 4) = v := by
  unfold gv
  rw [nv_beB, wrap_eq]
  simp only [show ((256 ^ 4 : Nat) : Int) = 4294967296 by decide]
  split <;> omega
def rightE (k f r : Int) (n : Nat) : Int := if k < 1 ∨ 5 < k then 4 else if f < 0 ∨ 4 ≤ f ∨ r < 0 ∨ 2147483648 ≤ r then 3 else if 24 < n then 6 else 0
theorem right0 {k f r : Int} {n : Nat} : rightE k f r n = 0 ↔ 1 ≤ k ∧ k ≤ 5 ∧ 0 ≤ f ∧ f ≤ 3 ∧ 0 ≤ r ∧ r < 2147483648 ∧ n ≤ 24 := by
  unfold rightE
  constructor
  · intro h
    split at h
    · cases h
    · split at h
      · cases h
      · split at h
        · cases h
        · omega
  · intro h
    rw [if_neg (by omega), if_neg (by omega), if_neg (by omega)]

def valsB (vs : List Int) : List Int := vs.flatMap (beB · 8)
theorem valsB_len (vs : List Int) : (valsB vs).length = 8 * vs.length := by
  induction vs with
  | nil => rfl
  | cons v vs ih => simp only [valsB, List.flatMap_cons, List.length_append, beB_len, List.length_cons] at *; omega
theorem valsB_snoc (vs : List Int) (v : Int) : valsB (vs ++ [v]) = valsB vs ++ beB v 8 := by simp [valsB]
def encB (k f r : Int) (vs : List Int) : List Int := [87, k, f] ++ beB r 4 ++ [(vs.length : Int)] ++ valsB vs
theorem encB_len (k f r : Int) (vs : List Int) : (encB k f r vs).length = 8 + 8 * vs.length := by
  simp [encB, beB_len, valsB_len]; omega
def chop : Nat → List Int → List Int
  | 0, _ => []
  | n + 1, zs => gv (zs.take 8) :: chop n (zs.drop 8)
theorem chop_vals (vs : List Int) (hv : ∀ v ∈ vs, In64 v) : chop vs.length (valsB vs) = vs := by
  induction vs with
  | nil => rfl
  | cons v vs ih =>
    have e : valsB (v :: vs) = beB v 8 ++ valsB vs := by simp [valsB]
    rw [e, List.length_cons, chop, List.take_left' (beB_len v 8), List.drop_left' (beB_len v 8), gv_beB8 v (hv v (by simp)), ih (fun z hz => hv z (by simp [hz]))]
def IsMsg (zs : List Int) (k f r : Int) (vs : List Int) : Prop := rightE k f r vs.length = 0 ∧ (∀ v ∈ vs, In64 v) ∧ zs = sealed (encB k f r vs)
theorem IsMsg.len {zs : List Int} {k f r : Int} {vs : List Int} (h : IsMsg zs k f r vs) : zs.length = 12 + 8 * vs.length ∧ vs.length ≤ 24 := by
  obtain ⟨h1, h2, rfl⟩ := h
  have := (right0.1 h1).2.2.2.2.2.2
  rw [sealed_len, encB_len]
  omega
theorem IsMsg.take {zs : List Int} {k f r : Int} {vs : List Int} (h : IsMsg zs k f r vs) : zs.take (zs.length - 4) = encB k f r vs := by
  obtain ⟨h1, h2, rfl⟩ := h
  rw [sealed_len, Nat.add_sub_cancel, sealed_take]
theorem encB_at (k f r : Int) (vs : List Int) : (encB k f r vs).getD 0 0 = 87 ∧ (encB k f r vs).getD 1 0 = k ∧ (encB k f r vs).getD 2 0 = f ∧ (encB k f r vs).getD 7 0 = vs.length ∧ ((encB k f r vs).drop 3).take 4 = beB r 4 ∧ (encB k f r vs).drop 8 = valsB vs := by
  obtain ⟨a, b, c, d, hd⟩ : ∃ a b c d, beB r 4 = [a, b, c, d] := by
    have h4 := beB_len r 4
    match beB r 4, h4 with
    | [a, b, c, d], _ => exact ⟨a, b, c, d, rfl⟩
  unfold encB
  rw [hd]
  exact ⟨rfl, rfl, rfl, rfl, rfl, rfl⟩
theorem IsMsg.same {zs : List Int} {k f r k' f' r' : Int} {vs vs' : List Int} (h : IsMsg zs k f r vs) (h' : IsMsg zs k' f' r' vs') : k = k' ∧ f = f' ∧ r = r' ∧ vs = vs' := by
  have e : encB k f r vs = encB k' f' r' vs' := by rw [← h.take, h'.take]
  obtain ⟨-, a1, a2, a3, a4, a5⟩ := encB_at k f r vs
  obtain ⟨-, b1, b2, b3, b4, b5⟩ := encB_at k' f' r' vs'
  rw [e] at a1 a2 a3 a4 a5
  obtain ⟨-, -, -, -, hr0, hr1, -⟩ := right0.1 h.1
  obtain ⟨-, -, -, -, gr0, gr1, -⟩ := right0.1 h'.1
  have hl : vs.length = vs'.length := by have := a3.symm.trans b3; omega
  refine ⟨a1.symm.trans b1, a2.symm.trans b2, ?_, ?_⟩
  · rw [← gv_beB4 r hr0 (by omega), ← gv_beB4 r' gr0 (by omega), ← a4, ← b4]
  · rw [← chop_vals vs h.2.1, ← chop_vals vs' h'.2.1, ← a5, ← b5, hl]
end Go.Proofs.Ytofeoeknmlkjgaa.Wr
end
section
/- The contracts of wire.put, get, right. -/
set_option linter.unusedVariables false
namespace Go.Proofs.Ytofeoeknmlkjgaa.Wr
open Go.RowKit Go.Proofs.Ytofeoeknmlkjgaa Crc

def PutRel (w : World) (base m : Nat) (xs : List Value) (v : Int) (n : Nat) (b i : Value) (wr : World) : Prop :=
  ∃ k : Nat, k ≤ n ∧ i = .int .i64 ((n : Int) - 1 - k) ∧ wr.ownsRow base 5 1 b (m + k) (xs ++ (beTo v n k).map (Value.int .u8)) ∧ Below base w wr ∧ w.heap.size ≤ wr.heap.size

def GetRel (zs : List Int) (v i : Value) : Prop := ∃ k : Nat, k ≤ zs.length ∧ i = .int .i64 k ∧ v = .int .i64 (gv (zs.take k))
end Go.Proofs.Ytofeoeknmlkjgaa.Wr
end
