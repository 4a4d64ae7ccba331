/- The contracts of sum.More and sum.Sum. -/
import Derived.Test.YtdlcjieaoalhoaaProg
import Derived.Test.YtdlcjieaoalhoaaTable
set_option linter.unusedVariables false
namespace Go.Proofs.Ytdlcjieaoalhoaa
open Go.RowKit Crc

namespace Crc
theorem not_step2 (c : BitVec 32) : bits .xor .u32 IntKind.u32.max (c.toNat : Int) = (((~~~ c).toNat : Nat) : Int) := by
  have e : IntKind.u32.max = ((4294967295 : Nat) : Int) := by decide
  rw [e, u32_xor_nat 4294967295 c.toNat (by decide) c.isLt]
  have h : (~~~ c) = BitVec.allOnes 32 ^^^ c := BitVec.allOnes_xor.symm
  rw [h, BitVec.toNat_xor]
  rfl
theorem not_step (x : Int) : bits .xor .u32 IntKind.u32.max (x % 4294967296) = (((~~~ (BitVec.ofInt 32 x)).toNat : Nat) : Int) := by
  rw [← not_step2, BitVec.toNat_ofInt]
  congr 1
  omega
theorem not_out (c : BitVec 32) : wrap64 (bits .xor .u32 IntKind.u32.max (c.toNat : Int)) = (((~~~ c).toNat : Nat) : Int) := by
  rw [not_step2]
  exact IntWalk.wrap64_in _ (by have := (~~~ c).isLt; omega)
theorem byte_ix (c : BitVec 32) (x : Int) (h0 : 0 ≤ x) (h1 : x ≤ 255) : bits .xor .u8 ((c.toNat : Int) % 256) x = (((c ^^^ BitVec.ofInt 32 x).toNat % 256 : Nat) : Int) := by
  obtain ⟨n, rfl⟩ := Int.eq_ofNat_of_zero_le h0
  have hn : n < 256 := by omega
  have e := u8_xor_nat (c.toNat % 256) n (Nat.mod_lt _ (by decide)) hn
  have e2 : (BitVec.ofInt 32 (n : Int)).toNat = n := by
    rw [BitVec.toNat_ofInt]; omega
  rw [BitVec.toNat_xor, e2]
  have e3 := Nat.xor_mod_two_pow (a := c.toNat) (b := n) (n := 8)
  rw [show (2 : Nat) ^ 8 = 256 from rfl, Nat.mod_eq_of_lt hn] at e3
  rw [e3, ← e]
  simp
theorem byte_step (c : BitVec 32) (x : Int) (h0 : 0 ≤ x) (h1 : x ≤ 255) :
    bits .xor .u32 (((tab ((c ^^^ BitVec.ofInt 32 x).toNat % 256)).toNat : Nat) : Int) ((c.toNat : Int) / 256) = (((by1 c x).toNat : Nat) : Int) := by
  obtain ⟨n, rfl⟩ := Int.eq_ofNat_of_zero_le h0
  have hn : n < 256 := by omega
  have e2 : (BitVec.ofInt 32 (n : Int)).toNat = n := by
    rw [BitVec.toNat_ofInt]; omega
  have e4 : (BitVec.ofInt 32 (n : Int)) >>> 8 = 0#32 := by
    apply BitVec.eq_of_toNat_eq
    rw [BitVec.toNat_ushiftRight, e2, Nat.shiftRight_eq_div_pow]
    simp; omega
  have e5 : (c ^^^ BitVec.ofInt 32 (n : Int)) >>> 8 = c >>> 8 := by
    rw [BitVec.ushiftRight_xor_distrib, e4]; simp
  unfold by1
  rw [it8_tab, e5]
  generalize (c ^^^ BitVec.ofInt 32 (n : Int)).toNat % 256 = q
  rw [BitVec.toNat_xor]
  have h := u32_xor_nat (tab q).toNat (c >>> 8).toNat (BitVec.isLt _) (BitVec.isLt _)
  rw [← h]
  congr 1
  rw [BitVec.toNat_ushiftRight, Nat.shiftRight_eq_div_pow]
  simp
theorem go_snoc (c : BitVec 32) (l : List Int) (k : Nat) (h : k < l.length) : go c (l.take (k + 1)) = by1 (go c (l.take k)) (l.getD k 0) := by
  rw [List.take_succ_eq_append_getElem h, go_append]
  simp [go, List.getD, List.getElem?_eq_getElem h]
end Crc

end Go.Proofs.Ytdlcjieaoalhoaa
