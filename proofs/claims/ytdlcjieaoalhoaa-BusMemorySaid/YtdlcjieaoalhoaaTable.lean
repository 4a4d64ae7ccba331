/- The contract of sum.table: what it answers is the table of the plain law. -/
import Derived.Test.YtdlcjieaoalhoaaProg
import Derived.Test.YtdlcjieaoalhoaaKit
import Derived.Test.YtdlcjieaoalhoaaRow
import Derived.Test.YtdlcjieaoalhoaaCrc
set_option linter.unusedVariables false
namespace Go.Proofs.Ytdlcjieaoalhoaa
open Go.RowKit Crc

namespace Crc
/-- the table when k of its places are filled -/
def tabTo (k : Nat) : Array Value := (Array.range 256).map fun j => .int .u32 (if j < k then ((tab j).toNat : Int) else 0)
def zeros : Array Value := Array.replicate 256 (.int .u32 0)
theorem tabTo_size (k : Nat) : (tabTo k).size = 256 := by simp [tabTo]
theorem zeros_tab : zeros = tabTo 0 := by
  apply Array.ext
  · simp [zeros, tabTo]
  · intro i h1 h2; simp [zeros, tabTo]
theorem tabTo_get (k j : Nat) (hj : j < 256) : (tabTo k)[j]? = some (.int .u32 (if j < k then ((tab j).toNat : Int) else 0)) := by
  simp [tabTo, hj]
theorem tabTo_set (k : Nat) (hk : k < 256) : (tabTo k).setIfInBounds k (.int .u32 ((tab k).toNat : Int)) = tabTo (k + 1) := by
  apply Array.ext
  · simp [tabTo]
  · intro i h1 h2
    have hi : i < 256 := by simpa [tabTo] using h2
    rw [Array.getElem_setIfInBounds (by simpa [tabTo] using hi)]
    by_cases e : k = i
    · subst e; simp [tabTo]
    · have : (i < k + 1) ↔ (i < k) := by omega
      simp [tabTo, e, this]
theorem tabTo_one (k : Nat) : (tabTo k).all (·.oneCell') = true := by
  rw [Array.all_eq_true_iff_forall_mem]
  intro v hv
  simp only [tabTo, Array.mem_map] at hv
  obtain ⟨j, _, rfl⟩ := hv
  rfl
theorem half_step (c : BitVec 32) : (c.toNat : Int) / (2 : Int) = (((c >>> 1).toNat : Nat) : Int) := by
  rw [BitVec.toNat_ushiftRight, Nat.shiftRight_eq_div_pow]
  simp
theorem xor_step (c : BitVec 32) : bits .xor .u32 ((c.toNat : Int) / (2 : Int)) 3988292384 = ((((c >>> 1) ^^^ 0xEDB88320#32).toNat : Nat) : Int) := by
  rw [half_step]
  have h := u32_xor_nat (c >>> 1).toNat 3988292384 (c >>> 1).isLt (by decide)
  rw [BitVec.toNat_xor]
  exact h
theorem and_odd (c : BitVec 32) (h : c.getLsbD 0 = true) : bits .and .u32 (c.toNat : Int) 1 = 1 := by
  have e := u32_and_nat c.toNat 1 c.isLt (by decide)
  rw [nat_mask1] at e
  have h2 : c.toNat % 2 = 1 := by
    rw [BitVec.getLsbD, Nat.testBit_zero] at h; simpa using h
  rw [h2] at e; exact e
theorem and_even (c : BitVec 32) (h : c.getLsbD 0 = false) : bits .and .u32 (c.toNat : Int) 1 = 0 := by
  have e := u32_and_nat c.toNat 1 c.isLt (by decide)
  rw [nat_mask1] at e
  have h2 : c.toNat % 2 = 0 := by
    rw [BitVec.getLsbD, Nat.testBit_zero] at h; simpa using h
  rw [h2] at e; exact e
end Crc

end Go.Proofs.Ytdlcjieaoalhoaa
