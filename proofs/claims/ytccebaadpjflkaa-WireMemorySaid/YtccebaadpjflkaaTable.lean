/- The contract of sum.table: what it answers is the table of the plain law. -/
import Derived.Test.YtccebaadpjflkaaProg
import Derived.Test.YtccebaadpjflkaaKit
import Derived.Test.YtccebaadpjflkaaRow
import Derived.Test.YtccebaadpjflkaaCrc
set_option linter.unusedVariables false
namespace Go.Proofs.Ytccebaadpjflkaa
open Go.RowKit Crc

namespace Crc
/-- the table when k of its places are filled -/
def tabTo (k : Nat) : Array Value := (Array.range 256).map fun j => .int .u32 (if j < k then ((tab j).toNat : Int) else 0)
def zeros : Array Value := Array.replicate 256 (.int .u32 0)
theorem tabTo_size (k : Nat) : (tabTo k).size = 256 := by simp [tabTo]
theorem zeros_tab : zeros = tabTo 0 := by
  apply Array.ext
  · simp [zeros, tabTo]
  · intro i h1 h2; simp [zeros, tabTo]
theorem tabTo_get (k j : Nat) (hj : j < 256) : (tabTo k)[j]? = some (.int .u32 (if j < k then ((tab j).toNat : Int) else 0)) := by
  simp [tabTo, hj]
theorem tabTo_set (k : Nat) (hk : k < 256) : (tabTo k).setIfInBounds k (.int .u32 ((tab k).toNat : Int)) = tabTo (k + 1) := by
  apply Array.ext
  · simp [tabTo]
  · intro i h1 h2
    have hi : i < 256 := by simpa [tabTo] using h2
    rw [Array.getElem_setIfInBounds (by simpa [tabTo] using hi)]
    by_cases e : k = i
    · subst e; simp [tabTo]
    · have : (i < k + 1) ↔ (i < k) := by omega
      simp [tabTo, e, this]
theorem tabTo_one (k : Nat) : (tabTo k).all (·.oneCell') = true := by
  rw [Array.all_eq_true_iff_forall_mem]
  intro v hv
  simp only [tabTo, Array.mem_map] at hv
  obtain ⟨j, _, rfl⟩ := hv
  rfl
theorem half_step (c : BitVec 32) : (c.toNat : Int) / (2 : Int) = (((c >>> 1).toNat : Nat) : Int) := by
  rw [BitVec.toNat_ushiftRight, Nat.shiftRight_eq_div_pow]
  simp
theorem xor_step (c : BitVec 32) : bits .xor .u32 ((c.toNat : Int) / (2 : Int)) 3988292384 = ((((c >>> 1) ^^^ 0xEDB88320#32).toNat : Nat) : Int) := by
  rw [half_step]
  have h := u32_xor_nat (c >>> 1).toNat 3988292384 (c >>> 1).isLt (by decide)
  rw [BitVec.toNat_xor]
  exact h
theorem and_odd (c : BitVec 32) (h : c.getLsbD 0 = true) : bits .and .u32 (c.toNat : Int) 1 = 1 := by
  have e := u32_and_nat c.toNat 1 c.isLt (by decide)
  rw [nat_mask1] at e
  have h2 : c.toNat % 2 = 1 := by
    rw [BitVec.getLsbD, Nat.testBit_zero] at h; simpa using h
  rw [h2] at e; exact e
theorem and_even (c : BitVec 32) (h : c.getLsbD 0 = false) : bits .and .u32 (c.toNat : Int) 1 = 0 := by
  have e := u32_and_nat c.toNat 1 c.isLt (by decide)
  rw [nat_mask1] at e
  have h2 : c.toNat % 2 = 0 := by
    rw [BitVec.getLsbD, Nat.testBit_zero] at h; simpa using h
  rw [h2] at e; exact e
end Crc

theorem infoTab : (Try.prog.info? 182).bind (·.zero) = some (.agg zeros) := by kernel_rfl
theorem sizeTab : (Try.prog.info? 182).map (·.size) = some 256 := by kernel_rfl

theorem sizeTabTo : (Try.prog.info? 182).map (·.size) = some (tabTo 256).size := by rw [tabTo_size]; exact sizeTab

set_option maxRecDepth 100000 in
set_option maxHeartbeats 1000000 in
theorem table_any (w : World) : Calls Try.prog 113 #[] w fun e w' => e = .returned (.agg (tabTo 256)) ∧ Below w.heap.size w w' := by
  have tok1 : True := trivial
  go_enter Try.func113, Try.ntmps113
  go_wp2_with (first | (have _t := tok1; refine wpList_alloc_row rfl 182 rfl zeros infoTab ?_; intro w1 hb1 hB1 hz1; clear tok1 _t) | (refine wpList_alloc_row rfl 182 rfl zeros infoTab ?_; intro w2 hb2 hB2 hz2))
  have HB1 := Lib.hid (hb1.next hB2)
  rw [zeros_tab] at hb2
  have hB : Below w.heap.size w w2 := below_next hB1 hB2
  have hb2' : Blk w2 (w.heap.size + 1) 182 (tabTo 0) := by rw [hz1] at hb2; exact hb2
  clear hb1 hB1 hB2 hz2 hz1 hb2
  go_loopw [4] (fun i wr => ∃ k : Nat, k ≤ 256 ∧ i = .int .i64 (k : Nat) ∧ Blk wr w.heap.size 182 zeros ∧ Blk wr (w.heap.size + 1) 182 (tabTo k) ∧ Below w.heap.size w wr) (fun i _ => 256 - (intOf i).toNat)
  case atStart => exact ⟨0, Nat.zero_le _, rfl, HB1.out, hb2', hB⟩
  case round =>
    clear hb2' hB HB1
    obtain ⟨k, hk, rfl, hb1, hb2, hB⟩ := hrel
    by_cases hlt : k < 256
    · have c1 := (hb2.cell k).trans (tabTo_get k k hlt)
      have f1 := hb2.frozen k
      have hkn : (k : Int) < 256 := by omega
      have hkd : decide ((k : Int) < 256) = true := by simpa using hkn
      go_wp2
      go_loop [3, 9] (fun c i => ∃ j : Nat, j ≤ 8 ∧ i = .int .i64 (j : Nat) ∧ c = .int .u32 ((it j (BitVec.ofNat 32 k)).toNat : Nat)) (fun _ i => 8 - (intOf i).toNat)
      case atStart => exact ⟨0, Nat.zero_le _, rfl, by show Value.int .u32 (k : Int) = .int .u32 ((BitVec.ofNat 32 k).toNat : Nat); rw [BitVec.toNat_ofNat, Nat.mod_eq_of_lt (by omega)]⟩
      case round =>
        obtain ⟨j, hj, rfl, rfl⟩ := hrel
        by_cases hjl : j < 8
        · have hsucc := it_succ' j (BitVec.ofNat 32 k)
          generalize it j (BitVec.ofNat 32 k) = c at *
          have HS := Lib.hid hsucc
          clear hsucc
          have hlt32 := c.isLt
          have hjn : (j : Int) < 8 := by omega
          cases h0 : c.getLsbD 0 with
          | true =>
            have hb := and_odd c h0
            have hs := s1_odd c h0
            have H0 := Lib.hid hs
            clear h0 hs
            go_wp2
            go_round
            case rel => exact ⟨j + 1, by omega, by go_num, by rw [xor_step, HS.out, H0.out]⟩
            case measure => simp [intOf]; omega
          | false =>
            have hb := and_even c h0
            have hs := s1_even c h0
            have H0 := Lib.hid hs
            clear h0 hs
            go_wp2
            go_round
            case rel => exact ⟨j + 1, by omega, by go_num, by rw [half_step, HS.out, H0.out]⟩
            case measure => simp [intOf]; omega
        · obtain rfl : j = 8 := by omega
          go_wp2
          go_roundw
          case rel =>
            refine ⟨k + 1, by omega, by go_num, hb1.far (by simp) _, ?_, hB.setCell (by simp) _⟩
            rw [← tabTo_set k hlt]
            exact hb2.set_ k _
          case measure => simp [intOf]; omega
    · obtain rfl : k = 256 := by omega
      have hne : w.heap.size ≠ w.heap.size + 1 := by omega
      go_wp2_with (first | (refine wpList_load_all rfl 182 _ rfl (w.heap.size + 1) rfl 182 (tabTo 256) _ hb2 Try.underlying182 rfl sizeTabTo ?_) | (refine wpList_store_all rfl 182 _ _ rfl w.heap.size (tabTo 256) rfl rfl 182 zeros hb1 sizeTabTo (by simp [zeros, tabTo_size]) (tabTo_one 256) ?_; intro w3 hb3 hg3 hz3))
      exact bodyPost_ret (v := .agg (tabTo 256)) (results_cell_row rfl _ _ w.heap.size 182 (tabTo 256) (0, 0) _ rfl hb3 Try.underlying182 rfl sizeTabTo) rfl ⟨rfl, hB.grown hg3 (by have := hb2.lt; omega) (fun j hj => by cases hj; exact Nat.le_refl _)⟩
end Go.Proofs.Ytccebaadpjflkaa
