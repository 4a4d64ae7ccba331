/- Merged: Maj Spot Table Sum Vote. -/
import Derived.Maps.Own
import Derived.Maps.OwnOps
import Derived.Maps.OwnSet
import Derived.Test.YtofeoeknmlkjgaaProg
import Derived.Test.YtofeoeknmlkjgaaZ01
import Derived.Test.YtofeoeknmlkjgaaZ02
set_option linter.unusedVariables false
set_option linter.unusedSimpArgs false
section
/- The contract of agree.Majority. -/
set_option linter.unusedVariables false
namespace Go.Proofs.Ytofeoeknmlkjgaa
open Go.RowKit Mj

set_option maxRecDepth 100000 in
set_option maxHeartbeats 1000000 in
theorem maj_any (A : Option Addr) (n c : Nat) (zs : List Int) (other : Int) (w : World) (h : Ints w .i64 A n zs) (hn : n ≤ 1152921504606846976) :
    Calls Try.prog 56 #[.slice A n c, .int .i64 other] w fun e w' => e = .returned (.int .i64 (maj zs other)) ∧ w = w' := by
  obtain ⟨hl, hc⟩ := h
  have HL := Lib.hid hl
  have HC := Lib.hid hc
  clear hl hc
  go_enter Try.func56, Try.ntmps56
  go_wp2
  go_loop [5, 6, 13] (fun t a i => ∃ k : Nat, k ≤ n ∧ i = .int .i64 (k : Nat) ∧ t = .int .i64 ((bm (zs.take k)).1 : Nat) ∧ a = .int .i64 (bm (zs.take k)).2 ∧ (bm (zs.take k)).1 ≤ k) (fun _ _ i => n - (intOf i).toNat)
  case atStart => exact ⟨0, Nat.zero_le _, rfl, rfl, rfl, Nat.le_refl _⟩
  case round =>
    obtain ⟨k, hk, rfl, rfl, rfl, hmk⟩ := hrel
    by_cases hlt : k < n
    · obtain ⟨b, off, rfl, hb, hcell⟩ := HC.out (by omega)
      have hcx := hcell k hlt
      have hs := bm_snoc zs k (by rw [HL.out]; exact hlt)
      have HS := Lib.hid hs
      clear hcell hs
      generalize zs.getD k 0 = x at *
      obtain ⟨s, hs⟩ : ∃ s, s = bm (zs.take k) := ⟨_, rfl⟩
      rw [← hs] at hmk HS
      rw [← hs]
      clear hs
      obtain ⟨m, a⟩ := s
      simp only at hmk
      by_cases hm : m = 0
      · subst hm
        go_wp2
        go_round
        case rel => exact ⟨k + 1, by omega, by go_num, by rw [HS.out]; rfl, by rw [HS.out]; rfl, by rw [HS.out]; simp [st]⟩
        case measure => simp [intOf]; omega
      · have hm0 : ((m : Int) == 0) = false := by simpa using hm
        have HM := Lib.hid hm
        have hmp : 1 ≤ m := by omega
        clear hm
        by_cases hx : x = a
        · have hxa : (x == a) = true := by simpa using hx
          have HX := Lib.hid hx
          clear hx
          go_wp2
          go_round
          case rel =>
            have e : st (m, a) x = (m + 1, a) := by simp [st, HM.out, HX.out]
            exact ⟨k + 1, by omega, by go_num, by rw [HS.out, e]; go_num, by rw [HS.out, e], by rw [HS.out, e]; show m + 1 ≤ k + 1; omega⟩
          case measure => simp [intOf]; omega
        · have hxa : (x == a) = false := by simpa using hx
          have HX := Lib.hid hx
          clear hx
          go_wp2
          go_round
          case rel =>
            have e : st (m, a) x = (m - 1, a) := by simp [st, HM.out, HX.out]
            exact ⟨k + 1, by omega, by go_num, by rw [HS.out, e]; show Value.int .i64 ((m : Int) - 1) = .int .i64 ((m - 1 : Nat) : Int); congr 1; omega, by rw [HS.out, e], by rw [HS.out, e]; show m - 1 ≤ k + 1; omega⟩
          case measure => simp [intOf]; omega
    · obtain rfl : k = n := by omega
      have et : zs.take k = zs := List.take_of_length_le (by rw [HL.out]; exact Nat.le_refl _)
      rw [et]
      obtain ⟨a, ha⟩ : ∃ a, a = (bm zs).2 := ⟨_, rfl⟩
      rw [← ha]
      have HA := Lib.hid ha
      clear et ha
      go_wp2
      go_loop [5, 32] (fun t i => ∃ j : Nat, j ≤ k ∧ i = .int .i64 (j : Nat) ∧ t = .int .i64 (cn a (zs.take j) : Nat)) (fun _ i => k - (intOf i).toNat)
      case atStart => exact ⟨0, Nat.zero_le _, rfl, rfl⟩
      case round =>
        obtain ⟨j, hj, rfl, rfl⟩ := hrel
        have hcj : cn a (zs.take j) ≤ j := Nat.le_trans (cn_le _ _) (List.length_take_le _ _)
        by_cases hjl : j < k
        · obtain ⟨b, off, rfl, hb, hcell⟩ := HC.out (by omega)
          have hcx := hcell j hjl
          have hs := cn_snoc a zs j (by rw [HL.out]; exact hjl)
          generalize zs.getD j 0 = x at *
          have HS := Lib.hid hs
          clear hcell hs
          by_cases hx : x = a
          · have hxa : (x == a) = true := by simpa using hx
            have HX := Lib.hid hx
            clear hx
            go_wp2
            go_round
            case rel => exact ⟨j + 1, by omega, by go_num, by rw [HS.out, if_pos HX.out]; go_num⟩
            case measure => simp [intOf]; omega
          · have hxa : (x == a) = false := by simpa using hx
            have HX := Lib.hid hx
            clear hx
            go_wp2
            go_round
            case rel => exact ⟨j + 1, by omega, by go_num, by rw [HS.out, if_neg HX.out]⟩
            case measure => simp [intOf]; omega
        · obtain rfl : j = k := by omega
          have et : zs.take j = zs := List.take_of_length_le (by rw [HL.out]; exact Nat.le_refl _)
          rw [et] at hcj
          rw [et]
          clear et
          by_cases hm : j < 2 * cn a zs
          · go_wp2
            go_ret
            exact ⟨ret_i64 (by unfold maj; rw [← HA.out, HL.out, if_pos hm]), rfl⟩
          · go_wp2
            go_ret
            exact ⟨ret_i64 (by unfold maj; rw [← HA.out, HL.out, if_neg hm]), rfl⟩
end Go.Proofs.Ytofeoeknmlkjgaa
end
section
/- The contract of spot: a number counted round. -/
set_option linter.unusedVariables false
namespace Go.Proofs.Ytofeoeknmlkjgaa
open Go.RowKit

end Go.Proofs.Ytofeoeknmlkjgaa
end
section
/- The contract of sum.table: what it answers is the table of the plain law. -/
set_option linter.unusedVariables false
namespace Go.Proofs.Ytofeoeknmlkjgaa
open Go.RowKit Crc

namespace Crc
def tabTo (k : Nat) : Array Value := (Array.range 256).map fun j => .int .u32 (if j < k then ((tab j).toNat : Int) else 0)
def zeros : Array Value := Array.replicate 256 (.int .u32 0)
theorem tabTo_size (k : Nat) : (tabTo k).size = 256 := by simp [tabTo]
theorem zeros_tab : zeros = tabTo 0 := by
  apply Array.ext
  · simp [zeros, tabTo]
  · intro i h1 h2; simp [zeros, tabTo]
theorem tabTo_get (k j : Nat) (hj : j < 256) : (tabTo k)[j]? = some (.int .u32 (if j < k then ((tab j).toNat : Int) else 0)) := by
  simp [tabTo, hj]
theorem tabTo_set (k : Nat) (hk : k < 256) : (tabTo k).setIfInBounds k (.int .u32 ((tab k).toNat : Int)) = tabTo (k + 1) := by
  apply Array.ext
  · simp [tabTo]
  · intro i h1 h2
    have hi : i < 256 := by simpa [tabTo] using h2
    rw [Array.getElem_setIfInBounds (by simpa [tabTo] using hi)]
    by_cases e : k = i
    · subst e; simp [tabTo]
    · have : (i < k + 1) ↔ (i < k) := by omega
      simp [tabTo, e, this]
theorem tabTo_one (k : Nat) : (tabTo k).all (·.oneCell') = true := by
  rw [Array.all_eq_true_iff_forall_mem]
  intro v hv
  simp only [tabTo, Array.mem_map] at hv
  obtain ⟨j, _, rfl⟩ := hv
  rfl
theorem half_step (c : BitVec 32) : (c.toNat : Int) / (2 : Int) = (((c >>> 1).toNat : Nat) : Int) := by
  rw [BitVec.toNat_ushiftRight, Nat.shiftRight_eq_div_pow]
  simp
theorem xor_step (c : BitVec 32) : bits .xor .u32 ((c.toNat : Int) / (2 : Int)) 3988292384 = ((((c >>> 1) ^^^ 0xEDB88320#32).toNat : Nat) : Int) := by
  rw [half_step]
  have h := u32_xor_nat (c >>> 1).toNat 3988292384 (c >>> 1).isLt (by decide)
  rw [BitVec.toNat_xor]
  exact h
theorem and_odd (c : BitVec 32) (h : c.getLsbD 0 = true) : bits .and .u32 (c.toNat : Int) 1 = 1 := by
  have e := u32_and_nat c.toNat 1 c.isLt (by decide)
  rw [nat_mask1] at e
  have h2 : c.toNat % 2 = 1 := by
    rw [BitVec.getLsbD, Nat.testBit_zero] at h; simpa using h
  rw [h2] at e; exact e
theorem and_even (c : BitVec 32) (h : c.getLsbD 0 = false) : bits .and .u32 (c.toNat : Int) 1 = 0 := by
  have e := u32_and_nat c.toNat 1 c.isLt (by decide)
  rw [nat_mask1] at e
  have h2 : c.toNat % 2 = 0 := by
    rw [BitVec.getLsbD, Nat.testBit_zero] at h; simpa using h
  rw [h2] at e; exact e
end Crc

theorem infoTab : (Try.prog.info? 158).bind (·.zero) = some (.agg zeros) := by kernel_rfl
theorem sizeTab : (Try.prog.info? 158).map (·.size) = some 256 := by kernel_rfl

theorem sizeTabTo : (Try.prog.info? 158).map (·.size) = some (tabTo 256).size := by rw [tabTo_size]; exact sizeTab

set_option maxRecDepth 100000 in
set_option maxHeartbeats 1000000 in
theorem table_any (w : World) : Calls Try.prog 93 #[] w fun e w' => e = .returned (.agg (tabTo 256)) ∧ Below w.heap.size w w' := by
  have tok1 : True := trivial
  go_enter Try.func93, Try.ntmps93
  go_wp2_with (first | (have _t := tok1; refine wpList_alloc_row rfl 158 rfl zeros infoTab ?_; intro w1 hb1 hB1 hz1; clear tok1 _t) | (refine wpList_alloc_row rfl 158 rfl zeros infoTab ?_; intro w2 hb2 hB2 hz2))
  have HB1 := Lib.hid (hb1.next hB2)
  rw [zeros_tab] at hb2
  have hB : Below w.heap.size w w2 := below_next hB1 hB2
  have hb2' : Blk w2 (w.heap.size + 1) 158 (tabTo 0) := by rw [hz1] at hb2; exact hb2
  clear hb1 hB1 hB2 hz2 hz1 hb2
  go_loopw [4] (fun i wr => ∃ k : Nat, k ≤ 256 ∧ i = .int .i64 (k : Nat) ∧ Blk wr w.heap.size 158 zeros ∧ Blk wr (w.heap.size + 1) 158 (tabTo k) ∧ Below w.heap.size w wr) (fun i _ => 256 - (intOf i).toNat)
  case atStart => exact ⟨0, Nat.zero_le _, rfl, HB1.out, hb2', hB⟩
  case round =>
    clear hb2' hB HB1
    obtain ⟨k, hk, rfl, hb1, hb2, hB⟩ := hrel
    by_cases hlt : k < 256
    · have c1 := (hb2.cell k).trans (tabTo_get k k hlt)
      have f1 := hb2.frozen k
      have hkn : (k : Int) < 256 := by omega
      have hkd : decide ((k : Int) < 256) = true := by simpa using hkn
      go_wp2
      go_loop [3, 9] (fun c i => ∃ j : Nat, j ≤ 8 ∧ i = .int .i64 (j : Nat) ∧ c = .int .u32 ((it j (BitVec.ofNat 32 k)).toNat : Nat)) (fun _ i => 8 - (intOf i).toNat)
      case atStart => exact ⟨0, Nat.zero_le _, rfl, by show Value.int .u32 (k : Int) = .int .u32 ((BitVec.ofNat 32 k).toNat : Nat); rw [BitVec.toNat_ofNat, Nat.mod_eq_of_lt (by omega)]⟩
      case round =>
        obtain ⟨j, hj, rfl, rfl⟩ := hrel
        by_cases hjl : j < 8
        · have hsucc := it_succ' j (BitVec.ofNat 32 k)
          generalize it j (BitVec.ofNat 32 k) = c at *
          have HS := Lib.hid hsucc
          clear hsucc
          have hlt32 := c.isLt
          have hjn : (j : Int) < 8 := by omega
          cases h0 : c.getLsbD 0 with
          | true =>
            have hb := and_odd c h0
            have hs := s1_odd c h0
            have H0 := Lib.hid hs
            clear h0 hs
            go_wp2
            go_round
            case rel => exact ⟨j + 1, by omega, by go_num, by rw [xor_step, HS.out, H0.out]⟩
            case measure => simp [intOf]; omega
          | false =>
            have hb := and_even c h0
            have hs := s1_even c h0
            have H0 := Lib.hid hs
            clear h0 hs
            go_wp2
            go_round
            case rel => exact ⟨j + 1, by omega, by go_num, by rw [half_step, HS.out, H0.out]⟩
            case measure => simp [intOf]; omega
        · obtain rfl : j = 8 := by omega
          go_wp2
          go_roundw
          case rel =>
            refine ⟨k + 1, by omega, by go_num, hb1.far (by simp) _, ?_, hB.setCell (by simp) _⟩
            rw [← tabTo_set k hlt]
            exact hb2.set_ k _
          case measure => simp [intOf]; omega
    · obtain rfl : k = 256 := by omega
      have hne : w.heap.size ≠ w.heap.size + 1 := by omega
      go_wp2_with (first | (refine wpList_load_all rfl 158 _ rfl (w.heap.size + 1) rfl 158 (tabTo 256) _ hb2 Try.underlying158 rfl sizeTabTo ?_) | (refine wpList_store_all rfl 158 _ _ rfl w.heap.size (tabTo 256) rfl rfl 158 zeros hb1 sizeTabTo (by simp [zeros, tabTo_size]) (tabTo_one 256) ?_; intro w3 hb3 hg3 hz3))
      exact bodyPost_ret (v := .agg (tabTo 256)) (results_cell_row rfl _ _ w.heap.size 158 (tabTo 256) (0, 0) _ rfl hb3 Try.underlying158 rfl sizeTabTo) rfl ⟨rfl, hB.grown hg3 (by have := hb2.lt; omega) (fun j hj => by cases hj; exact Nat.le_refl _)⟩
end Go.Proofs.Ytofeoeknmlkjgaa
end
section
/- The contracts of sum.More and sum.Sum. -/
set_option linter.unusedVariables false
namespace Go.Proofs.Ytofeoeknmlkjgaa
open Go.RowKit Crc

namespace Crc
theorem not_step2 (c : BitVec 32) : bits .xor .u32 IntKind.u32.max (c.toNat : Int) = (((~~~ c).toNat : Nat) : Int) := by
  have e : IntKind.u32.max = ((4294967295 : Nat) : Int) := by decide
  rw [e, u32_xor_nat 4294967295 c.toNat (by decide) c.isLt]
  have h : (~~~ c) = BitVec.allOnes 32 ^^^ c := BitVec.allOnes_xor.symm
  rw [h, BitVec.toNat_xor]
  rfl
theorem not_step (x : Int) : bits .xor .u32 IntKind.u32.max (x % 4294967296) = (((~~~ (BitVec.ofInt 32 x)).toNat : Nat) : Int) := by
  rw [← not_step2, BitVec.toNat_ofInt]
  congr 1
  omega
theorem not_out (c : BitVec 32) : wrap64 (bits .xor .u32 IntKind.u32.max (c.toNat : Int)) = (((~~~ c).toNat : Nat) : Int) := by
  rw [not_step2]
  exact IntWalk.wrap64_in _ (by have := (~~~ c).isLt; omega)
theorem byte_ix (c : BitVec 32) (x : Int) (h0 : 0 ≤ x) (h1 : x ≤ 255) : bits .xor .u8 ((c.toNat : Int) % 256) x = (((c ^^^ BitVec.ofInt 32 x).toNat % 256 : Nat) : Int) := by
  obtain ⟨n, rfl⟩ := Int.eq_ofNat_of_zero_le h0
  have hn : n < 256 := by omega
  have e := u8_xor_nat (c.toNat % 256) n (Nat.mod_lt _ (by decide)) hn
  have e2 : (BitVec.ofInt 32 (n : Int)).toNat = n := by
    rw [BitVec.toNat_ofInt]; omega
  rw [BitVec.toNat_xor, e2]
  have e3 := Nat.xor_mod_two_pow (a := c.toNat) (b := n) (n := 8)
  rw [show (2 : Nat) ^ 8 = 256 from rfl, Nat.mod_eq_of_lt hn] at e3
  rw [e3, ← e]
  simp
theorem byte_step (c : BitVec 32) (x : Int) (h0 : 0 ≤ x) (h1 : x ≤ 255) :
    bits .xor .u32 (((tab ((c ^^^ BitVec.ofInt 32 x).toNat % 256)).toNat : Nat) : Int) ((c.toNat : Int) / 256) = (((by1 c x).toNat : Nat) : Int) := by
  obtain ⟨n, rfl⟩ := Int.eq_ofNat_of_zero_le h0
  have hn : n < 256 := by omega
  have e2 : (BitVec.ofInt 32 (n : Int)).toNat = n := by
    rw [BitVec.toNat_ofInt]; omega
  have e4 : (BitVec.ofInt 32 (n : Int)) >>> 8 = 0#32 := by
    apply BitVec.eq_of_toNat_eq
    rw [BitVec.toNat_ushiftRight, e2, Nat.shiftRight_eq_div_pow]
    simp; omega
  have e5 : (c ^^^ BitVec.ofInt 32 (n : Int)) >>> 8 = c >>> 8 := by
    rw [BitVec.ushiftRight_xor_distrib, e4]; simp
  unfold by1
  rw [it8_tab, e5]
  generalize (c ^^^ BitVec.ofInt 32 (n : Int)).toNat % 256 = q
  rw [BitVec.toNat_xor]
  have h := u32_xor_nat (tab q).toNat (c >>> 8).toNat (BitVec.isLt _) (BitVec.isLt _)
  rw [← h]
  congr 1
  rw [BitVec.toNat_ushiftRight, Nat.shiftRight_eq_div_pow]
  simp
theorem go_snoc (c : BitVec 32) (l : List Int) (k : Nat) (h : k < l.length) : go c (l.take (k + 1)) = by1 (go c (l.take k)) (l.getD k 0) := by
  rw [List.take_succ_eq_append_getElem h, go_append]
  simp [go, List.getD, List.getElem?_eq_getElem h]
end Crc

set_option maxRecDepth 100000 in
set_option maxHeartbeats 1000000 in
theorem more_any (s : Int) (A : Option Addr) (n c : Nat) (zs : List Int) (w : World) (h : Ints w .u8 A n zs) (hz : ∀ z ∈ zs, 0 ≤ z ∧ z ≤ 255) (hn : n ≤ 1152921504606846976) :
    Calls Try.prog 73 #[.int .i64 s, .slice A n c] w fun e w' => e = .returned (.int .i64 ((sumFrom (BitVec.ofInt 32 s) zs).toNat : Nat)) ∧ Below w.heap.size w w' := by
  have H := Lib.hid h
  have HZ := Lib.hid hz
  clear h hz
  go_enter Try.func73, Try.ntmps73
  go_wp2_with fail
  refine (table_any _).mono ?_
  rintro e w1 ⟨rfl, hB1⟩
  go_wp2_with (first | (refine wpList_alloc_row rfl 158 rfl zeros infoTab ?_; intro w2 hb2 hB2 hz2) | (refine wpList_store_all rfl 158 _ _ rfl w1.heap.size (tabTo 256) rfl rfl 158 zeros hb2 sizeTabTo (by simp [zeros, tabTo_size]) (tabTo_one 256) ?_; intro w3 hb3 hg3 hz3))
  have hB3 : Below w.heap.size w w3 := (below_next hB1 hB2).grown hg3 (by have := hB1.size; omega) (fun j hj => by cases hj; exact hB1.size)
  have hg := hb3.lt
  rw [not_step]
  clear hb2 hB2 hz2 hg3 hz3
  go_loop [6, 15] (fun c i => ∃ k : Nat, k ≤ n ∧ i = .int .i64 (k : Nat) ∧ c = .int .u32 ((go (~~~ (BitVec.ofInt 32 s)) (zs.take k)).toNat : Nat)) (fun _ i => n - (intOf i).toNat)
  case atStart => exact ⟨0, Nat.zero_le _, rfl, rfl⟩
  case round =>
    obtain ⟨k, hk, rfl, rfl⟩ := hrel
    by_cases hlt : k < n
    · obtain ⟨b, off, rfl, hbl, hcell⟩ := H.out.2 (by omega)
      have hcx := hcell k hlt
      have hcx3 : w3.cell? ⟨b, off + k, none⟩ = some (.int .u8 (zs.getD k 0)) := (hB3.cell (p := ⟨b, off + k, none⟩) hbl).trans hcx
      have hs := go_snoc (~~~ (BitVec.ofInt 32 s)) zs k (by rw [H.out.1]; exact hlt)
      have hzk := HZ.out (zs.getD k 0) (by
        have := H.out.1
        simp only [List.getD, List.getElem?_eq_getElem (show k < zs.length by omega)]
        exact List.getElem_mem _)
      clear hcell hcx
      generalize zs.getD k 0 = x at *
      generalize go (~~~ (BitVec.ofInt 32 s)) (zs.take k) = cv at *
      have HS := Lib.hid hs
      clear hs
      obtain ⟨hz0, hz1⟩ := hzk
      have hix := byte_ix cv x hz0 hz1
      have hst := byte_step cv x hz0 hz1
      have hi256 : (cv ^^^ BitVec.ofInt 32 x).toNat % 256 < 256 := Nat.mod_lt _ (by decide)
      generalize (cv ^^^ BitVec.ofInt 32 x).toNat % 256 = ix at *
      have hct := (hb3.cell ix).trans (tabTo_get 256 ix hi256)
      rw [if_pos hi256] at hct
      have hcv := cv.isLt
      go_wp2
      go_round
      case rel => exact ⟨k + 1, by omega, by go_num, by rw [HS.out]⟩
      case measure => simp [intOf]; omega
    · obtain rfl : k = n := by omega
      have et : zs.take k = zs := List.take_of_length_le (by rw [H.out.1]; exact Nat.le_refl _)
      rw [et]
      clear et
      go_wp2
      go_ret
      exact ⟨ret_i64 (not_out _), hB3⟩

theorem sum_any (A : Option Addr) (n c : Nat) (zs : List Int) (w : World) (h : Ints w .u8 A n zs) (hz : ∀ z ∈ zs, 0 ≤ z ∧ z ≤ 255) (hn : n ≤ 1152921504606846976) :
    Calls Try.prog 59 #[.slice A n c] w fun e w' => e = .returned (.int .i64 ((sumFrom 0#32 zs).toNat : Nat)) ∧ Below w.heap.size w w' := by
  have K := Lib.hid (more_any 0 A n c zs w h hz hn)
  clear h hz
  go_enter Try.func59, Try.ntmps59
  go_wp2_with fail
  refine (K.out).mono ?_
  rintro e w1 ⟨rfl, hB1⟩
  go_wp2_with fail
  go_ret
  exact ⟨rfl, hB1⟩
end Go.Proofs.Ytofeoeknmlkjgaa
end
section
/- The contract of vote.Vote: what it answers of four votes. -/
set_option linter.unusedVariables false
namespace Go.Proofs.Ytofeoeknmlkjgaa
open Go.RowKit Go.Maps

namespace Vt
theorem infoBool : (Try.prog.info? 4).map (fun i => (i.zero, i.size, i.bytes)) = some (some (.bool false), 1, 1) := by kernel_rfl
theorem keyInt : Keyed Try.prog 3 := int_keyed Try.underlying3
theorem zeroInt (w : World) : (zeroValue 3).run Try.prog w = .ok (.int .i64 0) w := by kernel_rfl

def Says (w : World) (b n : Nat) (f : Int → Nat) : Prop :=
  ∃ D : DataW Unit, w.ownsMap Try.prog 3 (plainElem Try.prog 3) b n D ∧ ∀ v, D.atKey (.int .i64 v) (.lit (.int .i64 0)) = .lit (.int .i64 (f v))

theorem wf_of {x : Int} (h : IntKind.i64.has x) : (Lit.int .i64 x).wf = true := by
  simp [IntKind.has, IntKind.min, IntKind.max, IntKind.signed, IntKind.bits] at h
  exact WalkArith.wf_i64 ⟨by omega, by omega⟩

theorem Says.start (w : World) (n : Nat) (L : Vs) (h : n = w.heap.size) : Says (w.alloc (.map #[] 0)) n 0 (cnt L 0) := by
  subst h; exact ⟨.map [], World.ownsMap_made _ _ _ _, fun _ => rfl⟩

theorem Says.lt {w : World} {b n : Nat} {f : Int → Nat} (h : Says w b n f) : b < w.heap.size := by
  obtain ⟨D, ⟨es, c, hb, _⟩, _⟩ := h
  rcases Nat.lt_or_ge b w.heap.size with hlt | hge
  · exact hlt
  · rw [Array.getElem?_eq_none hge] at hb; cases hb

theorem Says.keep {w w' : World} {b n : Nat} {f : Int → Nat} (h : Says w b n f) (hk : w'.heap[b]? = w.heap[b]?) : Says w' b n f := by
  obtain ⟨D, ⟨es, c, hb, r⟩, hf⟩ := h
  exact ⟨D, ⟨es, c, hk.trans hb, r⟩, hf⟩

theorem says_put {D : DataW Unit} {f g : Int → Nat} {x : Int} (hm : IsMap D) (h : ∀ v, D.atKey (.int .i64 v) (.lit (.int .i64 0)) = .lit (.int .i64 (f v)))
    (hg : ∀ v, g v = if x = v then f x + 1 else f v) : ∀ v, (D.put (.int .i64 x) (.lit (.int .i64 ((f x : Int) + 1)))).atKey (.int .i64 v) (.lit (.int .i64 0)) = .lit (.int .i64 (g v)) := by
  intro v
  by_cases e : x = v
  · subst e
    rw [atKey_put_same hm (by simp [WideAt.IsKeyLit]), hg, if_pos rfl]; rfl
  · rw [atKey_put_other (by simpa using fun h => e h.symm), h, hg, if_neg e]

def VL (l0 l1 l2 l3 : Int) (b0 b1 b2 b3 : Bool) : Vs := [(l0, b0), (l1, b1), (l2, b2), (l3, b3)]

set_option maxRecDepth 100000 in
theorem idx (l0 l1 l2 l3 : Int) (b0 b1 b2 b3 : Bool) (k : Nat) (hk : k < 4) (w : World) :
    (Instr.index 36 (.agg #[.int .i64 l0, .int .i64 l1, .int .i64 l2, .int .i64 l3]) (.int .i64 (k : Int))).run Try.prog w = .ok (.int .i64 ((VL l0 l1 l2 l3 b0 b1 b2 b3).getD k (0, false)).1) w := by
  have hk' : k = 0 ∨ k = 1 ∨ k = 2 ∨ k = 3 := by omega
  rcases hk' with rfl | rfl | rfl | rfl
  · rfl
  · rfl
  · rfl
  · rfl

theorem cellb (l0 l1 l2 l3 : Int) (b0 b1 b2 b3 : Bool) (k : Nat) (hk : k < 4) :
    (#[Value.bool b0, .bool b1, .bool b2, .bool b3])[k]? = some (.bool ((VL l0 l1 l2 l3 b0 b1 b2 b3).getD k (0, false)).2) := by
  match k, hk with
  | 0, _ => rfl
  | 1, _ => rfl
  | 2, _ => rfl
  | 3, _ => rfl

theorem wfl {l0 l1 l2 l3 : Int} {b0 b1 b2 b3 : Bool} (h0 : IntKind.i64.has l0) (h1 : IntKind.i64.has l1) (h2 : IntKind.i64.has l2) (h3 : IntKind.i64.has l3) (k : Nat) (hk : k < 4) :
    (Lit.int .i64 ((VL l0 l1 l2 l3 b0 b1 b2 b3).getD k (0, false)).1).wf = true := by
  match k, hk with
  | 0, _ => exact wf_of h0
  | 1, _ => exact wf_of h1
  | 2, _ => exact wf_of h2
  | 3, _ => exact wf_of h3
end Vt
open Vt

set_option maxHeartbeats 2000000 in
set_option maxRecDepth 100000 in
theorem vote_any (l0 l1 l2 l3 : Int) (b0 b1 b2 b3 : Bool) (h0 : IntKind.i64.has l0) (h1 : IntKind.i64.has l1) (h2 : IntKind.i64.has l2) (h3 : IntKind.i64.has l3) (w : World) :
    Calls Try.prog 44 #[.agg #[.int .i64 l0, .int .i64 l1, .int .i64 l2, .int .i64 l3], .agg #[.bool b0, .bool b1, .bool b2, .bool b3]] w fun e w' =>
      ∃ v, e = .returned (.agg #[.int .i64 (val (VL l0 l1 l2 l3 b0 b1 b2 b3)), .bool (strong (VL l0 l1 l2 l3 b0 b1 b2 b3)), v]) ∧
        w'.ownsRow w.heap.size 4 1 v 4 [.bool (agree (VL l0 l1 l2 l3 b0 b1 b2 b3) l0), .bool (agree (VL l0 l1 l2 l3 b0 b1 b2 b3) l1), .bool (agree (VL l0 l1 l2 l3 b0 b1 b2 b3) l2), .bool (agree (VL l0 l1 l2 l3 b0 b1 b2 b3) l3)] ∧
        Below w.heap.size w w' := by
  have HI := Lib.hid (idx l0 l1 l2 l3 b0 b1 b2 b3)
  have HC := Lib.hid (cellb l0 l1 l2 l3 b0 b1 b2 b3)
  have HW := Lib.hid (wfl (b0 := b0) (b1 := b1) (b2 := b2) (b3 := b3) h0 h1 h2 h3)
  clear h0 h1 h2 h3
  obtain ⟨L, hL⟩ : ∃ L, L = VL l0 l1 l2 l3 b0 b1 b2 b3 := ⟨_, rfl⟩
  rw [← hL] at HI HC HW
  have HL := Lib.hid hL
  have HLen : Hid (L.length = 4) := by rw [hL]; rfl
  rw [← hL]
  clear hL
  have hmm := @run_makeMap Try.prog
  go_enter Try.func44, Try.ntmps44
  go_wp2
  go_loopw [6, 17] (fun t i wr => ∃ k : Nat, k ≤ 4 ∧ i = .int .i64 k ∧ t = .int .i64 (tot L k) ∧ Says wr (w.heap.size + 1 + 1 + 1) k (cnt L k) ∧
      Below (w.heap.size + 1 + 1 + 1) (((w.alloc (.cells #[.int .i64 l0, .int .i64 l1, .int .i64 l2, .int .i64 l3] 36)).alloc (.cells #[.bool b0, .bool b1, .bool b2, .bool b3] 35)).alloc (.cells #[.int .i64 0, .bool false, .slice none 0 0] 43)) wr)
    (fun _ i _ => 4 - (intOf i).toNat)
  case atStart => exact ⟨0, Nat.zero_le _, rfl, rfl, Says.start _ _ L (by simp), (Below.refl _ _).alloc (by simp) _⟩
  case round =>
    obtain ⟨k, hk, rfl, rfl, hsay, hb⟩ := hrel
    by_cases hlt : k < 4
    · have hidx := HI.out k hlt
      have hwf := HW.out k hlt
      have hcb : wr.cell? ⟨w.heap.size + 1, k, none⟩ = some (.bool (L.getD k (0, false)).2) := by
        rw [hb.cell (by simp), ((Blk.at_ _ _ _ _ (by simp)).alloc _).cell k]; exact HC.out k hlt
      have ht := tot_le L k
      obtain ⟨D, hown, hat⟩ := hsay
      have hC := fun v => cnt_yes L k v (by rw [HLen.out]; exact hlt)
      have hC' := fun v => cnt_no L k v (by rw [HLen.out]; exact hlt)
      have hT := tot_yes L k (by rw [HLen.out]; exact hlt)
      have hT' := tot_no L k (by rw [HLen.out]; exact hlt)
      generalize (L.getD k (0, false)).1 = x at *
      generalize (L.getD k (0, false)).2 = bk at *
      have hcx := cnt_le L k x
      have Hat := Lib.hid hat
      have HC1 := Lib.hid hC
      have HC2 := Lib.hid hC'
      have HT1 := Lib.hid hT
      have HT2 := Lib.hid hT'
      clear hat hC hC' hT hT'
      cases bk with
      | true =>
        go_wp2_with (first
          | (at_lookup; refine wpList_lookup_own_int _ rfl _ _ 124 rfl 3 3 .i64 keyInt Try.underlying124 Try.underlying3 (zeroInt _) (w.heap.size + 1 + 1 + 1) k _ rfl hown _ _ rfl (keyOf_int_mk Try.underlying3 hwf) ?_; intro c hc hwc; obtain rfl : c = ((cnt L k x : Nat) : Int) := (by have := hc.symm.trans (Hat.out x); simpa using this); clear hc)
          | (at_mapUpdate; refine wpList_mapUpdate_own _ rfl _ _ _ 124 rfl 3 3 keyInt Try.underlying124 _ (w.heap.size + 1 + 1 + 1) k _ rfl hown (by unfold maxLen; omega) _ _ _ rfl rfl (keyOf_int_mk Try.underlying3 hwf) _ [] (plainElem_int Try.underlying3 (WalkArith.wf_i64 (by omega))) ?_; intro w1 hown1 hgrow1))
        go_roundw
        case rel =>
          refine ⟨k + 1, by omega, by go_num, by rw [HT1.out rfl]; go_num, ⟨_, hown1, says_put hown.isMap Hat.out fun v => ?_⟩, hb.grown hgrow1 (by have := hb.size; simp at this; omega) (fun j hj => by cases hj; exact Nat.le_refl _)⟩
          rw [HC1.out v rfl]; by_cases e : x = v
          · subst e; rfl
          · rw [if_neg e, if_neg e]
        case measure => simp [intOf]; omega
      | false =>
        go_wp2
        go_roundw
        case rel => exact ⟨k + 1, by omega, by go_num, by rw [HT2.out rfl], ⟨_, hown.mono (Nat.le_succ _), fun v => by rw [HC2.out v rfl]; exact Hat.out v⟩, hb⟩
        case measure => simp [intOf]; omega
    · have hbl : Blk wr w.heap.size 36 #[.int .i64 l0, .int .i64 l1, .int .i64 l2, .int .i64 l3] := ((((Blk.new _ _ _).alloc _).alloc _).below hb (by omega))
      have q0 := hbl.cell 0
      have q1 := hbl.cell 1
      have q2 := hbl.cell 2
      have q3 := hbl.cell 3
      simp only [List.getElem?_toArray, List.getElem?_cons_zero, List.getElem?_cons_succ] at q0 q1 q2 q3
      have hz3 : w.heap.size + 1 + 1 + 1 < wr.heap.size := hsay.lt
      have hz0 : w.heap.size < wr.heap.size := by omega
      obtain rfl : k = 4 := by omega
      go_wp2
      have hgo : w.heap.size + 1 + 1 + 1 < wr.heap.size := hz3
      have hbo := hb.alloc (by omega) (.cells #[.int .i64 0, .bool false, .slice none 0 0] 43)
      have hso := hsay.keep (w' := wr.alloc (.cells #[.int .i64 0, .bool false, .slice none 0 0] 43)) (Below.heap_alloc _ _ _ hsay.lt)
      obtain ⟨g, hg⟩ : ∃ g, g = wr.heap.size := ⟨_, rfl⟩
      rw [← hg] at hgo
      have hbg := Blk.at_ wr g 43 #[.int .i64 0, .bool false, .slice none 0 0] hg
      rw [← hg]
      generalize wr.alloc (.cells #[.int .i64 0, .bool false, .slice none 0 0] 43) = wo at *
      clear hbl q0 q1 q2 q3 hz3 hz0 hb hsay hg
      simp only [Int.cast_ofNat_Int]
      go_loopw [9, 32] (fun t i wr => ∃ k : Nat, k ≤ 4 ∧ i = .int .i64 k ∧ t = .int .i64 (bst L k).1 ∧ Says wr (w.heap.size + 1 + 1 + 1) 4 (cnt L 4) ∧ Blk wr g 43 #[.int .i64 (bst L k).2, .bool false, .slice none 0 0] ∧
        Below (w.heap.size + 1 + 1 + 1) (((w.alloc (.cells #[.int .i64 l0, .int .i64 l1, .int .i64 l2, .int .i64 l3] 36)).alloc (.cells #[.bool b0, .bool b1, .bool b2, .bool b3] 35)).alloc (.cells #[.int .i64 0, .bool false, .slice none 0 0] 43)) wr)
        (fun _ i _ => 4 - (intOf i).toNat)
      case atStart => exact ⟨0, Nat.zero_le _, rfl, rfl, hso, hbg, hbo⟩
      case round =>
        clear hso hbg hbo
        obtain ⟨k, hk, rfl, rfl, hsay, hbg, hb⟩ := hrel
        by_cases hlt : k < 4
        · have hidx := HI.out k hlt
          have hwf := HW.out k hlt
          have hcb : wr.cell? ⟨w.heap.size + 1, k, none⟩ = some (.bool (L.getD k (0, false)).2) := by
            rw [hb.cell (by simp), ((Blk.at_ _ _ _ _ (by simp)).alloc _).cell k]; exact HC.out k hlt
          obtain ⟨D, hown, hat⟩ := id hsay
          have hY := bst_yes L k
          have hN := bst_no L k
          rw [HLen.out] at hY hN
          generalize (L.getD k (0, false)).1 = x at *
          generalize (L.getD k (0, false)).2 = bk at *
          have c0 := hbg.cell 0
          have f0 := hbg.frozen 0
          simp only [List.getElem?_toArray, List.getElem?_cons_zero] at c0
          have HY := Lib.hid hY
          have HN := Lib.hid hN
          have Hat := Lib.hid hat
          clear hY hN hat
          cases bk with
          | true =>
            obtain ⟨c, hrun, hc, _⟩ := hown.lookup_int keyInt Try.underlying124 Try.underlying3 (zeroInt _) (keyOf_int_mk Try.underlying3 hwf)
            obtain rfl : c = ((cnt L 4 x : Nat) : Int) := by have := hc.symm.trans (Hat.out x); simpa using this
            clear hc
            by_cases hlt2 : (bst L k).1 < cnt L 4 x
            · go_wp2
              go_roundw
              case rel =>
                refine ⟨k + 1, by omega, by go_num, by rw [HY.out rfl hlt2], hsay.keep (Below.heap_setCell _ _ _ _ (by simp; omega)), ?_, hb.setCell (by simp; omega) _⟩
                have := hbg.set_ 0 (.int .i64 x)
                rw [HY.out rfl hlt2]
                simpa using this
              case measure => simp [intOf]; omega
            · go_wp2
              go_roundw
              case rel => exact ⟨k + 1, by omega, by go_num, by rw [HN.out (.inr hlt2)], hsay, by rw [HN.out (.inr hlt2)]; exact hbg, hb⟩
              case measure => simp [intOf]; omega
          | false =>
            go_wp2
            go_roundw
            case rel => exact ⟨k + 1, by omega, by go_num, by rw [HN.out (.inl rfl)], hsay, by rw [HN.out (.inl rfl)]; exact hbg, hb⟩
            case measure => simp [intOf]; omega
        · have hbl : Blk wr w.heap.size 36 #[.int .i64 l0, .int .i64 l1, .int .i64 l2, .int .i64 l3] := ((((Blk.new _ _ _).alloc _).alloc _).below hb (by omega))
          have q0 := hbl.cell 0
          have q1 := hbl.cell 1
          have q2 := hbl.cell 2
          have q3 := hbl.cell 3
          have c1 := hbg.cell 1
          have f1 := hbg.frozen 1
          simp only [List.getElem?_toArray, List.getElem?_cons_zero, List.getElem?_cons_succ] at q0 q1 q2 q3 c1
          have hbb := bst_le L k
          rw [HLen.out] at hbb
          have htt := tot_le L 4
          obtain rfl : k = 4 := by omega
          go_wp2
          have eS : decide (((tot L 4 : Nat) : Int) < 2 * ((bst L 4).1 : Nat)) = strong L := by
            unfold strong best; rw [HLen.out]; apply decide_eq_decide.2; omega
          have hb1 := hbg.set_ 1 (.bool (decide (((tot L 4 : Nat) : Int) < 2 * ((bst L 4).1 : Nat))))
          have hbB := hb.setCell (p := ⟨g, 1, none⟩) (by simp; omega) (.bool (decide (((tot L 4 : Nat) : Int) < 2 * ((bst L 4).1 : Nat))))
          rw [eS] at hb1 hbB
          rw [eS]
          have hb2 : Blk (wr.setCell ⟨g, 1, none⟩ (.bool (strong L))) g 43 #[.int .i64 (bst L 4).2, .bool (strong L), .slice none 0 0] := by simpa using hb1
          clear hbl q0 q1 q2 q3 c1 f1 hb1 hb hbg hsay eS
          generalize wr.setCell ⟨g, 1, none⟩ (.bool (strong L)) = wo2 at *
          have eV : (bst L 4).2 = val L := by unfold val; rw [HLen.out]
          rw [eV] at hb2
          clear eV hbb
          obtain ⟨i0, hi, hz0, hz1, hz2⟩ := info_parts infoBool
          simp only [Int.cast_ofNat_Int]
          go_loopw [58] (fun i wr => ∃ k v, k ≤ 4 ∧ i = .int .i64 (k : Nat) ∧ Blk wr g 43 #[.int .i64 (val L), .bool (strong L), v] ∧ wr.ownsRow (w.heap.size + 1 + 1 + 1) 4 1 v k ((L.take k).map fun p => .bool (agree L p.1)) ∧
              Below (w.heap.size + 1 + 1 + 1) (((w.alloc (.cells #[.int .i64 l0, .int .i64 l1, .int .i64 l2, .int .i64 l3] 36)).alloc (.cells #[.bool b0, .bool b1, .bool b2, .bool b3] 35)).alloc (.cells #[.int .i64 0, .bool false, .slice none 0 0] 43)) wr)
              (fun i _ => 4 - (intOf i).toNat)
          case atStart => exact ⟨0, _, Nat.zero_le _, rfl, hb2, World.ownsRow_nil _ _ _ _, hbB⟩
          case round =>
            clear hb2 hbB
            obtain ⟨k, v, hk, rfl, hbg, hown, hb⟩ := hrel
            by_cases hlt : k < 4
            · have hidx := HI.out k hlt
              have hts := take_snoc L k (by rw [HLen.out]; exact hlt)
              generalize L.getD k (0, false) = p at *
              obtain ⟨x, bk⟩ := p
              simp only at hidx
              have Hts := Lib.hid hts
              clear hts
              have c0 := hbg.cell 0
              have c2 := hbg.cell 2
              have f2 := hbg.frozen 2
              simp only [List.getElem?_toArray, List.getElem?_cons_zero, List.getElem?_cons_succ] at c0 c2
              have hsz := hb.size
              simp only [World.size_alloc] at hsz
              have hag : agree L x = (decide (0 < tot L 4) && (x == val L)) := by unfold agree; rw [HLen.out]
              have Hag := Lib.hid hag
              clear hag
              have hvg := own_blk_ne hown hbg (by decide)
              have Hvg := Lib.hid hvg
              clear hvg
              by_cases ht : 0 < tot L 4
              · have htd : decide ((0 : Int) < ((tot L 4 : Nat) : Int)) = true := by simpa using ht
                go_wp2_with (first
                  | (at_builtin; refine wpList_append_own _ rfl _ _ 41 rfl (w.heap.size + 1 + 1 + 1) 4 i0 (.bool false) 1 1 Try.underlying41 hi hz0 hz1 hz2 rfl (by decide) _ _ _ rfl (hown.alloc _) ⟨wr.heap.size, 0, none⟩ 1 1 [.bool (x == val L)] rfl rfl (cell_one_new _ _ _) (by intro u hu; simp at hu; subst hu; rfl) (by unfold maxLen; omega) (by omega) (by simp; omega) ?_; intro v' w1 hown' hgrow _; obtain ⟨g', cap, rfl, hg1, hg2, _⟩ := own_form hown' (Nat.succ_pos _); have hbg1 := (hbg.alloc _).grown hgrow Hvg.out; have d2 := hbg1.cell 2; have e2 := hbg1.frozen 2; simp only [List.getElem?_toArray, List.getElem?_cons_zero, List.getElem?_cons_succ] at d2))
                go_roundw
                case rel =>
                  refine ⟨k + 1, .slice (some ⟨g', 0, none⟩) (k + 1) cap, by omega, by go_num, ?_, ?_, ((hb.alloc (by omega) _).grown hgrow (by simp; omega) (fun j hj => (hown.lt j hj).1)).setCell (by simp; omega) _⟩
                  · have := hbg1.set_ 2 (.slice (some ⟨g', 0, none⟩) (k + 1) cap)
                    simpa using this
                  · rw [Hts.out, List.map_append, List.map_cons, List.map_nil, Hag.out, decide_eq_true ht, Bool.true_and]
                    exact own_set hown' (own_blk_ne hown' hbg1 (by decide)) _
                case measure => simp [intOf]; omega
              · have htd : decide ((0 : Int) < ((tot L 4 : Nat) : Int)) = false := by
                  have ht0 : tot L 4 = 0 := by omega
                  rw [ht0]; rfl
                go_wp2_with (first
                  | (at_builtin; refine wpList_append_own _ rfl _ _ 41 rfl (w.heap.size + 1 + 1 + 1) 4 i0 (.bool false) 1 1 Try.underlying41 hi hz0 hz1 hz2 rfl (by decide) _ _ _ rfl (hown.alloc _) ⟨wr.heap.size, 0, none⟩ 1 1 [.bool false] rfl rfl (cell_one_new _ _ _) (by intro u hu; simp at hu; subst hu; rfl) (by unfold maxLen; omega) (by omega) (by simp; omega) ?_; intro v' w1 hown' hgrow _; obtain ⟨g', cap, rfl, hg1, hg2, _⟩ := own_form hown' (Nat.succ_pos _); have hbg1 := (hbg.alloc _).grown hgrow Hvg.out; have d2 := hbg1.cell 2; have e2 := hbg1.frozen 2; simp only [List.getElem?_toArray, List.getElem?_cons_zero, List.getElem?_cons_succ] at d2))
                go_roundw
                case rel =>
                  refine ⟨k + 1, .slice (some ⟨g', 0, none⟩) (k + 1) cap, by omega, by go_num, ?_, ?_, ((hb.alloc (by omega) _).grown hgrow (by simp; omega) (fun j hj => (hown.lt j hj).1)).setCell (by simp; omega) _⟩
                  · have := hbg1.set_ 2 (.slice (some ⟨g', 0, none⟩) (k + 1) cap)
                    simpa using this
                  · rw [Hts.out, List.map_append, List.map_cons, List.map_nil, Hag.out, decide_eq_false ht, Bool.false_and]
                    exact own_set hown' (own_blk_ne hown' hbg1 (by decide)) _
                case measure => simp [intOf]; omega
            · have hbr : Blk wr (w.heap.size + 1 + 1) 43 #[.int .i64 0, .bool false, .slice none 0 0] := (Blk.at_ _ _ _ _ (by simp)).below hb (by omega)
              have c0 := hbg.cell 0
              have c1 := hbg.cell 1
              have c2 := hbg.cell 2
              have r0 := hbr.cell 0
              have r1 := hbr.cell 1
              have r2 := hbr.cell 2
              have s0 := hbr.frozen 0
              have s1 := hbr.frozen 1
              have s2 := hbr.frozen 2
              simp only [List.getElem?_toArray, List.getElem?_cons_zero, List.getElem?_cons_succ] at c0 c1 c2 r0 r1 r2
              obtain rfl : k = 4 := by omega
              obtain ⟨g', cap, rfl, hg1, hg2, _⟩ := own_form hown (by omega)
              have el : ∀ A : Int → Bool, (L.take 4).map (fun p => Value.bool (A p.1)) = [.bool (A l0), .bool (A l1), .bool (A l2), .bool (A l3)] := by
                intro A; rw [HL.out]; rfl
              rw [el] at hown
              have Hown := Lib.hid hown
              clear el hown
              go_wp2
              have ho := Hown.out
              refine bodyPost_ret (v := .agg #[.int .i64 (val L), .bool (strong L), .slice (some ⟨g', 0, none⟩) 4 cap]) (by simp [results, Try.results44, go_sem, r0, r1, r2]) rfl ⟨_, rfl, ?_, ?_⟩
              · refine own_set (own_set (own_set (own_le ho (by omega)) ?_ _) ?_ _) ?_ _ <;> (simp [Value.ownBlock]; omega)
              · exact (((((((Below.refl w.heap.size w).alloc (Nat.le_refl _) _).alloc (by simp) _).alloc (by simp; omega) _).trans (hb.mono (by omega))).setCell (by simp; omega) _).setCell (by simp; omega) _).setCell (by simp; omega) _

end Go.Proofs.Ytofeoeknmlkjgaa
end
