/- The contracts of sum.More and sum.Sum. -/
import Derived.Test.YtccebaadpjflkaaProg
import Derived.Test.YtccebaadpjflkaaTable
set_option linter.unusedVariables false
namespace Go.Proofs.Ytccebaadpjflkaa
open Go.RowKit Crc

namespace Crc
theorem not_step2 (c : BitVec 32) : bits .xor .u32 IntKind.u32.max (c.toNat : Int) = (((~~~ c).toNat : Nat) : Int) := by
  have e : IntKind.u32.max = ((4294967295 : Nat) : Int) := by decide
  rw [e, u32_xor_nat 4294967295 c.toNat (by decide) c.isLt]
  have h : (~~~ c) = BitVec.allOnes 32 ^^^ c := BitVec.allOnes_xor.symm
  rw [h, BitVec.toNat_xor]
  rfl
theorem not_step (x : Int) : bits .xor .u32 IntKind.u32.max (x % 4294967296) = (((~~~ (BitVec.ofInt 32 x)).toNat : Nat) : Int) := by
  rw [← not_step2, BitVec.toNat_ofInt]
  congr 1
  omega
theorem not_out (c : BitVec 32) : wrap64 (bits .xor .u32 IntKind.u32.max (c.toNat : Int)) = (((~~~ c).toNat : Nat) : Int) := by
  rw [not_step2]
  exact IntWalk.wrap64_in _ (by have := (~~~ c).isLt; omega)
theorem byte_ix (c : BitVec 32) (x : Int) (h0 : 0 ≤ x) (h1 : x ≤ 255) : bits .xor .u8 ((c.toNat : Int) % 256) x = (((c ^^^ BitVec.ofInt 32 x).toNat % 256 : Nat) : Int) := by
  obtain ⟨n, rfl⟩ := Int.eq_ofNat_of_zero_le h0
  have hn : n < 256 := by omega
  have e := u8_xor_nat (c.toNat % 256) n (Nat.mod_lt _ (by decide)) hn
  have e2 : (BitVec.ofInt 32 (n : Int)).toNat = n := by
    rw [BitVec.toNat_ofInt]; omega
  rw [BitVec.toNat_xor, e2]
  have e3 := Nat.xor_mod_two_pow (a := c.toNat) (b := n) (n := 8)
  rw [show (2 : Nat) ^ 8 = 256 from rfl, Nat.mod_eq_of_lt hn] at e3
  rw [e3, ← e]
  simp
theorem byte_step (c : BitVec 32) (x : Int) (h0 : 0 ≤ x) (h1 : x ≤ 255) :
    bits .xor .u32 (((tab ((c ^^^ BitVec.ofInt 32 x).toNat % 256)).toNat : Nat) : Int) ((c.toNat : Int) / 256) = (((by1 c x).toNat : Nat) : Int) := by
  obtain ⟨n, rfl⟩ := Int.eq_ofNat_of_zero_le h0
  have hn : n < 256 := by omega
  have e2 : (BitVec.ofInt 32 (n : Int)).toNat = n := by
    rw [BitVec.toNat_ofInt]; omega
  have e4 : (BitVec.ofInt 32 (n : Int)) >>> 8 = 0#32 := by
    apply BitVec.eq_of_toNat_eq
    rw [BitVec.toNat_ushiftRight, e2, Nat.shiftRight_eq_div_pow]
    simp; omega
  have e5 : (c ^^^ BitVec.ofInt 32 (n : Int)) >>> 8 = c >>> 8 := by
    rw [BitVec.ushiftRight_xor_distrib, e4]; simp
  unfold by1
  rw [it8_tab, e5]
  generalize (c ^^^ BitVec.ofInt 32 (n : Int)).toNat % 256 = q
  rw [BitVec.toNat_xor]
  have h := u32_xor_nat (tab q).toNat (c >>> 8).toNat (BitVec.isLt _) (BitVec.isLt _)
  rw [← h]
  congr 1
  rw [BitVec.toNat_ushiftRight, Nat.shiftRight_eq_div_pow]
  simp
theorem go_snoc (c : BitVec 32) (l : List Int) (k : Nat) (h : k < l.length) : go c (l.take (k + 1)) = by1 (go c (l.take k)) (l.getD k 0) := by
  rw [List.take_succ_eq_append_getElem h, go_append]
  simp [go, List.getD, List.getElem?_eq_getElem h]
end Crc

set_option maxRecDepth 100000 in
set_option maxHeartbeats 1000000 in
theorem more_any (s : Int) (A : Option Addr) (n c : Nat) (zs : List Int) (w : World) (h : Ints w .u8 A n zs) (hz : ∀ z ∈ zs, 0 ≤ z ∧ z ≤ 255) (hn : n ≤ 1152921504606846976) :
    Calls Try.prog 96 #[.int .i64 s, .slice A n c] w fun e w' => e = .returned (.int .i64 ((sumFrom (BitVec.ofInt 32 s) zs).toNat : Nat)) ∧ Below w.heap.size w w' := by
  have H := Lib.hid h
  have HZ := Lib.hid hz
  clear h hz
  go_enter Try.func96, Try.ntmps96
  go_wp2_with fail
  refine (table_any _).mono ?_
  rintro e w1 ⟨rfl, hB1⟩
  go_wp2_with (first | (refine wpList_alloc_row rfl 182 rfl zeros infoTab ?_; intro w2 hb2 hB2 hz2) | (refine wpList_store_all rfl 182 _ _ rfl w1.heap.size (tabTo 256) rfl rfl 182 zeros hb2 sizeTabTo (by simp [zeros, tabTo_size]) (tabTo_one 256) ?_; intro w3 hb3 hg3 hz3))
  have hB3 : Below w.heap.size w w3 := (below_next hB1 hB2).grown hg3 (by have := hB1.size; omega) (fun j hj => by cases hj; exact hB1.size)
  have hg := hb3.lt
  rw [not_step]
  clear hb2 hB2 hz2 hg3 hz3
  go_loop [6, 15] (fun c i => ∃ k : Nat, k ≤ n ∧ i = .int .i64 (k : Nat) ∧ c = .int .u32 ((go (~~~ (BitVec.ofInt 32 s)) (zs.take k)).toNat : Nat)) (fun _ i => n - (intOf i).toNat)
  case atStart => exact ⟨0, Nat.zero_le _, rfl, rfl⟩
  case round =>
    obtain ⟨k, hk, rfl, rfl⟩ := hrel
    by_cases hlt : k < n
    · obtain ⟨b, off, rfl, hbl, hcell⟩ := H.out.2 (by omega)
      have hcx := hcell k hlt
      have hcx3 : w3.cell? ⟨b, off + k, none⟩ = some (.int .u8 (zs.getD k 0)) := (hB3.cell (p := ⟨b, off + k, none⟩) hbl).trans hcx
      have hs := go_snoc (~~~ (BitVec.ofInt 32 s)) zs k (by rw [H.out.1]; exact hlt)
      have hzk := HZ.out (zs.getD k 0) (by
        have := H.out.1
        simp only [List.getD, List.getElem?_eq_getElem (show k < zs.length by omega)]
        exact List.getElem_mem _)
      clear hcell hcx
      generalize zs.getD k 0 = x at *
      generalize go (~~~ (BitVec.ofInt 32 s)) (zs.take k) = cv at *
      have HS := Lib.hid hs
      clear hs
      obtain ⟨hz0, hz1⟩ := hzk
      have hix := byte_ix cv x hz0 hz1
      have hst := byte_step cv x hz0 hz1
      have hi256 : (cv ^^^ BitVec.ofInt 32 x).toNat % 256 < 256 := Nat.mod_lt _ (by decide)
      generalize (cv ^^^ BitVec.ofInt 32 x).toNat % 256 = ix at *
      have hct := (hb3.cell ix).trans (tabTo_get 256 ix hi256)
      rw [if_pos hi256] at hct
      have hcv := cv.isLt
      go_wp2
      go_round
      case rel => exact ⟨k + 1, by omega, by go_num, by rw [HS.out]⟩
      case measure => simp [intOf]; omega
    · obtain rfl : k = n := by omega
      have et : zs.take k = zs := List.take_of_length_le (by rw [H.out.1]; exact Nat.le_refl _)
      rw [et]
      clear et
      go_wp2
      go_ret
      exact ⟨ret_i64 (not_out _), hB3⟩

theorem sum_any (A : Option Addr) (n c : Nat) (zs : List Int) (w : World) (h : Ints w .u8 A n zs) (hz : ∀ z ∈ zs, 0 ≤ z ∧ z ≤ 255) (hn : n ≤ 1152921504606846976) :
    Calls Try.prog 65 #[.slice A n c] w fun e w' => e = .returned (.int .i64 ((sumFrom 0#32 zs).toNat : Nat)) ∧ Below w.heap.size w w' := by
  have K := Lib.hid (more_any 0 A n c zs w h hz hn)
  clear h hz
  go_enter Try.func65, Try.ntmps65
  go_wp2_with fail
  refine (K.out).mono ?_
  rintro e w1 ⟨rfl, hB1⟩
  go_wp2_with fail
  go_ret
  exact ⟨rfl, hB1⟩
end Go.Proofs.Ytccebaadpjflkaa
