/- The contract of burst: what it turns changes every sum. -/
import Derived.Test.YtccebaadpjflkaaProg
import Derived.Test.YtccebaadpjflkaaBytes
import Derived.Test.YtccebaadpjflkaaSpot
set_option linter.unusedVariables false
namespace Go.Proofs.Ytccebaadpjflkaa
open Go.RowKit Crc

namespace Crc
theorem and1' (y : Int) : bits .and .i64 y 1 = y % 2 := by
  have key : bits .and .i64 y 1 = IntKind.i64.wrap (((BitVec.ofInt 64 y &&& BitVec.ofInt 64 1).toNat : Nat) : Int) := rfl
  have h : (BitVec.ofInt 64 y &&& BitVec.ofInt 64 1).toNat = (y % 2).toNat := by
    rw [BitVec.toNat_and]
    have e : (BitVec.ofInt 64 1).toNat = 1 := by decide
    rw [e, BitVec.toNat_ofInt, Nat.and_one_is_mod]
    omega
  rw [key, h, IntWalk.i64_in _ (by omega)]
  omega
theorem or1' (z : Int) : bits .or .i64 z 1 % 2 = 1 := by
  have key : bits .or .i64 z 1 = IntKind.i64.wrap (((BitVec.ofInt 64 z ||| BitVec.ofInt 64 1).toNat : Nat) : Int) := rfl
  have h : (BitVec.ofInt 64 z ||| BitVec.ofInt 64 1).toNat % 2 = 1 := by
    rw [BitVec.toNat_or]
    have e : (BitVec.ofInt 64 1).toNat = 1 := by decide
    rw [e]
    have := Nat.testBit_or (BitVec.ofInt 64 z).toNat 1 0
    rw [Nat.testBit_zero, Nat.testBit_zero] at this
    simp
  rw [key, IntKind.wrap_i64]
  generalize (BitVec.ofInt 64 z ||| BitVec.ofInt 64 1).toNat = q at *
  omega
/-- a byte of which one bit is turned, or not -/
def tb (b : Int) (r : Nat) (y : Int) : Int := bits .xor .u8 y (b % 256 * 2 ^ r % 256)
theorem and1 (y : Int) : bits .and .i64 y 1 = 0 ∨ bits .and .i64 y 1 = 1 := by rw [and1']; omega
theorem and1_or (z : Int) : bits .and .i64 (bits .or .i64 z 1 / 2 ^ 0) 1 = 1 := by
  rw [and1', show (2 : Int) ^ 0 = 1 from rfl, Int.ediv_one, or1']
theorem tb_zero (r : Nat) (y : Int) (h0 : 0 ≤ y) (h1 : y ≤ 255) : tb 0 r y = y := by
  obtain ⟨n, rfl⟩ := Int.eq_ofNat_of_zero_le h0
  unfold tb
  have e : (0 : Int) % 256 * 2 ^ r % 256 = ((0 : Nat) : Int) := by simp
  rw [e, u8_xor_nat n 0 (by omega) (by decide)]
  simp
theorem tb_one (r : Nat) (hr : r < 8) (y : Int) (h0 : 0 ≤ y) (h1 : y ≤ 255) : BitVec.ofInt 32 (tb 1 r y) = BitVec.ofInt 32 y ^^^ (1#32 <<< r) ∧ 0 ≤ tb 1 r y ∧ tb 1 r y ≤ 255 := by
  obtain ⟨n, rfl⟩ := Int.eq_ofNat_of_zero_le h0
  have hp : (2 : Nat) ^ r < 256 := by
    have : (2 : Nat) ^ r ≤ 2 ^ 7 := Nat.pow_le_pow_right (by decide) (by omega)
    omega
  have e : (1 : Int) % 256 * 2 ^ r % 256 = ((2 ^ r : Nat) : Int) := by
    have e1 : (1 : Int) % 256 = 1 := rfl
    rw [e1, Int.one_mul]
    have : ((2 : Int) ^ r) = ((2 ^ r : Nat) : Int) := by simp
    rw [this]
    generalize (2 : Nat) ^ r = q at hp
    omega
  have hx : n ^^^ 2 ^ r < 256 := Nat.xor_lt_two_pow (n := 8) (by omega) (by omega)
  unfold tb
  rw [e, u8_xor_nat n (2 ^ r) (by omega) hp]
  refine ⟨?_, by omega, by omega⟩
  apply BitVec.eq_of_toNat_eq
  rw [BitVec.toNat_xor, BitVec.toNat_shiftLeft]
  have h1 : (BitVec.ofInt 32 ((n ^^^ 2 ^ r : Nat) : Int)).toNat = n ^^^ 2 ^ r := by
    rw [BitVec.toNat_ofInt]; omega
  have h2 : (BitVec.ofInt 32 (n : Int)).toNat = n := by
    rw [BitVec.toNat_ofInt]; omega
  rw [h1, h2]
  congr 1
  rw [Nat.shiftLeft_eq]
  simp
  omega
end Crc

set_option maxRecDepth 100000 in
set_option maxHeartbeats 1000000 in
theorem burst_any (A : Option Addr) (n c : Nat) (zs : List Int) (x mask : Int) (w : World) (h : Ints w .u8 A n zs) (hA : A = none → n = 0 ∧ c = 0) (hn : n ≤ 140737488355328) (hn0 : 0 < n) (hz : ∀ z ∈ zs, 0 ≤ z ∧ z ≤ 255) :
    Calls Try.prog 29 #[.slice A n c, .int .i64 x, .int .i64 mask] w fun e w' => ∃ A' c' zs' N k, e = .returned (.slice A' n c') ∧ NewBytes w w' A' n c' zs' ∧ Bst zs zs' N k ∧ 0 < k := by
  have hne : ((n : Int) == 0) = false := by simp; omega
  have hq := Int.emod_nonneg x (b := (8 * (n : Int))) (by omega)
  have hq2 := Int.emod_lt_of_pos x (b := (8 * (n : Int))) (by omega)
  obtain ⟨at_, hat⟩ : ∃ k : Nat, x % (8 * (n : Int)) = (k : Int) := ⟨(x % (8 * (n : Int))).toNat, by omega⟩
  have hlt : at_ < 8 * n := by omega
  have ks := fun (W : World) => spot_any x (8 * (n : Int)) W (by omega) (by omega)
  rw [hat] at ks
  have Ks := Lib.hid ks
  clear ks hat hq hq2
  have kb := bytes_any A n c zs w h hA hn
  have Kb := Lib.hid kb
  have hl := h.1
  have HL := Lib.hid hl
  have HZ := Lib.hid hz
  clear kb h hA hl hz
  go_enter Try.func29, Try.ntmps29
  go_wp2_with fail
  refine Kb.out.mono ?_
  rintro e w1 ⟨A1, c1, rfl, hown, hB⟩
  obtain ⟨g, cap, hv, _, _, _⟩ := own_form hown hn0
  cases hv
  go_wp2_with fail
  refine (Ks.out _).mono ?_
  rintro e w' ⟨rfl, rfl⟩
  go_wp2_with fail
  have hodd := and1_or (wrap64 (mask * 2))
  generalize bits .or .i64 (wrap64 (mask * 2)) 1 = M at *
  have HO := Lib.hid hodd
  clear hodd
  go_loopw [8] (fun i wr => ∃ (k : Nat) (zs' : List Int), k ≤ 32 ∧ at_ + k ≤ 8 * n ∧ i = .int .i64 (k : Nat) ∧ wr.ownsRow w.heap.size 5 1 (.slice (some ⟨g, 0, none⟩) n c1) n (zs'.map (Value.int .u8)) ∧ Below w.heap.size w wr ∧ Bst zs zs' (8 * zs.length - at_) k) (fun i _ => 32 - (intOf i).toNat)
  case atStart => exact ⟨0, zs, by omega, by omega, rfl, hown, hB, Bst.start _ _ HZ.out⟩
  case round =>
    clear hown hB
    obtain ⟨k, zs', hk, hak, rfl, hown, hB, hst⟩ := hrel
    have hzl : zs'.length = n := by rw [hst.1, HL.out]
    have HZL := Lib.hid hzl
    have HST := Lib.hid hst
    clear hst hzl
    by_cases hlt2 : k < 32 ∧ at_ + k < 8 * n
    · obtain ⟨hk1, hk2⟩ := hlt2
      have hj : (at_ + k) / 8 < n := by omega
      have hc := hown.cellAt ((at_ + k) / 8) (by omega)
      have hf := hown.frozenAt ((at_ + k) / 8)
      obtain ⟨y, hy⟩ : ∃ y, y = zs'.getD ((at_ + k) / 8) 0 := ⟨_, rfl⟩
      have hcx : wr.cell? ⟨g, (at_ + k) / 8, none⟩ = some (.int .u8 y) := by
        rw [hc, hy]
        have := HZL.out
        simp [List.getD, List.getElem?_eq_getElem (show (at_ + k) / 8 < zs'.length by omega)]
      have hyb : 0 ≤ y ∧ y ≤ 255 := by
        rw [hy]
        apply HST.out.2.1
        have := HZL.out
        simp only [List.getD, List.getElem?_eq_getElem (show (at_ + k) / 8 < zs'.length by omega)]
        exact List.getElem_mem _
      have HY := Lib.hid hy
      have HYB := Lib.hid hyb
      clear hc hy hyb
      have d1 : decide ((k : Int) < 32) = true := by simp; omega
      have d2 : decide ((at_ : Int) + (k : Int) < 8 * (n : Int)) = true := by simp; omega
      go_wp2
      go_roundw
      case rel =>
        refine ⟨k + 1, zs'.set ((at_ + k) / 8) (tb (bits .and .i64 (M / 2 ^ k) 1) ((at_ + k) % 8) y), by omega, by omega, by go_num, ?_, hB.setCell (by have := own_form hown hn0; obtain ⟨g', cap', hv, hg', _⟩ := this; cases hv; exact hg') _, ?_⟩
        · rw [List.map_set]
          exact (hown.stored _ _).1
        · rcases and1 (M / 2 ^ k) with e | e
          · have hk0 : 0 < k := by
              by_cases h0 : k = 0
              · subst h0; rw [HO.out] at e; cases e
              · omega
            rw [e, tb_zero _ _ HYB.out.1 HYB.out.2]
            have es : zs'.set ((at_ + k) / 8) y = zs' := by
              rw [HY.out]
              have := HZL.out
              apply List.ext_getElem
              · simp
              · intro i h1 h2
                rw [List.getElem_set]
                split
                · rename_i e; subst e; simp [List.getD, List.getElem?_eq_getElem h2]
                · rfl
            rw [es]
            exact HST.out.skip hk0
          · rw [e]
            obtain ⟨t1, t2, t3⟩ := tb_one ((at_ + k) % 8) (by omega) y HYB.out.1 HYB.out.2
            exact HST.out.turn hk1 (by rw [HL.out]; exact hk2) HY.out.symm t1 ⟨t2, t3⟩
      case measure => simp [intOf]; omega
    · have hkp : 0 < k := by
        by_cases h0 : k = 0
        · subst h0; exfalso; exact hlt2 ⟨by omega, by omega⟩
        · omega
      by_cases hk32 : k = 32
      · have d1 : decide ((k : Int) < 32) = false := by rw [hk32]; rfl
        have HK := Lib.hid hk32
        clear hk32
        go_wp2
        go_ret
        exact ⟨_, _, zs', _, k, rfl, ⟨hown, hB⟩, HST.out, hkp⟩
      · have d1 : decide ((k : Int) < 32) = true := by simp; omega
        have d2 : decide ((at_ : Int) + (k : Int) < 8 * (n : Int)) = false := by
          have : ¬ at_ + k < 8 * n := fun h => hlt2 ⟨by omega, h⟩
          simp; omega
        go_wp2
        go_ret
        exact ⟨_, _, zs', _, k, rfl, ⟨hown, hB⟩, HST.out, hkp⟩

/-- of no bytes nothing is turned -/
theorem burst_none (A : Option Addr) (c : Nat) (x mask : Int) (w : World) (hA : A = none → c = 0) :
    Calls Try.prog 29 #[.slice A 0 c, .int .i64 x, .int .i64 mask] w fun e w' => ∃ A' c', e = .returned (.slice A' 0 c') ∧ NewBytes w w' A' 0 c' [] := by
  have kb := bytes_any A 0 c [] w (Ints.nil _ _ _) (fun e => ⟨rfl, hA e⟩) (by omega)
  have Kb := Lib.hid kb
  clear kb hA
  go_enter Try.func29, Try.ntmps29
  go_wp2_with fail
  refine Kb.out.mono ?_
  rintro e w1 ⟨A1, c1, rfl, hown⟩
  go_wp2_with fail
  go_ret
  exact ⟨A1, c1, rfl, hown⟩
end Go.Proofs.Ytccebaadpjflkaa
