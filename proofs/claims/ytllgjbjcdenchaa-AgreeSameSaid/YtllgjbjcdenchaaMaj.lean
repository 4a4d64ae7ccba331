/- The contract of agree.Majority. -/
import Derived.Test.YtllgjbjcdenchaaProg
import Derived.Test.YtllgjbjcdenchaaKit
import Derived.Test.YtllgjbjcdenchaaMajPlain
set_option linter.unusedVariables false
namespace Go.Proofs.Ytllgjbjcdenchaa
open Go.RowKit Mj

set_option maxRecDepth 100000 in
set_option maxHeartbeats 1000000 in
theorem maj_any (A : Option Addr) (n c : Nat) (zs : List Int) (other : Int) (w : World) (h : Ints w .i64 A n zs) (hn : n ≤ 1152921504606846976) :
    Calls Try.prog 25 #[.slice A n c, .int .i64 other] w fun e w' => e = .returned (.int .i64 (maj zs other)) ∧ w = w' := by
  obtain ⟨hl, hc⟩ := h
  have HL := Lib.hid hl
  have HC := Lib.hid hc
  clear hl hc
  go_enter Try.func25, Try.ntmps25
  go_wp2
  go_loop [5, 6, 13] (fun t a i => ∃ k : Nat, k ≤ n ∧ i = .int .i64 (k : Nat) ∧ t = .int .i64 ((bm (zs.take k)).1 : Nat) ∧ a = .int .i64 (bm (zs.take k)).2 ∧ (bm (zs.take k)).1 ≤ k) (fun _ _ i => n - (intOf i).toNat)
  case atStart => exact ⟨0, Nat.zero_le _, rfl, rfl, rfl, Nat.le_refl _⟩
  case round =>
    obtain ⟨k, hk, rfl, rfl, rfl, hmk⟩ := hrel
    by_cases hlt : k < n
    · obtain ⟨b, off, rfl, hb, hcell⟩ := HC.out (by omega)
      have hcx := hcell k hlt
      have hs := bm_snoc zs k (by rw [HL.out]; exact hlt)
      have HS := Lib.hid hs
      clear hcell hs
      generalize zs.getD k 0 = x at *
      obtain ⟨s, hs⟩ : ∃ s, s = bm (zs.take k) := ⟨_, rfl⟩
      rw [← hs] at hmk HS
      rw [← hs]
      clear hs
      obtain ⟨m, a⟩ := s
      simp only at hmk
      by_cases hm : m = 0
      · subst hm
        go_wp2
        go_round
        case rel => exact ⟨k + 1, by omega, by go_num, by rw [HS.out]; rfl, by rw [HS.out]; rfl, by rw [HS.out]; simp [st]⟩
        case measure => simp [intOf]; omega
      · have hm0 : ((m : Int) == 0) = false := by simpa using hm
        have HM := Lib.hid hm
        have hmp : 1 ≤ m := by omega
        clear hm
        by_cases hx : x = a
        · have hxa : (x == a) = true := by simpa using hx
          have HX := Lib.hid hx
          clear hx
          go_wp2
          go_round
          case rel =>
            have e : st (m, a) x = (m + 1, a) := by simp [st, HM.out, HX.out]
            exact ⟨k + 1, by omega, by go_num, by rw [HS.out, e]; go_num, by rw [HS.out, e], by rw [HS.out, e]; show m + 1 ≤ k + 1; omega⟩
          case measure => simp [intOf]; omega
        · have hxa : (x == a) = false := by simpa using hx
          have HX := Lib.hid hx
          clear hx
          go_wp2
          go_round
          case rel =>
            have e : st (m, a) x = (m - 1, a) := by simp [st, HM.out, HX.out]
            exact ⟨k + 1, by omega, by go_num, by rw [HS.out, e]; show Value.int .i64 ((m : Int) - 1) = .int .i64 ((m - 1 : Nat) : Int); congr 1; omega, by rw [HS.out, e], by rw [HS.out, e]; show m - 1 ≤ k + 1; omega⟩
          case measure => simp [intOf]; omega
    · obtain rfl : k = n := by omega
      have et : zs.take k = zs := List.take_of_length_le (by rw [HL.out]; exact Nat.le_refl _)
      rw [et]
      obtain ⟨a, ha⟩ : ∃ a, a = (bm zs).2 := ⟨_, rfl⟩
      rw [← ha]
      have HA := Lib.hid ha
      clear et ha
      go_wp2
      go_loop [5, 32] (fun t i => ∃ j : Nat, j ≤ k ∧ i = .int .i64 (j : Nat) ∧ t = .int .i64 (cn a (zs.take j) : Nat)) (fun _ i => k - (intOf i).toNat)
      case atStart => exact ⟨0, Nat.zero_le _, rfl, rfl⟩
      case round =>
        obtain ⟨j, hj, rfl, rfl⟩ := hrel
        have hcj : cn a (zs.take j) ≤ j := Nat.le_trans (cn_le _ _) (List.length_take_le _ _)
        by_cases hjl : j < k
        · obtain ⟨b, off, rfl, hb, hcell⟩ := HC.out (by omega)
          have hcx := hcell j hjl
          have hs := cn_snoc a zs j (by rw [HL.out]; exact hjl)
          generalize zs.getD j 0 = x at *
          have HS := Lib.hid hs
          clear hcell hs
          by_cases hx : x = a
          · have hxa : (x == a) = true := by simpa using hx
            have HX := Lib.hid hx
            clear hx
            go_wp2
            go_round
            case rel => exact ⟨j + 1, by omega, by go_num, by rw [HS.out, if_pos HX.out]; go_num⟩
            case measure => simp [intOf]; omega
          · have hxa : (x == a) = false := by simpa using hx
            have HX := Lib.hid hx
            clear hx
            go_wp2
            go_round
            case rel => exact ⟨j + 1, by omega, by go_num, by rw [HS.out, if_neg HX.out]⟩
            case measure => simp [intOf]; omega
        · obtain rfl : j = k := by omega
          have et : zs.take j = zs := List.take_of_length_le (by rw [HL.out]; exact Nat.le_refl _)
          rw [et] at hcj
          rw [et]
          clear et
          by_cases hm : j < 2 * cn a zs
          · go_wp2
            go_ret
            exact ⟨ret_i64 (by unfold maj; rw [← HA.out, HL.out, if_pos hm]), rfl⟩
          · go_wp2
            go_ret
            exact ⟨ret_i64 (by unfold maj; rw [← HA.out, HL.out, if_neg hm]), rfl⟩
end Go.Proofs.Ytllgjbjcdenchaa
