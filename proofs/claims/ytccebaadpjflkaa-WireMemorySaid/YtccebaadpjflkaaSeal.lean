/- The contracts of sum.Seal and sum.Open. -/
import Derived.Test.YtccebaadpjflkaaProg
import Derived.Test.YtccebaadpjflkaaBytes
set_option linter.unusedVariables false
namespace Go.Proofs.Ytccebaadpjflkaa
open Go.RowKit Crc

/-- the lowest k bytes of s, the lowest first -/
def leTo (s k : Nat) : List Int := (List.range k).map fun j => ((s / 256 ^ j % 256 : Nat) : Int)
theorem leTo_succ (s k : Nat) : leTo s (k + 1) = leTo s k ++ [((s / 256 ^ k % 256 : Nat) : Int)] := by simp [leTo, List.range_succ]
theorem leTo_len (s k : Nat) : (leTo s k).length = k := by simp [leTo]
theorem leTo_in (s k : Nat) : ∀ z ∈ leTo s k, 0 ≤ z ∧ z ≤ 255 := by
  intro z hz
  obtain ⟨j, _, rfl⟩ := List.mem_map.1 hz
  omega

/-- bytes with their sum behind them -/
def sealed (zs : List Int) : List Int := zs ++ leTo (sumFrom 0#32 zs).toNat 4

set_option maxRecDepth 100000 in
set_option maxHeartbeats 1000000 in
theorem seal_any (A : Option Addr) (n c : Nat) (zs : List Int) (w : World) (h : Ints w .u8 A n zs) (hA : A = none → n = 0 ∧ c = 0) (hn : n ≤ 140737488351232) (hz : ∀ z ∈ zs, 0 ≤ z ∧ z ≤ 255) :
    Calls Try.prog 31 #[.slice A n c] w fun e w' => ∃ A' c', e = .returned (.slice A' (n + 4) c') ∧ NewBytes w w' A' (n + 4) c' (sealed zs) := by
  obtain ⟨i0, hi, hz0, hz1, hz2⟩ := info_parts infoByte
  have K := fun W (h' : Ints W .u8 A n zs) => Lib.hid (sum_any A n c zs W h' hz (by omega))
  have H := Lib.hid h
  have HA := Lib.hid hA
  have HZ := Lib.hid hz
  unfold sealed
  have hlt := (sumFrom 0#32 zs).isLt
  generalize (sumFrom 0#32 zs).toNat = s0 at *
  clear h hA hz
  go_enter Try.func31, Try.ntmps31
  go_wp2_with fail
  refine ((K _ H.out).out).mono ?_
  rintro e w1 ⟨rfl, hB1⟩
  have H1 := Lib.hid (H.out.next hB1)
  have hs1 := hB1.size
  go_wp2_with (first
    | (at_make; refine wpList_make_own _ rfl _ _ 58 rfl w.heap.size 5 i0 (.int .u8 0) 1 Try.underlying58 hi hz0 hz1 .i64 .i64 _ (n + 4) rfl rfl (by omega) (by rw [hz2]; omega) (by unfold maxLen; omega) (by omega) ?_; intro w2 hown2 hg2)
    | (at_builtin; refine wpList_append_ints rfl (.tmp 11) (.tmp 12) 58 rfl w.heap.size 5 i0 (.int .u8 0) .u8 1 Try.underlying58 hi hz0 hz1 hz2 rfl _ 0 [] rfl hown2 A n c zs rfl HA.out (H1.out.next ((Below.refl _ _).grown hg2 (Nat.le_refl _) (fun j hj => by cases hj))) (by unfold maxLen; omega) (by omega) (by have := hown2.lt _ rfl; omega) ?_; intro v3 w3 hown3 hg3))
  simp only [Nat.zero_add, List.nil_append] at hown3
  have hb2 := hown2.lt _ rfl
  have B3 : Below w.heap.size w w3 := (hB1.grown hg2 (by omega) (fun j hj => by cases hj)).grown hg3 (by have := hg2.size; omega) (fun j hj => (hown2.lt j hj).1)
  clear hown2 hg2 hg3 hb2
  go_loopw [4, 3, 14] (fun v s i wr => ∃ k : Nat, k ≤ 4 ∧ i = .int .i64 (k : Nat) ∧ s = .int .i64 ((s0 / 256 ^ k : Nat) : Int) ∧ wr.ownsRow w.heap.size 5 1 v (n + k) ((zs ++ leTo s0 k).map (Value.int .u8)) ∧ Below w.heap.size w wr) (fun _ _ i _ => 4 - (intOf i).toNat)
  case atStart => exact ⟨0, by omega, rfl, by simp, by simpa [leTo] using hown3, B3⟩
  case round =>
    obtain ⟨k, hk, rfl, rfl, hown, hB⟩ := hrel
    have hsz := hB.size
    have hqe : s0 / 256 ^ (k + 1) = s0 / 256 ^ k / 256 := by rw [Nat.pow_succ, Nat.div_div_eq_div_mul]
    have hle : s0 / 256 ^ k ≤ s0 := Nat.div_le_self _ _
    have hl1 := leTo_succ s0 k
    have HQ := Lib.hid hqe
    have HL := Lib.hid hl1
    clear hqe hl1
    by_cases hlt : k < 4
    · generalize hq : s0 / 256 ^ k = q at *
      have hq2 : q / 256 ≤ q := Nat.div_le_self _ _
      clear hq
      go_wp2_with (first
        | (at_builtin; refine wpList_append_own _ rfl (.tmp 16) (.tmp 19) 58 rfl w.heap.size 5 i0 (.int .u8 0) 1 1 Try.underlying58 hi hz0 hz1 hz2 rfl (by decide) _ _ _ rfl (hown.alloc _) ⟨wr.heap.size, 0, none⟩ 1 1 [.int .u8 ((q % 256 : Nat) : Int)] rfl rfl (cell_one_new _ _ _) (by intro u hu; simp at hu; subst hu; rfl) (by unfold maxLen; omega) (by omega) (by simp; omega) ?_; intro v1 w4 hown1 hgrow1 hnil1))
      go_roundw
      case rel => exact ⟨k + 1, by omega, by go_num, by rw [HQ.out]; go_num, by rw [HL.out]; simpa [← Nat.add_assoc] using hown1, (hB.alloc (by omega) _).grown hgrow1 (by simp; omega) (fun j hj => (hown.lt j hj).1)⟩
      case measure => simp [intOf]; omega
    · obtain rfl : k = 4 := by omega
      clear HQ HL
      go_wp2_with fail
      obtain ⟨A1, c1, rfl⟩ := own_shape hown
      go_ret
      exact ⟨A1, c1, rfl, hown, hB⟩
end Go.Proofs.Ytccebaadpjflkaa
