/- The contract of sum.Open. -/
import Derived.Test.YtccebaadpjflkaaProg
import Derived.Test.YtccebaadpjflkaaSeal
set_option linter.unusedVariables false
namespace Go.Proofs.Ytccebaadpjflkaa
open Go.RowKit Crc

/-- the number that the last bytes of the four behind place m make, k of them -/
def tailTo (zs : List Int) (m : Nat) : Nat → Nat
  | 0 => 0
  | k + 1 => tailTo zs m k * 256 + (zs.getD (m + (3 - k)) 0).toNat
theorem tailTo_lt (zs : List Int) (m k : Nat) (hz : ∀ z ∈ zs, 0 ≤ z ∧ z ≤ 255) : tailTo zs m k < 256 ^ k := by
  induction k with
  | zero => simp [tailTo]
  | succ k ih =>
    have h : (zs.getD (m + (3 - k)) 0).toNat < 256 := by
      by_cases hl : m + (3 - k) < zs.length
      · have := hz _ (List.getElem_mem hl)
        simp only [List.getD, List.getElem?_eq_getElem hl, Option.getD_some]
        omega
      · simp only [List.getD, List.getElem?_eq_none (Nat.le_of_not_lt hl), Option.getD_none]
        decide
    rw [Nat.pow_succ]
    unfold tailTo
    omega

theorem or_byte (a : Nat) (b : Int) (ha : a < 4294967296) (h0 : 0 ≤ b) (h1 : b ≤ 255) : bits .or .i64 ((a : Int) * 256) b = ((a * 256 + b.toNat : Nat) : Int) := by
  obtain ⟨b, rfl⟩ := Int.eq_ofNat_of_zero_le h0
  have key : ∀ x y, bits .or .i64 x y = IntKind.i64.wrap (((BitVec.ofInt 64 x ||| BitVec.ofInt 64 y).toNat : Nat) : Int) := fun _ _ => rfl
  have e1 : (BitVec.ofInt 64 ((a : Int) * 256)).toNat = a <<< 8 := by
    rw [BitVec.toNat_ofInt, Nat.shiftLeft_eq]; omega
  have e2 : (BitVec.ofInt 64 (b : Int)).toNat = b := by
    rw [BitVec.toNat_ofInt]; omega
  rw [key, BitVec.toNat_or, e1, e2, ← Nat.shiftLeft_add_eq_or_of_lt (by omega), Nat.shiftLeft_eq]
  rw [IntWalk.i64_in _ (by omega)]
  omega

/-- what Open answers: the list ahead of the sum if the sum is right -/
def Opened (zs : List Int) (w w' : World) (e : Ending) : Prop :=
  (4 ≤ zs.length ∧ tailTo zs (zs.length - 4) 4 = (sumFrom 0#32 (zs.take (zs.length - 4))).toNat ∧ ∃ A' c', e = .returned (.tuple #[.slice A' (zs.length - 4) c', .bool true]) ∧ NewBytes w w' A' (zs.length - 4) c' (zs.take (zs.length - 4))) ∨
  ((4 ≤ zs.length → tailTo zs (zs.length - 4) 4 ≠ (sumFrom 0#32 (zs.take (zs.length - 4))).toNat) ∧ e = .returned (.tuple #[.slice none 0 0, .bool false]) ∧ Below w.heap.size w w')

set_option maxRecDepth 100000 in
set_option maxHeartbeats 1000000 in
theorem open_any (A : Option Addr) (n c : Nat) (zs : List Int) (w : World) (h : Ints w .u8 A n zs) (hA : A = none → n = 0 ∧ c = 0) (hnc : n ≤ c) (hn : n ≤ 140737488355328) (hz : ∀ z ∈ zs, 0 ≤ z ∧ z ≤ 255) :
    Calls Try.prog 32 #[.slice A n c] w fun e w' => Opened zs w w' e := by
  obtain ⟨i0, hi, hz0, hz1, hz2⟩ := info_parts infoByte
  obtain rfl : zs.length = n := h.1
  by_cases h4 : 4 ≤ zs.length
  · obtain ⟨m, hm⟩ : ∃ m, zs.length = m + 4 := ⟨zs.length - 4, by omega⟩
    unfold Opened
    obtain ⟨r1, s1⟩ := cut_to (P := Try.prog) (kd := .i64) Try.underlying58 hi h (show m ≤ zs.length by omega) hnc
    have K := fun W (h' : Ints W .u8 A m (zs.take m)) => Lib.hid (sum_any A m c (zs.take m) W h' (fun z h2 => hz z (List.mem_of_mem_take h2)) (by omega))
    have ht := fun k => tailTo_lt zs m k hz
    obtain ⟨b, off, rfl, hlt, hcell⟩ := h.2 (by omega)
    have hx : ∀ k, k < 4 → w.cell? ⟨b, off + (m + (3 - k)), none⟩ = some (.int .u8 (zs.getD (m + (3 - k)) 0)) ∧ 0 ≤ zs.getD (m + (3 - k)) 0 ∧ zs.getD (m + (3 - k)) 0 ≤ 255 := by
      intro k hk
      refine ⟨hcell _ (by omega), ?_⟩
      simp only [List.getD, List.getElem?_eq_getElem (show m + (3 - k) < zs.length by omega)]
      exact hz _ (List.getElem_mem _)
    have H := Lib.hid h
    have S1 := Lib.hid s1
    have HX := Lib.hid hx
    have HT := Lib.hid ht
    have HE := Lib.hid (show ∀ k, tailTo zs m (k + 1) = tailTo zs m k * 256 + (zs.getD (m + (3 - k)) 0).toNat from fun k => rfl)
    have h00 : tailTo zs m 0 = 0 := rfl
    have hm4 : zs.length - 4 = m := by omega
    rw [hm4]
    have hw4 : ((zs.length : Int) - 4) = (m : Int) := by omega
    have HM := Lib.hid hm
    generalize zs.length = n at *
    generalize (sumFrom 0#32 (zs.take m)).toNat = S at *
    clear h s1 hx ht hcell hz hA hm
    have HM := HM.out
    subst HM
    generalize hT : tailTo zs m = T at *
    clear hT
    go_enter Try.func32, Try.ntmps32
    go_wp2_with fail
    go_loop [5, 6] (fun s i => ∃ k : Nat, k ≤ 4 ∧ i = .int .i64 (3 - (k : Int)) ∧ s = .int .i64 ((T k : Nat) : Int)) (fun _ i => (intOf i + 1).toNat)
    case atStart => exact ⟨0, by omega, rfl, by rw [h00]; rfl⟩
    case round =>
      obtain ⟨k, hk, rfl, rfl⟩ := hrel
      by_cases hk4 : k < 4
      · obtain ⟨hc, hy0, hy1⟩ := HX.out k hk4
        have hts := HE.out k
        have htk := HT.out k
        have hp : 256 ^ k ≤ 16777216 := Nat.le_trans (Nat.pow_le_pow_right (by decide) (show k ≤ 3 by omega)) (by decide)
        have hlt2 : T k < 4294967296 := by omega
        generalize zs.getD (m + (3 - k)) 0 = y at *
        have hob := or_byte (T k) y hlt2 hy0 hy1
        rw [← hts] at hob
        generalize hT1 : T (k + 1) = t1 at *
        generalize T k = t0 at *
        clear hts htk hp
        go_wp2
        go_round
        case rel => exact ⟨k + 1, by omega, by go_num, by go_num⟩
        case measure => simp [intOf]; omega
      · obtain rfl : k = 4 := by omega
        simp only [Int.cast_ofNat_Int, Int.reduceSub]
        have R1 := Lib.hid r1
        generalize hT4 : T 4 = t4 at *
        have HT4 := Lib.hid hT4
        clear hT4
        by_cases hs : t4 = S
        · subst hs
          have hb : (((t4 : Nat) : Int) != ((t4 : Nat) : Int)) = false := by simp
          go_wp2_with fail
          refine ((K _ (S1.out.next (Below.refl _ _))).out).mono ?_
          rintro e w1 ⟨rfl, hB1⟩
          have H1 := Lib.hid (S1.out.next hB1)
          go_wp2_with (at_builtin; refine wpList_append_ints rfl (.tmp 32) (.tmp 35) 58 rfl w.heap.size 5 i0 (.int .u8 0) .u8 1 Try.underlying58 hi hz0 hz1 hz2 rfl _ 0 [] rfl (World.ownsRow_made w1 #[] 0 (by have := hB1.size; omega) (by unfold maxLen; omega) rfl) (some ⟨b, off, none⟩) m c (zs.take m) rfl (by simp) (H1.out.alloc _) (by unfold maxLen; omega) (by omega) (by have := hB1.size; simp; omega) ?_; intro v2 w2 hown2 hg2)
          simp only [Nat.zero_add, List.nil_append] at hown2
          obtain ⟨A1, c1, rfl⟩ := own_shape hown2
          go_ret2
          exact .inl ⟨by omega, HT4.out, A1, c1, rfl, hown2, (hB1.alloc hB1.size _).grown hg2 (by have := hB1.size; simp; omega) (fun j hj => by cases hj; exact hB1.size)⟩
        · have hb : (((t4 : Nat) : Int) != ((S : Nat) : Int)) = true := by rw [bne_iff_ne]; omega
          go_wp2_with fail
          refine ((K _ (S1.out.next (Below.refl _ _))).out).mono ?_
          rintro e w1 ⟨rfl, hB1⟩
          go_wp2_with fail
          go_ret2
          exact .inr ⟨fun _ => by rw [HT4.out]; exact hs, rfl, hB1⟩
  · unfold Opened
    have hlt : ((zs.length : Int) - 4) < 0 := by omega
    generalize zs.length = n at *
    clear h hA hz
    go_enter Try.func32, Try.ntmps32
    go_wp2_with fail
    go_ret2
    exact .inr ⟨fun h => absurd h h4, rfl, Below.refl _ _⟩
end Go.Proofs.Ytccebaadpjflkaa
