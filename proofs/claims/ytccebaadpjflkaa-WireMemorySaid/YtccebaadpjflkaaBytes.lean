/- The contracts of the small helpers on bytes: bytes, sums. -/
import Derived.Test.YtccebaadpjflkaaProg
import Derived.Test.YtccebaadpjflkaaSum
import Derived.Test.YtccebaadpjflkaaAppend
import Derived.Lib.SlBytesConst
set_option linter.unusedVariables false
namespace Go.Proofs.Ytccebaadpjflkaa
open Go.RowKit Crc

theorem infoByte : (Try.prog.info? 5).map (fun i => (i.zero, i.size, i.bytes)) = some (some (.int .u8 0), 1, 1) := by kernel_rfl

/-- a new list of bytes -/
def NewBytes (w w' : World) (A : Option Addr) (n c : Nat) (zs : List Int) : Prop :=
  w'.ownsRow w.heap.size 5 1 (.slice A n c) n (zs.map (Value.int .u8)) ∧ Below w.heap.size w w'

theorem bytes_any (A : Option Addr) (n c : Nat) (zs : List Int) (w : World) (h : Ints w .u8 A n zs) (hA : A = none → n = 0 ∧ c = 0) (hn : n ≤ 140737488355328) :
    Calls Try.prog 28 #[.slice A n c] w fun e w' => ∃ A' c', e = .returned (.slice A' n c') ∧ NewBytes w w' A' n c' zs := by
  obtain ⟨i0, hi, hz0, hz1, hz2⟩ := info_parts infoByte
  have H := Lib.hid h
  have HA := Lib.hid hA
  clear h hA
  go_enter Try.func28, Try.ntmps28
  go_wp2_with (at_builtin; refine wpList_append_ints rfl _ _ 58 rfl w.heap.size 5 i0 (.int .u8 0) .u8 1 Try.underlying58 hi hz0 hz1 hz2 rfl _ 0 [] rfl (World.ownsRow_nil _ _ _ _) A n c zs rfl HA.out H.out (by unfold maxLen; omega) (by omega) (Nat.le_refl _) ?_; intro v1 w1 hown1 hg1)
  simp only [Nat.zero_add, List.nil_append] at hown1
  obtain ⟨A1, c1, rfl⟩ := own_shape hown1
  go_ret
  exact ⟨A1, c1, rfl, hown1, (Below.refl _ _).grown hg1 (Nat.le_refl _) (fun j hj => by cases hj)⟩

theorem digits_sum : (sumFrom 0#32 [49, 50, 51, 52, 53, 54, 55, 56, 57]).toNat = 3421780262 := by decide +kernel

set_option maxRecDepth 100000 in
theorem sums_any (w : World) : Calls Try.prog 35 #[] w fun e w' => e = .returned (.bool true) ∧ Below w.heap.size w w' := by
  have k := fun (W : World) => sum_any (some ⟨W.heap.size, 0, none⟩) 9 9 [49, 50, 51, 52, 53, 54, 55, 56, 57] (W.alloc (.cells #[.int .u8 49, .int .u8 50, .int .u8 51, .int .u8 52, .int .u8 53, .int .u8 54, .int .u8 55, .int .u8 56, .int .u8 57] 5 (9, 10)))
    ⟨rfl, fun _ => ⟨W.heap.size, 0, rfl, by simp, fun j hj => by
      rw [Nat.zero_add, World.cell?_alloc_mark]
      match j, hj with
      | 0, _ => rfl
      | 1, _ => rfl
      | 2, _ => rfl
      | 3, _ => rfl
      | 4, _ => rfl
      | 5, _ => rfl
      | 6, _ => rfl
      | 7, _ => rfl
      | 8, _ => rfl⟩⟩ (by decide) (by decide)
  rw [digits_sum] at k
  have K := Lib.hid k
  clear k
  have kc := fun (w : World) (C : Array Value) (n c : Nat) => Lib.run_convert_bytes_const (P := Try.prog) w 58 5 C n c Try.underlying58 Try.underlying5
  go_enter Try.func35, Try.ntmps35
  go_wp2_with fail
  refine (K.out _).mono ?_
  rintro e w1 ⟨rfl, hB1⟩
  go_wp2_with fail
  go_ret
  exact ⟨rfl, below_one hB1⟩
end Go.Proofs.Ytccebaadpjflkaa
