/- The contracts of the small helpers on bytes: bytes, sums. -/
import Derived.Test.YtdlcjieaoalhoaaProg
import Derived.Test.YtdlcjieaoalhoaaSum
import Derived.Test.YtdlcjieaoalhoaaAppend
import Derived.Lib.SlBytesConst
set_option linter.unusedVariables false
namespace Go.Proofs.Ytdlcjieaoalhoaa
open Go.RowKit Crc

theorem infoByte : (Try.prog.info? 5).map (fun i => (i.zero, i.size, i.bytes)) = some (some (.int .u8 0), 1, 1) := by kernel_rfl

/-- a new list of bytes -/
def NewBytes (w w' : World) (A : Option Addr) (n c : Nat) (zs : List Int) : Prop :=
  w'.ownsRow w.heap.size 5 1 (.slice A n c) n (zs.map (Value.int .u8)) ∧ Below w.heap.size w w'

theorem bytes_any (A : Option Addr) (n c : Nat) (zs : List Int) (w : World) (h : Ints w .u8 A n zs) (hA : A = none → n = 0 ∧ c = 0) (hn : n ≤ 140737488355328) :
    Calls Try.prog 19 #[.slice A n c] w fun e w' => ∃ A' c', e = .returned (.slice A' n c') ∧ NewBytes w w' A' n c' zs := by
  obtain ⟨i0, hi, hz0, hz1, hz2⟩ := info_parts infoByte
  have H := Lib.hid h
  have HA := Lib.hid hA
  clear h hA
  go_enter Try.func19, Try.ntmps19
  go_wp2_with (at_builtin; refine wpList_append_ints rfl _ _ 33 rfl w.heap.size 5 i0 (.int .u8 0) .u8 1 Try.underlying33 hi hz0 hz1 hz2 rfl _ 0 [] rfl (World.ownsRow_nil _ _ _ _) A n c zs rfl HA.out H.out (by unfold maxLen; omega) (by omega) (Nat.le_refl _) ?_; intro v1 w1 hown1 hg1)
  simp only [Nat.zero_add, List.nil_append] at hown1
  obtain ⟨A1, c1, rfl⟩ := own_shape hown1
  go_ret
  exact ⟨A1, c1, rfl, hown1, (Below.refl _ _).grown hg1 (Nat.le_refl _) (fun j hj => by cases hj)⟩

theorem digits_sum : (sumFrom 0#32 [49, 50, 51, 52, 53, 54, 55, 56, 57]).toNat = 3421780262 := by decide +kernel

end Go.Proofs.Ytdlcjieaoalhoaa
