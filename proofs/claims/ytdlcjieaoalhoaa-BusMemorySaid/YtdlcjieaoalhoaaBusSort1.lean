/- SortStableFunc of at most one row. -/
import Derived.Test.YtdlcjieaoalhoaaBusStep
set_option linter.unusedVariables false
namespace Go.Proofs.Ytdlcjieaoalhoaa.Bs
open Go.RowKit Go.Proofs.Ytdlcjieaoalhoaa Crc Sm

set_option maxRecDepth 100000 in
theorem insertion1_any (A : Option Addr) (n c : Nat) (f : Value) (hn : n ≤ 1) (w : World) :
    Calls Try.prog 33 #[.slice A n c, .int .i64 0, .int .i64 n, f] w fun e w' => e = .returned (.tuple #[]) ∧ w' = w := by
  have q1 : ((1 : Int) < (n : Int)) = False := by simp; omega
  go_enter Try.func33, Try.ntmps33
  go_wp2_with fail
  go_loopw [8] (fun i wr => i = .int .i64 1 ∧ wr = w) (fun i _ => 0)
  case atStart => exact ⟨rfl, rfl⟩
  case round =>
    obtain ⟨rfl, rfl⟩ := hrel
    go_wp2_with fail
    go_end0
    exact ⟨rfl, rfl⟩

set_option maxRecDepth 100000 in
theorem stable1_any (A : Option Addr) (n c : Nat) (f : Value) (hn : n ≤ 1) (w : World) :
    Calls Try.prog 29 #[.slice A n c, .int .i64 n, f] w fun e w' => e = .returned (.tuple #[]) ∧ w' = w := by
  have K := Lib.hid (fun W => insertion1_any A n c f hn W)
  have q1 : ((20 : Int) ≤ (n : Int)) = False := by simp; omega
  have q2 : ((20 : Int) < (n : Int)) = False := by simp; omega
  go_enter Try.func29, Try.ntmps29
  go_wp2_with fail
  go_loopw [7, 8] (fun a b wr => a = .int .i64 0 ∧ b = .int .i64 20 ∧ wr = w) (fun _ _ _ => 0)
  case atStart => exact ⟨rfl, rfl, rfl⟩
  case round =>
    obtain ⟨rfl, rfl, rfl⟩ := hrel
    go_wp2_with (first | (go_at_call 33; (with_reducible refine (K.out _).mono ?_); rintro e w2 ⟨rfl, rfl⟩))
    go_loopw [6] (fun a wr => a = .int .i64 20 ∧ wr = w2) (fun _ _ => 0)
    case atStart => exact ⟨rfl, rfl⟩
    case round =>
      obtain ⟨rfl, rfl⟩ := hrel
      go_wp2_with fail
      go_end0
      exact ⟨rfl, rfl⟩

set_option maxRecDepth 100000 in
theorem sorts1 (M : List Pc) (hM : M.length ≤ 1) : Sorts (fun M M' => M' = M) M := by
  intro W b v hb hown
  obtain ⟨A, c, rfl⟩ := own_shape hown
  have K := Lib.hid (fun W => stable1_any A M.length c (.func (.func 22) #[] #[]) hM W)
  have HO := Lib.hid hown
  clear hown
  go_enter Try.func21, Try.ntmps21
  go_wp2_with (first | (go_at_call 29; (with_reducible refine (K.out _).mono ?_); rintro e w2 ⟨rfl, rfl⟩))
  go_end0
  exact ⟨rfl, M, List.Perm.refl _, rfl, HO.out, grown_refl _ _⟩
end Go.Proofs.Ytdlcjieaoalhoaa.Bs
