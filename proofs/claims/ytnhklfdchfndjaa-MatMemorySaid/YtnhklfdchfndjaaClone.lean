/- slices.Clone and slices.Clip at []int. -/
import Derived.Test.YtnhklfdchfndjaaFactorBad
import Derived.Deep.QuietTactic
import Derived.Lib.SliceRun
set_option linter.unusedVariables false
namespace Go.Proofs.Ytnhklfdchfndjaa.Mt
open Go.RowKit Go.Proofs.Ytnhklfdchfndjaa Fx

set_option maxRecDepth 100000 in
set_option maxHeartbeats 2000000 in
theorem Clone_any (A : Option Addr) (n c : Nat) (zs : List Int) (w : World) (h : Ints w .i64 A n zs) (hn : 0 < n) (h63 : n * 8 ≤ 140737488355328) :
    Calls Try.prog 31 #[.slice A n c] w fun e w' => ∃ v', e = .returned v' ∧ w'.ownsRow w.heap.size 3 1 v' n (zs.map (Value.int .i64)) ∧ Below w.heap.size w w' := by
  obtain ⟨i0, hi, hz0, hz1, hz2⟩ := info_parts infoIntF
  obtain ⟨g, off, rfl, _, _⟩ := h.2 hn
  have H := Lib.hid (h.alloc (.cells #[] 3))
  have q22 : ∀ (w : World) (a : Option Addr) (n c n' c' : Nat), (binOp .eql 28 (.slice a n c) (.slice none n' c')).run Try.prog w = .ok (.bool a.isNone) w := fun w a n c n' c' => Lib.run_eql_slice_nil w _ _ a n c n' c' Try.underlying28
  clear h
  go_enter Try.func31, Try.ntmps31
  go_wp2_with (at_builtin; refine wpList_append_ints rfl _ _ 28 rfl w.heap.size 3 i0 (.int .i64 0) .i64 8 Try.underlying28 hi hz0 hz1 hz2 rfl _ 0 [] rfl (World.ownsRow_made w #[] 0 (Nat.le_refl _) (Nat.zero_le _) rfl) (some ⟨g, off, none⟩) n c zs rfl (fun e => by cases e) H.out (by unfold maxLen; omega) (by omega) (by simp) ?_; intro v1 w1 hown1 hg1; (simp only [Nat.zero_add, List.nil_append] at hown1))
  go_ret
  refine ⟨_, rfl, hown1, ((Below.refl _ w).alloc (Nat.le_refl _) _).grown hg1 (by simp) (fun k hk => by have h2 : some w.heap.size = some k := hk; injection h2 with h2; omega)⟩

set_option maxRecDepth 100000 in
set_option maxHeartbeats 2000000 in
theorem Clip_any (A : Option Addr) (n c : Nat) (hn : n ≤ c) (hc : c ≤ 9223372036854775807) (h0 : 0 < n) (hA : A ≠ none) (w : World) :
    Calls Try.prog 33 #[.slice A n c] w fun e w' => e = .returned (.slice A n n) ∧ w' = w := by
  obtain ⟨i0, hi, hz0, hz1, hz2⟩ := info_parts infoIntF
  cases A with
  | none => exact absurd rfl hA
  | some ad =>
    have t0 : ¬ n = 0 := by omega
    have hsl : ∀ W : World, (Instr.slice 28 (.slice (some ad) n c) none (some (.int .i64 (n : Int))) (some (.int .i64 (n : Int)))).run Try.prog W = .ok (.slice (some ad) n n) W := by
      intro W
      have e1 : (Instr.sliceBound (.int .i64 (n : Int)) c .slice3Acap).run Try.prog W = .ok n W := by
        have : (n : Int) ≤ c := by omega
        simp [Instr.sliceBound, asIntOf, this, go_sem]
      have e2 : (Instr.sliceBound (.int .i64 (n : Int)) n .slice3B).run Try.prog W = .ok n W := by
        simp [Instr.sliceBound, asIntOf, go_sem]
      have e3 : (if n = 0 then (some ad) else (some ad).map (·.add (0 * i0.size))) = some ad := by
        simp [t0, Addr.add]
      simp [Instr.slice, Instr.sliceBounds, run_underlying Try.underlying28, sizeOf, typeInfo, hi, e1, e2]
      intro _
      simp [Addr.add]
    go_enter Try.func33, Try.ntmps33
    go_wp2_with fail
    go_ret
    exact ⟨rfl, rfl⟩
end Go.Proofs.Ytnhklfdchfndjaa.Mt
