/- A matrix that came in. -/
import Derived.Test.YtnhklfdchfndjaaMatStands
import Derived.Test.YtnhklfdchfndjaaOpen
import Derived.Lib.SmallJoins
set_option linter.unusedVariables false
namespace Go.Proofs.Ytnhklfdchfndjaa.Mt
open Go.RowKit Go.Proofs.Ytnhklfdchfndjaa Fx Go.ChangeShapes Go.WideShapes Go.Joins

set_option maxRecDepth 100000 in
theorem mat_in {H : Type} {enc : TypeId × Value → H} {W : World} {base : Nat} {v : Value} {d : DataW H} {p : List MemPlace} (h : Value.okWide Try.prog W .any base 30 v)
    (k : DataW.Trod enc Try.prog W 0 (fun _ => true) true 30 v d p) (hw : ∀ x ∈ d.weights Try.prog 30, x ≤ reachBytes) :
    ∃ (N : Int) (A : Option Addr) (n c : Nat) (zs : List Int), v = .agg #[.int .i64 N, .slice A n c] ∧ In N ∧ Ints W .i64 A n zs ∧ (∀ z ∈ zs, In z) ∧ (A = none → n = 0 ∧ c = 0) ∧ n ≤ c ∧ n * 8 ≤ 140737488351232 := by
  obtain ⟨l, hl1, hl2, hl3⟩ := ok_agg (.inl ⟨_, Try.underlying30⟩) (ts := [3, 28]) (by kernel_rfl) (by kernel_rfl) h
  obtain ⟨v0, v1, y0, y1, m, rfl, rfl, _, k0, k1⟩ := open_agg2 Try.underlying30 (by kernel_rfl) (by kernel_rfl) h k
  have hl : l = [v0, v1] := by injection hl1 with hl1; simpa using congrArg Array.toList hl1.symm
  subst hl
  obtain ⟨N, rfl, iN⟩ := okCell_int Try.underlying3 (hl3 0 _ _ rfl rfl)
  obtain ⟨A, n, c, rfl, hnc, _, hA, _⟩ := okCell_slice Try.underlying28 (hl3 1 _ _ rfl rfl)
  have hb : Try.prog.bytesOf 3 = 8 := by kernel_rfl
  obtain ⟨zs, hI, hz, _, hr⟩ := ints_in Try.underlying28 Try.underlying3 (by kernel_rfl) (enc := enc) (d := y1.1) (p := y1.2) ⟨m, k1⟩ (by
    intro es sp he
    have hm := DataW.weights_mem_each (P := Try.prog) (ts := [3, 28]) (ds := [y0.1, y1.1]) (j := 1) rfl rfl ((es.length + sp.length) * Try.prog.bytesOf 3) (by rw [he]; simp [DataW.weights, Try.underlying28])
    refine hw _ ?_
    simp only [DataW.weights, Try.underlying30]
    exact hm)
  rw [hb] at hr
  unfold reachBytes at hr
  refine ⟨N, A, n, c, zs, rfl, in_of iN, hI, fun z h => ?_, hA, hnc, by omega⟩
  unfold In
  simpa [Lit.wf, IntKind.has, IntKind.min, IntKind.max, IntKind.signed, IntKind.bits] using hz z h
end Go.Proofs.Ytnhklfdchfndjaa.Mt
