/- VClusterMemory, over merged texts. -/
import Derived.Test.YtofeoeknmlkjgaaYWClusterMemory
set_option linter.unusedVariables false
set_option linter.unusedSimpArgs false
section
/- The law of ClusterMemory over its walk. -/
set_option linter.unusedVariables false
namespace Go.Proofs.Ytofeoeknmlkjgaa.lawClusterMemory
open Go.RowKit Go.Proofs.Ytofeoeknmlkjgaa Nk Fi Go.ChangeShapes Go.WideShapes
set_option maxRecDepth 100000 in
theorem walk {H : Type} {enc : TypeId × Value → H} {d0 d1 : DataW H} {p0 p1 : List MemPlace} (v0 v1 : Value) (W : World) (base : Nat)
    (h0 : Value.okWide Try.prog W .any base 23 v0) (k0 : DataW.Trod enc Try.prog W 0 (fun _ => true) true 23 v0 d0 p0)
    (h1 : Value.okWide Try.prog W .any base 24 v1) (k1 : DataW.Trod enc Try.prog W 0 (fun _ => true) true 24 v1 d1 p1)
    (s0 : ∀ x ∈ d0.weights Try.prog 23, x ≤ reachBytes) (s1 : ∀ x ∈ d1.weights Try.prog 24, x ≤ reachBytes) :
    Calls Try.prog 7 #[v0, v1] W fun e w' => e = .returned (.bool true) ∧ Below W.heap.size W w' := by
  obtain ⟨t, rfl, ht⟩ := tuning_in h0
  obtain ⟨A, n, c, rfl, hnc, hc, _, _⟩ := ok_slice Try.underlying24 h1
  obtain ⟨L, hL, hb, hm⟩ := inputs_in2 k1 s1
  exact clmem_walk t ht A n c L W hL hb hm
end Go.Proofs.Ytofeoeknmlkjgaa.lawClusterMemory
end
