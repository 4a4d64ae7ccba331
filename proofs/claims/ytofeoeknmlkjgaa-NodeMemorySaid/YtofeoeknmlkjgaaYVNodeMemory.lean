/- VNodeMemory, over merged texts. -/
import Derived.Test.YtofeoeknmlkjgaaYWNodeMemory
set_option linter.unusedVariables false
set_option linter.unusedSimpArgs false
section
/- The law of NodeMemory over its walk. -/
set_option linter.unusedVariables false
namespace Go.Proofs.Ytofeoeknmlkjgaa.lawNodeMemory
open Go.RowKit Go.Proofs.Ytofeoeknmlkjgaa Nk Fi Go.ChangeShapes Go.WideShapes
set_option maxRecDepth 100000 in
theorem walk {H : Type} {enc : TypeId × Value → H} {d0 d1 : DataW H} {p0 p1 : List MemPlace} (v0 v1 : Value) (W : World) (base : Nat)
    (h0 : Value.okWide Try.prog W .any base 45 v0) (k0 : DataW.Trod enc Try.prog W 0 (fun _ => true) true 45 v0 d0 p0)
    (h1 : Value.okWide Try.prog W .any base 62 v1) (k1 : DataW.Trod enc Try.prog W 0 (fun _ => true) true 62 v1 d1 p1)
    (s0 : ∀ x ∈ d0.weights Try.prog 45, x ≤ reachBytes) (s1 : ∀ x ∈ d1.weights Try.prog 62, x ≤ reachBytes) :
    Calls Try.prog 6 #[v0, v1] W fun e w' => e = .returned (.bool true) ∧ Below W.heap.size W w' := by
  obtain ⟨n, A, m, c, bs, rfl, hn, hv, _, hm⟩ := node_in h0 k0 s0
  obtain ⟨Am, mm, cm, rfl, _, _, _, _⟩ := ok_slice Try.underlying62 h1
  obtain ⟨L, hL, hmm⟩ := msgs_in k1 s1
  exact nodemem_walk n A m c bs Am mm cm L W hn hv hm hL hmm
end Go.Proofs.Ytofeoeknmlkjgaa.lawNodeMemory
end
