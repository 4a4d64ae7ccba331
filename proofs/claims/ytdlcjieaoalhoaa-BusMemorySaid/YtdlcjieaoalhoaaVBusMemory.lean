/- The law of BusMemory over its walk. -/
import Derived.Test.YtdlcjieaoalhoaaWBusMemory
set_option linter.unusedVariables false
namespace Go.Proofs.Ytdlcjieaoalhoaa.lawBusMemory
open Go.RowKit Go.Proofs.Ytdlcjieaoalhoaa Bs Go.ChangeShapes Go.WideShapes
set_option maxRecDepth 100000 in
theorem walk {H : Type} {enc : TypeId × Value → H} {d0 d1 d2 d3 : DataW H} {p0 p1 p2 p3 : List MemPlace} (v0 v1 v2 v3 : Value) (W : World) (base : Nat)
    (h0 : Value.okWide Try.prog W .any base 22 v0) (k0 : DataW.Trod enc Try.prog W 0 (fun _ => true) true 22 v0 d0 p0)
    (h1 : Value.okWide Try.prog W .any base 33 v1) (k1 : DataW.Trod enc Try.prog W 0 (fun _ => true) true 33 v1 d1 p1)
    (h2 : Value.okWide Try.prog W .any base 3 v2) (k2 : DataW.Trod enc Try.prog W 0 (fun _ => true) true 3 v2 d2 p2)
    (h3 : Value.okWide Try.prog W .any base 3 v3) (k3 : DataW.Trod enc Try.prog W 0 (fun _ => true) true 3 v3 d3 p3)
    (s0 : ∀ x ∈ d0.weights Try.prog 22, x ≤ reachBytes) (s1 : ∀ x ∈ d1.weights Try.prog 33, x ≤ reachBytes) (s2 : ∀ x ∈ d2.weights Try.prog 3, x ≤ reachBytes) (s3 : ∀ x ∈ d3.weights Try.prog 3, x ≤ reachBytes) :
    Calls Try.prog 6 #[v0, v1, v2, v3] W fun e w' => e = .returned (.bool true) ∧ Below W.heap.size W w' := by
  obtain ⟨A, n, c, rfl, hnc, hc, _, _⟩ := ok_slice Try.underlying22 h0
  obtain ⟨x2, rfl, _⟩ := ok_int Try.underlying3 h2
  obtain ⟨x3, rfl, _⟩ := ok_int Try.underlying3 h3
  obtain ⟨D, hD⟩ := loads_in k0 s0
  obtain ⟨Bd, m, cb, rfl, hmc, _, hA, _⟩ := ok_slice Try.underlying33 h1
  have hb : Try.prog.bytesOf 5 = 1 := by kernel_rfl
  obtain ⟨zs, hI, hw, _, hr⟩ := ints_in Try.underlying33 Try.underlying5 (by kernel_rfl) k1 (fun es sp he => s1 _ (by rw [he]; simp [DataW.weights, Try.underlying33]))
  rw [hb] at hr
  unfold reachBytes at hr
  exact busmem_walk A n c D Bd m cb zs x2 x3 W hD (by omega) hI hA hmc (fun z hz => bounds_u8 (hw z hz)) (by omega)
end Go.Proofs.Ytdlcjieaoalhoaa.lawBusMemory
