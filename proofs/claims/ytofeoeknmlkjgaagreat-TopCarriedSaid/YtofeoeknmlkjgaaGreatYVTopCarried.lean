/- VTopCarried, over merged texts. -/
import Derived.Test.YtofeoeknmlkjgaaGreatYWTopCarried
set_option linter.unusedVariables false
set_option linter.unusedSimpArgs false
section
/- The law of TopCarried over its walks. -/
set_option linter.unusedVariables false
namespace Go.Proofs.YtofeoeknmlkjgaaGreat.lawTopCarried
open Go.RowKit Go.Proofs.YtofeoeknmlkjgaaGreat Crc Wr Bs Go.ChangeShapes Go.WideShapes
set_option maxRecDepth 100000 in
theorem walk {H : Type} {enc : TypeId × Value → H} {d0 d1 d2 d3 : DataW H} {p0 p1 p2 p3 : List MemPlace} (v0 v1 v2 v3 : Value) (W : World) (base : Nat)
    (h0 : Value.okWide Tryz.prog W .any base 24 v0) (k0 : DataW.Trod enc Tryz.prog W 0 (fun _ => true) true 24 v0 d0 p0)
    (h1 : Value.okWide Tryz.prog W .any base 3 v1) (k1 : DataW.Trod enc Tryz.prog W 0 (fun _ => true) true 3 v1 d1 p1)
    (h2 : Value.okWide Tryz.prog W .any base 3 v2) (k2 : DataW.Trod enc Tryz.prog W 0 (fun _ => true) true 3 v2 d2 p2)
    (h3 : Value.okWide Tryz.prog W .any base 3 v3) (k3 : DataW.Trod enc Tryz.prog W 0 (fun _ => true) true 3 v3 d3 p3)
    (s0 : ∀ x ∈ d0.weights Tryz.prog 24, x ≤ reachBytes) (s1 : ∀ x ∈ d1.weights Tryz.prog 3, x ≤ reachBytes) (s2 : ∀ x ∈ d2.weights Tryz.prog 3, x ≤ reachBytes) (s3 : ∀ x ∈ d3.weights Tryz.prog 3, x ≤ reachBytes) :
    Calls Tryz.prog 3 #[v0, v1, v2, v3] W fun e w' => e = .returned (.bool true) ∧ Below W.heap.size W w' := by
  obtain ⟨K, F, R, A, n, c, zs, rfl, hI, hz, hA, _, hn, _⟩ := msg_in h0 k0 s0
  obtain ⟨x1, rfl, _⟩ := ok_int Tryz.underlying3 h1
  obtain ⟨x2, rfl, _⟩ := ok_int Tryz.underlying3 h2
  obtain ⟨x3, rfl, _⟩ := ok_int Tryz.underlying3 h3
  by_cases hr : rightE K F R n = 0
  · by_cases hd : 1 ≤ x1 % 1001
    · exact topcar_later K F R A n c zs x1 x2 x3 W hI hz hA (by omega) hr hd
    · exact topcar_now K F R A n c zs x1 x2 x3 W hI hz hA (by omega) hr (by omega)
  · exact topcar_bad K F R A n c zs x1 x2 x3 W hI hz hA (by omega) hr
end Go.Proofs.YtofeoeknmlkjgaaGreat.lawTopCarried
end
