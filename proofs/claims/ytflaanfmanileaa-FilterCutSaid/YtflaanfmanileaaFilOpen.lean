/- What the statements on the filter share: a state, a tuning that came in; '=='. -/
import Derived.Test.YtflaanfmanileaaFilRun
import Derived.Test.YtflaanfmanileaaOpen
import Derived.Test.YtflaanfmanileaaEql
set_option linter.unusedVariables false
namespace Go.Proofs.Ytflaanfmanileaa.Fi
open Go.RowKit Go.Proofs.Ytflaanfmanileaa Fx

theorem ok_seven {P : Program} {W : World} {r : Reach} {base : Nat} {t u b : TypeId} {v : Value} (hu : (∃ fs, P.underlying t = some (.struct fs)) ∨ ∃ n e, P.underlying t = some (.array n e)) (hts : P.cellTypes P.depth t = some [u, u, u, u, u, b, u])
    (hc : P.cellsOf t = 7) (hi : P.underlying u = some (.int .i64)) (hb : P.underlying b = some .bool) (h : Value.okWide P W r base t v) :
    ∃ x0 x1 x2 x3 x4 x5 x6, v = .agg #[.int .i64 x0, .int .i64 x1, .int .i64 x2, .int .i64 x3, .int .i64 x4, .bool x5, .int .i64 x6] ∧ IntKind.i64.has x0 ∧ IntKind.i64.has x1 ∧ IntKind.i64.has x2 ∧ IntKind.i64.has x3 ∧ IntKind.i64.has x4 ∧ IntKind.i64.has x6 := by
  obtain ⟨l, rfl, hl, hx⟩ := ok_agg hu hts hc h
  rcases l with _ | ⟨v0, _ | ⟨v1, _ | ⟨v2, _ | ⟨v3, _ | ⟨v4, _ | ⟨v5, _ | ⟨v6, _ | ⟨v7, l⟩⟩⟩⟩⟩⟩⟩⟩ <;> simp at hl
  obtain ⟨x0, rfl, h0⟩ := okCell_int hi (hx 0 _ _ rfl rfl)
  obtain ⟨x1, rfl, h1⟩ := okCell_int hi (hx 1 _ _ rfl rfl)
  obtain ⟨x2, rfl, h2⟩ := okCell_int hi (hx 2 _ _ rfl rfl)
  obtain ⟨x3, rfl, h3⟩ := okCell_int hi (hx 3 _ _ rfl rfl)
  obtain ⟨x4, rfl, h4⟩ := okCell_int hi (hx 4 _ _ rfl rfl)
  obtain ⟨x5, rfl⟩ := okCell_bool hb (hx 5 _ _ rfl rfl)
  obtain ⟨x6, rfl, h6⟩ := okCell_int hi (hx 6 _ _ rfl rfl)
  exact ⟨x0, x1, x2, x3, x4, x5, x6, rfl, h0, h1, h2, h3, h4, h6⟩
set_option maxRecDepth 100000 in
theorem state_in {W : World} {base : Nat} {v : Value} (h : Value.okWide Try.prog W .any base 57 v) : ∃ s : St, v = s.val ∧ s.In := by
  obtain ⟨x0, x1, x2, x3, x4, x5, x6, rfl, h0, h1, h2, h3, h4, h6⟩ := ok_seven (u := 3) (b := 4) (.inl ⟨_, Try.underlying57⟩) (by kernel_rfl) (by kernel_rfl) Try.underlying3 Try.underlying4 h
  exact ⟨⟨x0, x1, x2, x3, x4, x5, x6⟩, rfl, in_of h0, in_of h1, in_of h2, in_of h3, in_of h4, in_of h6⟩
set_option maxRecDepth 100000 in
theorem tun_in {W : World} {base : Nat} {v : Value} (h : Value.okWide Try.prog W .any base 62 v) : ∃ t : Tu, v = t.val ∧ t.In := by
  obtain ⟨x, y, z, q, rfl, h0, h1, h2, h3⟩ := ok_ints4 (u := 3) (.inl ⟨_, Try.underlying62⟩) (by kernel_rfl) (by kernel_rfl) Try.underlying3 h
  exact ⟨⟨x, y, z, q⟩, rfl, in_of h0, in_of h1, in_of h2, in_of h3⟩
set_option maxRecDepth 100000 in
/-- a list that came in -/
theorem list_in {H : Type} {enc : TypeId × Value → H} {W : World} {base : Nat} {v : Value} {d : DataW H} {p : List MemPlace} (h0 : Value.okWide Try.prog W .any base 29 v)
    (k0 : DataW.Trod enc Try.prog W 0 (fun _ => true) true 29 v d p) (s0 : ∀ es sp, d = .slice es sp → (es.length + sp.length) * Try.prog.bytesOf 3 ≤ reachBytes) :
    ∃ (A : Option Addr) (n c : Nat) (zs : List Int), v = .slice A n c ∧ Ints W .i64 A n zs ∧ (∀ z ∈ zs, Fx.In z) ∧ (A = none → n = 0 ∧ c = 0) ∧ n ≤ c ∧ c * 8 ≤ 140737488351232 := by
  obtain ⟨A, n, c, rfl, hnc, _, hA, _⟩ := ok_slice Try.underlying29 h0
  obtain ⟨zs, hI, hz, _, hr⟩ := ints_in Try.underlying29 Try.underlying3 (by kernel_rfl) k0 s0
  have hb : Try.prog.bytesOf 3 = 8 := by kernel_rfl
  rw [hb] at hr
  refine ⟨A, n, c, zs, rfl, hI, fun z h => ?_, hA, hnc, by unfold reachBytes at hr; omega⟩
  unfold Fx.In
  simpa [Lit.wf, IntKind.has, IntKind.min, IntKind.max, IntKind.signed, IntKind.bits] using hz z h
theorem state_eq (x v p q r m : Int) (b : Bool) (w : World) : (Op.equalIn 10000 57 (.agg #[.int .i64 x, .int .i64 v, .int .i64 p, .int .i64 q, .int .i64 r, .bool b, .int .i64 m]) (.agg #[.int .i64 x, .int .i64 v, .int .i64 p, .int .i64 q, .int .i64 r, .bool b, .int .i64 m])).run Try.prog w = .ok true w :=
  eql_self (by kernel_rfl) (by kernel_rfl) w
end Go.Proofs.Ytflaanfmanileaa.Fi
