/- The walk of ClockDrifts: for every clock and two times the call returns true. -/
import Derived.Test.YtllgjbjcdenchaaClock
import Derived.Test.YtllgjbjcdenchaaOpen
set_option linter.unusedVariables false
namespace Go.Proofs.Ytllgjbjcdenchaa.lawClockDrifts
open Go.RowKit Go.Proofs.Ytllgjbjcdenchaa

/-- one of the two readings is refused, or the second time lies before the first one -/
theorem walk_no (o r t u x e y f : Int) (w : World) (hx : locV o r t = x) (he : locE o r t = e) (hy : locV o r u = y) (hf : locE o r u = f) (h : e = 3 ∨ (e = 0 ∧ f = 3) ∨ (e = 0 ∧ f = 0 ∧ u < t)) :
    Calls Try.prog 3 #[.agg #[.int .i64 o, .int .i64 r], .int .i64 t, .int .i64 u] w fun e w' => e = .returned (.bool true) ∧ Below w.heap.size w w' := by
  have kt := fun (W : World) => local_any o r t x e W hx he
  have ku := fun (W : World) => local_any o r u y f W hy hf
  have kz := fun (W : World) => local_any 0 0 5 5 0 W (by decide) (by decide)
  have Kt := Lib.hid kt
  have Ku := Lib.hid ku
  have Kz := Lib.hid kz
  clear kt ku kz hx he hy hf
  rcases h with rfl | ⟨rfl, rfl⟩ | ⟨rfl, rfl, h⟩
  all_goals
    go_enter Try.func3, Try.ntmps3
    go_wp2_with fail
    refine (Kt.out _).mono ?_
    rintro e w1 ⟨rfl, hb⟩
    obtain ⟨hc, hf⟩ := bcell hb
    go_wp2_with fail
    refine (Ku.out _).mono ?_
    rintro e w2 ⟨rfl, hb2⟩
    go_wp2_with fail
    refine (Kz.out _).mono ?_
    rintro e w3 ⟨rfl, hb3⟩
    go_wp2_with fail
    go_ret
    exact ⟨rfl, below_next (below_next (below_one hb) hb2) hb3⟩

theorem walk_yes (o r t u x y : Int) (w : World) (hx : locV o r t = x) (he : locE o r t = 0) (hy : locV o r u = y) (hf : locE o r u = 0) (h : t ≤ u)
    (bt : 0 ≤ t) (bu : u ≤ 1099511627776) (bx : -2199023255552 ≤ x) (bx' : x ≤ 2199023255552) (bY : -2199023255552 ≤ y) (bY' : y ≤ 2199023255552)
    (q1 : y - x - (u - t) ≤ (u - t) * 500 / 1000000 + 1) (q2 : -(y - x - (u - t)) ≤ (u - t) * 500 / 1000000 + 1) (q3 : x ≤ y) :
    Calls Try.prog 3 #[.agg #[.int .i64 o, .int .i64 r], .int .i64 t, .int .i64 u] w fun e w' => e = .returned (.bool true) ∧ Below w.heap.size w w' := by
  have kt := fun (W : World) => local_any o r t x 0 W hx he
  have ku := fun (W : World) => local_any o r u y 0 W hy hf
  have kz := fun (W : World) => local_any 0 0 5 5 0 W (by decide) (by decide)
  have Kt := Lib.hid kt
  have Ku := Lib.hid ku
  have Kz := Lib.hid kz
  clear kt ku kz hx he hy hf
  go_enter Try.func3, Try.ntmps3
  go_wp2_with fail
  refine (Kt.out _).mono ?_
  rintro e w1 ⟨rfl, hb⟩
  obtain ⟨hc, hf⟩ := bcell hb
  go_wp2_with fail
  refine (Ku.out _).mono ?_
  rintro e w2 ⟨rfl, hb2⟩
  go_wp2_with fail
  refine (Kz.out _).mono ?_
  rintro e w3 ⟨rfl, hb3⟩
  go_wp2_with fail
  go_ret
  exact ⟨rfl, below_next (below_next (below_one hb) hb2) hb3⟩

theorem walk' (o r t u : Int) (w : World) :
    Calls Try.prog 3 #[.agg #[.int .i64 o, .int .i64 r], .int .i64 t, .int .i64 u] w fun e w' => e = .returned (.bool true) ∧ Below w.heap.size w w' := by
  by_cases ht : locB o r t = true
  · by_cases hu : locB o r u = true
    · have e1 : locE o r t = 0 := by simp [locE, ht]
      have e2 : locE o r u = 0 := by simp [locE, hu]
      by_cases h : t ≤ u
      · have L := drift_law ht hu h
        obtain ⟨a1, a2, a3, a4⟩ := locB_get ht
        obtain ⟨b1, b2, b3, b4⟩ := locB_get hu
        have a1 := partB_get a1
        have a2 := partB_get a2
        have m1 := mul_bound a2.1 a2.2 a3 a4
        have m2 := mul_bound a2.1 a2.2 b3 b4
        have v1 : locV o r t = t + o + t * r / 1000000 := by simp [locV, ht]
        have v2 : locV o r u = u + o + u * r / 1000000 := by simp [locV, hu]
        generalize t * r = p at *
        generalize u * r = q at *
        exact walk_yes o r t u _ _ w v1 e1 v2 e2 h a3 b4 (by omega) (by omega) (by omega) (by omega) L.1 L.2.1 L.2.2
      · exact walk_no o r t u _ _ _ _ w rfl rfl rfl rfl (.inr (.inr ⟨e1, e2, by omega⟩))
    · exact walk_no o r t u _ _ _ _ w rfl rfl rfl rfl (.inr (.inl ⟨by simp [locE, ht], by simp [locE, hu]⟩))
  · exact walk_no o r t u _ _ _ _ w rfl rfl rfl rfl (.inl (by simp [locE, ht]))

theorem walk {H : Type} {enc : TypeId × Value → H} {d0 d1 d2 : DataW H} {p0 p1 p2 : List MemPlace} (v0 v1 v2 : Value) (W : World) (base : Nat)
    (h0 : Value.okWide Try.prog W .any base 23 v0) (_ : DataW.Trod enc Try.prog W 0 (fun _ => true) true 23 v0 d0 p0)
    (h1 : Value.okWide Try.prog W .any base 3 v1) (_ : DataW.Trod enc Try.prog W 0 (fun _ => true) true 3 v1 d1 p1)
    (h2 : Value.okWide Try.prog W .any base 3 v2) (_ : DataW.Trod enc Try.prog W 0 (fun _ => true) true 3 v2 d2 p2) :
    Calls Try.prog 3 #[v0, v1, v2] W fun e w' => e = .returned (.bool true) ∧ Below W.heap.size W w' := by
  obtain ⟨o, r, rfl, _, _⟩ := ok_ints2 (u := 3) (.inl ⟨_, Try.underlying23⟩) (by kernel_rfl) (by kernel_rfl) Try.underlying3 h0
  obtain ⟨t, rfl, _⟩ := ok_int Try.underlying3 h1
  obtain ⟨u, rfl, _⟩ := ok_int Try.underlying3 h2
  exact walk' o r t u W
end Go.Proofs.Ytllgjbjcdenchaa.lawClockDrifts
