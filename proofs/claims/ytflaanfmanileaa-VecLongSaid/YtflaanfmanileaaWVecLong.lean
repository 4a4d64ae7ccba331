/- The walk of VecLong: the length times itself is at most the inner product. -/
import Derived.Test.YtflaanfmanileaaVecOpen
set_option linter.unusedVariables false
namespace Go.Proofs.Ytflaanfmanileaa.lawVecLong
open Go.RowKit Go.Proofs.Ytflaanfmanileaa Fx

theorem len_ge (d : Int) (hd : In d) : 0 ≤ lenN d ∧ In (lenN d) := by
  unfold lenN
  by_cases h : d < 0
  · rw [if_pos h]; exact ⟨Int.le_refl _, by unfold In; omega⟩
  · rw [if_neg h]
    have := (root_spec (d.toNat * 4294967296) (by unfold In at hd; omega)).2.2
    exact ⟨by omega, by unfold In; omega⟩
theorem len_sq (d : Int) (hd : In d) (h0 : lenO d = false) : cl (mulZ (lenN d) (lenN d)) ≤ d := by
  unfold lenO at h0
  have h : ¬ d < 0 := by simpa using h0
  unfold lenN
  rw [if_neg h]
  have hs := (root_spec (d.toNat * 4294967296) (by unfold In at hd; omega)).1
  generalize root (d.toNat * 4294967296) = r at *
  have e : (r : Int) * (r : Int) ≤ d * 4294967296 := by
    have : ((r * r : Nat) : Int) ≤ ((d.toNat * 4294967296 : Nat) : Int) := by exact_mod_cast hs
    rw [Int.natCast_mul, Int.natCast_mul] at this
    have e2 : ((d.toNat : Nat) : Int) = d := Int.toNat_of_nonneg (by omega)
    rw [e2] at this
    exact this
  have e0 : 0 ≤ (r : Int) * (r : Int) := Int.mul_nonneg (by omega) (by omega)
  unfold mulZ
  generalize (r : Int) * (r : Int) = m at *
  unfold cl
  unfold In at hd
  omega
theorem five_dot : cl (dot3 ⟨12884901888, 17179869184, 0⟩ ⟨12884901888, 17179869184, 0⟩) = 107374182400 := by decide
theorem root_five : root (Int.toNat 107374182400 * 4294967296) = 21474836480 := by
  obtain ⟨h1, h2, _⟩ := root_spec (Int.toNat 107374182400 * 4294967296) (by decide)
  generalize root (Int.toNat 107374182400 * 4294967296) = r at *
  have e : Int.toNat 107374182400 * 4294967296 = 21474836480 * 21474836480 := by decide
  rw [e] at h1 h2
  have g1 : r < 21474836481 := sq_lt (a := r) (b := 21474836481) (by omega)
  have g2 : 21474836480 < r + 1 := sq_lt h2
  omega
theorem five_len : lenN 107374182400 = 21474836480 := by
  unfold lenN
  rw [if_neg (by decide), root_five]
  rfl
theorem Length_test (w : World) : Calls Try.prog 33 #[.agg #[.int .i64 12884901888, .int .i64 17179869184, .int .i64 0]] w fun e w' => ∃ o, e = .returned (.tuple #[.int .i64 21474836480, .bool o]) ∧ Below w.heap.size w w' := by
  have h := Length_any ⟨12884901888, 17179869184, 0⟩ (by unfold V3.In Fx.In; decide) w
  rw [five_dot, five_len] at h
  exact h.mono fun e w' ⟨he, hb⟩ => ⟨_, he, hb⟩

set_option maxRecDepth 100000 in
set_option maxHeartbeats 4000000 in
theorem walk1 (a : V3) (ha : a.In) (w : World) :
    Calls Try.prog 5 #[a.val] w fun e w' => e = .returned (.bool true) ∧ Below w.heap.size w w' := by
  have k1 := fun W => Length_any a ha W
  have k2 := fun W => Dot_any a a ha ha W
  obtain ⟨g0, g1⟩ := len_ge (cl (dot3 a a)) (In_cl _)
  have g2 := len_sq (cl (dot3 a a)) (In_cl _)
  have k3 := fun W => mul_any (lenN (cl (dot3 a a))) (lenN (cl (dot3 a a))) g1 g1 W
  simp only [res] at k3
  have hx := In_cl (mulZ (lenN (cl (dot3 a a))) (lenN (cl (dot3 a a))))
  have hb : (dotO a a || lenO (cl (dot3 a a))) = false → cl (mulZ (lenN (cl (dot3 a a))) (lenN (cl (dot3 a a)))) ≤ cl (dot3 a a) := fun h => g2 (by revert h; cases lenO (cl (dot3 a a)) <;> simp)
  generalize (dotO a a || lenO (cl (dot3 a a))) = bent at *
  generalize cl (mulZ (lenN (cl (dot3 a a))) (lenN (cl (dot3 a a)))) = p at *
  generalize out (mulZ (lenN (cl (dot3 a a))) (lenN (cl (dot3 a a)))) = po at *
  generalize lenN (cl (dot3 a a)) = n at *
  generalize cl (dot3 a a) = d at *
  generalize dotO a a = o at *
  have K1 := Lib.hid k1
  have K2 := Lib.hid k2
  have K3 := Lib.hid k3
  have HB := Lib.hid hb
  clear k1 k2 k3 ha g1 g2 hx hb
  have H0a := Lib.hid (VB.new w a rfl)
  have H0B := Lib.hid (((Below.refl w.heap.size w).alloc (Nat.le_refl _) (.cells #[.int .i64 a.x, .int .i64 a.y, .int .i64 a.z] 23)))
  unfold V3.val at K1 K2 ⊢
  go_enter Try.func5, Try.ntmps5
  go_wp2_with fail
  refine (K1.out _).mono ?_
  rintro e w1 ⟨rfl, hB⟩
  have H1a := Lib.hid (H0a.out.next hB)
  have H1B := Lib.hid (below_next H0B.out hB)
  clear hB H0a H0B
  obtain ⟨a0, a1, a2⟩ := H1a.out.c
  go_wp2_with fail
  refine (K2.out _).mono ?_
  rintro e w2 ⟨rfl, hB⟩
  have H2B := Lib.hid (below_next H1B.out hB)
  clear hB H1a H1B a0 a1 a2
  go_wp2_with fail
  refine (Length_test _).mono ?_
  rintro e w3 ⟨o3, rfl, hB⟩
  have H3B := Lib.hid (below_next H2B.out hB)
  clear hB H2B
  cases bent with
  | true =>
    go_wp2_with fail
    go_ret
    exact ⟨rfl, H3B.out⟩
  | false =>
    have hpd := HB.out rfl
    go_wp2_with fail
    refine (K3.out _).mono ?_
    rintro e w4 ⟨rfl, hB⟩
    have H4B := Lib.hid (below_next H3B.out hB)
    clear hB H3B
    go_wp2_with fail
    go_ret
    exact ⟨rfl, H4B.out⟩

set_option maxRecDepth 100000 in
theorem walk {H : Type} {enc : TypeId × Value → H} {d0 : DataW H} {p0 : List MemPlace} (v0 : Value) (W : World) (base : Nat)
    (h0 : Value.okWide Try.prog W .any base 23 v0) (_ : DataW.Trod enc Try.prog W 0 (fun _ => true) true 23 v0 d0 p0) :
    Calls Try.prog 5 #[v0] W fun e w' => e = .returned (.bool true) ∧ Below W.heap.size W w' := by
  obtain ⟨ax, ay, az, rfl, i0, i1, i2⟩ := ok_ints3 (u := 3) (.inl ⟨_, Try.underlying23⟩) (by kernel_rfl) (by kernel_rfl) Try.underlying3 h0
  exact walk1 ⟨ax, ay, az⟩ (in3 i0 i1 i2) W
end Go.Proofs.Ytflaanfmanileaa.lawVecLong
