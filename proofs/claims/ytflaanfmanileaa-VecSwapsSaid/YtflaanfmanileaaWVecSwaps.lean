/- The walk of VecSwaps: inner products and sums may be swapped. -/
import Derived.Test.YtflaanfmanileaaVecOpen
set_option linter.unusedVariables false
namespace Go.Proofs.Ytflaanfmanileaa.lawVecSwaps
open Go.RowKit Go.Proofs.Ytflaanfmanileaa Fx

set_option maxRecDepth 100000 in
set_option maxHeartbeats 4000000 in
theorem walk1 (a b : V3) (ha : a.In) (hb : b.In) (w : World) :
    Calls Try.prog 3 #[a.val, b.val] w fun e w' => e = .returned (.bool true) ∧ Below w.heap.size w w' := by
  have k1 := fun W => Dot_any a b ha hb W
  have k2 := fun W => Dot_any b a hb ha W
  have k3 := fun W => Add_any a b ha hb W
  have k4 := fun W => Add_any b a hb ha W
  rw [← (dot_swap a b).1, ← (dot_swap a b).2] at k2
  have e1 : opV (fun x y => x + y) b a = opV (fun x y => x + y) a b := by unfold opV; simp only [Int.add_comm]
  have e2 : opO (fun x y => x + y) b a = opO (fun x y => x + y) a b := by unfold opO; simp only [Int.add_comm]
  rw [e1, e2] at k4
  generalize cl (dot3 a b) = d at *
  generalize dotO a b = o at *
  generalize opV (fun x y => x + y) a b = c at *
  generalize opO (fun x y => x + y) a b = q at *
  have K1 := Lib.hid k1
  have K2 := Lib.hid k2
  have K3 := Lib.hid k3
  have K4 := Lib.hid k4
  clear k1 k2 k3 k4 ha hb e1 e2
  have h0a := (VB.new w a rfl).alloc (.cells #[.int .i64 b.x, .int .i64 b.y, .int .i64 b.z] 23)
  have h0b := VB.new (w.alloc (.cells #[.int .i64 a.x, .int .i64 a.y, .int .i64 a.z] 23)) b (n := w.heap.size + 1) (by simp)
  have h0B := (((Below.refl w.heap.size w).alloc (Nat.le_refl _) (.cells #[.int .i64 a.x, .int .i64 a.y, .int .i64 a.z] 23)).alloc (by simp) (.cells #[.int .i64 b.x, .int .i64 b.y, .int .i64 b.z] 23))
  have H0a := Lib.hid h0a
  have H0b := Lib.hid h0b
  have H0B := Lib.hid h0B
  clear h0a h0b h0B
  unfold V3.val at K1 K2 K3 K4 ⊢
  go_enter Try.func3, Try.ntmps3
  go_wp2_with fail
  refine (K1.out _).mono ?_
  rintro e w1 ⟨rfl, hB⟩
  have H1a := Lib.hid (H0a.out.next hB)
  have H1b := Lib.hid (H0b.out.next hB)
  have H1B := Lib.hid (below_next H0B.out hB)
  clear hB H0a H0b H0B
  obtain ⟨a0, a1, a2⟩ := H1a.out.c
  obtain ⟨b0, b1, b2⟩ := H1b.out.c
  go_wp2_with fail
  refine (K2.out _).mono ?_
  rintro e w2 ⟨rfl, hB⟩
  have H2a := Lib.hid (H1a.out.next hB)
  have H2b := Lib.hid (H1b.out.next hB)
  have H2B := Lib.hid (below_next H1B.out hB)
  clear hB H1a H1b H1B a0 a1 a2 b0 b1 b2
  obtain ⟨a0, a1, a2⟩ := H2a.out.c
  obtain ⟨b0, b1, b2⟩ := H2b.out.c
  go_wp2_with fail
  refine (K3.out _).mono ?_
  rintro e w3 ⟨rfl, hB⟩
  have H3a := Lib.hid ((H2a.out.next hB).alloc (.cells #[.int .i64 c.x, .int .i64 c.y, .int .i64 c.z] 23))
  have H3b := Lib.hid ((H2b.out.next hB).alloc (.cells #[.int .i64 c.x, .int .i64 c.y, .int .i64 c.z] 23))
  have h3B := below_next H2B.out hB
  have H3B := Lib.hid (h3B.alloc h3B.size (.cells #[.int .i64 c.x, .int .i64 c.y, .int .i64 c.z] 23))
  have H3c := Lib.hid (VB.new w3 c rfl)
  clear hB H2a H2b H2B a0 a1 a2 b0 b1 b2 h3B
  obtain ⟨a0, a1, a2⟩ := H3a.out.c
  obtain ⟨b0, b1, b2⟩ := H3b.out.c
  go_wp2_with fail
  refine (K4.out _).mono ?_
  rintro e w4 ⟨rfl, hB⟩
  have h4B := below_next H3B.out hB
  have H4B := Lib.hid (h4B.alloc h4B.size (.cells #[.int .i64 c.x, .int .i64 c.y, .int .i64 c.z] 23))
  have H4c := Lib.hid ((H3c.out.next hB).alloc (.cells #[.int .i64 c.x, .int .i64 c.y, .int .i64 c.z] 23))
  have H4d := Lib.hid (VB.new w4 c rfl)
  clear hB H3a H3b H3B H3c a0 a1 a2 b0 b1 b2 h4B
  go_wp2_with fail
  refine (Dot_test _).mono ?_
  rintro e w5 ⟨o2, rfl, hB⟩
  have H5B := Lib.hid (below_next H4B.out hB)
  obtain ⟨a0, a1, a2⟩ := (H4c.out.next hB).c
  obtain ⟨b0, b1, b2⟩ := (H4d.out.next hB).c
  clear hB H4B H4c H4d
  go_wp2_with fail
  go_ret
  exact ⟨rfl, H5B.out⟩

set_option maxRecDepth 100000 in
theorem walk {H : Type} {enc : TypeId × Value → H} {d0 d1 : DataW H} {p0 p1 : List MemPlace} (v0 v1 : Value) (W : World) (base : Nat)
    (h0 : Value.okWide Try.prog W .any base 23 v0) (_ : DataW.Trod enc Try.prog W 0 (fun _ => true) true 23 v0 d0 p0)
    (h1 : Value.okWide Try.prog W .any base 23 v1) (_ : DataW.Trod enc Try.prog W 0 (fun _ => true) true 23 v1 d1 p1) :
    Calls Try.prog 3 #[v0, v1] W fun e w' => e = .returned (.bool true) ∧ Below W.heap.size W w' := by
  obtain ⟨ax, ay, az, rfl, i0, i1, i2⟩ := ok_ints3 (u := 3) (.inl ⟨_, Try.underlying23⟩) (by kernel_rfl) (by kernel_rfl) Try.underlying3 h0
  obtain ⟨bx, by_, bz, rfl, j0, j1, j2⟩ := ok_ints3 (u := 3) (.inl ⟨_, Try.underlying23⟩) (by kernel_rfl) (by kernel_rfl) Try.underlying3 h1
  exact walk1 ⟨ax, ay, az⟩ ⟨bx, by_, bz⟩ (in3 i0 i1 i2) (in3 j0 j1 j2) W
end Go.Proofs.Ytflaanfmanileaa.lawVecSwaps
