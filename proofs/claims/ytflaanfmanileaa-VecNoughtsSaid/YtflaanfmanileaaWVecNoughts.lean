/- The walk of VecNoughts: what of vectors is nought. -/
import Derived.Test.YtflaanfmanileaaVecOpen
set_option linter.unusedVariables false
namespace Go.Proofs.Ytflaanfmanileaa.lawVecNoughts
open Go.RowKit Go.Proofs.Ytflaanfmanileaa Fx

theorem mul_nought (x : Int) : mulZ x 0 = 0 ∧ mulZ 0 x = 0 := by unfold mulZ; rw [Int.mul_zero, Int.zero_mul]; decide
theorem mul_one_ (x : Int) : mulZ x 4294967296 = x := by unfold mulZ; omega
theorem cl0 : cl 0 = 0 ∧ out 0 = false := by decide
theorem dot_nought (a : V3) : cl (dot3 a ⟨0, 0, 0⟩) = 0 ∧ dotO a ⟨0, 0, 0⟩ = false := by
  unfold dotO dot3 dot2
  simp only [(mul_nought _).1, cl0.1, cl0.2, Int.add_zero]
  decide
theorem cross_nought (a : V3) : crV a a = ⟨0, 0, 0⟩ := by
  unfold crV cr
  rw [mul_swap a.z a.y, mul_swap a.x a.z, mul_swap a.y a.x]
  simp only [Int.sub_self, cl0.1]
theorem scale_one (a : V3) (ha : a.In) : opV mulZ a ⟨4294967296, 4294967296, 4294967296⟩ = a ∧ opO mulZ a ⟨4294967296, 4294967296, 4294967296⟩ = false := by
  obtain ⟨x, y, z⟩ := a
  obtain ⟨h0, h1, h2⟩ := ha
  unfold opV opO
  simp only at h0 h1 h2
  simp only [mul_one_, (cl_in h0).1, (cl_in h1).1, (cl_in h2).1, (cl_in h0).2, (cl_in h1).2, (cl_in h2).2]
  first | exact ⟨trivial, rfl⟩ | exact ⟨rfl, trivial⟩ | simp
theorem scale_nought (k : Int) : opV mulZ ⟨0, 0, 0⟩ ⟨k, k, k⟩ = ⟨0, 0, 0⟩ ∧ opO mulZ ⟨0, 0, 0⟩ ⟨k, k, k⟩ = false := by
  unfold opV opO
  simp only [(mul_nought _).2, cl0.1, cl0.2]
  first | exact ⟨trivial, rfl⟩ | exact ⟨rfl, trivial⟩ | simp
theorem sub_self_ (a : V3) : opV (fun x y => x - y) a a = ⟨0, 0, 0⟩ ∧ opO (fun x y => x - y) a a = false := by
  unfold opV opO
  simp only [Int.sub_self, cl0.1, cl0.2]
  first | exact ⟨trivial, rfl⟩ | exact ⟨rfl, trivial⟩ | simp
theorem zin : V3.In ⟨0, 0, 0⟩ := by unfold V3.In Fx.In; decide

set_option maxRecDepth 100000 in
set_option maxHeartbeats 4000000 in
theorem walk1 (a : V3) (k : Int) (ha : a.In) (hk : In k) (w : World) :
    Calls Try.prog 8 #[a.val, .int .i64 k] w fun e w' => e = .returned (.bool true) ∧ Below w.heap.size w w' := by
  have k1 := fun W => Dot_any a ⟨0, 0, 0⟩ ha zin W
  have k2 := fun W => Cross_any a a ha ha W
  have k3 := fun W => Scale_any a 4294967296 ha (by unfold In; decide) W
  have k4 := fun W => Scale_any ⟨0, 0, 0⟩ k zin hk W
  have k5 := fun W => Sub_any a a ha ha W
  rw [(dot_nought a).1, (dot_nought a).2] at k1
  rw [cross_nought a] at k2
  rw [(scale_one a ha).1, (scale_one a ha).2] at k3
  rw [(scale_nought k).1, (scale_nought k).2] at k4
  rw [(sub_self_ a).1, (sub_self_ a).2] at k5
  generalize crVO a a = q at *
  unfold V3.val at k1 k2 k3 k4 k5 ⊢
  simp only at k1 k2 k4 k5
  have K1 := Lib.hid k1
  have K2 := Lib.hid k2
  have K3 := Lib.hid k3
  have K4 := Lib.hid k4
  have K5 := Lib.hid k5
  clear k1 k2 k3 k4 k5 ha hk
  have HA := Lib.hid (VB.new w a rfl)
  have HB := Lib.hid (((Below.refl w.heap.size w).alloc (Nat.le_refl _) (.cells #[.int .i64 a.x, .int .i64 a.y, .int .i64 a.z] 23)))
  go_enter Try.func8, Try.ntmps8
  go_wp2_with fail
  refine (K1.out _).mono ?_
  rintro e w1 ⟨rfl, hb⟩
  have HA' := Lib.hid (HA.out.next hb)
  have HB' := Lib.hid (below_next HB.out hb)
  clear hb HB HA
  have HA := HA'
  clear HA'
  have HB := HB'
  clear HB'
  obtain ⟨a0, a1, a2⟩ := HA.out.c
  go_wp2_with fail
  clear a0 a1 a2
  refine (K2.out _).mono ?_
  rintro e w2 ⟨rfl, hb⟩
  have HA' := Lib.hid ((HA.out.next hb).alloc (.cells #[.int .i64 0, .int .i64 0, .int .i64 0] 23))
  have hB2 := below_next HB.out hb
  have HB' := Lib.hid (hB2.alloc hB2.size (.cells #[.int .i64 0, .int .i64 0, .int .i64 0] 23))
  clear hB2
  have HC' := Lib.hid (VB.new w2 ⟨0, 0, 0⟩ rfl)
  clear hb HB HA
  have HA := HA'
  clear HA'
  have HC := HC'
  clear HC'
  have HB := HB'
  clear HB'
  obtain ⟨a0, a1, a2⟩ := HA.out.c
  go_wp2_with fail
  clear a0 a1 a2
  refine (K3.out _).mono ?_
  rintro e w3 ⟨rfl, hb⟩
  have HA' := Lib.hid ((HA.out.next hb).alloc (.cells #[.int .i64 a.x, .int .i64 a.y, .int .i64 a.z] 23))
  have HC' := Lib.hid ((HC.out.next hb).alloc (.cells #[.int .i64 a.x, .int .i64 a.y, .int .i64 a.z] 23))
  have hB2 := below_next HB.out hb
  have HB' := Lib.hid (hB2.alloc hB2.size (.cells #[.int .i64 a.x, .int .i64 a.y, .int .i64 a.z] 23))
  clear hB2
  have HS' := Lib.hid (VB.new w3 a rfl)
  clear hb HB HA HC
  have HA := HA'
  clear HA'
  have HC := HC'
  clear HC'
  have HS := HS'
  clear HS'
  have HB := HB'
  clear HB'
  obtain ⟨a0, a1, a2⟩ := HA.out.c
  go_wp2_with fail
  clear a0 a1 a2
  refine (K4.out _).mono ?_
  rintro e w4 ⟨rfl, hb⟩
  have HA' := Lib.hid ((HA.out.next hb).alloc (.cells #[.int .i64 0, .int .i64 0, .int .i64 0] 23))
  have HC' := Lib.hid ((HC.out.next hb).alloc (.cells #[.int .i64 0, .int .i64 0, .int .i64 0] 23))
  have HS' := Lib.hid ((HS.out.next hb).alloc (.cells #[.int .i64 0, .int .i64 0, .int .i64 0] 23))
  have hB2 := below_next HB.out hb
  have HB' := Lib.hid (hB2.alloc hB2.size (.cells #[.int .i64 0, .int .i64 0, .int .i64 0] 23))
  clear hB2
  have HZ' := Lib.hid (VB.new w4 ⟨0, 0, 0⟩ rfl)
  clear hb HB HA HC HS
  have HA := HA'
  clear HA'
  have HC := HC'
  clear HC'
  have HS := HS'
  clear HS'
  have HZ := HZ'
  clear HZ'
  have HB := HB'
  clear HB'
  obtain ⟨a0, a1, a2⟩ := HA.out.c
  go_wp2_with fail
  clear a0 a1 a2
  refine (K5.out _).mono ?_
  rintro e w5 ⟨rfl, hb⟩
  have HA' := Lib.hid ((HA.out.next hb).alloc (.cells #[.int .i64 0, .int .i64 0, .int .i64 0] 23))
  have HC' := Lib.hid ((HC.out.next hb).alloc (.cells #[.int .i64 0, .int .i64 0, .int .i64 0] 23))
  have HS' := Lib.hid ((HS.out.next hb).alloc (.cells #[.int .i64 0, .int .i64 0, .int .i64 0] 23))
  have HZ' := Lib.hid ((HZ.out.next hb).alloc (.cells #[.int .i64 0, .int .i64 0, .int .i64 0] 23))
  have hB2 := below_next HB.out hb
  have HB' := Lib.hid (hB2.alloc hB2.size (.cells #[.int .i64 0, .int .i64 0, .int .i64 0] 23))
  clear hB2
  have HD' := Lib.hid (VB.new w5 ⟨0, 0, 0⟩ rfl)
  clear hb HB HA HC HS HZ
  have HA := HA'
  clear HA'
  have HC := HC'
  clear HC'
  have HS := HS'
  clear HS'
  have HZ := HZ'
  clear HZ'
  have HD := HD'
  clear HD'
  have HB := HB'
  clear HB'
  obtain ⟨a0, a1, a2⟩ := HA.out.c
  go_wp2_with fail
  clear a0 a1 a2
  refine (Dot_test _).mono ?_
  rintro e w6 ⟨o2, rfl, hb⟩
  obtain ⟨a0, a1, a2⟩ := (HA.out.next hb).c
  obtain ⟨c0, c1, c2⟩ := (HC.out.next hb).c
  obtain ⟨s0, s1, s2⟩ := (HS.out.next hb).c
  obtain ⟨z0, z1, z2⟩ := (HZ.out.next hb).c
  obtain ⟨d0, d1, d2⟩ := (HD.out.next hb).c
  have HB6 := Lib.hid (below_next HB.out hb)
  simp only at c0 c1 c2 z0 z1 z2 d0 d1 d2
  clear hb HB HA HC HS HZ HD
  cases q <;> (go_wp2_with fail; go_ret; exact ⟨rfl, HB6.out⟩)

set_option maxRecDepth 100000 in
theorem walk {H : Type} {enc : TypeId × Value → H} {d0 d1 : DataW H} {p0 p1 : List MemPlace} (v0 v1 : Value) (W : World) (base : Nat)
    (h0 : Value.okWide Try.prog W .any base 23 v0) (_ : DataW.Trod enc Try.prog W 0 (fun _ => true) true 23 v0 d0 p0)
    (h1 : Value.okWide Try.prog W .any base 3 v1) (_ : DataW.Trod enc Try.prog W 0 (fun _ => true) true 3 v1 d1 p1) :
    Calls Try.prog 8 #[v0, v1] W fun e w' => e = .returned (.bool true) ∧ Below W.heap.size W w' := by
  obtain ⟨ax, ay, az, rfl, i0, i1, i2⟩ := ok_ints3 (u := 3) (.inl ⟨_, Try.underlying23⟩) (by kernel_rfl) (by kernel_rfl) Try.underlying3 h0
  obtain ⟨y, rfl, j⟩ := ok_int Try.underlying3 h1
  exact walk1 ⟨ax, ay, az⟩ y (in3 i0 i1 i2) (in_of j) W
end Go.Proofs.Ytflaanfmanileaa.lawVecNoughts
