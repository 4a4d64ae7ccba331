/- The contracts of vec.Add, Sub, Scale. -/
import Derived.Test.YtflaanfmanileaaVecEach
set_option linter.unusedVariables false
namespace Go.Proofs.Ytflaanfmanileaa
open Go.RowKit Fx

theorem step_add : Step3 62 (fun x y => x + y) := fun g x y t W hx hy h => radd_any g x y t W hx hy h
theorem step_sub : Step3 72 (fun x y => x - y) := fun g x y t W hx hy h => rsub_any g x y t W hx hy h
theorem step_mul : Step3 73 mulZ := fun g x y t W hx hy h => rmul_any g x y t W hx hy h

set_option maxRecDepth 100000 in
set_option maxHeartbeats 2000000 in
theorem Add_any (a b : V3) (ha : a.In) (hb : b.In) (w : World) :
    Calls Try.prog 26 #[a.val, b.val] w fun e w' => e = .returned (.tuple #[(opV (fun x y => x + y) a b).val, .bool (opO (fun x y => x + y) a b)]) ∧ Below w.heap.size w w' := by
  have K1 := fun W => Lib.hid (each_add (fun x y => x + y) step_add a b ha hb W)
  generalize opV (fun x y => x + y) a b = c at *
  generalize opO (fun x y => x + y) a b = o at *
  clear ha hb
  obtain ⟨ax, ay, az⟩ := a
  obtain ⟨bx, by_, bz⟩ := b
  obtain ⟨cx, cy, cz⟩ := c
  unfold V3.val at K1 ⊢
  simp only at K1 ⊢
  go_enter Try.func26, Try.ntmps26
  go_wp2_with fail
  refine ((K1 _).out).mono ?_
  rintro e w1 ⟨rfl, hB⟩
  have hz := ((Blk.at_ ((w.alloc (.cells #[.int .i64 ax, .int .i64 ay, .int .i64 az] 23)).alloc (.cells #[.int .i64 bx, .int .i64 by_, .int .i64 bz] 23)) (w.heap.size + 1 + 1) 23 #[.int .i64 0, .int .i64 0, .int .i64 0] (by simp)).next hB)
  have z0 := hz.cell 0
  have z1 := hz.cell 1
  have z2 := hz.cell 2
  have f0 := hz.frozen 0
  have f1 := hz.frozen 1
  have f2 := hz.frozen 2
  simp only [List.getElem?_toArray, List.getElem?_cons_zero, List.getElem?_cons_succ] at z0 z1 z2
  have HB := Lib.hid hB
  clear hz hB K1
  go_wp2_with fail
  refine bodyPost_ret (v := .tuple #[.agg #[.int .i64 cx, .int .i64 cy, .int .i64 cz], .bool o]) (by simp [results, Try.results26, go_sem, z0, z1, z2]) rfl ⟨rfl, ?_⟩
  exact (((((((Below.refl w.heap.size w).alloc (Nat.le_refl _) _).alloc (by simp) _).alloc (by simp; omega) _).trans (HB.out.mono (by simp; omega))).setCell (by simp; omega) _).setCell (by simp; omega) _).setCell (by simp; omega) _

set_option maxRecDepth 100000 in
set_option maxHeartbeats 2000000 in
theorem Sub_any (a b : V3) (ha : a.In) (hb : b.In) (w : World) :
    Calls Try.prog 38 #[a.val, b.val] w fun e w' => e = .returned (.tuple #[(opV (fun x y => x - y) a b).val, .bool (opO (fun x y => x - y) a b)]) ∧ Below w.heap.size w w' := by
  have K1 := fun W => Lib.hid (each_sub (fun x y => x - y) step_sub a b ha hb W)
  generalize opV (fun x y => x - y) a b = c at *
  generalize opO (fun x y => x - y) a b = o at *
  clear ha hb
  obtain ⟨ax, ay, az⟩ := a
  obtain ⟨bx, by_, bz⟩ := b
  obtain ⟨cx, cy, cz⟩ := c
  unfold V3.val at K1 ⊢
  simp only at K1 ⊢
  go_enter Try.func38, Try.ntmps38
  go_wp2_with fail
  refine ((K1 _).out).mono ?_
  rintro e w1 ⟨rfl, hB⟩
  have hz := ((Blk.at_ ((w.alloc (.cells #[.int .i64 ax, .int .i64 ay, .int .i64 az] 23)).alloc (.cells #[.int .i64 bx, .int .i64 by_, .int .i64 bz] 23)) (w.heap.size + 1 + 1) 23 #[.int .i64 0, .int .i64 0, .int .i64 0] (by simp)).next hB)
  have z0 := hz.cell 0
  have z1 := hz.cell 1
  have z2 := hz.cell 2
  have f0 := hz.frozen 0
  have f1 := hz.frozen 1
  have f2 := hz.frozen 2
  simp only [List.getElem?_toArray, List.getElem?_cons_zero, List.getElem?_cons_succ] at z0 z1 z2
  have HB := Lib.hid hB
  clear hz hB K1
  go_wp2_with fail
  refine bodyPost_ret (v := .tuple #[.agg #[.int .i64 cx, .int .i64 cy, .int .i64 cz], .bool o]) (by simp [results, Try.results38, go_sem, z0, z1, z2]) rfl ⟨rfl, ?_⟩
  exact (((((((Below.refl w.heap.size w).alloc (Nat.le_refl _) _).alloc (by simp) _).alloc (by simp; omega) _).trans (HB.out.mono (by simp; omega))).setCell (by simp; omega) _).setCell (by simp; omega) _).setCell (by simp; omega) _

set_option maxRecDepth 100000 in
set_option maxHeartbeats 2000000 in
theorem Scale_any (a : V3) (k : Int) (ha : a.In) (hk : In k) (w : World) :
    Calls Try.prog 37 #[a.val, .int .i64 k] w fun e w' => e = .returned (.tuple #[(opV mulZ a ⟨k, k, k⟩).val, .bool (opO mulZ a ⟨k, k, k⟩)]) ∧ Below w.heap.size w w' := by
  have K1 := fun W => Lib.hid (each_mul mulZ step_mul a ⟨k, k, k⟩ ha ⟨hk, hk, hk⟩ W)
  generalize opV mulZ a ⟨k, k, k⟩ = c at *
  generalize opO mulZ a ⟨k, k, k⟩ = o at *
  clear ha hk
  obtain ⟨ax, ay, az⟩ := a
  obtain ⟨cx, cy, cz⟩ := c
  unfold V3.val at K1 ⊢
  simp only at K1 ⊢
  go_enter Try.func37, Try.ntmps37
  go_wp2_with fail
  refine ((K1 _).out).mono ?_
  rintro e w1 ⟨rfl, hB⟩
  have hz := ((Blk.at_ (w.alloc (.cells #[.int .i64 ax, .int .i64 ay, .int .i64 az] 23)) (w.heap.size + 1) 23 #[.int .i64 0, .int .i64 0, .int .i64 0] (by simp)).next hB)
  have z0 := hz.cell 0
  have z1 := hz.cell 1
  have z2 := hz.cell 2
  have f0 := hz.frozen 0
  have f1 := hz.frozen 1
  have f2 := hz.frozen 2
  simp only [List.getElem?_toArray, List.getElem?_cons_zero, List.getElem?_cons_succ] at z0 z1 z2
  have HB := Lib.hid hB
  clear hz hB K1
  go_wp2_with fail
  refine bodyPost_ret (v := .tuple #[.agg #[.int .i64 cx, .int .i64 cy, .int .i64 cz], .bool o]) (by simp [results, Try.results37, go_sem, z0, z1, z2]) rfl ⟨rfl, ?_⟩
  exact ((((((Below.refl w.heap.size w).alloc (Nat.le_refl _) _).alloc (by simp) _).trans (HB.out.mono (by simp; omega))).setCell (by simp) _).setCell (by simp) _).setCell (by simp) _
end Go.Proofs.Ytflaanfmanileaa
