/- The contracts of vec's each, Add, Sub, Scale, Dot, Length. -/
import Derived.Test.YtflaanfmanileaaVecDot
import Derived.Deep.CutRange
import Derived.Deep.DeepCutAuto
set_option linter.unusedVariables false
namespace Go.Proofs.Ytflaanfmanileaa
open Go.RowKit Fx
attribute [local go_sem ↓] Go.wp_at_zero Go.wp_at_succ

set_option maxRecDepth 100000 in
set_option maxHeartbeats 4000000 in
theorem Dot_any (a b : V3) (ha : a.In) (hb : b.In) (w : World) :
    Calls Try.prog 25 #[a.val, b.val] w fun e w' => e = .returned (.tuple #[.int .i64 (cl (dot3 a b)), .bool (dotO a b)]) ∧ Below w.heap.size w w' := by
  have K1 := fun g t W (h : Reck W g t) => Lib.hid (dot_any g a b t W ha hb h)
  unfold V3.val at K1
  unfold V3.val
  generalize cl (dot3 a b) = d at *
  generalize dotO a b = o at *
  clear ha hb
  obtain ⟨ax, ay, az⟩ := a
  obtain ⟨bx, by_, bz⟩ := b
  simp only at K1 ⊢
  have hr : Reck (((w.alloc (.cells #[.int .i64 ax, .int .i64 ay, .int .i64 az] 23)).alloc (.cells #[.int .i64 bx, .int .i64 by_, .int .i64 bz] 23)).alloc (.cells #[.bool false] 79)) (w.heap.size + 1 + 1) false := Blk.at_ _ _ _ _ (by simp)
  have hb0 := ((((Below.refl w.heap.size w).alloc (Nat.le_refl _) (.cells #[.int .i64 ax, .int .i64 ay, .int .i64 az] 23)).alloc (by simp) (.cells #[.int .i64 bx, .int .i64 by_, .int .i64 bz] 23)).alloc (by simp; omega) (.cells #[.bool false] 79))
  have HR := Lib.hid hr
  have HB := Lib.hid hb0
  clear hr hb0
  go_enter Try.func25, Try.ntmps25
  go_wp2_with fail
  refine ((K1 _ _ _ HR.out).out).mono ?_
  rintro e w1 ⟨rfl, hr1, hg1⟩
  have c0 := Blk.cell hr1 0
  simp at c0
  have HB1 := Lib.hid (HB.out.grown hg1 (by simp; omega) (fun j hj => by cases hj; omega))
  clear hr1 hg1
  go_wp2_with fail
  go_quiet (fail)
  go_wp2_with fail
  go_ret2
  exact ⟨rfl, HB1.out.trans (below_drewN _ _ _)⟩

/-- what a step of a reckoner answers, for whichever operation -/
def Step3 (F : FuncId) (op : Int → Int → Int) : Prop :=
  ∀ (g : Nat) (x y : Int) (t : Bool) (W : World), In x → In y → Reck W g t → Calls Try.prog F #[.pointer (some ⟨g, 0, none⟩), .int .i64 x, .int .i64 y] W fun e w' => e = .returned (.int .i64 (cl (op x y))) ∧ RStep W w' g (t || out (op x y))
/-- behind the second statement of each -/
def CutE (w : World) (x y z : Int) (t : Bool) (s9 : Value) (wx : World) : Prop :=
  ∃ n, s9 = .pointer (some ⟨n, 0, none⟩) ∧ w.heap.size + 4 ≤ n ∧ Blk wx n 23 #[.int .i64 x, .int .i64 y, .int .i64 z] ∧ Reck wx (w.heap.size + 1 + 1 + 1) t ∧
    Blk wx (w.heap.size + 1 + 1) 23 #[.int .i64 0, .int .i64 0, .int .i64 0] ∧ Below w.heap.size w wx
/-- the four blocks of each, at a world on the way -/
def Fr4 (w : World) (ax ay az bx by_ bz : Int) (t : Bool) (W : World) : Prop :=
  Blk W w.heap.size 23 #[.int .i64 ax, .int .i64 ay, .int .i64 az] ∧ Blk W (w.heap.size + 1) 23 #[.int .i64 bx, .int .i64 by_, .int .i64 bz] ∧
    Blk W (w.heap.size + 1 + 1) 23 #[.int .i64 0, .int .i64 0, .int .i64 0] ∧ Reck W (w.heap.size + 1 + 1 + 1) t ∧ Below w.heap.size w W
section
variable {w W W' : World} {ax ay az bx by_ bz : Int} {t t' : Bool}
theorem Fr4.drew (h : Fr4 w ax ay az bx by_ bz t W) : Fr4 w ax ay az bx by_ bz t W.drew := ⟨h.1.drew, h.2.1.drew, h.2.2.1.drew, Blk.drew h.2.2.2.1, h.2.2.2.2.drew⟩
theorem Fr4.start (w : World) (ax ay az bx by_ bz : Int) : Fr4 w ax ay az bx by_ bz false ((((w.alloc (.cells #[.int .i64 ax, .int .i64 ay, .int .i64 az] 23)).alloc (.cells #[.int .i64 bx, .int .i64 by_, .int .i64 bz] 23)).alloc (.cells #[.int .i64 0, .int .i64 0, .int .i64 0] 23)).alloc (.cells #[.bool false] 79)) :=
  ⟨((((Blk.new _ _ _).alloc _).alloc _).alloc _), (((Blk.at_ _ _ _ _ (by simp)).alloc _).alloc _), ((Blk.at_ _ _ _ _ (by simp)).alloc _), (Blk.at_ _ _ _ _ (by simp)),
    (((((Below.refl _ _).alloc (Nat.le_refl _) _).alloc (by simp) _).alloc (by simp; omega) _).alloc (by simp; omega) _)⟩
theorem Fr4.reck (h : Fr4 w ax ay az bx by_ bz t W) : Reck W (w.heap.size + 1 + 1 + 1) t := h.2.2.2.1
theorem Fr4.lt (h : Fr4 w ax ay az bx by_ bz t W) : w.heap.size + 4 ≤ W.heap.size := by have := Blk.lt h.reck; omega
theorem Fr4.alloc (h : Fr4 w ax ay az bx by_ bz t W) (o : Obj) : Fr4 w ax ay az bx by_ bz t (W.alloc o) := ⟨h.1.alloc o, h.2.1.alloc o, h.2.2.1.alloc o, Blk.alloc h.reck o, h.2.2.2.2.alloc (by have := h.lt; omega) o⟩
theorem Fr4.step (h : Fr4 w ax ay az bx by_ bz t W) (hr : Reck W' (w.heap.size + 1 + 1 + 1) t') (hg : W.grownBy W' (some (w.heap.size + 1 + 1 + 1))) : Fr4 w ax ay az bx by_ bz t' W' :=
  ⟨h.1.grown hg (by simp; omega), h.2.1.grown hg (by simp), h.2.2.1.grown hg (by simp), hr, h.2.2.2.2.grown hg (by have := h.lt; omega) (fun j hj => by cases hj; omega)⟩
theorem Fr4.far (h : Fr4 w ax ay az bx by_ bz t W) {n : Nat} (hg : W.grownBy W' (some n)) (hn : w.heap.size + 4 ≤ n) : Fr4 w ax ay az bx by_ bz t W' :=
  ⟨h.1.grown hg (by simp; omega), h.2.1.grown hg (by simp; omega), h.2.2.1.grown hg (by simp; omega), Blk.grown h.reck hg (by simp; omega), h.2.2.2.2.grown hg (by have := h.lt; omega) (fun j hj => by cases hj; omega)⟩
theorem Fr4.six (h : Fr4 w ax ay az bx by_ bz t W) : W.cell? ⟨w.heap.size, 0, none⟩ = some (.int .i64 ax) ∧ W.cell? ⟨w.heap.size, 1, none⟩ = some (.int .i64 ay) ∧ W.cell? ⟨w.heap.size, 2, none⟩ = some (.int .i64 az) ∧
      W.cell? ⟨w.heap.size + 1, 0, none⟩ = some (.int .i64 bx) ∧ W.cell? ⟨w.heap.size + 1, 1, none⟩ = some (.int .i64 by_) ∧ W.cell? ⟨w.heap.size + 1, 2, none⟩ = some (.int .i64 bz) :=
  ⟨h.1.cell 0, h.1.cell 1, h.1.cell 2, h.2.1.cell 0, h.2.1.cell 1, h.2.1.cell 2⟩
/-- the new variable lies at n -/
def VNew (W : World) (B n : Nat) : Prop := Blk W n 23 #[.int .i64 0, .int .i64 0, .int .i64 0] ∧ B + 4 ≤ n
theorem VNew.start (h : Fr4 w ax ay az bx by_ bz t W) : VNew (W.alloc (.cells #[.int .i64 0, .int .i64 0, .int .i64 0] 23)) w.heap.size W.heap.size := ⟨Blk.new _ _ _, h.lt⟩
theorem VNew.le {B n : Nat} (h : VNew W B n) : B + 4 ≤ n := h.2
theorem VNew.start_at (h : Fr4 w ax ay az bx by_ bz t W) {n : Nat} (hn : n = W.heap.size) : VNew (W.alloc (.cells #[.int .i64 0, .int .i64 0, .int .i64 0] 23)) w.heap.size n := by subst hn; exact ⟨Blk.new _ _ _, h.lt⟩
theorem VNew.drew {B n : Nat} (h : VNew W B n) : VNew W.drew B n := ⟨h.1.drew, h.2⟩
theorem VNew.step {B n : Nat} (h : VNew W B n) (hg : W.grownBy W' (some (B + 1 + 1 + 1))) : VNew W' B n := ⟨h.1.grown hg (by have := h.2; simp; omega), h.2⟩
theorem VNew.six {B n : Nat} (h : VNew W B n) : W.cell? ⟨n, 0, none⟩ = some (.int .i64 0) ∧ W.cell? ⟨n, 1, none⟩ = some (.int .i64 0) ∧ W.cell? ⟨n, 2, none⟩ = some (.int .i64 0) ∧ W.frozen? ⟨n, 0, none⟩ = false ∧ W.frozen? ⟨n, 1, none⟩ = false ∧ W.frozen? ⟨n, 2, none⟩ = false :=
  ⟨h.1.cell 0, h.1.cell 1, h.1.cell 2, h.1.frozen 0, h.1.frozen 1, h.1.frozen 2⟩
theorem grown_three (W : World) (n : Nat) (x y z : Value) : W.grownBy (((W.setCell ⟨n, 0, none⟩ x).setCell ⟨n, 1, none⟩ y).setCell ⟨n, 2, none⟩ z) (some n) := grown_trans (grown_trans (grown_set _ _ _ _) (grown_set _ _ _ _)) (grown_set _ _ _ _)
theorem three_cells {B n : Nat} (h : VNew W B n) (x y z : Value) : Blk (((W.setCell ⟨n, 0, none⟩ x).setCell ⟨n, 1, none⟩ y).setCell ⟨n, 2, none⟩ z) n 23 #[x, y, z] := by
  have := ((h.1.set_ 0 x).set_ 1 y).set_ 2 z
  simpa using this
theorem CutE.of_set {n : Nat} (h : Fr4 w ax ay az bx by_ bz t W) (hv : VNew W w.heap.size n) (x y z : Int) : CutE w x y z t (.pointer (some ⟨n, 0, none⟩)) (((W.setCell ⟨n, 0, none⟩ (.int .i64 x)).setCell ⟨n, 1, none⟩ (.int .i64 y)).setCell ⟨n, 2, none⟩ (.int .i64 z)) := by
  have hf := h.far (grown_three W n (.int .i64 x) (.int .i64 y) (.int .i64 z)) hv.2
  exact ⟨n, rfl, hv.2, three_cells hv _ _ _, hf.reck, hf.2.2.1, hf.2.2.2.2⟩
theorem CutE.of_new (h : Fr4 w ax ay az bx by_ bz t W) (x y z : Int) : CutE w x y z t (.pointer (some ⟨W.heap.size, 0, none⟩)) (W.alloc (.cells #[.int .i64 x, .int .i64 y, .int .i64 z] 23)) := by
  have hf := h.alloc (.cells #[.int .i64 x, .int .i64 y, .int .i64 z] 23)
  exact ⟨_, rfl, h.lt, Blk.new _ _ _, hf.reck, hf.2.2.1, hf.2.2.2.2⟩
end
def opV (op : Int → Int → Int) (a b : V3) : V3 := ⟨cl (op a.x b.x), cl (op a.y b.y), cl (op a.z b.z)⟩
def opO (op : Int → Int → Int) (a b : V3) : Bool := out (op a.x b.x) || out (op a.y b.y) || out (op a.z b.z)

-- EACH
set_option maxRecDepth 100000 in
set_option maxHeartbeats 4000000 in
theorem each_add (op : Int → Int → Int) (hop : Step3 62 op) (a b : V3) (ha : a.In) (hb : b.In) (w : World) :
    Calls Try.prog 61 #[a.val, b.val, .func (.func 62) #[] #[]] w fun e w' => e = .returned (.tuple #[(opV op a b).val, .bool (opO op a b)]) ∧ Below w.heap.size w w' := by
  obtain ⟨ax, ay, az⟩ := a
  obtain ⟨bx, by_, bz⟩ := b
  obtain ⟨hax, hay, haz⟩ := ha
  obtain ⟨hbx, hby, hbz⟩ := hb
  simp only at hax hay haz hbx hby hbz
  have K1 := fun g W t (h : Reck W g t) => Lib.hid (hop g ax bx t W hax hbx h)
  have K2 := fun g W t (h : Reck W g t) => Lib.hid (hop g ay by_ t W hay hby h)
  have K3 := fun g W t (h : Reck W g t) => Lib.hid (hop g az bz t W haz hbz h)
  unfold V3.val opV opO
  simp only
  generalize cl (op ax bx) = m1 at *
  generalize out (op ax bx) = o1 at *
  generalize cl (op ay by_) = m2 at *
  generalize out (op ay by_) = o2 at *
  generalize cl (op az bz) = m3 at *
  generalize out (op az bz) = o3 at *
  clear hop hax hay haz hbx hby hbz
  go_enter Try.func61, Try.ntmps61
  go_upto_region 2 with fail
  go_cut [9] (fun s9 wx => CutE w m1 m2 m3 (o1 || o2 || o3) s9 wx)
  case first =>
    have hF0 := Fr4.start w ax ay az bx by_ bz
    have hF := hF0.drew
    go_region_held3 (fun w' => w'.cell? ⟨w.heap.size, 0, none⟩ = some (.int .i64 ax) ∧ w'.cell? ⟨w.heap.size, 1, none⟩ = some (.int .i64 ay) ∧ w'.cell? ⟨w.heap.size, 2, none⟩ = some (.int .i64 az) ∧
      w'.cell? ⟨w.heap.size + 1, 0, none⟩ = some (.int .i64 bx) ∧ w'.cell? ⟨w.heap.size + 1, 1, none⟩ = some (.int .i64 by_) ∧ w'.cell? ⟨w.heap.size + 1, 2, none⟩ = some (.int .i64 bz))
      (first | with_reducible exact hF.six | with_reducible exact (hF.alloc _).six | with_reducible exact ((hF0.alloc _).drew).six | with_reducible exact ((hF.far (grown_three _ _ _ _ _) hV.le).six))
      (first | ((first | ((with_reducible refine (Hid.out (K1 _ _ _ hF.reck)).mono ?_); rintro e w1 ⟨rfl, hr1, hg1⟩; have hF1 := hF.step hr1 hg1; (try (have hV1 := hV.step hg1; clear hV v0 v1 v2 f0 f1 f2; have hV := hV1; clear hV1; obtain ⟨v0, v1, v2, f0, f1, f2⟩ := hV.six))) | ((with_reducible refine (Hid.out (K1 _ _ _ (hF.alloc _).reck)).mono ?_); rintro e w1 ⟨rfl, hr1, hg1⟩; have hF1 := (hF.alloc _).step hr1 hg1; have hV := (VNew.start hF).step hg1; obtain ⟨v0, v1, v2, f0, f1, f2⟩ := hV.six) | ((with_reducible refine (Hid.out (K1 _ _ _ ((hF0.alloc _).drew).reck)).mono ?_); rintro e w1 ⟨rfl, hr1, hg1⟩; have hF1 := ((hF0.alloc _).drew).step hr1 hg1; have hV := ((VNew.start_at hF0 (n := w.heap.size + 1 + 1 + 1 + 1) (by simp)).drew).step hg1; obtain ⟨v0, v1, v2, f0, f1, f2⟩ := hV.six)); clear hF; have hF := hF1; clear hF1 hr1 hg1) | ((first | ((with_reducible refine (Hid.out (K2 _ _ _ hF.reck)).mono ?_); rintro e w1 ⟨rfl, hr1, hg1⟩; have hF1 := hF.step hr1 hg1; (try (have hV1 := hV.step hg1; clear hV v0 v1 v2 f0 f1 f2; have hV := hV1; clear hV1; obtain ⟨v0, v1, v2, f0, f1, f2⟩ := hV.six))) | ((with_reducible refine (Hid.out (K2 _ _ _ (hF.alloc _).reck)).mono ?_); rintro e w1 ⟨rfl, hr1, hg1⟩; have hF1 := (hF.alloc _).step hr1 hg1; have hV := (VNew.start hF).step hg1; obtain ⟨v0, v1, v2, f0, f1, f2⟩ := hV.six)); clear hF; have hF := hF1; clear hF1 hr1 hg1) | ((first | ((with_reducible refine (Hid.out (K3 _ _ _ hF.reck)).mono ?_); rintro e w1 ⟨rfl, hr1, hg1⟩; have hF1 := hF.step hr1 hg1; (try (have hV1 := hV.step hg1; clear hV v0 v1 v2 f0 f1 f2; have hV := hV1; clear hV1; obtain ⟨v0, v1, v2, f0, f1, f2⟩ := hV.six))) | ((with_reducible refine (Hid.out (K3 _ _ _ (hF.alloc _).reck)).mono ?_); rintro e w1 ⟨rfl, hr1, hg1⟩; have hF1 := (hF.alloc _).step hr1 hg1; have hV := (VNew.start hF).step hg1; obtain ⟨v0, v1, v2, f0, f1, f2⟩ := hV.six)); clear hF; have hF := hF1; clear hF1 hr1 hg1))
    all_goals (go_wp2_with fail; go_meet)
    all_goals (rw [Bool.false_or] at hF)
    all_goals first | with_reducible exact CutE.of_new hF m1 m2 m3 | with_reducible exact CutE.of_set hF hV m1 m2 m3
  case rest =>
    obtain ⟨n, rfl, hn, hv, hr, hz, hB⟩ := hcut
    have v0 := hv.cell 0
    have v1 := hv.cell 1
    have v2 := hv.cell 2
    have r0 := Blk.cell hr 0
    have z0 := hz.cell 0
    have z1 := hz.cell 1
    have z2 := hz.cell 2
    have f0 := hz.frozen 0
    have f1 := hz.frozen 1
    have f2 := hz.frozen 2
    simp only [List.getElem?_toArray, List.getElem?_cons_zero, List.getElem?_cons_succ] at v0 v1 v2 r0 z0 z1 z2
    have HB := Lib.hid hB
    clear hv hr hz hB K1 K2 K3
    go_wp2_with fail
    go_region
    all_goals (go_wp2_with fail)
    all_goals (refine bodyPost_ret (v := .tuple #[.agg #[.int .i64 m1, .int .i64 m2, .int .i64 m3], .bool (o1 || o2 || o3)]) (by simp [results, Try.results61, go_sem, z0, z1, z2]) rfl ⟨rfl, ?_⟩)
    all_goals exact (((HB.out.drew.setCell (by simp; omega) _).setCell (by simp; omega) _).setCell (by simp; omega) _)
-- EACH
set_option maxRecDepth 100000 in
set_option maxHeartbeats 4000000 in
theorem each_sub (op : Int → Int → Int) (hop : Step3 72 op) (a b : V3) (ha : a.In) (hb : b.In) (w : World) :
    Calls Try.prog 61 #[a.val, b.val, .func (.func 72) #[] #[]] w fun e w' => e = .returned (.tuple #[(opV op a b).val, .bool (opO op a b)]) ∧ Below w.heap.size w w' := by
  obtain ⟨ax, ay, az⟩ := a
  obtain ⟨bx, by_, bz⟩ := b
  obtain ⟨hax, hay, haz⟩ := ha
  obtain ⟨hbx, hby, hbz⟩ := hb
  simp only at hax hay haz hbx hby hbz
  have K1 := fun g W t (h : Reck W g t) => Lib.hid (hop g ax bx t W hax hbx h)
  have K2 := fun g W t (h : Reck W g t) => Lib.hid (hop g ay by_ t W hay hby h)
  have K3 := fun g W t (h : Reck W g t) => Lib.hid (hop g az bz t W haz hbz h)
  unfold V3.val opV opO
  simp only
  generalize cl (op ax bx) = m1 at *
  generalize out (op ax bx) = o1 at *
  generalize cl (op ay by_) = m2 at *
  generalize out (op ay by_) = o2 at *
  generalize cl (op az bz) = m3 at *
  generalize out (op az bz) = o3 at *
  clear hop hax hay haz hbx hby hbz
  go_enter Try.func61, Try.ntmps61
  go_upto_region 2 with fail
  go_cut [9] (fun s9 wx => CutE w m1 m2 m3 (o1 || o2 || o3) s9 wx)
  case first =>
    have hF0 := Fr4.start w ax ay az bx by_ bz
    have hF := hF0.drew
    go_region_held3 (fun w' => w'.cell? ⟨w.heap.size, 0, none⟩ = some (.int .i64 ax) ∧ w'.cell? ⟨w.heap.size, 1, none⟩ = some (.int .i64 ay) ∧ w'.cell? ⟨w.heap.size, 2, none⟩ = some (.int .i64 az) ∧
      w'.cell? ⟨w.heap.size + 1, 0, none⟩ = some (.int .i64 bx) ∧ w'.cell? ⟨w.heap.size + 1, 1, none⟩ = some (.int .i64 by_) ∧ w'.cell? ⟨w.heap.size + 1, 2, none⟩ = some (.int .i64 bz))
      (first | with_reducible exact hF.six | with_reducible exact (hF.alloc _).six | with_reducible exact ((hF0.alloc _).drew).six | with_reducible exact ((hF.far (grown_three _ _ _ _ _) hV.le).six))
      (first | ((first | ((with_reducible refine (Hid.out (K1 _ _ _ hF.reck)).mono ?_); rintro e w1 ⟨rfl, hr1, hg1⟩; have hF1 := hF.step hr1 hg1; (try (have hV1 := hV.step hg1; clear hV v0 v1 v2 f0 f1 f2; have hV := hV1; clear hV1; obtain ⟨v0, v1, v2, f0, f1, f2⟩ := hV.six))) | ((with_reducible refine (Hid.out (K1 _ _ _ (hF.alloc _).reck)).mono ?_); rintro e w1 ⟨rfl, hr1, hg1⟩; have hF1 := (hF.alloc _).step hr1 hg1; have hV := (VNew.start hF).step hg1; obtain ⟨v0, v1, v2, f0, f1, f2⟩ := hV.six) | ((with_reducible refine (Hid.out (K1 _ _ _ ((hF0.alloc _).drew).reck)).mono ?_); rintro e w1 ⟨rfl, hr1, hg1⟩; have hF1 := ((hF0.alloc _).drew).step hr1 hg1; have hV := ((VNew.start_at hF0 (n := w.heap.size + 1 + 1 + 1 + 1) (by simp)).drew).step hg1; obtain ⟨v0, v1, v2, f0, f1, f2⟩ := hV.six)); clear hF; have hF := hF1; clear hF1 hr1 hg1) | ((first | ((with_reducible refine (Hid.out (K2 _ _ _ hF.reck)).mono ?_); rintro e w1 ⟨rfl, hr1, hg1⟩; have hF1 := hF.step hr1 hg1; (try (have hV1 := hV.step hg1; clear hV v0 v1 v2 f0 f1 f2; have hV := hV1; clear hV1; obtain ⟨v0, v1, v2, f0, f1, f2⟩ := hV.six))) | ((with_reducible refine (Hid.out (K2 _ _ _ (hF.alloc _).reck)).mono ?_); rintro e w1 ⟨rfl, hr1, hg1⟩; have hF1 := (hF.alloc _).step hr1 hg1; have hV := (VNew.start hF).step hg1; obtain ⟨v0, v1, v2, f0, f1, f2⟩ := hV.six)); clear hF; have hF := hF1; clear hF1 hr1 hg1) | ((first | ((with_reducible refine (Hid.out (K3 _ _ _ hF.reck)).mono ?_); rintro e w1 ⟨rfl, hr1, hg1⟩; have hF1 := hF.step hr1 hg1; (try (have hV1 := hV.step hg1; clear hV v0 v1 v2 f0 f1 f2; have hV := hV1; clear hV1; obtain ⟨v0, v1, v2, f0, f1, f2⟩ := hV.six))) | ((with_reducible refine (Hid.out (K3 _ _ _ (hF.alloc _).reck)).mono ?_); rintro e w1 ⟨rfl, hr1, hg1⟩; have hF1 := (hF.alloc _).step hr1 hg1; have hV := (VNew.start hF).step hg1; obtain ⟨v0, v1, v2, f0, f1, f2⟩ := hV.six)); clear hF; have hF := hF1; clear hF1 hr1 hg1))
    all_goals (go_wp2_with fail; go_meet)
    all_goals (rw [Bool.false_or] at hF)
    all_goals first | with_reducible exact CutE.of_new hF m1 m2 m3 | with_reducible exact CutE.of_set hF hV m1 m2 m3
  case rest =>
    obtain ⟨n, rfl, hn, hv, hr, hz, hB⟩ := hcut
    have v0 := hv.cell 0
    have v1 := hv.cell 1
    have v2 := hv.cell 2
    have r0 := Blk.cell hr 0
    have z0 := hz.cell 0
    have z1 := hz.cell 1
    have z2 := hz.cell 2
    have f0 := hz.frozen 0
    have f1 := hz.frozen 1
    have f2 := hz.frozen 2
    simp only [List.getElem?_toArray, List.getElem?_cons_zero, List.getElem?_cons_succ] at v0 v1 v2 r0 z0 z1 z2
    have HB := Lib.hid hB
    clear hv hr hz hB K1 K2 K3
    go_wp2_with fail
    go_region
    all_goals (go_wp2_with fail)
    all_goals (refine bodyPost_ret (v := .tuple #[.agg #[.int .i64 m1, .int .i64 m2, .int .i64 m3], .bool (o1 || o2 || o3)]) (by simp [results, Try.results61, go_sem, z0, z1, z2]) rfl ⟨rfl, ?_⟩)
    all_goals exact (((HB.out.drew.setCell (by simp; omega) _).setCell (by simp; omega) _).setCell (by simp; omega) _)
-- EACH
set_option maxRecDepth 100000 in
set_option maxHeartbeats 4000000 in
theorem each_mul (op : Int → Int → Int) (hop : Step3 73 op) (a b : V3) (ha : a.In) (hb : b.In) (w : World) :
    Calls Try.prog 61 #[a.val, b.val, .func (.func 73) #[] #[]] w fun e w' => e = .returned (.tuple #[(opV op a b).val, .bool (opO op a b)]) ∧ Below w.heap.size w w' := by
  obtain ⟨ax, ay, az⟩ := a
  obtain ⟨bx, by_, bz⟩ := b
  obtain ⟨hax, hay, haz⟩ := ha
  obtain ⟨hbx, hby, hbz⟩ := hb
  simp only at hax hay haz hbx hby hbz
  have K1 := fun g W t (h : Reck W g t) => Lib.hid (hop g ax bx t W hax hbx h)
  have K2 := fun g W t (h : Reck W g t) => Lib.hid (hop g ay by_ t W hay hby h)
  have K3 := fun g W t (h : Reck W g t) => Lib.hid (hop g az bz t W haz hbz h)
  unfold V3.val opV opO
  simp only
  generalize cl (op ax bx) = m1 at *
  generalize out (op ax bx) = o1 at *
  generalize cl (op ay by_) = m2 at *
  generalize out (op ay by_) = o2 at *
  generalize cl (op az bz) = m3 at *
  generalize out (op az bz) = o3 at *
  clear hop hax hay haz hbx hby hbz
  go_enter Try.func61, Try.ntmps61
  go_upto_region 2 with fail
  go_cut [9] (fun s9 wx => CutE w m1 m2 m3 (o1 || o2 || o3) s9 wx)
  case first =>
    have hF0 := Fr4.start w ax ay az bx by_ bz
    have hF := hF0.drew
    go_region_held3 (fun w' => w'.cell? ⟨w.heap.size, 0, none⟩ = some (.int .i64 ax) ∧ w'.cell? ⟨w.heap.size, 1, none⟩ = some (.int .i64 ay) ∧ w'.cell? ⟨w.heap.size, 2, none⟩ = some (.int .i64 az) ∧
      w'.cell? ⟨w.heap.size + 1, 0, none⟩ = some (.int .i64 bx) ∧ w'.cell? ⟨w.heap.size + 1, 1, none⟩ = some (.int .i64 by_) ∧ w'.cell? ⟨w.heap.size + 1, 2, none⟩ = some (.int .i64 bz))
      (first | with_reducible exact hF.six | with_reducible exact (hF.alloc _).six | with_reducible exact ((hF0.alloc _).drew).six | with_reducible exact ((hF.far (grown_three _ _ _ _ _) hV.le).six))
      (first | ((first | ((with_reducible refine (Hid.out (K1 _ _ _ hF.reck)).mono ?_); rintro e w1 ⟨rfl, hr1, hg1⟩; have hF1 := hF.step hr1 hg1; (try (have hV1 := hV.step hg1; clear hV v0 v1 v2 f0 f1 f2; have hV := hV1; clear hV1; obtain ⟨v0, v1, v2, f0, f1, f2⟩ := hV.six))) | ((with_reducible refine (Hid.out (K1 _ _ _ (hF.alloc _).reck)).mono ?_); rintro e w1 ⟨rfl, hr1, hg1⟩; have hF1 := (hF.alloc _).step hr1 hg1; have hV := (VNew.start hF).step hg1; obtain ⟨v0, v1, v2, f0, f1, f2⟩ := hV.six) | ((with_reducible refine (Hid.out (K1 _ _ _ ((hF0.alloc _).drew).reck)).mono ?_); rintro e w1 ⟨rfl, hr1, hg1⟩; have hF1 := ((hF0.alloc _).drew).step hr1 hg1; have hV := ((VNew.start_at hF0 (n := w.heap.size + 1 + 1 + 1 + 1) (by simp)).drew).step hg1; obtain ⟨v0, v1, v2, f0, f1, f2⟩ := hV.six)); clear hF; have hF := hF1; clear hF1 hr1 hg1) | ((first | ((with_reducible refine (Hid.out (K2 _ _ _ hF.reck)).mono ?_); rintro e w1 ⟨rfl, hr1, hg1⟩; have hF1 := hF.step hr1 hg1; (try (have hV1 := hV.step hg1; clear hV v0 v1 v2 f0 f1 f2; have hV := hV1; clear hV1; obtain ⟨v0, v1, v2, f0, f1, f2⟩ := hV.six))) | ((with_reducible refine (Hid.out (K2 _ _ _ (hF.alloc _).reck)).mono ?_); rintro e w1 ⟨rfl, hr1, hg1⟩; have hF1 := (hF.alloc _).step hr1 hg1; have hV := (VNew.start hF).step hg1; obtain ⟨v0, v1, v2, f0, f1, f2⟩ := hV.six)); clear hF; have hF := hF1; clear hF1 hr1 hg1) | ((first | ((with_reducible refine (Hid.out (K3 _ _ _ hF.reck)).mono ?_); rintro e w1 ⟨rfl, hr1, hg1⟩; have hF1 := hF.step hr1 hg1; (try (have hV1 := hV.step hg1; clear hV v0 v1 v2 f0 f1 f2; have hV := hV1; clear hV1; obtain ⟨v0, v1, v2, f0, f1, f2⟩ := hV.six))) | ((with_reducible refine (Hid.out (K3 _ _ _ (hF.alloc _).reck)).mono ?_); rintro e w1 ⟨rfl, hr1, hg1⟩; have hF1 := (hF.alloc _).step hr1 hg1; have hV := (VNew.start hF).step hg1; obtain ⟨v0, v1, v2, f0, f1, f2⟩ := hV.six)); clear hF; have hF := hF1; clear hF1 hr1 hg1))
    all_goals (go_wp2_with fail; go_meet)
    all_goals (rw [Bool.false_or] at hF)
    all_goals first | with_reducible exact CutE.of_new hF m1 m2 m3 | with_reducible exact CutE.of_set hF hV m1 m2 m3
  case rest =>
    obtain ⟨n, rfl, hn, hv, hr, hz, hB⟩ := hcut
    have v0 := hv.cell 0
    have v1 := hv.cell 1
    have v2 := hv.cell 2
    have r0 := Blk.cell hr 0
    have z0 := hz.cell 0
    have z1 := hz.cell 1
    have z2 := hz.cell 2
    have f0 := hz.frozen 0
    have f1 := hz.frozen 1
    have f2 := hz.frozen 2
    simp only [List.getElem?_toArray, List.getElem?_cons_zero, List.getElem?_cons_succ] at v0 v1 v2 r0 z0 z1 z2
    have HB := Lib.hid hB
    clear hv hr hz hB K1 K2 K3
    go_wp2_with fail
    go_region
    all_goals (go_wp2_with fail)
    all_goals (refine bodyPost_ret (v := .tuple #[.agg #[.int .i64 m1, .int .i64 m2, .int .i64 m3], .bool (o1 || o2 || o3)]) (by simp [results, Try.results61, go_sem, z0, z1, z2]) rfl ⟨rfl, ?_⟩)
    all_goals exact (((HB.out.drew.setCell (by simp; omega) _).setCell (by simp; omega) _).setCell (by simp; omega) _)
end Go.Proofs.Ytflaanfmanileaa
