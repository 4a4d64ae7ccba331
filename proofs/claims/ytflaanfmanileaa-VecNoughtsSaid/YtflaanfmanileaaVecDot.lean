/- The contracts of vec's dot, Dot, Length. -/
import Derived.Test.YtflaanfmanileaaVecReck
import Derived.Deep.RegionHeld3
import Derived.Deep.DrawnRows
import Derived.Deep.CutRange
set_option linter.unusedVariables false
namespace Go.Proofs.Ytflaanfmanileaa
open Go.RowKit Fx
attribute [local go_sem ↓] Go.wp_at_zero Go.wp_at_succ

namespace Fx
/-- a vector's parts -/
structure V3 where
  x : Int
  y : Int
  z : Int
/-- .. as a value -/
def V3.val (a : V3) : Value := .agg #[.int .i64 a.x, .int .i64 a.y, .int .i64 a.z]
def V3.In (a : V3) : Prop := Fx.In a.x ∧ Fx.In a.y ∧ Fx.In a.z
def dot2 (a b : V3) : Int := cl (mulZ a.x b.x) + cl (mulZ a.y b.y)
def dot3 (a b : V3) : Int := cl (dot2 a b) + cl (mulZ a.z b.z)
/-- did anything bend? -/
def dotO (a b : V3) : Bool := out (mulZ a.x b.x) || out (mulZ a.y b.y) || out (dot2 a b) || out (mulZ a.z b.z) || out (dot3 a b)
end Fx

/-- two vectors lie in two blocks of the call's own -/
def Two (W : World) (s : Nat) (ax ay az bx by_ bz : Int) : Prop :=
  Blk W s 23 #[.int .i64 ax, .int .i64 ay, .int .i64 az] ∧ Blk W (s + 1) 23 #[.int .i64 bx, .int .i64 by_, .int .i64 bz]
theorem Two.next {W W' : World} {s g : Nat} {ax ay az bx by_ bz : Int} (h : Two W s ax ay az bx by_ bz) (hg : W.grownBy W' (some g)) (hs : g < s) : Two W' s ax ay az bx by_ bz :=
  ⟨h.1.grown hg (by intro e; injection e with e; omega), h.2.grown hg (by intro e; injection e with e; omega)⟩
theorem Two.six {W : World} {s : Nat} {ax ay az bx by_ bz : Int} (h : Two W s ax ay az bx by_ bz) :
    W.cell? ⟨s, 0, none⟩ = some (.int .i64 ax) ∧ W.cell? ⟨s, 1, none⟩ = some (.int .i64 ay) ∧ W.cell? ⟨s, 2, none⟩ = some (.int .i64 az) ∧
      W.cell? ⟨s + 1, 0, none⟩ = some (.int .i64 bx) ∧ W.cell? ⟨s + 1, 1, none⟩ = some (.int .i64 by_) ∧ W.cell? ⟨s + 1, 2, none⟩ = some (.int .i64 bz) :=
  ⟨h.1.cell 0, h.1.cell 1, h.1.cell 2, h.2.cell 0, h.2.cell 1, h.2.cell 2⟩

set_option maxRecDepth 100000 in
set_option maxHeartbeats 4000000 in
theorem dot_any (g : Nat) (a b : V3) (t : Bool) (w : World) (ha : a.In) (hb : b.In) (h : Reck w g t) :
    Calls Try.prog 60 #[.pointer (some ⟨g, 0, none⟩), a.val, b.val] w fun e w' => e = .returned (.int .i64 (cl (dot3 a b))) ∧ RStep w w' g (t || dotO a b) := by
  obtain ⟨ax, ay, az⟩ := a
  obtain ⟨bx, by_, bz⟩ := b
  obtain ⟨hax, hay, haz⟩ := ha
  obtain ⟨hbx, hby, hbz⟩ := hb
  simp only at hax hay haz hbx hby hbz
  have K1 := fun W t (h : Reck W g t) => Lib.hid (rmul_any g ax bx t W hax hbx h)
  have K2 := fun W t (h : Reck W g t) => Lib.hid (rmul_any g ay by_ t W hay hby h)
  have K3 := fun W t (h : Reck W g t) => Lib.hid (radd_any g (cl (mulZ ax bx)) (cl (mulZ ay by_)) t W (In_cl _) (In_cl _) h)
  have K4 := fun W t (h : Reck W g t) => Lib.hid (rmul_any g az bz t W haz hbz h)
  have K5 := fun W t (h : Reck W g t) => Lib.hid (radd_any g (cl (cl (mulZ ax bx) + cl (mulZ ay by_))) (cl (mulZ az bz)) t W (In_cl _) (In_cl _) h)
  have hg : g < w.heap.size := h.lt
  have H := Lib.hid h
  have HW : Reck (((w.alloc (.cells #[.int .i64 ax, .int .i64 ay, .int .i64 az] 23)).alloc (.cells #[.int .i64 bx, .int .i64 by_, .int .i64 bz] 23)).drew) g t := ((h.alloc _).alloc _).drew
  have T0 : Two (((w.alloc (.cells #[.int .i64 ax, .int .i64 ay, .int .i64 az] 23)).alloc (.cells #[.int .i64 bx, .int .i64 by_, .int .i64 bz] 23)).drew) w.heap.size ax ay az bx by_ bz := ⟨((Blk.new w _ _).alloc _).drew, (Blk.at_ (w.alloc _) _ _ _ (by simp)).drew⟩
  have n1 : g ≠ w.heap.size := by omega
  have n2 : g ≠ w.heap.size + 1 := by omega
  clear h hax hay haz hbx hby hbz
  unfold V3.val dotO dot3 dot2
  simp only
  generalize cl (mulZ ax bx) = m1 at *
  generalize out (mulZ ax bx) = o1 at *
  generalize cl (mulZ ay by_) = m2 at *
  generalize out (mulZ ay by_) = o2 at *
  generalize cl (mulZ az bz) = m3 at *
  generalize out (mulZ az bz) = o4 at *
  generalize out (m1 + m2) = o3 at *
  generalize cl (m1 + m2) = s1 at *
  generalize out (s1 + m3) = o5 at *
  generalize cl (s1 + m3) = s2 at *
  go_enter Try.func60, Try.ntmps60
  go_upto_region 1 with fail
  have hr := HW
  have hT := T0
  have hG := grown_below (row := some g) ((((Below.refl w.heap.size w).alloc (Nat.le_refl _) (.cells #[.int .i64 ax, .int .i64 ay, .int .i64 az] 23)).alloc (by simp) (.cells #[.int .i64 bx, .int .i64 by_, .int .i64 bz] 23)).drew)
  clear HW T0
  go_region_held3 (fun w' => w'.cell? ⟨w.heap.size, 0, none⟩ = some (.int .i64 ax) ∧ w'.cell? ⟨w.heap.size, 1, none⟩ = some (.int .i64 ay) ∧ w'.cell? ⟨w.heap.size, 2, none⟩ = some (.int .i64 az) ∧
      w'.cell? ⟨w.heap.size + 1, 0, none⟩ = some (.int .i64 bx) ∧ w'.cell? ⟨w.heap.size + 1, 1, none⟩ = some (.int .i64 by_) ∧ w'.cell? ⟨w.heap.size + 1, 2, none⟩ = some (.int .i64 bz)) (exact Two.six hT) (first
    | (go_at_call 73; (with_reducible refine (Hid.out (K1 _ _ hr)).mono ?_); rintro e w1 ⟨rfl, hr1, hg1⟩; have hT1 := Two.next hT hg1 hg; have hG1 := grown_trans hG hg1; clear hr hT hG; have hr := hr1; have hT := hT1; have hG := hG1; clear hr1 hT1 hG1 hg1)
    | (go_at_call 73; (with_reducible refine (Hid.out (K2 _ _ hr)).mono ?_); rintro e w1 ⟨rfl, hr1, hg1⟩; have hT1 := Two.next hT hg1 hg; have hG1 := grown_trans hG hg1; clear hr hT hG; have hr := hr1; have hT := hT1; have hG := hG1; clear hr1 hT1 hG1 hg1)
    | (go_at_call 62; (with_reducible refine (Hid.out (K3 _ _ hr)).mono ?_); rintro e w1 ⟨rfl, hr1, hg1⟩; have hT1 := Two.next hT hg1 hg; have hG1 := grown_trans hG hg1; clear hr hT hG; have hr := hr1; have hT := hT1; have hG := hG1; clear hr1 hT1 hG1 hg1)
    | (go_at_call 73; (with_reducible refine (Hid.out (K4 _ _ hr)).mono ?_); rintro e w1 ⟨rfl, hr1, hg1⟩; have hT1 := Two.next hT hg1 hg; have hG1 := grown_trans hG hg1; clear hr hT hG; have hr := hr1; have hT := hT1; have hG := hG1; clear hr1 hT1 hG1 hg1)
    | (go_at_call 62; (with_reducible refine (Hid.out (K5 _ _ hr)).mono ?_); rintro e w1 ⟨rfl, hr1, hg1⟩; have hT1 := Two.next hT hg1 hg; have hG1 := grown_trans hG hg1; clear hr hT hG; have hr := hr1; have hT := hT1; have hG := hG1; clear hr1 hT1 hG1 hg1))
  go_wp2_with fail
  go_ret
  refine ⟨rfl, ?_, hG⟩
  rw [← Bool.or_assoc, ← Bool.or_assoc, ← Bool.or_assoc, ← Bool.or_assoc]
  exact hr
end Go.Proofs.Ytflaanfmanileaa
