/- Merged: FilHand. -/
import Derived.Deep.CutRange
import Derived.Deep.DrawnRows
import Derived.Deep.RegionHeld3
import Derived.Test.YtofeoeknmlkjgaaZ18
import Derived.Test.YtofeoeknmlkjgaaZ22
import Derived.Test.YtofeoeknmlkjgaaZ23
set_option linter.unusedVariables false
set_option linter.unusedSimpArgs false
section
/- filter's hand: see, add, sub, mul, div: a state is worked on, and bent where a number stopped. -/
set_option linter.unusedVariables false
namespace Go.Proofs.Ytofeoeknmlkjgaa.Fi
open Go.RowKit Go.Proofs.Ytofeoeknmlkjgaa Fx

structure St where
  x : Int
  v : Int
  p : Int
  q : Int
  r : Int
  b : Bool
  m : Int
def St.In (s : St) : Prop := Fx.In s.x ∧ Fx.In s.v ∧ Fx.In s.p ∧ Fx.In s.q ∧ Fx.In s.r ∧ Fx.In s.m
def St.val (s : St) : Value := .agg #[.int .i64 s.x, .int .i64 s.v, .int .i64 s.p, .int .i64 s.q, .int .i64 s.r, .bool s.b, .int .i64 s.m]
def SB (w : World) (g : Nat) (s : St) : Prop := Blk w g 33 #[.int .i64 s.x, .int .i64 s.v, .int .i64 s.p, .int .i64 s.q, .int .i64 s.r, .bool s.b, .int .i64 s.m]
theorem SB.c {W : World} {g : Nat} {s : St} (h : SB W g s) : W.cell? ⟨g, 0, none⟩ = some (.int .i64 s.x) ∧ W.cell? ⟨g, 1, none⟩ = some (.int .i64 s.v) ∧ W.cell? ⟨g, 2, none⟩ = some (.int .i64 s.p) ∧
    W.cell? ⟨g, 3, none⟩ = some (.int .i64 s.q) ∧ W.cell? ⟨g, 4, none⟩ = some (.int .i64 s.r) ∧ W.cell? ⟨g, 5, none⟩ = some (.bool s.b) ∧ W.cell? ⟨g, 6, none⟩ = some (.int .i64 s.m) :=
  ⟨Blk.cell h 0, Blk.cell h 1, Blk.cell h 2, Blk.cell h 3, Blk.cell h 4, Blk.cell h 5, Blk.cell h 6⟩
theorem SB.next {W W' : World} {g : Nat} {s : St} (h : SB W g s) (hb : Below W.heap.size W W') : SB W' g s := Blk.next h hb
theorem SB.alloc {W : World} {g : Nat} {s : St} (h : SB W g s) (o : Obj) : SB (W.alloc o) g s := Blk.alloc h o
theorem SB.drew {W : World} {g : Nat} {s : St} (h : SB W g s) : SB W.drew g s := Blk.drew h
def St.bend (s : St) (o : Bool) : St := { s with b := s.b || o }
def handV (g : Nat) : Value := .agg #[.pointer (some ⟨g, 0, none⟩)]

theorem hsee_any (g : Nat) (n : Int) (s : St) (c : Bool) (w : World) (h : SB w g s) :
    Calls Try.prog 88 #[handV g, .int .i64 n, .bool c] w fun e w' => e = .returned (.int .i64 n) ∧ SB w' g (s.bend c) ∧ w.grownBy w' (some g) := by
  obtain ⟨x, v, p, q, r, b, m⟩ := s
  have h1 := SB.alloc h (.cells #[.pointer (some ⟨g, 0, none⟩)] 137)
  have h0 := Blk.cell h1 5
  have f0 := Blk.frozen h1 5
  simp only [List.getElem?_toArray, List.getElem?_cons_zero, List.getElem?_cons_succ] at h0
  have H := Lib.hid h
  have hlt := Blk.lt h
  clear h h1
  unfold handV St.bend
  cases b
  all_goals
    go_enter Try.func88, Try.ntmps88
    go_upto_region 1 with fail
    go_region
    go_wp2_with fail
    go_ret
    exact ⟨rfl, ((Blk.set_ H.out 5 _).alloc _).drew, grown_trans (grown_set _ _ _ _) (grown_below (((Below.refl _ _).alloc (Nat.le_refl _) _).drew))⟩

theorem hadd_any (g : Nat) (a b : Int) (s : St) (w : World) (ha : In a) (hb : In b) (h : SB w g s) :
    Calls Try.prog 70 #[handV g, .int .i64 a, .int .i64 b] w fun e w' => e = .returned (.int .i64 (cl (a + b))) ∧ SB w' g (s.bend (out (a + b))) ∧ w.grownBy w' (some g) := by
  have k1 := fun W => add_any a b ha hb W
  simp only [Fx.res] at k1
  have K1 := Lib.hid k1
  have H1 := Lib.hid (SB.alloc h (.cells #[.pointer (some ⟨g, 0, none⟩)] 137))
  have ks := fun W n c (hW : SB W g s) => hsee_any g n s c W hW
  unfold handV at ks ⊢
  have KS := Lib.hid ks
  have P0 := Lib.hid (Blk.new w 137 #[.pointer (some ⟨g, 0, none⟩)])
  have hlt := Blk.lt h
  clear k1 ha hb h ks
  generalize cl (a + b) = x at *
  generalize out (a + b) = o at *
  go_enter Try.func70, Try.ntmps70
  go_upto_region 1 with fail
  have hP := P0.out.drew
  have hS := H1.out.drew
  have hG := grown_below (row := some g) ((Below.refl w.heap.size w).alloc (Nat.le_refl _) (.cells #[.pointer (some ⟨g, 0, none⟩)] 137)).drew
  clear P0 H1
  go_region_held3 (fun w' => w'.cell? ⟨w.heap.size, 0, none⟩ = some (.pointer (some ⟨g, 0, none⟩))) (exact hP.cell 0) (first
    | (go_at_call 90; (with_reducible refine (K1.out _).mono ?_); rintro e w1 ⟨rfl, rfl⟩)
    | (go_at_call 88; (with_reducible refine (KS.out _ _ _ hS).mono ?_); rintro e w2 ⟨rfl, hr, hg⟩; have p1 := hP.grown hg (by intro e; injection e with e; omega); have g1 := grown_trans hG hg; clear hP hS hG hg; have hP := p1; have hS := hr; have hG := g1; clear p1 hr g1))
  go_wp2_with fail
  go_ret
  exact ⟨rfl, hS, hG⟩

theorem hsub_any (g : Nat) (a b : Int) (s : St) (w : World) (ha : In a) (hb : In b) (h : SB w g s) :
    Calls Try.prog 69 #[handV g, .int .i64 a, .int .i64 b] w fun e w' => e = .returned (.int .i64 (cl (a - b))) ∧ SB w' g (s.bend (out (a - b))) ∧ w.grownBy w' (some g) := by
  have k1 := fun W => sub_any a b ha hb W
  simp only [Fx.res] at k1
  have K1 := Lib.hid k1
  have H1 := Lib.hid (SB.alloc h (.cells #[.pointer (some ⟨g, 0, none⟩)] 137))
  have ks := fun W n c (hW : SB W g s) => hsee_any g n s c W hW
  unfold handV at ks ⊢
  have KS := Lib.hid ks
  have P0 := Lib.hid (Blk.new w 137 #[.pointer (some ⟨g, 0, none⟩)])
  have hlt := Blk.lt h
  clear k1 ha hb h ks
  generalize cl (a - b) = x at *
  generalize out (a - b) = o at *
  go_enter Try.func69, Try.ntmps69
  go_upto_region 1 with fail
  have hP := P0.out.drew
  have hS := H1.out.drew
  have hG := grown_below (row := some g) ((Below.refl w.heap.size w).alloc (Nat.le_refl _) (.cells #[.pointer (some ⟨g, 0, none⟩)] 137)).drew
  clear P0 H1
  go_region_held3 (fun w' => w'.cell? ⟨w.heap.size, 0, none⟩ = some (.pointer (some ⟨g, 0, none⟩))) (exact hP.cell 0) (first
    | (go_at_call 89; (with_reducible refine (K1.out _).mono ?_); rintro e w1 ⟨rfl, rfl⟩)
    | (go_at_call 88; (with_reducible refine (KS.out _ _ _ hS).mono ?_); rintro e w2 ⟨rfl, hr, hg⟩; have p1 := hP.grown hg (by intro e; injection e with e; omega); have g1 := grown_trans hG hg; clear hP hS hG hg; have hP := p1; have hS := hr; have hG := g1; clear p1 hr g1))
  go_wp2_with fail
  go_ret
  exact ⟨rfl, hS, hG⟩

theorem hmul_any (g : Nat) (a b : Int) (s : St) (w : World) (ha : In a) (hb : In b) (h : SB w g s) :
    Calls Try.prog 71 #[handV g, .int .i64 a, .int .i64 b] w fun e w' => e = .returned (.int .i64 (cl (mulZ a b))) ∧ SB w' g (s.bend (out (mulZ a b))) ∧ w.grownBy w' (some g) := by
  have k1 := fun W => mul_any a b ha hb W
  simp only [Fx.res] at k1
  have K1 := Lib.hid k1
  have H1 := Lib.hid (SB.alloc h (.cells #[.pointer (some ⟨g, 0, none⟩)] 137))
  have ks := fun W n c (hW : SB W g s) => hsee_any g n s c W hW
  unfold handV at ks ⊢
  have KS := Lib.hid ks
  have P0 := Lib.hid (Blk.new w 137 #[.pointer (some ⟨g, 0, none⟩)])
  have hlt := Blk.lt h
  clear k1 ha hb h ks
  generalize cl (mulZ a b) = x at *
  generalize out (mulZ a b) = o at *
  go_enter Try.func71, Try.ntmps71
  go_upto_region 1 with fail
  have hP := P0.out.drew
  have hS := H1.out.drew
  have hG := grown_below (row := some g) ((Below.refl w.heap.size w).alloc (Nat.le_refl _) (.cells #[.pointer (some ⟨g, 0, none⟩)] 137)).drew
  clear P0 H1
  go_region_held3 (fun w' => w'.cell? ⟨w.heap.size, 0, none⟩ = some (.pointer (some ⟨g, 0, none⟩))) (exact hP.cell 0) (first
    | (go_at_call 91; (with_reducible refine (K1.out _).mono ?_); rintro e w1 ⟨rfl, hB1⟩; have p1 := hP.next hB1; have h1 := hS.next hB1; have g1 := grown_trans hG (grown_below (row := some g) hB1); clear hP hS hG hB1; have hP := p1; have hS := h1; have hG := g1; clear p1 h1 g1)
    | (go_at_call 88; (with_reducible refine (KS.out _ _ _ hS).mono ?_); rintro e w2 ⟨rfl, hr, hg⟩; have p1 := hP.grown hg (by intro e; injection e with e; omega); have g1 := grown_trans hG hg; clear hP hS hG hg; have hP := p1; have hS := hr; have hG := g1; clear p1 hr g1))
  go_wp2_with fail
  go_ret
  exact ⟨rfl, hS, hG⟩

theorem hdiv_any (g : Nat) (a b : Int) (s : St) (w : World) (ha : In a) (hb : In b) (h : SB w g s) :
    Calls Try.prog 72 #[handV g, .int .i64 a, .int .i64 b] w fun e w' => e = .returned (.int .i64 (divR a b)) ∧ SB w' g (s.bend (divB a b)) ∧ w.grownBy w' (some g) := by
  have k1 := fun W => div_any a b ha hb W
  have K1 := Lib.hid k1
  have H1 := Lib.hid (SB.alloc h (.cells #[.pointer (some ⟨g, 0, none⟩)] 137))
  have ks := fun W n c (hW : SB W g s) => hsee_any g n s c W hW
  unfold handV at ks ⊢
  have KS := Lib.hid ks
  have P0 := Lib.hid (Blk.new w 137 #[.pointer (some ⟨g, 0, none⟩)])
  have hlt := Blk.lt h
  clear k1 ha hb h ks
  generalize divR a b = x at *
  generalize divB a b = o at *
  go_enter Try.func72, Try.ntmps72
  go_upto_region 1 with fail
  have hP := P0.out.drew
  have hS := H1.out.drew
  have hG := grown_below (row := some g) ((Below.refl w.heap.size w).alloc (Nat.le_refl _) (.cells #[.pointer (some ⟨g, 0, none⟩)] 137)).drew
  clear P0 H1
  go_region_held3 (fun w' => w'.cell? ⟨w.heap.size, 0, none⟩ = some (.pointer (some ⟨g, 0, none⟩))) (exact hP.cell 0) (first
    | (go_at_call 92; (with_reducible refine (K1.out _).mono ?_); rintro e w1 ⟨rfl, hB1⟩; have p1 := hP.next hB1; have h1 := hS.next hB1; have g1 := grown_trans hG (grown_below (row := some g) hB1); clear hP hS hG hB1; have hP := p1; have hS := h1; have hG := g1; clear p1 h1 g1)
    | (go_at_call 88; (with_reducible refine (KS.out _ _ _ hS).mono ?_); rintro e w2 ⟨rfl, hr, hg⟩; have p1 := hP.grown hg (by intro e; injection e with e; omega); have g1 := grown_trans hG hg; clear hP hS hG hg; have hP := p1; have hS := hr; have hG := g1; clear p1 hr g1))
  go_wp2_with fail
  go_ret
  exact ⟨rfl, hS, hG⟩
end Go.Proofs.Ytofeoeknmlkjgaa.Fi
end
