/- Merged: FilStep. -/
import Derived.Test.YtofeoeknmlkjgaaZ27
set_option linter.unusedVariables false
set_option linter.unusedSimpArgs false
section
/- filter.Begin, filter.Step. -/
set_option linter.unusedVariables false
namespace Go.Proofs.Ytofeoeknmlkjgaa.Fi
open Go.RowKit Go.Proofs.Ytofeoeknmlkjgaa Fx
attribute [local go_sem ↓] Go.wp_at_zero Go.wp_at_succ

def set7 (W : World) (g : Nat) (s : St) : World := ((((((W.setCell ⟨g, 0, none⟩ (.int .i64 s.x)).setCell ⟨g, 1, none⟩ (.int .i64 s.v)).setCell ⟨g, 2, none⟩ (.int .i64 s.p)).setCell ⟨g, 3, none⟩ (.int .i64 s.q)).setCell ⟨g, 4, none⟩ (.int .i64 s.r)).setCell ⟨g, 5, none⟩ (.bool s.b)).setCell ⟨g, 6, none⟩ (.int .i64 s.m)
theorem sb_setb {W : World} {g : Nat} {x v p q r m : Int} {b : Bool} (h : SB W g ⟨x, v, p, q, r, b, m⟩) (y : Bool) : SB (W.setCell ⟨g, 5, none⟩ (.bool y)) g ⟨x, v, p, q, r, y, m⟩ := Blk.set_ h 5 _
theorem sb_set7 {W : World} {g : Nat} {s0 : St} (h : SB W g s0) (s : St) : SB (Fi.set7 W g s) g s := by
  obtain ⟨x0, v0, p0, q0, r0, b0, m0⟩ := s0
  obtain ⟨x, v, p, q, r, b, m⟩ := s
  exact sb_setm (sb_setb (sb_setr (sb_setq (sb_setp (sb_setv (sb_setx h x) v) p) q) r) b) m
theorem far7 {W : World} {g r : Nat} {t : TypeId} {cs : Array Value} (h : Blk W r t cs) (hne : r ≠ g) (s : St) : Blk (Fi.set7 W g s) r t cs := ((((((h.far hne _).far hne _).far hne _).far hne _).far hne _).far hne _).far hne _
theorem sb_far7 {W : World} {g r : Nat} {s0 : St} (h : SB W r s0) (hne : r ≠ g) (s : St) : SB (Fi.set7 W g s) r s0 := Fi.far7 h hne s
theorem below7 {B : Nat} {w W : World} {g : Nat} (h : Below B w W) (hg : B ≤ g) (s : St) : Below B w (Fi.set7 W g s) := ((((((h.setCell hg _).setCell hg _).setCell hg _).setCell hg _).setCell hg _).setCell hg _).setCell hg _
theorem SB.frz {W : World} {g : Nat} {s : St} (h : SB W g s) : W.frozen? ⟨g, 0, none⟩ = false ∧ W.frozen? ⟨g, 1, none⟩ = false ∧ W.frozen? ⟨g, 2, none⟩ = false ∧ W.frozen? ⟨g, 3, none⟩ = false ∧ W.frozen? ⟨g, 4, none⟩ = false ∧ W.frozen? ⟨g, 5, none⟩ = false ∧ W.frozen? ⟨g, 6, none⟩ = false :=
  ⟨Blk.frozen h 0, Blk.frozen h 1, Blk.frozen h 2, Blk.frozen h 3, Blk.frozen h 4, Blk.frozen h 5, Blk.frozen h 6⟩

structure Tu where
  dt : Int
  q : Int
  r : Int
  g : Int
def Tu.In (t : Tu) : Prop := Fx.In t.dt ∧ Fx.In t.q ∧ Fx.In t.r ∧ Fx.In t.g
def Tu.val (t : Tu) : Value := .agg #[.int .i64 t.dt, .int .i64 t.q, .int .i64 t.r, .int .i64 t.g]
def TB (W : World) (b : Nat) (t : Tu) : Prop := Blk W b 23 #[.int .i64 t.dt, .int .i64 t.q, .int .i64 t.r, .int .i64 t.g]
theorem TB.c {W : World} {b : Nat} {t : Tu} (h : TB W b t) : W.cell? ⟨b, 0, none⟩ = some (.int .i64 t.dt) ∧ W.cell? ⟨b, 1, none⟩ = some (.int .i64 t.q) ∧ W.cell? ⟨b, 2, none⟩ = some (.int .i64 t.r) ∧ W.cell? ⟨b, 3, none⟩ = some (.int .i64 t.g) :=
  ⟨Blk.cell h 0, Blk.cell h 1, Blk.cell h 2, Blk.cell h 3⟩

def begS (x : Int) : St := ⟨x, 0, 4294967296, 0, 4294967296, false, 0⟩
set_option maxRecDepth 100000 in
set_option maxHeartbeats 1000000 in
theorem Begin_any (x : Int) (w : World) : Calls Try.prog 30 #[.int .i64 x] w fun e w' => e = .returned (begS x).val ∧ Below w.heap.size w w' := by
  unfold begS St.val
  simp only
  go_enter Try.func30, Try.ntmps30
  go_wp2_with fail
  have HZ := Blk.new w 33 #[.int .i64 x, .int .i64 0, .int .i64 4294967296, .int .i64 0, .int .i64 4294967296, .bool false, .int .i64 0]
  refine bodyPost_ret (results_cell_row Try.results30 _ _ w.heap.size _ _ (0, 0) _ rfl HZ Try.underlying33 rfl (by kernel_rfl)) rfl ⟨rfl, (Below.refl _ _).alloc (Nat.le_refl _) _⟩

def stepS (s : St) (t : Tu) (z : Int) : St := updS (predS s t.dt t.q) z t.r t.g
def stepOk (s : St) (t : Tu) (z : Int) : Bool := updOk (predS s t.dt t.q) z t.r t.g
theorem stepS_in (s : St) (t : Tu) (z : Int) (hs : s.In) : (stepS s t z).In := updS_in _ _ _ _ (predS_in s t.dt t.q hs)
theorem step_results {W : World} {g : Nat} {s : St} (h : SB W g s) (e : Value) (tmps : Array Value) (h2 : tmps.getD 6 undef = .pointer (some ⟨g, 0, none⟩)) (h3 : tmps.getD 7 undef = e) :
    (results Try.f42 tmps).run Try.prog W = .ok (.tuple #[s.val, e]) W := by
  have h2' : tmps[6]?.getD undef = .pointer (some ⟨g, 0, none⟩) := by simpa using h2
  have h3' : tmps[7]?.getD undef = e := by simpa using h3
  simp [results, Try.results42, h2', h3', asAddr, run_loadVar_row (P := Try.prog) W g _ 33 _ (0, 0) _ h Try.underlying33 rfl (by kernel_rfl)]
  rfl

def SF (w0 W : World) (s : St) (t : Tu) (z : St) : Prop := SB W w0.heap.size s ∧ TB W (w0.heap.size + 1) t ∧ SB W (w0.heap.size + 1 + 1) z ∧ Below w0.heap.size w0 W
section
variable {w0 W W' : World} {s z : St} {t : Tu}
theorem SF.next (h : SF w0 W s t z) (hb : Below W.heap.size W W') : SF w0 W' s t z := ⟨h.1.next hb, Blk.next h.2.1 hb, h.2.2.1.next hb, below_next h.2.2.2 hb⟩
theorem SF.drew (h : SF w0 W s t z) : SF w0 W.drew s t z := ⟨h.1, h.2.1, h.2.2.1, h.2.2.2.drew⟩
theorem SF.lay (h : SF w0 W s t z) (u : St) : SF w0 (set7 W (w0.heap.size + 1 + 1) u) s t u := ⟨sb_far7 h.1 (by omega) u, far7 h.2.1 (by omega) u, sb_set7 h.2.2.1 u, below7 h.2.2.2 (by omega) u⟩
theorem SF.all (h : SF w0 W s t z) : W.cell? ⟨w0.heap.size, 0, none⟩ = some (.int .i64 s.x) ∧ W.cell? ⟨w0.heap.size, 1, none⟩ = some (.int .i64 s.v) ∧ W.cell? ⟨w0.heap.size, 2, none⟩ = some (.int .i64 s.p) ∧
    W.cell? ⟨w0.heap.size, 3, none⟩ = some (.int .i64 s.q) ∧ W.cell? ⟨w0.heap.size, 4, none⟩ = some (.int .i64 s.r) ∧ W.cell? ⟨w0.heap.size, 5, none⟩ = some (.bool s.b) ∧ W.cell? ⟨w0.heap.size, 6, none⟩ = some (.int .i64 s.m) ∧
    W.cell? ⟨w0.heap.size + 1, 0, none⟩ = some (.int .i64 t.dt) ∧ W.cell? ⟨w0.heap.size + 1, 1, none⟩ = some (.int .i64 t.q) ∧ W.cell? ⟨w0.heap.size + 1, 2, none⟩ = some (.int .i64 t.r) ∧ W.cell? ⟨w0.heap.size + 1, 3, none⟩ = some (.int .i64 t.g) :=
  ⟨Blk.cell h.1 0, Blk.cell h.1 1, Blk.cell h.1 2, Blk.cell h.1 3, Blk.cell h.1 4, Blk.cell h.1 5, Blk.cell h.1 6, Blk.cell h.2.1 0, Blk.cell h.2.1 1, Blk.cell h.2.1 2, Blk.cell h.2.1 3⟩
end

set_option maxRecDepth 100000 in
set_option maxHeartbeats 2000000 in
theorem Step_any (s : St) (t : Tu) (z : Int) (hs : s.In) (ht : t.In) (iz : Fx.In z) (w : World) :
    Calls Try.prog 42 #[s.val, t.val, .int .i64 z] w fun e w' => e = .returned (.tuple #[(stepS s t z).val, .bool (stepOk s t z)]) ∧ Below w.heap.size w w' := by
  have kp := fun W => Predict_any s t.dt t.q hs ht.1 ht.2.1 W
  have ku := fun W => Update_any (predS s t.dt t.q) z t.r t.g (predS_in s t.dt t.q hs) iz ht.2.2.1 ht.2.2.2 W
  unfold stepS stepOk
  generalize predS s t.dt t.q = s1 at *
  generalize updS s1 z t.r t.g = s2 at *
  generalize updOk s1 z t.r t.g = ok at *
  unfold St.val at kp ku
  have KP := Lib.hid kp
  have KU := Lib.hid ku
  have hF : SF w (((w.alloc (.cells #[.int .i64 s.x, .int .i64 s.v, .int .i64 s.p, .int .i64 s.q, .int .i64 s.r, .bool s.b, .int .i64 s.m] 33)).alloc (.cells #[.int .i64 t.dt, .int .i64 t.q, .int .i64 t.r, .int .i64 t.g] 23)).alloc (.cells #[.int .i64 0, .int .i64 0, .int .i64 0, .int .i64 0, .int .i64 0, .bool false, .int .i64 0] 33)) s t ⟨0, 0, 0, 0, 0, false, 0⟩ :=
    ⟨((Blk.new _ _ _).alloc _).alloc _, (Blk.at_ _ _ _ _ (by simp)).alloc _, Blk.at_ _ _ _ _ (by simp), (((Below.refl _ _).alloc (Nat.le_refl _) _).alloc (by simp) _).alloc (by simp; omega) _⟩
  have HF := Lib.hid hF
  clear hF kp ku hs ht iz
  unfold St.val Tu.val
  go_enter Try.func42, Try.ntmps42
  go_upto_region 1 with fail
  have hF := HF.out.drew
  clear HF
  have y := hF.2.2.1.c
  have f := hF.2.2.1.frz
  obtain ⟨y0, y1, y2, y3, y4, y5, y6⟩ := y
  obtain ⟨f0, f1, f2, f3, f4, f5, f6⟩ := f
  go_region_held3 (fun w' => w'.cell? ⟨w.heap.size, 0, none⟩ = some (.int .i64 s.x) ∧ w'.cell? ⟨w.heap.size, 1, none⟩ = some (.int .i64 s.v) ∧ w'.cell? ⟨w.heap.size, 2, none⟩ = some (.int .i64 s.p) ∧
    w'.cell? ⟨w.heap.size, 3, none⟩ = some (.int .i64 s.q) ∧ w'.cell? ⟨w.heap.size, 4, none⟩ = some (.int .i64 s.r) ∧ w'.cell? ⟨w.heap.size, 5, none⟩ = some (.bool s.b) ∧ w'.cell? ⟨w.heap.size, 6, none⟩ = some (.int .i64 s.m) ∧
    w'.cell? ⟨w.heap.size + 1, 0, none⟩ = some (.int .i64 t.dt) ∧ w'.cell? ⟨w.heap.size + 1, 1, none⟩ = some (.int .i64 t.q) ∧ w'.cell? ⟨w.heap.size + 1, 2, none⟩ = some (.int .i64 t.r) ∧ w'.cell? ⟨w.heap.size + 1, 3, none⟩ = some (.int .i64 t.g))
    (first | with_reducible exact hF.all | (have hS := hF.lay s2; unfold set7 at hS; with_reducible exact hS.all)) (first
    | (go_at_call 58; (with_reducible refine (KP.out _).mono ?_); rintro e w1 ⟨rfl, hB1⟩; have hF1 := hF.next hB1; clear hF hB1 y0 y1 y2 y3 y4 y5 y6 f0 f1 f2 f3 f4 f5 f6; have hF := hF1; clear hF1)
    | (go_at_call 57; (with_reducible refine (KU.out _).mono ?_); rintro e w2 ⟨rfl, hB2⟩; have hF1 := hF.next hB2; clear hF hB2; have hF := hF1; clear hF1; (obtain ⟨y0, y1, y2, y3, y4, y5, y6⟩ := hF.2.2.1.c); (obtain ⟨f0, f1, f2, f3, f4, f5, f6⟩ := hF.2.2.1.frz)))
  have Z := Lib.hid (hF.lay s2)
  clear hF y0 y1 y2 y3 y4 y5 y6 f0 f1 f2 f3 f4 f5 f6
  unfold set7 at Z
  go_wp2_with fail
  exact bodyPost_ret (v := .tuple #[s2.val, .bool ok]) (step_results Z.out.2.2.1 _ _ rfl rfl) rfl ⟨rfl, Z.out.2.2.2⟩
end Go.Proofs.Ytofeoeknmlkjgaa.Fi
end
