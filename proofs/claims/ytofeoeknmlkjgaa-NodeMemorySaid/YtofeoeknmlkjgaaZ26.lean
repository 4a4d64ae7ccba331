/- Merged: FilPred. -/
import Derived.Deep.DeepCutAuto
import Derived.Test.YtofeoeknmlkjgaaZ09
import Derived.Test.YtofeoeknmlkjgaaZ25
set_option linter.unusedVariables false
set_option linter.unusedSimpArgs false
section
/- filter.Predict. -/
set_option linter.unusedVariables false
namespace Go.Proofs.Ytofeoeknmlkjgaa.Fi
open Go.RowKit Go.Proofs.Ytofeoeknmlkjgaa Fx
attribute [local go_sem ↓] Go.wp_at_zero Go.wp_at_succ

theorem sb_setx {W : World} {g : Nat} {x v p q r m : Int} {b : Bool} (h : SB W g ⟨x, v, p, q, r, b, m⟩) (y : Int) : SB (W.setCell ⟨g, 0, none⟩ (.int .i64 y)) g ⟨y, v, p, q, r, b, m⟩ := Blk.set_ h 0 _
theorem sb_setv {W : World} {g : Nat} {x v p q r m : Int} {b : Bool} (h : SB W g ⟨x, v, p, q, r, b, m⟩) (y : Int) : SB (W.setCell ⟨g, 1, none⟩ (.int .i64 y)) g ⟨x, y, p, q, r, b, m⟩ := Blk.set_ h 1 _
theorem sb_setp {W : World} {g : Nat} {x v p q r m : Int} {b : Bool} (h : SB W g ⟨x, v, p, q, r, b, m⟩) (y : Int) : SB (W.setCell ⟨g, 2, none⟩ (.int .i64 y)) g ⟨x, v, y, q, r, b, m⟩ := Blk.set_ h 2 _
theorem sb_setq {W : World} {g : Nat} {x v p q r m : Int} {b : Bool} (h : SB W g ⟨x, v, p, q, r, b, m⟩) (y : Int) : SB (W.setCell ⟨g, 3, none⟩ (.int .i64 y)) g ⟨x, v, p, y, r, b, m⟩ := Blk.set_ h 3 _
theorem sb_setr {W : World} {g : Nat} {x v p q r m : Int} {b : Bool} (h : SB W g ⟨x, v, p, q, r, b, m⟩) (y : Int) : SB (W.setCell ⟨g, 4, none⟩ (.int .i64 y)) g ⟨x, v, p, q, y, b, m⟩ := Blk.set_ h 4 _
theorem sb_setm {W : World} {g : Nat} {x v p q r m : Int} {b : Bool} (h : SB W g ⟨x, v, p, q, r, b, m⟩) (y : Int) : SB (W.setCell ⟨g, 6, none⟩ (.int .i64 y)) g ⟨x, v, p, q, r, b, y⟩ := Blk.set_ h 6 _

def PF (w0 : World) (W : World) (s : St) : Prop :=
  SB W w0.heap.size s ∧ SB W (w0.heap.size + 1) ⟨0, 0, 0, 0, 0, false, 0⟩ ∧ Blk W (w0.heap.size + 1 + 1) 137 #[.pointer (some ⟨w0.heap.size, 0, none⟩)] ∧ Below w0.heap.size w0 W
section
variable {w0 W W' : World} {s s' : St}
theorem PF.step (h : PF w0 W s) (hs : SB W' w0.heap.size s') (hg : W.grownBy W' (some w0.heap.size)) : PF w0 W' s' :=
  ⟨hs, Blk.grown h.2.1 hg (by intro e; injection e with e; omega), Blk.grown h.2.2.1 hg (by intro e; injection e with e; omega), h.2.2.2.grown hg h.2.2.2.size (fun j hj => by injection hj with hj; omega)⟩
theorem PF.drew (h : PF w0 W s) : PF w0 W.drew s := ⟨h.1, h.2.1, h.2.2.1, h.2.2.2.drew⟩
theorem PF.set_ (h : PF w0 W s) (i : Nat) (u : Value) (hs : SB (W.setCell ⟨w0.heap.size, i, none⟩ u) w0.heap.size s') : PF w0 (W.setCell ⟨w0.heap.size, i, none⟩ u) s' :=
  ⟨hs, Blk.far h.2.1 (by simp) u, Blk.far h.2.2.1 (by simp; try omega) u, h.2.2.2.setCell (Nat.le_refl _) u⟩
theorem PF.sb (h : PF w0 W s) : SB W w0.heap.size s := h.1
theorem PF.hand (h : PF w0 W s) : W.cell? ⟨w0.heap.size + 1 + 1, 0, none⟩ = some (.pointer (some ⟨w0.heap.size, 0, none⟩)) := h.2.2.1.cell 0
end

def predS (s : St) (dt Q : Int) : St :=
  ⟨cl (s.x + cl (mulZ s.v dt)), s.v, cl (cl (cl (s.p + cl (mulZ s.q dt)) + cl (mulZ s.q dt)) + cl (mulZ (cl (mulZ s.r dt)) dt)), cl (s.q + cl (mulZ s.r dt)), cl (s.r + Q),
   s.b || out (mulZ s.q dt) || out (mulZ s.r dt) || out (mulZ s.v dt) || out (s.x + cl (mulZ s.v dt)) || out (s.p + cl (mulZ s.q dt)) || out (cl (s.p + cl (mulZ s.q dt)) + cl (mulZ s.q dt)) || out (mulZ (cl (mulZ s.r dt)) dt) || out (cl (cl (s.p + cl (mulZ s.q dt)) + cl (mulZ s.q dt)) + cl (mulZ (cl (mulZ s.r dt)) dt)) || out (s.q + cl (mulZ s.r dt)) || out (s.r + Q), s.m⟩
theorem predS_in (s : St) (dt Q : Int) (hs : s.In) : (predS s dt Q).In := by
  obtain ⟨_, h1, _, _, _, h2⟩ := hs
  exact ⟨In_cl _, h1, In_cl _, In_cl _, In_cl _, h2⟩
set_option maxRecDepth 100000 in
set_option maxHeartbeats 4000000 in
theorem Predict_any (s : St) (dt Q : Int) (hs : s.In) (idt : In dt) (iQ : In Q) (w : World) :
    Calls Try.prog 58 #[s.val, .int .i64 dt, .int .i64 Q] w fun e w' => e = .returned (predS s dt Q).val ∧ Below w.heap.size w w' := by
  obtain ⟨x, v, p, q, r, b, m⟩ := s
  obtain ⟨ix, iv, ip, iq, ir, im⟩ := hs
  simp only at ix iv ip iq ir im
  unfold predS St.val
  simp only
  have k1 := fun W b (h : SB W w.heap.size ⟨x, v, p, q, r, b, m⟩) => hmul_any w.heap.size q dt ⟨x, v, p, q, r, b, m⟩ W iq idt h
  simp only [St.bend, handV] at k1
  have it : In (cl (mulZ q dt)) := In_cl _
  generalize cl (mulZ q dt) = t at *
  generalize out (mulZ q dt) = o1 at *
  have K1 := Lib.hid k1
  clear k1
  have k2 := fun W b (h : SB W w.heap.size ⟨x, v, p, q, r, b, m⟩) => hmul_any w.heap.size r dt ⟨x, v, p, q, r, b, m⟩ W ir idt h
  simp only [St.bend, handV] at k2
  have iu : In (cl (mulZ r dt)) := In_cl _
  generalize cl (mulZ r dt) = u at *
  generalize out (mulZ r dt) = o2 at *
  have K2 := Lib.hid k2
  clear k2
  have k3 := fun W b (h : SB W w.heap.size ⟨x, v, p, q, r, b, m⟩) => hmul_any w.heap.size v dt ⟨x, v, p, q, r, b, m⟩ W iv idt h
  simp only [St.bend, handV] at k3
  have ia1 : In (cl (mulZ v dt)) := In_cl _
  generalize cl (mulZ v dt) = a1 at *
  generalize out (mulZ v dt) = o3 at *
  have K3 := Lib.hid k3
  clear k3
  have k4 := fun W b (h : SB W w.heap.size ⟨x, v, p, q, r, b, m⟩) => hadd_any w.heap.size x a1 ⟨x, v, p, q, r, b, m⟩ W ix ia1 h
  simp only [St.bend, handV] at k4
  have ix1 : In (cl (x + a1)) := In_cl _
  generalize cl (x + a1) = x1 at *
  generalize out (x + a1) = o4 at *
  have K4 := Lib.hid k4
  clear k4
  have k5 := fun W b (h : SB W w.heap.size ⟨x1, v, p, q, r, b, m⟩) => hadd_any w.heap.size p t ⟨x1, v, p, q, r, b, m⟩ W ip it h
  simp only [St.bend, handV] at k5
  have ia2 : In (cl (p + t)) := In_cl _
  generalize cl (p + t) = a2 at *
  generalize out (p + t) = o5 at *
  have K5 := Lib.hid k5
  clear k5
  have k6 := fun W b (h : SB W w.heap.size ⟨x1, v, p, q, r, b, m⟩) => hadd_any w.heap.size a2 t ⟨x1, v, p, q, r, b, m⟩ W ia2 it h
  simp only [St.bend, handV] at k6
  have ia3 : In (cl (a2 + t)) := In_cl _
  generalize cl (a2 + t) = a3 at *
  generalize out (a2 + t) = o6 at *
  have K6 := Lib.hid k6
  clear k6
  have k7 := fun W b (h : SB W w.heap.size ⟨x1, v, p, q, r, b, m⟩) => hmul_any w.heap.size u dt ⟨x1, v, p, q, r, b, m⟩ W iu idt h
  simp only [St.bend, handV] at k7
  have ia4 : In (cl (mulZ u dt)) := In_cl _
  generalize cl (mulZ u dt) = a4 at *
  generalize out (mulZ u dt) = o7 at *
  have K7 := Lib.hid k7
  clear k7
  have k8 := fun W b (h : SB W w.heap.size ⟨x1, v, p, q, r, b, m⟩) => hadd_any w.heap.size a3 a4 ⟨x1, v, p, q, r, b, m⟩ W ia3 ia4 h
  simp only [St.bend, handV] at k8
  have ip1 : In (cl (a3 + a4)) := In_cl _
  generalize cl (a3 + a4) = p1 at *
  generalize out (a3 + a4) = o8 at *
  have K8 := Lib.hid k8
  clear k8
  have k9 := fun W b (h : SB W w.heap.size ⟨x1, v, p1, q, r, b, m⟩) => hadd_any w.heap.size q u ⟨x1, v, p1, q, r, b, m⟩ W iq iu h
  simp only [St.bend, handV] at k9
  have iq1 : In (cl (q + u)) := In_cl _
  generalize cl (q + u) = q1 at *
  generalize out (q + u) = o9 at *
  have K9 := Lib.hid k9
  clear k9
  have k10 := fun W b (h : SB W w.heap.size ⟨x1, v, p1, q1, r, b, m⟩) => hadd_any w.heap.size r Q ⟨x1, v, p1, q1, r, b, m⟩ W ir iQ h
  simp only [St.bend, handV] at k10
  have ir1 : In (cl (r + Q)) := In_cl _
  generalize cl (r + Q) = r1 at *
  generalize out (r + Q) = o10 at *
  have K10 := Lib.hid k10
  clear k10
  clear ix iv ip iq ir im idt iQ it iu ia1 ix1 ia2 ia3 ia4 ip1 iq1 ir1
  have hF : PF w (((w.alloc (.cells #[.int .i64 x, .int .i64 v, .int .i64 p, .int .i64 q, .int .i64 r, .bool b, .int .i64 m] 33)).alloc (.cells #[.int .i64 0, .int .i64 0, .int .i64 0, .int .i64 0, .int .i64 0, .bool false, .int .i64 0] 33)).alloc (.cells #[.pointer (some ⟨w.heap.size, 0, none⟩)] 137)) ⟨x, v, p, q, r, b, m⟩ :=
    ⟨((Blk.new _ _ _).alloc _).alloc _, (Blk.at_ _ _ _ _ (by simp)).alloc _, Blk.at_ _ _ _ _ (by simp), (((Below.refl _ _).alloc (Nat.le_refl _) _).alloc (by simp) _).alloc (by simp; omega) _⟩
  have HF := Lib.hid hF
  clear hF
  go_enter Try.func58, Try.ntmps58
  go_upto_region 2 with fail
  have hF := HF.out
  clear HF
  have ch := hF.hand
  have cq := Blk.cell hF.1 3
  simp only [List.getElem?_toArray, List.getElem?_cons_zero, List.getElem?_cons_succ] at cq
  have HF := Lib.hid hF
  clear hF
  go_wp2_with fail
  refine (K1.out _ _ HF.out.1).mono ?_
  rintro e w1 ⟨rfl, hs, hg⟩
  have hF := HF.out.step hs hg
  clear HF hs hg ch cq
  have HF := Lib.hid hF
  clear hF
  go_upto_region 3 with fail
  have hF := HF.out
  clear HF
  have ch := hF.hand
  have cr := Blk.cell hF.1 4
  simp only [List.getElem?_toArray, List.getElem?_cons_zero, List.getElem?_cons_succ] at cr
  have HF := Lib.hid hF
  clear hF
  go_wp2_with fail
  refine (K2.out _ _ HF.out.1).mono ?_
  rintro e w2 ⟨rfl, hs, hg⟩
  have hF := HF.out.step hs hg
  clear HF hs hg ch cr
  have HF := Lib.hid hF
  clear hF
  go_upto_region 4 with fail
  have hF := HF.out
  clear HF
  replace hF := hF.drew
  refine wp_region_F 10 (fun w' => w'.cell? ⟨w.heap.size + 1 + 1, 0, none⟩ = some (.pointer (some ⟨w.heap.size, 0, none⟩)) ∧ w'.cell? ⟨w.heap.size, 0, none⟩ = some (.int .i64 x) ∧ w'.cell? ⟨w.heap.size, 1, none⟩ = some (.int .i64 v)) (by kernel_rfl) ⟨hF.hand, Blk.cell hF.1 0, Blk.cell hF.1 1⟩ (fun hS => ?_)
  refine wpF 0 ?_ rfl (by kernel_rfl) (fun _ _ _ h => h) (Or.inl ⟨by rfl, fun wx hSw => ?_⟩) hS ?_
  rotate_left
  · (try dsimp only at hSw); go_simp; (try with_reducible rfl)
  try simp only [pts]
  refine wpF 1 ?_ rfl (by kernel_rfl) (fun _ _ _ h => h) (Or.inl ⟨by rfl, fun wx hSw => ?_⟩) hS ?_
  rotate_left
  · (try dsimp only at hSw); go_simp; (try with_reducible rfl)
  try simp only [pts]
  refine wpF 2 ?_ rfl (by kernel_rfl) (fun _ _ _ h => h) (Or.inl ⟨by rfl, fun wx hSw => ?_⟩) hS ?_
  rotate_left
  · (try dsimp only at hSw); go_simp; (try with_reducible rfl)
  try simp only [pts]
  refine wpF 3 ?_ rfl (by kernel_rfl) (fun _ _ _ h => h) (Or.inl ⟨by rfl, fun wx hSw => ?_⟩) hS ?_
  rotate_left
  · (try dsimp only at hSw); go_simp; (try with_reducible rfl)
  try simp only [pts]
  refine wpF 4 ?_ rfl (by kernel_rfl) (fun _ _ _ h => h) (Or.inl ⟨by rfl, fun wx hSw => ?_⟩) hS ?_
  rotate_left
  · (try dsimp only at hSw); go_simp; (try with_reducible rfl)
  try simp only [pts]
  refine wpF 5 ?_ rfl (by kernel_rfl) (fun _ _ _ h => h) (Or.inl ⟨by rfl, fun wx hSw => ?_⟩) hS ?_
  rotate_left
  · (try dsimp only at hSw); go_simp; (try with_reducible rfl)
  try simp only [pts]
  refine wpF 6 ?_ rfl (by kernel_rfl) (fun _ _ _ h => h) (Or.inl ⟨by rfl, fun wx hSw => ?_⟩) hS ?_
  rotate_left
  · (try dsimp only at hSw); go_simp; (try with_reducible rfl)
  try simp only [pts]
  refine wpAnyF_one (i := 7) rfl (by kernel_rfl) (fun K hK => ?_)
  go_simp
  (with_reducible refine (K3.out _ _ hF.sb).mono ?_)
  rintro e w3 ⟨rfl, hs, hg⟩
  have hF1 := hF.step hs hg
  clear hF hs hg hS
  have hF := hF1
  clear hF1
  have hS : (fun w' => w'.cell? ⟨w.heap.size + 1 + 1, 0, none⟩ = some (.pointer (some ⟨w.heap.size, 0, none⟩)) ∧ w'.cell? ⟨w.heap.size, 0, none⟩ = some (.int .i64 x) ∧ w'.cell? ⟨w.heap.size, 1, none⟩ = some (.int .i64 v)) w3 := ⟨hF.hand, Blk.cell hF.1 0, Blk.cell hF.1 1⟩
  refine hK.out _ _ hS ?_
  clear hK K
  try simp only [pts]
  refine wpAnyF_one (i := 8) rfl (by kernel_rfl) (fun K hK => ?_)
  go_simp
  (with_reducible refine (K4.out _ _ hF.sb).mono ?_)
  rintro e w4 ⟨rfl, hs, hg⟩
  have hF1 := hF.step hs hg
  clear hF hs hg hS
  have hF := hF1
  clear hF1
  have hS : (fun w' => w'.cell? ⟨w.heap.size + 1 + 1, 0, none⟩ = some (.pointer (some ⟨w.heap.size, 0, none⟩)) ∧ w'.cell? ⟨w.heap.size, 0, none⟩ = some (.int .i64 x) ∧ w'.cell? ⟨w.heap.size, 1, none⟩ = some (.int .i64 v)) w4 := ⟨hF.hand, Blk.cell hF.1 0, Blk.cell hF.1 1⟩
  refine hK.out _ _ hS ?_
  clear hK K
  try simp only [pts]
  refine wpF 9 ?_ rfl (by kernel_rfl) (fun _ _ _ h => h) (Or.inl ⟨by rfl, fun wx hSw => ?_⟩) hS ?_
  rotate_left
  · (try dsimp only at hSw); go_simp; (try with_reducible rfl)
  try simp only [pts]
  clear hS
  have d0 := Blk.cell hF.sb 0
  simp only [List.getElem?_toArray, List.getElem?_cons_zero, List.getElem?_cons_succ] at d0
  have f0 := Blk.frozen hF.sb 0
  have hF1 := Lib.hid (hF.set_ 0 _ (sb_setx hF.sb x1))
  clear hF
  refine wpAnyF_last rfl (by kernel_rfl) (by kernel_rfl) (fun K hK => ?_)
  go_simp
  refine hK.out _ _ ?_
  clear hK K d0 f0
  try simp only [pts]
  go_upto_region 5 with fail
  have hF := hF1.out
  clear hF1
  replace hF := hF.drew
  refine wp_region_F 15 (fun w' => w'.cell? ⟨w.heap.size + 1 + 1, 0, none⟩ = some (.pointer (some ⟨w.heap.size, 0, none⟩)) ∧ w'.cell? ⟨w.heap.size, 2, none⟩ = some (.int .i64 p)) (by kernel_rfl) ⟨hF.hand, Blk.cell hF.1 2⟩ (fun hS => ?_)
  refine wpF 0 ?_ rfl (by kernel_rfl) (fun _ _ _ h => h) (Or.inl ⟨by rfl, fun wx hSw => ?_⟩) hS ?_
  rotate_left
  · (try dsimp only at hSw); go_simp; (try with_reducible rfl)
  try simp only [pts]
  refine wpF 1 ?_ rfl (by kernel_rfl) (fun _ _ _ h => h) (Or.inl ⟨by rfl, fun wx hSw => ?_⟩) hS ?_
  rotate_left
  · (try dsimp only at hSw); go_simp; (try with_reducible rfl)
  try simp only [pts]
  refine wpF 2 ?_ rfl (by kernel_rfl) (fun _ _ _ h => h) (Or.inl ⟨by rfl, fun wx hSw => ?_⟩) hS ?_
  rotate_left
  · (try dsimp only at hSw); go_simp; (try with_reducible rfl)
  try simp only [pts]
  refine wpF 3 ?_ rfl (by kernel_rfl) (fun _ _ _ h => h) (Or.inl ⟨by rfl, fun wx hSw => ?_⟩) hS ?_
  rotate_left
  · (try dsimp only at hSw); go_simp; (try with_reducible rfl)
  try simp only [pts]
  refine wpF 4 ?_ rfl (by kernel_rfl) (fun _ _ _ h => h) (Or.inl ⟨by rfl, fun wx hSw => ?_⟩) hS ?_
  rotate_left
  · (try dsimp only at hSw); go_simp; (try with_reducible rfl)
  try simp only [pts]
  refine wpF 5 ?_ rfl (by kernel_rfl) (fun _ _ _ h => h) (Or.inl ⟨by rfl, fun wx hSw => ?_⟩) hS ?_
  rotate_left
  · (try dsimp only at hSw); go_simp; (try with_reducible rfl)
  try simp only [pts]
  refine wpF 7 ?_ rfl (by kernel_rfl) (fun _ _ _ h => h) (Or.inl ⟨by rfl, fun wx hSw => ?_⟩) hS ?_
  rotate_left
  · (try dsimp only at hSw); go_simp; (try with_reducible rfl)
  try simp only [pts]
  refine wpF 9 ?_ rfl (by kernel_rfl) (fun _ _ _ h => h) (Or.inl ⟨by rfl, fun wx hSw => ?_⟩) hS ?_
  rotate_left
  · (try dsimp only at hSw); go_simp; (try with_reducible rfl)
  try simp only [pts]
  refine wpF 10 ?_ rfl (by kernel_rfl) (fun _ _ _ h => h) (Or.inl ⟨by rfl, fun wx hSw => ?_⟩) hS ?_
  rotate_left
  · (try dsimp only at hSw); go_simp; (try with_reducible rfl)
  try simp only [pts]
  refine wpF 11 ?_ rfl (by kernel_rfl) (fun _ _ _ h => h) (Or.inl ⟨by rfl, fun wx hSw => ?_⟩) hS ?_
  rotate_left
  · (try dsimp only at hSw); go_simp; (try with_reducible rfl)
  try simp only [pts]
  refine wpAnyF_one (i := 6) rfl (by kernel_rfl) (fun K hK => ?_)
  go_simp
  (with_reducible refine (K5.out _ _ hF.sb).mono ?_)
  rintro e w5 ⟨rfl, hs, hg⟩
  have hF1 := hF.step hs hg
  clear hF hs hg hS
  have hF := hF1
  clear hF1
  have hS : (fun w' => w'.cell? ⟨w.heap.size + 1 + 1, 0, none⟩ = some (.pointer (some ⟨w.heap.size, 0, none⟩)) ∧ w'.cell? ⟨w.heap.size, 2, none⟩ = some (.int .i64 p)) w5 := ⟨hF.hand, Blk.cell hF.1 2⟩
  refine hK.out _ _ hS ?_
  clear hK K
  try simp only [pts]
  refine wpAnyF_one (i := 8) rfl (by kernel_rfl) (fun K hK => ?_)
  go_simp
  (with_reducible refine (K6.out _ _ hF.sb).mono ?_)
  rintro e w6 ⟨rfl, hs, hg⟩
  have hF1 := hF.step hs hg
  clear hF hs hg hS
  have hF := hF1
  clear hF1
  have hS : (fun w' => w'.cell? ⟨w.heap.size + 1 + 1, 0, none⟩ = some (.pointer (some ⟨w.heap.size, 0, none⟩)) ∧ w'.cell? ⟨w.heap.size, 2, none⟩ = some (.int .i64 p)) w6 := ⟨hF.hand, Blk.cell hF.1 2⟩
  refine hK.out _ _ hS ?_
  clear hK K
  try simp only [pts]
  refine wpAnyF_one (i := 12) rfl (by kernel_rfl) (fun K hK => ?_)
  go_simp
  (with_reducible refine (K7.out _ _ hF.sb).mono ?_)
  rintro e w7 ⟨rfl, hs, hg⟩
  have hF1 := hF.step hs hg
  clear hF hs hg hS
  have hF := hF1
  clear hF1
  have hS : (fun w' => w'.cell? ⟨w.heap.size + 1 + 1, 0, none⟩ = some (.pointer (some ⟨w.heap.size, 0, none⟩)) ∧ w'.cell? ⟨w.heap.size, 2, none⟩ = some (.int .i64 p)) w7 := ⟨hF.hand, Blk.cell hF.1 2⟩
  refine hK.out _ _ hS ?_
  clear hK K
  try simp only [pts]
  refine wpAnyF_one (i := 13) rfl (by kernel_rfl) (fun K hK => ?_)
  go_simp
  (with_reducible refine (K8.out _ _ hF.sb).mono ?_)
  rintro e w8 ⟨rfl, hs, hg⟩
  have hF1 := hF.step hs hg
  clear hF hs hg hS
  have hF := hF1
  clear hF1
  have hS : (fun w' => w'.cell? ⟨w.heap.size + 1 + 1, 0, none⟩ = some (.pointer (some ⟨w.heap.size, 0, none⟩)) ∧ w'.cell? ⟨w.heap.size, 2, none⟩ = some (.int .i64 p)) w8 := ⟨hF.hand, Blk.cell hF.1 2⟩
  refine hK.out _ _ hS ?_
  clear hK K
  try simp only [pts]
  refine wpF 14 ?_ rfl (by kernel_rfl) (fun _ _ _ h => h) (Or.inl ⟨by rfl, fun wx hSw => ?_⟩) hS ?_
  rotate_left
  · (try dsimp only at hSw); go_simp; (try with_reducible rfl)
  try simp only [pts]
  clear hS
  have d0 := Blk.cell hF.sb 2
  simp only [List.getElem?_toArray, List.getElem?_cons_zero, List.getElem?_cons_succ] at d0
  have f0 := Blk.frozen hF.sb 2
  have hF1 := Lib.hid (hF.set_ 2 _ (sb_setp hF.sb p1))
  clear hF
  refine wpAnyF_last rfl (by kernel_rfl) (by kernel_rfl) (fun K hK => ?_)
  go_simp
  refine hK.out _ _ ?_
  clear hK K d0 f0
  try simp only [pts]
  go_upto_region 6 with fail
  have hF := hF1.out
  clear hF1
  have ch := hF.hand
  have cq := Blk.cell hF.1 3
  simp only [List.getElem?_toArray, List.getElem?_cons_zero, List.getElem?_cons_succ] at cq
  have HF := Lib.hid hF
  clear hF
  go_wp2_with fail
  refine (K9.out _ _ HF.out.1).mono ?_
  rintro e w9 ⟨rfl, hs, hg⟩
  have hF := HF.out.step hs hg
  clear HF hs hg ch cq
  have d0 := Blk.cell hF.1 3
  simp only [List.getElem?_toArray, List.getElem?_cons_zero, List.getElem?_cons_succ] at d0
  have f0 := Blk.frozen hF.1 3
  have HF := Lib.hid hF
  clear hF
  go_upto_region 7 with fail
  have hF := HF.out.set_ 3 _ (sb_setq HF.out.1 q1)
  clear HF d0 f0
  have ch := hF.hand
  have cr := Blk.cell hF.1 4
  simp only [List.getElem?_toArray, List.getElem?_cons_zero, List.getElem?_cons_succ] at cr
  have HF := Lib.hid hF
  clear hF
  go_wp2_with fail
  refine (K10.out _ _ HF.out.1).mono ?_
  rintro e w10 ⟨rfl, hs, hg⟩
  have hF := HF.out.step hs hg
  clear HF hs hg ch cr
  have d0 := Blk.cell hF.1 4
  simp only [List.getElem?_toArray, List.getElem?_cons_zero, List.getElem?_cons_succ] at d0
  have f0 := Blk.frozen hF.1 4
  have HF := Lib.hid hF
  clear hF
  go_upto_region 8 with fail
  have hF := HF.out.set_ 4 _ (sb_setr HF.out.1 r1)
  clear HF d0 f0
  obtain ⟨z0, z1, z2, z3, z4, z5, z6⟩ := SB.c hF.1
  obtain ⟨y0, y1, y2, y3, y4, y5, y6⟩ := SB.c hF.2.1
  have f0 := Blk.frozen hF.2.1 0
  have f1 := Blk.frozen hF.2.1 1
  have f2 := Blk.frozen hF.2.1 2
  have f3 := Blk.frozen hF.2.1 3
  have f4 := Blk.frozen hF.2.1 4
  have f5 := Blk.frozen hF.2.1 5
  have f6 := Blk.frozen hF.2.1 6
  simp only at z0 z1 z2 z3 z4 z5 z6 y0 y1 y2 y3 y4 y5 y6
  have Z := Lib.hid hF.2.1
  have B := Lib.hid hF.2.2.2
  clear hF
  go_wp2_with fail
  refine bodyPost_ret (results_cell_row Try.results58 _ _ (w.heap.size + 1) _ _ (0, 0) _ rfl (((((((Z.out.set_ 0 _).set_ 1 _).set_ 2 _).set_ 3 _).set_ 4 _).set_ 5 _).set_ 6 _) Try.underlying33 rfl (by kernel_rfl)) rfl ⟨rfl, ?_⟩
  exact ((((((B.out.setCell (by simp) _).setCell (by simp) _).setCell (by simp) _).setCell (by simp) _).setCell (by simp) _).setCell (by simp) _).setCell (by simp) _
end Go.Proofs.Ytofeoeknmlkjgaa.Fi
end
