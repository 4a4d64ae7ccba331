/- Merged: FilPred FilUpd FilStep. -/
import Derived.Deep.DeepCutAuto
import Derived.Test.YtofeoeknmlkjgaaZ24
import Derived.Test.YtofeoeknmlkjgaaZ25
set_option linter.unusedVariables false
set_option linter.unusedSimpArgs false
section
/- filter.Predict. -/
set_option linter.unusedVariables false
namespace Go.Proofs.Ytofeoeknmlkjgaa.Fi
open Go.RowKit Go.Proofs.Ytofeoeknmlkjgaa Fx
attribute [local go_sem ↓] Go.wp_at_zero Go.wp_at_succ

theorem sb_setx {W : World} {g : Nat} {x v p q r m : Int} {b : Bool} (h : SB W g ⟨x, v, p, q, r, b, m⟩) (y : Int) : SB (W.setCell ⟨g, 0, none⟩ (.int .i64 y)) g ⟨y, v, p, q, r, b, m⟩ := Blk.set_ h 0 _
theorem sb_setv {W : World} {g : Nat} {x v p q r m : Int} {b : Bool} (h : SB W g ⟨x, v, p, q, r, b, m⟩) (y : Int) : SB (W.setCell ⟨g, 1, none⟩ (.int .i64 y)) g ⟨x, y, p, q, r, b, m⟩ := Blk.set_ h 1 _
theorem sb_setp {W : World} {g : Nat} {x v p q r m : Int} {b : Bool} (h : SB W g ⟨x, v, p, q, r, b, m⟩) (y : Int) : SB (W.setCell ⟨g, 2, none⟩ (.int .i64 y)) g ⟨x, v, y, q, r, b, m⟩ := Blk.set_ h 2 _
theorem sb_setq {W : World} {g : Nat} {x v p q r m : Int} {b : Bool} (h : SB W g ⟨x, v, p, q, r, b, m⟩) (y : Int) : SB (W.setCell ⟨g, 3, none⟩ (.int .i64 y)) g ⟨x, v, p, y, r, b, m⟩ := Blk.set_ h 3 _
theorem sb_setr {W : World} {g : Nat} {x v p q r m : Int} {b : Bool} (h : SB W g ⟨x, v, p, q, r, b, m⟩) (y : Int) : SB (W.setCell ⟨g, 4, none⟩ (.int .i64 y)) g ⟨x, v, p, q, y, b, m⟩ := Blk.set_ h 4 _
theorem sb_setm {W : World} {g : Nat} {x v p q r m : Int} {b : Bool} (h : SB W g ⟨x, v, p, q, r, b, m⟩) (y : Int) : SB (W.setCell ⟨g, 6, none⟩ (.int .i64 y)) g ⟨x, v, p, q, r, b, y⟩ := Blk.set_ h 6 _

def PF (w0 : World) (W : World) (s : St) : Prop :=
  SB W w0.heap.size s ∧ SB W (w0.heap.size + 1) ⟨0, 0, 0, 0, 0, false, 0⟩ ∧ Blk W (w0.heap.size + 1 + 1) 137 #[.pointer (some ⟨w0.heap.size, 0, none⟩)] ∧ Below w0.heap.size w0 W
section
variable {w0 W W' : World} {s s' : St}
theorem PF.step (h : PF w0 W s) (hs : SB W' w0.heap.size s') (hg : W.grownBy W' (some w0.heap.size)) : PF w0 W' s' :=
  ⟨hs, Blk.grown h.2.1 hg (by intro e; injection e with e; omega), Blk.grown h.2.2.1 hg (by intro e; injection e with e; omega), h.2.2.2.grown hg h.2.2.2.size (fun j hj => by injection hj with hj; omega)⟩
theorem PF.drew (h : PF w0 W s) : PF w0 W.drew s := ⟨h.1, h.2.1, h.2.2.1, h.2.2.2.drew⟩
theorem PF.set_ (h : PF w0 W s) (i : Nat) (u : Value) (hs : SB (W.setCell ⟨w0.heap.size, i, none⟩ u) w0.heap.size s') : PF w0 (W.setCell ⟨w0.heap.size, i, none⟩ u) s' :=
  ⟨hs, Blk.far h.2.1 (by simp) u, Blk.far h.2.2.1 (by simp; try omega) u, h.2.2.2.setCell (Nat.le_refl _) u⟩
theorem PF.sb (h : PF w0 W s) : SB W w0.heap.size s := h.1
theorem PF.hand (h : PF w0 W s) : W.cell? ⟨w0.heap.size + 1 + 1, 0, none⟩ = some (.pointer (some ⟨w0.heap.size, 0, none⟩)) := h.2.2.1.cell 0
end

def predS (s : St) (dt Q : Int) : St :=
  ⟨cl (s.x + cl (mulZ s.v dt)), s.v, cl (cl (cl (s.p + cl (mulZ s.q dt)) + cl (mulZ s.q dt)) + cl (mulZ (cl (mulZ s.r dt)) dt)), cl (s.q + cl (mulZ s.r dt)), cl (s.r + Q),
   s.b || out (mulZ s.q dt) || out (mulZ s.r dt) || out (mulZ s.v dt) || out (s.x + cl (mulZ s.v dt)) || out (s.p + cl (mulZ s.q dt)) || out (cl (s.p + cl (mulZ s.q dt)) + cl (mulZ s.q dt)) || out (mulZ (cl (mulZ s.r dt)) dt) || out (cl (cl (s.p + cl (mulZ s.q dt)) + cl (mulZ s.q dt)) + cl (mulZ (cl (mulZ s.r dt)) dt)) || out (s.q + cl (mulZ s.r dt)) || out (s.r + Q), s.m⟩
theorem predS_in (s : St) (dt Q : Int) (hs : s.In) : (predS s dt Q).In := by
  obtain ⟨_, h1, _, _, _, h2⟩ := hs
  exact ⟨In_cl _, h1, In_cl _, In_cl _, In_cl _, h2⟩
set_option maxRecDepth 100000 in
set_option maxHeartbeats 4000000 in
theorem Predict_any (s : St) (dt Q : Int) (hs : s.In) (idt : In dt) (iQ : In Q) (w : World) :
    Calls Try.prog 58 #[s.val, .int .i64 dt, .int .i64 Q] w fun e w' => e = .returned (predS s dt Q).val ∧ Below w.heap.size w w' := by
  obtain ⟨x, v, p, q, r, b, m⟩ := s
  obtain ⟨ix, iv, ip, iq, ir, im⟩ := hs
  simp only at ix iv ip iq ir im
  unfold predS St.val
  simp only
  have k1 := fun W b (h : SB W w.heap.size ⟨x, v, p, q, r, b, m⟩) => hmul_any w.heap.size q dt ⟨x, v, p, q, r, b, m⟩ W iq idt h
  simp only [St.bend, handV] at k1
  have it : In (cl (mulZ q dt)) := In_cl _
  generalize cl (mulZ q dt) = t at *
  generalize out (mulZ q dt) = o1 at *
  have K1 := Lib.hid k1
  clear k1
  have k2 := fun W b (h : SB W w.heap.size ⟨x, v, p, q, r, b, m⟩) => hmul_any w.heap.size r dt ⟨x, v, p, q, r, b, m⟩ W ir idt h
  simp only [St.bend, handV] at k2
  have iu : In (cl (mulZ r dt)) := In_cl _
  generalize cl (mulZ r dt) = u at *
  generalize out (mulZ r dt) = o2 at *
  have K2 := Lib.hid k2
  clear k2
  have k3 := fun W b (h : SB W w.heap.size ⟨x, v, p, q, r, b, m⟩) => hmul_any w.heap.size v dt ⟨x, v, p, q, r, b, m⟩ W iv idt h
  simp only [St.bend, handV] at k3
  have ia1 : In (cl (mulZ v dt)) := In_cl _
  generalize cl (mulZ v dt) = a1 at *
  generalize out (mulZ v dt) = o3 at *
  have K3 := Lib.hid k3
  clear k3
  have k4 := fun W b (h : SB W w.heap.size ⟨x, v, p, q, r, b, m⟩) => hadd_any w.heap.size x a1 ⟨x, v, p, q, r, b, m⟩ W ix ia1 h
  simp only [St.bend, handV] at k4
  have ix1 : In (cl (x + a1)) := In_cl _
  generalize cl (x + a1) = x1 at *
  generalize out (x + a1) = o4 at *
  have K4 := Lib.hid k4
  clear k4
  have k5 := fun W b (h : SB W w.heap.size ⟨x1, v, p, q, r, b, m⟩) => hadd_any w.heap.size p t ⟨x1, v, p, q, r, b, m⟩ W ip it h
  simp only [St.bend, handV] at k5
  have ia2 : In (cl (p + t)) := In_cl _
  generalize cl (p + t) = a2 at *
  generalize out (p + t) = o5 at *
  have K5 := Lib.hid k5
  clear k5
  have k6 := fun W b (h : SB W w.heap.size ⟨x1, v, p, q, r, b, m⟩) => hadd_any w.heap.size a2 t ⟨x1, v, p, q, r, b, m⟩ W ia2 it h
  simp only [St.bend, handV] at k6
  have ia3 : In (cl (a2 + t)) := In_cl _
  generalize cl (a2 + t) = a3 at *
  generalize out (a2 + t) = o6 at *
  have K6 := Lib.hid k6
  clear k6
  have k7 := fun W b (h : SB W w.heap.size ⟨x1, v, p, q, r, b, m⟩) => hmul_any w.heap.size u dt ⟨x1, v, p, q, r, b, m⟩ W iu idt h
  simp only [St.bend, handV] at k7
  have ia4 : In (cl (mulZ u dt)) := In_cl _
  generalize cl (mulZ u dt) = a4 at *
  generalize out (mulZ u dt) = o7 at *
  have K7 := Lib.hid k7
  clear k7
  have k8 := fun W b (h : SB W w.heap.size ⟨x1, v, p, q, r, b, m⟩) => hadd_any w.heap.size a3 a4 ⟨x1, v, p, q, r, b, m⟩ W ia3 ia4 h
  simp only [St.bend, handV] at k8
  have ip1 : In (cl (a3 + a4)) := In_cl _
  generalize cl (a3 + a4) = p1 at *
  generalize out (a3 + a4) = o8 at *
  have K8 := Lib.hid k8
  clear k8
  have k9 := fun W b (h : SB W w.heap.size ⟨x1, v, p1, q, r, b, m⟩) => hadd_any w.heap.size q u ⟨x1, v, p1, q, r, b, m⟩ W iq iu h
  simp only [St.bend, handV] at k9
  have iq1 : In (cl (q + u)) := In_cl _
  generalize cl (q + u) = q1 at *
  generalize out (q + u) = o9 at *
  have K9 := Lib.hid k9
  clear k9
  have k10 := fun W b (h : SB W w.heap.size ⟨x1, v, p1, q1, r, b, m⟩) => hadd_any w.heap.size r Q ⟨x1, v, p1, q1, r, b, m⟩ W ir iQ h
  simp only [St.bend, handV] at k10
  have ir1 : In (cl (r + Q)) := In_cl _
  generalize cl (r + Q) = r1 at *
  generalize out (r + Q) = o10 at *
  have K10 := Lib.hid k10
  clear k10
  clear ix iv ip iq ir im idt iQ it iu ia1 ix1 ia2 ia3 ia4 ip1 iq1 ir1
  have hF : PF w (((w.alloc (.cells #[.int .i64 x, .int .i64 v, .int .i64 p, .int .i64 q, .int .i64 r, .bool b, .int .i64 m] 33)).alloc (.cells #[.int .i64 0, .int .i64 0, .int .i64 0, .int .i64 0, .int .i64 0, .bool false, .int .i64 0] 33)).alloc (.cells #[.pointer (some ⟨w.heap.size, 0, none⟩)] 137)) ⟨x, v, p, q, r, b, m⟩ :=
    ⟨((Blk.new _ _ _).alloc _).alloc _, (Blk.at_ _ _ _ _ (by simp)).alloc _, Blk.at_ _ _ _ _ (by simp), (((Below.refl _ _).alloc (Nat.le_refl _) _).alloc (by simp) _).alloc (by simp; omega) _⟩
  have HF := Lib.hid hF
  clear hF
  go_enter Try.func58, Try.ntmps58
  go_upto_region 2 with fail
  have hF := HF.out
  clear HF
  have ch := hF.hand
  have cq := Blk.cell hF.1 3
  simp only [List.getElem?_toArray, List.getElem?_cons_zero, List.getElem?_cons_succ] at cq
  have HF := Lib.hid hF
  clear hF
  go_wp2_with fail
  refine (K1.out _ _ HF.out.1).mono ?_
  rintro e w1 ⟨rfl, hs, hg⟩
  have hF := HF.out.step hs hg
  clear HF hs hg ch cq
  have HF := Lib.hid hF
  clear hF
  go_upto_region 3 with fail
  have hF := HF.out
  clear HF
  have ch := hF.hand
  have cr := Blk.cell hF.1 4
  simp only [List.getElem?_toArray, List.getElem?_cons_zero, List.getElem?_cons_succ] at cr
  have HF := Lib.hid hF
  clear hF
  go_wp2_with fail
  refine (K2.out _ _ HF.out.1).mono ?_
  rintro e w2 ⟨rfl, hs, hg⟩
  have hF := HF.out.step hs hg
  clear HF hs hg ch cr
  have HF := Lib.hid hF
  clear hF
  go_upto_region 4 with fail
  have hF := HF.out
  clear HF
  replace hF := hF.drew
  refine wp_region_F 10 (fun w' => w'.cell? ⟨w.heap.size + 1 + 1, 0, none⟩ = some (.pointer (some ⟨w.heap.size, 0, none⟩)) ∧ w'.cell? ⟨w.heap.size, 0, none⟩ = some (.int .i64 x) ∧ w'.cell? ⟨w.heap.size, 1, none⟩ = some (.int .i64 v)) (by kernel_rfl) ⟨hF.hand, Blk.cell hF.1 0, Blk.cell hF.1 1⟩ (fun hS => ?_)
  refine wpF 0 ?_ rfl (by kernel_rfl) (fun _ _ _ h => h) (Or.inl ⟨by rfl, fun wx hSw => ?_⟩) hS ?_
  rotate_left
  · (try dsimp only at hSw); go_simp; (try with_reducible rfl)
  try simp only [pts]
  refine wpF 1 ?_ rfl (by kernel_rfl) (fun _ _ _ h => h) (Or.inl ⟨by rfl, fun wx hSw => ?_⟩) hS ?_
  rotate_left
  · (try dsimp only at hSw); go_simp; (try with_reducible rfl)
  try simp only [pts]
  refine wpF 2 ?_ rfl (by kernel_rfl) (fun _ _ _ h => h) (Or.inl ⟨by rfl, fun wx hSw => ?_⟩) hS ?_
  rotate_left
  · (try dsimp only at hSw); go_simp; (try with_reducible rfl)
  try simp only [pts]
  refine wpF 3 ?_ rfl (by kernel_rfl) (fun _ _ _ h => h) (Or.inl ⟨by rfl, fun wx hSw => ?_⟩) hS ?_
  rotate_left
  · (try dsimp only at hSw); go_simp; (try with_reducible rfl)
  try simp only [pts]
  refine wpF 4 ?_ rfl (by kernel_rfl) (fun _ _ _ h => h) (Or.inl ⟨by rfl, fun wx hSw => ?_⟩) hS ?_
  rotate_left
  · (try dsimp only at hSw); go_simp; (try with_reducible rfl)
  try simp only [pts]
  refine wpF 5 ?_ rfl (by kernel_rfl) (fun _ _ _ h => h) (Or.inl ⟨by rfl, fun wx hSw => ?_⟩) hS ?_
  rotate_left
  · (try dsimp only at hSw); go_simp; (try with_reducible rfl)
  try simp only [pts]
  refine wpF 6 ?_ rfl (by kernel_rfl) (fun _ _ _ h => h) (Or.inl ⟨by rfl, fun wx hSw => ?_⟩) hS ?_
  rotate_left
  · (try dsimp only at hSw); go_simp; (try with_reducible rfl)
  try simp only [pts]
  refine wpAnyF_one (i := 7) rfl (by kernel_rfl) (fun K hK => ?_)
  go_simp
  (with_reducible refine (K3.out _ _ hF.sb).mono ?_)
  rintro e w3 ⟨rfl, hs, hg⟩
  have hF1 := hF.step hs hg
  clear hF hs hg hS
  have hF := hF1
  clear hF1
  have hS : (fun w' => w'.cell? ⟨w.heap.size + 1 + 1, 0, none⟩ = some (.pointer (some ⟨w.heap.size, 0, none⟩)) ∧ w'.cell? ⟨w.heap.size, 0, none⟩ = some (.int .i64 x) ∧ w'.cell? ⟨w.heap.size, 1, none⟩ = some (.int .i64 v)) w3 := ⟨hF.hand, Blk.cell hF.1 0, Blk.cell hF.1 1⟩
  refine hK.out _ _ hS ?_
  clear hK K
  try simp only [pts]
  refine wpAnyF_one (i := 8) rfl (by kernel_rfl) (fun K hK => ?_)
  go_simp
  (with_reducible refine (K4.out _ _ hF.sb).mono ?_)
  rintro e w4 ⟨rfl, hs, hg⟩
  have hF1 := hF.step hs hg
  clear hF hs hg hS
  have hF := hF1
  clear hF1
  have hS : (fun w' => w'.cell? ⟨w.heap.size + 1 + 1, 0, none⟩ = some (.pointer (some ⟨w.heap.size, 0, none⟩)) ∧ w'.cell? ⟨w.heap.size, 0, none⟩ = some (.int .i64 x) ∧ w'.cell? ⟨w.heap.size, 1, none⟩ = some (.int .i64 v)) w4 := ⟨hF.hand, Blk.cell hF.1 0, Blk.cell hF.1 1⟩
  refine hK.out _ _ hS ?_
  clear hK K
  try simp only [pts]
  refine wpF 9 ?_ rfl (by kernel_rfl) (fun _ _ _ h => h) (Or.inl ⟨by rfl, fun wx hSw => ?_⟩) hS ?_
  rotate_left
  · (try dsimp only at hSw); go_simp; (try with_reducible rfl)
  try simp only [pts]
  clear hS
  have d0 := Blk.cell hF.sb 0
  simp only [List.getElem?_toArray, List.getElem?_cons_zero, List.getElem?_cons_succ] at d0
  have f0 := Blk.frozen hF.sb 0
  have hF1 := Lib.hid (hF.set_ 0 _ (sb_setx hF.sb x1))
  clear hF
  refine wpAnyF_last rfl (by kernel_rfl) (by kernel_rfl) (fun K hK => ?_)
  go_simp
  refine hK.out _ _ ?_
  clear hK K d0 f0
  try simp only [pts]
  go_upto_region 5 with fail
  have hF := hF1.out
  clear hF1
  replace hF := hF.drew
  refine wp_region_F 15 (fun w' => w'.cell? ⟨w.heap.size + 1 + 1, 0, none⟩ = some (.pointer (some ⟨w.heap.size, 0, none⟩)) ∧ w'.cell? ⟨w.heap.size, 2, none⟩ = some (.int .i64 p)) (by kernel_rfl) ⟨hF.hand, Blk.cell hF.1 2⟩ (fun hS => ?_)
  refine wpF 0 ?_ rfl (by kernel_rfl) (fun _ _ _ h => h) (Or.inl ⟨by rfl, fun wx hSw => ?_⟩) hS ?_
  rotate_left
  · (try dsimp only at hSw); go_simp; (try with_reducible rfl)
  try simp only [pts]
  refine wpF 1 ?_ rfl (by kernel_rfl) (fun _ _ _ h => h) (Or.inl ⟨by rfl, fun wx hSw => ?_⟩) hS ?_
  rotate_left
  · (try dsimp only at hSw); go_simp; (try with_reducible rfl)
  try simp only [pts]
  refine wpF 2 ?_ rfl (by kernel_rfl) (fun _ _ _ h => h) (Or.inl ⟨by rfl, fun wx hSw => ?_⟩) hS ?_
  rotate_left
  · (try dsimp only at hSw); go_simp; (try with_reducible rfl)
  try simp only [pts]
  refine wpF 3 ?_ rfl (by kernel_rfl) (fun _ _ _ h => h) (Or.inl ⟨by rfl, fun wx hSw => ?_⟩) hS ?_
  rotate_left
  · (try dsimp only at hSw); go_simp; (try with_reducible rfl)
  try simp only [pts]
  refine wpF 4 ?_ rfl (by kernel_rfl) (fun _ _ _ h => h) (Or.inl ⟨by rfl, fun wx hSw => ?_⟩) hS ?_
  rotate_left
  · (try dsimp only at hSw); go_simp; (try with_reducible rfl)
  try simp only [pts]
  refine wpF 5 ?_ rfl (by kernel_rfl) (fun _ _ _ h => h) (Or.inl ⟨by rfl, fun wx hSw => ?_⟩) hS ?_
  rotate_left
  · (try dsimp only at hSw); go_simp; (try with_reducible rfl)
  try simp only [pts]
  refine wpF 7 ?_ rfl (by kernel_rfl) (fun _ _ _ h => h) (Or.inl ⟨by rfl, fun wx hSw => ?_⟩) hS ?_
  rotate_left
  · (try dsimp only at hSw); go_simp; (try with_reducible rfl)
  try simp only [pts]
  refine wpF 9 ?_ rfl (by kernel_rfl) (fun _ _ _ h => h) (Or.inl ⟨by rfl, fun wx hSw => ?_⟩) hS ?_
  rotate_left
  · (try dsimp only at hSw); go_simp; (try with_reducible rfl)
  try simp only [pts]
  refine wpF 10 ?_ rfl (by kernel_rfl) (fun _ _ _ h => h) (Or.inl ⟨by rfl, fun wx hSw => ?_⟩) hS ?_
  rotate_left
  · (try dsimp only at hSw); go_simp; (try with_reducible rfl)
  try simp only [pts]
  refine wpF 11 ?_ rfl (by kernel_rfl) (fun _ _ _ h => h) (Or.inl ⟨by rfl, fun wx hSw => ?_⟩) hS ?_
  rotate_left
  · (try dsimp only at hSw); go_simp; (try with_reducible rfl)
  try simp only [pts]
  refine wpAnyF_one (i := 6) rfl (by kernel_rfl) (fun K hK => ?_)
  go_simp
  (with_reducible refine (K5.out _ _ hF.sb).mono ?_)
  rintro e w5 ⟨rfl, hs, hg⟩
  have hF1 := hF.step hs hg
  clear hF hs hg hS
  have hF := hF1
  clear hF1
  have hS : (fun w' => w'.cell? ⟨w.heap.size + 1 + 1, 0, none⟩ = some (.pointer (some ⟨w.heap.size, 0, none⟩)) ∧ w'.cell? ⟨w.heap.size, 2, none⟩ = some (.int .i64 p)) w5 := ⟨hF.hand, Blk.cell hF.1 2⟩
  refine hK.out _ _ hS ?_
  clear hK K
  try simp only [pts]
  refine wpAnyF_one (i := 8) rfl (by kernel_rfl) (fun K hK => ?_)
  go_simp
  (with_reducible refine (K6.out _ _ hF.sb).mono ?_)
  rintro e w6 ⟨rfl, hs, hg⟩
  have hF1 := hF.step hs hg
  clear hF hs hg hS
  have hF := hF1
  clear hF1
  have hS : (fun w' => w'.cell? ⟨w.heap.size + 1 + 1, 0, none⟩ = some (.pointer (some ⟨w.heap.size, 0, none⟩)) ∧ w'.cell? ⟨w.heap.size, 2, none⟩ = some (.int .i64 p)) w6 := ⟨hF.hand, Blk.cell hF.1 2⟩
  refine hK.out _ _ hS ?_
  clear hK K
  try simp only [pts]
  refine wpAnyF_one (i := 12) rfl (by kernel_rfl) (fun K hK => ?_)
  go_simp
  (with_reducible refine (K7.out _ _ hF.sb).mono ?_)
  rintro e w7 ⟨rfl, hs, hg⟩
  have hF1 := hF.step hs hg
  clear hF hs hg hS
  have hF := hF1
  clear hF1
  have hS : (fun w' => w'.cell? ⟨w.heap.size + 1 + 1, 0, none⟩ = some (.pointer (some ⟨w.heap.size, 0, none⟩)) ∧ w'.cell? ⟨w.heap.size, 2, none⟩ = some (.int .i64 p)) w7 := ⟨hF.hand, Blk.cell hF.1 2⟩
  refine hK.out _ _ hS ?_
  clear hK K
  try simp only [pts]
  refine wpAnyF_one (i := 13) rfl (by kernel_rfl) (fun K hK => ?_)
  go_simp
  (with_reducible refine (K8.out _ _ hF.sb).mono ?_)
  rintro e w8 ⟨rfl, hs, hg⟩
  have hF1 := hF.step hs hg
  clear hF hs hg hS
  have hF := hF1
  clear hF1
  have hS : (fun w' => w'.cell? ⟨w.heap.size + 1 + 1, 0, none⟩ = some (.pointer (some ⟨w.heap.size, 0, none⟩)) ∧ w'.cell? ⟨w.heap.size, 2, none⟩ = some (.int .i64 p)) w8 := ⟨hF.hand, Blk.cell hF.1 2⟩
  refine hK.out _ _ hS ?_
  clear hK K
  try simp only [pts]
  refine wpF 14 ?_ rfl (by kernel_rfl) (fun _ _ _ h => h) (Or.inl ⟨by rfl, fun wx hSw => ?_⟩) hS ?_
  rotate_left
  · (try dsimp only at hSw); go_simp; (try with_reducible rfl)
  try simp only [pts]
  clear hS
  have d0 := Blk.cell hF.sb 2
  simp only [List.getElem?_toArray, List.getElem?_cons_zero, List.getElem?_cons_succ] at d0
  have f0 := Blk.frozen hF.sb 2
  have hF1 := Lib.hid (hF.set_ 2 _ (sb_setp hF.sb p1))
  clear hF
  refine wpAnyF_last rfl (by kernel_rfl) (by kernel_rfl) (fun K hK => ?_)
  go_simp
  refine hK.out _ _ ?_
  clear hK K d0 f0
  try simp only [pts]
  go_upto_region 6 with fail
  have hF := hF1.out
  clear hF1
  have ch := hF.hand
  have cq := Blk.cell hF.1 3
  simp only [List.getElem?_toArray, List.getElem?_cons_zero, List.getElem?_cons_succ] at cq
  have HF := Lib.hid hF
  clear hF
  go_wp2_with fail
  refine (K9.out _ _ HF.out.1).mono ?_
  rintro e w9 ⟨rfl, hs, hg⟩
  have hF := HF.out.step hs hg
  clear HF hs hg ch cq
  have d0 := Blk.cell hF.1 3
  simp only [List.getElem?_toArray, List.getElem?_cons_zero, List.getElem?_cons_succ] at d0
  have f0 := Blk.frozen hF.1 3
  have HF := Lib.hid hF
  clear hF
  go_upto_region 7 with fail
  have hF := HF.out.set_ 3 _ (sb_setq HF.out.1 q1)
  clear HF d0 f0
  have ch := hF.hand
  have cr := Blk.cell hF.1 4
  simp only [List.getElem?_toArray, List.getElem?_cons_zero, List.getElem?_cons_succ] at cr
  have HF := Lib.hid hF
  clear hF
  go_wp2_with fail
  refine (K10.out _ _ HF.out.1).mono ?_
  rintro e w10 ⟨rfl, hs, hg⟩
  have hF := HF.out.step hs hg
  clear HF hs hg ch cr
  have d0 := Blk.cell hF.1 4
  simp only [List.getElem?_toArray, List.getElem?_cons_zero, List.getElem?_cons_succ] at d0
  have f0 := Blk.frozen hF.1 4
  have HF := Lib.hid hF
  clear hF
  go_upto_region 8 with fail
  have hF := HF.out.set_ 4 _ (sb_setr HF.out.1 r1)
  clear HF d0 f0
  obtain ⟨z0, z1, z2, z3, z4, z5, z6⟩ := SB.c hF.1
  obtain ⟨y0, y1, y2, y3, y4, y5, y6⟩ := SB.c hF.2.1
  have f0 := Blk.frozen hF.2.1 0
  have f1 := Blk.frozen hF.2.1 1
  have f2 := Blk.frozen hF.2.1 2
  have f3 := Blk.frozen hF.2.1 3
  have f4 := Blk.frozen hF.2.1 4
  have f5 := Blk.frozen hF.2.1 5
  have f6 := Blk.frozen hF.2.1 6
  simp only at z0 z1 z2 z3 z4 z5 z6 y0 y1 y2 y3 y4 y5 y6
  have Z := Lib.hid hF.2.1
  have B := Lib.hid hF.2.2.2
  clear hF
  go_wp2_with fail
  refine bodyPost_ret (results_cell_row Try.results58 _ _ (w.heap.size + 1) _ _ (0, 0) _ rfl (((((((Z.out.set_ 0 _).set_ 1 _).set_ 2 _).set_ 3 _).set_ 4 _).set_ 5 _).set_ 6 _) Try.underlying33 rfl (by kernel_rfl)) rfl ⟨rfl, ?_⟩
  exact ((((((B.out.setCell (by simp) _).setCell (by simp) _).setCell (by simp) _).setCell (by simp) _).setCell (by simp) _).setCell (by simp) _).setCell (by simp) _
end Go.Proofs.Ytofeoeknmlkjgaa.Fi
end
section
/- filter.Update. -/
set_option linter.unusedVariables false
namespace Go.Proofs.Ytofeoeknmlkjgaa.Fi
open Go.RowKit Go.Proofs.Ytofeoeknmlkjgaa Fx
attribute [local go_sem ↓] Go.wp_at_zero Go.wp_at_succ

def UF (w0 : World) (s0 : St) (W : World) (s : St) : Prop :=
  SB W w0.heap.size s ∧ SB W (w0.heap.size + 1) ⟨0, 0, 0, 0, 0, false, 0⟩ ∧ SB W (w0.heap.size + 1 + 1) s0 ∧ Blk W (w0.heap.size + 1 + 1 + 1) 137 #[.pointer (some ⟨w0.heap.size, 0, none⟩)] ∧ Below w0.heap.size w0 W
section
variable {w0 W W' : World} {s0 s s' : St}
theorem UF.step (h : UF w0 s0 W s) (hs : SB W' w0.heap.size s') (hg : W.grownBy W' (some w0.heap.size)) : UF w0 s0 W' s' :=
  ⟨hs, Blk.grown h.2.1 hg (by intro e; injection e with e; omega), Blk.grown h.2.2.1 hg (by intro e; injection e with e; omega), Blk.grown h.2.2.2.1 hg (by intro e; injection e with e; omega), h.2.2.2.2.grown hg h.2.2.2.2.size (fun j hj => by injection hj with hj; omega)⟩
theorem UF.drew (h : UF w0 s0 W s) : UF w0 s0 W.drew s := ⟨h.1, h.2.1, h.2.2.1, h.2.2.2.1, h.2.2.2.2.drew⟩
theorem UF.set_ (h : UF w0 s0 W s) (i : Nat) (u : Value) (hs : SB (W.setCell ⟨w0.heap.size, i, none⟩ u) w0.heap.size s') : UF w0 s0 (W.setCell ⟨w0.heap.size, i, none⟩ u) s' :=
  ⟨hs, Blk.far h.2.1 (by simp) u, Blk.far h.2.2.1 (by simp; try omega) u, Blk.far h.2.2.2.1 (by simp; try omega) u, h.2.2.2.2.setCell (Nat.le_refl _) u⟩
theorem UF.sb (h : UF w0 s0 W s) : SB W w0.heap.size s := h.1
theorem UF.hand (h : UF w0 s0 W s) : W.cell? ⟨w0.heap.size + 1 + 1 + 1, 0, none⟩ = some (.pointer (some ⟨w0.heap.size, 0, none⟩)) := h.2.2.2.1.cell 0
end
theorem below_trans_drewN {B : Nat} {w W : World} (h : Below B w W) (n : Nat) : Below B w (W.drewN n) := h.trans (below_drewN _ _ _)
theorem UF.drewN {w0 W : World} {s0 s : St} (h : UF w0 s0 W s) (n : Nat) : UF w0 s0 (W.drewN n) s := ⟨h.1, h.2.1, h.2.2.1, h.2.2.2.1, below_trans_drewN h.2.2.2.2 n⟩

def updOk (s : St) (z R gate : Int) : Bool := !(decide (cl (s.p + R) ≤ 0) || decide (cl (mulZ gate (cl (s.p + R))) < cl (mulZ (cl (z - s.x)) (cl (z - s.x)))))
def updY (s : St) (z R gate : Int) : St :=
  ⟨cl (s.x + cl (mulZ (divR s.p (cl (s.p + R))) (cl (z - s.x)))), cl (s.v + cl (mulZ (divR s.q (cl (s.p + R))) (cl (z - s.x)))), cl (s.p - cl (mulZ (divR s.p (cl (s.p + R))) s.p)), cl (s.q - cl (mulZ (divR s.p (cl (s.p + R))) s.q)), cl (s.r - cl (mulZ (divR s.q (cl (s.p + R))) s.q)),
   s.b || out (z - s.x) || out (s.p + R) || out (mulZ (cl (z - s.x)) (cl (z - s.x))) || out (mulZ gate (cl (s.p + R))) || divB s.p (cl (s.p + R)) || divB s.q (cl (s.p + R)) || out (mulZ (divR s.p (cl (s.p + R))) (cl (z - s.x))) || out (s.x + cl (mulZ (divR s.p (cl (s.p + R))) (cl (z - s.x)))) || out (mulZ (divR s.q (cl (s.p + R))) (cl (z - s.x))) || out (s.v + cl (mulZ (divR s.q (cl (s.p + R))) (cl (z - s.x)))) || out (mulZ (divR s.p (cl (s.p + R))) s.p) || out (s.p - cl (mulZ (divR s.p (cl (s.p + R))) s.p)) || out (mulZ (divR s.p (cl (s.p + R))) s.q) || out (s.q - cl (mulZ (divR s.p (cl (s.p + R))) s.q)) || out (mulZ (divR s.q (cl (s.p + R))) s.q) || out (s.r - cl (mulZ (divR s.q (cl (s.p + R))) s.q)), 0⟩
def updN (s : St) : St := { s with m := wrap64 (s.m + 1) }
def updS (s : St) (z R gate : Int) : St := if updOk s z R gate = true then updY s z R gate else updN s
theorem In_wrap (x : Int) : In (wrap64 x) := by unfold In wrap64; omega
theorem updS_in (s : St) (z R gate : Int) (hs : s.In) : (updS s z R gate).In := by
  obtain ⟨h0, h1, h2, h3, h4, h5⟩ := hs
  unfold updS
  split
  · exact ⟨In_cl _, In_cl _, In_cl _, In_cl _, In_cl _, (by show In (0 : Int); unfold In; omega)⟩
  · exact ⟨h0, h1, h2, h3, h4, In_wrap _⟩
theorem upd_results {W : World} {g : Nat} {s : St} (h : SB W g s) (e : Value) (tmps : Array Value) (h2 : tmps.getD 8 undef = .pointer (some ⟨g, 0, none⟩)) (h3 : tmps.getD 9 undef = e) :
    (results Try.f57 tmps).run Try.prog W = .ok (.tuple #[s.val, e]) W := by
  have h2' : tmps[8]?.getD undef = .pointer (some ⟨g, 0, none⟩) := by simpa using h2
  have h3' : tmps[9]?.getD undef = e := by simpa using h3
  simp [results, Try.results57, h2', h3', asAddr, run_loadVar_row (P := Try.prog) W g _ 33 _ (0, 0) _ h Try.underlying33 rfl (by kernel_rfl)]
  rfl

set_option maxRecDepth 100000 in
set_option maxHeartbeats 4000000 in
theorem Update_no1 (s : St) (z R gate : Int) (hs : s.In) (iz : In z) (iR : In R) (igate : In gate) (w : World) (hw : cl (s.p + R) ≤ 0) :
    Calls Try.prog 57 #[s.val, .int .i64 z, .int .i64 R, .int .i64 gate] w fun e w' => e = .returned (.tuple #[(updN s).val, .bool false]) ∧ Below w.heap.size w w' := by
  obtain ⟨x, v, p, q, r, b, m⟩ := s
  obtain ⟨ix, iv, ip, iq, ir, im⟩ := hs
  simp only at ix iv ip iq ir im
  unfold St.val
  simp only at hw ⊢
  have k1 := fun W b (h : SB W w.heap.size ⟨x, v, p, q, r, b, m⟩) => hsub_any w.heap.size z x ⟨x, v, p, q, r, b, m⟩ W iz ix h
  simp only [St.bend, handV] at k1
  have iy : In (cl (z - x)) := In_cl _
  generalize cl (z - x) = y at *
  generalize out (z - x) = o1 at *
  have K1 := Lib.hid k1
  clear k1
  have k2 := fun W b (h : SB W w.heap.size ⟨x, v, p, q, r, b, m⟩) => hadd_any w.heap.size p R ⟨x, v, p, q, r, b, m⟩ W ip iR h
  simp only [St.bend, handV] at k2
  have iwv : In (cl (p + R)) := In_cl _
  generalize cl (p + R) = wv at *
  generalize out (p + R) = o2 at *
  have K2 := Lib.hid k2
  clear k2
  have t1 : decide (wv ≤ 0) = true := decide_eq_true hw
  clear hw ix iv ip iq ir im iz iR igate iy iwv
  have hF : UF w ⟨x, v, p, q, r, b, m⟩ ((((w.alloc (.cells #[.int .i64 x, .int .i64 v, .int .i64 p, .int .i64 q, .int .i64 r, .bool b, .int .i64 m] 33)).alloc (.cells #[.int .i64 0, .int .i64 0, .int .i64 0, .int .i64 0, .int .i64 0, .bool false, .int .i64 0] 33)).alloc (.cells #[.int .i64 x, .int .i64 v, .int .i64 p, .int .i64 q, .int .i64 r, .bool b, .int .i64 m] 33)).alloc (.cells #[.pointer (some ⟨w.heap.size, 0, none⟩)] 137)) ⟨x, v, p, q, r, b, m⟩ :=
    ⟨(((Blk.new _ _ _).alloc _).alloc _).alloc _, ((Blk.at_ _ _ _ _ (by simp)).alloc _).alloc _, (Blk.at_ _ _ _ _ (by simp)).alloc _, Blk.at_ _ _ _ _ (by simp), ((((Below.refl _ _).alloc (Nat.le_refl _) _).alloc (by simp) _).alloc (by simp; omega) _).alloc (by simp; omega) _⟩
  have HF := Lib.hid hF
  clear hF
  go_enter Try.func57, Try.ntmps57
  go_upto_region 3 with fail
  have hF := HF.out
  clear HF
  have ch := hF.hand
  have cx := Blk.cell hF.1 0
  simp only [List.getElem?_toArray, List.getElem?_cons_zero, List.getElem?_cons_succ] at cx
  have HF := Lib.hid hF
  clear hF
  go_wp2_with fail
  refine (K1.out _ _ HF.out.1).mono ?_
  rintro e w1 ⟨rfl, hs, hg⟩
  have hF := HF.out.step hs hg
  clear HF hs hg ch cx
  have HF := Lib.hid hF
  clear hF
  go_upto_region 4 with fail
  have hF := HF.out
  clear HF
  have ch := hF.hand
  have cp := Blk.cell hF.1 2
  simp only [List.getElem?_toArray, List.getElem?_cons_zero, List.getElem?_cons_succ] at cp
  have HF := Lib.hid hF
  clear hF
  go_wp2_with fail
  refine (K2.out _ _ HF.out.1).mono ?_
  rintro e w2 ⟨rfl, hs, hg⟩
  have hF := HF.out.step hs hg
  clear HF hs hg ch cp
  have HF := Lib.hid hF
  clear hF
  go_upto_region 5 with fail
  have hF := HF.out
  clear HF
  have ch := hF.hand
  have HF := Lib.hid hF
  clear hF
  go_quiet (fail)
  have hF := HF.out.drewN nq
  clear HF ch
  have c0 := Blk.cell hF.2.2.1 0
  have c1 := Blk.cell hF.2.2.1 1
  have c2 := Blk.cell hF.2.2.1 2
  have c3 := Blk.cell hF.2.2.1 3
  have c4 := Blk.cell hF.2.2.1 4
  have c5 := Blk.cell hF.2.2.1 5
  have c6 := Blk.cell hF.2.2.1 6
  have g6 := Blk.frozen hF.2.2.1 6
  have d0 := Blk.cell hF.2.1 0
  have d1 := Blk.cell hF.2.1 1
  have d2 := Blk.cell hF.2.1 2
  have d3 := Blk.cell hF.2.1 3
  have d4 := Blk.cell hF.2.1 4
  have d5 := Blk.cell hF.2.1 5
  have d6 := Blk.cell hF.2.1 6
  have f0 := Blk.frozen hF.2.1 0
  have f1 := Blk.frozen hF.2.1 1
  have f2 := Blk.frozen hF.2.1 2
  have f3 := Blk.frozen hF.2.1 3
  have f4 := Blk.frozen hF.2.1 4
  have f5 := Blk.frozen hF.2.1 5
  have f6 := Blk.frozen hF.2.1 6
  simp only [List.getElem?_toArray, List.getElem?_cons_zero, List.getElem?_cons_succ] at c0 d0 c1 d1 c2 d2 c3 d3 c4 d4 c5 d5 c6 d6
  have Z := Lib.hid (Blk.far hF.2.1 (p := ⟨w.heap.size + 1 + 1, 6, none⟩) (by simp; try omega) (.int .i64 (wrap64 (m + 1))))
  have B := Lib.hid (hF.2.2.2.2.setCell (p := ⟨w.heap.size + 1 + 1, 6, none⟩) (by simp; try omega) (.int .i64 (wrap64 (m + 1))))
  clear hF
  go_wp2_with fail
  refine bodyPost_ret (v := .tuple #[(updN ⟨x, v, p, q, r, b, m⟩).val, .bool false]) (upd_results (s := updN ⟨x, v, p, q, r, b, m⟩) (((((((Z.out.set_ 0 _).set_ 1 _).set_ 2 _).set_ 3 _).set_ 4 _).set_ 5 _).set_ 6 _) _ _ rfl rfl) rfl ⟨rfl, ?_⟩
  exact (((((((B.out.setCell (by simp) _).setCell (by simp) _).setCell (by simp) _).setCell (by simp) _).setCell (by simp) _).setCell (by simp) _).setCell (by simp) _)

set_option maxRecDepth 100000 in
set_option maxHeartbeats 4000000 in
theorem Update_no2 (s : St) (z R gate : Int) (hs : s.In) (iz : In z) (iR : In R) (igate : In gate) (w : World) (hw : ¬ cl (s.p + R) ≤ 0) (hg : cl (mulZ gate (cl (s.p + R))) < cl (mulZ (cl (z - s.x)) (cl (z - s.x)))) :
    Calls Try.prog 57 #[s.val, .int .i64 z, .int .i64 R, .int .i64 gate] w fun e w' => e = .returned (.tuple #[(updN s).val, .bool false]) ∧ Below w.heap.size w w' := by
  obtain ⟨x, v, p, q, r, b, m⟩ := s
  obtain ⟨ix, iv, ip, iq, ir, im⟩ := hs
  simp only at ix iv ip iq ir im
  unfold St.val
  simp only at hw hg ⊢
  have k1 := fun W b (h : SB W w.heap.size ⟨x, v, p, q, r, b, m⟩) => hsub_any w.heap.size z x ⟨x, v, p, q, r, b, m⟩ W iz ix h
  simp only [St.bend, handV] at k1
  have iy : In (cl (z - x)) := In_cl _
  generalize cl (z - x) = y at *
  generalize out (z - x) = o1 at *
  have K1 := Lib.hid k1
  clear k1
  have k2 := fun W b (h : SB W w.heap.size ⟨x, v, p, q, r, b, m⟩) => hadd_any w.heap.size p R ⟨x, v, p, q, r, b, m⟩ W ip iR h
  simp only [St.bend, handV] at k2
  have iwv : In (cl (p + R)) := In_cl _
  generalize cl (p + R) = wv at *
  generalize out (p + R) = o2 at *
  have K2 := Lib.hid k2
  clear k2
  have k3 := fun W b (h : SB W w.heap.size ⟨x, v, p, q, r, b, m⟩) => hmul_any w.heap.size y y ⟨x, v, p, q, r, b, m⟩ W iy iy h
  simp only [St.bend, handV] at k3
  have iyy : In (cl (mulZ y y)) := In_cl _
  generalize cl (mulZ y y) = yy at *
  generalize out (mulZ y y) = o3 at *
  have K3 := Lib.hid k3
  clear k3
  have k4 := fun W b (h : SB W w.heap.size ⟨x, v, p, q, r, b, m⟩) => hmul_any w.heap.size gate wv ⟨x, v, p, q, r, b, m⟩ W igate iwv h
  simp only [St.bend, handV] at k4
  have igw : In (cl (mulZ gate wv)) := In_cl _
  generalize cl (mulZ gate wv) = gw at *
  generalize out (mulZ gate wv) = o4 at *
  have K4 := Lib.hid k4
  clear k4
  have t1 : decide (wv ≤ 0) = false := decide_eq_false hw
  have t2 : decide (gw < yy) = true := decide_eq_true hg
  clear hw hg ix iv ip iq ir im iz iR igate iy iwv iyy igw
  have hF : UF w ⟨x, v, p, q, r, b, m⟩ ((((w.alloc (.cells #[.int .i64 x, .int .i64 v, .int .i64 p, .int .i64 q, .int .i64 r, .bool b, .int .i64 m] 33)).alloc (.cells #[.int .i64 0, .int .i64 0, .int .i64 0, .int .i64 0, .int .i64 0, .bool false, .int .i64 0] 33)).alloc (.cells #[.int .i64 x, .int .i64 v, .int .i64 p, .int .i64 q, .int .i64 r, .bool b, .int .i64 m] 33)).alloc (.cells #[.pointer (some ⟨w.heap.size, 0, none⟩)] 137)) ⟨x, v, p, q, r, b, m⟩ :=
    ⟨(((Blk.new _ _ _).alloc _).alloc _).alloc _, ((Blk.at_ _ _ _ _ (by simp)).alloc _).alloc _, (Blk.at_ _ _ _ _ (by simp)).alloc _, Blk.at_ _ _ _ _ (by simp), ((((Below.refl _ _).alloc (Nat.le_refl _) _).alloc (by simp) _).alloc (by simp; omega) _).alloc (by simp; omega) _⟩
  have HF := Lib.hid hF
  clear hF
  go_enter Try.func57, Try.ntmps57
  go_upto_region 3 with fail
  have hF := HF.out
  clear HF
  have ch := hF.hand
  have cx := Blk.cell hF.1 0
  simp only [List.getElem?_toArray, List.getElem?_cons_zero, List.getElem?_cons_succ] at cx
  have HF := Lib.hid hF
  clear hF
  go_wp2_with fail
  refine (K1.out _ _ HF.out.1).mono ?_
  rintro e w1 ⟨rfl, hs, hg⟩
  have hF := HF.out.step hs hg
  clear HF hs hg ch cx
  have HF := Lib.hid hF
  clear hF
  go_upto_region 4 with fail
  have hF := HF.out
  clear HF
  have ch := hF.hand
  have cp := Blk.cell hF.1 2
  simp only [List.getElem?_toArray, List.getElem?_cons_zero, List.getElem?_cons_succ] at cp
  have HF := Lib.hid hF
  clear hF
  go_wp2_with fail
  refine (K2.out _ _ HF.out.1).mono ?_
  rintro e w2 ⟨rfl, hs, hg⟩
  have hF := HF.out.step hs hg
  clear HF hs hg ch cp
  have HF := Lib.hid hF
  clear hF
  go_upto_region 5 with fail
  have hF := HF.out
  clear HF
  replace hF := hF.drew
  go_region_held3 (fun w' => w'.cell? ⟨w.heap.size + 1 + 1 + 1, 0, none⟩ = some (.pointer (some ⟨w.heap.size, 0, none⟩))) (exact hF.hand) (first
    | (go_at_call 71; (with_reducible refine (K3.out _ _ hF.sb).mono ?_); rintro e w3 ⟨rfl, hs, hg⟩; have hF1 := hF.step hs hg; clear hF hs hg; have hF := hF1; clear hF1)
    | (go_at_call 71; (with_reducible refine (K4.out _ _ hF.sb).mono ?_); rintro e w4 ⟨rfl, hs, hg⟩; have hF1 := hF.step hs hg; clear hF hs hg; have hF := hF1; clear hF1))
  have c0 := Blk.cell hF.2.2.1 0
  have c1 := Blk.cell hF.2.2.1 1
  have c2 := Blk.cell hF.2.2.1 2
  have c3 := Blk.cell hF.2.2.1 3
  have c4 := Blk.cell hF.2.2.1 4
  have c5 := Blk.cell hF.2.2.1 5
  have c6 := Blk.cell hF.2.2.1 6
  have g6 := Blk.frozen hF.2.2.1 6
  have d0 := Blk.cell hF.2.1 0
  have d1 := Blk.cell hF.2.1 1
  have d2 := Blk.cell hF.2.1 2
  have d3 := Blk.cell hF.2.1 3
  have d4 := Blk.cell hF.2.1 4
  have d5 := Blk.cell hF.2.1 5
  have d6 := Blk.cell hF.2.1 6
  have f0 := Blk.frozen hF.2.1 0
  have f1 := Blk.frozen hF.2.1 1
  have f2 := Blk.frozen hF.2.1 2
  have f3 := Blk.frozen hF.2.1 3
  have f4 := Blk.frozen hF.2.1 4
  have f5 := Blk.frozen hF.2.1 5
  have f6 := Blk.frozen hF.2.1 6
  simp only [List.getElem?_toArray, List.getElem?_cons_zero, List.getElem?_cons_succ] at c0 d0 c1 d1 c2 d2 c3 d3 c4 d4 c5 d5 c6 d6
  have Z := Lib.hid (Blk.far hF.2.1 (p := ⟨w.heap.size + 1 + 1, 6, none⟩) (by simp; try omega) (.int .i64 (wrap64 (m + 1))))
  have B := Lib.hid (hF.2.2.2.2.setCell (p := ⟨w.heap.size + 1 + 1, 6, none⟩) (by simp; try omega) (.int .i64 (wrap64 (m + 1))))
  clear hF
  go_wp2_with fail
  refine bodyPost_ret (v := .tuple #[(updN ⟨x, v, p, q, r, b, m⟩).val, .bool false]) (upd_results (s := updN ⟨x, v, p, q, r, b, m⟩) (((((((Z.out.set_ 0 _).set_ 1 _).set_ 2 _).set_ 3 _).set_ 4 _).set_ 5 _).set_ 6 _) _ _ rfl rfl) rfl ⟨rfl, ?_⟩
  exact (((((((B.out.setCell (by simp) _).setCell (by simp) _).setCell (by simp) _).setCell (by simp) _).setCell (by simp) _).setCell (by simp) _).setCell (by simp) _)

set_option maxRecDepth 100000 in
set_option maxHeartbeats 4000000 in
theorem Update_yes (s : St) (z R gate : Int) (hs : s.In) (iz : In z) (iR : In R) (igate : In gate) (w : World) (hw : ¬ cl (s.p + R) ≤ 0) (hg : ¬ cl (mulZ gate (cl (s.p + R))) < cl (mulZ (cl (z - s.x)) (cl (z - s.x)))) :
    Calls Try.prog 57 #[s.val, .int .i64 z, .int .i64 R, .int .i64 gate] w fun e w' => e = .returned (.tuple #[(updY s z R gate).val, .bool true]) ∧ Below w.heap.size w w' := by
  obtain ⟨x, v, p, q, r, b, m⟩ := s
  obtain ⟨ix, iv, ip, iq, ir, im⟩ := hs
  simp only at ix iv ip iq ir im
  unfold updY St.val
  simp only at hw hg ⊢
  have k1 := fun W b (h : SB W w.heap.size ⟨x, v, p, q, r, b, m⟩) => hsub_any w.heap.size z x ⟨x, v, p, q, r, b, m⟩ W iz ix h
  simp only [St.bend, handV] at k1
  have iy : In (cl (z - x)) := In_cl _
  generalize cl (z - x) = y at *
  generalize out (z - x) = o1 at *
  have K1 := Lib.hid k1
  clear k1
  have k2 := fun W b (h : SB W w.heap.size ⟨x, v, p, q, r, b, m⟩) => hadd_any w.heap.size p R ⟨x, v, p, q, r, b, m⟩ W ip iR h
  simp only [St.bend, handV] at k2
  have iwv : In (cl (p + R)) := In_cl _
  generalize cl (p + R) = wv at *
  generalize out (p + R) = o2 at *
  have K2 := Lib.hid k2
  clear k2
  have k3 := fun W b (h : SB W w.heap.size ⟨x, v, p, q, r, b, m⟩) => hmul_any w.heap.size y y ⟨x, v, p, q, r, b, m⟩ W iy iy h
  simp only [St.bend, handV] at k3
  have iyy : In (cl (mulZ y y)) := In_cl _
  generalize cl (mulZ y y) = yy at *
  generalize out (mulZ y y) = o3 at *
  have K3 := Lib.hid k3
  clear k3
  have k4 := fun W b (h : SB W w.heap.size ⟨x, v, p, q, r, b, m⟩) => hmul_any w.heap.size gate wv ⟨x, v, p, q, r, b, m⟩ W igate iwv h
  simp only [St.bend, handV] at k4
  have igw : In (cl (mulZ gate wv)) := In_cl _
  generalize cl (mulZ gate wv) = gw at *
  generalize out (mulZ gate wv) = o4 at *
  have K4 := Lib.hid k4
  clear k4
  have k5 := fun W b (h : SB W w.heap.size ⟨x, v, p, q, r, b, m⟩) => hdiv_any w.heap.size p wv ⟨x, v, p, q, r, b, m⟩ W ip iwv h
  simp only [St.bend, handV] at k5
  have ikk : In (divR p wv) := In_divR _ _
  generalize divR p wv = kk at *
  generalize divB p wv = o5 at *
  have K5 := Lib.hid k5
  clear k5
  have k6 := fun W b (h : SB W w.heap.size ⟨x, v, p, q, r, b, m⟩) => hdiv_any w.heap.size q wv ⟨x, v, p, q, r, b, m⟩ W iq iwv h
  simp only [St.bend, handV] at k6
  have ill : In (divR q wv) := In_divR _ _
  generalize divR q wv = ll at *
  generalize divB q wv = o6 at *
  have K6 := Lib.hid k6
  clear k6
  have k7 := fun W b (h : SB W w.heap.size ⟨x, v, p, q, r, b, m⟩) => hmul_any w.heap.size kk y ⟨x, v, p, q, r, b, m⟩ W ikk iy h
  simp only [St.bend, handV] at k7
  have ia3 : In (cl (mulZ kk y)) := In_cl _
  generalize cl (mulZ kk y) = a3 at *
  generalize out (mulZ kk y) = o7 at *
  have K7 := Lib.hid k7
  clear k7
  have k8 := fun W b (h : SB W w.heap.size ⟨x, v, p, q, r, b, m⟩) => hadd_any w.heap.size x a3 ⟨x, v, p, q, r, b, m⟩ W ix ia3 h
  simp only [St.bend, handV] at k8
  have ix1 : In (cl (x + a3)) := In_cl _
  generalize cl (x + a3) = x1 at *
  generalize out (x + a3) = o8 at *
  have K8 := Lib.hid k8
  clear k8
  have k9 := fun W b (h : SB W w.heap.size ⟨x1, v, p, q, r, b, m⟩) => hmul_any w.heap.size ll y ⟨x1, v, p, q, r, b, m⟩ W ill iy h
  simp only [St.bend, handV] at k9
  have ia4 : In (cl (mulZ ll y)) := In_cl _
  generalize cl (mulZ ll y) = a4 at *
  generalize out (mulZ ll y) = o9 at *
  have K9 := Lib.hid k9
  clear k9
  have k10 := fun W b (h : SB W w.heap.size ⟨x1, v, p, q, r, b, m⟩) => hadd_any w.heap.size v a4 ⟨x1, v, p, q, r, b, m⟩ W iv ia4 h
  simp only [St.bend, handV] at k10
  have iv1 : In (cl (v + a4)) := In_cl _
  generalize cl (v + a4) = v1 at *
  generalize out (v + a4) = o10 at *
  have K10 := Lib.hid k10
  clear k10
  have k11 := fun W b (h : SB W w.heap.size ⟨x1, v1, p, q, r, b, m⟩) => hmul_any w.heap.size kk p ⟨x1, v1, p, q, r, b, m⟩ W ikk ip h
  simp only [St.bend, handV] at k11
  have ia5 : In (cl (mulZ kk p)) := In_cl _
  generalize cl (mulZ kk p) = a5 at *
  generalize out (mulZ kk p) = o11 at *
  have K11 := Lib.hid k11
  clear k11
  have k12 := fun W b (h : SB W w.heap.size ⟨x1, v1, p, q, r, b, m⟩) => hsub_any w.heap.size p a5 ⟨x1, v1, p, q, r, b, m⟩ W ip ia5 h
  simp only [St.bend, handV] at k12
  have ip1 : In (cl (p - a5)) := In_cl _
  generalize cl (p - a5) = p1 at *
  generalize out (p - a5) = o12 at *
  have K12 := Lib.hid k12
  clear k12
  have k13 := fun W b (h : SB W w.heap.size ⟨x1, v1, p1, q, r, b, m⟩) => hmul_any w.heap.size kk q ⟨x1, v1, p1, q, r, b, m⟩ W ikk iq h
  simp only [St.bend, handV] at k13
  have ia6 : In (cl (mulZ kk q)) := In_cl _
  generalize cl (mulZ kk q) = a6 at *
  generalize out (mulZ kk q) = o13 at *
  have K13 := Lib.hid k13
  clear k13
  have k14 := fun W b (h : SB W w.heap.size ⟨x1, v1, p1, q, r, b, m⟩) => hsub_any w.heap.size q a6 ⟨x1, v1, p1, q, r, b, m⟩ W iq ia6 h
  simp only [St.bend, handV] at k14
  have iq1 : In (cl (q - a6)) := In_cl _
  generalize cl (q - a6) = q1 at *
  generalize out (q - a6) = o14 at *
  have K14 := Lib.hid k14
  clear k14
  have k15 := fun W b (h : SB W w.heap.size ⟨x1, v1, p1, q1, r, b, m⟩) => hmul_any w.heap.size ll q ⟨x1, v1, p1, q1, r, b, m⟩ W ill iq h
  simp only [St.bend, handV] at k15
  have ia7 : In (cl (mulZ ll q)) := In_cl _
  generalize cl (mulZ ll q) = a7 at *
  generalize out (mulZ ll q) = o15 at *
  have K15 := Lib.hid k15
  clear k15
  have k16 := fun W b (h : SB W w.heap.size ⟨x1, v1, p1, q1, r, b, m⟩) => hsub_any w.heap.size r a7 ⟨x1, v1, p1, q1, r, b, m⟩ W ir ia7 h
  simp only [St.bend, handV] at k16
  have ir1 : In (cl (r - a7)) := In_cl _
  generalize cl (r - a7) = r1 at *
  generalize out (r - a7) = o16 at *
  have K16 := Lib.hid k16
  clear k16
  have t1 : decide (wv ≤ 0) = false := decide_eq_false hw
  have t2 : decide (gw < yy) = false := decide_eq_false hg
  clear hw hg ix iv ip iq ir im iz iR igate iy iwv iyy igw ikk ill ia3 ix1 ia4 iv1 ia5 ip1 ia6 iq1 ia7 ir1
  have hF : UF w ⟨x, v, p, q, r, b, m⟩ ((((w.alloc (.cells #[.int .i64 x, .int .i64 v, .int .i64 p, .int .i64 q, .int .i64 r, .bool b, .int .i64 m] 33)).alloc (.cells #[.int .i64 0, .int .i64 0, .int .i64 0, .int .i64 0, .int .i64 0, .bool false, .int .i64 0] 33)).alloc (.cells #[.int .i64 x, .int .i64 v, .int .i64 p, .int .i64 q, .int .i64 r, .bool b, .int .i64 m] 33)).alloc (.cells #[.pointer (some ⟨w.heap.size, 0, none⟩)] 137)) ⟨x, v, p, q, r, b, m⟩ :=
    ⟨(((Blk.new _ _ _).alloc _).alloc _).alloc _, ((Blk.at_ _ _ _ _ (by simp)).alloc _).alloc _, (Blk.at_ _ _ _ _ (by simp)).alloc _, Blk.at_ _ _ _ _ (by simp), ((((Below.refl _ _).alloc (Nat.le_refl _) _).alloc (by simp) _).alloc (by simp; omega) _).alloc (by simp; omega) _⟩
  have HF := Lib.hid hF
  clear hF
  go_enter Try.func57, Try.ntmps57
  go_upto_region 3 with fail
  have hF := HF.out
  clear HF
  have ch := hF.hand
  have cx := Blk.cell hF.1 0
  simp only [List.getElem?_toArray, List.getElem?_cons_zero, List.getElem?_cons_succ] at cx
  have HF := Lib.hid hF
  clear hF
  go_wp2_with fail
  refine (K1.out _ _ HF.out.1).mono ?_
  rintro e w1 ⟨rfl, hs, hg⟩
  have hF := HF.out.step hs hg
  clear HF hs hg ch cx
  have HF := Lib.hid hF
  clear hF
  go_upto_region 4 with fail
  have hF := HF.out
  clear HF
  have ch := hF.hand
  have cp := Blk.cell hF.1 2
  simp only [List.getElem?_toArray, List.getElem?_cons_zero, List.getElem?_cons_succ] at cp
  have HF := Lib.hid hF
  clear hF
  go_wp2_with fail
  refine (K2.out _ _ HF.out.1).mono ?_
  rintro e w2 ⟨rfl, hs, hg⟩
  have hF := HF.out.step hs hg
  clear HF hs hg ch cp
  have HF := Lib.hid hF
  clear hF
  go_upto_region 5 with fail
  have hF := HF.out
  clear HF
  replace hF := hF.drew
  go_region_held3 (fun w' => w'.cell? ⟨w.heap.size + 1 + 1 + 1, 0, none⟩ = some (.pointer (some ⟨w.heap.size, 0, none⟩))) (exact hF.hand) (first
    | (go_at_call 71; (with_reducible refine (K3.out _ _ hF.sb).mono ?_); rintro e w3 ⟨rfl, hs, hg⟩; have hF1 := hF.step hs hg; clear hF hs hg; have hF := hF1; clear hF1)
    | (go_at_call 71; (with_reducible refine (K4.out _ _ hF.sb).mono ?_); rintro e w4 ⟨rfl, hs, hg⟩; have hF1 := hF.step hs hg; clear hF hs hg; have hF := hF1; clear hF1))
  have HF := Lib.hid hF
  clear hF
  go_upto_region 8 with fail
  have hF := HF.out
  clear HF
  replace hF := hF.drew
  go_region_held3 (fun w' => w'.cell? ⟨w.heap.size + 1 + 1 + 1, 0, none⟩ = some (.pointer (some ⟨w.heap.size, 0, none⟩)) ∧ w'.cell? ⟨w.heap.size, 2, none⟩ = some (.int .i64 p) ∧ w'.cell? ⟨w.heap.size, 3, none⟩ = some (.int .i64 q)) (exact ⟨hF.hand, Blk.cell hF.1 2, Blk.cell hF.1 3⟩) (first
    | (go_at_call 72; (with_reducible refine (K5.out _ _ hF.sb).mono ?_); rintro e w5 ⟨rfl, hs, hg⟩; have hF1 := hF.step hs hg; clear hF hs hg; have hF := hF1; clear hF1)
    | (go_at_call 72; (with_reducible refine (K6.out _ _ hF.sb).mono ?_); rintro e w6 ⟨rfl, hs, hg⟩; have hF1 := hF.step hs hg; clear hF hs hg; have hF := hF1; clear hF1))
  have HF := Lib.hid hF
  clear hF
  go_upto_region 9 with fail
  have hF := HF.out
  clear HF
  replace hF := hF.drew
  refine wp_region_F 9 (fun w' => w'.cell? ⟨w.heap.size + 1 + 1 + 1, 0, none⟩ = some (.pointer (some ⟨w.heap.size, 0, none⟩)) ∧ w'.cell? ⟨w.heap.size, 0, none⟩ = some (.int .i64 x)) (by kernel_rfl) ⟨hF.hand, Blk.cell hF.1 0⟩ (fun hS => ?_)
  refine wpF 0 ?_ rfl (by kernel_rfl) (fun _ _ _ h => h) (Or.inl ⟨by rfl, fun wx hSw => ?_⟩) hS ?_
  rotate_left
  · (try dsimp only at hSw); go_simp; (try with_reducible rfl)
  try simp only [pts]
  refine wpF 1 ?_ rfl (by kernel_rfl) (fun _ _ _ h => h) (Or.inl ⟨by rfl, fun wx hSw => ?_⟩) hS ?_
  rotate_left
  · (try dsimp only at hSw); go_simp; (try with_reducible rfl)
  try simp only [pts]
  refine wpF 2 ?_ rfl (by kernel_rfl) (fun _ _ _ h => h) (Or.inl ⟨by rfl, fun wx hSw => ?_⟩) hS ?_
  rotate_left
  · (try dsimp only at hSw); go_simp; (try with_reducible rfl)
  try simp only [pts]
  refine wpF 3 ?_ rfl (by kernel_rfl) (fun _ _ _ h => h) (Or.inl ⟨by rfl, fun wx hSw => ?_⟩) hS ?_
  rotate_left
  · (try dsimp only at hSw); go_simp; (try with_reducible rfl)
  try simp only [pts]
  refine wpF 4 ?_ rfl (by kernel_rfl) (fun _ _ _ h => h) (Or.inl ⟨by rfl, fun wx hSw => ?_⟩) hS ?_
  rotate_left
  · (try dsimp only at hSw); go_simp; (try with_reducible rfl)
  try simp only [pts]
  refine wpF 5 ?_ rfl (by kernel_rfl) (fun _ _ _ h => h) (Or.inl ⟨by rfl, fun wx hSw => ?_⟩) hS ?_
  rotate_left
  · (try dsimp only at hSw); go_simp; (try with_reducible rfl)
  try simp only [pts]
  refine wpAnyF_one (i := 6) rfl (by kernel_rfl) (fun K hK => ?_)
  go_simp
  (with_reducible refine (K7.out _ _ hF.sb).mono ?_)
  rintro e w7 ⟨rfl, hs, hg⟩
  have hF1 := hF.step hs hg
  clear hF hs hg hS
  have hF := hF1
  clear hF1
  have hS : (fun w' => w'.cell? ⟨w.heap.size + 1 + 1 + 1, 0, none⟩ = some (.pointer (some ⟨w.heap.size, 0, none⟩)) ∧ w'.cell? ⟨w.heap.size, 0, none⟩ = some (.int .i64 x)) w7 := ⟨hF.hand, Blk.cell hF.1 0⟩
  refine hK.out _ _ hS ?_
  clear hK K
  try simp only [pts]
  refine wpAnyF_one (i := 7) rfl (by kernel_rfl) (fun K hK => ?_)
  go_simp
  (with_reducible refine (K8.out _ _ hF.sb).mono ?_)
  rintro e w8 ⟨rfl, hs, hg⟩
  have hF1 := hF.step hs hg
  clear hF hs hg hS
  have hF := hF1
  clear hF1
  have hS : (fun w' => w'.cell? ⟨w.heap.size + 1 + 1 + 1, 0, none⟩ = some (.pointer (some ⟨w.heap.size, 0, none⟩)) ∧ w'.cell? ⟨w.heap.size, 0, none⟩ = some (.int .i64 x)) w8 := ⟨hF.hand, Blk.cell hF.1 0⟩
  refine hK.out _ _ hS ?_
  clear hK K
  try simp only [pts]
  refine wpF 8 ?_ rfl (by kernel_rfl) (fun _ _ _ h => h) (Or.inl ⟨by rfl, fun wx hSw => ?_⟩) hS ?_
  rotate_left
  · (try dsimp only at hSw); go_simp; (try with_reducible rfl)
  try simp only [pts]
  clear hS
  have d0 := Blk.cell hF.sb 0
  simp only [List.getElem?_toArray, List.getElem?_cons_zero, List.getElem?_cons_succ] at d0
  have f0 := Blk.frozen hF.sb 0
  have hF1 := Lib.hid (hF.set_ 0 _ (sb_setx hF.sb x1))
  clear hF
  refine wpAnyF_last rfl (by kernel_rfl) (by kernel_rfl) (fun K hK => ?_)
  go_simp
  refine hK.out _ _ ?_
  clear hK K d0 f0
  try simp only [pts]
  go_upto_region 10 with fail
  have hF := hF1.out
  clear hF1
  replace hF := hF.drew
  refine wp_region_F 9 (fun w' => w'.cell? ⟨w.heap.size + 1 + 1 + 1, 0, none⟩ = some (.pointer (some ⟨w.heap.size, 0, none⟩)) ∧ w'.cell? ⟨w.heap.size, 1, none⟩ = some (.int .i64 v)) (by kernel_rfl) ⟨hF.hand, Blk.cell hF.1 1⟩ (fun hS => ?_)
  refine wpF 0 ?_ rfl (by kernel_rfl) (fun _ _ _ h => h) (Or.inl ⟨by rfl, fun wx hSw => ?_⟩) hS ?_
  rotate_left
  · (try dsimp only at hSw); go_simp; (try with_reducible rfl)
  try simp only [pts]
  refine wpF 1 ?_ rfl (by kernel_rfl) (fun _ _ _ h => h) (Or.inl ⟨by rfl, fun wx hSw => ?_⟩) hS ?_
  rotate_left
  · (try dsimp only at hSw); go_simp; (try with_reducible rfl)
  try simp only [pts]
  refine wpF 2 ?_ rfl (by kernel_rfl) (fun _ _ _ h => h) (Or.inl ⟨by rfl, fun wx hSw => ?_⟩) hS ?_
  rotate_left
  · (try dsimp only at hSw); go_simp; (try with_reducible rfl)
  try simp only [pts]
  refine wpF 3 ?_ rfl (by kernel_rfl) (fun _ _ _ h => h) (Or.inl ⟨by rfl, fun wx hSw => ?_⟩) hS ?_
  rotate_left
  · (try dsimp only at hSw); go_simp; (try with_reducible rfl)
  try simp only [pts]
  refine wpF 4 ?_ rfl (by kernel_rfl) (fun _ _ _ h => h) (Or.inl ⟨by rfl, fun wx hSw => ?_⟩) hS ?_
  rotate_left
  · (try dsimp only at hSw); go_simp; (try with_reducible rfl)
  try simp only [pts]
  refine wpF 5 ?_ rfl (by kernel_rfl) (fun _ _ _ h => h) (Or.inl ⟨by rfl, fun wx hSw => ?_⟩) hS ?_
  rotate_left
  · (try dsimp only at hSw); go_simp; (try with_reducible rfl)
  try simp only [pts]
  refine wpAnyF_one (i := 6) rfl (by kernel_rfl) (fun K hK => ?_)
  go_simp
  (with_reducible refine (K9.out _ _ hF.sb).mono ?_)
  rintro e w9 ⟨rfl, hs, hg⟩
  have hF1 := hF.step hs hg
  clear hF hs hg hS
  have hF := hF1
  clear hF1
  have hS : (fun w' => w'.cell? ⟨w.heap.size + 1 + 1 + 1, 0, none⟩ = some (.pointer (some ⟨w.heap.size, 0, none⟩)) ∧ w'.cell? ⟨w.heap.size, 1, none⟩ = some (.int .i64 v)) w9 := ⟨hF.hand, Blk.cell hF.1 1⟩
  refine hK.out _ _ hS ?_
  clear hK K
  try simp only [pts]
  refine wpAnyF_one (i := 7) rfl (by kernel_rfl) (fun K hK => ?_)
  go_simp
  (with_reducible refine (K10.out _ _ hF.sb).mono ?_)
  rintro e w10 ⟨rfl, hs, hg⟩
  have hF1 := hF.step hs hg
  clear hF hs hg hS
  have hF := hF1
  clear hF1
  have hS : (fun w' => w'.cell? ⟨w.heap.size + 1 + 1 + 1, 0, none⟩ = some (.pointer (some ⟨w.heap.size, 0, none⟩)) ∧ w'.cell? ⟨w.heap.size, 1, none⟩ = some (.int .i64 v)) w10 := ⟨hF.hand, Blk.cell hF.1 1⟩
  refine hK.out _ _ hS ?_
  clear hK K
  try simp only [pts]
  refine wpF 8 ?_ rfl (by kernel_rfl) (fun _ _ _ h => h) (Or.inl ⟨by rfl, fun wx hSw => ?_⟩) hS ?_
  rotate_left
  · (try dsimp only at hSw); go_simp; (try with_reducible rfl)
  try simp only [pts]
  clear hS
  have d0 := Blk.cell hF.sb 1
  simp only [List.getElem?_toArray, List.getElem?_cons_zero, List.getElem?_cons_succ] at d0
  have f0 := Blk.frozen hF.sb 1
  have hF1 := Lib.hid (hF.set_ 1 _ (sb_setv hF.sb v1))
  clear hF
  refine wpAnyF_last rfl (by kernel_rfl) (by kernel_rfl) (fun K hK => ?_)
  go_simp
  refine hK.out _ _ ?_
  clear hK K d0 f0
  try simp only [pts]
  go_upto_region 11 with fail
  have hF := hF1.out
  clear hF1
  replace hF := hF.drew
  have c2 := Blk.cell hF.1 2
  have c3 := Blk.cell hF.1 3
  simp only [List.getElem?_toArray, List.getElem?_cons_zero, List.getElem?_cons_succ] at c2 c3
  have HF := Lib.hid hF
  clear hF
  go_region
  have hF := HF.out
  clear HF c2 c3
  have HF := Lib.hid hF
  clear hF
  go_upto_region 12 with fail
  have hF := HF.out
  clear HF
  replace hF := hF.drew
  refine wp_region_F 9 (fun w' => w'.cell? ⟨w.heap.size + 1 + 1 + 1, 0, none⟩ = some (.pointer (some ⟨w.heap.size, 0, none⟩)) ∧ w'.cell? ⟨w.heap.size, 2, none⟩ = some (.int .i64 p)) (by kernel_rfl) ⟨hF.hand, Blk.cell hF.1 2⟩ (fun hS => ?_)
  refine wpF 0 ?_ rfl (by kernel_rfl) (fun _ _ _ h => h) (Or.inl ⟨by rfl, fun wx hSw => ?_⟩) hS ?_
  rotate_left
  · (try dsimp only at hSw); go_simp; (try with_reducible rfl)
  try simp only [pts]
  refine wpF 1 ?_ rfl (by kernel_rfl) (fun _ _ _ h => h) (Or.inl ⟨by rfl, fun wx hSw => ?_⟩) hS ?_
  rotate_left
  · (try dsimp only at hSw); go_simp; (try with_reducible rfl)
  try simp only [pts]
  refine wpF 2 ?_ rfl (by kernel_rfl) (fun _ _ _ h => h) (Or.inl ⟨by rfl, fun wx hSw => ?_⟩) hS ?_
  rotate_left
  · (try dsimp only at hSw); go_simp; (try with_reducible rfl)
  try simp only [pts]
  refine wpF 3 ?_ rfl (by kernel_rfl) (fun _ _ _ h => h) (Or.inl ⟨by rfl, fun wx hSw => ?_⟩) hS ?_
  rotate_left
  · (try dsimp only at hSw); go_simp; (try with_reducible rfl)
  try simp only [pts]
  refine wpF 4 ?_ rfl (by kernel_rfl) (fun _ _ _ h => h) (Or.inl ⟨by rfl, fun wx hSw => ?_⟩) hS ?_
  rotate_left
  · (try dsimp only at hSw); go_simp; (try with_reducible rfl)
  try simp only [pts]
  refine wpF 5 ?_ rfl (by kernel_rfl) (fun _ _ _ h => h) (Or.inl ⟨by rfl, fun wx hSw => ?_⟩) hS ?_
  rotate_left
  · (try dsimp only at hSw); go_simp; (try with_reducible rfl)
  try simp only [pts]
  refine wpAnyF_one (i := 6) rfl (by kernel_rfl) (fun K hK => ?_)
  go_simp
  (with_reducible refine (K11.out _ _ hF.sb).mono ?_)
  rintro e w11 ⟨rfl, hs, hg⟩
  have hF1 := hF.step hs hg
  clear hF hs hg hS
  have hF := hF1
  clear hF1
  have hS : (fun w' => w'.cell? ⟨w.heap.size + 1 + 1 + 1, 0, none⟩ = some (.pointer (some ⟨w.heap.size, 0, none⟩)) ∧ w'.cell? ⟨w.heap.size, 2, none⟩ = some (.int .i64 p)) w11 := ⟨hF.hand, Blk.cell hF.1 2⟩
  refine hK.out _ _ hS ?_
  clear hK K
  try simp only [pts]
  refine wpAnyF_one (i := 7) rfl (by kernel_rfl) (fun K hK => ?_)
  go_simp
  (with_reducible refine (K12.out _ _ hF.sb).mono ?_)
  rintro e w12 ⟨rfl, hs, hg⟩
  have hF1 := hF.step hs hg
  clear hF hs hg hS
  have hF := hF1
  clear hF1
  have hS : (fun w' => w'.cell? ⟨w.heap.size + 1 + 1 + 1, 0, none⟩ = some (.pointer (some ⟨w.heap.size, 0, none⟩)) ∧ w'.cell? ⟨w.heap.size, 2, none⟩ = some (.int .i64 p)) w12 := ⟨hF.hand, Blk.cell hF.1 2⟩
  refine hK.out _ _ hS ?_
  clear hK K
  try simp only [pts]
  refine wpF 8 ?_ rfl (by kernel_rfl) (fun _ _ _ h => h) (Or.inl ⟨by rfl, fun wx hSw => ?_⟩) hS ?_
  rotate_left
  · (try dsimp only at hSw); go_simp; (try with_reducible rfl)
  try simp only [pts]
  clear hS
  have d0 := Blk.cell hF.sb 2
  simp only [List.getElem?_toArray, List.getElem?_cons_zero, List.getElem?_cons_succ] at d0
  have f0 := Blk.frozen hF.sb 2
  have hF1 := Lib.hid (hF.set_ 2 _ (sb_setp hF.sb p1))
  clear hF
  refine wpAnyF_last rfl (by kernel_rfl) (by kernel_rfl) (fun K hK => ?_)
  go_simp
  refine hK.out _ _ ?_
  clear hK K d0 f0
  try simp only [pts]
  go_upto_region 13 with fail
  have hF := hF1.out
  clear hF1
  replace hF := hF.drew
  refine wp_region_F 9 (fun w' => w'.cell? ⟨w.heap.size + 1 + 1 + 1, 0, none⟩ = some (.pointer (some ⟨w.heap.size, 0, none⟩)) ∧ w'.cell? ⟨w.heap.size, 3, none⟩ = some (.int .i64 q)) (by kernel_rfl) ⟨hF.hand, Blk.cell hF.1 3⟩ (fun hS => ?_)
  refine wpF 0 ?_ rfl (by kernel_rfl) (fun _ _ _ h => h) (Or.inl ⟨by rfl, fun wx hSw => ?_⟩) hS ?_
  rotate_left
  · (try dsimp only at hSw); go_simp; (try with_reducible rfl)
  try simp only [pts]
  refine wpF 1 ?_ rfl (by kernel_rfl) (fun _ _ _ h => h) (Or.inl ⟨by rfl, fun wx hSw => ?_⟩) hS ?_
  rotate_left
  · (try dsimp only at hSw); go_simp; (try with_reducible rfl)
  try simp only [pts]
  refine wpF 2 ?_ rfl (by kernel_rfl) (fun _ _ _ h => h) (Or.inl ⟨by rfl, fun wx hSw => ?_⟩) hS ?_
  rotate_left
  · (try dsimp only at hSw); go_simp; (try with_reducible rfl)
  try simp only [pts]
  refine wpF 3 ?_ rfl (by kernel_rfl) (fun _ _ _ h => h) (Or.inl ⟨by rfl, fun wx hSw => ?_⟩) hS ?_
  rotate_left
  · (try dsimp only at hSw); go_simp; (try with_reducible rfl)
  try simp only [pts]
  refine wpF 4 ?_ rfl (by kernel_rfl) (fun _ _ _ h => h) (Or.inl ⟨by rfl, fun wx hSw => ?_⟩) hS ?_
  rotate_left
  · (try dsimp only at hSw); go_simp; (try with_reducible rfl)
  try simp only [pts]
  refine wpF 5 ?_ rfl (by kernel_rfl) (fun _ _ _ h => h) (Or.inl ⟨by rfl, fun wx hSw => ?_⟩) hS ?_
  rotate_left
  · (try dsimp only at hSw); go_simp; (try with_reducible rfl)
  try simp only [pts]
  refine wpAnyF_one (i := 6) rfl (by kernel_rfl) (fun K hK => ?_)
  go_simp
  (with_reducible refine (K13.out _ _ hF.sb).mono ?_)
  rintro e w13 ⟨rfl, hs, hg⟩
  have hF1 := hF.step hs hg
  clear hF hs hg hS
  have hF := hF1
  clear hF1
  have hS : (fun w' => w'.cell? ⟨w.heap.size + 1 + 1 + 1, 0, none⟩ = some (.pointer (some ⟨w.heap.size, 0, none⟩)) ∧ w'.cell? ⟨w.heap.size, 3, none⟩ = some (.int .i64 q)) w13 := ⟨hF.hand, Blk.cell hF.1 3⟩
  refine hK.out _ _ hS ?_
  clear hK K
  try simp only [pts]
  refine wpAnyF_one (i := 7) rfl (by kernel_rfl) (fun K hK => ?_)
  go_simp
  (with_reducible refine (K14.out _ _ hF.sb).mono ?_)
  rintro e w14 ⟨rfl, hs, hg⟩
  have hF1 := hF.step hs hg
  clear hF hs hg hS
  have hF := hF1
  clear hF1
  have hS : (fun w' => w'.cell? ⟨w.heap.size + 1 + 1 + 1, 0, none⟩ = some (.pointer (some ⟨w.heap.size, 0, none⟩)) ∧ w'.cell? ⟨w.heap.size, 3, none⟩ = some (.int .i64 q)) w14 := ⟨hF.hand, Blk.cell hF.1 3⟩
  refine hK.out _ _ hS ?_
  clear hK K
  try simp only [pts]
  refine wpF 8 ?_ rfl (by kernel_rfl) (fun _ _ _ h => h) (Or.inl ⟨by rfl, fun wx hSw => ?_⟩) hS ?_
  rotate_left
  · (try dsimp only at hSw); go_simp; (try with_reducible rfl)
  try simp only [pts]
  clear hS
  have d0 := Blk.cell hF.sb 3
  simp only [List.getElem?_toArray, List.getElem?_cons_zero, List.getElem?_cons_succ] at d0
  have f0 := Blk.frozen hF.sb 3
  have hF1 := Lib.hid (hF.set_ 3 _ (sb_setq hF.sb q1))
  clear hF
  refine wpAnyF_last rfl (by kernel_rfl) (by kernel_rfl) (fun K hK => ?_)
  go_simp
  refine hK.out _ _ ?_
  clear hK K d0 f0
  try simp only [pts]
  go_upto_region 14 with fail
  have hF := hF1.out
  clear hF1
  replace hF := hF.drew
  refine wp_region_F 9 (fun w' => w'.cell? ⟨w.heap.size + 1 + 1 + 1, 0, none⟩ = some (.pointer (some ⟨w.heap.size, 0, none⟩)) ∧ w'.cell? ⟨w.heap.size, 4, none⟩ = some (.int .i64 r)) (by kernel_rfl) ⟨hF.hand, Blk.cell hF.1 4⟩ (fun hS => ?_)
  refine wpF 0 ?_ rfl (by kernel_rfl) (fun _ _ _ h => h) (Or.inl ⟨by rfl, fun wx hSw => ?_⟩) hS ?_
  rotate_left
  · (try dsimp only at hSw); go_simp; (try with_reducible rfl)
  try simp only [pts]
  refine wpF 1 ?_ rfl (by kernel_rfl) (fun _ _ _ h => h) (Or.inl ⟨by rfl, fun wx hSw => ?_⟩) hS ?_
  rotate_left
  · (try dsimp only at hSw); go_simp; (try with_reducible rfl)
  try simp only [pts]
  refine wpF 2 ?_ rfl (by kernel_rfl) (fun _ _ _ h => h) (Or.inl ⟨by rfl, fun wx hSw => ?_⟩) hS ?_
  rotate_left
  · (try dsimp only at hSw); go_simp; (try with_reducible rfl)
  try simp only [pts]
  refine wpF 3 ?_ rfl (by kernel_rfl) (fun _ _ _ h => h) (Or.inl ⟨by rfl, fun wx hSw => ?_⟩) hS ?_
  rotate_left
  · (try dsimp only at hSw); go_simp; (try with_reducible rfl)
  try simp only [pts]
  refine wpF 4 ?_ rfl (by kernel_rfl) (fun _ _ _ h => h) (Or.inl ⟨by rfl, fun wx hSw => ?_⟩) hS ?_
  rotate_left
  · (try dsimp only at hSw); go_simp; (try with_reducible rfl)
  try simp only [pts]
  refine wpF 5 ?_ rfl (by kernel_rfl) (fun _ _ _ h => h) (Or.inl ⟨by rfl, fun wx hSw => ?_⟩) hS ?_
  rotate_left
  · (try dsimp only at hSw); go_simp; (try with_reducible rfl)
  try simp only [pts]
  refine wpAnyF_one (i := 6) rfl (by kernel_rfl) (fun K hK => ?_)
  go_simp
  (with_reducible refine (K15.out _ _ hF.sb).mono ?_)
  rintro e w15 ⟨rfl, hs, hg⟩
  have hF1 := hF.step hs hg
  clear hF hs hg hS
  have hF := hF1
  clear hF1
  have hS : (fun w' => w'.cell? ⟨w.heap.size + 1 + 1 + 1, 0, none⟩ = some (.pointer (some ⟨w.heap.size, 0, none⟩)) ∧ w'.cell? ⟨w.heap.size, 4, none⟩ = some (.int .i64 r)) w15 := ⟨hF.hand, Blk.cell hF.1 4⟩
  refine hK.out _ _ hS ?_
  clear hK K
  try simp only [pts]
  refine wpAnyF_one (i := 7) rfl (by kernel_rfl) (fun K hK => ?_)
  go_simp
  (with_reducible refine (K16.out _ _ hF.sb).mono ?_)
  rintro e w16 ⟨rfl, hs, hg⟩
  have hF1 := hF.step hs hg
  clear hF hs hg hS
  have hF := hF1
  clear hF1
  have hS : (fun w' => w'.cell? ⟨w.heap.size + 1 + 1 + 1, 0, none⟩ = some (.pointer (some ⟨w.heap.size, 0, none⟩)) ∧ w'.cell? ⟨w.heap.size, 4, none⟩ = some (.int .i64 r)) w16 := ⟨hF.hand, Blk.cell hF.1 4⟩
  refine hK.out _ _ hS ?_
  clear hK K
  try simp only [pts]
  refine wpF 8 ?_ rfl (by kernel_rfl) (fun _ _ _ h => h) (Or.inl ⟨by rfl, fun wx hSw => ?_⟩) hS ?_
  rotate_left
  · (try dsimp only at hSw); go_simp; (try with_reducible rfl)
  try simp only [pts]
  clear hS
  have d0 := Blk.cell hF.sb 4
  simp only [List.getElem?_toArray, List.getElem?_cons_zero, List.getElem?_cons_succ] at d0
  have f0 := Blk.frozen hF.sb 4
  have hF1 := Lib.hid (hF.set_ 4 _ (sb_setr hF.sb r1))
  clear hF
  refine wpAnyF_last rfl (by kernel_rfl) (by kernel_rfl) (fun K hK => ?_)
  go_simp
  refine hK.out _ _ ?_
  clear hK K d0 f0
  try simp only [pts]
  go_upto_region 15 with fail
  have hF := hF1.out
  clear hF1
  have c0 := Blk.cell hF.1 0
  have c1 := Blk.cell hF.1 1
  have c2 := Blk.cell hF.1 2
  have c3 := Blk.cell hF.1 3
  have c4 := Blk.cell hF.1 4
  have c5 := Blk.cell hF.1 5
  have c6 := Blk.cell hF.1 6
  have g6 := Blk.frozen hF.1 6
  have d0 := Blk.cell hF.2.1 0
  have d1 := Blk.cell hF.2.1 1
  have d2 := Blk.cell hF.2.1 2
  have d3 := Blk.cell hF.2.1 3
  have d4 := Blk.cell hF.2.1 4
  have d5 := Blk.cell hF.2.1 5
  have d6 := Blk.cell hF.2.1 6
  have f0 := Blk.frozen hF.2.1 0
  have f1 := Blk.frozen hF.2.1 1
  have f2 := Blk.frozen hF.2.1 2
  have f3 := Blk.frozen hF.2.1 3
  have f4 := Blk.frozen hF.2.1 4
  have f5 := Blk.frozen hF.2.1 5
  have f6 := Blk.frozen hF.2.1 6
  simp only [List.getElem?_toArray, List.getElem?_cons_zero, List.getElem?_cons_succ] at c0 d0 c1 d1 c2 d2 c3 d3 c4 d4 c5 d5 c6 d6
  have Z := Lib.hid (Blk.far hF.2.1 (p := ⟨w.heap.size, 6, none⟩) (by simp) (.int .i64 0))
  have B := Lib.hid (hF.2.2.2.2.setCell (p := ⟨w.heap.size, 6, none⟩) (by simp) (.int .i64 0))
  clear hF
  go_wp2_with fail
  refine bodyPost_ret (v := .tuple #[(St.mk x1 v1 p1 q1 r1 (b || o1 || o2 || o3 || o4 || o5 || o6 || o7 || o8 || o9 || o10 || o11 || o12 || o13 || o14 || o15 || o16) 0).val, .bool true]) (upd_results (s := ⟨x1, v1, p1, q1, r1, b || o1 || o2 || o3 || o4 || o5 || o6 || o7 || o8 || o9 || o10 || o11 || o12 || o13 || o14 || o15 || o16, 0⟩) (((((((Z.out.set_ 0 _).set_ 1 _).set_ 2 _).set_ 3 _).set_ 4 _).set_ 5 _).set_ 6 _) _ _ rfl rfl) rfl ⟨rfl, ?_⟩
  exact (((((((B.out.setCell (by simp) _).setCell (by simp) _).setCell (by simp) _).setCell (by simp) _).setCell (by simp) _).setCell (by simp) _).setCell (by simp) _)

theorem Update_any (s : St) (z R gate : Int) (hs : s.In) (iz : In z) (iR : In R) (igate : In gate) (w : World) :
    Calls Try.prog 57 #[s.val, .int .i64 z, .int .i64 R, .int .i64 gate] w fun e w' => e = .returned (.tuple #[(updS s z R gate).val, .bool (updOk s z R gate)]) ∧ Below w.heap.size w w' := by
  by_cases hw : cl (s.p + R) ≤ 0
  · have e1 : updOk s z R gate = false := by unfold updOk; rw [decide_eq_true hw]; rfl
    have e2 : updS s z R gate = updN s := by unfold updS; rw [e1]; rfl
    rw [e1, e2]
    exact Update_no1 s z R gate hs iz iR igate w hw
  · by_cases hg : cl (mulZ gate (cl (s.p + R))) < cl (mulZ (cl (z - s.x)) (cl (z - s.x)))
    · have e1 : updOk s z R gate = false := by unfold updOk; rw [decide_eq_true hg, Bool.or_true]; rfl
      have e2 : updS s z R gate = updN s := by unfold updS; rw [e1]; rfl
      rw [e1, e2]
      exact Update_no2 s z R gate hs iz iR igate w hw hg
    · have e1 : updOk s z R gate = true := by unfold updOk; rw [decide_eq_false hw, decide_eq_false hg]; rfl
      have e2 : updS s z R gate = updY s z R gate := by unfold updS; rw [if_pos e1]
      rw [e1, e2]
      exact Update_yes s z R gate hs iz iR igate w hw hg
end Go.Proofs.Ytofeoeknmlkjgaa.Fi
end
section
/- filter.Begin, filter.Step. -/
set_option linter.unusedVariables false
namespace Go.Proofs.Ytofeoeknmlkjgaa.Fi
open Go.RowKit Go.Proofs.Ytofeoeknmlkjgaa Fx
attribute [local go_sem ↓] Go.wp_at_zero Go.wp_at_succ

def set7 (W : World) (g : Nat) (s : St) : World := ((((((W.setCell ⟨g, 0, none⟩ (.int .i64 s.x)).setCell ⟨g, 1, none⟩ (.int .i64 s.v)).setCell ⟨g, 2, none⟩ (.int .i64 s.p)).setCell ⟨g, 3, none⟩ (.int .i64 s.q)).setCell ⟨g, 4, none⟩ (.int .i64 s.r)).setCell ⟨g, 5, none⟩ (.bool s.b)).setCell ⟨g, 6, none⟩ (.int .i64 s.m)
theorem sb_setb {W : World} {g : Nat} {x v p q r m : Int} {b : Bool} (h : SB W g ⟨x, v, p, q, r, b, m⟩) (y : Bool) : SB (W.setCell ⟨g, 5, none⟩ (.bool y)) g ⟨x, v, p, q, r, y, m⟩ := Blk.set_ h 5 _
theorem sb_set7 {W : World} {g : Nat} {s0 : St} (h : SB W g s0) (s : St) : SB (Fi.set7 W g s) g s := by
  obtain ⟨x0, v0, p0, q0, r0, b0, m0⟩ := s0
  obtain ⟨x, v, p, q, r, b, m⟩ := s
  exact sb_setm (sb_setb (sb_setr (sb_setq (sb_setp (sb_setv (sb_setx h x) v) p) q) r) b) m
theorem far7 {W : World} {g r : Nat} {t : TypeId} {cs : Array Value} (h : Blk W r t cs) (hne : r ≠ g) (s : St) : Blk (Fi.set7 W g s) r t cs := ((((((h.far hne _).far hne _).far hne _).far hne _).far hne _).far hne _).far hne _
theorem sb_far7 {W : World} {g r : Nat} {s0 : St} (h : SB W r s0) (hne : r ≠ g) (s : St) : SB (Fi.set7 W g s) r s0 := Fi.far7 h hne s
theorem below7 {B : Nat} {w W : World} {g : Nat} (h : Below B w W) (hg : B ≤ g) (s : St) : Below B w (Fi.set7 W g s) := ((((((h.setCell hg _).setCell hg _).setCell hg _).setCell hg _).setCell hg _).setCell hg _).setCell hg _
theorem SB.frz {W : World} {g : Nat} {s : St} (h : SB W g s) : W.frozen? ⟨g, 0, none⟩ = false ∧ W.frozen? ⟨g, 1, none⟩ = false ∧ W.frozen? ⟨g, 2, none⟩ = false ∧ W.frozen? ⟨g, 3, none⟩ = false ∧ W.frozen? ⟨g, 4, none⟩ = false ∧ W.frozen? ⟨g, 5, none⟩ = false ∧ W.frozen? ⟨g, 6, none⟩ = false :=
  ⟨Blk.frozen h 0, Blk.frozen h 1, Blk.frozen h 2, Blk.frozen h 3, Blk.frozen h 4, Blk.frozen h 5, Blk.frozen h 6⟩

structure Tu where
  dt : Int
  q : Int
  r : Int
  g : Int
def Tu.In (t : Tu) : Prop := Fx.In t.dt ∧ Fx.In t.q ∧ Fx.In t.r ∧ Fx.In t.g
def Tu.val (t : Tu) : Value := .agg #[.int .i64 t.dt, .int .i64 t.q, .int .i64 t.r, .int .i64 t.g]
def TB (W : World) (b : Nat) (t : Tu) : Prop := Blk W b 23 #[.int .i64 t.dt, .int .i64 t.q, .int .i64 t.r, .int .i64 t.g]
theorem TB.c {W : World} {b : Nat} {t : Tu} (h : TB W b t) : W.cell? ⟨b, 0, none⟩ = some (.int .i64 t.dt) ∧ W.cell? ⟨b, 1, none⟩ = some (.int .i64 t.q) ∧ W.cell? ⟨b, 2, none⟩ = some (.int .i64 t.r) ∧ W.cell? ⟨b, 3, none⟩ = some (.int .i64 t.g) :=
  ⟨Blk.cell h 0, Blk.cell h 1, Blk.cell h 2, Blk.cell h 3⟩

def begS (x : Int) : St := ⟨x, 0, 4294967296, 0, 4294967296, false, 0⟩
theorem begS_in {x : Int} (h : Fx.In x) : (begS x).In := ⟨h, by show Fx.In 0; unfold Fx.In; omega, by show Fx.In 4294967296; unfold Fx.In; omega, by show Fx.In 0; unfold Fx.In; omega, by show Fx.In 4294967296; unfold Fx.In; omega, by show Fx.In 0; unfold Fx.In; omega⟩
set_option maxRecDepth 100000 in
set_option maxHeartbeats 1000000 in
theorem Begin_any (x : Int) (w : World) : Calls Try.prog 30 #[.int .i64 x] w fun e w' => e = .returned (begS x).val ∧ Below w.heap.size w w' := by
  unfold begS St.val
  simp only
  go_enter Try.func30, Try.ntmps30
  go_wp2_with fail
  have HZ := Blk.new w 33 #[.int .i64 x, .int .i64 0, .int .i64 4294967296, .int .i64 0, .int .i64 4294967296, .bool false, .int .i64 0]
  refine bodyPost_ret (results_cell_row Try.results30 _ _ w.heap.size _ _ (0, 0) _ rfl HZ Try.underlying33 rfl (by kernel_rfl)) rfl ⟨rfl, (Below.refl _ _).alloc (Nat.le_refl _) _⟩

def stepS (s : St) (t : Tu) (z : Int) : St := updS (predS s t.dt t.q) z t.r t.g
def stepOk (s : St) (t : Tu) (z : Int) : Bool := updOk (predS s t.dt t.q) z t.r t.g
theorem stepS_in (s : St) (t : Tu) (z : Int) (hs : s.In) : (stepS s t z).In := updS_in _ _ _ _ (predS_in s t.dt t.q hs)
theorem step_results {W : World} {g : Nat} {s : St} (h : SB W g s) (e : Value) (tmps : Array Value) (h2 : tmps.getD 6 undef = .pointer (some ⟨g, 0, none⟩)) (h3 : tmps.getD 7 undef = e) :
    (results Try.f42 tmps).run Try.prog W = .ok (.tuple #[s.val, e]) W := by
  have h2' : tmps[6]?.getD undef = .pointer (some ⟨g, 0, none⟩) := by simpa using h2
  have h3' : tmps[7]?.getD undef = e := by simpa using h3
  simp [results, Try.results42, h2', h3', asAddr, run_loadVar_row (P := Try.prog) W g _ 33 _ (0, 0) _ h Try.underlying33 rfl (by kernel_rfl)]
  rfl

def SF (w0 W : World) (s : St) (t : Tu) (z : St) : Prop := SB W w0.heap.size s ∧ TB W (w0.heap.size + 1) t ∧ SB W (w0.heap.size + 1 + 1) z ∧ Below w0.heap.size w0 W
section
variable {w0 W W' : World} {s z : St} {t : Tu}
theorem SF.next (h : SF w0 W s t z) (hb : Below W.heap.size W W') : SF w0 W' s t z := ⟨h.1.next hb, Blk.next h.2.1 hb, h.2.2.1.next hb, below_next h.2.2.2 hb⟩
theorem SF.drew (h : SF w0 W s t z) : SF w0 W.drew s t z := ⟨h.1, h.2.1, h.2.2.1, h.2.2.2.drew⟩
theorem SF.lay (h : SF w0 W s t z) (u : St) : SF w0 (set7 W (w0.heap.size + 1 + 1) u) s t u := ⟨sb_far7 h.1 (by omega) u, far7 h.2.1 (by omega) u, sb_set7 h.2.2.1 u, below7 h.2.2.2 (by omega) u⟩
theorem SF.all (h : SF w0 W s t z) : W.cell? ⟨w0.heap.size, 0, none⟩ = some (.int .i64 s.x) ∧ W.cell? ⟨w0.heap.size, 1, none⟩ = some (.int .i64 s.v) ∧ W.cell? ⟨w0.heap.size, 2, none⟩ = some (.int .i64 s.p) ∧
    W.cell? ⟨w0.heap.size, 3, none⟩ = some (.int .i64 s.q) ∧ W.cell? ⟨w0.heap.size, 4, none⟩ = some (.int .i64 s.r) ∧ W.cell? ⟨w0.heap.size, 5, none⟩ = some (.bool s.b) ∧ W.cell? ⟨w0.heap.size, 6, none⟩ = some (.int .i64 s.m) ∧
    W.cell? ⟨w0.heap.size + 1, 0, none⟩ = some (.int .i64 t.dt) ∧ W.cell? ⟨w0.heap.size + 1, 1, none⟩ = some (.int .i64 t.q) ∧ W.cell? ⟨w0.heap.size + 1, 2, none⟩ = some (.int .i64 t.r) ∧ W.cell? ⟨w0.heap.size + 1, 3, none⟩ = some (.int .i64 t.g) :=
  ⟨Blk.cell h.1 0, Blk.cell h.1 1, Blk.cell h.1 2, Blk.cell h.1 3, Blk.cell h.1 4, Blk.cell h.1 5, Blk.cell h.1 6, Blk.cell h.2.1 0, Blk.cell h.2.1 1, Blk.cell h.2.1 2, Blk.cell h.2.1 3⟩
end

set_option maxRecDepth 100000 in
set_option maxHeartbeats 2000000 in
theorem Step_any (s : St) (t : Tu) (z : Int) (hs : s.In) (ht : t.In) (iz : Fx.In z) (w : World) :
    Calls Try.prog 42 #[s.val, t.val, .int .i64 z] w fun e w' => e = .returned (.tuple #[(stepS s t z).val, .bool (stepOk s t z)]) ∧ Below w.heap.size w w' := by
  have kp := fun W => Predict_any s t.dt t.q hs ht.1 ht.2.1 W
  have ku := fun W => Update_any (predS s t.dt t.q) z t.r t.g (predS_in s t.dt t.q hs) iz ht.2.2.1 ht.2.2.2 W
  unfold stepS stepOk
  generalize predS s t.dt t.q = s1 at *
  generalize updS s1 z t.r t.g = s2 at *
  generalize updOk s1 z t.r t.g = ok at *
  unfold St.val at kp ku
  have KP := Lib.hid kp
  have KU := Lib.hid ku
  have hF : SF w (((w.alloc (.cells #[.int .i64 s.x, .int .i64 s.v, .int .i64 s.p, .int .i64 s.q, .int .i64 s.r, .bool s.b, .int .i64 s.m] 33)).alloc (.cells #[.int .i64 t.dt, .int .i64 t.q, .int .i64 t.r, .int .i64 t.g] 23)).alloc (.cells #[.int .i64 0, .int .i64 0, .int .i64 0, .int .i64 0, .int .i64 0, .bool false, .int .i64 0] 33)) s t ⟨0, 0, 0, 0, 0, false, 0⟩ :=
    ⟨((Blk.new _ _ _).alloc _).alloc _, (Blk.at_ _ _ _ _ (by simp)).alloc _, Blk.at_ _ _ _ _ (by simp), (((Below.refl _ _).alloc (Nat.le_refl _) _).alloc (by simp) _).alloc (by simp; omega) _⟩
  have HF := Lib.hid hF
  clear hF kp ku hs ht iz
  unfold St.val Tu.val
  go_enter Try.func42, Try.ntmps42
  go_upto_region 1 with fail
  have hF := HF.out.drew
  clear HF
  have y := hF.2.2.1.c
  have f := hF.2.2.1.frz
  obtain ⟨y0, y1, y2, y3, y4, y5, y6⟩ := y
  obtain ⟨f0, f1, f2, f3, f4, f5, f6⟩ := f
  go_region_held3 (fun w' => w'.cell? ⟨w.heap.size, 0, none⟩ = some (.int .i64 s.x) ∧ w'.cell? ⟨w.heap.size, 1, none⟩ = some (.int .i64 s.v) ∧ w'.cell? ⟨w.heap.size, 2, none⟩ = some (.int .i64 s.p) ∧
    w'.cell? ⟨w.heap.size, 3, none⟩ = some (.int .i64 s.q) ∧ w'.cell? ⟨w.heap.size, 4, none⟩ = some (.int .i64 s.r) ∧ w'.cell? ⟨w.heap.size, 5, none⟩ = some (.bool s.b) ∧ w'.cell? ⟨w.heap.size, 6, none⟩ = some (.int .i64 s.m) ∧
    w'.cell? ⟨w.heap.size + 1, 0, none⟩ = some (.int .i64 t.dt) ∧ w'.cell? ⟨w.heap.size + 1, 1, none⟩ = some (.int .i64 t.q) ∧ w'.cell? ⟨w.heap.size + 1, 2, none⟩ = some (.int .i64 t.r) ∧ w'.cell? ⟨w.heap.size + 1, 3, none⟩ = some (.int .i64 t.g))
    (first | with_reducible exact hF.all | (have hS := hF.lay s2; unfold set7 at hS; with_reducible exact hS.all)) (first
    | (go_at_call 58; (with_reducible refine (KP.out _).mono ?_); rintro e w1 ⟨rfl, hB1⟩; have hF1 := hF.next hB1; clear hF hB1 y0 y1 y2 y3 y4 y5 y6 f0 f1 f2 f3 f4 f5 f6; have hF := hF1; clear hF1)
    | (go_at_call 57; (with_reducible refine (KU.out _).mono ?_); rintro e w2 ⟨rfl, hB2⟩; have hF1 := hF.next hB2; clear hF hB2; have hF := hF1; clear hF1; (obtain ⟨y0, y1, y2, y3, y4, y5, y6⟩ := hF.2.2.1.c); (obtain ⟨f0, f1, f2, f3, f4, f5, f6⟩ := hF.2.2.1.frz)))
  have Z := Lib.hid (hF.lay s2)
  clear hF y0 y1 y2 y3 y4 y5 y6 f0 f1 f2 f3 f4 f5 f6
  unfold set7 at Z
  go_wp2_with fail
  exact bodyPost_ret (v := .tuple #[s2.val, .bool ok]) (step_results Z.out.2.2.1 _ _ rfl rfl) rfl ⟨rfl, Z.out.2.2.2⟩
end Go.Proofs.Ytofeoeknmlkjgaa.Fi
end
