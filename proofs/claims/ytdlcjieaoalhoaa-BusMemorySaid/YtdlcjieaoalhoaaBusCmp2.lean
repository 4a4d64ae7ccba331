/- The function that bus.Step hands to the sort. -/
import Derived.Test.YtdlcjieaoalhoaaBusCmp
import Derived.Sort.Walk13
set_option linter.unusedVariables false
namespace Go.Proofs.Ytdlcjieaoalhoaa.Bs
open Go.RowKit Go.Sort Go.Proofs.Ytdlcjieaoalhoaa Crc Sm

/-- draws, and blocks laid behind -/
def Gr (w w' : World) : Prop := ∃ q os, w' = grow (w.drewN q) os
theorem Gr.refl (w : World) : Gr w w := ⟨0, #[], by rw [grow_empty]; rfl⟩
theorem Gr.alloc {w w' : World} (h : Gr w w') (o : Obj) : Gr w (w'.alloc o) := by
  obtain ⟨q, os, rfl⟩ := h
  exact ⟨q, os ++ #[o], by rw [alloc_eq_grow, grow_grow]⟩
theorem Gr.drew {w w' : World} (h : Gr w w') : Gr w w'.drew := by
  obtain ⟨q, os, rfl⟩ := h
  exact ⟨q + 1, os, rfl⟩
theorem Gr.trans {w w' w'' : World} (h : Gr w w') (h2 : Gr w' w'') : Gr w w'' := by
  obtain ⟨q, os, rfl⟩ := h
  obtain ⟨q2, os2, rfl⟩ := h2
  exact ⟨q + q2, os ++ os2, by show grow (grow ((w.drewN q).drewN q2) os) os2 = _; rw [grow_grow, World.drewN_drewN]⟩

theorem cell_new {w : World} {cs : Array Value} {t : TypeId} {g i : Nat} {v : Value} (h : w.heap.size = g) (hv : cs[i]? = some v) : (w.alloc (.cells cs t)).cell? ⟨g, i, none⟩ = some v := by
  subst h
  rw [(Blk.new w t cs).cell i, hv]
set_option maxRecDepth 100000 in
set_option maxHeartbeats 4000000 in
theorem cmp_any (p q : Pc) (w : World) : Calls Try.prog 22 #[.agg p.cells.toArray, .agg q.cells.toArray] w fun e w' => e = .returned (.int .i64 (cf p q)) ∧ Gr w w' := by
  have KC := Lib.hid (fun x y W => Compare_any x y W)
  simp only [Pc.cells]
  obtain ⟨r, hr⟩ : ∃ r, r = cf p q := ⟨_, rfl⟩
  have ko := fun (W : World) (g : Nat) (h : W.heap.size = g) => Or_any (cmpI p.du q.du) (cmpI p.se q.se) g (W.alloc (.cells #[.int .i64 (cmpI p.du q.du), .int .i64 (cmpI p.se q.se)] 3)).drew (cell_new h rfl) (cell_new h rfl)
  rw [← hr]
  unfold cf at hr
  simp only [← hr] at ko
  have KO := Lib.hid ko
  clear ko hr
  generalize p.A = A1
  generalize q.A = A2
  go_enter Try.func22, Try.ntmps22
  go_upto_region 1 with fail
  have hG : Gr w ((w.alloc (.cells #[.int .i64 p.fr, .int .i64 p.to, .int .i64 p.du, .int .i64 p.se, .slice A1 p.n p.c] 35)).alloc (.cells #[.int .i64 q.fr, .int .i64 q.to, .int .i64 q.du, .int .i64 q.se, .slice A2 q.n q.c] 35)) := ((Gr.refl w).alloc _).alloc _
  have hP : Blk ((w.alloc (.cells #[.int .i64 p.fr, .int .i64 p.to, .int .i64 p.du, .int .i64 p.se, .slice A1 p.n p.c] 35)).alloc (.cells #[.int .i64 q.fr, .int .i64 q.to, .int .i64 q.du, .int .i64 q.se, .slice A2 q.n q.c] 35)) w.heap.size 35 #[.int .i64 p.fr, .int .i64 p.to, .int .i64 p.du, .int .i64 p.se, .slice A1 p.n p.c] := (Blk.new _ _ _).alloc _
  have hQ : Blk ((w.alloc (.cells #[.int .i64 p.fr, .int .i64 p.to, .int .i64 p.du, .int .i64 p.se, .slice A1 p.n p.c] 35)).alloc (.cells #[.int .i64 q.fr, .int .i64 q.to, .int .i64 q.du, .int .i64 q.se, .slice A2 q.n q.c] 35)) (w.heap.size + 1) 35 #[.int .i64 q.fr, .int .i64 q.to, .int .i64 q.du, .int .i64 q.se, .slice A2 q.n q.c] := Blk.at_ _ _ _ _ (by simp)
  generalize (w.alloc (.cells #[.int .i64 p.fr, .int .i64 p.to, .int .i64 p.du, .int .i64 p.se, .slice A1 p.n p.c] 35)).alloc (.cells #[.int .i64 q.fr, .int .i64 q.to, .int .i64 q.du, .int .i64 q.se, .slice A2 q.n q.c] 35) = W at *
  generalize w.heap.size + 1 = g1 at *
  generalize w.heap.size = g0 at *
  have sk : ∀ W', Below W.heap.size W W' → W'.cell? ⟨g0, 2, none⟩ = some (.int .i64 p.du) ∧ W'.cell? ⟨g0, 3, none⟩ = some (.int .i64 p.se) ∧ W'.cell? ⟨g1, 2, none⟩ = some (.int .i64 q.du) ∧ W'.cell? ⟨g1, 3, none⟩ = some (.int .i64 q.se) := fun W' h => ⟨(hP.next h).cell 2, (hP.next h).cell 3, (hQ.next h).cell 2, (hQ.next h).cell 3⟩
  have SK := Lib.hid sk
  have HG := Lib.hid hG
  clear sk hG hP hQ
  generalize p.du = x1 at *
  generalize p.se = x2 at *
  generalize q.du = x3 at *
  generalize q.se = x4 at *
  go_region_held3 (fun W' => W'.cell? ⟨g0, 2, none⟩ = some (.int .i64 x1) ∧ W'.cell? ⟨g0, 3, none⟩ = some (.int .i64 x2) ∧ W'.cell? ⟨g1, 2, none⟩ = some (.int .i64 x3) ∧ W'.cell? ⟨g1, 3, none⟩ = some (.int .i64 x4)) (first | with_reducible exact SK.out _ (Below.refl _ _).drew | with_reducible exact SK.out _ ((Below.refl _ _).alloc (Nat.le_refl _) _).drew) (first
    | (go_at_call 24; (with_reducible refine (KC.out _ _ _).mono ?_); rintro e w3 ⟨rfl, rfl⟩)
    | (go_at_call 23; (with_reducible refine (KO.out _ _ rfl).mono ?_); rintro e w4 ⟨rfl, rfl⟩))
  all_goals (go_wp2_with fail; go_ret; exact ⟨rfl, (HG.out.alloc _).drew⟩)
end Go.Proofs.Ytdlcjieaoalhoaa.Bs
