/- fourwatchkeep.stayedBus. -/
import Derived.Test.YtdlcjieaoalhoaaRoomyBus
import Derived.Test.YtdlcjieaoalhoaaHeldG
import Derived.Test.YtdlcjieaoalhoaaHeldH
import Derived.Deep.DeepCutAuto
set_option linter.unusedVariables false
namespace Go.Proofs.Ytdlcjieaoalhoaa.Bs
open Go.RowKit Go.Proofs.Ytdlcjieaoalhoaa Sm Rb

theorem wp_store_pc {P : Program} {o : Oper} {a : Act} {w : World} {K : Act → World → Prop} {Q : Exit → Act → World → Prop} (ty : TypeId) (x y : Operand) (ho : o.op = .store ty x y) (g : Nat) (t : TypeId) (cs cells : Array Value) (hx : a.eval x = .pointer (some ⟨g, 0, none⟩)) (hy : a.eval y = .agg cells)
    (hb : Blk w g t cs) (hl : cells.size = cs.size) (hi : (P.info? ty).map (·.size) = some cells.size) (h1 : cells.all (·.oneCell') = true)
    (h : ∀ w', Blk w' g t cells → w.grownBy w' (some g) → K (a.put o.dst undef) w') : o.wp P a w K Q := by
  refine wp_store_mid ty x y ho g 0 cells hx hy (fun j hj => ?_) hi h1 (h _ (hb.over hl) (grown_setCells g _ _ _))
  rw [Nat.zero_add]
  refine ⟨?_, hb.frozen j⟩
  rw [hb.cell j, Array.getElem?_eq_getElem (by omega)]
  rfl
def SbCut (Y : World) (cs1 cs2 : Array Value) (s6 s7 : Value) (wx : World) : Prop :=
  ∃ q6 q7, s6 = .pointer (some ⟨q6, 0, none⟩) ∧ s7 = .pointer (some ⟨q7, 0, none⟩) ∧ Blk wx q6 35 cs1 ∧ Blk wx q7 35 cs2 ∧ Below Y.heap.size Y wx
set_option maxRecDepth 100000 in
set_option maxHeartbeats 8000000 in
theorem stayedBus_any (now ser : Int) (A : Option Addr) (n c g cq B : Nat) (gs cs : Nat → Nat) (L : List Pc) (w : World) (h : QR w A n c L) (hr : RoomyBus w B L n g cq gs cs) (hn : n ≤ 1000) :
    Calls Try.prog 17 #[.agg #[.int .i64 now, .int .i64 ser, .slice (some ⟨g, 0, none⟩) n cq], .agg #[.int .i64 now, .int .i64 ser, .slice A n c]] w fun e w' => e = .returned (.bool true) ∧ Below w.heap.size w w' := by
  obtain ⟨hBg, hncq, hown, hone⟩ := hr
  have hb0 : Blk ((w.alloc (.cells #[.int .i64 now, .int .i64 ser, .slice (some ⟨g, 0, none⟩) n cq] 25)).alloc (.cells #[.int .i64 now, .int .i64 ser, .slice A n c] 25)) w.heap.size 25 #[.int .i64 now, .int .i64 ser, .slice (some ⟨g, 0, none⟩) n cq] := (Blk.new _ _ _).alloc _
  have hb1 : Blk ((w.alloc (.cells #[.int .i64 now, .int .i64 ser, .slice (some ⟨g, 0, none⟩) n cq] 25)).alloc (.cells #[.int .i64 now, .int .i64 ser, .slice A n c] 25)) (w.heap.size + 1) 25 #[.int .i64 now, .int .i64 ser, .slice A n c] := Blk.at_ _ _ _ _ (by simp)
  have hB0 : Below w.heap.size w ((w.alloc (.cells #[.int .i64 now, .int .i64 ser, .slice (some ⟨g, 0, none⟩) n cq] 25)).alloc (.cells #[.int .i64 now, .int .i64 ser, .slice A n c] 25)) := ((Below.refl _ _).alloc (Nat.le_refl _) _).alloc (by simp) _
  have hll := h.1
  have H := Lib.hid (h.next hB0)
  have HO := Lib.hid (own_below hown hB0 (fun z hz => (hown.lt z hz).2))
  have HR := Lib.hid (fun j p hj hp => (hone j p hj hp).next hB0)
  have HB0 := Lib.hid hb0
  have HB1 := Lib.hid hb1
  have HBW := Lib.hid hB0
  clear h hown hone hb0 hb1 hB0
  go_enter Try.func17, Try.ntmps17
  go_upto_region 1 with fail
  generalize ((w.alloc (.cells #[.int .i64 now, .int .i64 ser, .slice (some ⟨g, 0, none⟩) n cq] 25)).alloc (.cells #[.int .i64 now, .int .i64 ser, .slice A n c] 25)) = V at *
  have hpad : ∀ W, Below V.heap.size V W → W.cell? ⟨g, n * 5 + 3, none⟩ = some (.int .i64 (-4711)) := fun W hW => by
    have h1 := (own_below HO.out hW (fun z hz => (HO.out.lt z hz).2)).cellAt (n * 5 + 3) (by omega)
    rw [h1, List.getElem?_append_right (by rw [flat_len, rbL_len n (by omega)]; omega), flat_len, rbL_len n (by omega), show n * 5 + 3 - n * 5 = 3 by omega]
    rfl
  have HC := Lib.hid (fun W (hW : Below V.heap.size V W) => (show W.cell? ⟨w.heap.size, 0, none⟩ = some (.int .i64 now) ∧ W.cell? ⟨w.heap.size, 1, none⟩ = some (.int .i64 ser) ∧ W.cell? ⟨w.heap.size, 2, none⟩ = some (.slice (some ⟨g, 0, none⟩) n cq) ∧ W.cell? ⟨w.heap.size + 1, 0, none⟩ = some (.int .i64 now) ∧ W.cell? ⟨w.heap.size + 1, 1, none⟩ = some (.int .i64 ser) ∧ W.cell? ⟨w.heap.size + 1, 2, none⟩ = some (.slice A n c) ∧ W.cell? ⟨g, n * 5 + 3, none⟩ = some (.int .i64 (-4711)) from ⟨(HB0.out.next hW).cell 0, (HB0.out.next hW).cell 1, (HB0.out.next hW).cell 2, (HB1.out.next hW).cell 0, (HB1.out.next hW).cell 1, (HB1.out.next hW).cell 2, hpad W hW⟩))
  clear hpad
  have q0 : (now != now) = false := by simp
  have q1 : (ser != ser) = false := by simp
  have q2 : ((n : Int) != (n : Int)) = false := by simp
  have q3 : IntKind.i64.wrap ((n : Int) + 1) = (n : Int) + 1 := IntWalk.i64_in _ (by omega)
  have q4 : (0 : Int) ≤ (n : Int) := by omega
  have q5 : (n : Int) < (n : Int) + 1 := by omega
  have q6 : (0 : Int) ≤ (n : Int) + 1 := by omega
  have q7 : (n : Int) + 1 ≤ (cq : Int) := by omega
  refine wp_region_held (S := fun w' => Below V.heap.size V w') (by kernel_rfl) ?_
  have hS := (Below.refl V.heap.size V).drew
  refine wpAnyH_takeL (i := 0) (v := ?_) rfl (by kernel_rfl) (by kernel_rfl) (by kernel_rfl) (fun _ _ _ h => h) (Or.inl ⟨by rfl, fun wx hSw => ?_⟩) hS ?_
  rotate_left
  · go_simp; (try with_reducible rfl)
  try simp only [Act.put, List.setIfInBounds_toArray, List.set_cons_zero, List.set_cons_succ]
  refine wpAnyH_takeL (i := 1) (v := .int .i64 now) rfl (by kernel_rfl) (by kernel_rfl) (by kernel_rfl) (fun _ _ _ h => h) (Or.inl ⟨by rfl, fun wx hSw => by have hc := (HC.out _ hSw).1; go_simp⟩) hS ?_
  try simp only [Act.put, List.setIfInBounds_toArray, List.set_cons_zero, List.set_cons_succ]
  refine wpAnyH_takeL (i := 2) (v := ?_) rfl (by kernel_rfl) (by kernel_rfl) (by kernel_rfl) (fun _ _ _ h => h) (Or.inl ⟨by rfl, fun wx hSw => ?_⟩) hS ?_
  rotate_left
  · go_simp; (try with_reducible rfl)
  try simp only [Act.put, List.setIfInBounds_toArray, List.set_cons_zero, List.set_cons_succ]
  refine wpAnyH_takeL (i := 3) (v := .int .i64 now) rfl (by kernel_rfl) (by kernel_rfl) (by kernel_rfl) (fun _ _ _ h => h) (Or.inl ⟨by rfl, fun wx hSw => by have hc := (HC.out _ hSw).2.2.2.1; go_simp⟩) hS ?_
  try simp only [Act.put, List.setIfInBounds_toArray, List.set_cons_zero, List.set_cons_succ]
  refine wpAnyH_takeL (i := 4) (v := ?_) rfl (by kernel_rfl) (by kernel_rfl) (by kernel_rfl) (fun _ _ _ h => h) (Or.inl ⟨by rfl, fun wx hSw => ?_⟩) hS ?_
  rotate_left
  · have hq := q0; go_simp; (try with_reducible rfl)
  try simp only [Act.put, List.setIfInBounds_toArray, List.set_cons_zero, List.set_cons_succ]
  refine wpAnyH_takeL (i := 5) (v := ?_) rfl (by kernel_rfl) (by kernel_rfl) (by kernel_rfl) (fun _ _ _ h => h) (Or.inl ⟨by rfl, fun wx hSw => ?_⟩) hS ?_
  rotate_left
  · go_simp; (try with_reducible rfl)
  try simp only [Act.put, List.setIfInBounds_toArray, List.set_cons_zero, List.set_cons_succ]
  refine wpAnyH_takeL (i := 6) (v := ?_) rfl (by kernel_rfl) (by kernel_rfl) (by kernel_rfl) (fun _ _ _ h => h) (Or.inl ⟨by rfl, fun wx hSw => ?_⟩) hS ?_
  rotate_left
  · go_simp; (try with_reducible rfl)
  try simp only [Act.put, List.setIfInBounds_toArray, List.set_cons_zero, List.set_cons_succ]
  refine wpAnyH_takeL (i := 7) (v := .int .i64 ser) rfl (by kernel_rfl) (by kernel_rfl) (by kernel_rfl) (fun _ _ _ h => h) (Or.inl ⟨by rfl, fun wx hSw => by have hc := (HC.out _ hSw).2.1; go_simp⟩) hS ?_
  try simp only [Act.put, List.setIfInBounds_toArray, List.set_cons_zero, List.set_cons_succ]
  refine wpAnyH_takeL (i := 8) (v := ?_) rfl (by kernel_rfl) (by kernel_rfl) (by kernel_rfl) (fun _ _ _ h => h) (Or.inl ⟨by rfl, fun wx hSw => ?_⟩) hS ?_
  rotate_left
  · go_simp; (try with_reducible rfl)
  try simp only [Act.put, List.setIfInBounds_toArray, List.set_cons_zero, List.set_cons_succ]
  refine wpAnyH_takeL (i := 9) (v := .int .i64 ser) rfl (by kernel_rfl) (by kernel_rfl) (by kernel_rfl) (fun _ _ _ h => h) (Or.inl ⟨by rfl, fun wx hSw => by have hc := (HC.out _ hSw).2.2.2.2.1; go_simp⟩) hS ?_
  try simp only [Act.put, List.setIfInBounds_toArray, List.set_cons_zero, List.set_cons_succ]
  refine wpAnyH_takeL (i := 10) (v := ?_) rfl (by kernel_rfl) (by kernel_rfl) (by kernel_rfl) (fun _ _ _ h => h) (Or.inl ⟨by rfl, fun wx hSw => ?_⟩) hS ?_
  rotate_left
  · have hq := q1; go_simp; (try with_reducible rfl)
  try simp only [Act.put, List.setIfInBounds_toArray, List.set_cons_zero, List.set_cons_succ]
  refine wpAnyH_takeL (i := 11) (v := ?_) rfl (by kernel_rfl) (by kernel_rfl) (by kernel_rfl) (fun _ _ _ h => h) (Or.inl ⟨by rfl, fun wx hSw => ?_⟩) hS ?_
  rotate_left
  · go_simp; (try with_reducible rfl)
  try simp only [Act.put, List.setIfInBounds_toArray, List.set_cons_zero, List.set_cons_succ]
  refine wpAnyH_takeL (i := 12) (v := ?_) rfl (by kernel_rfl) (by kernel_rfl) (by kernel_rfl) (fun _ _ _ h => h) (Or.inl ⟨by rfl, fun wx hSw => ?_⟩) hS ?_
  rotate_left
  · go_simp; (try with_reducible rfl)
  try simp only [Act.put, List.setIfInBounds_toArray, List.set_cons_zero, List.set_cons_succ]
  refine wpAnyH_takeL (i := 13) (v := ?_) rfl (by kernel_rfl) (by kernel_rfl) (by kernel_rfl) (fun _ _ _ h => h) (Or.inl ⟨by rfl, fun wx hSw => ?_⟩) hS ?_
  rotate_left
  · go_simp; (try with_reducible rfl)
  try simp only [Act.put, List.setIfInBounds_toArray, List.set_cons_zero, List.set_cons_succ]
  refine wpAnyH_takeL (i := 14) (v := .slice (some ⟨g, 0, none⟩) n cq) rfl (by kernel_rfl) (by kernel_rfl) (by kernel_rfl) (fun _ _ _ h => h) (Or.inl ⟨by rfl, fun wx hSw => by have hc := (HC.out _ hSw).2.2.1; go_simp⟩) hS ?_
  try simp only [Act.put, List.setIfInBounds_toArray, List.set_cons_zero, List.set_cons_succ]
  refine wpAnyH_takeL (i := 15) (v := ?_) rfl (by kernel_rfl) (by kernel_rfl) (by kernel_rfl) (fun _ _ _ h => h) (Or.inl ⟨by rfl, fun wx hSw => ?_⟩) hS ?_
  rotate_left
  · go_simp; (try with_reducible rfl)
  try simp only [Act.put, List.setIfInBounds_toArray, List.set_cons_zero, List.set_cons_succ]
  refine wpAnyH_takeL (i := 16) (v := ?_) rfl (by kernel_rfl) (by kernel_rfl) (by kernel_rfl) (fun _ _ _ h => h) (Or.inl ⟨by rfl, fun wx hSw => ?_⟩) hS ?_
  rotate_left
  · go_simp; (try with_reducible rfl)
  try simp only [Act.put, List.setIfInBounds_toArray, List.set_cons_zero, List.set_cons_succ]
  refine wpAnyH_takeL (i := 17) (v := .slice A n c) rfl (by kernel_rfl) (by kernel_rfl) (by kernel_rfl) (fun _ _ _ h => h) (Or.inl ⟨by rfl, fun wx hSw => by have hc := (HC.out _ hSw).2.2.2.2.2.1; go_simp⟩) hS ?_
  try simp only [Act.put, List.setIfInBounds_toArray, List.set_cons_zero, List.set_cons_succ]
  refine wpAnyH_takeL (i := 18) (v := ?_) rfl (by kernel_rfl) (by kernel_rfl) (by kernel_rfl) (fun _ _ _ h => h) (Or.inl ⟨by rfl, fun wx hSw => ?_⟩) hS ?_
  rotate_left
  · go_simp; (try with_reducible rfl)
  try simp only [Act.put, List.setIfInBounds_toArray, List.set_cons_zero, List.set_cons_succ]
  refine wpAnyH_takeL (i := 19) (v := ?_) rfl (by kernel_rfl) (by kernel_rfl) (by kernel_rfl) (fun _ _ _ h => h) (Or.inl ⟨by rfl, fun wx hSw => ?_⟩) hS ?_
  rotate_left
  · have hq := q2; go_simp; (try with_reducible rfl)
  try simp only [Act.put, List.setIfInBounds_toArray, List.set_cons_zero, List.set_cons_succ]
  refine wpAnyH_takeL (i := 20) (v := ?_) rfl (by kernel_rfl) (by kernel_rfl) (by kernel_rfl) (fun _ _ _ h => h) (Or.inl ⟨by rfl, fun wx hSw => ?_⟩) hS ?_
  rotate_left
  · go_simp; (try with_reducible rfl)
  try simp only [Act.put, List.setIfInBounds_toArray, List.set_cons_zero, List.set_cons_succ]
  refine wpAnyH_takeL (i := 21) (v := ?_) rfl (by kernel_rfl) (by kernel_rfl) (by kernel_rfl) (fun _ _ _ h => h) (Or.inl ⟨by rfl, fun wx hSw => ?_⟩) hS ?_
  rotate_left
  · go_simp; (try with_reducible rfl)
  try simp only [Act.put, List.setIfInBounds_toArray, List.set_cons_zero, List.set_cons_succ]
  refine wpAnyH_takeL (i := 22) (v := ?_) rfl (by kernel_rfl) (by kernel_rfl) (by kernel_rfl) (fun _ _ _ h => h) (Or.inl ⟨by rfl, fun wx hSw => ?_⟩) hS ?_
  rotate_left
  · go_simp; (try with_reducible rfl)
  try simp only [Act.put, List.setIfInBounds_toArray, List.set_cons_zero, List.set_cons_succ]
  refine wpAnyH_takeL (i := 23) (v := .slice (some ⟨g, 0, none⟩) n cq) rfl (by kernel_rfl) (by kernel_rfl) (by kernel_rfl) (fun _ _ _ h => h) (Or.inl ⟨by rfl, fun wx hSw => by have hc := (HC.out _ hSw).2.2.1; go_simp⟩) hS ?_
  try simp only [Act.put, List.setIfInBounds_toArray, List.set_cons_zero, List.set_cons_succ]
  refine wpAnyH_takeL (i := 24) (v := ?_) rfl (by kernel_rfl) (by kernel_rfl) (by kernel_rfl) (fun _ _ _ h => h) (Or.inl ⟨by rfl, fun wx hSw => ?_⟩) hS ?_
  rotate_left
  · go_simp; (try with_reducible rfl)
  try simp only [Act.put, List.setIfInBounds_toArray, List.set_cons_zero, List.set_cons_succ]
  refine wpAnyH_takeL (i := 25) (v := .slice A n c) rfl (by kernel_rfl) (by kernel_rfl) (by kernel_rfl) (fun _ _ _ h => h) (Or.inl ⟨by rfl, fun wx hSw => by have hc := (HC.out _ hSw).2.2.2.2.2.1; go_simp⟩) hS ?_
  try simp only [Act.put, List.setIfInBounds_toArray, List.set_cons_zero, List.set_cons_succ]
  refine wpAnyH_takeL (i := 26) (v := ?_) rfl (by kernel_rfl) (by kernel_rfl) (by kernel_rfl) (fun _ _ _ h => h) (Or.inl ⟨by rfl, fun wx hSw => ?_⟩) hS ?_
  rotate_left
  · go_simp; (try with_reducible rfl)
  try simp only [Act.put, List.setIfInBounds_toArray, List.set_cons_zero, List.set_cons_succ]
  refine wpAnyH_takeL (i := 27) (v := ?_) rfl (by kernel_rfl) (by kernel_rfl) (by kernel_rfl) (fun _ _ _ h => h) (Or.inl ⟨by rfl, fun wx hSw => ?_⟩) hS ?_
  rotate_left
  · have hq := q3; go_simp; (try with_reducible rfl)
  try simp only [Act.put, List.setIfInBounds_toArray, List.set_cons_zero, List.set_cons_succ]
  refine wpAnyH_takeL (i := 28) (v := ?_) rfl (by kernel_rfl) (by kernel_rfl) (by kernel_rfl) (fun _ _ _ h => h) (Or.inl ⟨by rfl, fun wx hSw => ?_⟩) hS ?_
  rotate_left
  · go_simp; (try with_reducible rfl)
  try simp only [Act.put, List.setIfInBounds_toArray, List.set_cons_zero, List.set_cons_succ]
  refine wpAnyH_takeL (i := 29) (v := ?_) rfl (by kernel_rfl) (by kernel_rfl) (by kernel_rfl) (fun _ _ _ h => h) (Or.inl ⟨by rfl, fun wx hSw => ?_⟩) hS ?_
  rotate_left
  · go_simp; (try with_reducible rfl)
  try simp only [Act.put, List.setIfInBounds_toArray, List.set_cons_zero, List.set_cons_succ]
  refine wpAnyH_takeL (i := 30) (v := .slice A n c) rfl (by kernel_rfl) (by kernel_rfl) (by kernel_rfl) (fun _ _ _ h => h) (Or.inl ⟨by rfl, fun wx hSw => by have hc := (HC.out _ hSw).2.2.2.2.2.1; go_simp⟩) hS ?_
  try simp only [Act.put, List.setIfInBounds_toArray, List.set_cons_zero, List.set_cons_succ]
  refine wpAnyH_takeL (i := 31) (v := ?_) rfl (by kernel_rfl) (by kernel_rfl) (by kernel_rfl) (fun _ _ _ h => h) (Or.inl ⟨by rfl, fun wx hSw => ?_⟩) hS ?_
  rotate_left
  · go_simp; (try with_reducible rfl)
  try simp only [Act.put, List.setIfInBounds_toArray, List.set_cons_zero, List.set_cons_succ]
  refine wpAnyH_takeL (i := 32) (v := ?_) rfl (by kernel_rfl) (by kernel_rfl) (by kernel_rfl) (fun _ _ _ h => h) (Or.inl ⟨by rfl, fun wx hSw => ?_⟩) hS ?_
  rotate_left
  · go_simp; (try with_reducible rfl)
  try simp only [Act.put, List.setIfInBounds_toArray, List.set_cons_zero, List.set_cons_succ]
  refine wpAnyH_takeL (i := 33) (v := ?_) rfl (by kernel_rfl) (by kernel_rfl) (by kernel_rfl) (fun _ _ _ h => h) (Or.inl ⟨by rfl, fun wx hSw => ?_⟩) hS ?_
  rotate_left
  · go_simp; (try with_reducible rfl)
  try simp only [Act.put, List.setIfInBounds_toArray, List.set_cons_zero, List.set_cons_succ]
  refine wpAnyH_takeL (i := 34) (v := .int .i64 (-4711)) rfl (by kernel_rfl) (by kernel_rfl) (by kernel_rfl) (fun _ _ _ h => h) (Or.inl ⟨by rfl, fun wx hSw => by have hc := (HC.out _ hSw).2.2.2.2.2.2; go_simp⟩) hS ?_
  try simp only [Act.put, List.setIfInBounds_toArray, List.set_cons_zero, List.set_cons_succ]
  refine wpAnyH_takeL (i := 35) (v := ?_) rfl (by kernel_rfl) (by kernel_rfl) (by kernel_rfl) (fun _ _ _ h => h) (Or.inl ⟨by rfl, fun wx hSw => ?_⟩) hS ?_
  rotate_left
  · go_simp; (try with_reducible rfl)
  try simp only [Act.put, List.setIfInBounds_toArray, List.set_cons_zero, List.set_cons_succ]
  refine wpAnyH_takeL (i := 36) (v := ?_) rfl (by kernel_rfl) (by kernel_rfl) (by kernel_rfl) (fun _ _ _ h => h) (Or.inl ⟨by rfl, fun wx hSw => ?_⟩) hS ?_
  rotate_left
  · go_simp; (try with_reducible rfl)
  try simp only [Act.put, List.setIfInBounds_toArray, List.set_cons_zero, List.set_cons_succ]
  refine wpAnyH_done (by kernel_rfl) ?_ _
  clear q0 q1 q2 q3 q4 q5 q6 q7
  go_wp2_with fail
  go_loopw [5] (fun iv wr => ∃ i : Nat, iv = .int .i64 i ∧ i ≤ n ∧ Below V.heap.size V wr) (fun iv _ => n - (intOf iv).toNat)
  case atStart => exact ⟨0, rfl, Nat.zero_le _, (Below.refl V.heap.size V).drew⟩
  case round =>
    obtain ⟨Y, rfl⟩ : ∃ W : World, W = wr := ⟨_, rfl⟩
    obtain ⟨i, rfl, hi, hY⟩ := hrel
    have HY := Lib.hid hY
    have d2 := (HC.out _ hY).2.2.1
    have d5 := (HC.out _ hY).2.2.2.2.2.1
    clear hY
    by_cases hin : i < n
    · obtain ⟨b, off, p, rfl, hlt, hp, hpm, hpr, c0, c1, c2, c3, c4⟩ := (H.out.next HY.out).row hin
      have hoY := own_below HO.out HY.out (fun z hz => (HO.out.lt z hz).2)
      have hgY := hoY.lt g rfl
      have er : ∀ k, k < 5 → Y.cell? ⟨g, i * 5 + k, none⟩ = (rmP p (gs i) (cs i)).cells[k]? := fun k hk => by
        rw [hoY.cellAt (i * 5 + k) (by omega), List.getElem?_append_left (by rw [flat_len, rbL_len n (by omega)]; omega)]
        exact flat_get _ i _ k (rbL_get hp n hin (by omega)) hk
      have r0 := er 0 (by omega)
      have r1 := er 1 (by omega)
      have r2 := er 2 (by omega)
      have r3 := er 3 (by omega)
      have r4 := er 4 (by omega)
      have HD := Lib.hid (fun W (hW : Below Y.heap.size Y W) => (show W.cell? ⟨g, i * 5, none⟩ = some (.int .i64 p.fr) ∧ W.cell? ⟨g, i * 5 + 1, none⟩ = some (.int .i64 p.to) ∧ W.cell? ⟨g, i * 5 + 2, none⟩ = some (.int .i64 p.du) ∧ W.cell? ⟨g, i * 5 + 3, none⟩ = some (.int .i64 p.se) ∧ W.cell? ⟨g, i * 5 + 4, none⟩ = some (.slice (some ⟨gs i, 0, none⟩) p.n (cs i)) ∧ W.cell? ⟨b, off + i * 5, none⟩ = some (.int .i64 p.fr) ∧ W.cell? ⟨b, off + i * 5 + 1, none⟩ = some (.int .i64 p.to) ∧ W.cell? ⟨b, off + i * 5 + 2, none⟩ = some (.int .i64 p.du) ∧ W.cell? ⟨b, off + i * 5 + 3, none⟩ = some (.int .i64 p.se) ∧ W.cell? ⟨b, off + i * 5 + 4, none⟩ = some (.slice p.A p.n p.c) from ⟨(hW.cell (p := ⟨g, i * 5, none⟩) hgY.2).trans r0, (hW.cell (p := ⟨g, i * 5 + 1, none⟩) hgY.2).trans r1, (hW.cell (p := ⟨g, i * 5 + 2, none⟩) hgY.2).trans r2, (hW.cell (p := ⟨g, i * 5 + 3, none⟩) hgY.2).trans r3, (hW.cell (p := ⟨g, i * 5 + 4, none⟩) hgY.2).trans r4, (hW.cell (p := ⟨b, off + i * 5, none⟩) hlt).trans c0, (hW.cell (p := ⟨b, off + i * 5 + 1, none⟩) hlt).trans c1, (hW.cell (p := ⟨b, off + i * 5 + 2, none⟩) hlt).trans c2, (hW.cell (p := ⟨b, off + i * 5 + 3, none⟩) hlt).trans c3, (hW.cell (p := ⟨b, off + i * 5 + 4, none⟩) hlt).trans c4⟩))
      have HCY := Lib.hid (fun W (hW : Below Y.heap.size Y W) => HC.out W (HY.out.trans (hW.mono HY.out.size)))
      obtain ⟨k1, k2, cur, k3, k4⟩ := HR.out i p hin hp
      have k3' := k3.next HY.out
      have KT := Lib.hid (fun W (hW : Below Y.heap.size Y W) => stayedBytes_any p.A (gs i) p.n p.c (cs i) p.zs cur W (k3'.next hW) k4 k2 (hpr.1.next hW) hpr.2.1 (by have := hpr.2.2.1; omega))
      have z1 : (0 : Int) ≤ (i : Int) := by omega
      have z2 : (i : Int) < (n : Int) := by omega
      clear r0 r1 r2 r3 r4 c0 c1 c2 c3 c4 er hoY k3 k3' k4 hpr hpm hp hlt
      go_upto_region 6 with fail
      go_cut [6, 7] (fun s6 s7 wx => SbCut Y #[.int .i64 p.fr, .int .i64 p.to, .int .i64 p.du, .int .i64 p.se, .slice (some ⟨gs i, 0, none⟩) p.n (cs i)] #[.int .i64 p.fr, .int .i64 p.to, .int .i64 p.du, .int .i64 p.se, .slice p.A p.n p.c] s6 s7 wx)
      case first =>
        refine wp_region_G 13 (fun w' => Below Y.heap.size Y w') (by kernel_rfl) ((Below.refl Y.heap.size Y).drew) (fun hS => ?_)
        refine wpAnyG_pure (i := 0) (v := ?_) rfl (by kernel_rfl) (by kernel_rfl) (by kernel_rfl) (by kernel_rfl) (fun _ _ _ h => h) (Or.inl ⟨by rfl, fun wx _ => ?_⟩) hS ?_
        rotate_left
        · go_simp; (try with_reducible rfl)
        try simp only [Act.put, List.setIfInBounds_toArray, List.set_cons_zero, List.set_cons_succ]
        refine wpAnyG_take (i := 1) (v := .slice (some ⟨g, 0, none⟩) n cq) rfl (by kernel_rfl) (by kernel_rfl) (by kernel_rfl) (by kernel_rfl) (by kernel_rfl) (by kernel_rfl) (fun _ _ _ h => h) (Or.inl ⟨by rfl, fun wx hSw => by have hc := (HCY.out _ hSw).2.2.1; go_simp⟩) hS ?_
        try simp only [Act.put, List.setIfInBounds_toArray, List.set_cons_zero, List.set_cons_succ]
        refine wpAnyG_pure (i := 2) (v := ?_) rfl (by kernel_rfl) (by kernel_rfl) (by kernel_rfl) (by kernel_rfl) (fun _ _ _ h => h) (Or.inl ⟨by rfl, fun wx _ => ?_⟩) hS ?_
        rotate_left
        · go_simp; (try with_reducible rfl)
        try simp only [Act.put, List.setIfInBounds_toArray, List.set_cons_zero, List.set_cons_succ]
        refine wpAnyG_pure (i := 3) (v := ?_) rfl (by kernel_rfl) (by kernel_rfl) (by kernel_rfl) (by kernel_rfl) (fun _ _ _ h => h) (Or.inl ⟨by rfl, fun wx _ => ?_⟩) hS ?_
        rotate_left
        · go_simp; (try with_reducible rfl)
        try simp only [Act.put, List.setIfInBounds_toArray, List.set_cons_zero, List.set_cons_succ]
        refine wpAnyG_take (i := 4) (v := .agg #[.int .i64 p.fr, .int .i64 p.to, .int .i64 p.du, .int .i64 p.se, .slice (some ⟨gs i, 0, none⟩) p.n (cs i)]) rfl (by kernel_rfl) (by kernel_rfl) (by kernel_rfl) (by kernel_rfl) (by kernel_rfl) (by kernel_rfl) (fun _ _ _ h => h) (Or.inl ⟨by rfl, fun wx hSw => by have hd := HD.out _ hSw; have h0 := hd.1; have h1 := hd.2.1; have h2 := hd.2.2.1; have h3 := hd.2.2.2.1; have h4 := hd.2.2.2.2.1; go_simp⟩) hS ?_
        try simp only [Act.put, List.setIfInBounds_toArray, List.set_cons_zero, List.set_cons_succ]
        refine wpAnyG_pure (i := 5) (v := ?_) rfl (by kernel_rfl) (by kernel_rfl) (by kernel_rfl) (by kernel_rfl) (fun _ _ _ h => h) (Or.inl ⟨by rfl, fun wx _ => ?_⟩) hS ?_
        rotate_left
        · go_simp; (try with_reducible rfl)
        try simp only [Act.put, List.setIfInBounds_toArray, List.set_cons_zero, List.set_cons_succ]
        refine wpAnyG_take (i := 6) (v := .slice (some ⟨b, off, none⟩) n c) rfl (by kernel_rfl) (by kernel_rfl) (by kernel_rfl) (by kernel_rfl) (by kernel_rfl) (by kernel_rfl) (fun _ _ _ h => h) (Or.inl ⟨by rfl, fun wx hSw => by have hc := (HCY.out _ hSw).2.2.2.2.2.1; go_simp⟩) hS ?_
        try simp only [Act.put, List.setIfInBounds_toArray, List.set_cons_zero, List.set_cons_succ]
        refine wpAnyG_pure (i := 7) (v := ?_) rfl (by kernel_rfl) (by kernel_rfl) (by kernel_rfl) (by kernel_rfl) (fun _ _ _ h => h) (Or.inl ⟨by rfl, fun wx _ => ?_⟩) hS ?_
        rotate_left
        · go_simp; (try with_reducible rfl)
        try simp only [Act.put, List.setIfInBounds_toArray, List.set_cons_zero, List.set_cons_succ]
        refine wpAnyG_pure (i := 8) (v := ?_) rfl (by kernel_rfl) (by kernel_rfl) (by kernel_rfl) (by kernel_rfl) (fun _ _ _ h => h) (Or.inl ⟨by rfl, fun wx _ => ?_⟩) hS ?_
        rotate_left
        · go_simp; (try with_reducible rfl)
        try simp only [Act.put, List.setIfInBounds_toArray, List.set_cons_zero, List.set_cons_succ]
        refine wpAnyG_take (i := 9) (v := .agg #[.int .i64 p.fr, .int .i64 p.to, .int .i64 p.du, .int .i64 p.se, .slice p.A p.n p.c]) rfl (by kernel_rfl) (by kernel_rfl) (by kernel_rfl) (by kernel_rfl) (by kernel_rfl) (by kernel_rfl) (fun _ _ _ h => h) (Or.inl ⟨by rfl, fun wx hSw => by have hd := HD.out _ hSw; have h0 := hd.2.2.2.2.2.1; have h1 := hd.2.2.2.2.2.2.1; have h2 := hd.2.2.2.2.2.2.2.1; have h3 := hd.2.2.2.2.2.2.2.2.1; have h4 := hd.2.2.2.2.2.2.2.2.2; go_simp⟩) hS ?_
        try simp only [Act.put, List.setIfInBounds_toArray, List.set_cons_zero, List.set_cons_succ]
        refine wpAnyG_two (i := 10) (j := 11) rfl rfl (by kernel_rfl) (fun K hK => ?_) (fun K hK => ?_)
        · go_simp
          have hX1 : Below Y.heap.size Y (Y.alloc (.cells #[.int .i64 0, .int .i64 0, .int .i64 0, .int .i64 0, .slice none 0 0] 35)) := (Below.refl _ _).alloc (Nat.le_refl _) _
          clear hS
          have hS : Below Y.heap.size Y (Y.alloc (.cells #[.int .i64 0, .int .i64 0, .int .i64 0, .int .i64 0, .slice none 0 0] 35)).drew := hX1.drew
          refine hK.out _ _ hS ?_
          clear hK K
          try simp only [Act.put, List.setIfInBounds_toArray, List.set_cons_zero, List.set_cons_succ]
          refine wpAnyG_one (i := 11) rfl (by kernel_rfl) (fun K hK => ?_)
          go_simp
          have hX2 : Below Y.heap.size Y ((Y.alloc (.cells #[.int .i64 0, .int .i64 0, .int .i64 0, .int .i64 0, .slice none 0 0] 35)).alloc (.cells #[.int .i64 0, .int .i64 0, .int .i64 0, .int .i64 0, .slice none 0 0] 35)) := hX1.alloc hX1.size _
          clear hS
          have hS : Below Y.heap.size Y ((Y.alloc (.cells #[.int .i64 0, .int .i64 0, .int .i64 0, .int .i64 0, .slice none 0 0] 35)).alloc (.cells #[.int .i64 0, .int .i64 0, .int .i64 0, .int .i64 0, .slice none 0 0] 35)).drew := hX2.drew
          have hza : Blk ((Y.alloc (.cells #[.int .i64 0, .int .i64 0, .int .i64 0, .int .i64 0, .slice none 0 0] 35)).alloc (.cells #[.int .i64 0, .int .i64 0, .int .i64 0, .int .i64 0, .slice none 0 0] 35)).drew Y.heap.size 35 #[.int .i64 0, .int .i64 0, .int .i64 0, .int .i64 0, .slice none 0 0] := (Blk.new _ _ _).alloc _
          have hzb : Blk ((Y.alloc (.cells #[.int .i64 0, .int .i64 0, .int .i64 0, .int .i64 0, .slice none 0 0] 35)).alloc (.cells #[.int .i64 0, .int .i64 0, .int .i64 0, .int .i64 0, .slice none 0 0] 35)).drew (Y.heap.size + 1) 35 #[.int .i64 0, .int .i64 0, .int .i64 0, .int .i64 0, .slice none 0 0] := Blk.at_ _ _ _ _ (by simp)
          refine hK.out _ _ hS ?_
          clear hK K
          try simp only [Act.put, List.setIfInBounds_toArray, List.set_cons_zero, List.set_cons_succ]
          refine wpAnyG_one (i := 12) rfl (by kernel_rfl) (fun K hK => ?_)
          rw [if_pos (by rfl)]
          refine wp_store_pc 35 (.tmp 6) (.tmp 56) rfl (Y.heap.size) _ _ #[.int .i64 p.fr, .int .i64 p.to, .int .i64 p.du, .int .i64 p.se, .slice (some ⟨gs i, 0, none⟩) p.n (cs i)] rfl rfl hza rfl (by kernel_rfl) (by simp [Value.oneCell']) (fun w8 hN8 hg8 => ?_)
          have hz8 := hzb.grown hg8 (by intro e; have := Option.some.inj e; omega)
          have hS8 := hS.grown hg8 hS.size (fun j hj => by cases hj; omega)
          clear hS hza hzb
          have hS := hS8
          refine hK.out _ _ hS ?_
          clear hK K
          try simp only [Act.put, List.setIfInBounds_toArray, List.set_cons_zero, List.set_cons_succ]
          refine wpAnyG_last rfl (by kernel_rfl) (by kernel_rfl) (by kernel_rfl) (fun K hK => ?_)
          rw [if_pos (by rfl)]
          refine wp_store_pc 35 (.tmp 7) (.tmp 61) rfl (Y.heap.size + 1) _ _ #[.int .i64 p.fr, .int .i64 p.to, .int .i64 p.du, .int .i64 p.se, .slice p.A p.n p.c] rfl rfl hz8 rfl (by kernel_rfl) (by simp [Value.oneCell']) (fun w9 hN9 hg9 => ?_)
          refine hK.out _ _ ?_
          clear hK K
          try simp only [Act.put, List.setIfInBounds_toArray, List.set_cons_zero, List.set_cons_succ]
          go_wp2_with fail
          go_meet
          exact ⟨Y.heap.size, Y.heap.size + 1, rfl, rfl, hN8.grown hg9 (by intro e; have := Option.some.inj e; omega), hN9, hS.grown hg9 hS.size (fun j hj => by cases hj; omega)⟩
        · go_simp
          have hX1 : Below Y.heap.size Y (Y.alloc (.cells #[.int .i64 0, .int .i64 0, .int .i64 0, .int .i64 0, .slice none 0 0] 35)) := (Below.refl _ _).alloc (Nat.le_refl _) _
          clear hS
          have hS : Below Y.heap.size Y (Y.alloc (.cells #[.int .i64 0, .int .i64 0, .int .i64 0, .int .i64 0, .slice none 0 0] 35)).drew := hX1.drew
          refine hK.out _ _ hS ?_
          clear hK K
          try simp only [Act.put, List.setIfInBounds_toArray, List.set_cons_zero, List.set_cons_succ]
          refine wpAnyG_one (i := 10) rfl (by kernel_rfl) (fun K hK => ?_)
          go_simp
          have hX2 : Below Y.heap.size Y ((Y.alloc (.cells #[.int .i64 0, .int .i64 0, .int .i64 0, .int .i64 0, .slice none 0 0] 35)).alloc (.cells #[.int .i64 0, .int .i64 0, .int .i64 0, .int .i64 0, .slice none 0 0] 35)) := hX1.alloc hX1.size _
          clear hS
          have hS : Below Y.heap.size Y ((Y.alloc (.cells #[.int .i64 0, .int .i64 0, .int .i64 0, .int .i64 0, .slice none 0 0] 35)).alloc (.cells #[.int .i64 0, .int .i64 0, .int .i64 0, .int .i64 0, .slice none 0 0] 35)).drew := hX2.drew
          have hza : Blk ((Y.alloc (.cells #[.int .i64 0, .int .i64 0, .int .i64 0, .int .i64 0, .slice none 0 0] 35)).alloc (.cells #[.int .i64 0, .int .i64 0, .int .i64 0, .int .i64 0, .slice none 0 0] 35)).drew Y.heap.size 35 #[.int .i64 0, .int .i64 0, .int .i64 0, .int .i64 0, .slice none 0 0] := (Blk.new _ _ _).alloc _
          have hzb : Blk ((Y.alloc (.cells #[.int .i64 0, .int .i64 0, .int .i64 0, .int .i64 0, .slice none 0 0] 35)).alloc (.cells #[.int .i64 0, .int .i64 0, .int .i64 0, .int .i64 0, .slice none 0 0] 35)).drew (Y.heap.size + 1) 35 #[.int .i64 0, .int .i64 0, .int .i64 0, .int .i64 0, .slice none 0 0] := Blk.at_ _ _ _ _ (by simp)
          refine hK.out _ _ hS ?_
          clear hK K
          try simp only [Act.put, List.setIfInBounds_toArray, List.set_cons_zero, List.set_cons_succ]
          refine wpAnyG_one (i := 12) rfl (by kernel_rfl) (fun K hK => ?_)
          rw [if_pos (by rfl)]
          refine wp_store_pc 35 (.tmp 6) (.tmp 56) rfl (Y.heap.size + 1) _ _ #[.int .i64 p.fr, .int .i64 p.to, .int .i64 p.du, .int .i64 p.se, .slice (some ⟨gs i, 0, none⟩) p.n (cs i)] rfl rfl hzb rfl (by kernel_rfl) (by simp [Value.oneCell']) (fun w8 hN8 hg8 => ?_)
          have hz8 := hza.grown hg8 (by intro e; have := Option.some.inj e; omega)
          have hS8 := hS.grown hg8 hS.size (fun j hj => by cases hj; omega)
          clear hS hza hzb
          have hS := hS8
          refine hK.out _ _ hS ?_
          clear hK K
          try simp only [Act.put, List.setIfInBounds_toArray, List.set_cons_zero, List.set_cons_succ]
          refine wpAnyG_last rfl (by kernel_rfl) (by kernel_rfl) (by kernel_rfl) (fun K hK => ?_)
          rw [if_pos (by rfl)]
          refine wp_store_pc 35 (.tmp 7) (.tmp 61) rfl (Y.heap.size) _ _ #[.int .i64 p.fr, .int .i64 p.to, .int .i64 p.du, .int .i64 p.se, .slice p.A p.n p.c] rfl rfl hz8 rfl (by kernel_rfl) (by simp [Value.oneCell']) (fun w9 hN9 hg9 => ?_)
          refine hK.out _ _ ?_
          clear hK K
          try simp only [Act.put, List.setIfInBounds_toArray, List.set_cons_zero, List.set_cons_succ]
          go_wp2_with fail
          go_meet
          exact ⟨Y.heap.size + 1, Y.heap.size, rfl, rfl, hN8.grown hg9 (by intro e; have := Option.some.inj e; omega), hN9, hS.grown hg9 hS.size (fun j hj => by cases hj; omega)⟩
      case rest =>
        obtain ⟨q6, q7, rfl, rfl, h6, h7, hX⟩ := hcut
        have x0 := h6.cell 0
        have x1 := h6.cell 1
        have x2 := h6.cell 2
        have x3 := h6.cell 3
        have x4 := h6.cell 4
        have y0 := h7.cell 0
        have y1 := h7.cell 1
        have y2 := h7.cell 2
        have y3 := h7.cell 3
        have y4 := h7.cell 4
        simp only [List.getElem?_toArray, List.getElem?_cons_zero, List.getElem?_cons_succ] at x0 y0 x1 y1 x2 y2 x3 y3 x4 y4
        have e0 : (p.fr != p.fr) = false := by simp
        have e1 : (p.to != p.to) = false := by simp
        have e2 : (p.du != p.du) = false := by simp
        have e3 : (p.se != p.se) = false := by simp
        have KW := Lib.hid (KT.out _ hX)
        have HX := Lib.hid hX
        clear hX h6 h7 d2 d5
        go_wp2_with (first
          | (go_at_call 18; (with_reducible refine KW.out.mono ?_); rintro e w9 ⟨rfl, rfl⟩)
          | go_big_skip)
        go_roundw
        case rel => exact ⟨i + 1, by go_num, by omega, HY.out.trans (HX.out.mono HY.out.size)⟩
        case measure => simp [intOf]; omega
    · obtain rfl : n = i := by omega
      go_wp2_with fail
      go_ret
      exact ⟨rfl, HBW.out.trans (HY.out.mono HBW.out.size)⟩
end Go.Proofs.Ytdlcjieaoalhoaa.Bs
