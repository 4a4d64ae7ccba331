/- slices.Chunk at bytes: its pieces, one behind the other. -/
import Derived.RangeFuncBox
import Derived.RangeFuncLeaves
import Derived.Shelf.Abstract
import Derived.WalkKit
import Derived.OwnWalkIn
import Derived.TacticsInMore
import Derived.LoopNIn
import Derived.LoopIn
import Derived.Sort.QuietTacIn
import Derived.Sort.BigQuietIn
import Derived.Maps.AppendAt
import Derived.Test.YtccebaadpjflkaaWirePut
import Derived.Test.YtccebaadpjflkaaRows4
set_option linter.unusedVariables false
namespace Go.Proofs.Ytccebaadpjflkaa.Wr
open Go.RowKit Go.Proofs.Ytccebaadpjflkaa Go.Proofs Go.Shelf
attribute [local go_sem] Oper.semAt_some

theorem cut3 {P : Program} {t e : TypeId} {i : TypeInfo} (ht : P.underlying t = some (.slice e)) (hi : P.info? e = some i) (h1 : i.size = 1) (b off n c k m : Nat) (lo hi2 : Int) (hlo : lo = (k : Int)) (hhi : hi2 = (m : Int)) (hk : k < m) (hm : m ≤ c) (W : World) :
    (Instr.slice t (.slice (some ⟨b, off, none⟩) n c) (some (.int .i64 lo)) (some (.int .i64 hi2)) (some (.int .i64 hi2))).run P W = .ok (.slice (some ⟨b, off + k, none⟩) (m - k) (m - k)) W := by
  subst hlo hhi
  have e1 : ∀ e, (Instr.sliceBound (.int .i64 (m : Int)) c e).run P W = .ok m W := by
    intro e
    simp [Instr.sliceBound, asIntOf, hm, go_sem]
  have e2 : ∀ e, (Instr.sliceBound (.int .i64 (m : Int)) m e).run P W = .ok m W := by
    intro e
    simp [Instr.sliceBound, asIntOf, go_sem]
  have e3 : ∀ e, (Instr.sliceBound (.int .i64 (k : Int)) m e).run P W = .ok k W := by
    intro e
    have : (k : Int) ≤ m := by omega
    simp [Instr.sliceBound, asIntOf, this, go_sem]
  have e4 : ¬ m - k = 0 := by omega
  simp [Instr.slice, Instr.sliceBounds, run_underlying ht, sizeOf, typeInfo, hi, h1, e1, e2, e3, e4, Addr.add]
  rw [if_neg (by omega)]
  by_cases e : k = 0
  · simp [e]
  · simp [e]
theorem cutf {P : Program} {t e : TypeId} {i : TypeInfo} (ht : P.underlying t = some (.slice e)) (hi : P.info? e = some i) (h1 : i.size = 1) (A : Option Addr) (n c k : Nat) (lo : Int) (hlo : lo = (k : Int)) (hk : k ≤ n) :
    ∃ A', ∀ W : World, (Instr.slice t (.slice A n c) (some (.int .i64 lo)) none none).run P W = .ok (.slice A' (n - k) (c - k)) W := by
  subst hlo
  refine ⟨if c = k then A else A.map (·.add (k * 1)), fun W => ?_⟩
  have e1 : (Instr.sliceBound (.int .i64 (k : Int)) n .sliceB).run P W = .ok k W := by
    simp [Instr.sliceBound, asIntOf, hk, go_sem]
  simp [Instr.slice, Instr.sliceBounds, run_underlying ht, sizeOf, typeInfo, hi, h1, e1]
/-- the first k pieces -/
def pces (q k : Nat) : List (Fin q) := (List.finRange q).take k
theorem pces_snoc (q k : Nat) (h : k < q) : pces q k ++ [⟨k, h⟩] = pces q (k + 1) := by
  unfold pces
  rw [List.take_succ_eq_append_getElem (by simpa using h)]
  simp
/-- two blocks are as they were -/
def Two (Bs Bk : Nat) (A B : World) : Prop := B.heap[Bs]? = A.heap[Bs]? ∧ B.heap[Bk]? = A.heap[Bk]?

set_option maxRecDepth 100000 in
set_option maxHeartbeats 2000000 in
/-- slices.Chunk's closure, for every loop body that keeps what it has captured -/
theorem chunk1_in (n : Nat) (hn : 1 ≤ n) (l Bs Bk q cap b off : Nat) (A : Option Addr) (hA : 0 < q → A = some ⟨b, off, none⟩) (hq : q ≤ 1000) (hcap : 8 * q ≤ cap) (J Jx : List (Fin q) → World → Prop) (B : Nat) (hJ : AbidesFrom B J)
    (hY : ∀ pre (x : Fin q) W, J pre W → pre.length < q → YieldAt Fence.wide (n - 1) Try.prog l #[.slice (some ⟨b, off + 8 * x.1, none⟩) 8 8] W fun e W' =>
      (e = .returned (.bool true) ∧ J (pre ++ [x]) W' ∧ Two Bs Bk W W') ∨ (e = .returned (.bool false) ∧ Jx (pre ++ [x]) W'))
    (W : World) (hc : W.cell? ⟨Bs, 0, none⟩ = some (.slice A (8 * q) cap)) (hc2 : W.cell? ⟨Bk, 0, none⟩ = some (.int .i64 8)) (h0 : J [] W) :
    CallsIn Fence.wide n Try.prog 95 #[.func (.yield l) #[] #[], .pointer (some ⟨Bs, 0, none⟩), .pointer (some ⟨Bk, 0, none⟩)] W fun e W' => (∃ v, e = .returned v) ∧
      ((∃ ys, ys = pces q q ∧ J ys W') ∨ (∃ pre, pre <+: pces q q ∧ Jx pre W')) := by
  obtain ⟨i0, hi, hz0, hz1, hz2⟩ := info_parts infoByte
  refine callsIn_of_wp Try.func95 rfl trivial ?_ rfl
  simp only [Try.ntmps95, List.size_toArray, List.length_cons, List.length_nil, Nat.reduceAdd, Nat.reduceSub, Array.replicate_succ, Array.replicate_zero, List.push_toArray, List.append_toArray, List.nil_append, List.cons_append]
  gi_wp2
  gi_loopw [4] (fun i wr => ∃ k : Nat, k ≤ q ∧ i = .int .i64 (8 * (k : Int)) ∧ J (pces q k) wr ∧ Two Bs Bk W wr)
    (fun i _ => 8 * q - (intOf i).toNat)
  case atStart => exact ⟨0, Nat.zero_le _, rfl, h0, rfl, rfl⟩
  case round =>
    obtain ⟨k, hk, rfl, hJs, hnx⟩ := hrel
    have d1 := (cell_same hnx.1 0).trans hc
    have d2 := (cell_same hnx.2 0).trans hc2
    by_cases hlt : k < q
    · have hlk : (pces q k).length = k := by simp [pces]; omega
      obtain rfl := hA (by omega)
      obtain ⟨A1, e1⟩ := cutf (P := Try.prog) (t := 58) Try.underlying58 hi hz1 (some ⟨b, off, none⟩) (8 * q) cap (8 * k) (8 * (k : Int)) (by omega) (by omega)
      have e2 := cut3 (P := Try.prog) (t := 58) Try.underlying58 hi hz1 b off (8 * q) cap (8 * k) (8 * k + 8) (8 * (k : Int)) (8 * (k : Int) + 8) (by omega) (by omega) (by omega) (by omega)
      rw [show 8 * k + 8 - 8 * k = 8 by omega] at e2
      have q1 : 8 * (k : Int) < 8 * (q : Int) := by omega
      have q2 : (8 : Int) ≤ ((8 * q - 8 * k : Nat) : Int) := by omega
      gi_wp2
      gi_big_quiet_th (fail)
      have hJd : J (pces q k) (wr.drewN nq) := hJ _ _ _ none hJs (grown_below (below_drewN _ _ _)) (fun r e => by cases e)
      obtain ⟨fn, tmps, assign, body, hy, hR⟩ := hY _ ⟨k, hlt⟩ (wr.drewN nq) hJd (by rw [hlk]; exact hlt)
      dsimp only at hy
      rw [pces_snoc q k hlt] at hR
      have hnd : Two Bs Bk W (wr.drewN nq) := hnx
      clear hJd hlk
      gi_wp2
      refine hR.mono ?_
      rintro e W3 (⟨rfl, hJ3, hk3⟩ | ⟨rfl, hJx3⟩)
      · have d3 := (cell_same (hk3.2.trans hnd.2) 0).trans hc2
        gi_wp2
        go_roundw
        case rel => exact ⟨k + 1, by omega, by go_num, hJ3, hk3.1.trans hnd.1, hk3.2.trans hnd.2⟩
        case measure => simp [intOf]; omega
      · gi_wp2
        refine bodyPost_ret (results_none rfl _ _ _) rfl ?_
        exact ⟨⟨_, rfl⟩, .inr ⟨_, by unfold pces; exact List.take_prefix_take_left (by omega), hJx3⟩⟩
    · obtain rfl : k = q := by omega
      gi_wp2
      go_end0
      exact ⟨⟨_, rfl⟩, .inl ⟨_, rfl, hJs⟩⟩

set_option maxHeartbeats 1000000 in
/-- slices.Chunk(s, 8) -/
theorem chunk_in (n : Nat) (A : Option Addr) (m c : Nat) (w : World) :
    CallsIn Fence.wide n Try.prog 63 #[.slice A m c, .int .i64 8] w fun e w' => e = .returned (.func (.func 95) #[] #[.pointer (some ⟨w.heap.size, 0, none⟩), .pointer (some ⟨w.heap.size + 1, 0, none⟩)]) ∧
      w' = (w.alloc (.cells #[.slice A m c] 58)).alloc (.cells #[.int .i64 8] 3) := by
  refine callsIn_of_wp Try.func63 rfl trivial ?_ rfl
  simp only [Try.ntmps63, List.size_toArray, List.length_cons, List.length_nil, Nat.reduceAdd, Nat.reduceSub, Array.replicate_succ, Array.replicate_zero, List.push_toArray, List.append_toArray, List.nil_append, List.cons_append]
  gi_wp2
  go_ret
  exact ⟨rfl, rfl⟩

theorem two_t {Bs Bk : Nat} {A B C : World} (h : Two Bs Bk A B) (k : Two Bs Bk B C) : Two Bs Bk A C := ⟨k.1.trans h.1, k.2.trans h.2⟩
theorem two_b {Bs Bk N : Nat} (hs : Bs < N) (hk : Bk < N) (W : World) (l : Nat) (o o' : Obj) (hl : N ≤ l) (_ : W.heap[l]? = some o) (_ : o.isCells = false) (_ : o.isWalk = false) : Two Bs Bk W (W.putObj l o') :=
  ⟨World.putObj_heap_other (by omega), World.putObj_heap_other (by omega)⟩
theorem chunk_stops (n : Nat) (hn : 1 ≤ n) (Bs Bk q cap b off : Nat) (A : Option Addr) (hA : 0 < q → A = some ⟨b, off, none⟩) (hq : q ≤ 1000) (hcap : 8 * q ≤ cap) (w : World) (hBs : Bs < w.heap.size) (hBk : Bk < w.heap.size)
    (hc : w.cell? ⟨Bs, 0, none⟩ = some (.slice A (8 * q) cap)) (hc2 : w.cell? ⟨Bk, 0, none⟩ = some (.int .i64 8)) :
    SeqStopsK Fence.wide n Try.prog 95 #[.pointer (some ⟨Bs, 0, none⟩), .pointer (some ⟨Bk, 0, none⟩)] (fun x : Fin q => #[Value.slice (some ⟨b, off + 8 * x.1, none⟩) 8 8]) (Two Bs Bk) (fun ys => ys = pces q q) (fun pre => pre <+: pces q q) q w := fun l J Jx W hW hJ _ hY h0 =>
  chunk1_in n hn l Bs Bk q cap b off A hA hq hcap J Jx W.heap.size hJ hY W ((hW.cell (p := ⟨Bs, 0, none⟩) hBs).trans hc) ((hW.cell (p := ⟨Bk, 0, none⟩) hBk).trans hc2) h0
end Go.Proofs.Ytccebaadpjflkaa.Wr
