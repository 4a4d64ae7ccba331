/- mat.Turn: the turned matrix. -/
import Derived.Test.YtnhklfdchfndjaaMatAt
import Derived.Test.YtnhklfdchfndjaaMatPlain
import Derived.Deep.RegionHeld3
import Derived.Deep.DrawnRows
import Derived.Deep.CutRange
set_option linter.unusedVariables false
namespace Go.Proofs.Ytnhklfdchfndjaa.Mt
open Go.RowKit Go.Proofs.Ytnhklfdchfndjaa Fx
attribute [local go_sem ↓] Go.wp_at_zero Go.wp_at_succ

/-- a new matrix: its numbers fill block g -/
def matV (n g : Nat) : Value := .agg #[.int .i64 n, .slice (some ⟨g, 0, none⟩) (n * n) (n * n)]
def NewMat (w w' : World) (n g : Nat) (F : Nat → Int) : Prop := w.heap.size ≤ g ∧ Blk w' g 3 (tabN (n * n) F) ∧ Below w.heap.size w w'
theorem good_yes {n : Nat} (h1 : 1 ≤ n) (h6 : n ≤ 6) : goodB (n : Int) (n * n) = true := by
  unfold goodB
  rw [decide_eq_true_iff]
  refine ⟨by omega, by omega, by push_cast; rfl⟩

/-- what stands while a matrix is turned -/
def TFr (w0 W : World) (q g b n : Nat) (A : Option Addr) (c : Nat) (F : Nat → Int) : Prop :=
  Blk W w0.heap.size 30 #[.int .i64 n, .slice A (n * n) c] ∧ Blk W (w0.heap.size + 1) 30 #[.int .i64 0, .slice none 0 0] ∧
    Blk W q 57 #[.int .i64 n, .slice (some ⟨g, 0, none⟩) (n * n) (n * n), .pointer (some ⟨b, 0, none⟩)] ∧ Blk W g 3 (tabN (n * n) F) ∧ w0.heap.size + 1 < g ∧ g < q ∧ Below w0.heap.size w0 W
section
variable {w0 W W' : World} {q g b n c : Nat} {A : Option Addr} {F F' : Nat → Int}
theorem TFr.put (h : TFr w0 W q g b n A c F) (hb : Blk W' g 3 (tabN (n * n) F')) (hg : W.grownBy W' (some g)) : TFr w0 W' q g b n A c F' := by
  obtain ⟨h1, h2, h3, h4, h5, h6, h7⟩ := h
  exact ⟨h1.grown hg (by intro e; injection e with e; omega), h2.grown hg (by intro e; injection e with e; omega), h3.grown hg (by intro e; injection e with e; omega), hb, h5, h6, h7.grown hg h7.size (fun j hj => by injection hj with hj; omega)⟩
theorem TFr.drew (h : TFr w0 W q g b n A c F) : TFr w0 W.drew q g b n A c F := ⟨h.1, h.2.1, h.2.2.1, h.2.2.2.1, h.2.2.2.2.1, h.2.2.2.2.2.1, h.2.2.2.2.2.2.drew⟩
/-- the cells that a round loads -/
theorem TFr.cells (h : TFr w0 W q g b n A c F) : W.cell? ⟨w0.heap.size, 0, none⟩ = some (.int .i64 n) ∧ W.cell? ⟨w0.heap.size, 1, none⟩ = some (.slice A (n * n) c) ∧
    W.cell? ⟨q, 0, none⟩ = some (.int .i64 n) ∧ W.cell? ⟨q, 1, none⟩ = some (.slice (some ⟨g, 0, none⟩) (n * n) (n * n)) ∧ W.cell? ⟨q, 2, none⟩ = some (.pointer (some ⟨b, 0, none⟩)) :=
  ⟨h.1.cell 0, h.1.cell 1, h.2.2.1.cell 0, h.2.2.1.cell 1, h.2.2.1.cell 2⟩
end
theorem TFr.six {w0 W : World} {q g b n c : Nat} {gA oA t : Nat} {z : Int} {F : Nat → Int} (h : TFr w0 W q g b n (some ⟨gA, oA, none⟩) c F) (hg : gA < w0.heap.size) (hz : w0.cell? ⟨gA, oA + t, none⟩ = some (.int .i64 z)) :
    W.cell? ⟨w0.heap.size, 0, none⟩ = some (.int .i64 n) ∧ W.cell? ⟨w0.heap.size, 1, none⟩ = some (.slice (some ⟨gA, oA, none⟩) (n * n) c) ∧
    W.cell? ⟨q, 0, none⟩ = some (.int .i64 n) ∧ W.cell? ⟨q, 1, none⟩ = some (.slice (some ⟨g, 0, none⟩) (n * n) (n * n)) ∧ W.cell? ⟨q, 2, none⟩ = some (.pointer (some ⟨b, 0, none⟩)) ∧ W.cell? ⟨gA, oA + t, none⟩ = some (.int .i64 z) :=
  ⟨h.1.cell 0, h.1.cell 1, h.2.2.1.cell 0, h.2.2.1.cell 1, h.2.2.1.cell 2, (h.2.2.2.2.2.2.cell (p := ⟨gA, oA + t, none⟩) hg).trans hz⟩
theorem TFr.blk {w0 W : World} {q g b n c : Nat} {A : Option Addr} {F : Nat → Int} (h : TFr w0 W q g b n A c F) : Blk W g 3 (tabN (n * n) F) := h.2.2.2.1
def TRel (w0 : World) (q g b n : Nat) (A : Option Addr) (c : Nat) (f : Nat → Int) (i : Value) (W : World) : Prop := ∃ j : Nat, j ≤ n ∧ i = .int .i64 j ∧ TFr w0 W q g b n A c (turnTo n f j 0)
def TRel2 (w0 : World) (q g b n : Nat) (A : Option Addr) (c : Nat) (f : Nat → Int) (j : Nat) (i : Value) (W : World) : Prop := ∃ k : Nat, k ≤ n ∧ i = .int .i64 k ∧ TFr w0 W q g b n A c (turnTo n f j k)

theorem TFr.row {w0 W : World} {q g b n c i : Nat} {A : Option Addr} {f : Nat → Int} (h : TFr w0 W q g b n A c (turnTo n f i n)) : TFr w0 W q g b n A c (turnTo n f (i + 1) 0) := by
  obtain ⟨h1, h2, h3, h4, h5⟩ := h
  rw [turnTo_row] at h4
  exact ⟨h1, h2, h3, h4, h5⟩
theorem turn_results {W : World} {r : Nat} {N : Int} {A : Option Addr} {l c : Nat} (h : Blk W r 30 #[.int .i64 N, .slice A l c]) (e : Value) (tmps : Array Value) (h2 : tmps.getD 2 undef = .pointer (some ⟨r, 0, none⟩)) (h3 : tmps.getD 3 undef = e) :
    (results Try.f9 tmps).run Try.prog W = .ok (.tuple #[.agg #[.int .i64 N, .slice A l c], e]) W := by
  have h2' : tmps[2]?.getD undef = .pointer (some ⟨r, 0, none⟩) := by simpa using h2
  have h3' : tmps[3]?.getD undef = e := by simpa using h3
  simp [results, Try.results9, h2', h3', asAddr, run_loadVar_row (P := Try.prog) W r _ 30 #[.int .i64 N, .slice A l c] (0, 0) _ h Try.underlying30 rfl (by kernel_rfl)]

set_option maxRecDepth 100000 in
set_option maxHeartbeats 2000000 in
theorem Turn_any (n c : Nat) (A : Option Addr) (f : Nat → Int) (h1 : 1 ≤ n) (h6 : n ≤ 6) (w : World) (h : Nums w A (n * n) f) :
    Calls Try.prog 9 #[.agg #[.int .i64 n, .slice A (n * n) c]] w fun e w' => ∃ g, e = .returned (.tuple #[matV n g, .int .i64 0]) ∧ NewMat w w' n g (turnF n f) := by
  obtain ⟨gA, oA, rfl, hgA, hcA⟩ := h
  have hp : n * n ≤ 36 := Nat.le_trans (Nat.mul_le_mul h6 h6) (by omega)
  have kg := fun W => Good_any (n : Int) (some ⟨gA, oA, none⟩) (n * n) c W (by omega)
  rw [good_yes h1 h6] at kg
  have KG := Lib.hid kg
  have kf := fun W => fresh_any n h1 h6 W
  unfold workV at kf
  have KF := Lib.hid kf
  have HC := Lib.hid hcA
  clear kg kf hcA
  go_enter Try.func9, Try.ntmps9
  go_wp2_with fail
  refine (KG.out _).mono ?_
  rintro e w1 ⟨rfl, hB1⟩
  have p0 := ((Blk.new w 30 #[.int .i64 n, .slice (some ⟨gA, oA, none⟩) (n * n) c]).alloc (.cells #[.int .i64 0, .slice none 0 0] 30)).next hB1
  have r0 := (Blk.at_ (w.alloc (.cells #[.int .i64 n, .slice (some ⟨gA, oA, none⟩) (n * n) c] 30)) (w.heap.size + 1) 30 #[.int .i64 0, .slice none 0 0] (by simp)).next hB1
  have b0 := below_next (((Below.refl w.heap.size w).alloc (Nat.le_refl _) (.cells #[.int .i64 n, .slice (some ⟨gA, oA, none⟩) (n * n) c] 30)).alloc (by simp) (.cells #[.int .i64 0, .slice none 0 0] 30)) hB1
  have c0 := p0.cell 0
  simp only [List.getElem?_toArray, List.getElem?_cons_zero] at c0
  have hs1 := r0.lt
  have P0 := Lib.hid p0
  have R0 := Lib.hid r0
  have B0 := Lib.hid b0
  clear p0 r0 b0 hB1
  go_wp2_with fail
  refine (KF.out _).mono ?_
  rintro e w2 ⟨g, b, rfl, hW, hg, hb, hB2⟩
  have hT : TFr w (w2.alloc (.cells #[.int .i64 n, .slice (some ⟨g, 0, none⟩) (n * n) (n * n), .pointer (some ⟨b, 0, none⟩)] 57)) w2.heap.size g b n (some ⟨gA, oA, none⟩) c (turnTo n f 0 0) := by
    rw [turnTo_zero]
    exact ⟨(P0.out.next hB2).alloc _, (R0.out.next hB2).alloc _, Blk.new _ _ _, hW.1.alloc _, by omega, hW.1.lt, (below_next B0.out hB2).alloc (by have := (below_next B0.out hB2).size; omega) _⟩
  have hc := hT.cells
  obtain ⟨c1, c2, c3, c4, c5⟩ := hc
  have HT := Lib.hid hT
  clear hT hW hB2 P0 R0 B0 KG KF c0
  go_wp2_with fail
  clear c1 c2 c3 c4 c5
  go_loopw [16] (fun i wr => TRel w w2.heap.size g b n (some ⟨gA, oA, none⟩) c f i wr) (fun i _ => n - (intOf i).toNat)
  case atStart => exact ⟨0, by omega, rfl, HT.out⟩
  case round =>
    obtain ⟨i, hi, rfl, hT⟩ := hrel
    obtain ⟨c1, c2, c3, c4, c5⟩ := hT.cells
    have HT := Lib.hid hT
    clear hT
    by_cases hin : i < n
    · go_wp2_with fail
      clear c1 c2 c3 c4 c5
      obtain ⟨wo, rfl⟩ : ∃ wo : World, wo = wr := ⟨_, rfl⟩
      go_loopw [21] (fun k wr => TRel2 w w2.heap.size g b n (some ⟨gA, oA, none⟩) c f i k wr) (fun k _ => n - (intOf k).toNat)
      case atStart => exact ⟨0, by omega, rfl, HT.out⟩
      case round =>
        clear HT
        obtain ⟨k, hk, rfl, hT⟩ := hrel
        by_cases hkn : k < n
        · have hTd := hT.drew
          have hlt := idx_lt hin hkn
          have HS := fun W F (hW : TFr w W w2.heap.size g b n (some ⟨gA, oA, none⟩) c F) => Lib.hid (hW.six hgA (HC.out (i * n + k) hlt))
          clear hT
          have hq1 : (0 : Int) ≤ (i : Int) * (n : Int) := by exact_mod_cast Nat.zero_le (i * n)
          have hq2 : (i : Int) * (n : Int) ≤ 36 := by exact_mod_cast (show i * n ≤ 36 by omega)
          have hq3 : (i : Int) * (n : Int) + (k : Int) ≤ 36 := by exact_mod_cast (show i * n + k ≤ 36 by omega)
          have hq5 : (0 : Int) ≤ (i : Int) * (n : Int) + (k : Int) := by exact_mod_cast Nat.zero_le (i * n + k)
          have hq4 : (i : Int) * (n : Int) + (k : Int) < (n : Int) * (n : Int) := by exact_mod_cast hlt
          have e1 : ((i : Int) * (n : Int) + (k : Int)).toNat = i * n + k := by
            rw [show (i : Int) * (n : Int) + (k : Int) = ((i * n + k : Nat) : Int) by push_cast; rfl]; rfl
          have e2 : IntKind.i64.wrap ((i : Int) * (n : Int)) = (i : Int) * (n : Int) := IntWalk.i64_in _ (by omega)
          have e3 : IntKind.i64.wrap ((i : Int) * (n : Int) + (k : Int)) = (i : Int) * (n : Int) + (k : Int) := IntWalk.i64_in _ (by omega)
          have kp := fun W (h : Blk W g 3 (tabN (n * n) (turnTo n f i k))) => put_any n g b k i (f (i * n + k)) (turnTo n f i k) h6 hkn hin W h
          rw [turnTo_step f hin] at kp
          unfold workV at kp
          have KP := Lib.hid kp
          clear kp
          generalize f (i * n + k) = z at *
          go_wp2_with fail
          go_region_held3 (fun w' => w'.cell? ⟨w.heap.size, 0, none⟩ = some (.int .i64 n) ∧ w'.cell? ⟨w.heap.size, 1, none⟩ = some (.slice (some ⟨gA, oA, none⟩) (n * n) c) ∧
            w'.cell? ⟨w2.heap.size, 0, none⟩ = some (.int .i64 n) ∧ w'.cell? ⟨w2.heap.size, 1, none⟩ = some (.slice (some ⟨g, 0, none⟩) (n * n) (n * n)) ∧ w'.cell? ⟨w2.heap.size, 2, none⟩ = some (.pointer (some ⟨b, 0, none⟩)) ∧ w'.cell? ⟨gA, oA + (i * n + k), none⟩ = some (.int .i64 z)) (first | exact (HS _ _ hT3).out | exact (HS _ _ hTd).out) (first
            | (go_at_call 27; (with_reducible refine (KP.out _ (TFr.blk hTd)).mono ?_); rintro e w3 ⟨rfl, hb3, hg3⟩; have hT3 := hTd.put hb3 hg3))
          go_wp2_with fail
          go_roundw
          case rel => exact ⟨k + 1, by omega, by go_num, hT3⟩
          case measure => simp [intOf]; omega
        · obtain rfl : n = k := by omega
          have HT := Lib.hid hT.row
          clear hT
          go_wp2_with fail
          go_roundw
          case rel => exact ⟨i + 1, by omega, by go_num, HT.out⟩
          case measure => simp [intOf]; omega
    · obtain rfl : n = i := by omega
      have hT := HT.out
      have z1 := (hT.2.1.set_ 0 (.int .i64 n)).set_ 1 (.slice (some ⟨g, 0, none⟩) (n * n) (n * n))
      have z2 := hT.2.2.2.1
      have z3 := hT.2.2.2.2.2.2
      have f0 := hT.2.1.frozen 0
      have f1 := hT.2.1.frozen 1
      have d0 := hT.2.1.cell 0
      have d1 := hT.2.1.cell 1
      simp only [List.getElem?_toArray, List.getElem?_cons_zero, List.getElem?_cons_succ] at d0 d1
      have g1 := hT.2.2.2.2.1
      rw [turnTo_all (by omega) f] at z2
      have Z1 := Lib.hid z1
      have Z2 := Lib.hid z2
      have Z3 := Lib.hid z3
      clear z1 z2 z3 hT HT
      go_wp2_with fail
      refine bodyPost_ret (v := .tuple #[matV n g, .int .i64 0]) (turn_results Z1.out _ _ rfl rfl) rfl ⟨g, rfl, by omega, ?_, ?_⟩
      · exact (Z2.out.far (by simp; omega) _).far (by simp; omega) _
      · exact (Z3.out.setCell (by simp) _).setCell (by simp) _
end Go.Proofs.Ytnhklfdchfndjaa.Mt
