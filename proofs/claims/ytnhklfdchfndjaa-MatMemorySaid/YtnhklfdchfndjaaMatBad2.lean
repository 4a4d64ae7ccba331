/- mat.Mul: what are no two matrices of one size is refused. -/
import Derived.Test.YtnhklfdchfndjaaMatBad
set_option linter.unusedVariables false
namespace Go.Proofs.Ytnhklfdchfndjaa.Mt
open Go.RowKit Go.Proofs.Ytnhklfdchfndjaa Fx

/-- may two be multiplied? -/
def mulB (N : Int) (l : Nat) (M : Int) (k : Nat) : Bool := goodB N l && (goodB M k && decide (N = M))

set_option maxRecDepth 100000 in
set_option maxHeartbeats 2000000 in
theorem Mul_bad1 (N M : Int) (A B : Option Addr) (l k c d : Nat) (hl : l ≤ 9223372036854775807) (hbad : goodB N l = false) (w : World) :
    Calls Try.prog 10 #[.agg #[.int .i64 N, .slice A l c], .agg #[.int .i64 M, .slice B k d]] w fun e w' => e = .returned (.tuple #[.agg #[.int .i64 0, .slice none 0 0], .bool false, .int .i64 8]) ∧ Below w.heap.size w w' := by
  have kg := fun W => Good_any N A l c W hl
  rw [hbad] at kg
  have KG := Lib.hid kg
  clear kg
  go_enter Try.func10, Try.ntmps10
  go_wp2_with fail
  refine (KG.out _).mono ?_
  rintro e w1 ⟨rfl, hB1⟩
  have r0 := (Blk.at_ ((w.alloc (.cells #[.int .i64 N, .slice A l c] 30)).alloc (.cells #[.int .i64 M, .slice B k d] 30)) (w.heap.size + 1 + 1) 30 #[.int .i64 0, .slice none 0 0] (by simp)).next hB1
  have b0 := below_next ((((Below.refl w.heap.size w).alloc (Nat.le_refl _) (.cells #[.int .i64 N, .slice A l c] 30)).alloc (by simp) (.cells #[.int .i64 M, .slice B k d] 30)).alloc (by simp; omega) (.cells #[.int .i64 0, .slice none 0 0] 30)) hB1
  have d0 := r0.cell 0
  have d1 := r0.cell 1
  have f0 := r0.frozen 0
  have f1 := r0.frozen 1
  simp only [List.getElem?_toArray, List.getElem?_cons_zero, List.getElem?_cons_succ] at d0 d1
  have z1 := (r0.set_ 0 (.int .i64 0)).set_ 1 (.slice none 0 0)
  have Z1 := Lib.hid z1
  have B0 := Lib.hid b0
  clear z1 b0 r0 hB1
  go_wp2_with fail
  refine bodyPost_ret (v := .tuple #[.agg #[.int .i64 0, .slice none 0 0], .bool false, .int .i64 8]) (mul_results Z1.out _ _ _ rfl rfl rfl) rfl ⟨rfl, ?_⟩
  exact (B0.out.setCell (by simp; omega) _).setCell (by simp; omega) _

set_option maxRecDepth 100000 in
set_option maxHeartbeats 2000000 in
theorem Mul_bad2 (N M : Int) (A B : Option Addr) (l k c d : Nat) (hl : l ≤ 9223372036854775807) (hk : k ≤ 9223372036854775807) (hgood : goodB N l = true) (hbad : goodB M k = false) (w : World) :
    Calls Try.prog 10 #[.agg #[.int .i64 N, .slice A l c], .agg #[.int .i64 M, .slice B k d]] w fun e w' => e = .returned (.tuple #[.agg #[.int .i64 0, .slice none 0 0], .bool false, .int .i64 8]) ∧ Below w.heap.size w w' := by
  have kg := fun W => Good_any N A l c W hl
  rw [hgood] at kg
  have KG := Lib.hid kg
  have kh := fun W => Good_any M B k d W hk
  rw [hbad] at kh
  have KH := Lib.hid kh
  clear kg kh
  go_enter Try.func10, Try.ntmps10
  go_wp2_with fail
  refine (KG.out _).mono ?_
  rintro e w1 ⟨rfl, hB1⟩
  have r0 := (Blk.at_ ((w.alloc (.cells #[.int .i64 N, .slice A l c] 30)).alloc (.cells #[.int .i64 M, .slice B k d] 30)) (w.heap.size + 1 + 1) 30 #[.int .i64 0, .slice none 0 0] (by simp)).next hB1
  have p1 := ((Blk.at_ (w.alloc (.cells #[.int .i64 N, .slice A l c] 30)) (w.heap.size + 1) 30 #[.int .i64 M, .slice B k d] (by simp)).alloc (.cells #[.int .i64 0, .slice none 0 0] 30)).next hB1
  have b0 := below_next ((((Below.refl w.heap.size w).alloc (Nat.le_refl _) (.cells #[.int .i64 N, .slice A l c] 30)).alloc (by simp) (.cells #[.int .i64 M, .slice B k d] 30)).alloc (by simp; omega) (.cells #[.int .i64 0, .slice none 0 0] 30)) hB1
  have c1 := p1.cell 0
  have c2 := p1.cell 1
  simp only [List.getElem?_toArray, List.getElem?_cons_zero, List.getElem?_cons_succ] at c1 c2
  have R0 := Lib.hid r0
  have B0 := Lib.hid b0
  clear p1 b0 r0 hB1
  go_wp2_with fail
  refine (KH.out _).mono ?_
  rintro e w2 ⟨rfl, hB2⟩
  have r0 := R0.out.next hB2
  have b0 := below_next B0.out hB2
  have d0 := r0.cell 0
  have d1 := r0.cell 1
  have f0 := r0.frozen 0
  have f1 := r0.frozen 1
  simp only [List.getElem?_toArray, List.getElem?_cons_zero, List.getElem?_cons_succ] at d0 d1
  have z1 := (r0.set_ 0 (.int .i64 0)).set_ 1 (.slice none 0 0)
  have Z1 := Lib.hid z1
  have B1 := Lib.hid b0
  clear z1 b0 r0 hB2 c1 c2
  go_wp2_with fail
  refine bodyPost_ret (v := .tuple #[.agg #[.int .i64 0, .slice none 0 0], .bool false, .int .i64 8]) (mul_results Z1.out _ _ _ rfl rfl rfl) rfl ⟨rfl, ?_⟩
  exact (B1.out.setCell (by simp; omega) _).setCell (by simp; omega) _

set_option maxRecDepth 100000 in
set_option maxHeartbeats 2000000 in
theorem Mul_bad3 (N M : Int) (A B : Option Addr) (l k c d : Nat) (hl : l ≤ 9223372036854775807) (hk : k ≤ 9223372036854775807) (hgood : goodB N l = true) (hgood2 : goodB M k = true) (hne : N ≠ M) (w : World) :
    Calls Try.prog 10 #[.agg #[.int .i64 N, .slice A l c], .agg #[.int .i64 M, .slice B k d]] w fun e w' => e = .returned (.tuple #[.agg #[.int .i64 0, .slice none 0 0], .bool false, .int .i64 8]) ∧ Below w.heap.size w w' := by
  have kg := fun W => Good_any N A l c W hl
  rw [hgood] at kg
  have KG := Lib.hid kg
  have kh := fun W => Good_any M B k d W hk
  rw [hgood2] at kh
  have KH := Lib.hid kh
  have tn : (N != M) = true := by simp [hne]
  clear kg kh
  go_enter Try.func10, Try.ntmps10
  go_wp2_with fail
  refine (KG.out _).mono ?_
  rintro e w1 ⟨rfl, hB1⟩
  have r0 := (Blk.at_ ((w.alloc (.cells #[.int .i64 N, .slice A l c] 30)).alloc (.cells #[.int .i64 M, .slice B k d] 30)) (w.heap.size + 1 + 1) 30 #[.int .i64 0, .slice none 0 0] (by simp)).next hB1
  have p0 := (((Blk.new w 30 #[.int .i64 N, .slice A l c]).alloc (.cells #[.int .i64 M, .slice B k d] 30)).alloc (.cells #[.int .i64 0, .slice none 0 0] 30)).next hB1
  have p1 := ((Blk.at_ (w.alloc (.cells #[.int .i64 N, .slice A l c] 30)) (w.heap.size + 1) 30 #[.int .i64 M, .slice B k d] (by simp)).alloc (.cells #[.int .i64 0, .slice none 0 0] 30)).next hB1
  have b0 := below_next ((((Below.refl w.heap.size w).alloc (Nat.le_refl _) (.cells #[.int .i64 N, .slice A l c] 30)).alloc (by simp) (.cells #[.int .i64 M, .slice B k d] 30)).alloc (by simp; omega) (.cells #[.int .i64 0, .slice none 0 0] 30)) hB1
  have c1 := p1.cell 0
  have c2 := p1.cell 1
  simp only [List.getElem?_toArray, List.getElem?_cons_zero, List.getElem?_cons_succ] at c1 c2
  have R0 := Lib.hid r0
  have P0 := Lib.hid p0
  have P1 := Lib.hid p1
  have B0 := Lib.hid b0
  clear p0 p1 b0 r0 hB1
  go_wp2_with fail
  refine (KH.out _).mono ?_
  rintro e w2 ⟨rfl, hB2⟩
  have r0 := R0.out.next hB2
  have b0 := below_next B0.out hB2
  have d0 := r0.cell 0
  have d1 := r0.cell 1
  have f0 := r0.frozen 0
  have f1 := r0.frozen 1
  clear c1 c2
  have c0 := (P0.out.next hB2).cell 0
  have c1 := (P1.out.next hB2).cell 0
  simp only [List.getElem?_toArray, List.getElem?_cons_zero, List.getElem?_cons_succ] at c0 c1 d0 d1
  have z1 := (r0.set_ 0 (.int .i64 0)).set_ 1 (.slice none 0 0)
  have Z1 := Lib.hid z1
  have B1 := Lib.hid b0
  clear z1 b0 r0 hB2
  go_wp2_with fail
  refine bodyPost_ret (v := .tuple #[.agg #[.int .i64 0, .slice none 0 0], .bool false, .int .i64 8]) (mul_results Z1.out _ _ _ rfl rfl rfl) rfl ⟨rfl, ?_⟩
  exact (B1.out.setCell (by simp; omega) _).setCell (by simp; omega) _

theorem Mul_bad (N M : Int) (A B : Option Addr) (l k c d : Nat) (hl : l ≤ 9223372036854775807) (hk : k ≤ 9223372036854775807) (h : mulB N l M k = false) (w : World) :
    Calls Try.prog 10 #[.agg #[.int .i64 N, .slice A l c], .agg #[.int .i64 M, .slice B k d]] w fun e w' => e = .returned (.tuple #[.agg #[.int .i64 0, .slice none 0 0], .bool false, .int .i64 8]) ∧ Below w.heap.size w w' := by
  cases h1 : goodB N l with
  | false => exact Mul_bad1 N M A B l k c d hl h1 w
  | true =>
    cases h2 : goodB M k with
    | false => exact Mul_bad2 N M A B l k c d hl hk h1 h2 w
    | true =>
      refine Mul_bad3 N M A B l k c d hl hk h1 h2 ?_ w
      intro e
      simp [mulB, h1, h2] at h
      exact h e
end Go.Proofs.Ytnhklfdchfndjaa.Mt
