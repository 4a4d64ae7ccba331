/- What mat answers is a list of its own, whatever it is asked. -/
import Derived.Test.YtnhklfdchfndjaaSolve
import Derived.Test.YtnhklfdchfndjaaTimes
import Derived.Test.YtnhklfdchfndjaaMatBad2
import Derived.Test.YtnhklfdchfndjaaMatIn
import Derived.Test.YtnhklfdchfndjaaScrib
set_option linter.unusedVariables false
namespace Go.Proofs.Ytnhklfdchfndjaa.Mt
open Go.RowKit Go.Proofs.Ytnhklfdchfndjaa Fx Sc

set_option maxRecDepth 100000 in
set_option maxHeartbeats 2000000 in
theorem Times_bad (N : Int) (A B : Option Addr) (l c m d : Nat) (hl : l ≤ 9223372036854775807) (hm : m ≤ 9223372036854775807) (hbad : goodB N l = false ∨ (m : Int) ≠ N) (w : World) :
    Calls Try.prog 11 #[.agg #[.int .i64 N, .slice A l c], .slice B m d] w fun e w' => e = .returned (.tuple #[.slice none 0 0, .bool false, .int .i64 8]) ∧ Below w.heap.size w w' := by
  have kg := fun W => Good_any N A l c W hl
  have KG := Lib.hid kg
  clear kg
  by_cases hg : goodB N l = true
  · have hne : ((m : Int) != N) = true := by rw [bne_iff_ne]; exact hbad.resolve_left (by rw [hg]; simp)
    go_enter Try.func11, Try.ntmps11
    go_wp2_with fail
    refine (KG.out _).mono ?_
    rintro e w1 ⟨rfl, hB1⟩
    have r0 := (Blk.new w 30 #[.int .i64 N, .slice A l c]).next hB1
    have b0 := below_next ((Below.refl w.heap.size w).alloc (Nat.le_refl _) (.cells #[.int .i64 N, .slice A l c] 30)) hB1
    have d0 := r0.cell 0
    simp only [List.getElem?_toArray, List.getElem?_cons_zero, List.getElem?_cons_succ] at d0
    have B0 := Lib.hid b0
    rw [hg]
    clear r0 b0 hB1
    go_wp2_with fail
    refine bodyPost_ret (v := .tuple #[.slice none 0 0, .bool false, .int .i64 8]) (by simp [results, Try.results11, go_sem]) rfl ⟨rfl, B0.out⟩
  · have hg : goodB N l = false := by simpa using hg
    go_enter Try.func11, Try.ntmps11
    go_wp2_with fail
    refine (KG.out _).mono ?_
    rintro e w1 ⟨rfl, hB1⟩
    have b0 := below_next ((Below.refl w.heap.size w).alloc (Nat.le_refl _) (.cells #[.int .i64 N, .slice A l c] 30)) hB1
    have B0 := Lib.hid b0
    rw [hg]
    clear b0 hB1
    go_wp2_with fail
    refine bodyPost_ret (v := .tuple #[.slice none 0 0, .bool false, .int .i64 8]) (by simp [results, Try.results11, go_sem]) rfl ⟨rfl, B0.out⟩

set_option maxRecDepth 100000 in
set_option maxHeartbeats 2000000 in
theorem Solve_bad (N : Int) (A B : Option Addr) (l c m d : Nat) (hl : l ≤ 9223372036854775807) (hm : m ≤ 9223372036854775807) (hbad : goodB N l = false ∨ (m : Int) ≠ N) (w : World) :
    Calls Try.prog 13 #[.agg #[.int .i64 N, .slice A l c], .slice B m d] w fun e w' => e = .returned (.tuple #[.slice none 0 0, .bool false, .int .i64 8]) ∧ Below w.heap.size w w' := by
  have kg := fun W => Good_any N A l c W hl
  have KG := Lib.hid kg
  clear kg
  by_cases hg : goodB N l = true
  · have hne : ((m : Int) != N) = true := by rw [bne_iff_ne]; exact hbad.resolve_left (by rw [hg]; simp)
    go_enter Try.func13, Try.ntmps13
    go_wp2_with fail
    refine (KG.out _).mono ?_
    rintro e w1 ⟨rfl, hB1⟩
    have r0 := (Blk.new w 30 #[.int .i64 N, .slice A l c]).next hB1
    have b0 := below_next ((Below.refl w.heap.size w).alloc (Nat.le_refl _) (.cells #[.int .i64 N, .slice A l c] 30)) hB1
    have d0 := r0.cell 0
    simp only [List.getElem?_toArray, List.getElem?_cons_zero, List.getElem?_cons_succ] at d0
    have B0 := Lib.hid b0
    rw [hg]
    clear r0 b0 hB1
    go_wp2_with fail
    refine bodyPost_ret (v := .tuple #[.slice none 0 0, .bool false, .int .i64 8]) (by simp [results, Try.results13, go_sem]) rfl ⟨rfl, B0.out⟩
  · have hg : goodB N l = false := by simpa using hg
    go_enter Try.func13, Try.ntmps13
    go_wp2_with fail
    refine (KG.out _).mono ?_
    rintro e w1 ⟨rfl, hB1⟩
    have b0 := below_next ((Below.refl w.heap.size w).alloc (Nat.le_refl _) (.cells #[.int .i64 N, .slice A l c] 30)) hB1
    have B0 := Lib.hid b0
    rw [hg]
    clear b0 hB1
    go_wp2_with fail
    refine bodyPost_ret (v := .tuple #[.slice none 0 0, .bool false, .int .i64 8]) (by simp [results, Try.results13, go_sem]) rfl ⟨rfl, B0.out⟩

/-- a list of its own, in a block from lo on -/
def Ans (W : World) (lo : Nat) (v : Value) : Prop := v = .slice none 0 0 ∨ ∃ g n cap, v = .slice (some ⟨g, 0, none⟩) n cap ∧ lo ≤ g ∧ Lst 3 W g n cap ∧ n ≤ 1000
section
variable {W W' : World} {lo : Nat} {v : Value}
theorem Ans.nil (W : World) (lo : Nat) : Ans W lo (.slice none 0 0) := .inl rfl
theorem Ans.shape (h : Ans W lo v) : ∃ A n c, v = .slice A n c := by
  rcases h with rfl | ⟨g, n, cap, rfl, _⟩
  · exact ⟨_, _, _, rfl⟩
  · exact ⟨_, _, _, rfl⟩
theorem Ans.lt (h : Ans W lo v) {k : Nat} (hk : v.ownBlock = some k) : lo ≤ k ∧ k < W.heap.size := by
  rcases h with rfl | ⟨g, n, cap, rfl, hg, hL, _⟩
  · cases hk
  · cases hk; exact ⟨hg, hL.lt⟩
theorem Ans.grown {row : Option Nat} (h : Ans W lo v) (hb : W.grownBy W' row) (hne : ∀ k, v.ownBlock = some k → row ≠ some k) : Ans W' lo v := by
  rcases h with rfl | ⟨g, n, cap, rfl, hg, hL, hn⟩
  · exact .inl rfl
  · exact .inr ⟨g, n, cap, rfl, hg, hL.grown hb (fun e => hne g rfl e.symm), hn⟩
theorem Ans.next (h : Ans W lo v) (hb : Below W.heap.size W W') : Ans W' lo v := h.grown (row := none) (grown_below hb) (fun k _ e => by cases e)
theorem Ans.alloc (h : Ans W lo v) (o : Obj) : Ans (W.alloc o) lo v := h.next ((Below.refl _ _).alloc (Nat.le_refl _) _)
theorem Ans.of_blk {g n : Nat} {f : Nat → Int} (h : Blk W g 3 (tabN n f)) (hg : lo ≤ g) (hn : n ≤ 1000) : Ans W lo (.slice (some ⟨g, 0, none⟩) n n) :=
  .inr ⟨g, n, n, rfl, hg, ⟨_, h, Nat.le_refl _, .inr ⟨rfl, by simp [tabN]⟩⟩, hn⟩
theorem Ans.of_own {n : Nat} {xs : List Value} (h : W.ownsRow lo 3 1 v n xs) (hn : n ≤ 1000) : Ans W lo v := by
  obtain ⟨A, c, rfl⟩ := own_shape h
  rcases lst_own h with ⟨rfl, rfl, rfl⟩ | ⟨g, rfl, hg, hL⟩
  · exact .inl rfl
  · exact .inr ⟨g, n, c, rfl, hg, hL, hn⟩
theorem Ans.of_rowX {g n : Nat} {X : Nat → Int} (h : RowX W g n X) (hg : lo ≤ g) (hn : n ≤ 1000) : Ans W lo (.slice (some ⟨g, 0, none⟩) n n) := by
  obtain ⟨cur, hb, hc⟩ := h
  refine .inr ⟨g, n, n, rfl, hg, ⟨cur, hb, Nat.le_refl _, .inr ⟨rfl, ?_⟩⟩, hn⟩
  rcases Nat.eq_zero_or_pos n with h0 | h0
  · omega
  · have := (Array.getElem?_eq_some_iff.1 (hc (n - 1) (by omega))).1
    omega
end
theorem scribble_ans {lo : Nat} {v : Value} (w : World) (h : Ans w lo v) : Calls Try.prog 14 #[v] w fun e w' => e = .returned (.tuple #[]) ∧ w.grownBy w' v.ownBlock := by
  rcases h with rfl | ⟨g, n, cap, rfl, hg, hL, hn⟩
  · refine (scribble_nil w).mono ?_
    rintro e w' ⟨rfl, hB⟩
    exact ⟨rfl, grown_below hB⟩
  · exact scribble_any g n cap w hL (by omega)

/-- a list of numbers that is read -/
def Rd (W : World) (v : Value) (ys : List Int) : Prop := ∃ A n c, v = .slice A n c ∧ Ints W .i64 A n ys ∧ (A = none → n = 0 ∧ c = 0) ∧ n ≤ 1000 ∧ n ≤ c

section
variable (N : Int) (A : Option Addr) (l c : Nat) (zs : List Int) (w : World) (h : Ints w .i64 A l zs) (hz : ∀ z ∈ zs, In z) (hl : l ≤ 9223372036854775807)
include h hz hl
theorem good_split : (goodB N l = true ∧ ∃ n : Nat, N = n ∧ l = n * n ∧ 1 ≤ n ∧ n ≤ 6 ∧ n * n ≤ 36 ∧ 0 < n * n ∧ Nums w A (n * n) (fun j => zs.getD j 0) ∧ (∀ t, In (zs.getD t 0))) ∨ goodB N l = false := by
  cases hg : goodB N l with
  | false => exact .inr rfl
  | true =>
    obtain ⟨k, rfl, rfl, h1, h6⟩ := goodK hg
    exact .inl ⟨rfl, k, rfl, rfl, h1, h6, Nat.le_trans (Nat.mul_le_mul h6 h6) (by omega), Nat.mul_pos h1 h1, nums_ints h (Nat.mul_pos h1 h1), fun t => Go.Proofs.Ytnhklfdchfndjaa.Mt.getD_in hz t⟩
theorem Turn_ans : Calls Try.prog 9 #[.agg #[.int .i64 N, .slice A l c]] w fun e w' => ∃ M v er, e = .returned (.tuple #[.agg #[.int .i64 M, v], .int .i64 er]) ∧ Ans w' w.heap.size v ∧ (∃ ys, Rd w' v ys) ∧ Below w.heap.size w w' := by
  rcases good_split N A l zs w h hz hl with ⟨_, n, rfl, rfl, h1, h6, h36, hp, hN, hi⟩ | hg
  · refine (Turn_any n c A _ h1 h6 w hN).mono ?_
    rintro e w' ⟨g, rfl, hg, hb, hB⟩
    refine ⟨n, _, 0, rfl, Ans.of_blk hb hg (by omega), ⟨(List.range (n * n)).map (turnF n fun j => zs.getD j 0), _, _, _, rfl, blkInts hb (by simp) (fun j hj => by simp [List.getD, hj]), (fun e => by cases e), by omega, Nat.le_refl _⟩, hB⟩
  · refine (Turn_bad N A l c hl hg w).mono ?_
    rintro e w' ⟨rfl, hB⟩
    exact ⟨0, _, 8, rfl, Ans.nil _ _, ⟨[], none, 0, 0, rfl, Ints.nil _ _ _, fun _ => ⟨rfl, rfl⟩, by omega, by omega⟩, hB⟩
theorem Mul_ans : Calls Try.prog 10 #[.agg #[.int .i64 N, .slice A l c], .agg #[.int .i64 N, .slice A l c]] w fun e w' => ∃ M v o er, e = .returned (.tuple #[.agg #[.int .i64 M, v], .bool o, .int .i64 er]) ∧ Ans w' w.heap.size v ∧ Below w.heap.size w w' := by
  rcases good_split N A l zs w h hz hl with ⟨_, n, rfl, rfl, h1, h6, h36, hp, hN, hi⟩ | hg
  · refine (Mul_any n c c A A _ _ h1 h6 w hN hN (fun t _ => hi t) (fun t _ => hi t)).mono ?_
    rintro e w' ⟨g, rfl, hg, hb, hB⟩
    exact ⟨n, _, _, 0, rfl, Ans.of_blk hb hg (by omega), hB⟩
  · refine (Mul_bad1 N N A A l l c c hl hg w).mono ?_
    rintro e w' ⟨rfl, hB⟩
    exact ⟨0, _, false, 8, rfl, Ans.nil _ _, hB⟩
theorem Factor_ans : Calls Try.prog 12 #[.agg #[.int .i64 N, .slice A l c]] w fun e w' => ∃ M v d o er, e = .returned (.tuple #[.agg #[.int .i64 M, v], d, .bool o, .int .i64 er]) ∧ Ans w' w.heap.size v ∧ Ans w' w.heap.size d ∧ (∀ k, v.ownBlock = some k → d.ownBlock ≠ some k) ∧ Below w.heap.size w w' := by
  rcases good_split N A l zs w h hz hl with ⟨_, n, rfl, rfl, h1, h6, h36, hp, hN, hi⟩ | hg
  · refine (Factor_any n c A _ h1 h6 w hN (fun t _ => hi t)).mono ?_
    rintro e w' (⟨_, g, v, o, rfl, hg, hb, hd, hv, hB⟩ | ⟨_, rfl, hB⟩)
    · exact ⟨n, _, v, o, 0, rfl, Ans.of_blk hb hg (by omega), Ans.of_own hd (by omega), fun k hk => by cases hk; exact hv, hB⟩
    · exact ⟨0, _, _, false, 9, rfl, Ans.nil _ _, Ans.nil _ _, (fun k hk => by cases hk), hB⟩
  · refine (Factor_bad N A l c hl hg w).mono ?_
    rintro e w' ⟨rfl, hB⟩
    exact ⟨0, _, _, false, 8, rfl, Ans.nil _ _, Ans.nil _ _, (fun k hk => by cases hk), hB⟩
variable (B : Option Addr) (m d : Nat) (vs : List Int) (hB : Ints w .i64 B m vs) (hv : ∀ z ∈ vs, In z) (hm : m ≤ 9223372036854775807)
include hB hv hm
theorem Times_ans : Calls Try.prog 11 #[.agg #[.int .i64 N, .slice A l c], .slice B m d] w fun e w' => ∃ v o er, e = .returned (.tuple #[v, .bool o, .int .i64 er]) ∧ Ans w' w.heap.size v ∧ Below w.heap.size w w' := by
  by_cases hmn : (m : Int) = N
  · rcases good_split N A l zs w h hz hl with ⟨_, n, rfl, rfl, h1, h6, h36, hp, hN, hi⟩ | hg
    · obtain rfl : m = n := by omega
      refine (Times_any m c d A B _ vs h1 h6 w hN (fun t _ => hi t) hB (fun j => Go.Proofs.Ytnhklfdchfndjaa.Mt.getD_in hv j)).mono ?_
      rintro e w' ⟨v, rfl, hd, hB⟩
      exact ⟨v, _, 0, rfl, Ans.of_own hd (by omega), hB⟩
    · refine (Times_bad N A B l c m d hl hm (.inl hg) w).mono ?_
      rintro e w' ⟨rfl, hB⟩
      exact ⟨_, false, 8, rfl, Ans.nil _ _, hB⟩
  · refine (Times_bad N A B l c m d hl hm (.inr hmn) w).mono ?_
    rintro e w' ⟨rfl, hB⟩
    exact ⟨_, false, 8, rfl, Ans.nil _ _, hB⟩
theorem Solve_ans : Calls Try.prog 13 #[.agg #[.int .i64 N, .slice A l c], .slice B m d] w fun e w' => ∃ v o er, e = .returned (.tuple #[v, .bool o, .int .i64 er]) ∧ Ans w' w.heap.size v ∧ Below w.heap.size w w' := by
  by_cases hmn : (m : Int) = N
  · rcases good_split N A l zs w h hz hl with ⟨_, n, rfl, rfl, h1, h6, h36, hp, hN, hi⟩ | hg
    · obtain rfl : m = n := by omega
      refine (Solve_any m c d A B _ vs h1 h6 w hN (fun t _ => hi t) hB hv).mono ?_
      rintro e w' (⟨_, gx, o, X, rfl, hg, hX, _, hB⟩ | ⟨_, rfl, hB⟩)
      · exact ⟨_, o, 0, rfl, Ans.of_rowX hX hg (by omega), hB⟩
      · exact ⟨_, false, 9, rfl, Ans.nil _ _, hB⟩
    · refine (Solve_bad N A B l c m d hl hm (.inl hg) w).mono ?_
      rintro e w' ⟨rfl, hB⟩
      exact ⟨_, false, 8, rfl, Ans.nil _ _, hB⟩
  · refine (Solve_bad N A B l c m d hl hm (.inr hmn) w).mono ?_
    rintro e w' ⟨rfl, hB⟩
    exact ⟨_, false, 8, rfl, Ans.nil _ _, hB⟩
end
end Go.Proofs.Ytnhklfdchfndjaa.Mt
