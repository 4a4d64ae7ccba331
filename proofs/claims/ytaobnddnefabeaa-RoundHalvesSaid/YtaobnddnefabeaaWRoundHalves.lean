/- The walk of RoundHalves: a round halves how far the good clocks are apart. -/
import Derived.Test.YtaobnddnefabeaaSpread
import Derived.Deep.QuietTactic
import Derived.Deep.RegionHeld3
import Derived.Deep.DrawnRows
set_option linter.unusedVariables false
namespace Go.Proofs.Ytaobnddnefabeaa.lawRoundHalves
open Go.RowKit Go.Proofs.Ytaobnddnefabeaa Md

theorem okR_five : okR (fun _ => 5) (fun _ => 0) := ⟨fun _ _ => by simp, fun _ _ => by simp⟩
theorem five_one : newR (fun _ => 5) (fun _ => 0) (-1) 1 = 5 := by
  have h := newR_in (o := fun _ => 5) (l := fun _ => 0) (bad := -1) (lo := 5) (hi := 5) (fun k _ _ => by simp) (i := 1) (by omega) (by omega)
  omega
theorem newR_bd {o l : Nat → Int} {bad : Int} (h : okR o l) {k : Nat} (hk : k < 4) : -1099511627776 ≤ newR o l bad k ∧ newR o l bad k ≤ 1099511627776 := by
  by_cases e : (k : Int) = bad
  · rw [newR, if_pos e]; exact h.1 k hk
  · exact newR_in (lo := -1099511627776) (hi := 1099511627776) (fun j hj _ => h.1 j hj) hk e
theorem nine {W : World} {g : Nat} (h : Blk W g 60 (i4 (newR (fun _ => 5) (fun _ => 0) (-1)))) : W.cell? ⟨g, 1, none⟩ = some (.int .i64 5) := by
  have e : W.cell? ⟨g, 1, none⟩ = some (.int .i64 (newR (fun _ => 5) (fun _ => 0) (-1) 1)) := h.cell 1
  rw [e, five_one]
def RelO (o x : Nat → Int) (w : World) (g : Nat) (i : Value) (W : World) : Prop := ∃ k : Nat, k ≤ 4 ∧ i = .int .i64 k ∧ Blk W w.heap.size 60 (i4 o) ∧ Blk W g 60 (i4 x) ∧ Below w.heap.size w W
def RelK (o : Nat → Int) (bad : Int) (w : World) (i lo hi : Value) (W : World) : Prop := ∃ (k : Nat) (a b : Int), k ≤ 4 ∧ i = .int .i64 k ∧ lo = .int .i64 a ∧ hi = .int .i64 b ∧ (∀ j, j < k → (j : Int) ≠ bad → a ≤ o j ∧ o j ≤ b) ∧ Below w.heap.size w W

set_option maxRecDepth 100000 in
set_option maxHeartbeats 4000000 in
theorem walk1 (o l : Nat → Int) (bad : Int) (w : World) :
    Calls Try.prog 13 #[.agg (i4 o), .int .i64 bad, .agg (i4 l)] w fun e w' => e = .returned (.bool true) ∧ Below w.heap.size w w' := by
  have HO := Lib.hid ((Blk.new w 60 (i4 o)).alloc (.cells (i4 l) 60))
  have HL := Lib.hid (Blk.at_ (w.alloc (.cells (i4 o) 60)) (w.heap.size + 1) 60 (i4 l) (by simp))
  have HB := Lib.hid (((Below.refl w.heap.size w).alloc (Nat.le_refl _) (.cells (i4 o) 60)).alloc (by simp) (.cells (i4 l) 60))
  go_enter Try.func13, Try.ntmps13
  go_wp2_with (first
    | (refine wpList_load_row rfl 60 (.tmp 3) rfl w.heap.size rfl _ (i4 o) (0, 0) _ HO.out Try.underlying60 rfl (by kernel_rfl) ?_)
    | (refine wpList_load_row rfl 60 (.tmp 5) rfl (w.heap.size + 1) rfl _ (i4 l) (0, 0) _ HL.out Try.underlying60 rfl (by kernel_rfl) ?_))
  refine (Round_any o l bad _).mono ?_
  rintro e w1 ⟨h, hB1⟩
  have HO1 := Lib.hid (HO.out.next hB1)
  have HB1 := Lib.hid (below_next HB.out hB1)
  clear hB1 HO HL HB
  rcases h with ⟨hok, rfl⟩ | ⟨hno, rfl⟩
  · go_wp2_with (refine wpList_store_blk rfl 60 (.tmp 7) (.tmp 24) rfl w1.heap.size _ _ (i4 (newR o l bad)) rfl rfl (Blk.new w1 60 (i4 fun _ => 0)) rfl (by kernel_rfl) (i4_one _) ?_; intro w2 hX2 hg2; have HX2 := Lib.hid hX2; have HO2 := Lib.hid ((HO1.out.alloc _).grown hg2 (by have := HO1.out.lt; simp; omega)); have HB2 := Lib.hid ((HB1.out.alloc HB1.out.size _).grown hg2 (by have := HB1.out.size; simp; omega) (fun j hj => by cases hj; exact HB1.out.size)); clear hX2 hg2)
    refine (Round_any (fun _ => 5) (fun _ => 0) (-1) _).mono ?_
    rintro e w3 ⟨h, hB3⟩
    have HO3 := Lib.hid (HO2.out.next hB3)
    have HX3 := Lib.hid (HX2.out.next hB3)
    have HB3 := Lib.hid (below_next HB2.out hB3)
    clear hB3 HO2 HX2 HB2
    rcases h with ⟨_, rfl⟩ | ⟨h, rfl⟩
    rotate_left
    · exact absurd okR_five h
    go_wp2_with (first
      | (refine wpList_store_blk rfl 60 (.tmp 9) (.tmp 30) rfl w3.heap.size _ _ (i4 (newR (fun _ => 5) (fun _ => 0) (-1))) rfl rfl (Blk.new w3 60 (i4 fun _ => 0)) rfl (by kernel_rfl) (i4_one _) ?_; intro w4 hN4 hg4; have c9 := nine hN4; have HO4 := Lib.hid ((HO3.out.alloc _).grown hg4 (by have := HO3.out.lt; simp; omega)); have HX4 := Lib.hid ((HX3.out.alloc _).grown hg4 (by have := HX3.out.lt; simp; omega)); have HB4 := Lib.hid ((HB3.out.alloc HB3.out.size _).grown hg4 (by have := HB3.out.size; simp; omega) (fun j hj => by cases hj; exact HB3.out.size)); clear hN4 hg4)
      | (refine wpList_load_row rfl 60 (.tmp 3) rfl w.heap.size rfl _ (i4 o) (0, 0) _ HO4.out Try.underlying60 rfl (by kernel_rfl) ?_))
    refine (Spread_any o bad _ (fun k hk => by have := hok.1 k hk; omega)).mono ?_
    rintro e w5 ⟨sa, hsa, sa1, sa2, rfl, hB5⟩
    have HO5 := Lib.hid (HO4.out.next hB5)
    have HX5 := Lib.hid (HX4.out.next hB5)
    have HB5 := Lib.hid (below_next HB4.out hB5)
    clear hB5 HO4 HX4 HB4 HO3 HX3 HB3 HO1 HB1 c9
    go_wp2_with (refine wpList_load_row rfl 60 (.tmp 7) rfl w1.heap.size rfl _ (i4 (newR o l bad)) (0, 0) _ HX5.out Try.underlying60 rfl (by kernel_rfl) ?_)
    refine (Spread_any (newR o l bad) bad _ (fun k hk => by have := newR_bd (bad := bad) hok hk; omega)).mono ?_
    rintro e w6 ⟨sb, hsb, sb1, sb2, rfl, hB6⟩
    have HO6 := Lib.hid (HO5.out.next hB6)
    have HX6 := Lib.hid (HX5.out.next hB6)
    have HB6 := Lib.hid (below_next HB5.out hB6)
    have t9 : decide (2 * sb ≤ sa + 1) = true := decide_eq_true (spr_halves hsa hsb)
    clear hsa hsb hB6 HO5 HX5 HB5
    go_wp2_with fail
    go_loopw [15] (fun i W => RelO o (newR o l bad) w w1.heap.size i W) (fun i _ => 4 - (intOf i).toNat)
    case atStart => exact ⟨0, by omega, rfl, HO6.out, HX6.out, HB6.out⟩
    case round =>
      obtain ⟨k, hk, rfl, hO, hX, hB⟩ := hrel
      clear HO6 HX6 HB6
      generalize wr = w7 at *
      by_cases hk4 : k < 4
      · have co := hO.cell k
        rw [i4_get o hk4] at co
        have cx := hX.cell k
        rw [i4_get _ hk4] at cx
        have HO := Lib.hid hO
        have HX := Lib.hid hX
        have HB := Lib.hid hB
        clear hO hX hB
        by_cases hkb : (k : Int) = bad
        · have t1 : ((k : Int) == bad) = true := by simpa using hkb
          rw [newR, if_pos hkb] at cx
          have t2 : (o k != o k) = false := by simp
          clear hkb
          have z1 : (0 : Int) ≤ (k : Int) := by omega
          have z3 : (k : Int) < 4 := by omega
          go_wp2_with fail
          go_region_held3 (fun w' => w'.cell? ⟨w.heap.size, k, none⟩ = some (.int .i64 (o k)) ∧ w'.cell? ⟨w1.heap.size, k, none⟩ = some (.int .i64 (o k))) (exact ⟨co, cx⟩) (fail)
          go_wp2_with fail
          go_roundw
          case rel => exact ⟨k + 1, by omega, by go_num, HO.out.drew, HX.out.drew, HB.out.drew⟩
          case measure => simp [intOf]; omega
        · have t1 : ((k : Int) == bad) = false := by simpa using hkb
          have HIN := Lib.hid (fun lo hi (h : Wide o bad lo hi) => newR_in (l := l) h hk4 hkb)
          have z1 : (0 : Int) ≤ (k : Int) := by omega
          have z3 : (k : Int) < 4 := by omega
          clear hkb
          go_wp2_with fail
          go_region_held3 (fun w' => w'.cell? ⟨w.heap.size, k, none⟩ = some (.int .i64 (o k))) (exact co) (fail)
          have HO := Lib.hid HO.out.drew
          have HX := Lib.hid HX.out.drew
          have HB := Lib.hid HB.out.drew
          clear co cx
          generalize w7.drew = w8 at *
          go_wp2_with fail
          go_loopw [18, 16, 17] (fun i lo hi W => RelK o bad w8 i lo hi W) (fun i _ _ _ => 4 - (intOf i).toNat)
          case atStart => exact ⟨0, o k, o k, by omega, rfl, rfl, rfl, fun j hj => by omega, Below.refl _ _⟩
          case round =>
            obtain ⟨q, a, b, hq, rfl, rfl, rfl, hR, hF⟩ := hrel
            generalize wr = w9 at *
            by_cases hq4 : q < 4
            · have cq := (HO.out.next hF).cell q
              rw [i4_get o hq4] at cq
              have HF := Lib.hid hF
              have z5 : (0 : Int) ≤ (q : Int) := by omega
              have z6 : (q : Int) < 4 := by omega
              clear hF
              by_cases hqb : (q : Int) = bad
              · have t2 : ((q : Int) != bad) = false := by simpa using hqb
                have HN : Hid (∀ j, j < q + 1 → (j : Int) ≠ bad → a ≤ o j ∧ o j ≤ b) := Lib.hid (fun j hj hn => by rcases Nat.lt_or_ge j q with h | h; exact hR j h hn; obtain rfl : j = q := (by omega); exact absurd hqb hn)
                clear hqb hR
                go_wp2_with fail
                go_roundw
                case rel => exact ⟨q + 1, a, b, by omega, by go_num, rfl, rfl, HN.out, HF.out⟩
                case measure => simp [intOf]; omega
              · have t2 : ((q : Int) != bad) = true := by simpa using hqb
                have HR := Lib.hid hR
                clear hqb hR
                go_wp2_with fail
                go_region_held3 (fun w' => w'.cell? ⟨w.heap.size, q, none⟩ = some (.int .i64 (o q))) (exact cq) (fail)
                go_wp2_with fail
                all_goals
                  go_roundw
                  case rel => exact ⟨q + 1, min a (o q), max b (o q), by omega, by go_num, rfl, rfl, fun j hj hn => (by rcases Nat.lt_or_ge j q with h | h; (have := HR.out j h hn; omega); obtain rfl : j = q := (by omega); omega), HF.out.trans ((Below.refl _ _).drew)⟩
                  case measure => simp [intOf]; omega
            · obtain rfl : q = 4 := by omega
              have HH := Lib.hid (HIN.out a b (fun j hj hn => hR j hj hn))
              have t2 : decide (newR o l bad k < a) = false := decide_eq_false (by have := HH.out; omega)
              have t3 : decide (newR o l bad k > b) = false := decide_eq_false (by have := HH.out; omega)
              have cx := (HX.out.next hF).cell k
              rw [i4_get _ hk4] at cx
              have HF := Lib.hid hF
              clear hR hF
              go_wp2_with fail
              go_roundw
              case rel => exact ⟨k + 1, by omega, by go_num, HO.out.next HF.out, HX.out.next HF.out, below_next HB.out HF.out⟩
              case measure => simp [intOf]; omega
      · obtain rfl : k = 4 := by omega
        go_wp2_with fail
        go_ret
        exact ⟨rfl, hB⟩
  · go_wp2_with (refine wpList_store_blk rfl 60 (.tmp 7) (.tmp 24) rfl w1.heap.size _ _ (i4 fun _ => 0) rfl rfl (Blk.new w1 60 (i4 fun _ => 0)) rfl (by kernel_rfl) (i4_one _) ?_; intro w2 hX2 hg2; have HB2 := Lib.hid ((HB1.out.alloc HB1.out.size _).grown hg2 (by have := HB1.out.size; simp; omega) (fun j hj => by cases hj; exact HB1.out.size)); clear hX2 hg2)
    refine (Round_any (fun _ => 5) (fun _ => 0) (-1) _).mono ?_
    rintro e w3 ⟨h, hB3⟩
    have HB3 := Lib.hid (below_next HB2.out hB3)
    clear hB3 HB2
    rcases h with ⟨_, rfl⟩ | ⟨h, rfl⟩
    rotate_left
    · exact absurd okR_five h
    go_wp2_with (refine wpList_store_blk rfl 60 (.tmp 9) (.tmp 30) rfl w3.heap.size _ _ (i4 (newR (fun _ => 5) (fun _ => 0) (-1))) rfl rfl (Blk.new w3 60 (i4 fun _ => 0)) rfl (by kernel_rfl) (i4_one _) ?_; intro w4 hN4 hg4; have c9 := nine hN4; have HB4 := Lib.hid ((HB3.out.alloc HB3.out.size _).grown hg4 (by have := HB3.out.size; simp; omega) (fun j hj => by cases hj; exact HB3.out.size)); clear hN4 hg4)
    go_ret
    exact ⟨rfl, HB4.out⟩

set_option maxRecDepth 100000 in
theorem walk {H : Type} {enc : TypeId × Value → H} {d0 d1 d2 : DataW H} {p0 p1 p2 : List MemPlace} (v0 v1 v2 : Value) (W : World) (base : Nat)
    (h0 : Value.okWide Try.prog W .any base 60 v0) (_ : DataW.Trod enc Try.prog W 0 (fun _ => true) true 60 v0 d0 p0)
    (h1 : Value.okWide Try.prog W .any base 3 v1) (_ : DataW.Trod enc Try.prog W 0 (fun _ => true) true 3 v1 d1 p1)
    (h2 : Value.okWide Try.prog W .any base 60 v2) (_ : DataW.Trod enc Try.prog W 0 (fun _ => true) true 60 v2 d2 p2) :
    Calls Try.prog 13 #[v0, v1, v2] W fun e w' => e = .returned (.bool true) ∧ Below W.heap.size W w' := by
  obtain ⟨a, b, c, d, rfl, _, _, _, _⟩ := ok_ints4 (u := 3) (.inr ⟨_, _, Try.underlying60⟩) (by kernel_rfl) (by kernel_rfl) Try.underlying3 h0
  obtain ⟨x, rfl, _⟩ := ok_int Try.underlying3 h1
  obtain ⟨p, q, r, s, rfl, _, _, _, _⟩ := ok_ints4 (u := 3) (.inr ⟨_, _, Try.underlying60⟩) (by kernel_rfl) (by kernel_rfl) Try.underlying3 h2
  exact walk1 (fun k => [a, b, c, d].getD k 0) (fun k => [p, q, r, s].getD k 0) x W
end Go.Proofs.Ytaobnddnefabeaa.lawRoundHalves
