/- clock.Spread: how far the good clocks are apart. -/
import Derived.Test.YtaobnddnefabeaaRound
set_option linter.unusedVariables false
namespace Go.Proofs.Ytaobnddnefabeaa.Md
open Go.RowKit Go.Proofs.Ytaobnddnefabeaa Go.Proofs

def RelS (o : Nat → Int) (bad : Int) (w : World) (i lo hi f : Value) (W : World) : Prop := ∃ (k : Nat) (a b : Int) (c : Bool), k ≤ 4 ∧ i = .int .i64 k ∧ lo = .int .i64 a ∧ hi = .int .i64 b ∧ f = .bool c ∧ SprL o bad k a b c ∧ W = w

theorem SprL.bd {o : Nat → Int} {bad : Int} {k : Nat} {lo hi : Int} {f : Bool} {M : Int} (h : SprL o bad k lo hi f) (hk : k ≤ 4) (hM : 0 ≤ M) (ho : ∀ k, k < 4 → -M ≤ o k ∧ o k ≤ M) : -M ≤ lo ∧ lo ≤ M ∧ -M ≤ hi ∧ hi ≤ M := by
  rcases h with ⟨h1, h2, h3, h4⟩ | ⟨h1, i, j, a, b, c, d, rfl, rfl, h⟩
  · omega
  · have x := ho i (by omega)
    have y := ho j (by omega)
    omega

set_option maxRecDepth 100000 in
set_option maxHeartbeats 4000000 in
theorem Spread_any (o : Nat → Int) (bad : Int) (w : World) (ho : ∀ k, k < 4 → -2199023255552 ≤ o k ∧ o k ≤ 2199023255552) :
    Calls Try.prog 31 #[.agg (i4 o), .int .i64 bad] w fun e w' => ∃ s, Spr o bad s ∧ -4398046511104 ≤ s ∧ s ≤ 4398046511104 ∧ e = .returned (.tuple #[.int .i64 s, .int .i64 0]) ∧ Below w.heap.size w w' := by
  have kp := fun z W => part_any z 2199023255552 (by omega) (by omega) W
  have KP := Lib.hid kp
  have HO := Lib.hid ho
  have HX := Lib.hid (Blk.new w 60 (i4 o))
  clear kp ho
  go_enter Try.func31, Try.ntmps31
  go_wp2_with (refine wpList_load_row rfl 60 (.tmp 2) rfl w.heap.size rfl _ (i4 o) (0, 0) _ HX.out Try.underlying60 rfl (by kernel_rfl) ?_)
  go_loopw [12, 6, 7, 8] (fun i lo hi f W => RelS o bad (w.alloc (.cells (i4 o) 60)) i lo hi f W) (fun i _ _ _ _ => 4 - (intOf i).toNat)
  case atStart => exact ⟨0, 0, 0, true, by omega, rfl, rfl, rfl, rfl, SprL.start _ _, rfl⟩
  case round =>
    obtain ⟨k, a, b, c, hk, rfl, rfl, rfl, rfl, hS, rfl⟩ := hrel
    by_cases hk4 : k < 4
    · have hgt := index_i4 o hk4
      have hp : prt 2199023255552 (o k) = true := prt_true.2 (HO.out k hk4)
      by_cases hkb : (k : Int) = bad
      · have t1 : ((k : Int) == bad) = true := by simpa using hkb
        have HN := Lib.hid (hS.skip hkb)
        clear hS hkb
        go_wp2_with (go_at_call 46; (with_reducible refine (KP.out _ _).mono ?_); rintro e w1 ⟨rfl, rfl⟩; rw [hp])
        go_roundw
        case rel => exact ⟨k + 1, a, b, c, by omega, by go_num, rfl, rfl, rfl, HN.out, rfl⟩
        case measure => simp [intOf]; omega
      · have t1 : ((k : Int) == bad) = false := by simpa using hkb
        have HN := Lib.hid (fun lo' hi' => SprL.take hS hkb (lo' := lo') (hi' := hi'))
        clear hS hkb
        cases c with
        | true =>
          have H2 := Lib.hid (HN.out (o k) (o k) (by simp) (by simp))
          clear HN
          go_wp2_with (go_at_call 46; (with_reducible refine (KP.out _ _).mono ?_); rintro e w1 ⟨rfl, rfl⟩; rw [hp])
          go_roundw
          case rel => exact ⟨k + 1, o k, o k, false, by omega, by go_num, rfl, rfl, rfl, H2.out, rfl⟩
          case measure => simp [intOf]; omega
        | false =>
          by_cases c1 : o k < a
          · by_cases c2 : b < o k
            · have t2 : decide (o k < a) = true := decide_eq_true c1
              have t3 : decide (o k > b) = true := decide_eq_true c2
              have H2 := Lib.hid (HN.out (o k) (o k) (by simp [c1]) (by simp [c2]))
              clear HN
              go_wp2_with (go_at_call 46; (with_reducible refine (KP.out _ _).mono ?_); rintro e w1 ⟨rfl, rfl⟩; rw [hp])
              go_roundw
              case rel => exact ⟨k + 1, o k, o k, false, by omega, by go_num, rfl, rfl, rfl, H2.out, rfl⟩
              case measure => simp [intOf]; omega
            · have t2 : decide (o k < a) = true := decide_eq_true c1
              have t3 : decide (o k > b) = false := decide_eq_false c2
              have H2 := Lib.hid (HN.out (o k) b (by simp [c1]) (by simp [c2]))
              clear HN
              go_wp2_with (go_at_call 46; (with_reducible refine (KP.out _ _).mono ?_); rintro e w1 ⟨rfl, rfl⟩; rw [hp])
              go_roundw
              case rel => exact ⟨k + 1, o k, b, false, by omega, by go_num, rfl, rfl, rfl, H2.out, rfl⟩
              case measure => simp [intOf]; omega
          · by_cases c2 : b < o k
            · have t2 : decide (o k < a) = false := decide_eq_false c1
              have t3 : decide (o k > b) = true := decide_eq_true c2
              have H2 := Lib.hid (HN.out a (o k) (by simp [c1]) (by simp [c2]))
              clear HN
              go_wp2_with (go_at_call 46; (with_reducible refine (KP.out _ _).mono ?_); rintro e w1 ⟨rfl, rfl⟩; rw [hp])
              go_roundw
              case rel => exact ⟨k + 1, a, o k, false, by omega, by go_num, rfl, rfl, rfl, H2.out, rfl⟩
              case measure => simp [intOf]; omega
            · have t2 : decide (o k < a) = false := decide_eq_false c1
              have t3 : decide (o k > b) = false := decide_eq_false c2
              have H2 := Lib.hid (HN.out a b (by simp [c1]) (by simp [c2]))
              clear HN
              go_wp2_with (go_at_call 46; (with_reducible refine (KP.out _ _).mono ?_); rintro e w1 ⟨rfl, rfl⟩; rw [hp])
              go_roundw
              case rel => exact ⟨k + 1, a, b, false, by omega, by go_num, rfl, rfl, rfl, H2.out, rfl⟩
              case measure => simp [intOf]; omega
    · obtain rfl : k = 4 := by omega
      have bd := hS.bd (Nat.le_refl _) (by omega) HO.out
      have HD := Lib.hid hS.done
      clear hS
      go_wp2_with fail
      refine bodyPost_ret (v := .tuple #[.int .i64 (b - a), .int .i64 0]) (by simp [results, Try.results31, go_sem]) rfl ⟨_, HD.out, by omega, by omega, rfl, (Below.refl _ _).alloc (Nat.le_refl _) _⟩
end Go.Proofs.Ytaobnddnefabeaa.Md
