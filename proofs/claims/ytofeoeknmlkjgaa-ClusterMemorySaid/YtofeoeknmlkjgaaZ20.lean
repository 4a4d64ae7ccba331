/- Merged: Div64. -/
import Derived.BigGuard
import Derived.BigQuiet
import Derived.Deep.CutRange
import Derived.Deep.DeepCutAuto
import Derived.Deep.QuietTactic
import Derived.Test.YtofeoeknmlkjgaaZ18
import Derived.Test.YtofeoeknmlkjgaaZ19
set_option linter.unusedVariables false
set_option linter.unusedSimpArgs false
section
/- The contract of bits.Div64: two words by one, the quotient and what is left. -/
set_option linter.unusedVariables false
namespace Go.Proofs.Ytofeoeknmlkjgaa
open Go.RowKit Fx Dv

set_option maxRecDepth 100000 in
set_option maxHeartbeats 2000000 in
theorem div64_low (lo y : Nat) (hy : 0 < y) (hy2 : y < 18446744073709551616) (hlo : lo < 18446744073709551616) (w : World) :
    Calls Try.prog 108 #[.int .u64 0, .int .u64 lo, .int .u64 y] w fun e w' => e = .returned (.tuple #[.int .u64 ((lo / y : Nat) : Int), .int .u64 ((lo % y : Nat) : Int)]) ∧ Below w.heap.size w w' := by
  have t1 : ((y : Int) == 0) = false := by rw [beq_eq_false_iff_ne]; omega
  have t2 : decide ((y : Int) ≤ 0) = false := by simp; omega
  have hne : ¬ ((y : Int) = 0) := by omega
  have hne2 : ¬ (y = 0) := by omega
  have l1 : lo / y ≤ lo := Nat.div_le_self _ _
  have l2 : lo % y ≤ lo := Nat.mod_le _ _
  have e1 : IntKind.u64.wrap ((lo : Int).tdiv (y : Int)) = ((lo / y : Nat) : Int) := by
    rw [Int.tdiv_eq_ediv_of_nonneg (by omega), ← Int.natCast_ediv, Fx.wrapN _ (by omega)]
  have e2 : IntKind.u64.wrap ((lo : Int).tmod (y : Int)) = ((lo % y : Nat) : Int) := by
    rw [Int.tmod_eq_emod_of_nonneg (by omega), ← Int.natCast_emod, Fx.wrapN _ (by omega)]
  have e3 : ((lo : Int).tdiv (y : Int)) = ((lo / y : Nat) : Int) := by
    rw [Int.tdiv_eq_ediv_of_nonneg (by omega), ← Int.natCast_ediv]
  have e4 : ((lo : Int).tmod (y : Int)) = ((lo % y : Nat) : Int) := by
    rw [Int.tmod_eq_emod_of_nonneg (by omega), ← Int.natCast_emod]
  have e5 : IntKind.u64.wrap ((lo : Int) / (y : Int)) = ((lo / y : Nat) : Int) := by
    rw [← Int.natCast_ediv, Fx.wrapN _ (by omega)]
  have e6 : ((lo : Int) % (y : Int)) = ((lo % y : Nat) : Int) := rfl
  have E5 := Lib.hid e5
  have E6 := Lib.hid e6
  clear e5 e6
  go_enter Try.func108, Try.ntmps108
  go_wp2_with fail
  go_quiet (fail)
  go_wp2_with fail
  go_ret2
  exact ⟨congrArg (fun z => Ending.returned (.tuple #[.int .u64 z, .int .u64 _])) E5.out, below_drewN _ _ _⟩

set_option maxRecDepth 100000 in
set_option maxHeartbeats 2000000 in
theorem div64_high (hi lo y : Nat) (h1 : 0 < hi) (hlt : hi < y) (hy : y < 18446744073709551616) (hlo : lo < 18446744073709551616) (w : World) :
    Calls Try.prog 108 #[.int .u64 hi, .int .u64 lo, .int .u64 y] w fun e w' => e = .returned (.tuple #[.int .u64 (((hi * 18446744073709551616 + lo) / y : Nat) : Int), .int .u64 (((hi * 18446744073709551616 + lo) % y : Nat) : Int)]) ∧ Below w.heap.size w w' := by
  have t1 : ((y : Int) == 0) = false := by rw [beq_eq_false_iff_ne]; omega
  have t2 : ((hi : Int) == 0) = false := by rw [beq_eq_false_iff_ne]; omega
  have k1 := fun W => lz64_any (y : Int) W (by omega) (by omega)
  rw [Int.toNat_natCast] at k1
  obtain ⟨s, hs, hs63, hn1, hn2⟩ := lz_of y (by omega) hy
  rw [hs] at k1
  obtain ⟨Y, y1, y0, u, a, b, e1, e2, e3, e4, e5, e6, hY, hy1, hy1b, hy0, hu, ha, hb, hYb, hq, hr⟩ := prep hi lo y s hlt hlo hs63 hn1 hn2
  rw [hq, hr]
  obtain ⟨Q, hQ⟩ : ∃ Q, (u * 4294967296 + a) / Y = Q := ⟨_, rfl⟩
  obtain ⟨R, hR⟩ : ∃ R, (u * 4294967296 + a) % Y = R := ⟨_, rfl⟩
  obtain ⟨Q0, hQ0⟩ : ∃ Q0, (R * 4294967296 + b) / Y = Q0 := ⟨_, rfl⟩
  obtain ⟨R0, hR0⟩ : ∃ R0, (R * 4294967296 + b) % Y = R0 := ⟨_, rfl⟩
  have hRY : R < Y := by rw [← hR]; exact Nat.mod_lt _ (by omega)
  have hR0Y : R0 < Y := by rw [← hR0]; exact Nat.mod_lt _ (by omega)
  have hQB : Q < 4294967296 := by rw [← hQ]; exact Nat.div_lt_of_lt_mul (by omega)
  have hQ0B : Q0 < 4294967296 := by rw [← hQ0]; exact Nat.div_lt_of_lt_mul (by omega)
  have hQR : Q * Y + R = u * 4294967296 + a := by rw [← hQ, ← hR, Nat.mul_comm]; exact Nat.div_add_mod _ _
  have hQR0 : Q0 * Y + R0 = R * 4294967296 + b := by rw [← hQ0, ← hR0, Nat.mul_comm]; exact Nat.div_add_mod _ _
  rw [hQ, hR, hQ0, hR0]
  have hy1p : 0 < y1 := by omega
  have st := inv_start hY hy1p ha (u := u)
  have st0 := inv_start hY hy1p hb (u := R)
  have K1 := Lib.hid k1
  have E1 := Lib.hid e1
  have E2 := Lib.hid e2
  have E3 := Lib.hid e3
  have E4 := Lib.hid e4
  have E5 := Lib.hid e5
  have E6 := Lib.hid e6
  have HY := Lib.hid hY
  have HQ := Lib.hid hQ
  have HQ0 := Lib.hid hQ0
  have HQR := Lib.hid hQR
  have HQR0 := Lib.hid hQR0
  have ST := Lib.hid st
  have ST0 := Lib.hid st0
  have HY1 := Lib.hid hy1
  clear hy1 k1 hs e1 e2 e3 e4 e5 e6 hq hr hQ hR hQ0 hR0 hn1 hn2 hY hQR hQR0 st st0
  go_enter Try.func108, Try.ntmps108
  go_wp2_with fail
  refine (K1.out _).mono ?_
  rintro e w1 ⟨rfl, rfl⟩
  go_upto_region 15 with fail
  rw [E1.out, E2.out, E3.out, E4.out, E5.out, E6.out]
  clear E1 E2 E3 E4 E5 E6
  have hne1 : ¬ ((y1 : Int) = 0) := by omega
  obtain ⟨q, hq⟩ : ∃ q, u / y1 = q := ⟨_, rfl⟩
  have hql : q * y1 ≤ u := by rw [← hq]; exact Nat.div_mul_le_self u y1
  obtain ⟨r, hr⟩ : ∃ r, u - q * y1 = r := ⟨_, rfl⟩
  have hrB : r < 4294967296 := by
    have h5 := Nat.div_add_mod u y1
    have h6 := Nat.mod_lt u hy1p
    rw [hq, Nat.mul_comm] at h5
    omega
  have d1 : (u : Int) / (y1 : Int) = (q : Int) := by rw [← Int.natCast_ediv, hq]
  obtain ⟨m, hm⟩ : ∃ m, q * y1 = m := ⟨_, rfl⟩
  have d2 : (q : Int) * (y1 : Int) = (m : Int) := by rw [← hm]; exact (Int.natCast_mul _ _).symm
  have inv := ST.out
  rw [hq, hr] at inv
  rw [hm] at hql hr
  have INV := Lib.hid inv
  have d4 : (u : Int) - (m : Int) = (r : Int) := by omega
  clear inv ST hq hm hr
  have d3 : IntKind.u64.wrap (q : Int) = (q : Int) := Fx.wrapN _ (by have := inv_bound INV.out HY1.out (by omega); omega)
  go_upto_region 17 with fail
  clear d1 d2 d3 d4
  go_loop [15, 16] (fun x z => ∃ q r : Nat, Inv u a Y y1 q r ∧ r < 4294967296 ∧ x = .int .u64 (q : Int) ∧ z = .int .u64 (r : Int)) (fun x _ => (intOf x).toNat)
  case atStart => exact ⟨q, r, INV.out, hrB, rfl, rfl⟩
  case round =>
    clear hrB hql INV
    obtain ⟨q, r, hi, hrB, rfl, rfl⟩ := hrel
    have hqb := inv_bound hi HY1.out (by omega)
    obtain ⟨m, hm⟩ : ∃ m, q * y0 = m := ⟨_, rfl⟩
    have d2 : (q : Int) * (y0 : Int) = (m : Int) := by rw [← hm]; exact (Int.natCast_mul _ _).symm
    have hmb : q < 4294967296 → m ≤ 18446744073709551615 := fun h => by
      have : q * y0 ≤ 4294967295 * 4294967295 := Nat.mul_le_mul (by omega) (by omega)
      omega
    have HI := Lib.hid hi
    have HM := Lib.hid hm
    clear hi hm
    have ways : (4294967296 ≤ q ∧ r + y1 < 4294967296) ∨ (q < 4294967296 ∧ 4294967296 * r + a < m ∧ r + y1 < 4294967296) ∨ (4294967296 ≤ q ∧ 4294967296 ≤ r + y1) ∨ (q < 4294967296 ∧ 4294967296 * r + a < m ∧ 4294967296 ≤ r + y1) ∨ (q < 4294967296 ∧ m ≤ 4294967296 * r + a) := by omega
    rcases ways with ⟨c1, c2⟩ | ⟨c1, c0, c2⟩ | ⟨c1, c2⟩ | ⟨c1, c0, c2⟩ | ⟨c1, c0⟩
    · skip
      obtain ⟨h5, h6⟩ := inv_step HY.out hy1p ha hu HI.out (.inl c1)
      have H6 := Lib.hid h6
      have C2 := Lib.hid c2
      have b1 : decide ((4294967296 : Int) ≤ (q : Int)) = true := decide_eq_true (by omega)
      have b2 : decide ((4294967296 : Int) ≤ (r : Int) + (y1 : Int)) = false := decide_eq_false (by omega)
      have i2 : (r : Int) + (y1 : Int) < 4294967296 := by omega
      have i3 : (1 : Int) ≤ (q : Int) := by omega
      clear h6 c1 c2 h5 hmb d2
      go_wp2_with fail
      go_round
      case rel => exact ⟨q - 1, r + y1, H6.out, C2.out, by go_num, by go_num⟩
      case measure => simp [intOf]; omega
    · have h7 := hmb c1
      obtain ⟨h5, h6⟩ := inv_step HY.out hy1p ha hu HI.out (.inr (by rw [HM.out]; exact c0))
      have H6 := Lib.hid h6
      have C2 := Lib.hid c2
      have b1 : decide ((4294967296 : Int) ≤ (q : Int)) = false := decide_eq_false (by omega)
      have b3 : decide ((4294967296 : Int) * (r : Int) + (a : Int) < (m : Int)) = true := decide_eq_true (by omega)
      have b2 : decide ((4294967296 : Int) ≤ (r : Int) + (y1 : Int)) = false := decide_eq_false (by omega)
      have i2 : (r : Int) + (y1 : Int) < 4294967296 := by omega
      have i3 : (1 : Int) ≤ (q : Int) := by omega
      clear h6 c1 c2 h5 hmb c0
      go_wp2_with fail
      go_round
      case rel => exact ⟨q - 1, r + y1, H6.out, C2.out, by go_num, by go_num⟩
      case measure => simp [intOf]; omega
    · skip
      have hx : q - 1 = Q := by
        obtain ⟨h5, h6⟩ := inv_step HY.out hy1p ha hu HI.out (.inl c1)
        rw [inv_exit HY.out hy1p h6 (inv_break HY.out hy1p hy0 hu h6 c2), HQ.out]
      have i3 : (1 : Int) ≤ (q : Int) := by
        have h5 := (inv_step HY.out hy1p ha hu HI.out (.inl c1)).1
        omega
      have d5 : (q : Int) - 1 = (Q : Int) := by omega
      have b1 : decide ((4294967296 : Int) ≤ (q : Int)) = true := decide_eq_true (by omega)
      have b2 : decide ((4294967296 : Int) ≤ (r : Int) + (y1 : Int)) = true := decide_eq_true (by omega)
      clear c1 c2 hmb hx d2
      go_upto_region 21 with fail
      clear HI HM hqb hrB d5 b1 b2 i3 
      obtain ⟨z, hz⟩ : ∃ z, Q * Y = z := ⟨_, rfl⟩
      have d6 : (Q : Int) * (Y : Int) = (z : Int) := by rw [← hz]; exact (Int.natCast_mul _ _).symm
      have E7 := Lib.hid (rem_wrap u a z R (by rw [← hz]; exact HQR.out) (by omega))
      clear hz
      go_upto_region 22 with fail
      rw [E7.out]
      clear E7 d6 hne1
      have hne2 : ¬ ((y1 : Int) = 0) := by omega
      obtain ⟨q, hq⟩ : ∃ q, R / y1 = q := ⟨_, rfl⟩
      have hql : q * y1 ≤ R := by rw [← hq]; exact Nat.div_mul_le_self R y1
      obtain ⟨r, hr⟩ : ∃ r, R - q * y1 = r := ⟨_, rfl⟩
      have hrB : r < 4294967296 := by
        have h5 := Nat.div_add_mod R y1
        have h6 := Nat.mod_lt R hy1p
        rw [hq, Nat.mul_comm] at h5
        omega
      have d1 : (R : Int) / (y1 : Int) = (q : Int) := by rw [← Int.natCast_ediv, hq]
      obtain ⟨m, hm⟩ : ∃ m, q * y1 = m := ⟨_, rfl⟩
      have d2 : (q : Int) * (y1 : Int) = (m : Int) := by rw [← hm]; exact (Int.natCast_mul _ _).symm
      have inv := ST0.out
      rw [hq, hr] at inv
      rw [hm] at hql hr
      have INV := Lib.hid inv
      have d4 : (R : Int) - (m : Int) = (r : Int) := by omega
      clear inv ST0 hq hm hr
      have d3 : IntKind.u64.wrap (q : Int) = (q : Int) := Fx.wrapN _ (by have := inv_bound INV.out HY1.out (by omega); omega)
      go_upto_region 24 with fail
      clear d1 d2 d3 d4
      go_loop [18, 16] (fun x z => ∃ q r : Nat, Inv R b Y y1 q r ∧ r < 4294967296 ∧ x = .int .u64 (q : Int) ∧ z = .int .u64 (r : Int)) (fun x _ => (intOf x).toNat)
      case atStart => exact ⟨q, r, INV.out, hrB, rfl, rfl⟩
      case round =>
        clear hrB hql INV
        obtain ⟨q, r, hi, hrB, rfl, rfl⟩ := hrel
        have hqb := inv_bound hi HY1.out (by omega)
        obtain ⟨m, hm⟩ : ∃ m, q * y0 = m := ⟨_, rfl⟩
        have d2 : (q : Int) * (y0 : Int) = (m : Int) := by rw [← hm]; exact (Int.natCast_mul _ _).symm
        have hmb : q < 4294967296 → m ≤ 18446744073709551615 := fun h => by
          have : q * y0 ≤ 4294967295 * 4294967295 := Nat.mul_le_mul (by omega) (by omega)
          omega
        have HI := Lib.hid hi
        have HM := Lib.hid hm
        clear hi hm
        have ways : (4294967296 ≤ q ∧ r + y1 < 4294967296) ∨ (q < 4294967296 ∧ 4294967296 * r + b < m ∧ r + y1 < 4294967296) ∨ (4294967296 ≤ q ∧ 4294967296 ≤ r + y1) ∨ (q < 4294967296 ∧ 4294967296 * r + b < m ∧ 4294967296 ≤ r + y1) ∨ (q < 4294967296 ∧ m ≤ 4294967296 * r + b) := by omega
        rcases ways with ⟨c1, c2⟩ | ⟨c1, c0, c2⟩ | ⟨c1, c2⟩ | ⟨c1, c0, c2⟩ | ⟨c1, c0⟩
        · skip
          obtain ⟨h5, h6⟩ := inv_step HY.out hy1p hb hRY HI.out (.inl c1)
          have H6 := Lib.hid h6
          have C2 := Lib.hid c2
          have b1 : decide ((4294967296 : Int) ≤ (q : Int)) = true := decide_eq_true (by omega)
          have b2 : decide ((4294967296 : Int) ≤ (r : Int) + (y1 : Int)) = false := decide_eq_false (by omega)
          have i2 : (r : Int) + (y1 : Int) < 4294967296 := by omega
          have i3 : (1 : Int) ≤ (q : Int) := by omega
          clear h6 c1 c2 h5 hmb d2
          go_wp2_with fail
          go_round
          case rel => exact ⟨q - 1, r + y1, H6.out, C2.out, by go_num, by go_num⟩
          case measure => simp [intOf]; omega
        · have h7 := hmb c1
          obtain ⟨h5, h6⟩ := inv_step HY.out hy1p hb hRY HI.out (.inr (by rw [HM.out]; exact c0))
          have H6 := Lib.hid h6
          have C2 := Lib.hid c2
          have b1 : decide ((4294967296 : Int) ≤ (q : Int)) = false := decide_eq_false (by omega)
          have b3 : decide ((4294967296 : Int) * (r : Int) + (b : Int) < (m : Int)) = true := decide_eq_true (by omega)
          have b2 : decide ((4294967296 : Int) ≤ (r : Int) + (y1 : Int)) = false := decide_eq_false (by omega)
          have i2 : (r : Int) + (y1 : Int) < 4294967296 := by omega
          have i3 : (1 : Int) ≤ (q : Int) := by omega
          clear h6 c1 c2 h5 hmb c0
          go_wp2_with fail
          go_round
          case rel => exact ⟨q - 1, r + y1, H6.out, C2.out, by go_num, by go_num⟩
          case measure => simp [intOf]; omega
        · skip
          have hx : q - 1 = Q0 := by
            obtain ⟨h5, h6⟩ := inv_step HY.out hy1p hb hRY HI.out (.inl c1)
            rw [inv_exit HY.out hy1p h6 (inv_break HY.out hy1p hy0 hRY h6 c2), HQ0.out]
          have i3 : (1 : Int) ≤ (q : Int) := by
            have h5 := (inv_step HY.out hy1p hb hRY HI.out (.inl c1)).1
            omega
          have d5 : (q : Int) - 1 = (Q0 : Int) := by omega
          have b1 : decide ((4294967296 : Int) ≤ (q : Int)) = true := decide_eq_true (by omega)
          have b2 : decide ((4294967296 : Int) ≤ (r : Int) + (y1 : Int)) = true := decide_eq_true (by omega)
          clear c1 c2 hmb hx d2
          go_upto_region 28 with fail
          clear HI HM hqb hrB d5 b1 b2 i3 
          obtain ⟨z, hz⟩ : ∃ z, Q0 * Y = z := ⟨_, rfl⟩
          have d6 : (Q0 : Int) * (Y : Int) = (z : Int) := by rw [← hz]; exact (Int.natCast_mul _ _).symm
          have E7 := Lib.hid (rem_wrap R b z R0 (by rw [← hz]; exact HQR0.out) (by omega))
          clear hz
          go_wp2_with fail
          go_ret2
          exact ⟨congrArg Ending.returned (two_eq (by omega) (by rw [E7.out, pow_div])), Below.refl _ _⟩
        · have h7 := hmb c1
          have hx : q - 1 = Q0 := by
            obtain ⟨h5, h6⟩ := inv_step HY.out hy1p hb hRY HI.out (.inr (by rw [HM.out]; exact c0))
            rw [inv_exit HY.out hy1p h6 (inv_break HY.out hy1p hy0 hRY h6 c2), HQ0.out]
          have i3 : (1 : Int) ≤ (q : Int) := by
            have h5 := (inv_step HY.out hy1p hb hRY HI.out (.inr (by rw [HM.out]; exact c0))).1
            omega
          have d5 : (q : Int) - 1 = (Q0 : Int) := by omega
          have b1 : decide ((4294967296 : Int) ≤ (q : Int)) = false := decide_eq_false (by omega)
          have b3 : decide ((4294967296 : Int) * (r : Int) + (b : Int) < (m : Int)) = true := decide_eq_true (by omega)
          have b2 : decide ((4294967296 : Int) ≤ (r : Int) + (y1 : Int)) = true := decide_eq_true (by omega)
          clear c1 c2 hmb hx c0
          go_upto_region 28 with fail
          clear HI HM hqb hrB d5 b1 b2 i3 b3 d2 h7
          obtain ⟨z, hz⟩ : ∃ z, Q0 * Y = z := ⟨_, rfl⟩
          have d6 : (Q0 : Int) * (Y : Int) = (z : Int) := by rw [← hz]; exact (Int.natCast_mul _ _).symm
          have E7 := Lib.hid (rem_wrap R b z R0 (by rw [← hz]; exact HQR0.out) (by omega))
          clear hz
          go_wp2_with fail
          go_ret2
          exact ⟨congrArg Ending.returned (two_eq (by omega) (by rw [E7.out, pow_div])), Below.refl _ _⟩
        · have h7 := hmb c1
          have hx : q = Q0 := by rw [inv_exit HY.out hy1p HI.out (by rw [HM.out]; exact c0), HQ0.out]
          have d5 := Lib.hid (show (q : Int) = (Q0 : Int) by omega)
          have b1 : decide ((4294967296 : Int) ≤ (q : Int)) = false := decide_eq_false (by omega)
          have b3 : decide ((4294967296 : Int) * (r : Int) + (b : Int) < (m : Int)) = false := decide_eq_false (by omega)
          clear c1 c0 hmb hx
          go_upto_region 28 with fail
          rw [d5.out]
          clear HI HM hqb hrB d5 b1 b3 d2 h7 
          obtain ⟨z, hz⟩ : ∃ z, Q0 * Y = z := ⟨_, rfl⟩
          have d6 : (Q0 : Int) * (Y : Int) = (z : Int) := by rw [← hz]; exact (Int.natCast_mul _ _).symm
          have E7 := Lib.hid (rem_wrap R b z R0 (by rw [← hz]; exact HQR0.out) (by omega))
          clear hz
          go_wp2_with fail
          go_ret2
          exact ⟨congrArg Ending.returned (two_eq (by omega) (by rw [E7.out, pow_div])), Below.refl _ _⟩
    · have h7 := hmb c1
      have hx : q - 1 = Q := by
        obtain ⟨h5, h6⟩ := inv_step HY.out hy1p ha hu HI.out (.inr (by rw [HM.out]; exact c0))
        rw [inv_exit HY.out hy1p h6 (inv_break HY.out hy1p hy0 hu h6 c2), HQ.out]
      have i3 : (1 : Int) ≤ (q : Int) := by
        have h5 := (inv_step HY.out hy1p ha hu HI.out (.inr (by rw [HM.out]; exact c0))).1
        omega
      have d5 : (q : Int) - 1 = (Q : Int) := by omega
      have b1 : decide ((4294967296 : Int) ≤ (q : Int)) = false := decide_eq_false (by omega)
      have b3 : decide ((4294967296 : Int) * (r : Int) + (a : Int) < (m : Int)) = true := decide_eq_true (by omega)
      have b2 : decide ((4294967296 : Int) ≤ (r : Int) + (y1 : Int)) = true := decide_eq_true (by omega)
      clear c1 c2 hmb hx c0
      go_upto_region 21 with fail
      clear HI HM hqb hrB d5 b1 b2 i3 b3 d2 h7
      obtain ⟨z, hz⟩ : ∃ z, Q * Y = z := ⟨_, rfl⟩
      have d6 : (Q : Int) * (Y : Int) = (z : Int) := by rw [← hz]; exact (Int.natCast_mul _ _).symm
      have E7 := Lib.hid (rem_wrap u a z R (by rw [← hz]; exact HQR.out) (by omega))
      clear hz
      go_upto_region 22 with fail
      rw [E7.out]
      clear E7 d6 hne1
      have hne2 : ¬ ((y1 : Int) = 0) := by omega
      obtain ⟨q, hq⟩ : ∃ q, R / y1 = q := ⟨_, rfl⟩
      have hql : q * y1 ≤ R := by rw [← hq]; exact Nat.div_mul_le_self R y1
      obtain ⟨r, hr⟩ : ∃ r, R - q * y1 = r := ⟨_, rfl⟩
      have hrB : r < 4294967296 := by
        have h5 := Nat.div_add_mod R y1
        have h6 := Nat.mod_lt R hy1p
        rw [hq, Nat.mul_comm] at h5
        omega
      have d1 : (R : Int) / (y1 : Int) = (q : Int) := by rw [← Int.natCast_ediv, hq]
      obtain ⟨m, hm⟩ : ∃ m, q * y1 = m := ⟨_, rfl⟩
      have d2 : (q : Int) * (y1 : Int) = (m : Int) := by rw [← hm]; exact (Int.natCast_mul _ _).symm
      have inv := ST0.out
      rw [hq, hr] at inv
      rw [hm] at hql hr
      have INV := Lib.hid inv
      have d4 : (R : Int) - (m : Int) = (r : Int) := by omega
      clear inv ST0 hq hm hr
      have d3 : IntKind.u64.wrap (q : Int) = (q : Int) := Fx.wrapN _ (by have := inv_bound INV.out HY1.out (by omega); omega)
      go_upto_region 24 with fail
      clear d1 d2 d3 d4
      go_loop [18, 16] (fun x z => ∃ q r : Nat, Inv R b Y y1 q r ∧ r < 4294967296 ∧ x = .int .u64 (q : Int) ∧ z = .int .u64 (r : Int)) (fun x _ => (intOf x).toNat)
      case atStart => exact ⟨q, r, INV.out, hrB, rfl, rfl⟩
      case round =>
        clear hrB hql INV
        obtain ⟨q, r, hi, hrB, rfl, rfl⟩ := hrel
        have hqb := inv_bound hi HY1.out (by omega)
        obtain ⟨m, hm⟩ : ∃ m, q * y0 = m := ⟨_, rfl⟩
        have d2 : (q : Int) * (y0 : Int) = (m : Int) := by rw [← hm]; exact (Int.natCast_mul _ _).symm
        have hmb : q < 4294967296 → m ≤ 18446744073709551615 := fun h => by
          have : q * y0 ≤ 4294967295 * 4294967295 := Nat.mul_le_mul (by omega) (by omega)
          omega
        have HI := Lib.hid hi
        have HM := Lib.hid hm
        clear hi hm
        have ways : (4294967296 ≤ q ∧ r + y1 < 4294967296) ∨ (q < 4294967296 ∧ 4294967296 * r + b < m ∧ r + y1 < 4294967296) ∨ (4294967296 ≤ q ∧ 4294967296 ≤ r + y1) ∨ (q < 4294967296 ∧ 4294967296 * r + b < m ∧ 4294967296 ≤ r + y1) ∨ (q < 4294967296 ∧ m ≤ 4294967296 * r + b) := by omega
        rcases ways with ⟨c1, c2⟩ | ⟨c1, c0, c2⟩ | ⟨c1, c2⟩ | ⟨c1, c0, c2⟩ | ⟨c1, c0⟩
        · skip
          obtain ⟨h5, h6⟩ := inv_step HY.out hy1p hb hRY HI.out (.inl c1)
          have H6 := Lib.hid h6
          have C2 := Lib.hid c2
          have b1 : decide ((4294967296 : Int) ≤ (q : Int)) = true := decide_eq_true (by omega)
          have b2 : decide ((4294967296 : Int) ≤ (r : Int) + (y1 : Int)) = false := decide_eq_false (by omega)
          have i2 : (r : Int) + (y1 : Int) < 4294967296 := by omega
          have i3 : (1 : Int) ≤ (q : Int) := by omega
          clear h6 c1 c2 h5 hmb d2
          go_wp2_with fail
          go_round
          case rel => exact ⟨q - 1, r + y1, H6.out, C2.out, by go_num, by go_num⟩
          case measure => simp [intOf]; omega
        · have h7 := hmb c1
          obtain ⟨h5, h6⟩ := inv_step HY.out hy1p hb hRY HI.out (.inr (by rw [HM.out]; exact c0))
          have H6 := Lib.hid h6
          have C2 := Lib.hid c2
          have b1 : decide ((4294967296 : Int) ≤ (q : Int)) = false := decide_eq_false (by omega)
          have b3 : decide ((4294967296 : Int) * (r : Int) + (b : Int) < (m : Int)) = true := decide_eq_true (by omega)
          have b2 : decide ((4294967296 : Int) ≤ (r : Int) + (y1 : Int)) = false := decide_eq_false (by omega)
          have i2 : (r : Int) + (y1 : Int) < 4294967296 := by omega
          have i3 : (1 : Int) ≤ (q : Int) := by omega
          clear h6 c1 c2 h5 hmb c0
          go_wp2_with fail
          go_round
          case rel => exact ⟨q - 1, r + y1, H6.out, C2.out, by go_num, by go_num⟩
          case measure => simp [intOf]; omega
        · skip
          have hx : q - 1 = Q0 := by
            obtain ⟨h5, h6⟩ := inv_step HY.out hy1p hb hRY HI.out (.inl c1)
            rw [inv_exit HY.out hy1p h6 (inv_break HY.out hy1p hy0 hRY h6 c2), HQ0.out]
          have i3 : (1 : Int) ≤ (q : Int) := by
            have h5 := (inv_step HY.out hy1p hb hRY HI.out (.inl c1)).1
            omega
          have d5 : (q : Int) - 1 = (Q0 : Int) := by omega
          have b1 : decide ((4294967296 : Int) ≤ (q : Int)) = true := decide_eq_true (by omega)
          have b2 : decide ((4294967296 : Int) ≤ (r : Int) + (y1 : Int)) = true := decide_eq_true (by omega)
          clear c1 c2 hmb hx d2
          go_upto_region 28 with fail
          clear HI HM hqb hrB d5 b1 b2 i3 
          obtain ⟨z, hz⟩ : ∃ z, Q0 * Y = z := ⟨_, rfl⟩
          have d6 : (Q0 : Int) * (Y : Int) = (z : Int) := by rw [← hz]; exact (Int.natCast_mul _ _).symm
          have E7 := Lib.hid (rem_wrap R b z R0 (by rw [← hz]; exact HQR0.out) (by omega))
          clear hz
          go_wp2_with fail
          go_ret2
          exact ⟨congrArg Ending.returned (two_eq (by omega) (by rw [E7.out, pow_div])), Below.refl _ _⟩
        · have h7 := hmb c1
          have hx : q - 1 = Q0 := by
            obtain ⟨h5, h6⟩ := inv_step HY.out hy1p hb hRY HI.out (.inr (by rw [HM.out]; exact c0))
            rw [inv_exit HY.out hy1p h6 (inv_break HY.out hy1p hy0 hRY h6 c2), HQ0.out]
          have i3 : (1 : Int) ≤ (q : Int) := by
            have h5 := (inv_step HY.out hy1p hb hRY HI.out (.inr (by rw [HM.out]; exact c0))).1
            omega
          have d5 : (q : Int) - 1 = (Q0 : Int) := by omega
          have b1 : decide ((4294967296 : Int) ≤ (q : Int)) = false := decide_eq_false (by omega)
          have b3 : decide ((4294967296 : Int) * (r : Int) + (b : Int) < (m : Int)) = true := decide_eq_true (by omega)
          have b2 : decide ((4294967296 : Int) ≤ (r : Int) + (y1 : Int)) = true := decide_eq_true (by omega)
          clear c1 c2 hmb hx c0
          go_upto_region 28 with fail
          clear HI HM hqb hrB d5 b1 b2 i3 b3 d2 h7
          obtain ⟨z, hz⟩ : ∃ z, Q0 * Y = z := ⟨_, rfl⟩
          have d6 : (Q0 : Int) * (Y : Int) = (z : Int) := by rw [← hz]; exact (Int.natCast_mul _ _).symm
          have E7 := Lib.hid (rem_wrap R b z R0 (by rw [← hz]; exact HQR0.out) (by omega))
          clear hz
          go_wp2_with fail
          go_ret2
          exact ⟨congrArg Ending.returned (two_eq (by omega) (by rw [E7.out, pow_div])), Below.refl _ _⟩
        · have h7 := hmb c1
          have hx : q = Q0 := by rw [inv_exit HY.out hy1p HI.out (by rw [HM.out]; exact c0), HQ0.out]
          have d5 := Lib.hid (show (q : Int) = (Q0 : Int) by omega)
          have b1 : decide ((4294967296 : Int) ≤ (q : Int)) = false := decide_eq_false (by omega)
          have b3 : decide ((4294967296 : Int) * (r : Int) + (b : Int) < (m : Int)) = false := decide_eq_false (by omega)
          clear c1 c0 hmb hx
          go_upto_region 28 with fail
          rw [d5.out]
          clear HI HM hqb hrB d5 b1 b3 d2 h7 
          obtain ⟨z, hz⟩ : ∃ z, Q0 * Y = z := ⟨_, rfl⟩
          have d6 : (Q0 : Int) * (Y : Int) = (z : Int) := by rw [← hz]; exact (Int.natCast_mul _ _).symm
          have E7 := Lib.hid (rem_wrap R b z R0 (by rw [← hz]; exact HQR0.out) (by omega))
          clear hz
          go_wp2_with fail
          go_ret2
          exact ⟨congrArg Ending.returned (two_eq (by omega) (by rw [E7.out, pow_div])), Below.refl _ _⟩
    · have h7 := hmb c1
      have hx : q = Q := by rw [inv_exit HY.out hy1p HI.out (by rw [HM.out]; exact c0), HQ.out]
      have d5 := Lib.hid (show (q : Int) = (Q : Int) by omega)
      have b1 : decide ((4294967296 : Int) ≤ (q : Int)) = false := decide_eq_false (by omega)
      have b3 : decide ((4294967296 : Int) * (r : Int) + (a : Int) < (m : Int)) = false := decide_eq_false (by omega)
      clear c1 c0 hmb hx
      go_upto_region 21 with fail
      rw [d5.out]
      clear HI HM hqb hrB d5 b1 b3 d2 h7 
      obtain ⟨z, hz⟩ : ∃ z, Q * Y = z := ⟨_, rfl⟩
      have d6 : (Q : Int) * (Y : Int) = (z : Int) := by rw [← hz]; exact (Int.natCast_mul _ _).symm
      have E7 := Lib.hid (rem_wrap u a z R (by rw [← hz]; exact HQR.out) (by omega))
      clear hz
      go_upto_region 22 with fail
      rw [E7.out]
      clear E7 d6 hne1
      have hne2 : ¬ ((y1 : Int) = 0) := by omega
      obtain ⟨q, hq⟩ : ∃ q, R / y1 = q := ⟨_, rfl⟩
      have hql : q * y1 ≤ R := by rw [← hq]; exact Nat.div_mul_le_self R y1
      obtain ⟨r, hr⟩ : ∃ r, R - q * y1 = r := ⟨_, rfl⟩
      have hrB : r < 4294967296 := by
        have h5 := Nat.div_add_mod R y1
        have h6 := Nat.mod_lt R hy1p
        rw [hq, Nat.mul_comm] at h5
        omega
      have d1 : (R : Int) / (y1 : Int) = (q : Int) := by rw [← Int.natCast_ediv, hq]
      obtain ⟨m, hm⟩ : ∃ m, q * y1 = m := ⟨_, rfl⟩
      have d2 : (q : Int) * (y1 : Int) = (m : Int) := by rw [← hm]; exact (Int.natCast_mul _ _).symm
      have inv := ST0.out
      rw [hq, hr] at inv
      rw [hm] at hql hr
      have INV := Lib.hid inv
      have d4 : (R : Int) - (m : Int) = (r : Int) := by omega
      clear inv ST0 hq hm hr
      have d3 : IntKind.u64.wrap (q : Int) = (q : Int) := Fx.wrapN _ (by have := inv_bound INV.out HY1.out (by omega); omega)
      go_upto_region 24 with fail
      clear d1 d2 d3 d4
      go_loop [18, 16] (fun x z => ∃ q r : Nat, Inv R b Y y1 q r ∧ r < 4294967296 ∧ x = .int .u64 (q : Int) ∧ z = .int .u64 (r : Int)) (fun x _ => (intOf x).toNat)
      case atStart => exact ⟨q, r, INV.out, hrB, rfl, rfl⟩
      case round =>
        clear hrB hql INV
        obtain ⟨q, r, hi, hrB, rfl, rfl⟩ := hrel
        have hqb := inv_bound hi HY1.out (by omega)
        obtain ⟨m, hm⟩ : ∃ m, q * y0 = m := ⟨_, rfl⟩
        have d2 : (q : Int) * (y0 : Int) = (m : Int) := by rw [← hm]; exact (Int.natCast_mul _ _).symm
        have hmb : q < 4294967296 → m ≤ 18446744073709551615 := fun h => by
          have : q * y0 ≤ 4294967295 * 4294967295 := Nat.mul_le_mul (by omega) (by omega)
          omega
        have HI := Lib.hid hi
        have HM := Lib.hid hm
        clear hi hm
        have ways : (4294967296 ≤ q ∧ r + y1 < 4294967296) ∨ (q < 4294967296 ∧ 4294967296 * r + b < m ∧ r + y1 < 4294967296) ∨ (4294967296 ≤ q ∧ 4294967296 ≤ r + y1) ∨ (q < 4294967296 ∧ 4294967296 * r + b < m ∧ 4294967296 ≤ r + y1) ∨ (q < 4294967296 ∧ m ≤ 4294967296 * r + b) := by omega
        rcases ways with ⟨c1, c2⟩ | ⟨c1, c0, c2⟩ | ⟨c1, c2⟩ | ⟨c1, c0, c2⟩ | ⟨c1, c0⟩
        · skip
          obtain ⟨h5, h6⟩ := inv_step HY.out hy1p hb hRY HI.out (.inl c1)
          have H6 := Lib.hid h6
          have C2 := Lib.hid c2
          have b1 : decide ((4294967296 : Int) ≤ (q : Int)) = true := decide_eq_true (by omega)
          have b2 : decide ((4294967296 : Int) ≤ (r : Int) + (y1 : Int)) = false := decide_eq_false (by omega)
          have i2 : (r : Int) + (y1 : Int) < 4294967296 := by omega
          have i3 : (1 : Int) ≤ (q : Int) := by omega
          clear h6 c1 c2 h5 hmb d2
          go_wp2_with fail
          go_round
          case rel => exact ⟨q - 1, r + y1, H6.out, C2.out, by go_num, by go_num⟩
          case measure => simp [intOf]; omega
        · have h7 := hmb c1
          obtain ⟨h5, h6⟩ := inv_step HY.out hy1p hb hRY HI.out (.inr (by rw [HM.out]; exact c0))
          have H6 := Lib.hid h6
          have C2 := Lib.hid c2
          have b1 : decide ((4294967296 : Int) ≤ (q : Int)) = false := decide_eq_false (by omega)
          have b3 : decide ((4294967296 : Int) * (r : Int) + (b : Int) < (m : Int)) = true := decide_eq_true (by omega)
          have b2 : decide ((4294967296 : Int) ≤ (r : Int) + (y1 : Int)) = false := decide_eq_false (by omega)
          have i2 : (r : Int) + (y1 : Int) < 4294967296 := by omega
          have i3 : (1 : Int) ≤ (q : Int) := by omega
          clear h6 c1 c2 h5 hmb c0
          go_wp2_with fail
          go_round
          case rel => exact ⟨q - 1, r + y1, H6.out, C2.out, by go_num, by go_num⟩
          case measure => simp [intOf]; omega
        · skip
          have hx : q - 1 = Q0 := by
            obtain ⟨h5, h6⟩ := inv_step HY.out hy1p hb hRY HI.out (.inl c1)
            rw [inv_exit HY.out hy1p h6 (inv_break HY.out hy1p hy0 hRY h6 c2), HQ0.out]
          have i3 : (1 : Int) ≤ (q : Int) := by
            have h5 := (inv_step HY.out hy1p hb hRY HI.out (.inl c1)).1
            omega
          have d5 : (q : Int) - 1 = (Q0 : Int) := by omega
          have b1 : decide ((4294967296 : Int) ≤ (q : Int)) = true := decide_eq_true (by omega)
          have b2 : decide ((4294967296 : Int) ≤ (r : Int) + (y1 : Int)) = true := decide_eq_true (by omega)
          clear c1 c2 hmb hx d2
          go_upto_region 28 with fail
          clear HI HM hqb hrB d5 b1 b2 i3 
          obtain ⟨z, hz⟩ : ∃ z, Q0 * Y = z := ⟨_, rfl⟩
          have d6 : (Q0 : Int) * (Y : Int) = (z : Int) := by rw [← hz]; exact (Int.natCast_mul _ _).symm
          have E7 := Lib.hid (rem_wrap R b z R0 (by rw [← hz]; exact HQR0.out) (by omega))
          clear hz
          go_wp2_with fail
          go_ret2
          exact ⟨congrArg Ending.returned (two_eq (by omega) (by rw [E7.out, pow_div])), Below.refl _ _⟩
        · have h7 := hmb c1
          have hx : q - 1 = Q0 := by
            obtain ⟨h5, h6⟩ := inv_step HY.out hy1p hb hRY HI.out (.inr (by rw [HM.out]; exact c0))
            rw [inv_exit HY.out hy1p h6 (inv_break HY.out hy1p hy0 hRY h6 c2), HQ0.out]
          have i3 : (1 : Int) ≤ (q : Int) := by
            have h5 := (inv_step HY.out hy1p hb hRY HI.out (.inr (by rw [HM.out]; exact c0))).1
            omega
          have d5 : (q : Int) - 1 = (Q0 : Int) := by omega
          have b1 : decide ((4294967296 : Int) ≤ (q : Int)) = false := decide_eq_false (by omega)
          have b3 : decide ((4294967296 : Int) * (r : Int) + (b : Int) < (m : Int)) = true := decide_eq_true (by omega)
          have b2 : decide ((4294967296 : Int) ≤ (r : Int) + (y1 : Int)) = true := decide_eq_true (by omega)
          clear c1 c2 hmb hx c0
          go_upto_region 28 with fail
          clear HI HM hqb hrB d5 b1 b2 i3 b3 d2 h7
          obtain ⟨z, hz⟩ : ∃ z, Q0 * Y = z := ⟨_, rfl⟩
          have d6 : (Q0 : Int) * (Y : Int) = (z : Int) := by rw [← hz]; exact (Int.natCast_mul _ _).symm
          have E7 := Lib.hid (rem_wrap R b z R0 (by rw [← hz]; exact HQR0.out) (by omega))
          clear hz
          go_wp2_with fail
          go_ret2
          exact ⟨congrArg Ending.returned (two_eq (by omega) (by rw [E7.out, pow_div])), Below.refl _ _⟩
        · have h7 := hmb c1
          have hx : q = Q0 := by rw [inv_exit HY.out hy1p HI.out (by rw [HM.out]; exact c0), HQ0.out]
          have d5 := Lib.hid (show (q : Int) = (Q0 : Int) by omega)
          have b1 : decide ((4294967296 : Int) ≤ (q : Int)) = false := decide_eq_false (by omega)
          have b3 : decide ((4294967296 : Int) * (r : Int) + (b : Int) < (m : Int)) = false := decide_eq_false (by omega)
          clear c1 c0 hmb hx
          go_upto_region 28 with fail
          rw [d5.out]
          clear HI HM hqb hrB d5 b1 b3 d2 h7 
          obtain ⟨z, hz⟩ : ∃ z, Q0 * Y = z := ⟨_, rfl⟩
          have d6 : (Q0 : Int) * (Y : Int) = (z : Int) := by rw [← hz]; exact (Int.natCast_mul _ _).symm
          have E7 := Lib.hid (rem_wrap R b z R0 (by rw [← hz]; exact HQR0.out) (by omega))
          clear hz
          go_wp2_with fail
          go_ret2
          exact ⟨congrArg Ending.returned (two_eq (by omega) (by rw [E7.out, pow_div])), Below.refl _ _⟩
end Go.Proofs.Ytofeoeknmlkjgaa
end
