/- The walk of MatFactored: the diagonal is above 0, the factor has ones on its diagonal and noughts above. -/
import Derived.Test.YtflaanfmanileaaFactorBad
import Derived.Test.YtflaanfmanileaaMatIn
set_option linter.unusedVariables false
namespace Go.Proofs.Ytflaanfmanileaa.lawMatFactored
open Go.RowKit Go.Proofs.Ytflaanfmanileaa Fx Mt
attribute [local go_sem ↓] Go.wp_at_zero Go.wp_at_succ

def Rel (n : Nat) (W1 : World) (iv : Value) (W : World) : Prop := ∃ i : Nat, i ≤ n ∧ iv = .int .i64 i ∧ W = W1
def Rel2 (n i : Nat) (W1 : World) (iv : Value) (W : World) : Prop := ∃ k : Nat, i < k ∧ k ≤ n ∧ iv = .int .i64 k ∧ W = W1

set_option maxRecDepth 100000 in
set_option maxHeartbeats 4000000 in
/-- what is refused -/
theorem tail_bad {N : Int} {A : Option Addr} {n c : Nat} {zs : List Int} {w : World} (er : Int) (her : (er != 0) = true) (hn : n * 8 ≤ 140737488355328) (h : Ints w .i64 A n zs) (hA : A = none → n = 0 ∧ c = 0)
    (hf : ∀ W A1 c1, W.ownsRow (w.heap.size + 1) 3 1 (.slice A1 n c1) n (zs.map (Value.int .i64)) → Calls Try.prog 53 #[.agg #[.int .i64 N, .slice A1 n c1]] W fun e w' => e = .returned (.tuple #[.agg #[.int .i64 0, .slice none 0 0], .slice none 0 0, .bool false, .int .i64 er]) ∧ Below W.heap.size W w') :
    Calls Try.prog 21 #[.agg #[.int .i64 N, .slice A n c]] w fun e w' => e = .returned (.bool true) ∧ Below w.heap.size w w' := by
  have ko := fun W (hI : Ints W .i64 A n zs) => own_any N A n c zs W hI hA hn
  have KO := Lib.hid ko
  have KF := Lib.hid hf
  have H := Lib.hid (h.alloc (.cells #[.int .i64 N, .slice A n c] 31))
  have B := Lib.hid ((Below.refl w.heap.size w).alloc (Nat.le_refl _) (.cells #[.int .i64 N, .slice A n c] 31))
  clear ko hf h hA
  go_enter Try.func21, Try.ntmps21
  go_wp2_with fail
  refine (KO.out _ H.out).mono ?_
  rintro e w1 ⟨A1, c1, rfl, hown, hB1⟩
  have B1 := Lib.hid (below_next B.out hB1)
  simp only [World.size_alloc] at hown
  have HO := Lib.hid hown
  clear hown hB1 H B
  go_wp2_with fail
  refine (KF.out _ A1 c1 HO.out).mono ?_
  rintro e w2 ⟨rfl, hB2⟩
  have B2 := Lib.hid (below_next B1.out hB2)
  clear hB2 B1 HO
  go_wp2_with fail
  refine (stands_any _).mono ?_
  rintro e w3 ⟨rfl, hB3⟩
  have q := (Blk.new w2 31 #[.int .i64 0, .slice none 0 0]).next hB3
  have B3 := Lib.hid (below_next (B2.out.alloc B2.out.size (.cells #[.int .i64 0, .slice none 0 0] 31)) hB3)
  have c0 := q.cell 0
  have c1 := q.cell 1
  simp only [List.setIfInBounds_toArray, List.set_cons_zero, List.set_cons_succ, List.getElem?_toArray, List.getElem?_cons_zero, List.getElem?_cons_succ] at c0 c1
  clear q hB3 B2
  go_wp2_with fail
  go_ret
  exact ⟨rfl, B3.out⟩

set_option maxRecDepth 100000 in
set_option maxHeartbeats 4000000 in
theorem walk1 (n c : Nat) (A : Option Addr) (zs : List Int) (h1 : 1 ≤ n) (h6 : n ≤ 6) (w : World) (h : Ints w .i64 A (n * n) zs) (hz : ∀ z ∈ zs, In z) (hA : A = none → n * n = 0 ∧ c = 0) :
    Calls Try.prog 21 #[.agg #[.int .i64 n, .slice A (n * n) c]] w fun e w' => e = .returned (.bool true) ∧ Below w.heap.size w w' := by
  have hp : n * n ≤ 36 := Nat.le_trans (Nat.mul_le_mul h6 h6) (by omega)
  have hpos : 0 < n * n := Nat.mul_pos h1 h1
  have kf : ∀ W A1 c1, W.ownsRow (w.heap.size + 1) 3 1 (.slice A1 (n * n) c1) (n * n) (zs.map (Value.int .i64)) → Calls Try.prog 53 #[.agg #[.int .i64 n, .slice A1 (n * n) c1]] W (FacPost n (fun j => zs.getD j 0) W) :=
    fun W A1 c1 hown => Factor_any n c1 A1 (fun j => zs.getD j 0) h1 h6 W (nums_ints (Ints.own hown) hpos) (fun t _ => getD_in hz t)
  by_cases hok : ∀ j, j < n → 0 < facD n (fun j => zs.getD j 0) j
  · have ko := fun W (hI : Ints W .i64 A (n * n) zs) => own_any n A (n * n) c zs W hI hA (by omega)
    have KO := Lib.hid ko
    have KF := Lib.hid kf
    have HOK := Lib.hid hok
    have H := Lib.hid (h.alloc (.cells #[.int .i64 n, .slice A (n * n) c] 31))
    have P := Lib.hid (Blk.new w 31 #[.int .i64 n, .slice A (n * n) c])
    have B := Lib.hid ((Below.refl w.heap.size w).alloc (Nat.le_refl _) (.cells #[.int .i64 n, .slice A (n * n) c] 31))
    have habove := facS_above (n := n) (fun j => zs.getD j 0) n
    have hone := fun j hj => facS_one (n := n) (fun j => zs.getD j 0) n j hj (Nat.le_refl _)
    have HAB := Lib.hid habove
    have HONE := Lib.hid hone
    clear ko kf hok h hA hz habove hone
    go_enter Try.func21, Try.ntmps21
    go_wp2_with fail
    refine (KO.out _ H.out).mono ?_
    rintro e w1 ⟨A1, c1, rfl, hown, hB1⟩
    have B1 := Lib.hid (below_next B.out hB1)
    have P1 := Lib.hid (P.out.next hB1)
    simp only [World.size_alloc] at hown
    have HO := Lib.hid hown
    clear hown hB1 H B P
    go_wp2_with fail
    refine (KF.out _ A1 c1 HO.out).mono ?_
    rintro e w2 hpost
    rcases hpost with ⟨_, g, v, o, rfl, hg, hb, hd, hvg, hB2⟩ | ⟨hno, _⟩
    rotate_left
    · exact absurd HOK.out hno
    obtain ⟨gd, cd, rfl, _⟩ := own_form hd h1
    have hId := Ints.own hd
    have hgd := (hd.lt gd rfl).2
    obtain ⟨_, _, e0, _, hcd⟩ := hId.2 h1
    cases e0
    unfold matV
    have B2 := Lib.hid (below_next B1.out hB2)
    have pq := P1.out.next hB2
    have LP := pq.lt
    have q := Blk.new w2 31 #[.int .i64 n, .slice (some ⟨g, 0, none⟩) (n * n) (n * n)]
    have pq := pq.alloc (.cells #[.int .i64 n, .slice (some ⟨g, 0, none⟩) (n * n) (n * n)] 31)
    have hb3 := hb.alloc (.cells #[.int .i64 n, .slice (some ⟨g, 0, none⟩) (n * n) (n * n)] 31)
    have hL : ∀ t, t < n * n → (w2.alloc (.cells #[.int .i64 n, .slice (some ⟨g, 0, none⟩) (n * n) (n * n)] 31)).cell? ⟨g, t, none⟩ = some (.int .i64 (facL n (fun j => zs.getD j 0) t)) := fun t ht => (hb3.cell t).trans (tabN_get _ ht)
    have hD : ∀ k, k < n → (w2.alloc (.cells #[.int .i64 n, .slice (some ⟨g, 0, none⟩) (n * n) (n * n)] 31)).cell? ⟨gd, k, none⟩ = some (.int .i64 (facD n (fun j => zs.getD j 0) k)) := fun k hk =>
      (((Below.refl w2.heap.size w2).alloc (Nat.le_refl _) (.cells #[.int .i64 n, .slice (some ⟨g, 0, none⟩) (n * n) (n * n)] 31)).cell (p := ⟨gd, k, none⟩) hgd).trans (by have := hcd k hk; rw [Nat.zero_add] at this; rw [this, lsN_get _ hk])
    have B3 := Lib.hid (B2.out.alloc B2.out.size (.cells #[.int .i64 n, .slice (some ⟨g, 0, none⟩) (n * n) (n * n)] 31))
    have c0 := q.cell 0
    have c1 := q.cell 1
    have c2 := pq.cell 0
    simp only [List.setIfInBounds_toArray, List.set_cons_zero, List.set_cons_succ, List.getElem?_toArray, List.getElem?_cons_zero, List.getElem?_cons_succ] at c0 c1 c2
    have hn1 : (0 : Int) ≤ (n : Int) * (n : Int) := by exact_mod_cast Nat.zero_le (n * n)
    have hn2 : (n : Int) * (n : Int) ≤ 36 := by exact_mod_cast hp
    have hn3 : IntKind.i64.wrap ((n : Int) * (n : Int)) = (n : Int) * (n : Int) := IntWalk.i64_in _ (by omega)
    have t1 : ((n : Int) != (n : Int)) = false := by simp
    have t2 : (((n * n : Nat) : Int) != (n : Int) * (n : Int)) = false := by simp
    have t3 : ((n : Int) * (n : Int) != (n : Int) * (n : Int)) = false := by simp
    have HL := Lib.hid hL
    have HD := Lib.hid hD
    clear hL hD hb hb3 q pq hcd hId hd hB2 P1 B1 B2 KF KO HO
    go_wp2_with fail
    generalize w2.alloc (Obj.cells _ _) = W1 at *
    go_loopw [7] (fun iv W => Rel n W1 iv W) (fun iv _ => n - (intOf iv).toNat)
    case atStart => exact ⟨0, by omega, rfl, rfl⟩
    case round =>
      obtain ⟨i, hi, rfl, rfl⟩ := hrel
      by_cases hin : i < n
      · have hx := idx_lt hin hin
        have cD := HD.out i hin
        have cL := HL.out _ hx
        have e1 : facL n (fun j => zs.getD j 0) (i * n + i) = 4294967296 := HONE.out i hin
        rw [e1] at cL
        have hfd := HOK.out i hin
        generalize facD n (fun j => zs.getD j 0) i = di at *
        have u1 : decide (di ≤ 0) = false := decide_eq_false (by omega)
        have hq1 : (0 : Int) ≤ (i : Int) * (n : Int) := by exact_mod_cast Nat.zero_le (i * n)
        have hq2 : (i : Int) * (n : Int) ≤ 36 := by exact_mod_cast (show i * n ≤ 36 by omega)
        have hq3 : (i : Int) * (n : Int) + (i : Int) ≤ 36 := by exact_mod_cast (show i * n + i ≤ 36 by omega)
        have hq5 : (0 : Int) ≤ (i : Int) * (n : Int) + (i : Int) := by exact_mod_cast Nat.zero_le (i * n + i)
        have hq4 : (i : Int) * (n : Int) + (i : Int) < (n : Int) * (n : Int) := by exact_mod_cast hx
        have hq6 : ((i : Int) * (n : Int) + (i : Int)).toNat = i * n + i := by
          rw [show (i : Int) * (n : Int) + (i : Int) = ((i * n + i : Nat) : Int) by push_cast; rfl]; rfl
        have hq7 : IntKind.i64.wrap ((i : Int) * (n : Int)) = (i : Int) * (n : Int) := IntWalk.i64_in _ (by omega)
        have hq8 : IntKind.i64.wrap ((i : Int) * (n : Int) + (i : Int)) = (i : Int) * (n : Int) + (i : Int) := IntWalk.i64_in _ (by omega)
        have z1 : (0 : Int) ≤ (i : Int) := by omega
        have z2 : (i : Int) < (n : Int) := by omega
        clear hfd e1
        go_wp2_with fail
        clear cD cL hq1 hq2 hq3 hq4 hq5 hq6 hq7 hq8
        go_loopw [8] (fun iv W => Rel2 n i wr iv W) (fun iv _ => n - (intOf iv).toNat)
        case atStart => exact ⟨i + 1, by omega, by omega, by go_num, rfl⟩
        case round =>
          obtain ⟨k, hik, hk, rfl, rfl⟩ := hrel
          by_cases hkn : k < n
          · have hy := idx_lt hin hkn
            have cL := HL.out _ hy
            have e1 : facL n (fun j => zs.getD j 0) (i * n + k) = 0 := HAB.out i k hkn hik
            rw [e1] at cL
            have hr1 : (0 : Int) ≤ (i : Int) * (n : Int) := by exact_mod_cast Nat.zero_le (i * n)
            have hr2 : (i : Int) * (n : Int) ≤ 36 := by exact_mod_cast (show i * n ≤ 36 by omega)
            have hr3 : (i : Int) * (n : Int) + (k : Int) ≤ 36 := by exact_mod_cast (show i * n + k ≤ 36 by omega)
            have hr5 : (0 : Int) ≤ (i : Int) * (n : Int) + (k : Int) := by exact_mod_cast Nat.zero_le (i * n + k)
            have hr4 : (i : Int) * (n : Int) + (k : Int) < (n : Int) * (n : Int) := by exact_mod_cast hy
            have hr6 : ((i : Int) * (n : Int) + (k : Int)).toNat = i * n + k := by
              rw [show (i : Int) * (n : Int) + (k : Int) = ((i * n + k : Nat) : Int) by push_cast; rfl]; rfl
            have hr7 : IntKind.i64.wrap ((i : Int) * (n : Int)) = (i : Int) * (n : Int) := IntWalk.i64_in _ (by omega)
            have hr8 : IntKind.i64.wrap ((i : Int) * (n : Int) + (k : Int)) = (i : Int) * (n : Int) + (k : Int) := IntWalk.i64_in _ (by omega)
            clear e1
            go_wp2_with fail
            go_roundw
            case rel => exact ⟨k + 1, by omega, by omega, by go_num, rfl⟩
            case measure => simp [intOf]; omega
          · obtain rfl : n = k := by omega
            go_wp2_with fail
            go_roundw
            case rel => exact ⟨i + 1, by omega, by go_num, rfl⟩
            case measure => simp [intOf]; omega
      · obtain rfl : n = i := by omega
        go_wp2_with fail
        refine (stands_any _).mono ?_
        rintro e w3 ⟨rfl, hB3⟩
        have B4 := Lib.hid (below_next B3.out hB3)
        clear hB3
        go_wp2_with fail
        go_ret
        exact ⟨rfl, B4.out⟩
  · exact tail_bad 9 (by decide) (by omega) h hA (fun W A1 c1 hown => (kf W A1 c1 hown).mono (by
      rintro e w' (⟨hok', _⟩ | ⟨_, he, hB⟩)
      · exact absurd hok' hok
      · exact ⟨he, hB⟩))

set_option maxRecDepth 100000 in
theorem walk {H : Type} {enc : TypeId × Value → H} {d0 : DataW H} {p0 : List MemPlace} (v0 : Value) (W : World) (base : Nat)
    (h0 : Value.okWide Try.prog W .any base 31 v0) (k0 : DataW.Trod enc Try.prog W 0 (fun _ => true) true 31 v0 d0 p0)
    (s0 : ∀ x ∈ d0.weights Try.prog 31, x ≤ reachBytes) :
    Calls Try.prog 21 #[v0] W fun e w' => e = .returned (.bool true) ∧ Below W.heap.size W w' := by
  obtain ⟨N, A, n, c, zs, rfl, iN, hI, hz, hA, hnc, hn⟩ := mat_in h0 k0 s0
  cases hg : goodB N n with
  | true =>
    obtain ⟨k, rfl, rfl, h1, h6⟩ := goodK hg
    exact walk1 k c A zs h1 h6 W hI hz hA
  | false => exact tail_bad 8 (by decide) (by omega) hI hA (fun W' A1 c1 _ => Factor_bad N A1 n c1 (by omega) hg W')
end Go.Proofs.Ytflaanfmanileaa.lawMatFactored
