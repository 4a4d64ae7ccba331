/- The walk of MatUnit: the product with the unit matrix on either side is the matrix itself. -/
import Derived.Test.YtflaanfmanileaaMatCut
import Derived.Test.YtflaanfmanileaaWMatTurnTwice
set_option linter.unusedVariables false
namespace Go.Proofs.Ytflaanfmanileaa.lawMatUnit
open Go.RowKit Go.Proofs.Ytflaanfmanileaa Fx Mt
attribute [local go_sem ↓] Go.wp_at_zero Go.wp_at_succ

set_option maxRecDepth 100000 in
set_option maxHeartbeats 4000000 in
theorem walk1 (k c : Nat) (A : Option Addr) (zs : List Int) (h1 : 1 ≤ k) (h6 : k ≤ 6) (w : World) (h : Ints w .i64 A (k * k) zs) (hz : ∀ z ∈ zs, In z) (hA : A = none → k * k = 0 ∧ c = 0) :
    Calls Try.prog 4 #[.agg #[.int .i64 k, .slice A (k * k) c]] w fun e w' => e = .returned (.bool true) ∧ Below w.heap.size w w' := by
  have hp : k * k ≤ 36 := Nat.le_trans (Nat.mul_le_mul h6 h6) (by omega)
  have hpos : 0 < k * k := Nat.mul_pos h1 h1
  have hin : ∀ t, In (zs.getD t 0) := by
    intro t
    by_cases ht : t < zs.length
    · simp only [List.getD, List.getElem?_eq_getElem ht, Option.getD_some]; exact hz _ (List.getElem_mem ht)
    · simp only [List.getD, List.getElem?_eq_none (Nat.le_of_not_lt ht), Option.getD_none]; unfold In; omega
  have ko := fun W (hI : Ints W .i64 A (k * k) zs) => own_any (k : Int) A (k * k) c zs W hI hA (by omega)
  have kg := fun W A' c' => Good_any (k : Int) A' (k * k) c' W (by omega)
  rw [good_yes h1 h6] at kg
  have ku := fun W => unit_any k h1 h6 W
  have km1 : ∀ W A' c' g, Nums W A' (k * k) (fun j => zs.getD j 0) → Nums W (some ⟨g, 0, none⟩) (k * k) (unitF k) → Calls Try.prog 30 #[.agg #[.int .i64 k, .slice A' (k * k) c'], .agg #[.int .i64 k, .slice (some ⟨g, 0, none⟩) (k * k) (k * k)]] W fun e w' => ∃ g, e = .returned (.tuple #[matV k g, .bool false, .int .i64 0]) ∧ NewMat W w' k g (fun j => zs.getD j 0) := fun W A' c' g hA hB => by
    have h := Mul_any k c' (k * k) A' (some ⟨g, 0, none⟩) _ (unitF k) h1 h6 W hA hB (fun t _ => hin t) (fun t _ => unitF_in k t)
    rw [mul_unit_bent _ hin] at h
    refine h.mono ?_
    rintro e w' ⟨g, he, hg, hb, hB⟩
    rw [tabN_congr (fun t ht => mul_unit _ hin ht)] at hb
    exact ⟨g, he, hg, hb, hB⟩
  have km2 : ∀ W A' c' g, Nums W (some ⟨g, 0, none⟩) (k * k) (unitF k) → Nums W A' (k * k) (fun j => zs.getD j 0) → Calls Try.prog 30 #[.agg #[.int .i64 k, .slice (some ⟨g, 0, none⟩) (k * k) (k * k)], .agg #[.int .i64 k, .slice A' (k * k) c']] W fun e w' => ∃ g, e = .returned (.tuple #[matV k g, .bool false, .int .i64 0]) ∧ NewMat W w' k g (fun j => zs.getD j 0) := fun W A' c' g hB hA => by
    have h := Mul_any k (k * k) c' (some ⟨g, 0, none⟩) A' (unitF k) _ h1 h6 W hB hA (fun t _ => unitF_in k t) (fun t _ => hin t)
    rw [unit_mul_bent _ hin] at h
    refine h.mono ?_
    rintro e w' ⟨g, he, hg, hb, hB⟩
    rw [tabN_congr (fun t ht => unit_mul _ hin ht)] at hb
    exact ⟨g, he, hg, hb, hB⟩
  have ks := fun W g (hg : Ints W .i64 (some ⟨g, 0, none⟩) (k * k) zs) (hI : Ints W .i64 A (k * k) zs) => same_true (some ⟨g, 0, none⟩) A (k * k) (k * k) c zs W hg hI (by omega)
  unfold matV at ku km1 km2
  have KO := Lib.hid ko
  have KG := Lib.hid kg
  have KU := Lib.hid ku
  have KM1 := Lib.hid km1
  have KM2 := Lib.hid km2
  have KS := Lib.hid ks
  have H := Lib.hid (h.alloc (.cells #[.int .i64 k, .slice A (k * k) c] 31))
  have P := Lib.hid (Blk.new w 31 #[.int .i64 k, .slice A (k * k) c])
  have B := Lib.hid ((Below.refl w.heap.size w).alloc (Nat.le_refl _) (.cells #[.int .i64 k, .slice A (k * k) c] 31))
  have HL := Lib.hid h.1
  clear ko kg ku km1 km2 ks h hA hz hin
  go_enter Try.func4, Try.ntmps4
  go_wp2_with fail
  refine (KO.out _ H.out).mono ?_
  rintro e w1 ⟨A1, c1, rfl, hown, hB1⟩
  have H1 := Lib.hid (H.out.next hB1)
  have P1 := Lib.hid (P.out.next hB1)
  have B1 := Lib.hid (below_next B.out hB1)
  clear hown hB1 H P B
  go_wp2_with fail
  refine (KG.out _ A1 c1).mono ?_
  rintro e W0 ⟨rfl, hB2⟩
  have H2 := Lib.hid (fun W (hW : Below W0.heap.size W0 W) => (H1.out.next hB2).next hW)
  have PS := Lib.hid (fun W (hW : Below W0.heap.size W0 W) => (show W.cell? ⟨w.heap.size, 0, none⟩ = some (.int .i64 k) ∧ W.cell? ⟨w.heap.size, 1, none⟩ = some (.slice A (k * k) c) from ⟨((P1.out.next hB2).next hW).cell 0, ((P1.out.next hB2).next hW).cell 1⟩))
  have B2 := Lib.hid (below_next B1.out hB2)
  clear hB2 H1 P1 B1
  go_upto_region 3 with fail
  go_cut [3, 4, 5] (fun s3 s4 s5 wx => CutMat W0 k (fun j => zs.getD j 0) false s3 s4 s5 wx)
  case first =>
    have hF := (Below.refl W0.heap.size W0).drew
    go_region_held3 (fun w' => w'.cell? ⟨w.heap.size, 0, none⟩ = some (.int .i64 k) ∧ w'.cell? ⟨w.heap.size, 1, none⟩ = some (.slice A (k * k) c))
      (first | exact PS.out _ hF | exact PS.out _ (hF.alloc hF.size _) | exact PS.out _ ((hF.setCell hZ.2 _).setCell hZ.2 _) | exact PS.out _ (((Below.refl W0.heap.size W0).alloc (Nat.le_refl _) _).drew))
      (first
        | (go_at_call 28; (with_reducible refine (KO.out _ ?_).mono ?_); (first | exact H2.out _ hF | exact H2.out _ (((Below.refl W0.heap.size W0).alloc (Nat.le_refl _) _).drew)); rintro e w4 ⟨A1, c1, rfl, hown, hB4⟩; (first | have hF4 := below_next hF hB4 | (have hF4 := F_start0 hB4; have hZ := ZB.start0 hB4)); have hI := nums_ints (Ints.own hown) hpos; clear hF hB4 hown; have hF := hF4; clear hF4)
        | (go_at_call 31; (with_reducible refine (KU.out _).mono ?_); rintro e w4 ⟨gu, rfl, hgu, hbu, hB4⟩; (first | (have hI4 := hI.below hB4; have hF4 := below_next hF hB4; (try (have hZ4 := hZ.next hB4; clear hZ; have hZ := hZ4; clear hZ4))) | (have hI4 := (hI.alloc _).below hB4; have hF4 := F_alloc hF hB4; have hZ := ZB.start hF hB4)); clear hF hB4 hI; have hF := hF4; have hI := hI4; clear hF4 hI4)
        | (go_at_call 30; (with_reducible refine (KM1.out _ A1 c1 gu ?_ ?_).mono ?_); (first | exact hI | exact hI.alloc _); (first | exact nums_blk hbu | exact nums_blk (hbu.alloc _)); rintro e w4 ⟨g, rfl, hg, hb, hB4⟩; (first | (have hF4 := below_next hF hB4; (try (have hZ4 := hZ.next hB4; clear hZ; have hZ := hZ4; clear hZ4))) | (have hF4 := F_alloc hF hB4; have hZ := ZB.start hF hB4)); clear hF hB4 hI hbu; have hF := hF4; clear hF4; (try obtain ⟨z0, z1, z2, z3⟩ := hZ.cells)))
    all_goals (go_wp2_with fail; go_meet)
    all_goals first
      | exact cut_mk1 hZ hb hF
      | exact cut_mk2 hb hF
  case rest =>
    obtain ⟨q1, g1, rfl, rfl, rfl, hq1, hg1, hc1⟩ := hcut
    have H3 := Lib.hid (fun W (hW : Below wc.heap.size wc W) => (H2.out _ hc1).next hW)
    have PS3 := Lib.hid (fun W (hW : Below wc.heap.size wc W) => PS.out W (below_next hc1 hW))
    have B3 := Lib.hid (below_next B2.out hc1)
    have Q3 := Lib.hid (fun W (hW : Below wc.heap.size wc W) => hq1.next hW)
    have G3 := Lib.hid (fun W (hW : Below wc.heap.size wc W) => hg1.next hW)
    clear hq1 hg1 hc1 H2 PS B2 KM1 KG
    obtain ⟨W1, rfl⟩ : ∃ W1 : World, W1 = wc := ⟨_, rfl⟩
    go_upto_region 4 with fail
    go_cut [6, 7, 8] (fun s3 s4 s5 wx => CutMat W1 k (fun j => zs.getD j 0) false s3 s4 s5 wx)
    case first =>
      have hF := (Below.refl W1.heap.size W1).drew
      go_region_held3 (fun w' => w'.cell? ⟨w.heap.size, 0, none⟩ = some (.int .i64 k) ∧ w'.cell? ⟨w.heap.size, 1, none⟩ = some (.slice A (k * k) c))
        (first | exact PS3.out _ hF | exact PS3.out _ (hF.alloc hF.size _) | exact PS3.out _ ((hF.setCell hZ.2 _).setCell hZ.2 _) | exact PS3.out _ (((Below.refl W1.heap.size W1).alloc (Nat.le_refl _) _).drew))
        (first
          | (go_at_call 31; (with_reducible refine (KU.out _).mono ?_); rintro e w4 ⟨gu, rfl, hgu, hbu, hB4⟩; (first | have hF4 := below_next hF hB4 | (have hF4 := F_start0 hB4; have hZ := ZB.start0 hB4)); clear hF hB4; have hF := hF4; clear hF4)
          | (go_at_call 28; (with_reducible refine (KO.out _ ?_).mono ?_); (first | exact H3.out _ hF | exact H3.out _ (hF.alloc hF.size _)); rintro e w4 ⟨A1, c1, rfl, hown, hB4⟩; (first | (have hb5 := hbu.next hB4; have hF4 := below_next hF hB4; (try (have hZ4 := hZ.next hB4; clear hZ; have hZ := hZ4; clear hZ4))) | (have hb5 := (hbu.alloc _).next hB4; have hF4 := F_alloc hF hB4; have hZ := ZB.start hF hB4)); have hI := nums_ints (Ints.own hown) hpos; clear hF hB4 hbu hown; have hF := hF4; have hbu := hb5; clear hF4 hb5)
          | (go_at_call 30; (with_reducible refine (KM2.out _ A1 c1 gu ?_ ?_).mono ?_); (first | exact nums_blk hbu | exact nums_blk (hbu.alloc _)); (first | exact hI | exact hI.alloc _); rintro e w4 ⟨g, rfl, hg, hb, hB4⟩; (first | (have hF4 := below_next hF hB4; (try (have hZ4 := hZ.next hB4; clear hZ; have hZ := hZ4; clear hZ4))) | (have hF4 := F_alloc hF hB4; have hZ := ZB.start hF hB4)); clear hF hB4 hI hbu; have hF := hF4; clear hF4; (try obtain ⟨z0, z1, z2, z3⟩ := hZ.cells)))
      all_goals (go_wp2_with fail; go_meet)
      all_goals first
        | exact cut_mk1 hZ hb hF
        | exact cut_mk2 hb hF
    case rest =>
      obtain ⟨q2, g2, rfl, rfl, rfl, hq2, hg2, hc2⟩ := hcut
      have B4 := Lib.hid (below_next B3.out hc2)
      have H4 := Lib.hid (fun W (hW : Below wc.heap.size wc W) => H3.out W (below_next hc2 hW))
      have PS4 := Lib.hid (fun W (hW : Below wc.heap.size wc W) => PS3.out W (below_next hc2 hW))
      have Q4 := Lib.hid (fun W (hW : Below wc.heap.size wc W) => (Q3.out W (below_next hc2 hW)))
      have G4 := Lib.hid (fun W (hW : Below wc.heap.size wc W) => (G3.out W (below_next hc2 hW)))
      have R4 := Lib.hid (fun W (hW : Below wc.heap.size wc W) => hq2.next hW)
      have J4 := Lib.hid (fun W (hW : Below wc.heap.size wc W) => hg2.next hW)
      clear hq2 hg2 hc2 H3 PS3 B3 Q3 G3 KM2 KU KO
      go_wp2_with fail
      refine (stands_any _).mono ?_
      rintro e w5 ⟨rfl, hB5⟩
      have B5 := Lib.hid (below_next B4.out hB5)
      have c0 := (Q4.out _ hB5).cell 1
      obtain ⟨c1, c2⟩ := PS4.out _ hB5
      simp only [List.getElem?_toArray, List.getElem?_cons_zero, List.getElem?_cons_succ] at c0
      have I5 := Lib.hid (ints_of_blk (G4.out _ hB5) HL.out (fun j _ => rfl))
      have H5 := Lib.hid (H4.out _ hB5)
      go_wp2_with fail
      refine (KS.out _ g1 I5.out H5.out).mono ?_
      rintro e w6 ⟨rfl, hB6⟩
      have hF6 := below_next hB5 hB6
      have B6 := Lib.hid (below_next B5.out hB6)
      clear c0 c1 c2
      have c0 := (R4.out _ hF6).cell 1
      obtain ⟨c1, c2⟩ := PS4.out _ hF6
      simp only [List.getElem?_toArray, List.getElem?_cons_zero, List.getElem?_cons_succ] at c0
      have I6 := Lib.hid (ints_of_blk (J4.out _ hF6) HL.out (fun j _ => rfl))
      have H6 := Lib.hid (H4.out _ hF6)
      clear hF6 hB5 hB6
      go_wp2_with fail
      refine (KS.out _ g2 I6.out H6.out).mono ?_
      rintro e w7 ⟨rfl, hB7⟩
      have B7 := Lib.hid (below_next B6.out hB7)
      clear hB7 c0 c1 c2
      go_wp2_with fail
      go_ret
      exact ⟨rfl, B7.out⟩

set_option maxRecDepth 100000 in
set_option maxHeartbeats 4000000 in
theorem walk2 (N : Int) (n c : Nat) (A : Option Addr) (zs : List Int) (w : World) (h : Ints w .i64 A n zs) (hA : A = none → n = 0 ∧ c = 0) (hn : n * 8 ≤ 140737488355328) (hbad : goodB N n = false) :
    Calls Try.prog 4 #[.agg #[.int .i64 N, .slice A n c]] w fun e w' => e = .returned (.bool true) ∧ Below w.heap.size w w' := by
  have ko := fun W (hI : Ints W .i64 A n zs) => own_any N A n c zs W hI hA hn
  have kg := fun W A' c' => Good_any N A' n c' W (by omega)
  rw [hbad] at kg
  have KO := Lib.hid ko
  have KG := Lib.hid kg
  have H := Lib.hid (h.alloc (.cells #[.int .i64 N, .slice A n c] 31))
  have B := Lib.hid ((Below.refl w.heap.size w).alloc (Nat.le_refl _) (.cells #[.int .i64 N, .slice A n c] 31))
  clear ko kg h hA hbad
  go_enter Try.func4, Try.ntmps4
  go_wp2_with fail
  refine (KO.out _ H.out).mono ?_
  rintro e w1 ⟨A1, c1, rfl, hown, hB1⟩
  have B1 := Lib.hid (below_next B.out hB1)
  clear hown hB1 H B
  go_wp2_with fail
  refine (KG.out _ A1 c1).mono ?_
  rintro e w2 ⟨rfl, hB2⟩
  have B2 := Lib.hid (below_next B1.out hB2)
  clear hB2 B1
  go_wp2_with fail
  refine (stands_any _).mono ?_
  rintro e w3 ⟨rfl, hB3⟩
  have B3 := Lib.hid (below_next B2.out hB3)
  clear hB3 B2
  go_wp2_with fail
  go_ret
  exact ⟨rfl, B3.out⟩

set_option maxRecDepth 100000 in
theorem walk {H : Type} {enc : TypeId × Value → H} {d0 : DataW H} {p0 : List MemPlace} (v0 : Value) (W : World) (base : Nat)
    (h0 : Value.okWide Try.prog W .any base 31 v0) (k0 : DataW.Trod enc Try.prog W 0 (fun _ => true) true 31 v0 d0 p0)
    (s0 : ∀ x ∈ d0.weights Try.prog 31, x ≤ reachBytes) :
    Calls Try.prog 4 #[v0] W fun e w' => e = .returned (.bool true) ∧ Below W.heap.size W w' := by
  obtain ⟨N, A, n, c, zs, rfl, iN, hI, hz, hA, hnc, hn⟩ := mat_in h0 k0 s0
  cases hg : goodB N n with
  | true =>
    obtain ⟨k, rfl, rfl, h1, h6⟩ := good_of hg
    exact walk1 k c A zs h1 h6 W hI hz hA
  | false => exact walk2 N n c A zs W hI hA (by omega) hg
end Go.Proofs.Ytflaanfmanileaa.lawMatUnit
