/- The walk of MatTurnTwice: to turn a matrix twice is to leave it. -/
import Derived.Test.YtflaanfmanileaaMatArg
set_option linter.unusedVariables false
namespace Go.Proofs.Ytflaanfmanileaa.Mt
open Go.RowKit Go.Proofs.Ytflaanfmanileaa Fx

theorem good_of {N : Int} {n : Nat} (h : goodB N n = true) : ∃ k : Nat, N = k ∧ n = k * k ∧ 1 ≤ k ∧ k ≤ 6 := by
  unfold goodB at h
  rw [decide_eq_true_iff] at h
  obtain ⟨h1, h2, h3⟩ := h
  obtain ⟨k, rfl⟩ := Int.eq_ofNat_of_zero_le (show 0 ≤ N by omega)
  exact ⟨k, rfl, by exact_mod_cast h3, by omega, by omega⟩
theorem ints_of_blk {W : World} {g n : Nat} {t : TypeId} {f : Nat → Int} {zs : List Int} (h : Blk W g t (tabN n f)) (hl : zs.length = n) (hf : ∀ j, j < n → f j = zs.getD j 0) : Ints W .i64 (some ⟨g, 0, none⟩) n zs := by
  refine ⟨hl, fun _ => ⟨g, 0, rfl, h.lt, fun j hj => ?_⟩⟩
  rw [Nat.zero_add, h.cell j, tabN_get f hj, hf j hj]
end Go.Proofs.Ytflaanfmanileaa.Mt

namespace Go.Proofs.Ytflaanfmanileaa.lawMatTurnTwice
open Go.RowKit Go.Proofs.Ytflaanfmanileaa Fx Mt

set_option maxRecDepth 100000 in
set_option maxHeartbeats 4000000 in
theorem walk1 (k c : Nat) (A : Option Addr) (zs : List Int) (h1 : 1 ≤ k) (h6 : k ≤ 6) (w : World) (h : Ints w .i64 A (k * k) zs) (hA : A = none → k * k = 0 ∧ c = 0) :
    Calls Try.prog 6 #[.agg #[.int .i64 k, .slice A (k * k) c]] w fun e w' => e = .returned (.bool true) ∧ Below w.heap.size w w' := by
  have hp : k * k ≤ 36 := Nat.le_trans (Nat.mul_le_mul h6 h6) (by omega)
  have hpos : 0 < k * k := Nat.mul_pos h1 h1
  have ko := fun W (hI : Ints W .i64 A (k * k) zs) => own_any (k : Int) A (k * k) c zs W hI hA (by omega)
  have kt1 := fun W A' c' (hN : Nums W A' (k * k) (fun j => zs.getD j 0)) => Turn_any k c' A' _ h1 h6 W hN
  have kt2 := fun W g (hN : Nums W (some ⟨g, 0, none⟩) (k * k) (turnF k fun j => zs.getD j 0)) => Turn_any k (k * k) (some ⟨g, 0, none⟩) _ h1 h6 W hN
  unfold matV at kt1 kt2
  have ks := fun W g (hg : Ints W .i64 (some ⟨g, 0, none⟩) (k * k) zs) (hI : Ints W .i64 A (k * k) zs) => same_true (some ⟨g, 0, none⟩) A (k * k) (k * k) c zs W hg hI (by omega)
  have KO := Lib.hid ko
  have KT1 := Lib.hid kt1
  have KT2 := Lib.hid kt2
  have KS := Lib.hid ks
  have H := Lib.hid (h.alloc (.cells #[.int .i64 k, .slice A (k * k) c] 31))
  have P := Lib.hid (Blk.new w 31 #[.int .i64 k, .slice A (k * k) c])
  have B := Lib.hid ((Below.refl w.heap.size w).alloc (Nat.le_refl _) (.cells #[.int .i64 k, .slice A (k * k) c] 31))
  have HL := Lib.hid h.1
  have tk : ((k : Int) == (k : Int)) = true := by simp
  clear ko kt1 kt2 ks h hA
  go_enter Try.func6, Try.ntmps6
  go_wp2_with fail
  refine (KO.out _ H.out).mono ?_
  rintro e w1 ⟨A1, c1, rfl, hown, hB1⟩
  have I1 := Lib.hid (nums_ints (Ints.own hown) hpos)
  have H1 := Lib.hid (H.out.next hB1)
  have P1 := Lib.hid (P.out.next hB1)
  have B1 := Lib.hid (below_next B.out hB1)
  clear hown hB1 H P B KO
  go_wp2_with fail
  refine (KT1.out _ A1 c1 I1.out).mono ?_
  rintro e w2 ⟨g, rfl, hg, hb, hB2⟩
  have h2B := below_next B1.out hB2
  have G2 := Lib.hid (hb.alloc (.cells #[.int .i64 k, .slice (some ⟨g, 0, none⟩) (k * k) (k * k)] 31))
  have H2 := Lib.hid ((H1.out.next hB2).alloc (.cells #[.int .i64 k, .slice (some ⟨g, 0, none⟩) (k * k) (k * k)] 31))
  have P2 := Lib.hid ((P1.out.next hB2).alloc (.cells #[.int .i64 k, .slice (some ⟨g, 0, none⟩) (k * k) (k * k)] 31))
  have B2 := Lib.hid (h2B.alloc h2B.size (.cells #[.int .i64 k, .slice (some ⟨g, 0, none⟩) (k * k) (k * k)] 31))
  clear hb hB2 h2B H1 P1 B1 I1 KT1
  go_wp2_with fail
  refine (KT2.out _ g (nums_blk G2.out)).mono ?_
  rintro e w3 ⟨g2, rfl, hg2, hb, hB3⟩
  have h3B := below_next B2.out hB3
  have G3 := Lib.hid (hb.alloc (.cells #[.int .i64 k, .slice (some ⟨g2, 0, none⟩) (k * k) (k * k)] 31))
  have H3 := Lib.hid ((H2.out.next hB3).alloc (.cells #[.int .i64 k, .slice (some ⟨g2, 0, none⟩) (k * k) (k * k)] 31))
  have P3 := Lib.hid ((P2.out.next hB3).alloc (.cells #[.int .i64 k, .slice (some ⟨g2, 0, none⟩) (k * k) (k * k)] 31))
  have Q3 := Lib.hid (Blk.new w3 31 #[.int .i64 k, .slice (some ⟨g2, 0, none⟩) (k * k) (k * k)])
  have B3 := Lib.hid (h3B.alloc h3B.size (.cells #[.int .i64 k, .slice (some ⟨g2, 0, none⟩) (k * k) (k * k)] 31))
  clear hb hB3 h3B H2 P2 B2 G2 KT2
  go_wp2_with fail
  refine (stands_any _).mono ?_
  rintro e w4 ⟨rfl, hB4⟩
  have G4 := Lib.hid (ints_of_blk (G3.out.next hB4) HL.out (fun j hj => turn_twice _ hj))
  have H4 := Lib.hid (H3.out.next hB4)
  have p4 := P3.out.next hB4
  have q4 := Q3.out.next hB4
  have B4 := Lib.hid (below_next B3.out hB4)
  have c0 := p4.cell 0
  have c1' := p4.cell 1
  have c2 := q4.cell 0
  have c3 := q4.cell 1
  simp only [List.getElem?_toArray, List.getElem?_cons_zero, List.getElem?_cons_succ] at c0 c1' c2 c3
  clear hB4 H3 P3 Q3 B3 G3 p4 q4
  go_wp2_with fail
  refine (KS.out _ g2 G4.out H4.out).mono ?_
  rintro e w5 ⟨rfl, hB5⟩
  have B5 := Lib.hid (below_next B4.out hB5)
  clear hB5 c0 c1' c2 c3
  go_wp2_with fail
  go_ret
  exact ⟨rfl, B5.out⟩

set_option maxRecDepth 100000 in
set_option maxHeartbeats 4000000 in
theorem walk2 (N : Int) (n c : Nat) (A : Option Addr) (zs : List Int) (w : World) (h : Ints w .i64 A n zs) (hA : A = none → n = 0 ∧ c = 0) (hn : n * 8 ≤ 140737488355328) (hbad : goodB N n = false) :
    Calls Try.prog 6 #[.agg #[.int .i64 N, .slice A n c]] w fun e w' => e = .returned (.bool true) ∧ Below w.heap.size w w' := by
  have ko := fun W (hI : Ints W .i64 A n zs) => own_any N A n c zs W hI hA hn
  have kt := fun W A' c' => Turn_bad N A' n c' (by omega) hbad W
  have kg := fun W A' c' => Good_any N A' n c' W (by omega)
  rw [hbad] at kg
  have KO := Lib.hid ko
  have KT := Lib.hid kt
  have KG := Lib.hid kg
  have H := Lib.hid (h.alloc (.cells #[.int .i64 N, .slice A n c] 31))
  have P := Lib.hid (Blk.new w 31 #[.int .i64 N, .slice A n c])
  have B := Lib.hid ((Below.refl w.heap.size w).alloc (Nat.le_refl _) (.cells #[.int .i64 N, .slice A n c] 31))
  clear ko kt kg h hA hbad
  go_enter Try.func6, Try.ntmps6
  go_wp2_with fail
  refine (KO.out _ H.out).mono ?_
  rintro e w1 ⟨A1, c1, rfl, hown, hB1⟩
  have H1 := Lib.hid (H.out.next hB1)
  have P1 := Lib.hid (P.out.next hB1)
  have B1 := Lib.hid (below_next B.out hB1)
  clear hown hB1 H P B
  go_wp2_with fail
  refine (KT.out _ A1 c1).mono ?_
  rintro e w2 ⟨rfl, hB2⟩
  have h2B := below_next B1.out hB2
  have H2 := Lib.hid ((H1.out.next hB2).alloc (.cells #[.int .i64 0, .slice none 0 0] 31))
  have P2 := Lib.hid ((P1.out.next hB2).alloc (.cells #[.int .i64 0, .slice none 0 0] 31))
  have Q2 := Lib.hid (Blk.new w2 31 #[.int .i64 0, .slice none 0 0])
  have B2 := Lib.hid (h2B.alloc h2B.size (.cells #[.int .i64 0, .slice none 0 0] 31))
  clear hB2 h2B H1 P1 B1
  go_wp2_with fail
  refine (stands_any _).mono ?_
  rintro e w3 ⟨rfl, hB3⟩
  have H3 := Lib.hid (H2.out.next hB3)
  have p3 := P2.out.next hB3
  have Q3 := Lib.hid (Q2.out.next hB3)
  have B3 := Lib.hid (below_next B2.out hB3)
  have c0 := p3.cell 0
  have c1' := p3.cell 1
  simp only [List.getElem?_toArray, List.getElem?_cons_zero, List.getElem?_cons_succ] at c0 c1'
  clear hB3 p3 H2 P2 Q2 B2
  go_wp2_with fail
  refine (KO.out _ H3.out).mono ?_
  rintro e w4 ⟨A2, c2, rfl, hown, hB4⟩
  have Q4 := Lib.hid (Q3.out.next hB4)
  have B4 := Lib.hid (below_next B3.out hB4)
  clear hown hB4 Q3 B3 c0 c1'
  go_wp2_with fail
  refine (KG.out _ A2 c2).mono ?_
  rintro e w5 ⟨rfl, hB5⟩
  have q5 := Q4.out.next hB5
  have B5 := Lib.hid (below_next B4.out hB5)
  have c0 := q5.cell 0
  have c1' := q5.cell 1
  simp only [List.getElem?_toArray, List.getElem?_cons_zero, List.getElem?_cons_succ] at c0 c1'
  clear hB5 q5 Q4 B4
  go_wp2_with fail
  go_ret
  exact ⟨rfl, B5.out⟩

set_option maxRecDepth 100000 in
theorem walk {H : Type} {enc : TypeId × Value → H} {d0 : DataW H} {p0 : List MemPlace} (v0 : Value) (W : World) (base : Nat)
    (h0 : Value.okWide Try.prog W .any base 31 v0) (k0 : DataW.Trod enc Try.prog W 0 (fun _ => true) true 31 v0 d0 p0)
    (s0 : ∀ x ∈ d0.weights Try.prog 31, x ≤ reachBytes) :
    Calls Try.prog 6 #[v0] W fun e w' => e = .returned (.bool true) ∧ Below W.heap.size W w' := by
  obtain ⟨N, A, n, c, zs, rfl, iN, hI, hz, hA, hnc, hn⟩ := mat_in h0 k0 s0
  cases hg : goodB N n with
  | true =>
    obtain ⟨k, rfl, rfl, h1, h6⟩ := good_of hg
    exact walk1 k c A zs h1 h6 W hI hA
  | false => exact walk2 N n c A zs W hI hA (by omega) hg
end Go.Proofs.Ytflaanfmanileaa.lawMatTurnTwice
