/- The walk of MatTurnMul: the turned product is the product of the turned ones, swapped. -/
import Derived.Test.YtflaanfmanileaaMatCut
import Derived.Test.YtflaanfmanileaaMatBad2
import Derived.Test.YtflaanfmanileaaWMatTurnTwice
set_option linter.unusedVariables false
namespace Go.Proofs.Ytflaanfmanileaa.lawMatTurnMul
open Go.RowKit Go.Proofs.Ytflaanfmanileaa Fx Mt
attribute [local go_sem ↓] Go.wp_at_zero Go.wp_at_succ

set_option maxRecDepth 100000 in
set_option maxHeartbeats 4000000 in
theorem walk1 (k c d : Nat) (A B : Option Addr) (zs ys : List Int) (h1 : 1 ≤ k) (h6 : k ≤ 6) (w : World) (h : Ints w .i64 A (k * k) zs) (hz : ∀ z ∈ zs, In z) (hA : A = none → k * k = 0 ∧ c = 0)
    (h' : Ints w .i64 B (k * k) ys) (hy : ∀ z ∈ ys, In z) (hB : B = none → k * k = 0 ∧ d = 0) :
    Calls Try.prog 7 #[.agg #[.int .i64 k, .slice A (k * k) c], .agg #[.int .i64 k, .slice B (k * k) d]] w fun e w' => e = .returned (.bool true) ∧ Below w.heap.size w w' := by
  have hp : k * k ≤ 36 := Nat.le_trans (Nat.mul_le_mul h6 h6) (by omega)
  have hpos : 0 < k * k := Nat.mul_pos h1 h1
  have hin : ∀ (zs : List Int), (∀ z ∈ zs, In z) → ∀ t, In (zs.getD t 0) := by
    intro zs hz t
    by_cases ht : t < zs.length
    · simp only [List.getD, List.getElem?_eq_getElem ht, Option.getD_some]; exact hz _ (List.getElem_mem ht)
    · simp only [List.getD, List.getElem?_eq_none (Nat.le_of_not_lt ht), Option.getD_none]; unfold In; omega
  have ko := fun W (hI : Ints W .i64 A (k * k) zs) => own_any (k : Int) A (k * k) c zs W hI hA (by omega)
  have ko2 := fun W (hI : Ints W .i64 B (k * k) ys) => own_any (k : Int) B (k * k) d ys W hI hB (by omega)
  have hzi := hin zs hz
  have hyi := hin ys hy
  have HZL := h.1
  generalize hf : (fun j => zs.getD j 0) = f at *
  generalize hg : (fun j => ys.getD j 0) = g at *
  have hfi : ∀ t, In (f t) := fun t => by rw [← hf]; exact hzi t
  have hgi : ∀ t, In (g t) := fun t => by rw [← hg]; exact hyi t
  have nf : ∀ W A', Ints W .i64 A' (k * k) zs → Nums W A' (k * k) f := fun W A' hI => by rw [← hf]; exact nums_ints hI hpos
  have ng : ∀ W A', Ints W .i64 A' (k * k) ys → Nums W A' (k * k) g := fun W A' hI => by rw [← hg]; exact nums_ints hI hpos
  obtain ⟨o, ho⟩ : ∃ o, allO k f g k = o := ⟨_, rfl⟩
  have km : ∀ W A' c' B' d', Nums W A' (k * k) f → Nums W B' (k * k) g → Calls Try.prog 30 #[.agg #[.int .i64 k, .slice A' (k * k) c'], .agg #[.int .i64 k, .slice B' (k * k) d']] W fun e w' => ∃ g1, e = .returned (.tuple #[matV k g1, .bool o, .int .i64 0]) ∧ NewMat W w' k g1 (mulF k f g) := fun W A' c' B' d' hA hB => by
    have h := Mul_any k c' d' A' B' f g h1 h6 W hA hB (fun t _ => hfi t) (fun t _ => hgi t)
    rw [ho] at h
    exact h
  have km2 : ∀ W u v, Nums W (some ⟨u, 0, none⟩) (k * k) (turnF k g) → Nums W (some ⟨v, 0, none⟩) (k * k) (turnF k f) → Calls Try.prog 30 #[.agg #[.int .i64 k, .slice (some ⟨u, 0, none⟩) (k * k) (k * k)], .agg #[.int .i64 k, .slice (some ⟨v, 0, none⟩) (k * k) (k * k)]] W fun e w' => ∃ g1, e = .returned (.tuple #[matV k g1, .bool o, .int .i64 0]) ∧ NewMat W w' k g1 (turnF k (mulF k f g)) := fun W u v hA hB => by
    have h := Mul_any k (k * k) (k * k) _ _ (turnF k g) (turnF k f) h1 h6 W hA hB (fun t _ => hgi _) (fun t _ => hfi _)
    rw [turn_bent, ho] at h
    refine h.mono ?_
    rintro e w' ⟨g1, he, hg1, hb, hB⟩
    rw [tabN_congr (fun t ht => turn_mul f g ht)] at hb
    exact ⟨g1, he, hg1, hb, hB⟩
  have kt : ∀ W A' c' F, Nums W A' (k * k) F → Calls Try.prog 35 #[.agg #[.int .i64 k, .slice A' (k * k) c']] W fun e w' => ∃ g, e = .returned (.tuple #[matV k g, .int .i64 0]) ∧ NewMat W w' k g (turnF k F) := fun W A' c' F hN => Turn_any k c' A' F h1 h6 W hN
  have ks := fun W u v (hu : Blk W u 3 (tabN (k * k) (turnF k (mulF k f g)))) (hv : Blk W v 3 (tabN (k * k) (turnF k (mulF k f g)))) => same_blks u v (k * k) (k * k) (k * k) _ _ _ W hu hv hp
  unfold matV at km km2 kt
  have too : (o == o) = true := by simp
  have KO := Lib.hid ko
  have KO2 := Lib.hid ko2
  have KM := Lib.hid km
  have KM2 := Lib.hid km2
  have KT := Lib.hid kt
  have KS := Lib.hid ks
  have NF := Lib.hid nf
  have NG := Lib.hid ng
  have BW := Lib.hid (((Below.refl w.heap.size w).alloc (Nat.le_refl _) (.cells #[.int .i64 k, .slice A (k * k) c] 31)).alloc (by simp) (.cells #[.int .i64 k, .slice B (k * k) d] 31))
  have H := Lib.hid ((h.alloc (.cells #[.int .i64 k, .slice A (k * k) c] 31)).alloc (.cells #[.int .i64 k, .slice B (k * k) d] 31))
  have H' := Lib.hid ((h'.alloc (.cells #[.int .i64 k, .slice A (k * k) c] 31)).alloc (.cells #[.int .i64 k, .slice B (k * k) d] 31))
  have P := Lib.hid ((Blk.new w 31 #[.int .i64 k, .slice A (k * k) c]).alloc (.cells #[.int .i64 k, .slice B (k * k) d] 31))
  have P' := Lib.hid (Blk.at_ (w.alloc (.cells #[.int .i64 k, .slice A (k * k) c] 31)) (w.heap.size + 1) 31 #[.int .i64 k, .slice B (k * k) d] (by simp))
  clear ko ko2 km km2 kt ks nf ng h h' hz hy hA hB hin hzi hyi hf hg hfi hgi ho HZL
  go_enter Try.func7, Try.ntmps7
  go_upto_region 1 with fail
  generalize (w.alloc (.cells #[.int .i64 k, .slice A (k * k) c] 31)).alloc (.cells #[.int .i64 k, .slice B (k * k) d] 31) = W0 at *
  have H2 := Lib.hid (fun W (hW : Below W0.heap.size W0 W) => H.out.next hW)
  have H3 := Lib.hid (fun W (hW : Below W0.heap.size W0 W) => H'.out.next hW)
  have PS := Lib.hid (fun W (hW : Below W0.heap.size W0 W) => (show W.cell? ⟨w.heap.size, 0, none⟩ = some (.int .i64 k) ∧ W.cell? ⟨w.heap.size, 1, none⟩ = some (.slice A (k * k) c) ∧ W.cell? ⟨w.heap.size + 1, 0, none⟩ = some (.int .i64 k) ∧ W.cell? ⟨w.heap.size + 1, 1, none⟩ = some (.slice B (k * k) d) from
    ⟨(P.out.next hW).cell 0, (P.out.next hW).cell 1, (P'.out.next hW).cell 0, (P'.out.next hW).cell 1⟩))
  clear H H' P P'
  go_cut [5, 6, 7] (fun s3 s4 s5 wx => CutMat W0 k (mulF k f g) o s3 s4 s5 wx)
  case first =>
    have hF := (Below.refl W0.heap.size W0).drew
    go_region_held3 (fun w' => w'.cell? ⟨w.heap.size, 0, none⟩ = some (.int .i64 k) ∧ w'.cell? ⟨w.heap.size, 1, none⟩ = some (.slice A (k * k) c) ∧ w'.cell? ⟨w.heap.size + 1, 0, none⟩ = some (.int .i64 k) ∧ w'.cell? ⟨w.heap.size + 1, 1, none⟩ = some (.slice B (k * k) d))
      (first | exact PS.out _ hF | exact PS.out _ (hF.alloc hF.size _) | exact PS.out _ ((hF.setCell hZ.2 _).setCell hZ.2 _) | exact PS.out _ (((Below.refl W0.heap.size W0).alloc (Nat.le_refl _) _).drew))
      (first
        | (go_at_call 28; (with_reducible refine (KO.out _ ?_).mono ?_); (first | exact H2.out _ hF | exact H2.out _ (((Below.refl W0.heap.size W0).alloc (Nat.le_refl _) _).drew)); rintro e w4 ⟨A1, c1, rfl, hown, hB4⟩; (first | have hF4 := below_next hF hB4 | (have hF4 := F_start0 hB4; have hZ := ZB.start0 hB4)); have hI := NF.out _ _ (Ints.own hown); clear hF hB4 hown; have hF := hF4; clear hF4)
        | (go_at_call 28; (with_reducible refine (KO2.out _ ?_).mono ?_); (first | exact H3.out _ hF | exact H3.out _ (hF.alloc hF.size _)); rintro e w4 ⟨A2, c2, rfl, hown, hB4⟩; (first | (have hI5 := hI.below hB4; have hF4 := below_next hF hB4; (try (have hZ4 := hZ.next hB4; clear hZ; have hZ := hZ4; clear hZ4))) | (have hI5 := (hI.alloc _).below hB4; have hF4 := F_alloc hF hB4; have hZ := ZB.start hF hB4)); have hJ := NG.out _ _ (Ints.own hown); clear hF hB4 hI hown; have hF := hF4; have hI := hI5; clear hF4 hI5)
        | (go_at_call 30; (with_reducible refine (KM.out _ A1 c1 A2 c2 ?_ ?_).mono ?_); (first | exact hI | exact hI.alloc _); (first | exact hJ | exact hJ.alloc _); rintro e w4 ⟨g1, rfl, hg1, hb, hB4⟩; (first | (have hF4 := below_next hF hB4; (try (have hZ4 := hZ.next hB4; clear hZ; have hZ := hZ4; clear hZ4))) | (have hF4 := F_alloc hF hB4; have hZ := ZB.start hF hB4)); clear hF hB4 hI hJ; have hF := hF4; clear hF4; (try obtain ⟨z0, z1, z2, z3⟩ := hZ.cells)))
    all_goals (go_wp2_with fail; go_meet)
    all_goals first
      | exact cut_mk1 hZ hb hF
      | exact cut_mk2 hb hF
  case rest =>
    obtain ⟨q1, g1, rfl, rfl, rfl, hq1, hg1, hc1⟩ := hcut
    have Q := Lib.hid (fun W (hW : Below wc.heap.size wc W) => hq1.next hW)
    have G := Lib.hid (fun W (hW : Below wc.heap.size wc W) => hg1.next hW)
    have I := Lib.hid (fun W (hW : Below wc.heap.size wc W) => H2.out W (below_next hc1 hW))
    have J := Lib.hid (fun W (hW : Below wc.heap.size wc W) => H3.out W (below_next hc1 hW))
    have PC := Lib.hid (fun W (hW : Below wc.heap.size wc W) => PS.out W (below_next hc1 hW))
    have BC := Lib.hid (below_next BW.out hc1)
    clear hq1 hg1 hc1 H2 H3 PS BW KM
    obtain ⟨W1, rfl⟩ : ∃ W1 : World, W1 = wc := ⟨_, rfl⟩
    have hF := Below.refl W1.heap.size W1
    obtain ⟨c0, c1, -, -⟩ := PC.out _ hF
    have I0 := Lib.hid (I.out _ hF)
    have F := Lib.hid hF
    clear hF
    go_wp2_with fail
    refine (KO.out _ I0.out).mono ?_
    rintro e w2 ⟨A1, d1, rfl, hown, hB2⟩
    have N2 := Lib.hid (NF.out _ _ (Ints.own hown))
    have F2 := Lib.hid (below_next F.out hB2)
    clear hown hB2 I0 c0 c1 F
    go_wp2_with fail
    refine (KT.out _ A1 d1 f N2.out).mono ?_
    rintro e w3 ⟨g2, rfl, hg2, hb2, hB3⟩
    have F3 := Lib.hid ((below_next F2.out hB3).alloc ((below_next F2.out hB3).size) (.cells #[.int .i64 k, .slice (some ⟨g2, 0, none⟩) (k * k) (k * k)] 31))
    have G2 := Lib.hid (hb2.alloc (.cells #[.int .i64 k, .slice (some ⟨g2, 0, none⟩) (k * k) (k * k)] 31))
    have Q2 := Lib.hid (Blk.new w3 31 #[.int .i64 k, .slice (some ⟨g2, 0, none⟩) (k * k) (k * k)])
    clear hb2 hg2 hB3 F2 N2
    obtain ⟨-, -, c2, c3⟩ := PC.out _ F3.out
    have J3 := Lib.hid (J.out _ F3.out)
    go_upto_region 5 with fail
    go_wp2_with fail
    refine (KO2.out _ J3.out).mono ?_
    rintro e w4 ⟨A2, d2, rfl, hown, hB4⟩
    have N4 := Lib.hid (NG.out _ _ (Ints.own hown))
    have F4 := Lib.hid (below_next F3.out hB4)
    have G4 := Lib.hid (G2.out.next hB4)
    have Q4 := Lib.hid (Q2.out.next hB4)
    clear hown hB4 J3 c2 c3 F3 G2 Q2
    go_wp2_with fail
    refine (KT.out _ A2 d2 g N4.out).mono ?_
    rintro e w5 ⟨g3, rfl, hg3, hb3, hB5⟩
    have F5 := Lib.hid ((below_next F4.out hB5).alloc ((below_next F4.out hB5).size) (.cells #[.int .i64 k, .slice (some ⟨g3, 0, none⟩) (k * k) (k * k)] 31))
    have G5 := Lib.hid ((G4.out.next hB5).alloc (.cells #[.int .i64 k, .slice (some ⟨g3, 0, none⟩) (k * k) (k * k)] 31))
    have Q5 := Lib.hid ((Q4.out.next hB5).alloc (.cells #[.int .i64 k, .slice (some ⟨g3, 0, none⟩) (k * k) (k * k)] 31))
    have G6 := Lib.hid (hb3.alloc (.cells #[.int .i64 k, .slice (some ⟨g3, 0, none⟩) (k * k) (k * k)] 31))
    clear hb3 hg3 hB5 F4 N4 G4 Q4
    have c0 := Q5.out.cell 0
    have c1 := Q5.out.cell 1
    simp only [List.getElem?_toArray, List.getElem?_cons_zero, List.getElem?_cons_succ] at c0 c1
    go_upto_region 6 with fail
    go_wp2_with fail
    refine (KM2.out _ g3 g2 (nums_blk G6.out) (nums_blk G5.out)).mono ?_
    rintro e w6 ⟨g4, rfl, hg4, hb4, hB6⟩
    have F6 := Lib.hid ((below_next F5.out hB6).alloc ((below_next F5.out hB6).size) (.cells #[.int .i64 k, .slice (some ⟨g4, 0, none⟩) (k * k) (k * k)] 31))
    have G7 := Lib.hid (hb4.alloc (.cells #[.int .i64 k, .slice (some ⟨g4, 0, none⟩) (k * k) (k * k)] 31))
    have Q7 := Lib.hid (Blk.new w6 31 #[.int .i64 k, .slice (some ⟨g4, 0, none⟩) (k * k) (k * k)])
    clear hb4 hg4 hB6 F5 G5 Q5 G6 c0 c1
    have c0 := (Q.out _ F6.out).cell 0
    have c1 := (Q.out _ F6.out).cell 1
    simp only [List.getElem?_toArray, List.getElem?_cons_zero, List.getElem?_cons_succ] at c0 c1
    go_upto_region 7 with fail
    go_wp2_with fail
    refine (KT.out _ (some ⟨g1, 0, none⟩) (k * k) (mulF k f g) (nums_blk (G.out _ F6.out))).mono ?_
    rintro e w7 ⟨g5, rfl, hg5, hb5, hB7⟩
    have F7 := Lib.hid ((below_next F6.out hB7).alloc ((below_next F6.out hB7).size) (.cells #[.int .i64 k, .slice (some ⟨g5, 0, none⟩) (k * k) (k * k)] 31))
    have G8 := Lib.hid ((G7.out.next hB7).alloc (.cells #[.int .i64 k, .slice (some ⟨g5, 0, none⟩) (k * k) (k * k)] 31))
    have Q8 := Lib.hid ((Q7.out.next hB7).alloc (.cells #[.int .i64 k, .slice (some ⟨g5, 0, none⟩) (k * k) (k * k)] 31))
    have G9 := Lib.hid (hb5.alloc (.cells #[.int .i64 k, .slice (some ⟨g5, 0, none⟩) (k * k) (k * k)] 31))
    have Q9 := Lib.hid (Blk.new w7 31 #[.int .i64 k, .slice (some ⟨g5, 0, none⟩) (k * k) (k * k)])
    clear hb5 hg5 hB7 F6 G7 Q7 c0 c1
    go_upto_region 8 with fail
    go_wp2_with fail
    refine (stands_any _).mono ?_
    rintro e w8 ⟨rfl, hB8⟩
    have q8 := Q8.out.next hB8
    have q9 := Q9.out.next hB8
    have G10 := Lib.hid (G8.out.next hB8)
    have G11 := Lib.hid (G9.out.next hB8)
    have F8 := Lib.hid (below_next F7.out hB8)
    have c1 := q8.cell 1
    have c3 := q9.cell 1
    simp only [List.getElem?_toArray, List.getElem?_cons_zero, List.getElem?_cons_succ] at c1 c3
    clear q8 q9 hB8 Q8 Q9 G8 G9 F7
    go_wp2_with fail
    refine (KS.out _ g4 g5 G10.out G11.out).mono ?_
    rintro e w9 ⟨rfl, hB9⟩
    have B9 := Lib.hid (below_next BC.out (below_next F8.out hB9))
    clear hB9 c1 c3 F8
    go_wp2_with fail
    go_ret
    exact ⟨rfl, B9.out⟩

def CutBad (W0 : World) (s4 s5 : Value) (wx : World) : Prop := s4 = .bool false ∧ s5 = .int .i64 8 ∧ Below W0.heap.size W0 wx

set_option maxRecDepth 100000 in
set_option maxHeartbeats 4000000 in
theorem walk2 (N M : Int) (n m c d : Nat) (A B : Option Addr) (zs ys : List Int) (w : World) (h : Ints w .i64 A n zs) (hA : A = none → n = 0 ∧ c = 0) (hn : n * 8 ≤ 140737488355328)
    (h' : Ints w .i64 B m ys) (hB : B = none → m = 0 ∧ d = 0) (hm : m * 8 ≤ 140737488355328) (hbad : mulB N n M m = false) :
    Calls Try.prog 7 #[.agg #[.int .i64 N, .slice A n c], .agg #[.int .i64 M, .slice B m d]] w fun e w' => e = .returned (.bool true) ∧ Below w.heap.size w w' := by
  have ko := fun W (hI : Ints W .i64 A n zs) => own_any N A n c zs W hI hA hn
  have ko2 := fun W (hI : Ints W .i64 B m ys) => own_any M B m d ys W hI hB hm
  have km := fun W A' B' c' d' => Mul_bad N M A' B' n m c' d' (by omega) (by omega) hbad W
  have KO := Lib.hid ko
  have KO2 := Lib.hid ko2
  have KM := Lib.hid km
  have BW := Lib.hid (((Below.refl w.heap.size w).alloc (Nat.le_refl _) (.cells #[.int .i64 N, .slice A n c] 31)).alloc (by simp) (.cells #[.int .i64 M, .slice B m d] 31))
  have H := Lib.hid ((h.alloc (.cells #[.int .i64 N, .slice A n c] 31)).alloc (.cells #[.int .i64 M, .slice B m d] 31))
  have H' := Lib.hid ((h'.alloc (.cells #[.int .i64 N, .slice A n c] 31)).alloc (.cells #[.int .i64 M, .slice B m d] 31))
  have P := Lib.hid ((Blk.new w 31 #[.int .i64 N, .slice A n c]).alloc (.cells #[.int .i64 M, .slice B m d] 31))
  have P' := Lib.hid (Blk.at_ (w.alloc (.cells #[.int .i64 N, .slice A n c] 31)) (w.heap.size + 1) 31 #[.int .i64 M, .slice B m d] (by simp))
  clear ko ko2 km h h' hA hB hbad
  go_enter Try.func7, Try.ntmps7
  go_upto_region 1 with fail
  generalize (w.alloc (.cells #[.int .i64 N, .slice A n c] 31)).alloc (.cells #[.int .i64 M, .slice B m d] 31) = W0 at *
  have H2 := Lib.hid (fun W (hW : Below W0.heap.size W0 W) => H.out.next hW)
  have H3 := Lib.hid (fun W (hW : Below W0.heap.size W0 W) => H'.out.next hW)
  have PS := Lib.hid (fun W (hW : Below W0.heap.size W0 W) => (show W.cell? ⟨w.heap.size, 0, none⟩ = some (.int .i64 N) ∧ W.cell? ⟨w.heap.size, 1, none⟩ = some (.slice A n c) ∧ W.cell? ⟨w.heap.size + 1, 0, none⟩ = some (.int .i64 M) ∧ W.cell? ⟨w.heap.size + 1, 1, none⟩ = some (.slice B m d) from
    ⟨(P.out.next hW).cell 0, (P.out.next hW).cell 1, (P'.out.next hW).cell 0, (P'.out.next hW).cell 1⟩))
  clear H H' P P'
  go_cut [5, 6, 7] (fun _ s4 s5 wx => CutBad W0 s4 s5 wx)
  case first =>
    have hF := (Below.refl W0.heap.size W0).drew
    go_region_held3 (fun w' => w'.cell? ⟨w.heap.size, 0, none⟩ = some (.int .i64 N) ∧ w'.cell? ⟨w.heap.size, 1, none⟩ = some (.slice A n c) ∧ w'.cell? ⟨w.heap.size + 1, 0, none⟩ = some (.int .i64 M) ∧ w'.cell? ⟨w.heap.size + 1, 1, none⟩ = some (.slice B m d))
      (first | exact PS.out _ hF | exact PS.out _ (hF.alloc hF.size _) | exact PS.out _ ((hF.setCell hZ.2 _).setCell hZ.2 _) | exact PS.out _ (((Below.refl W0.heap.size W0).alloc (Nat.le_refl _) _).drew))
      (first
        | (go_at_call 28; (with_reducible refine (KO.out _ ?_).mono ?_); (first | exact H2.out _ hF | exact H2.out _ (((Below.refl W0.heap.size W0).alloc (Nat.le_refl _) _).drew)); rintro e w4 ⟨A1, c1, rfl, hown, hB4⟩; (first | have hF4 := below_next hF hB4 | (have hF4 := F_start0 hB4; have hZ := ZB.start0 hB4)); clear hF hB4 hown; have hF := hF4; clear hF4)
        | (go_at_call 28; (with_reducible refine (KO2.out _ ?_).mono ?_); (first | exact H3.out _ hF | exact H3.out _ (hF.alloc hF.size _)); rintro e w4 ⟨A2, c2, rfl, hown, hB4⟩; (first | (have hF4 := below_next hF hB4; (try (have hZ4 := hZ.next hB4; clear hZ; have hZ := hZ4; clear hZ4))) | (have hF4 := F_alloc hF hB4; have hZ := ZB.start hF hB4)); clear hF hB4 hown; have hF := hF4; clear hF4)
        | (go_at_call 30; (with_reducible refine (KM.out _ A1 A2 c1 c2).mono ?_); rintro e w4 ⟨rfl, hB4⟩; (first | (have hF4 := below_next hF hB4; (try (have hZ4 := hZ.next hB4; clear hZ; have hZ := hZ4; clear hZ4))) | (have hF4 := F_alloc hF hB4; have hZ := ZB.start hF hB4)); clear hF hB4; have hF := hF4; clear hF4; (try obtain ⟨z0, z1, z2, z3⟩ := hZ.cells)))
    all_goals (go_wp2_with fail; go_meet)
    all_goals first
      | exact ⟨rfl, rfl, (hF.setCell hZ.2 _).setCell hZ.2 _⟩
      | exact ⟨rfl, rfl, hF.alloc hF.size _⟩
  case rest =>
    obtain ⟨rfl, rfl, hc1⟩ := hcut
    have BC := Lib.hid (below_next BW.out hc1)
    clear hc1 BW PS H2 H3
    go_wp2_with fail
    refine (stands_any _).mono ?_
    rintro e w8 ⟨rfl, hB8⟩
    have B8 := Lib.hid (below_next BC.out hB8)
    clear hB8
    go_wp2_with fail
    go_ret
    exact ⟨rfl, B8.out⟩

set_option maxRecDepth 100000 in
theorem walk {H : Type} {enc : TypeId × Value → H} {d0 d1 : DataW H} {p0 p1 : List MemPlace} (v0 v1 : Value) (W : World) (base : Nat)
    (h0 : Value.okWide Try.prog W .any base 31 v0) (k0 : DataW.Trod enc Try.prog W 0 (fun _ => true) true 31 v0 d0 p0)
    (h1 : Value.okWide Try.prog W .any base 31 v1) (k1 : DataW.Trod enc Try.prog W 0 (fun _ => true) true 31 v1 d1 p1)
    (s0 : ∀ x ∈ d0.weights Try.prog 31, x ≤ reachBytes) (s1 : ∀ x ∈ d1.weights Try.prog 31, x ≤ reachBytes) :
    Calls Try.prog 7 #[v0, v1] W fun e w' => e = .returned (.bool true) ∧ Below W.heap.size W w' := by
  obtain ⟨N, A, n, c, zs, rfl, iN, hI, hz, hA, hnc, hn⟩ := mat_in h0 k0 s0
  obtain ⟨M, B, m, d, ys, rfl, iM, hJ, hy, hB, hmd, hm⟩ := mat_in h1 k1 s1
  cases hg : mulB N n M m with
  | true =>
    unfold mulB at hg
    simp only [Bool.and_eq_true, decide_eq_true_eq] at hg
    obtain ⟨g1, g2, rfl⟩ := hg
    obtain ⟨k, rfl, rfl, q1, q6⟩ := good_of g1
    obtain ⟨k', e, rfl, _, _⟩ := good_of g2
    obtain rfl : k = k' := by omega
    exact walk1 k c d A B zs ys q1 q6 W hI hz hA hJ hy hB
  | false => exact walk2 N M n m c d A B zs ys W hI hA (by omega) hJ hB (by omega) hg
end Go.Proofs.Ytflaanfmanileaa.lawMatTurnMul
