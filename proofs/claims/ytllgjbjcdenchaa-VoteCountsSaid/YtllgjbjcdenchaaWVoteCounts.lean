/- The walk of VoteCounts: the value has the most votes, and the verdict is strong just if these are more than half. -/
import Derived.Test.YtllgjbjcdenchaaVoteMore
import Derived.Test.YtllgjbjcdenchaaOpen
set_option linter.unusedVariables false
namespace Go.Proofs.Ytllgjbjcdenchaa.lawVoteCounts
open Go.RowKit Go.Proofs.Ytllgjbjcdenchaa Vt

theorem celll (l0 l1 l2 l3 : Int) (b0 b1 b2 b3 : Bool) (k : Nat) (hk : k < 4) :
    (#[Value.int .i64 l0, .int .i64 l1, .int .i64 l2, .int .i64 l3])[k]? = some (.int .i64 ((VL l0 l1 l2 l3 b0 b1 b2 b3).getD k (0, false)).1) := by
  match k, hk with
  | 0, _ => rfl
  | 1, _ => rfl
  | 2, _ => rfl
  | 3, _ => rfl
theorem cella (l0 l1 l2 l3 : Int) (b0 b1 b2 b3 : Bool) (A : Int → Bool) (k : Nat) (hk : k < 4) :
    [Value.bool (A l0), .bool (A l1), .bool (A l2), .bool (A l3)][k]? = some (.bool (A ((VL l0 l1 l2 l3 b0 b1 b2 b3).getD k (0, false)).1)) := by
  match k, hk with
  | 0, _ => rfl
  | 1, _ => rfl
  | 2, _ => rfl
  | 3, _ => rfl

set_option maxRecDepth 100000 in
set_option maxHeartbeats 2000000 in
theorem walk' (l0 l1 l2 l3 : Int) (b0 b1 b2 b3 : Bool) (h0 : IntKind.i64.has l0) (h1 : IntKind.i64.has l1) (h2 : IntKind.i64.has l2) (h3 : IntKind.i64.has l3) (w : World) :
    Calls Try.prog 5 #[.agg #[.int .i64 l0, .int .i64 l1, .int .i64 l2, .int .i64 l3], .agg #[.bool b0, .bool b1, .bool b2, .bool b3]] w fun e w' => e = .returned (.bool true) ∧ Below w.heap.size w w' := by
  have kv := fun (W : World) => vote_any l0 l1 l2 l3 b0 b1 b2 b3 h0 h1 h2 h3 W
  have hL := celll l0 l1 l2 l3 b0 b1 b2 b3
  have hB := cellb l0 l1 l2 l3 b0 b1 b2 b3
  have hA := cella l0 l1 l2 l3 b0 b1 b2 b3 (agree (VL l0 l1 l2 l3 b0 b1 b2 b3))
  have hlen : (VL l0 l1 l2 l3 b0 b1 b2 b3).length = 4 := rfl
  have ea := agc_best (VL l0 l1 l2 l3 b0 b1 b2 b3)
  have ec := cnt_best (VL l0 l1 l2 l3 b0 b1 b2 b3)
  have ep := best_pos (VL l0 l1 l2 l3 b0 b1 b2 b3)
  have es : strong (VL l0 l1 l2 l3 b0 b1 b2 b3) = decide (tot (VL l0 l1 l2 l3 b0 b1 b2 b3) 4 < 2 * best (VL l0 l1 l2 l3 b0 b1 b2 b3)) := rfl
  generalize VL l0 l1 l2 l3 b0 b1 b2 b3 = L at *
  rw [hlen] at ea ec ep
  rw [← ea] at ec ep es
  have HL := Lib.hid hL
  have HB := Lib.hid hB
  have HA := Lib.hid hA
  have HLen := Lib.hid hlen
  have HE := Lib.hid ec
  have HP := Lib.hid ep
  have HS := Lib.hid es
  have Kv := Lib.hid kv
  clear hL hB hA hlen ea ec ep es kv h0 h1 h2 h3
  go_enter Try.func5, Try.ntmps5
  go_wp2_with fail
  refine (Kv.out _).mono ?_
  rintro e w1 ⟨v, rfl, hown, hb⟩
  obtain ⟨g, cap, rfl, hg1, hg2, hcap⟩ := own_form hown (by omega)
  have hcA := fun (k : Nat) (hk : k < 4) => (hown.cellAt k (by omega)).trans (HA.out k hk)
  have hcL := fun (k : Nat) (hk : k < 4) => ((((Blk.new w _ _).alloc _).next hb).cell k).trans (HL.out k hk)
  have hcB := fun (k : Nat) (hk : k < 4) => (((Blk.at_ _ (w.heap.size + 1) _ _ (by simp)).next hb).cell k).trans (HB.out k hk)
  have HcA := Lib.hid hcA
  have HcL := Lib.hid hcL
  have HcB := Lib.hid hcB
  have hz := hb.size
  simp only [World.size_alloc] at hz
  have hB1 : Below w.heap.size w w1 := (((Below.refl _ _).alloc (Nat.le_refl _) _).alloc (by simp) _).trans (hb.mono (by simp; omega))
  clear hcA hcL hcB hown HA HL HB hb
  have hz1 : w.heap.size < w1.heap.size := by omega
  have hz2 : w.heap.size + 1 < w1.heap.size := by omega
  have hz3 : g < w1.heap.size + 1 := by omega
  go_wp2_with fail
  refine (votes_any _).mono ?_
  rintro e w2 ⟨rfl, hb2⟩
  obtain ⟨hc2, hf2⟩ := bcell hb2
  go_wp2_with fail
  have hV := ((Blk.new w1 33 #[.int .i64 (val L), .bool (strong L), .slice (some ⟨g, 0, none⟩) 4 cap]).next hb2)
  have v1 := hV.cell 1
  have v2 := hV.cell 2
  simp only [List.getElem?_toArray, List.getElem?_cons_zero, List.getElem?_cons_succ] at v1 v2
  have fA := fun (k : Nat) (hk : k < 4) => ((hc2 g k (by simpa using hz3)).trans (World.cell?_alloc_past _ g k hg2)).trans (HcA.out k hk)
  have fL := fun (k : Nat) (hk : k < 4) => ((hc2 w.heap.size k (by simp; omega)).trans (World.cell?_alloc_past _ w.heap.size k hz1)).trans (HcL.out k hk)
  have fB := fun (k : Nat) (hk : k < 4) => ((hc2 (w.heap.size + 1) k (by simp; omega)).trans (World.cell?_alloc_past _ (w.heap.size + 1) k hz2)).trans (HcB.out k hk)
  have FA := Lib.hid fA
  have FL := Lib.hid fL
  have FB := Lib.hid fB
  have hB2 : Below w.heap.size w w2 := (hB1.alloc (by omega) _).trans (hb2.mono (by simp; omega))
  clear fA fL fB hc2 hf2 hV HcA HcL HcB hB1 hb2 hz hz1 hz2 hz3
  go_loop [6, 7, 8] (fun t a i => ∃ k : Nat, k ≤ 4 ∧ i = .int .i64 k ∧ t = .int .i64 (tot L k) ∧ a = .int .i64 (agc L k)) (fun _ _ i => 4 - (intOf i).toNat)
  case atStart => exact ⟨0, Nat.zero_le _, rfl, rfl, rfl⟩
  case round =>
    obtain ⟨k, hk, rfl, rfl, rfl⟩ := hrel
    have ht := tot_le L k
    have ha := agc_le L k
    by_cases hlt : k < 4
    · have cB := FB.out k hlt
      have cA := FA.out k hlt
      have t1 := tot_yes L k (by rw [HLen.out]; exact hlt)
      have t2 := tot_no L k (by rw [HLen.out]; exact hlt)
      have a1 := agc_yes L k (by rw [HLen.out]; exact hlt)
      have a2 := agc_no L k (by rw [HLen.out]; exact hlt)
      generalize (L.getD k (0, false)).1 = x at *
      generalize (L.getD k (0, false)).2 = b at *
      generalize agree L x = y at *
      have T1 := Lib.hid t1
      have T2 := Lib.hid t2
      have A1 := Lib.hid a1
      have A2 := Lib.hid a2
      clear t1 t2 a1 a2
      cases b with
      | false =>
        go_wp2
        go_round
        case rel => exact ⟨k + 1, by omega, by go_num, by rw [T2.out rfl], by rw [A2.out (.inl rfl)]⟩
        case measure => simp [intOf]; omega
      | true =>
        cases y with
        | false =>
          go_wp2
          go_round
          case rel => exact ⟨k + 1, by omega, by go_num, by rw [T1.out rfl]; go_num, by rw [A2.out (.inr rfl)]⟩
          case measure => simp [intOf]; omega
        | true =>
          go_wp2
          go_round
          case rel => exact ⟨k + 1, by omega, by go_num, by rw [T1.out rfl]; go_num, by rw [A1.out rfl rfl]; go_num⟩
          case measure => simp [intOf]; omega
    · obtain rfl : k = 4 := by omega
      go_wp2
      have htt := tot_le L 4
      have haa := agc_le L 4
      go_loopw [9] (fun i wr => ∃ j d : Nat, j ≤ 4 ∧ i = .int .i64 (j : Nat) ∧ wr = w2.drewN d) (fun i _ => 4 - (intOf i).toNat)
      case atStart => exact ⟨0, 0, Nat.zero_le _, rfl, rfl⟩
      case round =>
        obtain ⟨j, d, hj, rfl, rfl⟩ := hrel
        by_cases hjl : j < 4
        · have cBj := FB.out j hjl
          have cLj := FL.out j hjl
          have hE := HE.out j hjl
          generalize (L.getD j (0, false)).1 = xj at *
          generalize (L.getD j (0, false)).2 = bj at *
          have HEj := Lib.hid hE
          clear hE
          have hjd : decide ((j : Int) < 4) = true := by simp; omega
          have hjn : (j : Int) < 4 := by omega
          cases bj with
          | true =>
            go_wp2
            go_loopw [10, 11] (fun n k wr => ∃ m d' : Nat, m ≤ 4 ∧ k = .int .i64 (m : Nat) ∧ n = .int .i64 (cnt L m xj) ∧ wr = w2.drewN d') (fun _ k _ => 4 - (intOf k).toNat)
            case atStart => exact ⟨0, d, Nat.zero_le _, rfl, rfl, rfl⟩
            case round =>
              obtain ⟨m, d', hm, rfl, rfl, rfl⟩ := hrel
              have hcm := cnt_le L m xj
              by_cases hml : m < 4
              · have cBm := FB.out m hml
                have cLm := FL.out m hml
                have e1 := cnt_yes L m xj (by rw [HLen.out]; exact hml)
                have e2 := cnt_no L m xj (by rw [HLen.out]; exact hml)
                generalize (L.getD m (0, false)).1 = xm at *
                generalize (L.getD m (0, false)).2 = bm at *
                have E1 := Lib.hid e1
                have E2 := Lib.hid e2
                clear e1 e2
                have hmn : (m : Int) < 4 := by omega
                cases bm with
                | false =>
                  go_wp2_with fail
                  go_quiet (fail)
                  go_wp2
                  go_roundw
                  case rel => exact ⟨m + 1, _, by omega, by go_num, by rw [E2.out (by trivial)], rfl⟩
                  case measure => simp [intOf]; omega
                | true =>
                  by_cases he : xm = xj
                  · have heb : (xm == xj) = true := by simpa using he
                    have HE2 := Lib.hid he
                    clear he
                    go_wp2_with fail
                    go_quiet (fail)
                    go_wp2
                    go_roundw
                    case rel => exact ⟨m + 1, _, by omega, by go_num, by rw [E1.out (by trivial), if_pos HE2.out]; go_num, rfl⟩
                    case measure => simp [intOf]; omega
                  · have heb : (xm == xj) = false := by simpa using he
                    have HE2 := Lib.hid he
                    clear he
                    go_wp2_with fail
                    go_quiet (fail)
                    go_wp2
                    go_roundw
                    case rel => exact ⟨m + 1, _, by omega, by go_num, by rw [E1.out (by trivial), if_neg HE2.out], rfl⟩
                    case measure => simp [intOf]; omega
              · obtain rfl : m = 4 := by omega
                have hEE := HEj.out (by trivial)
                go_wp2
                go_roundw
                case rel => exact ⟨j + 1, _, by omega, by go_num, rfl⟩
                case measure => simp [intOf]; omega
          | false =>
            go_wp2
            go_loopw [10, 11] (fun n k wr => ∃ m d' : Nat, m ≤ 4 ∧ k = .int .i64 (m : Nat) ∧ n = .int .i64 0 ∧ wr = w2.drewN d') (fun _ k _ => 4 - (intOf k).toNat)
            case atStart => exact ⟨0, d, Nat.zero_le _, rfl, rfl, rfl⟩
            case round =>
              obtain ⟨m, d', hm, rfl, rfl, rfl⟩ := hrel
              by_cases hml : m < 4
              · have cBm := FB.out m hml
                have cLm := FL.out m hml
                generalize (L.getD m (0, false)).1 = xm at *
                generalize (L.getD m (0, false)).2 = bm at *
                have hmn : (m : Int) < 4 := by omega
                cases bm with
                | false =>
                  go_wp2_with fail
                  go_quiet (fail)
                  go_wp2
                  go_roundw
                  case rel => exact ⟨m + 1, _, by omega, by go_num, rfl, rfl⟩
                  case measure => simp [intOf]; omega
                | true =>
                  go_wp2_with fail
                  go_quiet (fail)
                  go_wp2
                  go_roundw
                  case rel => exact ⟨m + 1, _, by omega, by go_num, rfl, rfl⟩
                  case measure => simp [intOf]; omega
              · obtain rfl : m = 4 := by omega
                go_wp2
                go_roundw
                case rel => exact ⟨j + 1, _, by omega, by go_num, rfl⟩
                case measure => simp [intOf]; omega
        · obtain rfl : j = 4 := by omega
          have es : strong L = decide (((tot L 4 : Nat) : Int) < 2 * ((agc L 4 : Nat) : Int)) := by rw [HS.out]; apply decide_eq_decide.2; omega
          rw [es] at v1
          clear es
          by_cases ht0 : tot L 4 = 0
          · have hb0 : (((tot L 4 : Nat) : Int) == 0) = true := by simpa using ht0
            clear ht0
            go_wp2
            go_ret
            exact ⟨rfl, hB2.trans (below_drewN _ _ _)⟩
          · have hb0 : (((tot L 4 : Nat) : Int) == 0) = false := by simpa using ht0
            have hpp := HP.out (by omega)
            have hpd : decide ((0 : Int) < ((agc L 4 : Nat) : Int)) = true := by simpa using hpp
            go_wp2
            go_ret
            exact ⟨rfl, hB2.trans (below_drewN _ _ _)⟩

theorem walk {H : Type} {enc : TypeId × Value → H} {d0 d1 : DataW H} {p0 p1 : List MemPlace} (v0 v1 : Value) (W : World) (base : Nat)
    (h0 : Value.okWide Try.prog W .any base 30 v0) (_ : DataW.Trod enc Try.prog W 0 (fun _ => true) true 30 v0 d0 p0)
    (h1 : Value.okWide Try.prog W .any base 28 v1) (_ : DataW.Trod enc Try.prog W 0 (fun _ => true) true 28 v1 d1 p1) :
    Calls Try.prog 5 #[v0, v1] W fun e w' => e = .returned (.bool true) ∧ Below W.heap.size W w' := by
  obtain ⟨l0, l1, l2, l3, rfl, q0, q1, q2, q3⟩ := ok_ints4 (u := 3) (.inr ⟨_, _, Try.underlying30⟩) (by kernel_rfl) (by kernel_rfl) Try.underlying3 h0
  obtain ⟨b0, b1, b2, b3, rfl⟩ := ok_bools4 (u := 4) (.inr ⟨_, _, Try.underlying28⟩) (by kernel_rfl) (by kernel_rfl) Try.underlying4 h1
  exact walk' l0 l1 l2 l3 b0 b1 b2 b3 q0 q1 q2 q3 W
end Go.Proofs.Ytllgjbjcdenchaa.lawVoteCounts
