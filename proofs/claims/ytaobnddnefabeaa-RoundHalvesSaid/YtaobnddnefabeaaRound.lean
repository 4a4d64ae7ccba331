/- clock.Round: a round of the clocks. -/
import Derived.Test.YtaobnddnefabeaaRndPlain
import Derived.Test.YtaobnddnefabeaaMidLaw
import Derived.Test.YtaobnddnefabeaaAppend
import Derived.Deep.AppendLies
import Derived.Test.YtaobnddnefabeaaRows4
set_option linter.unusedVariables false
namespace Go.Proofs.Ytaobnddnefabeaa.Md
open Go.RowKit Go.Proofs.Ytaobnddnefabeaa Go.Proofs

theorem infoIntR : (Try.prog.info? 3).map (fun i => (i.zero, i.size, i.bytes)) = some (some (.int .i64 0), 1, 8) := by kernel_rfl
/-- four numbers as cells -/
def i4 (o : Nat → Int) : Array Value := #[.int .i64 (o 0), .int .i64 (o 1), .int .i64 (o 2), .int .i64 (o 3)]
theorem i4_get (o : Nat → Int) {k : Nat} (h : k < 4) : (i4 o)[k]? = some (.int .i64 (o k)) := by
  match k, h with
  | 0, _ => rfl
  | 1, _ => rfl
  | 2, _ => rfl
  | 3, _ => rfl
theorem i4_set (o : Nat → Int) {k : Nat} (h : k < 4) (x : Int) : (i4 o).setIfInBounds k (.int .i64 x) = i4 (fun j => if j = k then x else o j) := by
  match k, h with
  | 0, _ => rfl
  | 1, _ => rfl
  | 2, _ => rfl
  | 3, _ => rfl
theorem i4_congr {o p : Nat → Int} (h : ∀ k, k < 4 → o k = p k) : i4 o = i4 p := by
  unfold i4; rw [h 0 (by omega), h 1 (by omega), h 2 (by omega), h 3 (by omega)]
set_option maxRecDepth 100000 in
theorem index_i4 (o : Nat → Int) {k : Nat} (h : k < 4) : ∀ w : World, (Instr.index 60 (.agg (i4 o)) (.int .i64 (k : Int))).run Try.prog w = .ok (.int .i64 (o k)) w := by
  match k, h with
  | 0, _ => exact fun _ => by kernel_rfl
  | 1, _ => exact fun _ => by kernel_rfl
  | 2, _ => exact fun _ => by kernel_rfl
  | 3, _ => exact fun _ => by kernel_rfl
/-- a number within ± M -/
def Prt (M z : Int) : Prop := -M ≤ z ∧ z ≤ M
instance (M z : Int) : Decidable (Prt M z) := by unfold Prt; infer_instance
def prt (M z : Int) : Bool := decide (Prt M z)
theorem prt_true {M z : Int} : prt M z = true ↔ -M ≤ z ∧ z ≤ M := by unfold prt; rw [decide_eq_true_iff]; rfl

theorem part_any (n most : Int) (h0 : 0 ≤ most) (h1 : most ≤ 4611686018427387904) (w : World) :
    Calls Try.prog 46 #[.int .i64 n, .int .i64 most] w fun e w' => e = .returned (.bool (prt most n)) ∧ w' = w := by
  go_enter Try.func46, Try.ntmps46
  by_cases h : -most ≤ n
  · have t1 : decide (n ≥ -most) = true := decide_eq_true h
    go_wp2_with fail
    go_ret
    exact ⟨ret_bool (by unfold prt Prt; simp [h]), rfl⟩
  · have t1 : decide (n ≥ -most) = false := decide_eq_false (by omega)
    go_wp2_with fail
    go_ret
    exact ⟨ret_bool (by unfold prt Prt; exact (decide_eq_false (by omega)).symm), rfl⟩

/-- all numbers are within -/
def okR (o l : Nat → Int) : Prop := (∀ k, k < 4 → -1099511627776 ≤ o k ∧ o k ≤ 1099511627776) ∧ (∀ k, k < 4 → -1099511627776 ≤ l k ∧ l k ≤ 1099511627776)
def RndPost (o l : Nat → Int) (bad : Int) (w : World) (e : Ending) (w' : World) : Prop :=
  ((okR o l ∧ e = .returned (.tuple #[.agg (i4 (newR o l bad)), .int .i64 0])) ∨ (¬ okR o l ∧ e = .returned (.tuple #[.agg (i4 fun _ => 0), .int .i64 3]))) ∧ Below w.heap.size w w'

def RelA (o : Nat → Int) (w : World) (i : Value) (W : World) : Prop := ∃ k : Nat, k ≤ 4 ∧ i = .int .i64 k ∧ (∀ j, j < k → -1099511627776 ≤ o j ∧ o j ≤ 1099511627776) ∧ W = w
theorem RelA.next {o : Nat → Int} {k : Nat} (h : ∀ j, j < k → -1099511627776 ≤ o j ∧ o j ≤ 1099511627776) (hp : prt 1099511627776 (o k) = true) : ∀ j, j < k + 1 → -1099511627776 ≤ o j ∧ o j ≤ 1099511627776 := by
  intro j hj
  rcases Nat.lt_or_ge j k with h' | h'
  · exact h j h'
  · obtain rfl : j = k := by omega
    exact prt_true.1 hp
/-- the offsets behind the clocks before k -/
def upTo (o l : Nat → Int) (bad : Int) (k : Nat) : Nat → Int := fun j => if j < k then newR o l bad j else o j
def RelC (o l : Nat → Int) (bad : Int) (w : World) (h : Nat) (i : Value) (W : World) : Prop := ∃ k : Nat, k ≤ 4 ∧ i = .int .i64 k ∧ Blk W w.heap.size 60 (i4 o) ∧ Blk W (w.heap.size + 1) 60 (i4 l) ∧ Blk W (w.heap.size + 1 + 1) 60 (i4 fun _ => 0) ∧ Blk W h 60 (i4 (upTo o l bad k)) ∧ Below w.heap.size w W
def RelI (o l : Nat → Int) (bad : Int) (k : Nat) (w : World) (v i : Value) (W : World) : Prop := ∃ q : Nat, q ≤ 4 ∧ i = .int .i64 q ∧ W.ownsRow w.heap.size 3 1 v q ((lst o l bad k q).map (Value.int .i64)) ∧ Below w.heap.size w W
theorem upTo_skip {o l : Nat → Int} {bad : Int} {k : Nat} (h : (k : Int) = bad) : i4 (upTo o l bad (k + 1)) = i4 (upTo o l bad k) := by
  apply i4_congr
  intro j hj
  unfold upTo
  by_cases e : j = k
  · subst e; rw [if_pos (by omega), if_neg (by omega), newR, if_pos h]
  · by_cases e2 : j < k
    · rw [if_pos (show j < k + 1 by omega), if_pos e2]
    · rw [if_neg (show ¬ j < k + 1 by omega), if_neg e2]
theorem upTo_take {o l : Nat → Int} {bad : Int} {k : Nat} (hk : k < 4) (h : ¬ (k : Int) = bad) : (i4 (upTo o l bad k)).setIfInBounds k (.int .i64 (o k + midZ (lst o l bad k 4))) = i4 (upTo o l bad (k + 1)) := by
  rw [i4_set _ hk]
  apply i4_congr
  intro j hj
  unfold upTo
  by_cases e : j = k
  · subst e; rw [if_pos rfl, if_pos (by omega), newR, if_neg h]
  · rw [if_neg e]
    by_cases e2 : j < k
    · rw [if_pos (show j < k + 1 by omega), if_pos e2]
    · rw [if_neg (show ¬ j < k + 1 by omega), if_neg e2]
theorem lst_step {o l : Nat → Int} {bad : Int} {k q : Nat} {x : Int} (h : told o l bad k q - o k = x) : (lst o l bad k q).map (Value.int .i64) ++ [x].map (Value.int .i64) = (lst o l bad k (q + 1)).map (Value.int .i64) := by
  rw [lst_succ, h, List.map_append]
theorem ints_one (w : World) (x : Int) : Ints (w.alloc (.cells #[.int .i64 x] 3)) .i64 (some ⟨w.heap.size, 0, none⟩) 1 [x] :=
  ⟨rfl, fun _ => ⟨w.heap.size, 0, rfl, by simp, fun j hj => by
    obtain rfl : j = 0 := by omega
    exact (Blk.new w 3 #[.int .i64 x]).cell 0⟩⟩
theorem i4_one (o : Nat → Int) : (i4 o).all (·.oneCell') = true := by simp [i4, Value.oneCell']
def W0 (o l : Nat → Int) (w : World) : World := ((w.alloc (.cells (i4 o) 60)).alloc (.cells (i4 l) 60)).alloc (.cells #[.int .i64 0, .int .i64 0, .int .i64 0, .int .i64 0] 60)
theorem W0_blk (o l : Nat → Int) (w : World) : Blk (W0 o l w) w.heap.size 60 (i4 o) ∧ Blk (W0 o l w) (w.heap.size + 1) 60 (i4 l) ∧ Blk (W0 o l w) (w.heap.size + 1 + 1) 60 (i4 fun _ => 0) ∧ Below w.heap.size w (W0 o l w) ∧ (W0 o l w).heap.size = w.heap.size + 1 + 1 + 1 :=
  ⟨((Blk.new _ _ _).alloc _).alloc _, (Blk.at_ _ _ _ _ (by simp)).alloc _, Blk.at_ _ _ _ _ (by simp), (((Below.refl _ _).alloc (by omega) _).alloc (by simp) _).alloc (by simp; omega) _, by simp [W0]⟩
theorem results_two {fn : Func} (h : fn.results = #[.cell 6 60, .tmp 7]) (tmps : Array Value) (w : World) (g : Nat) (f : Nat → Int) (x : Value) (hp : tmps.getD 6 undef = .pointer (some ⟨g, 0, none⟩)) (hx : tmps.getD 7 undef = x) (hg : Blk w g 60 (i4 f)) :
    (results fn tmps).run Try.prog w = .ok (.tuple #[.agg (i4 f), x]) w := by
  have hp' : tmps[6]?.getD undef = .pointer (some ⟨g, 0, none⟩) := by simpa using hp
  have hx' : tmps[7]?.getD undef = x := by simpa using hx
  have e0 : w.cell? ⟨g, 0, none⟩ = some (.int .i64 (f 0)) := hg.cell 0
  have e1 : w.cell? ⟨g, 1, none⟩ = some (.int .i64 (f 1)) := hg.cell 1
  have e2 : w.cell? ⟨g, 2, none⟩ = some (.int .i64 (f 2)) := hg.cell 2
  have e3 : w.cell? ⟨g, 3, none⟩ = some (.int .i64 (f 3)) := hg.cell 3
  simp [results, h, hp', hx', e0, e1, e2, e3, asAddr, go_sem, i4]

set_option maxRecDepth 100000 in
set_option maxHeartbeats 4000000 in
theorem Round_any (o l : Nat → Int) (bad : Int) (w : World) :
    Calls Try.prog 30 #[.agg (i4 o), .int .i64 bad, .agg (i4 l)] w (RndPost o l bad w) := by
  obtain ⟨i0, hi0, hz0, hz1, hz2⟩ := info_parts infoIntR
  have kp := fun z W => part_any z 1099511627776 (by omega) (by omega) W
  have KP := Lib.hid kp
  have HW := Lib.hid (W0_blk o l w)
  clear kp
  go_enter Try.func30, Try.ntmps30
  go_wp2_with (refine wpList_load_row rfl 60 (.tmp 3) rfl w.heap.size rfl _ (i4 o) (0, 0) _ HW.out.1 Try.underlying60 rfl (by kernel_rfl) ?_)
  go_loopw [20, 9] (fun i _ wr => RelA o (W0 o l w) i wr) (fun i _ _ => 4 - (intOf i).toNat)
  case atStart => exact ⟨0, by omega, rfl, fun j hj => by omega, rfl⟩
  case round =>
    obtain ⟨k, hk, rfl, hA, rfl⟩ := hrel
    by_cases hk4 : k < 4
    · have hgt := index_i4 o hk4
      rcases Bool.eq_false_or_eq_true (prt 1099511627776 (o k)) with hp | hp
      · have HN := Lib.hid (RelA.next hA hp)
        clear hA
        go_wp2_with (go_at_call 46; (with_reducible refine (KP.out _ _).mono ?_); rintro e w1 ⟨rfl, rfl⟩; rw [hp])
        go_roundw
        case rel => exact ⟨k + 1, by omega, by go_num, HN.out, rfl⟩
        case measure => simp [intOf]; omega
      · have HNO : Hid (¬ okR o l) := Lib.hid (fun h => by have := prt_true.2 (h.1 k hk4); rw [hp] at this; cases this)
        clear hA
        go_wp2_with (first
          | (go_at_call 46; (with_reducible refine (KP.out _ _).mono ?_); rintro e w1 ⟨rfl, rfl⟩; rw [hp])
          | (refine wpList_store_blk rfl 60 (.tmp 6) (.tmp 26) rfl (w.heap.size + 1 + 1) _ _ (i4 fun _ => 0) rfl rfl HW.out.2.2.1 rfl (by kernel_rfl) (i4_one _) ?_; intro w2 hR2 hg2))
        exact bodyPost_ret (v := .tuple #[.agg (i4 fun _ => 0), .int .i64 3]) (results_two Try.results30 _ _ (w.heap.size + 1 + 1) (fun _ => 0) _ rfl rfl hR2) rfl ⟨.inr ⟨HNO.out, rfl⟩, HW.out.2.2.2.1.grown hg2 (by simp [W0]; omega) (fun j hj => by cases hj; omega)⟩
    · obtain rfl : k = 4 := by omega
      have HAA := Lib.hid hA
      clear hA
      go_wp2_with (refine wpList_load_row rfl 60 (.tmp 5) rfl (w.heap.size + 1) rfl _ (i4 l) (0, 0) _ HW.out.2.1 Try.underlying60 rfl (by kernel_rfl) ?_)
      go_loopw [29, 11] (fun i _ wr => RelA l (W0 o l w) i wr) (fun i _ _ => 4 - (intOf i).toNat)
      case atStart => exact ⟨0, by omega, rfl, fun j hj => by omega, rfl⟩
      case round =>
        obtain ⟨k, hk, rfl, hA, rfl⟩ := hrel
        by_cases hk4 : k < 4
        · have hgt := index_i4 l hk4
          rcases Bool.eq_false_or_eq_true (prt 1099511627776 (l k)) with hp | hp
          · have HN := Lib.hid (RelA.next hA hp)
            clear hA
            go_wp2_with (go_at_call 46; (with_reducible refine (KP.out _ _).mono ?_); rintro e w1 ⟨rfl, rfl⟩; rw [hp])
            go_roundw
            case rel => exact ⟨k + 1, by omega, by go_num, HN.out, rfl⟩
            case measure => simp [intOf]; omega
          · have HNO : Hid (¬ okR o l) := Lib.hid (fun h => by have := prt_true.2 (h.2 k hk4); rw [hp] at this; cases this)
            clear hA
            go_wp2_with (first
              | (go_at_call 46; (with_reducible refine (KP.out _ _).mono ?_); rintro e w1 ⟨rfl, rfl⟩; rw [hp])
              | (refine wpList_store_blk rfl 60 (.tmp 6) (.tmp 35) rfl (w.heap.size + 1 + 1) _ _ (i4 fun _ => 0) rfl rfl HW.out.2.2.1 rfl (by kernel_rfl) (i4_one _) ?_; intro w2 hR2 hg2))
            exact bodyPost_ret (v := .tuple #[.agg (i4 fun _ => 0), .int .i64 3]) (results_two Try.results30 _ _ (w.heap.size + 1 + 1) (fun _ => 0) _ rfl rfl hR2) rfl ⟨.inr ⟨HNO.out, rfl⟩, HW.out.2.2.2.1.grown hg2 (by simp [W0]; omega) (fun j hj => by cases hj; omega)⟩
        · obtain rfl : k = 4 := by omega
          have HBB := Lib.hid hA
          clear hA
          have HOK : Hid (okR o l) := Lib.hid ⟨HAA.out, HBB.out⟩
          go_wp2_with (first
            | (refine wpList_load_row rfl 60 (.tmp 3) rfl w.heap.size rfl _ (i4 o) (0, 0) _ HW.out.1 Try.underlying60 rfl (by kernel_rfl) ?_)
            | (refine wpList_store_blk rfl 60 (.tmp 12) (.tmp 37) rfl (W0 o l w).heap.size _ _ (i4 o) rfl rfl (Blk.new (W0 o l w) 60 (i4 fun _ => 0)) rfl (by kernel_rfl) (i4_one _) ?_; intro w3 hR3 hg3))
          have hsz := HW.out.2.2.2.2
          have hB0 := (HW.out.2.2.2.1.alloc (by omega) (.cells (i4 fun _ => 0) 60)).grown hg3 (by simp; omega) (fun j hj => by cases hj; omega)
          have HS : Hid (RelC o l bad w (W0 o l w).heap.size (.int .i64 0) w3) := Lib.hid ⟨0, by omega, rfl, (HW.out.1.alloc _).grown hg3 (by simp; omega), (HW.out.2.1.alloc _).grown hg3 (by simp; omega), (HW.out.2.2.1.alloc _).grown hg3 (by simp; omega), hR3, hB0⟩
          have h3 : w.heap.size + 1 + 1 < (W0 o l w).heap.size := by omega
          generalize (W0 o l w).heap.size = h at *
          clear hR3 hg3 hB0 hsz HW HAA HBB
          go_loopw [38, 13] (fun i _ wr => RelC o l bad w h i wr) (fun i _ _ => 4 - (intOf i).toNat)
          case atStart => exact HS.out
          case round =>
            obtain ⟨k, hk, rfl, hO, hL, hZ, hX, hB⟩ := hrel
            clear HS
            generalize wr = w5 at *
            by_cases hk4 : k < 4
            · have HO := Lib.hid hO
              have HL := Lib.hid hL
              have HZ := Lib.hid hZ
              have HX := Lib.hid hX
              have HB := Lib.hid hB
              clear hO hL hZ hX hB
              by_cases hkb : (k : Int) = bad
              · have t1 : ((k : Int) == bad) = true := by simpa using hkb
                have HKB := Lib.hid hkb
                clear hkb
                go_wp2_with fail
                go_roundw
                case rel =>
                  refine ⟨k + 1, by omega, by go_num, HO.out, HL.out, HZ.out, ?_, HB.out⟩
                  rw [upTo_skip HKB.out]
                  exact HX.out
                case measure => simp [intOf]; omega
              · have t1 : ((k : Int) == bad) = false := by simpa using hkb
                have HKB := Lib.hid hkb
                clear hkb
                go_wp2_with (refine wpList_load_row rfl 60 (.tmp 3) rfl w.heap.size rfl _ (i4 o) (0, 0) _ HO.out Try.underlying60 rfl (by kernel_rfl) ?_)
                go_loopw [45, 14] (fun i v W => RelI o l bad k w5 v i W) (fun i _ _ => 4 - (intOf i).toNat)
                case atStart => exact ⟨0, by omega, rfl, World.ownsRow_nil _ _ _ _, Below.refl _ _⟩
                case round =>
                  obtain ⟨q, hq, rfl, hown, hF⟩ := hrel
                  by_cases hq4 : q < 4
                  · have hgt := index_i4 o hq4
                    have bk := HOK.out.1 k hk4
                    have bq := HOK.out.1 q hq4
                    have bl := HOK.out.2 k hk4
                    have ck := (HO.out.next hF).cell k
                    rw [i4_get o hk4] at ck
                    have cl := (HL.out.next hF).cell k
                    rw [i4_get l hk4] at cl
                    have d1 := fun x => (HO.out.next (hF.alloc hF.size (.cells #[x] 3))).cell k
                    have HF := Lib.hid hF
                    have HOwn := Lib.hid hown
                    clear hF hown
                    by_cases hqb : (q : Int) = bad
                    · have t2 : ((q : Int) == bad) = true := by simpa using hqb
                      have et : told o l bad k q = l k := if_pos hqb
                      have HT := Lib.hid et
                      clear hqb et
                      go_wp2_with (at_builtin; (refine wpList_append_ints rfl _ _ 51 rfl w5.heap.size 3 i0 (.int .i64 0) .i64 8 Try.underlying51 hi0 hz0 hz1 hz2 (by rfl) _ q _ rfl (HOwn.out.alloc _) (some ⟨wr.heap.size, 0, none⟩) 1 1 [l k - o k] rfl (by simp) (ints_one _ _) (by unfold maxLen; omega) (by omega) (by have := HF.out.size; simp; omega) ?_; intro v2 w2 hown2 hg2))
                      go_roundw
                      case rel =>
                        rw [lst_step (x := l k - o k) (by rw [HT.out])] at hown2
                        exact ⟨q + 1, by omega, by go_num, hown2, (HF.out.alloc HF.out.size _).grown hg2 (by have := HF.out.size; simp; omega) (fun j hj => (HOwn.out.lt j hj).1)⟩
                      case measure => simp [intOf]; omega
                    · have t2 : ((q : Int) == bad) = false := by simpa using hqb
                      have et : told o l bad k q = o q := if_neg hqb
                      have HT := Lib.hid et
                      clear hqb et
                      go_wp2_with (at_builtin; (refine wpList_append_ints rfl _ _ 51 rfl w5.heap.size 3 i0 (.int .i64 0) .i64 8 Try.underlying51 hi0 hz0 hz1 hz2 (by rfl) _ q _ rfl (HOwn.out.alloc _) (some ⟨wr.heap.size, 0, none⟩) 1 1 [o q - o k] rfl (by simp) (ints_one _ _) (by unfold maxLen; omega) (by omega) (by have := HF.out.size; simp; omega) ?_; intro v2 w2 hown2 hg2))
                      go_roundw
                      case rel =>
                        rw [lst_step (x := o q - o k) (by rw [HT.out])] at hown2
                        exact ⟨q + 1, by omega, by go_num, hown2, (HF.out.alloc HF.out.size _).grown hg2 (by have := HF.out.size; simp; omega) (fun j hj => (HOwn.out.lt j hj).1)⟩
                      case measure => simp [intOf]; omega
                  · obtain rfl : q = 4 := by omega
                    obtain ⟨gq, cap, rfl, _⟩ := own_form hown (by omega)
                    have hI := Ints.own hown
                    have bk := HOK.out.1 k hk4
                    have bm := lst_mid (bad := bad) HOK.out.1 HOK.out.2 hk4
                    have km := Middle_ok (some ⟨gq, 0, none⟩) 4 cap (lst o l bad k 4) (by omega) (by omega) wr hI (fun z hz => by have := lst_mem HOK.out.1 HOK.out.2 hk4 (Nat.le_refl _) z hz; omega)
                    have ux := upTo_take (o := o) (l := l) hk4 HKB.out
                    generalize midZ (lst o l bad k 4) = m at *
                    have KM := Lib.hid km
                    have HF := Lib.hid hF
                    have UX := Lib.hid ux
                    clear km hF hI hown ux
                    go_wp2_with fail
                    refine KM.out.mono ?_
                    rintro e w6 ⟨rfl, hB6⟩
                    have hB7 := below_next HF.out hB6
                    have ck := (HX.out.next hB7).cell k
                    rw [i4_get _ hk4, show upTo o l bad k k = o k from if_neg (by omega)] at ck
                    have cf := (HX.out.next hB7).frozen k
                    have HB7 := Lib.hid hB7
                    clear hB7 hB6
                    go_wp2_with fail
                    go_roundw
                    case rel =>
                      have hX2 := (HX.out.next HB7.out).set_ k (.int .i64 (o k + m))
                      rw [UX.out] at hX2
                      exact ⟨k + 1, by omega, by go_num, (HO.out.next HB7.out).far (by simp; omega) _, (HL.out.next HB7.out).far (by simp; omega) _, (HZ.out.next HB7.out).far (by simp; omega) _, hX2, (below_next HB.out HB7.out).setCell (by simp; omega) _⟩
                    case measure => simp [intOf]; omega
            · obtain rfl : k = 4 := by omega
              go_wp2_with (first
                | (refine wpList_load_row rfl 60 (.tmp 12) rfl h rfl _ (i4 (upTo o l bad 4)) (0, 0) _ hX Try.underlying60 rfl (by kernel_rfl) ?_)
                | (refine wpList_store_blk rfl 60 (.tmp 6) (.tmp 76) rfl (w.heap.size + 1 + 1) _ _ (i4 (upTo o l bad 4)) rfl rfl hZ rfl (by kernel_rfl) (i4_one _) ?_; intro w4 hR4 hg4))
              have e4 : i4 (upTo o l bad 4) = i4 (newR o l bad) := i4_congr (fun k hk => by unfold upTo; rw [if_pos hk])
              rw [e4] at hR4
              exact bodyPost_ret (v := .tuple #[.agg (i4 (newR o l bad)), .int .i64 0]) (results_two Try.results30 _ _ (w.heap.size + 1 + 1) (newR o l bad) _ rfl rfl hR4) rfl ⟨.inl ⟨HOK.out, rfl⟩, hB.grown hg4 (by have := hB.size; omega) (fun j hj => by cases hj; omega)⟩
end Go.Proofs.Ytaobnddnefabeaa.Md
