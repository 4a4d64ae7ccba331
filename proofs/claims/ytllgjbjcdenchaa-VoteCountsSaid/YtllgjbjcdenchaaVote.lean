/- The contract of vote.Vote: what it answers of four votes. -/
import Derived.Test.YtllgjbjcdenchaaProg
import Derived.Test.YtllgjbjcdenchaaKit
import Derived.Test.YtllgjbjcdenchaaVotePlain
import Derived.Maps.Own
import Derived.Maps.OwnOps
import Derived.Maps.OwnSet
set_option linter.unusedVariables false
namespace Go.Proofs.Ytllgjbjcdenchaa
open Go.RowKit Go.Maps

namespace Vt
theorem infoBool : (Try.prog.info? 4).map (fun i => (i.zero, i.size, i.bytes)) = some (some (.bool false), 1, 1) := by kernel_rfl
theorem keyInt : Keyed Try.prog 3 := int_keyed Try.underlying3
theorem zeroInt (w : World) : (zeroValue 3).run Try.prog w = .ok (.int .i64 0) w := by kernel_rfl

/-- block b is a map from numbers to numbers that says f -/
def Says (w : World) (b n : Nat) (f : Int → Nat) : Prop :=
  ∃ D : DataW Unit, w.ownsMap Try.prog 3 (plainElem Try.prog 3) b n D ∧ ∀ v, D.atKey (.int .i64 v) (.lit (.int .i64 0)) = .lit (.int .i64 (f v))

theorem wf_of {x : Int} (h : IntKind.i64.has x) : (Lit.int .i64 x).wf = true := by
  simp [IntKind.has, IntKind.min, IntKind.max, IntKind.signed, IntKind.bits] at h
  exact WalkArith.wf_i64 ⟨by omega, by omega⟩

theorem Says.start (w : World) (n : Nat) (L : Vs) (h : n = w.heap.size) : Says (w.alloc (.map #[] 0)) n 0 (cnt L 0) := by
  subst h; exact ⟨.map [], World.ownsMap_made _ _ _ _, fun _ => rfl⟩

theorem Says.lt {w : World} {b n : Nat} {f : Int → Nat} (h : Says w b n f) : b < w.heap.size := by
  obtain ⟨D, ⟨es, c, hb, _⟩, _⟩ := h
  rcases Nat.lt_or_ge b w.heap.size with hlt | hge
  · exact hlt
  · rw [Array.getElem?_eq_none hge] at hb; cases hb

theorem Says.keep {w w' : World} {b n : Nat} {f : Int → Nat} (h : Says w b n f) (hk : w'.heap[b]? = w.heap[b]?) : Says w' b n f := by
  obtain ⟨D, ⟨es, c, hb, r⟩, hf⟩ := h
  exact ⟨D, ⟨es, c, hk.trans hb, r⟩, hf⟩

theorem says_put {D : DataW Unit} {f g : Int → Nat} {x : Int} (hm : IsMap D) (h : ∀ v, D.atKey (.int .i64 v) (.lit (.int .i64 0)) = .lit (.int .i64 (f v)))
    (hg : ∀ v, g v = if x = v then f x + 1 else f v) : ∀ v, (D.put (.int .i64 x) (.lit (.int .i64 ((f x : Int) + 1)))).atKey (.int .i64 v) (.lit (.int .i64 0)) = .lit (.int .i64 (g v)) := by
  intro v
  by_cases e : x = v
  · subst e
    rw [atKey_put_same hm (by simp [WideAt.IsKeyLit]), hg, if_pos rfl]; rfl
  · rw [atKey_put_other (by simpa using fun h => e h.symm), h, hg, if_neg e]

def VL (l0 l1 l2 l3 : Int) (b0 b1 b2 b3 : Bool) : Vs := [(l0, b0), (l1, b1), (l2, b2), (l3, b3)]

theorem idx (l0 l1 l2 l3 : Int) (b0 b1 b2 b3 : Bool) (k : Nat) (hk : k < 4) (w : World) :
    (Instr.index 30 (.agg #[.int .i64 l0, .int .i64 l1, .int .i64 l2, .int .i64 l3]) (.int .i64 (k : Int))).run Try.prog w = .ok (.int .i64 ((VL l0 l1 l2 l3 b0 b1 b2 b3).getD k (0, false)).1) w := by
  have hk' : k = 0 ∨ k = 1 ∨ k = 2 ∨ k = 3 := by omega
  rcases hk' with rfl | rfl | rfl | rfl
  · rfl
  · rfl
  · rfl
  · rfl

theorem cellb (l0 l1 l2 l3 : Int) (b0 b1 b2 b3 : Bool) (k : Nat) (hk : k < 4) :
    (#[Value.bool b0, .bool b1, .bool b2, .bool b3])[k]? = some (.bool ((VL l0 l1 l2 l3 b0 b1 b2 b3).getD k (0, false)).2) := by
  match k, hk with
  | 0, _ => rfl
  | 1, _ => rfl
  | 2, _ => rfl
  | 3, _ => rfl

theorem wfl {l0 l1 l2 l3 : Int} {b0 b1 b2 b3 : Bool} (h0 : IntKind.i64.has l0) (h1 : IntKind.i64.has l1) (h2 : IntKind.i64.has l2) (h3 : IntKind.i64.has l3) (k : Nat) (hk : k < 4) :
    (Lit.int .i64 ((VL l0 l1 l2 l3 b0 b1 b2 b3).getD k (0, false)).1).wf = true := by
  match k, hk with
  | 0, _ => exact wf_of h0
  | 1, _ => exact wf_of h1
  | 2, _ => exact wf_of h2
  | 3, _ => exact wf_of h3
end Vt
open Vt

set_option maxHeartbeats 2000000 in
set_option maxRecDepth 100000 in
theorem vote_any (l0 l1 l2 l3 : Int) (b0 b1 b2 b3 : Bool) (h0 : IntKind.i64.has l0) (h1 : IntKind.i64.has l1) (h2 : IntKind.i64.has l2) (h3 : IntKind.i64.has l3) (w : World) :
    Calls Try.prog 23 #[.agg #[.int .i64 l0, .int .i64 l1, .int .i64 l2, .int .i64 l3], .agg #[.bool b0, .bool b1, .bool b2, .bool b3]] w fun e w' =>
      ∃ v, e = .returned (.agg #[.int .i64 (val (VL l0 l1 l2 l3 b0 b1 b2 b3)), .bool (strong (VL l0 l1 l2 l3 b0 b1 b2 b3)), v]) ∧
        w'.ownsRow w.heap.size 4 1 v 4 [.bool (agree (VL l0 l1 l2 l3 b0 b1 b2 b3) l0), .bool (agree (VL l0 l1 l2 l3 b0 b1 b2 b3) l1), .bool (agree (VL l0 l1 l2 l3 b0 b1 b2 b3) l2), .bool (agree (VL l0 l1 l2 l3 b0 b1 b2 b3) l3)] ∧
        Below w.heap.size w w' := by
  have HI := Lib.hid (idx l0 l1 l2 l3 b0 b1 b2 b3)
  have HC := Lib.hid (cellb l0 l1 l2 l3 b0 b1 b2 b3)
  have HW := Lib.hid (wfl (b0 := b0) (b1 := b1) (b2 := b2) (b3 := b3) h0 h1 h2 h3)
  clear h0 h1 h2 h3
  obtain ⟨L, hL⟩ : ∃ L, L = VL l0 l1 l2 l3 b0 b1 b2 b3 := ⟨_, rfl⟩
  rw [← hL] at HI HC HW
  have HL := Lib.hid hL
  have HLen : Hid (L.length = 4) := by rw [hL]; rfl
  rw [← hL]
  clear hL
  have hmm := @run_makeMap Try.prog
  go_enter Try.func23, Try.ntmps23
  go_wp2
  go_loopw [6, 17] (fun t i wr => ∃ k : Nat, k ≤ 4 ∧ i = .int .i64 k ∧ t = .int .i64 (tot L k) ∧ Says wr (w.heap.size + 1 + 1 + 1) k (cnt L k) ∧
      Below (w.heap.size + 1 + 1 + 1) (((w.alloc (.cells #[.int .i64 l0, .int .i64 l1, .int .i64 l2, .int .i64 l3] 30)).alloc (.cells #[.bool b0, .bool b1, .bool b2, .bool b3] 28)).alloc (.cells #[.int .i64 0, .bool false, .slice none 0 0] 33)) wr)
    (fun _ i _ => 4 - (intOf i).toNat)
  case atStart => exact ⟨0, Nat.zero_le _, rfl, rfl, Says.start _ _ L (by simp), (Below.refl _ _).alloc (by simp) _⟩
  case round =>
    obtain ⟨k, hk, rfl, rfl, hsay, hb⟩ := hrel
    by_cases hlt : k < 4
    · have hidx := HI.out k hlt
      have hwf := HW.out k hlt
      have hcb : wr.cell? ⟨w.heap.size + 1, k, none⟩ = some (.bool (L.getD k (0, false)).2) := by
        rw [hb.cell (by simp), ((Blk.at_ _ _ _ _ (by simp)).alloc _).cell k]; exact HC.out k hlt
      have ht := tot_le L k
      obtain ⟨D, hown, hat⟩ := hsay
      have hC := fun v => cnt_yes L k v (by rw [HLen.out]; exact hlt)
      have hC' := fun v => cnt_no L k v (by rw [HLen.out]; exact hlt)
      have hT := tot_yes L k (by rw [HLen.out]; exact hlt)
      have hT' := tot_no L k (by rw [HLen.out]; exact hlt)
      generalize (L.getD k (0, false)).1 = x at *
      generalize (L.getD k (0, false)).2 = bk at *
      have hcx := cnt_le L k x
      have Hat := Lib.hid hat
      have HC1 := Lib.hid hC
      have HC2 := Lib.hid hC'
      have HT1 := Lib.hid hT
      have HT2 := Lib.hid hT'
      clear hat hC hC' hT hT'
      cases bk with
      | true =>
        go_wp2_with (first
          | (at_lookup; refine wpList_lookup_own_int _ rfl _ _ 84 rfl 3 3 .i64 keyInt Try.underlying84 Try.underlying3 (zeroInt _) (w.heap.size + 1 + 1 + 1) k _ rfl hown _ _ rfl (keyOf_int_mk Try.underlying3 hwf) ?_; intro c hc hwc; obtain rfl : c = ((cnt L k x : Nat) : Int) := (by have := hc.symm.trans (Hat.out x); simpa using this); clear hc)
          | (at_mapUpdate; refine wpList_mapUpdate_own _ rfl _ _ _ 84 rfl 3 3 keyInt Try.underlying84 _ (w.heap.size + 1 + 1 + 1) k _ rfl hown (by unfold maxLen; omega) _ _ _ rfl rfl (keyOf_int_mk Try.underlying3 hwf) _ [] (plainElem_int Try.underlying3 (WalkArith.wf_i64 (by omega))) ?_; intro w1 hown1 hgrow1))
        go_roundw
        case rel =>
          refine ⟨k + 1, by omega, by go_num, by rw [HT1.out rfl]; go_num, ⟨_, hown1, says_put hown.isMap Hat.out fun v => ?_⟩, hb.grown hgrow1 (by have := hb.size; simp at this; omega) (fun j hj => by cases hj; exact Nat.le_refl _)⟩
          rw [HC1.out v rfl]; by_cases e : x = v
          · subst e; rfl
          · rw [if_neg e, if_neg e]
        case measure => simp [intOf]; omega
      | false =>
        go_wp2
        go_roundw
        case rel => exact ⟨k + 1, by omega, by go_num, by rw [HT2.out rfl], ⟨_, hown.mono (Nat.le_succ _), fun v => by rw [HC2.out v rfl]; exact Hat.out v⟩, hb⟩
        case measure => simp [intOf]; omega
    · have hbl : Blk wr w.heap.size 30 #[.int .i64 l0, .int .i64 l1, .int .i64 l2, .int .i64 l3] := ((((Blk.new _ _ _).alloc _).alloc _).below hb (by omega))
      have q0 := hbl.cell 0
      have q1 := hbl.cell 1
      have q2 := hbl.cell 2
      have q3 := hbl.cell 3
      simp only [List.getElem?_toArray, List.getElem?_cons_zero, List.getElem?_cons_succ] at q0 q1 q2 q3
      have hz3 : w.heap.size + 1 + 1 + 1 < wr.heap.size := hsay.lt
      have hz0 : w.heap.size < wr.heap.size := by omega
      obtain rfl : k = 4 := by omega
      go_wp2
      have hgo : w.heap.size + 1 + 1 + 1 < wr.heap.size := hz3
      have hbo := hb.alloc (by omega) (.cells #[.int .i64 0, .bool false, .slice none 0 0] 33)
      have hso := hsay.keep (w' := wr.alloc (.cells #[.int .i64 0, .bool false, .slice none 0 0] 33)) (Below.heap_alloc _ _ _ hsay.lt)
      obtain ⟨g, hg⟩ : ∃ g, g = wr.heap.size := ⟨_, rfl⟩
      rw [← hg] at hgo
      have hbg := Blk.at_ wr g 33 #[.int .i64 0, .bool false, .slice none 0 0] hg
      rw [← hg]
      generalize wr.alloc (.cells #[.int .i64 0, .bool false, .slice none 0 0] 33) = wo at *
      clear hbl q0 q1 q2 q3 hz3 hz0 hb hsay hg
      simp only [Int.cast_ofNat_Int]
      go_loopw [9, 32] (fun t i wr => ∃ k : Nat, k ≤ 4 ∧ i = .int .i64 k ∧ t = .int .i64 (bst L k).1 ∧ Says wr (w.heap.size + 1 + 1 + 1) 4 (cnt L 4) ∧ Blk wr g 33 #[.int .i64 (bst L k).2, .bool false, .slice none 0 0] ∧
        Below (w.heap.size + 1 + 1 + 1) (((w.alloc (.cells #[.int .i64 l0, .int .i64 l1, .int .i64 l2, .int .i64 l3] 30)).alloc (.cells #[.bool b0, .bool b1, .bool b2, .bool b3] 28)).alloc (.cells #[.int .i64 0, .bool false, .slice none 0 0] 33)) wr)
        (fun _ i _ => 4 - (intOf i).toNat)
      case atStart => exact ⟨0, Nat.zero_le _, rfl, rfl, hso, hbg, hbo⟩
      case round =>
        clear hso hbg hbo
        obtain ⟨k, hk, rfl, rfl, hsay, hbg, hb⟩ := hrel
        by_cases hlt : k < 4
        · have hidx := HI.out k hlt
          have hwf := HW.out k hlt
          have hcb : wr.cell? ⟨w.heap.size + 1, k, none⟩ = some (.bool (L.getD k (0, false)).2) := by
            rw [hb.cell (by simp), ((Blk.at_ _ _ _ _ (by simp)).alloc _).cell k]; exact HC.out k hlt
          obtain ⟨D, hown, hat⟩ := id hsay
          have hY := bst_yes L k
          have hN := bst_no L k
          rw [HLen.out] at hY hN
          generalize (L.getD k (0, false)).1 = x at *
          generalize (L.getD k (0, false)).2 = bk at *
          have c0 := hbg.cell 0
          have f0 := hbg.frozen 0
          simp only [List.getElem?_toArray, List.getElem?_cons_zero] at c0
          have HY := Lib.hid hY
          have HN := Lib.hid hN
          have Hat := Lib.hid hat
          clear hY hN hat
          cases bk with
          | true =>
            obtain ⟨c, hrun, hc, _⟩ := hown.lookup_int keyInt Try.underlying84 Try.underlying3 (zeroInt _) (keyOf_int_mk Try.underlying3 hwf)
            obtain rfl : c = ((cnt L 4 x : Nat) : Int) := by have := hc.symm.trans (Hat.out x); simpa using this
            clear hc
            by_cases hlt2 : (bst L k).1 < cnt L 4 x
            · go_wp2
              go_roundw
              case rel =>
                refine ⟨k + 1, by omega, by go_num, by rw [HY.out rfl hlt2], hsay.keep (Below.heap_setCell _ _ _ _ (by simp; omega)), ?_, hb.setCell (by simp; omega) _⟩
                have := hbg.set_ 0 (.int .i64 x)
                rw [HY.out rfl hlt2]
                simpa using this
              case measure => simp [intOf]; omega
            · go_wp2
              go_roundw
              case rel => exact ⟨k + 1, by omega, by go_num, by rw [HN.out (.inr hlt2)], hsay, by rw [HN.out (.inr hlt2)]; exact hbg, hb⟩
              case measure => simp [intOf]; omega
          | false =>
            go_wp2
            go_roundw
            case rel => exact ⟨k + 1, by omega, by go_num, by rw [HN.out (.inl rfl)], hsay, by rw [HN.out (.inl rfl)]; exact hbg, hb⟩
            case measure => simp [intOf]; omega
        · have hbl : Blk wr w.heap.size 30 #[.int .i64 l0, .int .i64 l1, .int .i64 l2, .int .i64 l3] := ((((Blk.new _ _ _).alloc _).alloc _).below hb (by omega))
          have q0 := hbl.cell 0
          have q1 := hbl.cell 1
          have q2 := hbl.cell 2
          have q3 := hbl.cell 3
          have c1 := hbg.cell 1
          have f1 := hbg.frozen 1
          simp only [List.getElem?_toArray, List.getElem?_cons_zero, List.getElem?_cons_succ] at q0 q1 q2 q3 c1
          have hbb := bst_le L k
          rw [HLen.out] at hbb
          have htt := tot_le L 4
          obtain rfl : k = 4 := by omega
          go_wp2
          have eS : decide (((tot L 4 : Nat) : Int) < 2 * ((bst L 4).1 : Nat)) = strong L := by
            unfold strong best; rw [HLen.out]; apply decide_eq_decide.2; omega
          have hb1 := hbg.set_ 1 (.bool (decide (((tot L 4 : Nat) : Int) < 2 * ((bst L 4).1 : Nat))))
          have hbB := hb.setCell (p := ⟨g, 1, none⟩) (by simp; omega) (.bool (decide (((tot L 4 : Nat) : Int) < 2 * ((bst L 4).1 : Nat))))
          rw [eS] at hb1 hbB
          rw [eS]
          have hb2 : Blk (wr.setCell ⟨g, 1, none⟩ (.bool (strong L))) g 33 #[.int .i64 (bst L 4).2, .bool (strong L), .slice none 0 0] := by simpa using hb1
          clear hbl q0 q1 q2 q3 c1 f1 hb1 hb hbg hsay eS
          generalize wr.setCell ⟨g, 1, none⟩ (.bool (strong L)) = wo2 at *
          have eV : (bst L 4).2 = val L := by unfold val; rw [HLen.out]
          rw [eV] at hb2
          clear eV hbb
          obtain ⟨i0, hi, hz0, hz1, hz2⟩ := info_parts infoBool
          simp only [Int.cast_ofNat_Int]
          go_loopw [58] (fun i wr => ∃ k v, k ≤ 4 ∧ i = .int .i64 (k : Nat) ∧ Blk wr g 33 #[.int .i64 (val L), .bool (strong L), v] ∧ wr.ownsRow (w.heap.size + 1 + 1 + 1) 4 1 v k ((L.take k).map fun p => .bool (agree L p.1)) ∧
              Below (w.heap.size + 1 + 1 + 1) (((w.alloc (.cells #[.int .i64 l0, .int .i64 l1, .int .i64 l2, .int .i64 l3] 30)).alloc (.cells #[.bool b0, .bool b1, .bool b2, .bool b3] 28)).alloc (.cells #[.int .i64 0, .bool false, .slice none 0 0] 33)) wr)
              (fun i _ => 4 - (intOf i).toNat)
          case atStart => exact ⟨0, _, Nat.zero_le _, rfl, hb2, World.ownsRow_nil _ _ _ _, hbB⟩
          case round =>
            clear hb2 hbB
            obtain ⟨k, v, hk, rfl, hbg, hown, hb⟩ := hrel
            by_cases hlt : k < 4
            · have hidx := HI.out k hlt
              have hts := take_snoc L k (by rw [HLen.out]; exact hlt)
              generalize L.getD k (0, false) = p at *
              obtain ⟨x, bk⟩ := p
              simp only at hidx
              have Hts := Lib.hid hts
              clear hts
              have c0 := hbg.cell 0
              have c2 := hbg.cell 2
              have f2 := hbg.frozen 2
              simp only [List.getElem?_toArray, List.getElem?_cons_zero, List.getElem?_cons_succ] at c0 c2
              have hsz := hb.size
              simp only [World.size_alloc] at hsz
              have hag : agree L x = (decide (0 < tot L 4) && (x == val L)) := by unfold agree; rw [HLen.out]
              have Hag := Lib.hid hag
              clear hag
              have hvg := own_blk_ne hown hbg (by decide)
              have Hvg := Lib.hid hvg
              clear hvg
              by_cases ht : 0 < tot L 4
              · have htd : decide ((0 : Int) < ((tot L 4 : Nat) : Int)) = true := by simpa using ht
                go_wp2_with (first
                  | (at_builtin; refine wpList_append_own _ rfl _ _ 31 rfl (w.heap.size + 1 + 1 + 1) 4 i0 (.bool false) 1 1 Try.underlying31 hi hz0 hz1 hz2 rfl (by decide) _ _ _ rfl (hown.alloc _) ⟨wr.heap.size, 0, none⟩ 1 1 [.bool (x == val L)] rfl rfl (cell_one_new _ _ _) (by intro u hu; simp at hu; subst hu; rfl) (by unfold maxLen; omega) (by omega) (by simp; omega) ?_; intro v' w1 hown' hgrow _; obtain ⟨g', cap, rfl, hg1, hg2, _⟩ := own_form hown' (Nat.succ_pos _); have hbg1 := (hbg.alloc _).grown hgrow Hvg.out; have d2 := hbg1.cell 2; have e2 := hbg1.frozen 2; simp only [List.getElem?_toArray, List.getElem?_cons_zero, List.getElem?_cons_succ] at d2))
                go_roundw
                case rel =>
                  refine ⟨k + 1, .slice (some ⟨g', 0, none⟩) (k + 1) cap, by omega, by go_num, ?_, ?_, ((hb.alloc (by omega) _).grown hgrow (by simp; omega) (fun j hj => (hown.lt j hj).1)).setCell (by simp; omega) _⟩
                  · have := hbg1.set_ 2 (.slice (some ⟨g', 0, none⟩) (k + 1) cap)
                    simpa using this
                  · rw [Hts.out, List.map_append, List.map_cons, List.map_nil, Hag.out, decide_eq_true ht, Bool.true_and]
                    exact own_set hown' (own_blk_ne hown' hbg1 (by decide)) _
                case measure => simp [intOf]; omega
              · have htd : decide ((0 : Int) < ((tot L 4 : Nat) : Int)) = false := by
                  have ht0 : tot L 4 = 0 := by omega
                  rw [ht0]; rfl
                go_wp2_with (first
                  | (at_builtin; refine wpList_append_own _ rfl _ _ 31 rfl (w.heap.size + 1 + 1 + 1) 4 i0 (.bool false) 1 1 Try.underlying31 hi hz0 hz1 hz2 rfl (by decide) _ _ _ rfl (hown.alloc _) ⟨wr.heap.size, 0, none⟩ 1 1 [.bool false] rfl rfl (cell_one_new _ _ _) (by intro u hu; simp at hu; subst hu; rfl) (by unfold maxLen; omega) (by omega) (by simp; omega) ?_; intro v' w1 hown' hgrow _; obtain ⟨g', cap, rfl, hg1, hg2, _⟩ := own_form hown' (Nat.succ_pos _); have hbg1 := (hbg.alloc _).grown hgrow Hvg.out; have d2 := hbg1.cell 2; have e2 := hbg1.frozen 2; simp only [List.getElem?_toArray, List.getElem?_cons_zero, List.getElem?_cons_succ] at d2))
                go_roundw
                case rel =>
                  refine ⟨k + 1, .slice (some ⟨g', 0, none⟩) (k + 1) cap, by omega, by go_num, ?_, ?_, ((hb.alloc (by omega) _).grown hgrow (by simp; omega) (fun j hj => (hown.lt j hj).1)).setCell (by simp; omega) _⟩
                  · have := hbg1.set_ 2 (.slice (some ⟨g', 0, none⟩) (k + 1) cap)
                    simpa using this
                  · rw [Hts.out, List.map_append, List.map_cons, List.map_nil, Hag.out, decide_eq_false ht, Bool.false_and]
                    exact own_set hown' (own_blk_ne hown' hbg1 (by decide)) _
                case measure => simp [intOf]; omega
            · have hbr : Blk wr (w.heap.size + 1 + 1) 33 #[.int .i64 0, .bool false, .slice none 0 0] := (Blk.at_ _ _ _ _ (by simp)).below hb (by omega)
              have c0 := hbg.cell 0
              have c1 := hbg.cell 1
              have c2 := hbg.cell 2
              have r0 := hbr.cell 0
              have r1 := hbr.cell 1
              have r2 := hbr.cell 2
              have s0 := hbr.frozen 0
              have s1 := hbr.frozen 1
              have s2 := hbr.frozen 2
              simp only [List.getElem?_toArray, List.getElem?_cons_zero, List.getElem?_cons_succ] at c0 c1 c2 r0 r1 r2
              obtain rfl : k = 4 := by omega
              obtain ⟨g', cap, rfl, hg1, hg2, _⟩ := own_form hown (by omega)
              have el : ∀ A : Int → Bool, (L.take 4).map (fun p => Value.bool (A p.1)) = [.bool (A l0), .bool (A l1), .bool (A l2), .bool (A l3)] := by
                intro A; rw [HL.out]; rfl
              rw [el] at hown
              have Hown := Lib.hid hown
              clear el hown
              go_wp2
              have ho := Hown.out
              refine bodyPost_ret (v := .agg #[.int .i64 (val L), .bool (strong L), .slice (some ⟨g', 0, none⟩) 4 cap]) (by simp [results, Try.results23, go_sem, r0, r1, r2]) rfl ⟨_, rfl, ?_, ?_⟩
              · refine own_set (own_set (own_set (own_le ho (by omega)) ?_ _) ?_ _) ?_ _ <;> (simp [Value.ownBlock]; omega)
              · exact (((((((Below.refl w.heap.size w).alloc (Nat.le_refl _) _).alloc (by simp) _).alloc (by simp; omega) _).trans (hb.mono (by omega))).setCell (by simp; omega) _).setCell (by simp; omega) _).setCell (by simp; omega) _

end Go.Proofs.Ytllgjbjcdenchaa
