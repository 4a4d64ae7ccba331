/- WTopCarried, over merged texts. -/
import Derived.Test.YtofeoeknmlkjgaaGreatZ05
import Derived.Test.YtofeoeknmlkjgaaGreatZ10
import Derived.Test.YtofeoeknmlkjgaaGreatZ17
import Derived.Test.YtofeoeknmlkjgaaGreatZ48
set_option linter.unusedVariables false
set_option linter.unusedSimpArgs false
section
/- The walk of TopCarried. -/
set_option linter.unusedVariables false
namespace Go.Proofs.YtofeoeknmlkjgaaGreat.Bs
open Go.RowKit Go.Proofs.YtofeoeknmlkjgaaGreat Crc Sm Wr Go.ChangeShapes Go.WideShapes

theorem cspot_any (v n : Int) (w : World) (hn : 1 ≤ n) (hn' : n ≤ 4611686018427387904) :
    Calls Tryz.prog 6 #[.int .i64 v, .int .i64 n] w fun e w' => e = .returned (.int .i64 (v % n)) ∧ w = w' := by
  have hne : (n == 0) = false := by simp; omega
  have b1 := Int.emod_nonneg v (b := n) (by omega)
  have b2 := Int.emod_lt_of_pos v (b := n) (by omega)
  have b3 : -4611686018427387904 ≤ v.tmod n := by
    rcases tmod_two (v := v) hn with e | e <;> omega
  have hp := fun h => spot_pos (v := v) hn h
  have hm := fun h => spot_neg (v := v) hn h
  have HP := Lib.hid hp
  have HM := Lib.hid hm
  clear hp hm
  by_cases h : v.tmod n < 0
  · go_enter Tryz.func6, Tryz.ntmps6
    go_wp2
    go_ret
    exact ⟨ret_i64 (HM.out h), rfl⟩
  · go_enter Tryz.func6, Tryz.ntmps6
    go_wp2
    go_ret
    exact ⟨ret_i64 (HP.out h), rfl⟩
theorem infoIntC : (Tryz.prog.info? 3).map (fun i => (i.zero, i.size, i.bytes)) = some (some (.int .i64 0), 1, 8) := by kernel_rfl
theorem infoBusC : (Tryz.prog.info? 33).map (·.size) = some 3 := by kernel_rfl
def CaCut (w15 : World) (k : Int × Int × Int × Int × List Int) (sv ev : Value) (w : World) : Prop :=
  ∃ (q : Nat) (A' : Option Addr) (c' : Nat) (p' : Pc), sv = .pointer (some ⟨q, 0, none⟩) ∧ ev = .int .i64 0 ∧ Blk w q 33 #[.int .i64 0, .int .i64 1, .slice A' 1 c'] ∧ QR w A' 1 c' [p'] ∧ p'.key = k ∧ Below w15.heap.size w15 w
theorem infoParcelC : (Tryz.prog.info? 41).map (fun i => (i.zero, i.size, i.bytes)) = some (some (.agg #[.int .i64 0, .int .i64 0, .int .i64 0, .int .i64 0, .slice none 0 0]), 5, 56) := by kernel_rfl
set_option maxRecDepth 100000 in
set_option maxHeartbeats 8000000 in
theorem topcar_bad (K F R : Int) (A : Option Addr) (n c : Nat) (zs : List Int) (dl mk at_ : Int) (w : World) (hI : Ints w .i64 A n zs) (hz : ∀ z ∈ zs, In64 z) (hA : A = none → n = 0 ∧ c = 0) (hn : n * 8 ≤ 140737488355328) (hr : rightE K F R n ≠ 0) :
    Calls Tryz.prog 3 #[.agg #[.int .i64 K, .int .i64 F, .int .i64 R, .slice A n c], .int .i64 dl, .int .i64 mk, .int .i64 at_] w fun e w' => e = .returned (.bool true) ∧ Below w.heap.size w w' := by
  obtain ⟨i0, hi0, hz0, hz1, hz2⟩ := info_parts infoIntC
  have hM0 : Blk (w.alloc (.cells #[.int .i64 K, .int .i64 F, .int .i64 R, .slice A n c] 24)) w.heap.size 24 #[.int .i64 K, .int .i64 F, .int .i64 R, .slice A n c] := Blk.new _ _ _
  have hB0 : Below w.heap.size w (w.alloc (.cells #[.int .i64 K, .int .i64 F, .int .i64 R, .slice A n c] 24)) := (Below.refl _ _).alloc (Nat.le_refl _) _
  have HM := Lib.hid hM0
  have HB0 := Lib.hid hB0
  have HI := Lib.hid (hI.next hB0)
  have HA := Lib.hid hA
  have HZ := Lib.hid hz
  have hzl := hI.1
  have HZL := Lib.hid hzl
  have ka := fun W => Nk.alive_any W
  have KA := Lib.hid ka
  have hs0 : w.heap.size < (w.alloc (.cells #[.int .i64 K, .int .i64 F, .int .i64 R, .slice A n c] 24)).heap.size := by simp
  clear hM0 hB0 hI hz hzl hA ka
  go_enter Tryz.func3, Tryz.ntmps3
  go_upto_region 1 with fail
  generalize w.alloc (.cells #[.int .i64 K, .int .i64 F, .int .i64 R, .slice A n c] 24) = w0 at *
  have m0 := Blk.cell HM.out 0
  have m1 := Blk.cell HM.out 1
  have m2 := Blk.cell HM.out 2
  have m3 := Blk.cell HM.out 3
  (simp only [List.getElem?_toArray, List.getElem?_cons_zero, List.getElem?_cons_succ] at m0 m1 m2 m3)
  go_upto_region 2 with fail
  clear m0 m1 m2 m3
  have hN : Blk (w0.alloc (.cells #[.int .i64 K, .int .i64 F, .int .i64 R, .slice A n c] 24)) w0.heap.size 24 #[.int .i64 K, .int .i64 F, .int .i64 R, .slice A n c] := Blk.new _ _ _
  have hNb : Below w0.heap.size w0 (w0.alloc (.cells #[.int .i64 K, .int .i64 F, .int .i64 R, .slice A n c] 24)) := (Below.refl _ _).alloc (Nat.le_refl _) _
  have m3 := Blk.cell (HM.out.next hNb) 3
  (simp only [List.getElem?_toArray, List.getElem?_cons_zero, List.getElem?_cons_succ] at m3)
  have HN := Lib.hid hN
  have HNB := Lib.hid hNb
  clear hN hNb
  go_upto_region 3 with (first
    | (at_builtin; go_loud (refine wpList_append_ints rfl _ _ 22 rfl (w0.heap.size + 1) 3 i0 (.int .i64 0) .i64 8 Tryz.underlying22 hi0 hz0 hz1 hz2 rfl (.slice none 0 0) 0 [] rfl (World.ownsRow_nil _ _ _ _) A n c zs rfl HA.out (HI.out.next HNB.out) (by unfold maxLen; omega) (by omega) (by simp) ?_); intro v2 w2 hown2 hg2; (simp only [Nat.zero_add, List.nil_append] at hown2); obtain ⟨A2, c2, rfl⟩ := own_shape hown2; have hN1 := Blk.grown HN.out hg2 (fun e => by cases e); have n0 := Blk.cell hN1 0; have n1 := Blk.cell hN1 1; have n2 := Blk.cell hN1 2; have n3 := Blk.cell hN1 3; have f3 := Blk.frozen hN1 3; (simp only [List.getElem?_toArray, List.getElem?_cons_zero, List.getElem?_cons_succ] at n0 n1 n2 n3); have HO2 := Lib.hid hown2; have HG2 := Lib.hid hg2; have HN1 := Lib.hid hN1; clear hown2 hg2 hN1))
  clear m3 n0 n1 n2 n3 f3
  have hN3 : Blk (w2.setCell ⟨w0.heap.size, 3, none⟩ (.slice A2 n c2)) w0.heap.size 24 #[.int .i64 K, .int .i64 F, .int .i64 R, .slice A2 n c2] := HN1.out.set_ 3 (.slice A2 n c2)
  have hB3 : Below w0.heap.size w0 (w2.setCell ⟨w0.heap.size, 3, none⟩ (.slice A2 n c2)) := ((HNB.out.grown HG2.out HNB.out.size (fun j hj => by cases hj))).setCell (p := ⟨w0.heap.size, 3, none⟩) (Nat.le_refl _) _
  have hO3 := own_kept_t HO2.out (grown_set w2 w0.heap.size 3 (.slice A2 n c2)) HN1.out (by decide)
  generalize w2.setCell ⟨w0.heap.size, 3, none⟩ (.slice A2 n c2) = w3 at *
  have HN3 := Lib.hid hN3
  have HB3 := Lib.hid hB3
  have HI3 := Lib.hid (Ints.own hO3)
  have n0 := Blk.cell hN3 0
  have n1 := Blk.cell hN3 1
  have n2 := Blk.cell hN3 2
  have n3 := Blk.cell hN3 3
  (simp only [List.getElem?_toArray, List.getElem?_cons_zero, List.getElem?_cons_succ] at n0 n1 n2 n3)
  clear hN3 hB3 hO3 HO2 HG2 HN1 HN HNB
  have HE := Lib.hid (Encode_any K F R A2 n c2 zs w3 HI3.out HZ.out (by omega))
  have hb : (rightE K F R n != 0) = true := by rw [bne_iff_ne]; exact hr
  have HR := Lib.hid hr
  clear hr
  go_upto_region 4 with (first
    | (go_at_call 4; (with_reducible refine HE.out.mono ?_); rintro e w4 hp; have h4 := hp.resolve_left (fun h => HR.out h.1); obtain ⟨_, rfl, hB4⟩ := h4; have HB4 := Lib.hid hB4; clear hp hB4))
  generalize rightE K F R n = er at *
  go_wp2_with (first
    | (go_at_call 5; (with_reducible refine (KA.out w4).mono ?_); rintro e w5 ⟨rfl, hB5⟩; have HB5 := Lib.hid hB5; clear hB5)
    | (go_at_call 5; (with_reducible refine (KA.out w5).mono ?_); rintro e w6 ⟨rfl, hB6⟩; have HB6 := Lib.hid hB6; clear hB6))
  go_ret
  exact ⟨rfl, below_next (below_next (below_next (HB0.out.trans (HB3.out.mono HB0.out.size)) HB4.out) HB5.out) HB6.out⟩
set_option maxRecDepth 100000 in
set_option maxHeartbeats 8000000 in
theorem topcar_later (K F R : Int) (A : Option Addr) (n c : Nat) (zs : List Int) (dl mk at_ : Int) (w : World) (hI : Ints w .i64 A n zs) (hz : ∀ z ∈ zs, In64 z) (hA : A = none → n = 0 ∧ c = 0) (hn : n * 8 ≤ 140737488355328) (hr : rightE K F R n = 0) (hdl : 1 ≤ dl % 1001) :
    Calls Tryz.prog 3 #[.agg #[.int .i64 K, .int .i64 F, .int .i64 R, .slice A n c], .int .i64 dl, .int .i64 mk, .int .i64 at_] w fun e w' => e = .returned (.bool true) ∧ Below w.heap.size w w' := by
  obtain ⟨i0, hi0, hz0, hz1, hz2⟩ := info_parts infoIntC
  have hM0 : Blk (w.alloc (.cells #[.int .i64 K, .int .i64 F, .int .i64 R, .slice A n c] 24)) w.heap.size 24 #[.int .i64 K, .int .i64 F, .int .i64 R, .slice A n c] := Blk.new _ _ _
  have hB0 : Below w.heap.size w (w.alloc (.cells #[.int .i64 K, .int .i64 F, .int .i64 R, .slice A n c] 24)) := (Below.refl _ _).alloc (Nat.le_refl _) _
  have HM := Lib.hid hM0
  have HB0 := Lib.hid hB0
  have HI := Lib.hid (hI.next hB0)
  have HA := Lib.hid hA
  have HZ := Lib.hid hz
  have hzl := hI.1
  have HZL := Lib.hid hzl
  have ka := fun W => Nk.alive_any W
  have KA := Lib.hid ka
  have hs0 : w.heap.size < (w.alloc (.cells #[.int .i64 K, .int .i64 F, .int .i64 R, .slice A n c] 24)).heap.size := by simp
  clear hM0 hB0 hI hz hzl hA ka
  go_enter Tryz.func3, Tryz.ntmps3
  go_upto_region 1 with fail
  generalize w.alloc (.cells #[.int .i64 K, .int .i64 F, .int .i64 R, .slice A n c] 24) = w0 at *
  have m0 := Blk.cell HM.out 0
  have m1 := Blk.cell HM.out 1
  have m2 := Blk.cell HM.out 2
  have m3 := Blk.cell HM.out 3
  (simp only [List.getElem?_toArray, List.getElem?_cons_zero, List.getElem?_cons_succ] at m0 m1 m2 m3)
  go_upto_region 2 with fail
  clear m0 m1 m2 m3
  have hN : Blk (w0.alloc (.cells #[.int .i64 K, .int .i64 F, .int .i64 R, .slice A n c] 24)) w0.heap.size 24 #[.int .i64 K, .int .i64 F, .int .i64 R, .slice A n c] := Blk.new _ _ _
  have hNb : Below w0.heap.size w0 (w0.alloc (.cells #[.int .i64 K, .int .i64 F, .int .i64 R, .slice A n c] 24)) := (Below.refl _ _).alloc (Nat.le_refl _) _
  have m3 := Blk.cell (HM.out.next hNb) 3
  (simp only [List.getElem?_toArray, List.getElem?_cons_zero, List.getElem?_cons_succ] at m3)
  have HN := Lib.hid hN
  have HNB := Lib.hid hNb
  clear hN hNb
  go_upto_region 3 with (first
    | (at_builtin; go_loud (refine wpList_append_ints rfl _ _ 22 rfl (w0.heap.size + 1) 3 i0 (.int .i64 0) .i64 8 Tryz.underlying22 hi0 hz0 hz1 hz2 rfl (.slice none 0 0) 0 [] rfl (World.ownsRow_nil _ _ _ _) A n c zs rfl HA.out (HI.out.next HNB.out) (by unfold maxLen; omega) (by omega) (by simp) ?_); intro v2 w2 hown2 hg2; (simp only [Nat.zero_add, List.nil_append] at hown2); obtain ⟨A2, c2, rfl⟩ := own_shape hown2; have hN1 := Blk.grown HN.out hg2 (fun e => by cases e); have n0 := Blk.cell hN1 0; have n1 := Blk.cell hN1 1; have n2 := Blk.cell hN1 2; have n3 := Blk.cell hN1 3; have f3 := Blk.frozen hN1 3; (simp only [List.getElem?_toArray, List.getElem?_cons_zero, List.getElem?_cons_succ] at n0 n1 n2 n3); have HO2 := Lib.hid hown2; have HG2 := Lib.hid hg2; have HN1 := Lib.hid hN1; clear hown2 hg2 hN1))
  clear m3 n0 n1 n2 n3 f3
  have hN3 : Blk (w2.setCell ⟨w0.heap.size, 3, none⟩ (.slice A2 n c2)) w0.heap.size 24 #[.int .i64 K, .int .i64 F, .int .i64 R, .slice A2 n c2] := HN1.out.set_ 3 (.slice A2 n c2)
  have hB3 : Below w0.heap.size w0 (w2.setCell ⟨w0.heap.size, 3, none⟩ (.slice A2 n c2)) := ((HNB.out.grown HG2.out HNB.out.size (fun j hj => by cases hj))).setCell (p := ⟨w0.heap.size, 3, none⟩) (Nat.le_refl _) _
  have hO3 := own_kept_t HO2.out (grown_set w2 w0.heap.size 3 (.slice A2 n c2)) HN1.out (by decide)
  generalize w2.setCell ⟨w0.heap.size, 3, none⟩ (.slice A2 n c2) = w3 at *
  have HN3 := Lib.hid hN3
  have HB3 := Lib.hid hB3
  have HI3 := Lib.hid (Ints.own hO3)
  have n0 := Blk.cell hN3 0
  have n1 := Blk.cell hN3 1
  have n2 := Blk.cell hN3 2
  have n3 := Blk.cell hN3 3
  (simp only [List.getElem?_toArray, List.getElem?_cons_zero, List.getElem?_cons_succ] at n0 n1 n2 n3)
  clear hN3 hB3 hO3 HO2 HG2 HN1 HN HNB
  have h24 := right0.1 hr
  obtain ⟨_, _, hF0, hF3, _, _, hn24⟩ := h24
  have HE := Lib.hid (enc_ok K F R A2 n c2 zs w3 HI3.out HZ.out hr)
  have ks := fun v n W h1 h2 => cspot_any v n W h1 h2
  have KS := Lib.hid ks
  clear ks
  have HR := Lib.hid hr
  clear hr
  have hd0 := Int.emod_nonneg dl (b := 1001) (by decide)
  have hd1 := Int.emod_lt_of_pos dl (b := 1001) (by decide)
  go_upto_region 7 with (first
    | (go_at_call 4; (with_reducible refine HE.out.mono ?_); rintro e w4 ⟨A4, c4, rfl, hO4, hB4⟩; have HO4 := Lib.hid hO4; have HB4 := Lib.hid hB4; clear hO4 hB4)
    | (go_at_call 5; (with_reducible refine (KA.out w4).mono ?_); rintro e w5 ⟨rfl, hB5⟩; have HB5 := Lib.hid hB5; clear hB5)
    | (go_at_call 6; (with_reducible refine (KS.out _ _ _ (by decide) (by decide)).mono ?_); rintro e w9 ⟨rfl, rfl⟩)
    | go_big_skip)
  obtain ⟨dd, hdd⟩ : ∃ dd, dl % 1001 = dd := ⟨_, rfl⟩
  rw [hdd] at hd0 hd1 hdl ⊢
  clear hdd n0 n1 n2 n3 HE
  have hB5 : Below w0.heap.size w0 w5 := (HB3.out.trans (HB4.out.mono HB3.out.size)).trans (HB5.out.mono (by have := HB3.out.size; have := HB4.out.size; omega))
  have HB05 := Lib.hid hB5
  have hO5 := own_below HO4.out HB5.out (fun x hx => (HO4.out.lt x hx).2)
  obtain ⟨bts, hbt⟩ : ∃ b, sealed (encB K F R zs) = b := ⟨_, rfl⟩
  rw [hbt] at hO5 HO4
  have hbz : Byts8 bts := by rw [← hbt]; exact sealed_in _ (encB_in K F R zs (by rw [HZL.out]; exact HR.out))
  have HBT := Lib.hid hbt
  have HBZ := Lib.hid hbz
  have HI5 := Lib.hid (Ints.own hO5)
  have HA5 := Lib.hid (own_none hO5).1
  clear hB5 hO5 hbt hbz HO4 HB4 HB5 HB3 HI3 HN3
  have q5 := Blk.cell (HM.out.next HB05.out) 1
  (simp only [List.getElem?_toArray, List.getElem?_cons_zero, List.getElem?_cons_succ] at q5)
  have HS := Lib.hid (Send_any 0 0 F ((F + 1) % 4) dd none 0 0 [] A4 (8 + 8 * n + 4) c4 bts w5 (QR.nil _) HI5.out HA5.out HBZ.out (by omega) (by decide) ⟨hF0, by omega⟩ ⟨by omega, by omega⟩ (by omega) ⟨hd0, by omega⟩ (by decide) (by decide))
  go_upto_region 8 with (first
    | (go_at_call 7; (with_reducible refine HS.out.mono ?_); rintro e w6 ⟨A6, c6, L6, rfl, hq6, hk6, hB6⟩; have HQ6 := Lib.hid hq6; have HK6 := Lib.hid hk6; have HB6 := Lib.hid hB6; clear hq6 hk6 hB6))
  clear q5 HS
  have hl6 : L6.length = 1 := by have := congrArg List.length HK6.out; simpa using this
  obtain ⟨p, hp⟩ := List.length_eq_one_iff.1 hl6
  subst hp
  have hpk : p.key = (F, (F + 1) % 4, 0 + dd, 0, bts) := by have := HK6.out; simpa using this
  have hpd : p.du = dd := by have := congrArg (fun k => k.2.2.1) hpk; simp [Pc.key] at this; exact this
  have hpz : p.zs = bts := congrArg (fun k => k.2.2.2.2) hpk
  have hps : p.se = 0 := congrArg (fun k => k.2.2.2.1) hpk
  have HPK := Lib.hid hpk
  have HPD := Lib.hid hpd
  have HPZ := Lib.hid hpz
  have HPS := Lib.hid hps
  have hX : Blk (w6.alloc (.cells #[.int .i64 0, .int .i64 1, .slice A6 1 c6] 33)) w6.heap.size 33 #[.int .i64 0, .int .i64 1, .slice A6 1 c6] := Blk.new _ _ _
  have hq7 := rd1 hl6 (HQ6.out.alloc (.cells #[.int .i64 0, .int .i64 1, .slice A6 1 c6] 33))
  have hB7 : Below w0.heap.size w0 (w6.alloc (.cells #[.int .i64 0, .int .i64 1, .slice A6 1 c6] 33)) := (HB05.out.trans (HB6.out.mono HB05.out.size)).alloc (by have := HB05.out.size; have := HB6.out.size; omega) _
  clear hpk hpd hpz hps hl6 HQ6 HK6
  generalize w6.alloc (.cells #[.int .i64 0, .int .i64 1, .slice A6 1 c6] 33) = w7 at *
  have HX := Lib.hid hX
  have HQ7 := Lib.hid hq7
  have HB7 := Lib.hid hB7
  have x0 := Blk.cell hX 0
  have x1 := Blk.cell hX 1
  have x2 := Blk.cell hX 2
  (simp only [List.getElem?_toArray, List.getElem?_cons_zero, List.getElem?_cons_succ] at x0 x1 x2)
  clear hX hq7 hB7
  have HBw7 := HB7
  have HCw7 := Lib.hid (Below.refl w7.heap.size w7)
  have HSZ : Hid (w7.heap.size ≤ w7.heap.size) := Lib.hid (Nat.le_refl _)
  clear HSZ
  have qm : max (dd - 1) 0 = dd - 1 := by omega
  have qm2 : decide (dd - 1 < 0) = false := by rw [decide_eq_false_iff_not]; omega
  have HT := Lib.hid (step_none 0 1 (dd - 1) A6 c6 [p] w7 HQ7.out (by omega) (by omega) p rfl (by rw [HPD.out]; omega))
  go_upto_region 9 with (first
    | (go_at_call 8; (with_reducible refine HT.out.mono ?_); rintro e w8 ⟨A8, c8, A9, c9, q, rfl, hqk, hq8, hq9, hB8⟩; have HQK := Lib.hid hqk; have HQ8 := Lib.hid hq8; have HQ9 := Lib.hid hq9; have HB8 := Lib.hid hB8; clear hqk hq8 hq9 hB8))
  clear HT x0 x1 x2 qm qm2
  have hXw9 : Blk (w8.alloc (.cells #[.int .i64 (dd - 1), .int .i64 1, .slice A8 1 c8] 33)) w8.heap.size 33 #[.int .i64 (dd - 1), .int .i64 1, .slice A8 1 c8] := Blk.new _ _ _
  have hBw9 : Below w0.heap.size w0 (w8.alloc (.cells #[.int .i64 (dd - 1), .int .i64 1, .slice A8 1 c8] 33)) := (HBw7.out.trans (HB8.out.mono HBw7.out.size)).alloc (by have := HBw7.out.size; have := HB8.out.size; omega) _
  have hCw9 : Below w7.heap.size w7 (w8.alloc (.cells #[.int .i64 (dd - 1), .int .i64 1, .slice A8 1 c8] 33)) := (HCw7.out.trans (HB8.out.mono HCw7.out.size)).alloc (by have := HCw7.out.size; have := HB8.out.size; omega) _
  have hr8 := rd1 rfl (HQ8.out.alloc (.cells #[.int .i64 (dd - 1), .int .i64 1, .slice A8 1 c8] 33))
  have hn9 := HQ9.out.alloc (.cells #[.int .i64 (dd - 1), .int .i64 1, .slice A8 1 c8] 33)
  have hszw9 : (w8.alloc (.cells #[.int .i64 (dd - 1), .int .i64 1, .slice A8 1 c8] 33)).heap.size = w8.heap.size + 1 := by simp
  generalize (w8.alloc (.cells #[.int .i64 (dd - 1), .int .i64 1, .slice A8 1 c8] 33)) = w9 at *
  have HXw9 := Lib.hid hXw9
  have HBw9 := Lib.hid hBw9
  have HCw9 := Lib.hid hCw9
  have HR8 := Lib.hid hr8
  have HN9 := Lib.hid hn9
  have x0 := Blk.cell hXw9 0
  have x1 := Blk.cell hXw9 1
  have x2 := Blk.cell hXw9 2
  (simp only [List.getElem?_toArray, List.getElem?_cons_zero, List.getElem?_cons_succ] at x0 x1 x2)
  clear hXw9 hBw9 hCw9 hr8 hn9
  have hqd : q.du = dd := (congrArg (fun k => k.2.2.1) HQK.out).trans HPD.out
  have HQD := Lib.hid hqd
  clear hqd
  have HT := Lib.hid (step_one (dd - 1) 1 dd A8 c8 [q] w9 HR8.out (by omega) (by omega) q rfl (by rw [HQD.out]; omega))
  go_upto_region 10 with (first
    | (go_at_call 8; (with_reducible refine HT.out.mono ?_); rintro e w10 ⟨A11, c11, A12, c12, r, rfl, hrk, hq12, hq11, hB10⟩; have HRK := Lib.hid hrk; have HQ12 := Lib.hid hq12; have HB10 := Lib.hid hB10; clear hrk hq12 hq11 hB10))
  clear HT x0 x1 x2 HR8 HQ8 HQD
  have hXw11 : Blk (w10.alloc (.cells #[.int .i64 dd, .int .i64 1, .slice A11 0 c11] 33)) w10.heap.size 33 #[.int .i64 dd, .int .i64 1, .slice A11 0 c11] := Blk.new _ _ _
  have hBw11 : Below w0.heap.size w0 (w10.alloc (.cells #[.int .i64 dd, .int .i64 1, .slice A11 0 c11] 33)) := (HBw9.out.trans (HB10.out.mono HBw9.out.size)).alloc (by have := HBw9.out.size; have := HB10.out.size; omega) _
  have hCw11 : Below w7.heap.size w7 (w10.alloc (.cells #[.int .i64 dd, .int .i64 1, .slice A11 0 c11] 33)) := (HCw9.out.trans (HB10.out.mono HCw9.out.size)).alloc (by have := HCw9.out.size; have := HB10.out.size; omega) _
  have hc12 := HQ12.out.alloc (.cells #[.int .i64 dd, .int .i64 1, .slice A11 0 c11] 33)
  have hn11 := (HN9.out.next HB10.out).alloc (.cells #[.int .i64 dd, .int .i64 1, .slice A11 0 c11] 33)
  have hszw11 : (w10.alloc (.cells #[.int .i64 dd, .int .i64 1, .slice A11 0 c11] 33)).heap.size = w10.heap.size + 1 := by simp
  generalize (w10.alloc (.cells #[.int .i64 dd, .int .i64 1, .slice A11 0 c11] 33)) = w11 at *
  have HXw11 := Lib.hid hXw11
  have HBw11 := Lib.hid hBw11
  have HCw11 := Lib.hid hCw11
  have HC12 := Lib.hid hc12
  have HN11 := Lib.hid hn11
  have x0 := Blk.cell hXw11 0
  have x1 := Blk.cell hXw11 1
  have x2 := Blk.cell hXw11 2
  (simp only [List.getElem?_toArray, List.getElem?_cons_zero, List.getElem?_cons_succ] at x0 x1 x2)
  clear hXw11 hBw11 hCw11 hc12 hn11
  clear x0 x1 x2
  have HSZ := Lib.hid (show w7.heap.size ≤ w11.heap.size by have h1 := HB8.out.size; have h2 := HB10.out.size; omega)
  clear hszw9 hszw11
  have hrz : r.zs = bts := (congrArg (fun k => k.2.2.2.2) (HRK.out.trans HQK.out)).trans HPZ.out
  have HRZ := Lib.hid hrz
  clear hrz
  obtain ⟨p0, hp0, pz0, pz1, pz2⟩ := info_parts infoParcelC
  have hrow := HC12.out.2.1 r (List.mem_singleton.2 rfl)
  have HROW := Lib.hid hrow
  clear hrow
  have hs8 := HB8.out.size
  have hs10 := HB10.out.size
  go_upto_region 13 with (first
    | (at_builtin; go_loud (refine wpList_append_vr _ _ 31 rfl rfl w7.heap.size 41 p0 _ 5 56 Tryz.underlying31 hp0 pz0 pz1 pz2 rfl (by decide) (.slice A9 0 c9) 0 [] rfl HN11.out.1 A12 1 c12 (flat [r]) rfl (VR.own HC12.out.1) (by intro u hu; simp [flat, Pc.cells] at hu; (try (rcases hu with rfl | rfl | rfl | rfl | rfl <;> rfl))) (by unfold maxLen; omega) (by omega) HSZ.out ?_); intro v12 w12 hown12 hg12; have HO12 := Lib.hid hown12; have HG12 := Lib.hid hg12; clear hown12 hg12)
    | go_big_skip)
  have hO12 : w12.ownsRow w7.heap.size 41 5 v12 1 (flat [r]) := by simpa using HO12.out
  have hrw := HROW.out.1.kept HG12.out (own_own_ne HROW.out.1 HN11.out.1 (by decide))
  obtain ⟨A13, c13, rfl⟩ := own_shape hO12
  obtain ⟨b13, o13, rfl, hl13, hc13⟩ := (VR.own hO12).2.2 (by decide)
  have c134 := hc13 4 (.slice r.A r.n r.c) rfl
  have hri := (ints_own hrw).1
  have hrn := (own_none hrw).2.2
  have h220 := HROW.out.2.1
  have hb8 := HROW.out.2.2
  have hmsg : IsMsg r.zs K F R zs := ⟨by rw [HZL.out]; exact HR.out, HZ.out, by rw [HRZ.out]; exact HBT.out.symm⟩
  have HMSG := Lib.hid hmsg
  have HD := Lib.hid (Decode_any r.A r.n r.c r.zs w12 hri hrn (by omega) hb8)
  have hc12 : Below w7.heap.size w7 w12 := HCw11.out.grown HG12.out HCw11.out.size (fun j hj => (HN11.out.1.lt j hj).1)
  have HC12b := Lib.hid hc12
  clear hO12 hrw hc13 hri hmsg hc12 HO12
  go_upto_region 14 with (first
    | (go_at_call 9; (with_reducible refine HD.out.mono ?_); rintro e w13 hp13; obtain ⟨A14, c14, he, hO14, hB14⟩ := hp13.ok HMSG.out; rw [HZL.out] at he hO14; subst he; have HO14 := Lib.hid hO14; have HB14 := Lib.hid hB14; clear hp13 hO14 hB14))
  clear c134 HD
  have hE : Blk (w13.alloc (.cells #[.int .i64 K, .int .i64 F, .int .i64 R, .slice A14 n c14] 24)) w13.heap.size 24 #[.int .i64 K, .int .i64 F, .int .i64 R, .slice A14 n c14] := Blk.new _ _ _
  have hI14 := (Ints.own HO14.out).alloc (.cells #[.int .i64 K, .int .i64 F, .int .i64 R, .slice A14 n c14] 24)
  have hC14 : Below w7.heap.size w7 (w13.alloc (.cells #[.int .i64 K, .int .i64 F, .int .i64 R, .slice A14 n c14] 24)) := (HC12b.out.trans (HB14.out.mono HC12b.out.size)).alloc (by have := HC12b.out.size; have := HB14.out.size; omega) _
  generalize w13.alloc (.cells #[.int .i64 K, .int .i64 F, .int .i64 R, .slice A14 n c14] 24) = w14 at *
  have HE := Lib.hid (fun W (h : Below w14.heap.size w14 W) => hE.next h)
  have HI14 := Lib.hid (fun W (h : Below w14.heap.size w14 W) => hI14.next h)
  have HC14 := Lib.hid hC14
  have hB14 := HBw7.out.trans (hC14.mono HBw7.out.size)
  have HMW := Lib.hid (fun W (h : Below w14.heap.size w14 W) => HM.out.next (hB14.trans (h.mono hB14.size)))
  have HIW := Lib.hid (fun W (h : Below w14.heap.size w14 W) => HI.out.next (hB14.trans (h.mono hB14.size)))
  have m0 := Blk.cell (HMW.out _ (Below.refl _ _)) 0
  have m1 := Blk.cell (HMW.out _ (Below.refl _ _)) 1
  have m2 := Blk.cell (HMW.out _ (Below.refl _ _)) 2
  have m3 := Blk.cell (HMW.out _ (Below.refl _ _)) 3
  have e0 := Blk.cell hE 0
  have e1 := Blk.cell hE 1
  have e2 := Blk.cell hE 2
  have e3 := Blk.cell hE 3
  (simp only [List.getElem?_toArray, List.getElem?_cons_zero, List.getElem?_cons_succ] at m0 m1 m2 m3 e0 e1 e2 e3)
  clear hE hI14 hC14 hB14
  go_upto_region 17 with (first | go_big_skip)
  clear m0 m1 m2 m3 e0 e1 e2 e3
  go_loopw [23] (fun sv wr => ∃ j : Nat, sv = .int .i64 j ∧ j ≤ n ∧ Below w14.heap.size w14 wr) (fun sv _ => n - (intOf sv).toNat)
  case atStart => exact ⟨0, rfl, Nat.zero_le _, Below.refl _ _⟩
  case round =>
    obtain ⟨j, rfl, hj, hB⟩ := hrel
    have HBj := Lib.hid hB
    clear hB
    have m3 := Blk.cell (HMW.out _ HBj.out) 3
    have e3 := Blk.cell (HE.out _ HBj.out) 3
    (simp only [List.getElem?_toArray, List.getElem?_cons_zero, List.getElem?_cons_succ] at m3 e3)
    by_cases hjn : j < n
    · have q0 : (j : Int) < (n : Int) := by omega
      have qj : (0 : Int) ≤ (j : Int) := by omega
      obtain ⟨ba, oa, rfl, hal, hac0⟩ := (HIW.out _ HBj.out).2 (by omega)
      obtain ⟨bb, ob, rfl, hbl, hbc0⟩ := (HI14.out _ HBj.out).2 (by omega)
      have hac := hac0 j hjn
      have hbc := hbc0 j hjn
      clear hac0 hbc0
      go_upto_region 19 with fail
      refine wp_region_held (S := fun w' => Below wr.heap.size wr w') (by kernel_rfl) ?_
      have hS := ((Below.refl wr.heap.size wr).drew : Below wr.heap.size wr wr.drew)
      refine wpAnyH_takeL (i := 0) (v := ?_) rfl (by kernel_rfl) (by kernel_rfl) (by kernel_rfl) (fun _ _ _ h => h) (Or.inl ⟨by rfl, fun wx hSw => ?_⟩) hS ?_
      rotate_left
      · go_simp; (try with_reducible rfl)
      try simp only [pts]
      refine wpAnyH_takeL (i := 1) (v := .slice (some ⟨bb, ob, none⟩) n c14) rfl (by kernel_rfl) (by kernel_rfl) (by kernel_rfl) (fun _ _ _ h => h) (Or.inl ⟨by rfl, fun wx hSw => by have hc := Blk.cell ((HE.out _ HBj.out).next hSw) 3; (simp only [List.getElem?_toArray, List.getElem?_cons_zero, List.getElem?_cons_succ] at hc); go_simp⟩) hS ?_
      try simp only [pts]
      refine wpAnyH_takeL (i := 2) (v := ?_) rfl (by kernel_rfl) (by kernel_rfl) (by kernel_rfl) (fun _ _ _ h => h) (Or.inl ⟨by rfl, fun wx hSw => ?_⟩) hS ?_
      rotate_left
      · go_simp; (try with_reducible rfl)
      try simp only [pts]
      refine wpAnyH_takeL (i := 3) (v := ?_) rfl (by kernel_rfl) (by kernel_rfl) (by kernel_rfl) (fun _ _ _ h => h) (Or.inl ⟨by rfl, fun wx hSw => ?_⟩) hS ?_
      rotate_left
      · go_simp; (try with_reducible rfl)
      try simp only [pts]
      refine wpAnyH_takeL (i := 4) (v := .int .i64 (zs.getD j 0)) rfl (by kernel_rfl) (by kernel_rfl) (by kernel_rfl) (fun _ _ _ h => h) (Or.inl ⟨by rfl, fun wx hSw => by have hc := (hSw.cell (p := ⟨bb, ob + j, none⟩) hbl).trans hbc; go_simp⟩) hS ?_
      try simp only [pts]
      refine wpAnyH_takeL (i := 5) (v := ?_) rfl (by kernel_rfl) (by kernel_rfl) (by kernel_rfl) (fun _ _ _ h => h) (Or.inl ⟨by rfl, fun wx hSw => ?_⟩) hS ?_
      rotate_left
      · go_simp; (try with_reducible rfl)
      try simp only [pts]
      refine wpAnyH_takeL (i := 6) (v := .slice (some ⟨ba, oa, none⟩) n c) rfl (by kernel_rfl) (by kernel_rfl) (by kernel_rfl) (fun _ _ _ h => h) (Or.inl ⟨by rfl, fun wx hSw => by have hc := Blk.cell ((HMW.out _ HBj.out).next hSw) 3; (simp only [List.getElem?_toArray, List.getElem?_cons_zero, List.getElem?_cons_succ] at hc); go_simp⟩) hS ?_
      try simp only [pts]
      refine wpAnyH_takeL (i := 7) (v := ?_) rfl (by kernel_rfl) (by kernel_rfl) (by kernel_rfl) (fun _ _ _ h => h) (Or.inl ⟨by rfl, fun wx hSw => ?_⟩) hS ?_
      rotate_left
      · go_simp; (try with_reducible rfl)
      try simp only [pts]
      refine wpAnyH_takeL (i := 8) (v := ?_) rfl (by kernel_rfl) (by kernel_rfl) (by kernel_rfl) (fun _ _ _ h => h) (Or.inl ⟨by rfl, fun wx hSw => ?_⟩) hS ?_
      rotate_left
      · go_simp; (try with_reducible rfl)
      try simp only [pts]
      refine wpAnyH_takeL (i := 9) (v := .int .i64 (zs.getD j 0)) rfl (by kernel_rfl) (by kernel_rfl) (by kernel_rfl) (fun _ _ _ h => h) (Or.inl ⟨by rfl, fun wx hSw => by have hc := (hSw.cell (p := ⟨ba, oa + j, none⟩) hal).trans hac; go_simp⟩) hS ?_
      try simp only [pts]
      refine wpAnyH_takeL (i := 10) (v := ?_) rfl (by kernel_rfl) (by kernel_rfl) (by kernel_rfl) (fun _ _ _ h => h) (Or.inl ⟨by rfl, fun wx hSw => ?_⟩) hS ?_
      rotate_left
      · have hq := (show (zs.getD j 0 != zs.getD j 0) = false by simp); go_simp; (try with_reducible rfl)
      try simp only [pts]
      refine wpAnyH_done (by kernel_rfl) ?_ _
      go_wp2_with fail
      go_roundw
      case rel => exact ⟨j + 1, by go_num, by omega, HBj.out.drew⟩
      case measure => simp [intOf]; omega
    · have q0 : decide ((j : Int) < (n : Int)) = false := by rw [decide_eq_false_iff_not]; omega
      have hCj := HC14.out.trans (HBj.out.mono HC14.out.size)
      have HCj := Lib.hid hCj
      have hXj := fun W (h : Below wr.heap.size wr W) => Blk.next HX.out (hCj.trans (h.mono hCj.size))
      have HXj := Lib.hid hXj
      have hQj := fun W (h : Below wr.heap.size wr W) => HQ7.out.next (hCj.trans (h.mono hCj.size))
      have HQj := Lib.hid hQj
      clear hCj hXj hQj
      have a0 := Int.emod_nonneg at_ (b := (8 + 8 * (n : Int) + 4)) (by omega)
      have a1 := Int.emod_lt_of_pos at_ (b := (8 + 8 * (n : Int) + 4)) (by omega)
      obtain ⟨an, han⟩ : ∃ an : Nat, at_ % (8 + 8 * (n : Int) + 4) = (an : Int) := ⟨(at_ % (8 + 8 * (n : Int) + 4)).toNat, by omega⟩
      have b0 := Int.emod_nonneg mk (b := 255) (by decide)
      have b1 := Int.emod_lt_of_pos mk (b := 255) (by decide)
      obtain ⟨bm, hbm⟩ : ∃ b, mk % 255 = b := ⟨_, rfl⟩
      have KS1 := Lib.hid (fun W => (KS.out at_ (8 + 8 * (n : Int) + 4) W (by omega) (by omega)).mono (fun e w' h => (⟨by rw [h.1, han], h.2⟩ : e = .returned (.int .i64 (an : Int)) ∧ W = w')))
      have KS2 := Lib.hid (fun W => (KS.out mk 255 W (by decide) (by decide)).mono (fun e w' h => (⟨by rw [h.1, hbm], h.2⟩ : e = .returned (.int .i64 bm) ∧ W = w')))
      rw [han] at a0 a1
      rw [hbm] at b0 b1
      clear han hbm
      have hw1 : IntKind.i64.wrap (1 + bm) = 1 + bm := IntWalk.i64_in _ (by omega)
      have hpn : p.n = (8 + 8 * n + 4) := by have h1 := ((HQ7.out.2.2.2 p (List.mem_singleton.2 rfl)).1).1; rw [HPZ.out, ← HBT.out, sealed_len, encB_len, HZL.out] at h1; omega
      have HPN := Lib.hid hpn
      clear hpn
      have KT := Lib.hid (fun W (h : Below wr.heap.size wr W) => Turn_ok 0 1 0 (1 + bm) an 0 p A6 1 c6 [p] W (HQj.out W h) (by decide) rfl HPS.out (fun j q hj => absurd hj (Nat.not_lt_zero j)) (by rw [HPN.out]; omega) (by omega) (by omega))
      go_upto_region 21 with fail
      clear m3 e3
      go_cut [24, 25] (fun s24 s25 wx => CaCut wr (p.fr, p.to, p.du, p.se, p.zs.set an (bits .xor .u8 (p.zs.getD an 0) (1 + bm))) s24 s25 wx)
      case first =>
        refine wp_region_G 14 (fun w' => Below wr.heap.size wr w') (by kernel_rfl) ((Below.refl _ _).drew) (fun hS => ?_)
        refine wpT 0 (.agg #[.int .i64 0, .int .i64 1, .slice A6 1 c6]) rfl (by kernel_rfl) (fun _ _ _ h => h) (Or.inl ⟨by rfl, fun wx hSw => by have y0 := Blk.cell (HXj.out _ hSw) 0; have y1 := Blk.cell (HXj.out _ hSw) 1; have y2 := Blk.cell (HXj.out _ hSw) 2; (simp only [List.getElem?_toArray, List.getElem?_cons_zero, List.getElem?_cons_succ] at y0 y1 y2); go_simp⟩) hS ?_
        try simp only [pts]
        refine wpG 1 ?_ rfl (by kernel_rfl) (fun _ _ _ h => h) (by rfl) (fun wx => ?_) hS ?_
        rotate_left
        · go_simp; (try with_reducible rfl)
        try simp only [pts]
        refine wpG 2 ?_ rfl (by kernel_rfl) (fun _ _ _ h => h) (by rfl) (fun wx => ?_) hS ?_
        rotate_left
        · go_simp; (try with_reducible rfl)
        try simp only [pts]
        refine wpG 3 ?_ rfl (by kernel_rfl) (fun _ _ _ h => h) (by rfl) (fun wx => ?_) hS ?_
        rotate_left
        · go_simp; (try with_reducible rfl)
        try simp only [pts]
        refine wpG 5 ?_ rfl (by kernel_rfl) (fun _ _ _ h => h) (by rfl) (fun wx => ?_) hS ?_
        rotate_left
        · go_simp; (try with_reducible rfl)
        try simp only [pts]
        refine wpAnyG_two (i := 4) (j := 12) rfl rfl (by kernel_rfl) (fun K hK => ?_) (fun K hK => ?_)
        · go_simp
          (with_reducible refine (KS1.out _).mono ?_)
          rintro e wq1 ⟨rfl, rfl⟩
          refine hK.out _ _ hS ?_
          clear hK K
          try simp only [pts]
          refine wpAnyG_two (i := 6) (j := 12) rfl rfl (by kernel_rfl) (fun K hK => ?_) (fun K hK => ?_)
          · go_simp
            (with_reducible refine (KS2.out _).mono ?_)
            rintro e wq2 ⟨rfl, rfl⟩
            refine hK.out _ _ hS ?_
            clear hK K
            try simp only [pts]
            refine wpG 7 ?_ rfl (by kernel_rfl) (fun _ _ _ h => h) (by rfl) (fun wx => ?_) hS ?_
            rotate_left
            · have hq := hw1; go_simp; (try with_reducible rfl)
            try simp only [pts]
            refine wpAnyG_two (i := 8) (j := 12) rfl rfl (by kernel_rfl) (fun K hK => ?_) (fun K hK => ?_)
            · go_simp
              (with_reducible refine (KT.out _ hS).mono ?_)
              rintro e wt3 ⟨At, ct, Lt, rfl, hqt, hkt, hbt⟩
              obtain ⟨pt, rfl⟩ := List.length_eq_one_iff.1 (show Lt.length = 1 by have := congrArg List.length hkt; simpa using this)
              have hkt : pt.key = _ := (List.cons.inj hkt).1
              have hSn := hS.trans (hbt.mono hS.size)
              clear hS hbt
              have hS := hSn
              clear hSn
              refine hK.out _ _ hS ?_
              clear hK K
              try simp only [pts]
              refine wpG 9 ?_ rfl (by kernel_rfl) (fun _ _ _ h => h) (by rfl) (fun wx => ?_) hS ?_
              rotate_left
              · go_simp; (try with_reducible rfl)
              try simp only [pts]
              refine wpG 10 ?_ rfl (by kernel_rfl) (fun _ _ _ h => h) (by rfl) (fun wx => ?_) hS ?_
              rotate_left
              · go_simp; (try with_reducible rfl)
              try simp only [pts]
              refine wpG 11 ?_ rfl (by kernel_rfl) (fun _ _ _ h => h) (by rfl) (fun wx => ?_) hS ?_
              rotate_left
              · go_simp; (try with_reducible rfl)
              try simp only [pts]
              refine wpAnyG_one (i := 12) rfl (by kernel_rfl) (fun K hK => ?_)
              go_simp
              have hX_ : Below wr.heap.size wr (wt3.alloc (.cells #[.int .i64 0, .int .i64 0, .slice none 0 0] 33)) := hS.alloc hS.size _
              have hqs : wr.heap.size ≤ wt3.heap.size := hS.size
              clear hS
              have hS : Below wr.heap.size wr (wt3.alloc (.cells #[.int .i64 0, .int .i64 0, .slice none 0 0] 33)) := hX_
              have hz : Blk (wt3.alloc (.cells #[.int .i64 0, .int .i64 0, .slice none 0 0] 33)) wt3.heap.size 33 #[.int .i64 0, .int .i64 0, .slice none 0 0] := Blk.new _ _ _
              have hqn := hqt.alloc (.cells #[.int .i64 0, .int .i64 0, .slice none 0 0] 33)
              clear hqt
              have hqt := hqn
              clear hqn
              refine hK.out _ _ hS ?_
              clear hK K
              try simp only [pts]
              refine wpAnyG_one (i := 13) rfl (by kernel_rfl) (fun K hK => ?_)
              rw [if_pos (by rfl)]
              refine Nk.wp_store_row 33 (.tmp 24) (.tmp 163) rfl (wt3.heap.size) _ _ #[.int .i64 0, .int .i64 1, .slice At 1 ct] rfl rfl hz rfl infoBusC (by simp [Value.oneCell']) (fun w8_ hN8 hg8 => ?_)
              have hS8 := hS.grown hg8 hS.size (fun j hj => by cases hj; exact hqs)
              refine hK.out _ _ hS8 ?_
              clear hK K
              try simp only [pts]
              refine wpAnyG_last rfl (by kernel_rfl) (by kernel_rfl) (by kernel_rfl) (fun K hK => ?_)
              go_simp
              refine hK.out _ _ ?_
              clear hK K
              try simp only [pts]
              go_wp2_with fail
              go_meet
              exact ⟨_, At, ct, pt, rfl, rfl, hN8, rd1 rfl (hqt.grown hg8 hz (by decide) (by decide)), hkt, hS8⟩
            · go_simp
              have hX_ : Below wr.heap.size wr (wr.alloc (.cells #[.int .i64 0, .int .i64 0, .slice none 0 0] 33)) := (Below.refl _ _).alloc (Nat.le_refl _) _
              have hqs : wr.heap.size ≤ wr.heap.size := Nat.le_refl _
              clear hS
              have hS : Below wr.heap.size wr (wr.alloc (.cells #[.int .i64 0, .int .i64 0, .slice none 0 0] 33)).drew := hX_.drew
              have hz : Blk (wr.alloc (.cells #[.int .i64 0, .int .i64 0, .slice none 0 0] 33)).drew wr.heap.size 33 #[.int .i64 0, .int .i64 0, .slice none 0 0] := Blk.new _ _ _
              refine hK.out _ _ hS ?_
              clear hK K
              try simp only [pts]
              refine wpAnyG_one (i := 8) rfl (by kernel_rfl) (fun K hK => ?_)
              go_simp
              (with_reducible refine (KT.out _ hS).mono ?_)
              rintro e wt4 ⟨At, ct, Lt, rfl, hqt, hkt, hbt⟩
              obtain ⟨pt, rfl⟩ := List.length_eq_one_iff.1 (show Lt.length = 1 by have := congrArg List.length hkt; simpa using this)
              have hkt : pt.key = _ := (List.cons.inj hkt).1
              have hSn := hS.trans (hbt.mono hS.size)
              have hzn := hz.next hbt
              clear hz
              have hz := hzn
              clear hzn
              clear hS hbt
              have hS := hSn
              clear hSn
              refine hK.out _ _ hS ?_
              clear hK K
              try simp only [pts]
              refine wpG 9 ?_ rfl (by kernel_rfl) (fun _ _ _ h => h) (by rfl) (fun wx => ?_) hS ?_
              rotate_left
              · go_simp; (try with_reducible rfl)
              try simp only [pts]
              refine wpG 10 ?_ rfl (by kernel_rfl) (fun _ _ _ h => h) (by rfl) (fun wx => ?_) hS ?_
              rotate_left
              · go_simp; (try with_reducible rfl)
              try simp only [pts]
              refine wpG 11 ?_ rfl (by kernel_rfl) (fun _ _ _ h => h) (by rfl) (fun wx => ?_) hS ?_
              rotate_left
              · go_simp; (try with_reducible rfl)
              try simp only [pts]
              refine wpAnyG_one (i := 13) rfl (by kernel_rfl) (fun K hK => ?_)
              rw [if_pos (by rfl)]
              refine Nk.wp_store_row 33 (.tmp 24) (.tmp 163) rfl (wr.heap.size) _ _ #[.int .i64 0, .int .i64 1, .slice At 1 ct] rfl rfl hz rfl infoBusC (by simp [Value.oneCell']) (fun w8_ hN8 hg8 => ?_)
              have hS8 := hS.grown hg8 hS.size (fun j hj => by cases hj; exact hqs)
              refine hK.out _ _ hS8 ?_
              clear hK K
              try simp only [pts]
              refine wpAnyG_last rfl (by kernel_rfl) (by kernel_rfl) (by kernel_rfl) (fun K hK => ?_)
              go_simp
              refine hK.out _ _ ?_
              clear hK K
              try simp only [pts]
              go_wp2_with fail
              go_meet
              exact ⟨_, At, ct, pt, rfl, rfl, hN8, rd1 rfl (hqt.grown hg8 hz (by decide) (by decide)), hkt, hS8⟩
          · go_simp
            have hX_ : Below wr.heap.size wr (wr.alloc (.cells #[.int .i64 0, .int .i64 0, .slice none 0 0] 33)) := (Below.refl _ _).alloc (Nat.le_refl _) _
            have hqs : wr.heap.size ≤ wr.heap.size := Nat.le_refl _
            clear hS
            have hS : Below wr.heap.size wr (wr.alloc (.cells #[.int .i64 0, .int .i64 0, .slice none 0 0] 33)).drew := hX_.drew
            have hz : Blk (wr.alloc (.cells #[.int .i64 0, .int .i64 0, .slice none 0 0] 33)).drew wr.heap.size 33 #[.int .i64 0, .int .i64 0, .slice none 0 0] := Blk.new _ _ _
            refine hK.out _ _ hS ?_
            clear hK K
            try simp only [pts]
            refine wpAnyG_one (i := 6) rfl (by kernel_rfl) (fun K hK => ?_)
            go_simp
            (with_reducible refine (KS2.out _).mono ?_)
            rintro e wq3 ⟨rfl, rfl⟩
            refine hK.out _ _ hS ?_
            clear hK K
            try simp only [pts]
            refine wpG 7 ?_ rfl (by kernel_rfl) (fun _ _ _ h => h) (by rfl) (fun wx => ?_) hS ?_
            rotate_left
            · have hq := hw1; go_simp; (try with_reducible rfl)
            try simp only [pts]
            refine wpAnyG_one (i := 8) rfl (by kernel_rfl) (fun K hK => ?_)
            go_simp
            (with_reducible refine (KT.out _ hS).mono ?_)
            rintro e wt4 ⟨At, ct, Lt, rfl, hqt, hkt, hbt⟩
            obtain ⟨pt, rfl⟩ := List.length_eq_one_iff.1 (show Lt.length = 1 by have := congrArg List.length hkt; simpa using this)
            have hkt : pt.key = _ := (List.cons.inj hkt).1
            have hSn := hS.trans (hbt.mono hS.size)
            have hzn := hz.next hbt
            clear hz
            have hz := hzn
            clear hzn
            clear hS hbt
            have hS := hSn
            clear hSn
            refine hK.out _ _ hS ?_
            clear hK K
            try simp only [pts]
            refine wpG 9 ?_ rfl (by kernel_rfl) (fun _ _ _ h => h) (by rfl) (fun wx => ?_) hS ?_
            rotate_left
            · go_simp; (try with_reducible rfl)
            try simp only [pts]
            refine wpG 10 ?_ rfl (by kernel_rfl) (fun _ _ _ h => h) (by rfl) (fun wx => ?_) hS ?_
            rotate_left
            · go_simp; (try with_reducible rfl)
            try simp only [pts]
            refine wpG 11 ?_ rfl (by kernel_rfl) (fun _ _ _ h => h) (by rfl) (fun wx => ?_) hS ?_
            rotate_left
            · go_simp; (try with_reducible rfl)
            try simp only [pts]
            refine wpAnyG_one (i := 13) rfl (by kernel_rfl) (fun K hK => ?_)
            rw [if_pos (by rfl)]
            refine Nk.wp_store_row 33 (.tmp 24) (.tmp 163) rfl (wr.heap.size) _ _ #[.int .i64 0, .int .i64 1, .slice At 1 ct] rfl rfl hz rfl infoBusC (by simp [Value.oneCell']) (fun w8_ hN8 hg8 => ?_)
            have hS8 := hS.grown hg8 hS.size (fun j hj => by cases hj; exact hqs)
            refine hK.out _ _ hS8 ?_
            clear hK K
            try simp only [pts]
            refine wpAnyG_last rfl (by kernel_rfl) (by kernel_rfl) (by kernel_rfl) (fun K hK => ?_)
            go_simp
            refine hK.out _ _ ?_
            clear hK K
            try simp only [pts]
            go_wp2_with fail
            go_meet
            exact ⟨_, At, ct, pt, rfl, rfl, hN8, rd1 rfl (hqt.grown hg8 hz (by decide) (by decide)), hkt, hS8⟩
        · go_simp
          have hX_ : Below wr.heap.size wr (wr.alloc (.cells #[.int .i64 0, .int .i64 0, .slice none 0 0] 33)) := (Below.refl _ _).alloc (Nat.le_refl _) _
          have hqs : wr.heap.size ≤ wr.heap.size := Nat.le_refl _
          clear hS
          have hS : Below wr.heap.size wr (wr.alloc (.cells #[.int .i64 0, .int .i64 0, .slice none 0 0] 33)).drew := hX_.drew
          have hz : Blk (wr.alloc (.cells #[.int .i64 0, .int .i64 0, .slice none 0 0] 33)).drew wr.heap.size 33 #[.int .i64 0, .int .i64 0, .slice none 0 0] := Blk.new _ _ _
          refine hK.out _ _ hS ?_
          clear hK K
          try simp only [pts]
          refine wpAnyG_one (i := 4) rfl (by kernel_rfl) (fun K hK => ?_)
          go_simp
          (with_reducible refine (KS1.out _).mono ?_)
          rintro e wq2 ⟨rfl, rfl⟩
          refine hK.out _ _ hS ?_
          clear hK K
          try simp only [pts]
          refine wpAnyG_one (i := 6) rfl (by kernel_rfl) (fun K hK => ?_)
          go_simp
          (with_reducible refine (KS2.out _).mono ?_)
          rintro e wq3 ⟨rfl, rfl⟩
          refine hK.out _ _ hS ?_
          clear hK K
          try simp only [pts]
          refine wpG 7 ?_ rfl (by kernel_rfl) (fun _ _ _ h => h) (by rfl) (fun wx => ?_) hS ?_
          rotate_left
          · have hq := hw1; go_simp; (try with_reducible rfl)
          try simp only [pts]
          refine wpAnyG_one (i := 8) rfl (by kernel_rfl) (fun K hK => ?_)
          go_simp
          (with_reducible refine (KT.out _ hS).mono ?_)
          rintro e wt4 ⟨At, ct, Lt, rfl, hqt, hkt, hbt⟩
          obtain ⟨pt, rfl⟩ := List.length_eq_one_iff.1 (show Lt.length = 1 by have := congrArg List.length hkt; simpa using this)
          have hkt : pt.key = _ := (List.cons.inj hkt).1
          have hSn := hS.trans (hbt.mono hS.size)
          have hzn := hz.next hbt
          clear hz
          have hz := hzn
          clear hzn
          clear hS hbt
          have hS := hSn
          clear hSn
          refine hK.out _ _ hS ?_
          clear hK K
          try simp only [pts]
          refine wpG 9 ?_ rfl (by kernel_rfl) (fun _ _ _ h => h) (by rfl) (fun wx => ?_) hS ?_
          rotate_left
          · go_simp; (try with_reducible rfl)
          try simp only [pts]
          refine wpG 10 ?_ rfl (by kernel_rfl) (fun _ _ _ h => h) (by rfl) (fun wx => ?_) hS ?_
          rotate_left
          · go_simp; (try with_reducible rfl)
          try simp only [pts]
          refine wpG 11 ?_ rfl (by kernel_rfl) (fun _ _ _ h => h) (by rfl) (fun wx => ?_) hS ?_
          rotate_left
          · go_simp; (try with_reducible rfl)
          try simp only [pts]
          refine wpAnyG_one (i := 13) rfl (by kernel_rfl) (fun K hK => ?_)
          rw [if_pos (by rfl)]
          refine Nk.wp_store_row 33 (.tmp 24) (.tmp 163) rfl (wr.heap.size) _ _ #[.int .i64 0, .int .i64 1, .slice At 1 ct] rfl rfl hz rfl infoBusC (by simp [Value.oneCell']) (fun w8_ hN8 hg8 => ?_)
          have hS8 := hS.grown hg8 hS.size (fun j hj => by cases hj; exact hqs)
          refine hK.out _ _ hS8 ?_
          clear hK K
          try simp only [pts]
          refine wpAnyG_last rfl (by kernel_rfl) (by kernel_rfl) (by kernel_rfl) (fun K hK => ?_)
          go_simp
          refine hK.out _ _ ?_
          clear hK K
          try simp only [pts]
          go_wp2_with fail
          go_meet
          exact ⟨_, At, ct, pt, rfl, rfl, hN8, rd1 rfl (hqt.grown hg8 hz (by decide) (by decide)), hkt, hS8⟩
      case rest =>
        clear hw1
        obtain ⟨q24, At, ct, pt, rfl, rfl, hY, hqt, hkt, hbc⟩ := hcut
        have y0 := Blk.cell hY 0
        have y1 := Blk.cell hY 1
        have y2 := Blk.cell hY 2
        (simp only [List.getElem?_toArray, List.getElem?_cons_zero, List.getElem?_cons_succ] at y0 y1 y2)
        have hpd : pt.du = dd := (congrArg (fun k => k.2.2.1) hkt).trans HPD.out
        have hpz : pt.zs = p.zs.set an (bits .xor .u8 (p.zs.getD an 0) (1 + bm)) := congrArg (fun k => k.2.2.2.2) hkt
        have hno := turned_no (k := K) (f := F) (r := R) (vs := zs) (by rw [HZL.out]; exact HR.out) (a := an) (by rw [HZL.out]; omega) (m := 1 + bm) (by omega)
        rw [HBT.out, ← HPZ.out, ← hpz] at hno
        have HNO := Lib.hid hno
        have HPT := Lib.hid hpd
        have HBC := Lib.hid (HCj.out.trans (hbc.mono HCj.out.size))
        have HT2 := Lib.hid (step_one 0 1 dd At ct [pt] wc hqt (by omega) (by omega) pt rfl (by rw [hpd]; omega))
        clear hY hqt hkt hbc hpd hpz hno
        go_upto_region 23 with (first
          | (go_at_call 8; (with_reducible refine HT2.out.mono ?_); rintro e w18 ⟨A17, c17, A18, c18, t, rfl, htk, hq18, hq17, hB18⟩; have HTK := Lib.hid htk; have HQ18 := Lib.hid hq18; have HB18 := Lib.hid hB18; clear htk hq18 hq17 hB18))
        clear y0 y1 y2 HT2
        obtain ⟨b18, o18, rfl, hl18, hc18⟩ := (VR.own HQ18.out.1).2.2 (by decide)
        have c184 := hc18 4 (.slice t.A t.n t.c) rfl
        have hto := HQ18.out.2.1 t (List.mem_singleton.2 rfl)
        have htz : t.zs = pt.zs := congrArg (fun k => k.2.2.2.2) HTK.out
        have ht220 := hto.2.1
        have HD2 := Lib.hid (Decode_any t.A t.n t.c t.zs w18 (ints_own hto.1).1 (own_none hto.1).2.2 (by omega) hto.2.2)
        have HNO2 := Lib.hid (show ∀ k f r vs, ¬ IsMsg t.zs k f r vs from by rw [htz]; exact HNO.out.2)
        clear hc18 hto htz
        go_upto_region 26 with (first
          | (go_at_call 9; (with_reducible refine HD2.out.mono ?_); rintro e w19 hp19; obtain ⟨er, her, rfl, hB19⟩ := hp19.bad HNO2.out; have HB19 := Lib.hid hB19; clear hp19 hB19)
          | go_big_skip)
        have hb : (er != 0) = true := by rw [bne_iff_ne]; exact her
        clear her
        unfold zMsg
        go_wp2_with fail
        go_ret
        have hf := HBC.out.trans ((HB18.out.trans (HB19.out.mono HB18.out.size)).mono HBC.out.size)
        have hg := HBw7.out.trans (hf.mono HBw7.out.size)
        exact ⟨rfl, HB0.out.trans (hg.mono HB0.out.size)⟩
set_option maxRecDepth 100000 in
set_option maxHeartbeats 8000000 in
theorem topcar_now (K F R : Int) (A : Option Addr) (n c : Nat) (zs : List Int) (dl mk at_ : Int) (w : World) (hI : Ints w .i64 A n zs) (hz : ∀ z ∈ zs, In64 z) (hA : A = none → n = 0 ∧ c = 0) (hn : n * 8 ≤ 140737488355328) (hr : rightE K F R n = 0) (hdl : dl % 1001 ≤ 0) :
    Calls Tryz.prog 3 #[.agg #[.int .i64 K, .int .i64 F, .int .i64 R, .slice A n c], .int .i64 dl, .int .i64 mk, .int .i64 at_] w fun e w' => e = .returned (.bool true) ∧ Below w.heap.size w w' := by
  obtain ⟨i0, hi0, hz0, hz1, hz2⟩ := info_parts infoIntC
  have hM0 : Blk (w.alloc (.cells #[.int .i64 K, .int .i64 F, .int .i64 R, .slice A n c] 24)) w.heap.size 24 #[.int .i64 K, .int .i64 F, .int .i64 R, .slice A n c] := Blk.new _ _ _
  have hB0 : Below w.heap.size w (w.alloc (.cells #[.int .i64 K, .int .i64 F, .int .i64 R, .slice A n c] 24)) := (Below.refl _ _).alloc (Nat.le_refl _) _
  have HM := Lib.hid hM0
  have HB0 := Lib.hid hB0
  have HI := Lib.hid (hI.next hB0)
  have HA := Lib.hid hA
  have HZ := Lib.hid hz
  have hzl := hI.1
  have HZL := Lib.hid hzl
  have ka := fun W => Nk.alive_any W
  have KA := Lib.hid ka
  have hs0 : w.heap.size < (w.alloc (.cells #[.int .i64 K, .int .i64 F, .int .i64 R, .slice A n c] 24)).heap.size := by simp
  clear hM0 hB0 hI hz hzl hA ka
  go_enter Tryz.func3, Tryz.ntmps3
  go_upto_region 1 with fail
  generalize w.alloc (.cells #[.int .i64 K, .int .i64 F, .int .i64 R, .slice A n c] 24) = w0 at *
  have m0 := Blk.cell HM.out 0
  have m1 := Blk.cell HM.out 1
  have m2 := Blk.cell HM.out 2
  have m3 := Blk.cell HM.out 3
  (simp only [List.getElem?_toArray, List.getElem?_cons_zero, List.getElem?_cons_succ] at m0 m1 m2 m3)
  go_upto_region 2 with fail
  clear m0 m1 m2 m3
  have hN : Blk (w0.alloc (.cells #[.int .i64 K, .int .i64 F, .int .i64 R, .slice A n c] 24)) w0.heap.size 24 #[.int .i64 K, .int .i64 F, .int .i64 R, .slice A n c] := Blk.new _ _ _
  have hNb : Below w0.heap.size w0 (w0.alloc (.cells #[.int .i64 K, .int .i64 F, .int .i64 R, .slice A n c] 24)) := (Below.refl _ _).alloc (Nat.le_refl _) _
  have m3 := Blk.cell (HM.out.next hNb) 3
  (simp only [List.getElem?_toArray, List.getElem?_cons_zero, List.getElem?_cons_succ] at m3)
  have HN := Lib.hid hN
  have HNB := Lib.hid hNb
  clear hN hNb
  go_upto_region 3 with (first
    | (at_builtin; go_loud (refine wpList_append_ints rfl _ _ 22 rfl (w0.heap.size + 1) 3 i0 (.int .i64 0) .i64 8 Tryz.underlying22 hi0 hz0 hz1 hz2 rfl (.slice none 0 0) 0 [] rfl (World.ownsRow_nil _ _ _ _) A n c zs rfl HA.out (HI.out.next HNB.out) (by unfold maxLen; omega) (by omega) (by simp) ?_); intro v2 w2 hown2 hg2; (simp only [Nat.zero_add, List.nil_append] at hown2); obtain ⟨A2, c2, rfl⟩ := own_shape hown2; have hN1 := Blk.grown HN.out hg2 (fun e => by cases e); have n0 := Blk.cell hN1 0; have n1 := Blk.cell hN1 1; have n2 := Blk.cell hN1 2; have n3 := Blk.cell hN1 3; have f3 := Blk.frozen hN1 3; (simp only [List.getElem?_toArray, List.getElem?_cons_zero, List.getElem?_cons_succ] at n0 n1 n2 n3); have HO2 := Lib.hid hown2; have HG2 := Lib.hid hg2; have HN1 := Lib.hid hN1; clear hown2 hg2 hN1))
  clear m3 n0 n1 n2 n3 f3
  have hN3 : Blk (w2.setCell ⟨w0.heap.size, 3, none⟩ (.slice A2 n c2)) w0.heap.size 24 #[.int .i64 K, .int .i64 F, .int .i64 R, .slice A2 n c2] := HN1.out.set_ 3 (.slice A2 n c2)
  have hB3 : Below w0.heap.size w0 (w2.setCell ⟨w0.heap.size, 3, none⟩ (.slice A2 n c2)) := ((HNB.out.grown HG2.out HNB.out.size (fun j hj => by cases hj))).setCell (p := ⟨w0.heap.size, 3, none⟩) (Nat.le_refl _) _
  have hO3 := own_kept_t HO2.out (grown_set w2 w0.heap.size 3 (.slice A2 n c2)) HN1.out (by decide)
  generalize w2.setCell ⟨w0.heap.size, 3, none⟩ (.slice A2 n c2) = w3 at *
  have HN3 := Lib.hid hN3
  have HB3 := Lib.hid hB3
  have HI3 := Lib.hid (Ints.own hO3)
  have n0 := Blk.cell hN3 0
  have n1 := Blk.cell hN3 1
  have n2 := Blk.cell hN3 2
  have n3 := Blk.cell hN3 3
  (simp only [List.getElem?_toArray, List.getElem?_cons_zero, List.getElem?_cons_succ] at n0 n1 n2 n3)
  clear hN3 hB3 hO3 HO2 HG2 HN1 HN HNB
  have h24 := right0.1 hr
  obtain ⟨_, _, hF0, hF3, _, _, hn24⟩ := h24
  have HE := Lib.hid (enc_ok K F R A2 n c2 zs w3 HI3.out HZ.out hr)
  have ks := fun v n W h1 h2 => cspot_any v n W h1 h2
  have KS := Lib.hid ks
  clear ks
  have HR := Lib.hid hr
  clear hr
  have hd0 := Int.emod_nonneg dl (b := 1001) (by decide)
  have hd1 := Int.emod_lt_of_pos dl (b := 1001) (by decide)
  go_upto_region 7 with (first
    | (go_at_call 4; (with_reducible refine HE.out.mono ?_); rintro e w4 ⟨A4, c4, rfl, hO4, hB4⟩; have HO4 := Lib.hid hO4; have HB4 := Lib.hid hB4; clear hO4 hB4)
    | (go_at_call 5; (with_reducible refine (KA.out w4).mono ?_); rintro e w5 ⟨rfl, hB5⟩; have HB5 := Lib.hid hB5; clear hB5)
    | (go_at_call 6; (with_reducible refine (KS.out _ _ _ (by decide) (by decide)).mono ?_); rintro e w9 ⟨rfl, rfl⟩)
    | go_big_skip)
  obtain ⟨dd, hdd⟩ : ∃ dd, dl % 1001 = dd := ⟨_, rfl⟩
  rw [hdd] at hd0 hd1 hdl ⊢
  clear hdd n0 n1 n2 n3 HE
  have hB5 : Below w0.heap.size w0 w5 := (HB3.out.trans (HB4.out.mono HB3.out.size)).trans (HB5.out.mono (by have := HB3.out.size; have := HB4.out.size; omega))
  have HB05 := Lib.hid hB5
  have hO5 := own_below HO4.out HB5.out (fun x hx => (HO4.out.lt x hx).2)
  obtain ⟨bts, hbt⟩ : ∃ b, sealed (encB K F R zs) = b := ⟨_, rfl⟩
  rw [hbt] at hO5 HO4
  have hbz : Byts8 bts := by rw [← hbt]; exact sealed_in _ (encB_in K F R zs (by rw [HZL.out]; exact HR.out))
  have HBT := Lib.hid hbt
  have HBZ := Lib.hid hbz
  have HI5 := Lib.hid (Ints.own hO5)
  have HA5 := Lib.hid (own_none hO5).1
  clear hB5 hO5 hbt hbz HO4 HB4 HB5 HB3 HI3 HN3
  have q5 := Blk.cell (HM.out.next HB05.out) 1
  (simp only [List.getElem?_toArray, List.getElem?_cons_zero, List.getElem?_cons_succ] at q5)
  have HS := Lib.hid (Send_any 0 0 F ((F + 1) % 4) dd none 0 0 [] A4 (8 + 8 * n + 4) c4 bts w5 (QR.nil _) HI5.out HA5.out HBZ.out (by omega) (by decide) ⟨hF0, by omega⟩ ⟨by omega, by omega⟩ (by omega) ⟨hd0, by omega⟩ (by decide) (by decide))
  go_upto_region 8 with (first
    | (go_at_call 7; (with_reducible refine HS.out.mono ?_); rintro e w6 ⟨A6, c6, L6, rfl, hq6, hk6, hB6⟩; have HQ6 := Lib.hid hq6; have HK6 := Lib.hid hk6; have HB6 := Lib.hid hB6; clear hq6 hk6 hB6))
  clear q5 HS
  have hl6 : L6.length = 1 := by have := congrArg List.length HK6.out; simpa using this
  obtain ⟨p, hp⟩ := List.length_eq_one_iff.1 hl6
  subst hp
  have hpk : p.key = (F, (F + 1) % 4, 0 + dd, 0, bts) := by have := HK6.out; simpa using this
  have hpd : p.du = dd := by have := congrArg (fun k => k.2.2.1) hpk; simp [Pc.key] at this; exact this
  have hpz : p.zs = bts := congrArg (fun k => k.2.2.2.2) hpk
  have hps : p.se = 0 := congrArg (fun k => k.2.2.2.1) hpk
  have HPK := Lib.hid hpk
  have HPD := Lib.hid hpd
  have HPZ := Lib.hid hpz
  have HPS := Lib.hid hps
  have hX : Blk (w6.alloc (.cells #[.int .i64 0, .int .i64 1, .slice A6 1 c6] 33)) w6.heap.size 33 #[.int .i64 0, .int .i64 1, .slice A6 1 c6] := Blk.new _ _ _
  have hq7 := rd1 hl6 (HQ6.out.alloc (.cells #[.int .i64 0, .int .i64 1, .slice A6 1 c6] 33))
  have hB7 : Below w0.heap.size w0 (w6.alloc (.cells #[.int .i64 0, .int .i64 1, .slice A6 1 c6] 33)) := (HB05.out.trans (HB6.out.mono HB05.out.size)).alloc (by have := HB05.out.size; have := HB6.out.size; omega) _
  clear hpk hpd hpz hps hl6 HQ6 HK6
  generalize w6.alloc (.cells #[.int .i64 0, .int .i64 1, .slice A6 1 c6] 33) = w7 at *
  have HX := Lib.hid hX
  have HQ7 := Lib.hid hq7
  have HB7 := Lib.hid hB7
  have x0 := Blk.cell hX 0
  have x1 := Blk.cell hX 1
  have x2 := Blk.cell hX 2
  (simp only [List.getElem?_toArray, List.getElem?_cons_zero, List.getElem?_cons_succ] at x0 x1 x2)
  clear hX hq7 hB7
  have HBw7 := HB7
  have HCw7 := Lib.hid (Below.refl w7.heap.size w7)
  have HSZ : Hid (w7.heap.size ≤ w7.heap.size) := Lib.hid (Nat.le_refl _)
  clear HSZ
  have qm : max (dd - 1) 0 = 0 := by omega
  have qm2 : decide (dd - 1 < 0) = true := by rw [decide_eq_true_iff]; omega
  have HT := Lib.hid (step_one 0 1 0 A6 c6 [p] w7 HQ7.out (by decide) (by decide) p rfl (by rw [HPD.out]; omega))
  go_upto_region 9 with (first
    | (go_at_call 8; (with_reducible refine HT.out.mono ?_); rintro e w8 ⟨A8, c8, A9, c9, r, rfl, hrk, hq9, hq8, hB8⟩; have HRK := Lib.hid hrk; have HQ8 := Lib.hid hq8; have HQ9 := Lib.hid hq9; have HB8 := Lib.hid hB8; clear hrk hq8 hq9 hB8))
  clear HT x0 x1 x2 qm qm2
  have hXw9 : Blk (w8.alloc (.cells #[.int .i64 0, .int .i64 1, .slice A8 0 c8] 33)) w8.heap.size 33 #[.int .i64 0, .int .i64 1, .slice A8 0 c8] := Blk.new _ _ _
  have hBw9 : Below w0.heap.size w0 (w8.alloc (.cells #[.int .i64 0, .int .i64 1, .slice A8 0 c8] 33)) := (HBw7.out.trans (HB8.out.mono HBw7.out.size)).alloc (by have := HBw7.out.size; have := HB8.out.size; omega) _
  have hCw9 : Below w7.heap.size w7 (w8.alloc (.cells #[.int .i64 0, .int .i64 1, .slice A8 0 c8] 33)) := (HCw7.out.trans (HB8.out.mono HCw7.out.size)).alloc (by have := HCw7.out.size; have := HB8.out.size; omega) _
  have hr8 := rd1 rfl (HQ8.out.alloc (.cells #[.int .i64 0, .int .i64 1, .slice A8 0 c8] 33))
  have hn9 := HQ9.out.alloc (.cells #[.int .i64 0, .int .i64 1, .slice A8 0 c8] 33)
  have hszw9 : (w8.alloc (.cells #[.int .i64 0, .int .i64 1, .slice A8 0 c8] 33)).heap.size = w8.heap.size + 1 := by simp
  generalize (w8.alloc (.cells #[.int .i64 0, .int .i64 1, .slice A8 0 c8] 33)) = w9 at *
  have HXw9 := Lib.hid hXw9
  have HBw9 := Lib.hid hBw9
  have HCw9 := Lib.hid hCw9
  have HR8 := Lib.hid hr8
  have HN9 := Lib.hid hn9
  have x0 := Blk.cell hXw9 0
  have x1 := Blk.cell hXw9 1
  have x2 := Blk.cell hXw9 2
  (simp only [List.getElem?_toArray, List.getElem?_cons_zero, List.getElem?_cons_succ] at x0 x1 x2)
  clear hXw9 hBw9 hCw9 hr8 hn9
  have HT := Lib.hid (step_nil 0 1 dd A8 c8 w9 HR8.out (by omega) (by omega))
  go_upto_region 10 with (first
    | (go_at_call 8; (with_reducible refine HT.out.mono ?_); rintro e w10 ⟨A11, c11, A12, c12, rfl, hq12, hB10⟩; have HQ12 := Lib.hid hq12; have HB10 := Lib.hid hB10; clear hq12 hB10))
  clear HT x0 x1 x2 HR8 HQ8
  have hXw11 : Blk (w10.alloc (.cells #[.int .i64 dd, .int .i64 1, .slice A11 0 c11] 33)) w10.heap.size 33 #[.int .i64 dd, .int .i64 1, .slice A11 0 c11] := Blk.new _ _ _
  have hBw11 : Below w0.heap.size w0 (w10.alloc (.cells #[.int .i64 dd, .int .i64 1, .slice A11 0 c11] 33)) := (HBw9.out.trans (HB10.out.mono HBw9.out.size)).alloc (by have := HBw9.out.size; have := HB10.out.size; omega) _
  have hCw11 : Below w7.heap.size w7 (w10.alloc (.cells #[.int .i64 dd, .int .i64 1, .slice A11 0 c11] 33)) := (HCw9.out.trans (HB10.out.mono HCw9.out.size)).alloc (by have := HCw9.out.size; have := HB10.out.size; omega) _
  have hc12 := HQ12.out.alloc (.cells #[.int .i64 dd, .int .i64 1, .slice A11 0 c11] 33)
  have hn11 := (HN9.out.next HB10.out).alloc (.cells #[.int .i64 dd, .int .i64 1, .slice A11 0 c11] 33)
  have hszw11 : (w10.alloc (.cells #[.int .i64 dd, .int .i64 1, .slice A11 0 c11] 33)).heap.size = w10.heap.size + 1 := by simp
  generalize (w10.alloc (.cells #[.int .i64 dd, .int .i64 1, .slice A11 0 c11] 33)) = w11 at *
  have HXw11 := Lib.hid hXw11
  have HBw11 := Lib.hid hBw11
  have HCw11 := Lib.hid hCw11
  have HC12 := Lib.hid hc12
  have HN11 := Lib.hid hn11
  have x0 := Blk.cell hXw11 0
  have x1 := Blk.cell hXw11 1
  have x2 := Blk.cell hXw11 2
  (simp only [List.getElem?_toArray, List.getElem?_cons_zero, List.getElem?_cons_succ] at x0 x1 x2)
  clear hXw11 hBw11 hCw11 hc12 hn11
  clear x0 x1 x2
  have HSZ := Lib.hid (show w7.heap.size ≤ w11.heap.size by have h1 := HB8.out.size; have h2 := HB10.out.size; omega)
  clear hszw9 hszw11
  have hrz : r.zs = bts := (congrArg (fun k => k.2.2.2.2) (HRK.out)).trans HPZ.out
  have HRZ := Lib.hid hrz
  clear hrz
  obtain ⟨p0, hp0, pz0, pz1, pz2⟩ := info_parts infoParcelC
  have hrow := HN11.out.2.1 r (List.mem_singleton.2 rfl)
  have HROW := Lib.hid hrow
  clear hrow
  have hs8 := HB8.out.size
  have hs10 := HB10.out.size
  go_upto_region 13 with (first
    | (at_builtin; go_loud (refine wpList_append_vr _ _ 31 rfl rfl w7.heap.size 41 p0 _ 5 56 Tryz.underlying31 hp0 pz0 pz1 pz2 rfl (by decide) (.slice A9 1 c9) 1 (flat [r]) rfl HN11.out.1 A12 0 c12 [] rfl (VR.own HC12.out.1) (by intro u hu; simp [flat, Pc.cells] at hu; (try (rcases hu with rfl | rfl | rfl | rfl | rfl <;> rfl))) (by unfold maxLen; omega) (by omega) HSZ.out ?_); intro v12 w12 hown12 hg12; have HO12 := Lib.hid hown12; have HG12 := Lib.hid hg12; clear hown12 hg12)
    | go_big_skip)
  have hO12 : w12.ownsRow w7.heap.size 41 5 v12 1 (flat [r]) := by simpa using HO12.out
  have hrw := HROW.out.1.kept HG12.out (own_own_ne HROW.out.1 HN11.out.1 (by decide))
  obtain ⟨A13, c13, rfl⟩ := own_shape hO12
  obtain ⟨b13, o13, rfl, hl13, hc13⟩ := (VR.own hO12).2.2 (by decide)
  have c134 := hc13 4 (.slice r.A r.n r.c) rfl
  have hri := (ints_own hrw).1
  have hrn := (own_none hrw).2.2
  have h220 := HROW.out.2.1
  have hb8 := HROW.out.2.2
  have hmsg : IsMsg r.zs K F R zs := ⟨by rw [HZL.out]; exact HR.out, HZ.out, by rw [HRZ.out]; exact HBT.out.symm⟩
  have HMSG := Lib.hid hmsg
  have HD := Lib.hid (Decode_any r.A r.n r.c r.zs w12 hri hrn (by omega) hb8)
  have hc12 : Below w7.heap.size w7 w12 := HCw11.out.grown HG12.out HCw11.out.size (fun j hj => (HN11.out.1.lt j hj).1)
  have HC12b := Lib.hid hc12
  clear hO12 hrw hc13 hri hmsg hc12 HO12
  go_upto_region 14 with (first
    | (go_at_call 9; (with_reducible refine HD.out.mono ?_); rintro e w13 hp13; obtain ⟨A14, c14, he, hO14, hB14⟩ := hp13.ok HMSG.out; rw [HZL.out] at he hO14; subst he; have HO14 := Lib.hid hO14; have HB14 := Lib.hid hB14; clear hp13 hO14 hB14))
  clear c134 HD
  have hE : Blk (w13.alloc (.cells #[.int .i64 K, .int .i64 F, .int .i64 R, .slice A14 n c14] 24)) w13.heap.size 24 #[.int .i64 K, .int .i64 F, .int .i64 R, .slice A14 n c14] := Blk.new _ _ _
  have hI14 := (Ints.own HO14.out).alloc (.cells #[.int .i64 K, .int .i64 F, .int .i64 R, .slice A14 n c14] 24)
  have hC14 : Below w7.heap.size w7 (w13.alloc (.cells #[.int .i64 K, .int .i64 F, .int .i64 R, .slice A14 n c14] 24)) := (HC12b.out.trans (HB14.out.mono HC12b.out.size)).alloc (by have := HC12b.out.size; have := HB14.out.size; omega) _
  generalize w13.alloc (.cells #[.int .i64 K, .int .i64 F, .int .i64 R, .slice A14 n c14] 24) = w14 at *
  have HE := Lib.hid (fun W (h : Below w14.heap.size w14 W) => hE.next h)
  have HI14 := Lib.hid (fun W (h : Below w14.heap.size w14 W) => hI14.next h)
  have HC14 := Lib.hid hC14
  have hB14 := HBw7.out.trans (hC14.mono HBw7.out.size)
  have HMW := Lib.hid (fun W (h : Below w14.heap.size w14 W) => HM.out.next (hB14.trans (h.mono hB14.size)))
  have HIW := Lib.hid (fun W (h : Below w14.heap.size w14 W) => HI.out.next (hB14.trans (h.mono hB14.size)))
  have m0 := Blk.cell (HMW.out _ (Below.refl _ _)) 0
  have m1 := Blk.cell (HMW.out _ (Below.refl _ _)) 1
  have m2 := Blk.cell (HMW.out _ (Below.refl _ _)) 2
  have m3 := Blk.cell (HMW.out _ (Below.refl _ _)) 3
  have e0 := Blk.cell hE 0
  have e1 := Blk.cell hE 1
  have e2 := Blk.cell hE 2
  have e3 := Blk.cell hE 3
  (simp only [List.getElem?_toArray, List.getElem?_cons_zero, List.getElem?_cons_succ] at m0 m1 m2 m3 e0 e1 e2 e3)
  clear hE hI14 hC14 hB14
  go_upto_region 17 with (first | go_big_skip)
  clear m0 m1 m2 m3 e0 e1 e2 e3
  go_loopw [23] (fun sv wr => ∃ j : Nat, sv = .int .i64 j ∧ j ≤ n ∧ Below w14.heap.size w14 wr) (fun sv _ => n - (intOf sv).toNat)
  case atStart => exact ⟨0, rfl, Nat.zero_le _, Below.refl _ _⟩
  case round =>
    obtain ⟨j, rfl, hj, hB⟩ := hrel
    have HBj := Lib.hid hB
    clear hB
    have m3 := Blk.cell (HMW.out _ HBj.out) 3
    have e3 := Blk.cell (HE.out _ HBj.out) 3
    (simp only [List.getElem?_toArray, List.getElem?_cons_zero, List.getElem?_cons_succ] at m3 e3)
    by_cases hjn : j < n
    · have q0 : (j : Int) < (n : Int) := by omega
      have qj : (0 : Int) ≤ (j : Int) := by omega
      obtain ⟨ba, oa, rfl, hal, hac0⟩ := (HIW.out _ HBj.out).2 (by omega)
      obtain ⟨bb, ob, rfl, hbl, hbc0⟩ := (HI14.out _ HBj.out).2 (by omega)
      have hac := hac0 j hjn
      have hbc := hbc0 j hjn
      clear hac0 hbc0
      go_upto_region 19 with fail
      refine wp_region_held (S := fun w' => Below wr.heap.size wr w') (by kernel_rfl) ?_
      have hS := ((Below.refl wr.heap.size wr).drew : Below wr.heap.size wr wr.drew)
      refine wpAnyH_takeL (i := 0) (v := ?_) rfl (by kernel_rfl) (by kernel_rfl) (by kernel_rfl) (fun _ _ _ h => h) (Or.inl ⟨by rfl, fun wx hSw => ?_⟩) hS ?_
      rotate_left
      · go_simp; (try with_reducible rfl)
      try simp only [pts]
      refine wpAnyH_takeL (i := 1) (v := .slice (some ⟨bb, ob, none⟩) n c14) rfl (by kernel_rfl) (by kernel_rfl) (by kernel_rfl) (fun _ _ _ h => h) (Or.inl ⟨by rfl, fun wx hSw => by have hc := Blk.cell ((HE.out _ HBj.out).next hSw) 3; (simp only [List.getElem?_toArray, List.getElem?_cons_zero, List.getElem?_cons_succ] at hc); go_simp⟩) hS ?_
      try simp only [pts]
      refine wpAnyH_takeL (i := 2) (v := ?_) rfl (by kernel_rfl) (by kernel_rfl) (by kernel_rfl) (fun _ _ _ h => h) (Or.inl ⟨by rfl, fun wx hSw => ?_⟩) hS ?_
      rotate_left
      · go_simp; (try with_reducible rfl)
      try simp only [pts]
      refine wpAnyH_takeL (i := 3) (v := ?_) rfl (by kernel_rfl) (by kernel_rfl) (by kernel_rfl) (fun _ _ _ h => h) (Or.inl ⟨by rfl, fun wx hSw => ?_⟩) hS ?_
      rotate_left
      · go_simp; (try with_reducible rfl)
      try simp only [pts]
      refine wpAnyH_takeL (i := 4) (v := .int .i64 (zs.getD j 0)) rfl (by kernel_rfl) (by kernel_rfl) (by kernel_rfl) (fun _ _ _ h => h) (Or.inl ⟨by rfl, fun wx hSw => by have hc := (hSw.cell (p := ⟨bb, ob + j, none⟩) hbl).trans hbc; go_simp⟩) hS ?_
      try simp only [pts]
      refine wpAnyH_takeL (i := 5) (v := ?_) rfl (by kernel_rfl) (by kernel_rfl) (by kernel_rfl) (fun _ _ _ h => h) (Or.inl ⟨by rfl, fun wx hSw => ?_⟩) hS ?_
      rotate_left
      · go_simp; (try with_reducible rfl)
      try simp only [pts]
      refine wpAnyH_takeL (i := 6) (v := .slice (some ⟨ba, oa, none⟩) n c) rfl (by kernel_rfl) (by kernel_rfl) (by kernel_rfl) (fun _ _ _ h => h) (Or.inl ⟨by rfl, fun wx hSw => by have hc := Blk.cell ((HMW.out _ HBj.out).next hSw) 3; (simp only [List.getElem?_toArray, List.getElem?_cons_zero, List.getElem?_cons_succ] at hc); go_simp⟩) hS ?_
      try simp only [pts]
      refine wpAnyH_takeL (i := 7) (v := ?_) rfl (by kernel_rfl) (by kernel_rfl) (by kernel_rfl) (fun _ _ _ h => h) (Or.inl ⟨by rfl, fun wx hSw => ?_⟩) hS ?_
      rotate_left
      · go_simp; (try with_reducible rfl)
      try simp only [pts]
      refine wpAnyH_takeL (i := 8) (v := ?_) rfl (by kernel_rfl) (by kernel_rfl) (by kernel_rfl) (fun _ _ _ h => h) (Or.inl ⟨by rfl, fun wx hSw => ?_⟩) hS ?_
      rotate_left
      · go_simp; (try with_reducible rfl)
      try simp only [pts]
      refine wpAnyH_takeL (i := 9) (v := .int .i64 (zs.getD j 0)) rfl (by kernel_rfl) (by kernel_rfl) (by kernel_rfl) (fun _ _ _ h => h) (Or.inl ⟨by rfl, fun wx hSw => by have hc := (hSw.cell (p := ⟨ba, oa + j, none⟩) hal).trans hac; go_simp⟩) hS ?_
      try simp only [pts]
      refine wpAnyH_takeL (i := 10) (v := ?_) rfl (by kernel_rfl) (by kernel_rfl) (by kernel_rfl) (fun _ _ _ h => h) (Or.inl ⟨by rfl, fun wx hSw => ?_⟩) hS ?_
      rotate_left
      · have hq := (show (zs.getD j 0 != zs.getD j 0) = false by simp); go_simp; (try with_reducible rfl)
      try simp only [pts]
      refine wpAnyH_done (by kernel_rfl) ?_ _
      go_wp2_with fail
      go_roundw
      case rel => exact ⟨j + 1, by go_num, by omega, HBj.out.drew⟩
      case measure => simp [intOf]; omega
    · have q0 : decide ((j : Int) < (n : Int)) = false := by rw [decide_eq_false_iff_not]; omega
      have hCj := HC14.out.trans (HBj.out.mono HC14.out.size)
      have HCj := Lib.hid hCj
      have hXj := fun W (h : Below wr.heap.size wr W) => Blk.next HX.out (hCj.trans (h.mono hCj.size))
      have HXj := Lib.hid hXj
      have hQj := fun W (h : Below wr.heap.size wr W) => HQ7.out.next (hCj.trans (h.mono hCj.size))
      have HQj := Lib.hid hQj
      clear hCj hXj hQj
      have a0 := Int.emod_nonneg at_ (b := (8 + 8 * (n : Int) + 4)) (by omega)
      have a1 := Int.emod_lt_of_pos at_ (b := (8 + 8 * (n : Int) + 4)) (by omega)
      obtain ⟨an, han⟩ : ∃ an : Nat, at_ % (8 + 8 * (n : Int) + 4) = (an : Int) := ⟨(at_ % (8 + 8 * (n : Int) + 4)).toNat, by omega⟩
      have b0 := Int.emod_nonneg mk (b := 255) (by decide)
      have b1 := Int.emod_lt_of_pos mk (b := 255) (by decide)
      obtain ⟨bm, hbm⟩ : ∃ b, mk % 255 = b := ⟨_, rfl⟩
      have KS1 := Lib.hid (fun W => (KS.out at_ (8 + 8 * (n : Int) + 4) W (by omega) (by omega)).mono (fun e w' h => (⟨by rw [h.1, han], h.2⟩ : e = .returned (.int .i64 (an : Int)) ∧ W = w')))
      have KS2 := Lib.hid (fun W => (KS.out mk 255 W (by decide) (by decide)).mono (fun e w' h => (⟨by rw [h.1, hbm], h.2⟩ : e = .returned (.int .i64 bm) ∧ W = w')))
      rw [han] at a0 a1
      rw [hbm] at b0 b1
      clear han hbm
      have hw1 : IntKind.i64.wrap (1 + bm) = 1 + bm := IntWalk.i64_in _ (by omega)
      have hpn : p.n = (8 + 8 * n + 4) := by have h1 := ((HQ7.out.2.2.2 p (List.mem_singleton.2 rfl)).1).1; rw [HPZ.out, ← HBT.out, sealed_len, encB_len, HZL.out] at h1; omega
      have HPN := Lib.hid hpn
      clear hpn
      have KT := Lib.hid (fun W (h : Below wr.heap.size wr W) => Turn_ok 0 1 0 (1 + bm) an 0 p A6 1 c6 [p] W (HQj.out W h) (by decide) rfl HPS.out (fun j q hj => absurd hj (Nat.not_lt_zero j)) (by rw [HPN.out]; omega) (by omega) (by omega))
      go_upto_region 21 with fail
      clear m3 e3
      go_cut [24, 25] (fun s24 s25 wx => CaCut wr (p.fr, p.to, p.du, p.se, p.zs.set an (bits .xor .u8 (p.zs.getD an 0) (1 + bm))) s24 s25 wx)
      case first =>
        refine wp_region_G 14 (fun w' => Below wr.heap.size wr w') (by kernel_rfl) ((Below.refl _ _).drew) (fun hS => ?_)
        refine wpT 0 (.agg #[.int .i64 0, .int .i64 1, .slice A6 1 c6]) rfl (by kernel_rfl) (fun _ _ _ h => h) (Or.inl ⟨by rfl, fun wx hSw => by have y0 := Blk.cell (HXj.out _ hSw) 0; have y1 := Blk.cell (HXj.out _ hSw) 1; have y2 := Blk.cell (HXj.out _ hSw) 2; (simp only [List.getElem?_toArray, List.getElem?_cons_zero, List.getElem?_cons_succ] at y0 y1 y2); go_simp⟩) hS ?_
        try simp only [pts]
        refine wpG 1 ?_ rfl (by kernel_rfl) (fun _ _ _ h => h) (by rfl) (fun wx => ?_) hS ?_
        rotate_left
        · go_simp; (try with_reducible rfl)
        try simp only [pts]
        refine wpG 2 ?_ rfl (by kernel_rfl) (fun _ _ _ h => h) (by rfl) (fun wx => ?_) hS ?_
        rotate_left
        · go_simp; (try with_reducible rfl)
        try simp only [pts]
        refine wpG 3 ?_ rfl (by kernel_rfl) (fun _ _ _ h => h) (by rfl) (fun wx => ?_) hS ?_
        rotate_left
        · go_simp; (try with_reducible rfl)
        try simp only [pts]
        refine wpG 5 ?_ rfl (by kernel_rfl) (fun _ _ _ h => h) (by rfl) (fun wx => ?_) hS ?_
        rotate_left
        · go_simp; (try with_reducible rfl)
        try simp only [pts]
        refine wpAnyG_two (i := 4) (j := 12) rfl rfl (by kernel_rfl) (fun K hK => ?_) (fun K hK => ?_)
        · go_simp
          (with_reducible refine (KS1.out _).mono ?_)
          rintro e wq1 ⟨rfl, rfl⟩
          refine hK.out _ _ hS ?_
          clear hK K
          try simp only [pts]
          refine wpAnyG_two (i := 6) (j := 12) rfl rfl (by kernel_rfl) (fun K hK => ?_) (fun K hK => ?_)
          · go_simp
            (with_reducible refine (KS2.out _).mono ?_)
            rintro e wq2 ⟨rfl, rfl⟩
            refine hK.out _ _ hS ?_
            clear hK K
            try simp only [pts]
            refine wpG 7 ?_ rfl (by kernel_rfl) (fun _ _ _ h => h) (by rfl) (fun wx => ?_) hS ?_
            rotate_left
            · have hq := hw1; go_simp; (try with_reducible rfl)
            try simp only [pts]
            refine wpAnyG_two (i := 8) (j := 12) rfl rfl (by kernel_rfl) (fun K hK => ?_) (fun K hK => ?_)
            · go_simp
              (with_reducible refine (KT.out _ hS).mono ?_)
              rintro e wt3 ⟨At, ct, Lt, rfl, hqt, hkt, hbt⟩
              obtain ⟨pt, rfl⟩ := List.length_eq_one_iff.1 (show Lt.length = 1 by have := congrArg List.length hkt; simpa using this)
              have hkt : pt.key = _ := (List.cons.inj hkt).1
              have hSn := hS.trans (hbt.mono hS.size)
              clear hS hbt
              have hS := hSn
              clear hSn
              refine hK.out _ _ hS ?_
              clear hK K
              try simp only [pts]
              refine wpG 9 ?_ rfl (by kernel_rfl) (fun _ _ _ h => h) (by rfl) (fun wx => ?_) hS ?_
              rotate_left
              · go_simp; (try with_reducible rfl)
              try simp only [pts]
              refine wpG 10 ?_ rfl (by kernel_rfl) (fun _ _ _ h => h) (by rfl) (fun wx => ?_) hS ?_
              rotate_left
              · go_simp; (try with_reducible rfl)
              try simp only [pts]
              refine wpG 11 ?_ rfl (by kernel_rfl) (fun _ _ _ h => h) (by rfl) (fun wx => ?_) hS ?_
              rotate_left
              · go_simp; (try with_reducible rfl)
              try simp only [pts]
              refine wpAnyG_one (i := 12) rfl (by kernel_rfl) (fun K hK => ?_)
              go_simp
              have hX_ : Below wr.heap.size wr (wt3.alloc (.cells #[.int .i64 0, .int .i64 0, .slice none 0 0] 33)) := hS.alloc hS.size _
              have hqs : wr.heap.size ≤ wt3.heap.size := hS.size
              clear hS
              have hS : Below wr.heap.size wr (wt3.alloc (.cells #[.int .i64 0, .int .i64 0, .slice none 0 0] 33)) := hX_
              have hz : Blk (wt3.alloc (.cells #[.int .i64 0, .int .i64 0, .slice none 0 0] 33)) wt3.heap.size 33 #[.int .i64 0, .int .i64 0, .slice none 0 0] := Blk.new _ _ _
              have hqn := hqt.alloc (.cells #[.int .i64 0, .int .i64 0, .slice none 0 0] 33)
              clear hqt
              have hqt := hqn
              clear hqn
              refine hK.out _ _ hS ?_
              clear hK K
              try simp only [pts]
              refine wpAnyG_one (i := 13) rfl (by kernel_rfl) (fun K hK => ?_)
              rw [if_pos (by rfl)]
              refine Nk.wp_store_row 33 (.tmp 24) (.tmp 163) rfl (wt3.heap.size) _ _ #[.int .i64 0, .int .i64 1, .slice At 1 ct] rfl rfl hz rfl infoBusC (by simp [Value.oneCell']) (fun w8_ hN8 hg8 => ?_)
              have hS8 := hS.grown hg8 hS.size (fun j hj => by cases hj; exact hqs)
              refine hK.out _ _ hS8 ?_
              clear hK K
              try simp only [pts]
              refine wpAnyG_last rfl (by kernel_rfl) (by kernel_rfl) (by kernel_rfl) (fun K hK => ?_)
              go_simp
              refine hK.out _ _ ?_
              clear hK K
              try simp only [pts]
              go_wp2_with fail
              go_meet
              exact ⟨_, At, ct, pt, rfl, rfl, hN8, rd1 rfl (hqt.grown hg8 hz (by decide) (by decide)), hkt, hS8⟩
            · go_simp
              have hX_ : Below wr.heap.size wr (wr.alloc (.cells #[.int .i64 0, .int .i64 0, .slice none 0 0] 33)) := (Below.refl _ _).alloc (Nat.le_refl _) _
              have hqs : wr.heap.size ≤ wr.heap.size := Nat.le_refl _
              clear hS
              have hS : Below wr.heap.size wr (wr.alloc (.cells #[.int .i64 0, .int .i64 0, .slice none 0 0] 33)).drew := hX_.drew
              have hz : Blk (wr.alloc (.cells #[.int .i64 0, .int .i64 0, .slice none 0 0] 33)).drew wr.heap.size 33 #[.int .i64 0, .int .i64 0, .slice none 0 0] := Blk.new _ _ _
              refine hK.out _ _ hS ?_
              clear hK K
              try simp only [pts]
              refine wpAnyG_one (i := 8) rfl (by kernel_rfl) (fun K hK => ?_)
              go_simp
              (with_reducible refine (KT.out _ hS).mono ?_)
              rintro e wt4 ⟨At, ct, Lt, rfl, hqt, hkt, hbt⟩
              obtain ⟨pt, rfl⟩ := List.length_eq_one_iff.1 (show Lt.length = 1 by have := congrArg List.length hkt; simpa using this)
              have hkt : pt.key = _ := (List.cons.inj hkt).1
              have hSn := hS.trans (hbt.mono hS.size)
              have hzn := hz.next hbt
              clear hz
              have hz := hzn
              clear hzn
              clear hS hbt
              have hS := hSn
              clear hSn
              refine hK.out _ _ hS ?_
              clear hK K
              try simp only [pts]
              refine wpG 9 ?_ rfl (by kernel_rfl) (fun _ _ _ h => h) (by rfl) (fun wx => ?_) hS ?_
              rotate_left
              · go_simp; (try with_reducible rfl)
              try simp only [pts]
              refine wpG 10 ?_ rfl (by kernel_rfl) (fun _ _ _ h => h) (by rfl) (fun wx => ?_) hS ?_
              rotate_left
              · go_simp; (try with_reducible rfl)
              try simp only [pts]
              refine wpG 11 ?_ rfl (by kernel_rfl) (fun _ _ _ h => h) (by rfl) (fun wx => ?_) hS ?_
              rotate_left
              · go_simp; (try with_reducible rfl)
              try simp only [pts]
              refine wpAnyG_one (i := 13) rfl (by kernel_rfl) (fun K hK => ?_)
              rw [if_pos (by rfl)]
              refine Nk.wp_store_row 33 (.tmp 24) (.tmp 163) rfl (wr.heap.size) _ _ #[.int .i64 0, .int .i64 1, .slice At 1 ct] rfl rfl hz rfl infoBusC (by simp [Value.oneCell']) (fun w8_ hN8 hg8 => ?_)
              have hS8 := hS.grown hg8 hS.size (fun j hj => by cases hj; exact hqs)
              refine hK.out _ _ hS8 ?_
              clear hK K
              try simp only [pts]
              refine wpAnyG_last rfl (by kernel_rfl) (by kernel_rfl) (by kernel_rfl) (fun K hK => ?_)
              go_simp
              refine hK.out _ _ ?_
              clear hK K
              try simp only [pts]
              go_wp2_with fail
              go_meet
              exact ⟨_, At, ct, pt, rfl, rfl, hN8, rd1 rfl (hqt.grown hg8 hz (by decide) (by decide)), hkt, hS8⟩
          · go_simp
            have hX_ : Below wr.heap.size wr (wr.alloc (.cells #[.int .i64 0, .int .i64 0, .slice none 0 0] 33)) := (Below.refl _ _).alloc (Nat.le_refl _) _
            have hqs : wr.heap.size ≤ wr.heap.size := Nat.le_refl _
            clear hS
            have hS : Below wr.heap.size wr (wr.alloc (.cells #[.int .i64 0, .int .i64 0, .slice none 0 0] 33)).drew := hX_.drew
            have hz : Blk (wr.alloc (.cells #[.int .i64 0, .int .i64 0, .slice none 0 0] 33)).drew wr.heap.size 33 #[.int .i64 0, .int .i64 0, .slice none 0 0] := Blk.new _ _ _
            refine hK.out _ _ hS ?_
            clear hK K
            try simp only [pts]
            refine wpAnyG_one (i := 6) rfl (by kernel_rfl) (fun K hK => ?_)
            go_simp
            (with_reducible refine (KS2.out _).mono ?_)
            rintro e wq3 ⟨rfl, rfl⟩
            refine hK.out _ _ hS ?_
            clear hK K
            try simp only [pts]
            refine wpG 7 ?_ rfl (by kernel_rfl) (fun _ _ _ h => h) (by rfl) (fun wx => ?_) hS ?_
            rotate_left
            · have hq := hw1; go_simp; (try with_reducible rfl)
            try simp only [pts]
            refine wpAnyG_one (i := 8) rfl (by kernel_rfl) (fun K hK => ?_)
            go_simp
            (with_reducible refine (KT.out _ hS).mono ?_)
            rintro e wt4 ⟨At, ct, Lt, rfl, hqt, hkt, hbt⟩
            obtain ⟨pt, rfl⟩ := List.length_eq_one_iff.1 (show Lt.length = 1 by have := congrArg List.length hkt; simpa using this)
            have hkt : pt.key = _ := (List.cons.inj hkt).1
            have hSn := hS.trans (hbt.mono hS.size)
            have hzn := hz.next hbt
            clear hz
            have hz := hzn
            clear hzn
            clear hS hbt
            have hS := hSn
            clear hSn
            refine hK.out _ _ hS ?_
            clear hK K
            try simp only [pts]
            refine wpG 9 ?_ rfl (by kernel_rfl) (fun _ _ _ h => h) (by rfl) (fun wx => ?_) hS ?_
            rotate_left
            · go_simp; (try with_reducible rfl)
            try simp only [pts]
            refine wpG 10 ?_ rfl (by kernel_rfl) (fun _ _ _ h => h) (by rfl) (fun wx => ?_) hS ?_
            rotate_left
            · go_simp; (try with_reducible rfl)
            try simp only [pts]
            refine wpG 11 ?_ rfl (by kernel_rfl) (fun _ _ _ h => h) (by rfl) (fun wx => ?_) hS ?_
            rotate_left
            · go_simp; (try with_reducible rfl)
            try simp only [pts]
            refine wpAnyG_one (i := 13) rfl (by kernel_rfl) (fun K hK => ?_)
            rw [if_pos (by rfl)]
            refine Nk.wp_store_row 33 (.tmp 24) (.tmp 163) rfl (wr.heap.size) _ _ #[.int .i64 0, .int .i64 1, .slice At 1 ct] rfl rfl hz rfl infoBusC (by simp [Value.oneCell']) (fun w8_ hN8 hg8 => ?_)
            have hS8 := hS.grown hg8 hS.size (fun j hj => by cases hj; exact hqs)
            refine hK.out _ _ hS8 ?_
            clear hK K
            try simp only [pts]
            refine wpAnyG_last rfl (by kernel_rfl) (by kernel_rfl) (by kernel_rfl) (fun K hK => ?_)
            go_simp
            refine hK.out _ _ ?_
            clear hK K
            try simp only [pts]
            go_wp2_with fail
            go_meet
            exact ⟨_, At, ct, pt, rfl, rfl, hN8, rd1 rfl (hqt.grown hg8 hz (by decide) (by decide)), hkt, hS8⟩
        · go_simp
          have hX_ : Below wr.heap.size wr (wr.alloc (.cells #[.int .i64 0, .int .i64 0, .slice none 0 0] 33)) := (Below.refl _ _).alloc (Nat.le_refl _) _
          have hqs : wr.heap.size ≤ wr.heap.size := Nat.le_refl _
          clear hS
          have hS : Below wr.heap.size wr (wr.alloc (.cells #[.int .i64 0, .int .i64 0, .slice none 0 0] 33)).drew := hX_.drew
          have hz : Blk (wr.alloc (.cells #[.int .i64 0, .int .i64 0, .slice none 0 0] 33)).drew wr.heap.size 33 #[.int .i64 0, .int .i64 0, .slice none 0 0] := Blk.new _ _ _
          refine hK.out _ _ hS ?_
          clear hK K
          try simp only [pts]
          refine wpAnyG_one (i := 4) rfl (by kernel_rfl) (fun K hK => ?_)
          go_simp
          (with_reducible refine (KS1.out _).mono ?_)
          rintro e wq2 ⟨rfl, rfl⟩
          refine hK.out _ _ hS ?_
          clear hK K
          try simp only [pts]
          refine wpAnyG_one (i := 6) rfl (by kernel_rfl) (fun K hK => ?_)
          go_simp
          (with_reducible refine (KS2.out _).mono ?_)
          rintro e wq3 ⟨rfl, rfl⟩
          refine hK.out _ _ hS ?_
          clear hK K
          try simp only [pts]
          refine wpG 7 ?_ rfl (by kernel_rfl) (fun _ _ _ h => h) (by rfl) (fun wx => ?_) hS ?_
          rotate_left
          · have hq := hw1; go_simp; (try with_reducible rfl)
          try simp only [pts]
          refine wpAnyG_one (i := 8) rfl (by kernel_rfl) (fun K hK => ?_)
          go_simp
          (with_reducible refine (KT.out _ hS).mono ?_)
          rintro e wt4 ⟨At, ct, Lt, rfl, hqt, hkt, hbt⟩
          obtain ⟨pt, rfl⟩ := List.length_eq_one_iff.1 (show Lt.length = 1 by have := congrArg List.length hkt; simpa using this)
          have hkt : pt.key = _ := (List.cons.inj hkt).1
          have hSn := hS.trans (hbt.mono hS.size)
          have hzn := hz.next hbt
          clear hz
          have hz := hzn
          clear hzn
          clear hS hbt
          have hS := hSn
          clear hSn
          refine hK.out _ _ hS ?_
          clear hK K
          try simp only [pts]
          refine wpG 9 ?_ rfl (by kernel_rfl) (fun _ _ _ h => h) (by rfl) (fun wx => ?_) hS ?_
          rotate_left
          · go_simp; (try with_reducible rfl)
          try simp only [pts]
          refine wpG 10 ?_ rfl (by kernel_rfl) (fun _ _ _ h => h) (by rfl) (fun wx => ?_) hS ?_
          rotate_left
          · go_simp; (try with_reducible rfl)
          try simp only [pts]
          refine wpG 11 ?_ rfl (by kernel_rfl) (fun _ _ _ h => h) (by rfl) (fun wx => ?_) hS ?_
          rotate_left
          · go_simp; (try with_reducible rfl)
          try simp only [pts]
          refine wpAnyG_one (i := 13) rfl (by kernel_rfl) (fun K hK => ?_)
          rw [if_pos (by rfl)]
          refine Nk.wp_store_row 33 (.tmp 24) (.tmp 163) rfl (wr.heap.size) _ _ #[.int .i64 0, .int .i64 1, .slice At 1 ct] rfl rfl hz rfl infoBusC (by simp [Value.oneCell']) (fun w8_ hN8 hg8 => ?_)
          have hS8 := hS.grown hg8 hS.size (fun j hj => by cases hj; exact hqs)
          refine hK.out _ _ hS8 ?_
          clear hK K
          try simp only [pts]
          refine wpAnyG_last rfl (by kernel_rfl) (by kernel_rfl) (by kernel_rfl) (fun K hK => ?_)
          go_simp
          refine hK.out _ _ ?_
          clear hK K
          try simp only [pts]
          go_wp2_with fail
          go_meet
          exact ⟨_, At, ct, pt, rfl, rfl, hN8, rd1 rfl (hqt.grown hg8 hz (by decide) (by decide)), hkt, hS8⟩
      case rest =>
        clear hw1
        obtain ⟨q24, At, ct, pt, rfl, rfl, hY, hqt, hkt, hbc⟩ := hcut
        have y0 := Blk.cell hY 0
        have y1 := Blk.cell hY 1
        have y2 := Blk.cell hY 2
        (simp only [List.getElem?_toArray, List.getElem?_cons_zero, List.getElem?_cons_succ] at y0 y1 y2)
        have hpd : pt.du = dd := (congrArg (fun k => k.2.2.1) hkt).trans HPD.out
        have hpz : pt.zs = p.zs.set an (bits .xor .u8 (p.zs.getD an 0) (1 + bm)) := congrArg (fun k => k.2.2.2.2) hkt
        have hno := turned_no (k := K) (f := F) (r := R) (vs := zs) (by rw [HZL.out]; exact HR.out) (a := an) (by rw [HZL.out]; omega) (m := 1 + bm) (by omega)
        rw [HBT.out, ← HPZ.out, ← hpz] at hno
        have HNO := Lib.hid hno
        have HPT := Lib.hid hpd
        have HBC := Lib.hid (HCj.out.trans (hbc.mono HCj.out.size))
        have HT2 := Lib.hid (step_one 0 1 dd At ct [pt] wc hqt (by omega) (by omega) pt rfl (by rw [hpd]; omega))
        clear hY hqt hkt hbc hpd hpz hno
        go_upto_region 23 with (first
          | (go_at_call 8; (with_reducible refine HT2.out.mono ?_); rintro e w18 ⟨A17, c17, A18, c18, t, rfl, htk, hq18, hq17, hB18⟩; have HTK := Lib.hid htk; have HQ18 := Lib.hid hq18; have HB18 := Lib.hid hB18; clear htk hq18 hq17 hB18))
        clear y0 y1 y2 HT2
        obtain ⟨b18, o18, rfl, hl18, hc18⟩ := (VR.own HQ18.out.1).2.2 (by decide)
        have c184 := hc18 4 (.slice t.A t.n t.c) rfl
        have hto := HQ18.out.2.1 t (List.mem_singleton.2 rfl)
        have htz : t.zs = pt.zs := congrArg (fun k => k.2.2.2.2) HTK.out
        have ht220 := hto.2.1
        have HD2 := Lib.hid (Decode_any t.A t.n t.c t.zs w18 (ints_own hto.1).1 (own_none hto.1).2.2 (by omega) hto.2.2)
        have HNO2 := Lib.hid (show ∀ k f r vs, ¬ IsMsg t.zs k f r vs from by rw [htz]; exact HNO.out.2)
        clear hc18 hto htz
        go_upto_region 26 with (first
          | (go_at_call 9; (with_reducible refine HD2.out.mono ?_); rintro e w19 hp19; obtain ⟨er, her, rfl, hB19⟩ := hp19.bad HNO2.out; have HB19 := Lib.hid hB19; clear hp19 hB19)
          | go_big_skip)
        have hb : (er != 0) = true := by rw [bne_iff_ne]; exact her
        clear her
        unfold zMsg
        go_wp2_with fail
        go_ret
        have hf := HBC.out.trans ((HB18.out.trans (HB19.out.mono HB18.out.size)).mono HBC.out.size)
        have hg := HBw7.out.trans (hf.mono HBw7.out.size)
        exact ⟨rfl, HB0.out.trans (hg.mono HB0.out.size)⟩
end Go.Proofs.YtofeoeknmlkjgaaGreat.Bs
end
