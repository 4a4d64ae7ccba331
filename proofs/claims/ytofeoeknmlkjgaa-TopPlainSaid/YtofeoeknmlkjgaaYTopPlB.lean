/- Over merged: WTopPlain. -/
import Derived.Test.YtofeoeknmlkjgaaYTopRp
import Derived.Test.YtofeoeknmlkjgaaZ48
set_option linter.unusedVariables false
set_option linter.unusedSimpArgs false
section
namespace Go.Proofs.Ytofeoeknmlkjgaa.Nk
open Go.RowKit Go.Proofs.Ytofeoeknmlkjgaa Mb Fi Sm
/-- all are in -/
theorem GInv.allin {N : Nat → Nd} (h : GInv (-1) N) {p s : Nat} (hp : p < 4) (hs : s < 4) : (N p).ro.inn s = true := ((h.inn p hp (by omega)).2 s hs (by omega)).1
end Go.Proofs.Ytofeoeknmlkjgaa.Nk
end
section
/- The walk of TopPlain. -/
set_option linter.unusedVariables false
namespace Go.Proofs.Ytofeoeknmlkjgaa.Nk
open Go.RowKit Go.Proofs.Ytofeoeknmlkjgaa Mb Fi Sm
set_option maxRecDepth 100000 in
set_option maxHeartbeats 4000000 in
theorem topplain_walk (t : Tu) (ht : t.In) (A : Option Addr) (m c : Nat) (L : List Inp) (w : World) (h : IR w A m c L) (hm : m ≤ 17592186044416) :
    Calls Try.prog 5 #[t.val, .slice A m c] w fun e w' => e = .returned (.bool true) ∧ Below w.heap.size w w' := by
  have hT0 : TB (w.alloc (.cells #[.int .i64 t.dt, .int .i64 t.q, .int .i64 t.r, .int .i64 t.g] 23)) w.heap.size t := Blk.new _ _ _
  have HT0 := Lib.hid hT0
  have hB0 : Below w.heap.size w (w.alloc (.cells #[.int .i64 t.dt, .int .i64 t.q, .int .i64 t.r, .int .i64 t.g] 23)) := (Below.refl _ _).alloc (Nat.le_refl _) _
  have HI := Lib.hid (h.next hB0)
  have HB0 := Lib.hid hB0
  have HT := Lib.hid ht
  have hlm := h.1
  clear hT0 h ht hB0
  unfold Tu.val
  have hb1 : (-1 : Int) ≤ -1 := by omega
  have hb2 : (-1 : Int) < 4 := by omega
  go_enter Try.func5, Try.ntmps5
  go_upto_region 1 with fail
  obtain ⟨w1, hw1⟩ : ∃ w1, w.alloc (.cells #[.int .i64 t.dt, .int .i64 t.q, .int .i64 t.r, .int .i64 t.g] 23) = w1 := ⟨_, rfl⟩
  rw [hw1] at HT0 HI HB0 ⊢
  clear hw1
  have ka := fun W => alive_any W
  have KA := Lib.hid ka
  clear ka
  have KO := Lib.hid (one_any A m c L (-1) w1 HI.out hm)
  go_upto_region 2 with (first
    | (go_at_call 11; (with_reducible refine KO.out.mono ?_); rintro e w2 ⟨v, n, rfl, hn, hO2, hB2⟩; have HN := Lib.hid hn; have HO2 := Lib.hid hO2; have HB2 := Lib.hid hB2; clear hn hO2 hB2))
  obtain ⟨A1, c1, rfl⟩ := own_shape HO2.out
  have hnl : n ≤ L.length := by rw [HN.out]; exact Nat.min_le_left _ _
  have hn2 : n ≤ 200 := by rw [HN.out]; exact Nat.min_le_right _ _
  have HIR := Lib.hid (oneL_ir hnl HO2.out (fun u hu => ((HI.out.2.2 u hu).next HB2.out)))
  have KB : Hid (Calls Try.prog 12 #[.agg #[.int .i64 t.dt, .int .i64 t.q, .int .i64 t.r, .int .i64 t.g], .slice A1 n c1] w2 _) := behind_any t HT.out (-1) hb1 hb2 A1 n c1 (oneL (-1) L n) w2 HIR.out hn2 oneL_bad oneL_400
  obtain ⟨y0, y1, y2, y3⟩ := TB.c (Blk.next HT0.out HB2.out)
  go_upto_region 3 with (first
    | (go_at_call 12; (with_reducible refine KB.out.mono ?_); rintro e w3 ⟨av, ov, q7, rfl, hR3⟩; have HR3 := Lib.hid hR3; clear hR3))
  clear y0 y1 y2 y3 KB
  go_upto_region 5 with (first
    | (go_at_call 13; (with_reducible refine (KA.out _).mono ?_); rintro e w4 ⟨rfl, hB4⟩; have HB4 := Lib.hid hB4; clear hB4)
    | go_big_skip)
  obtain ⟨i, C, R, bs, hi, hin, hC0, hF, hFr, hG, hCB, hAg, hbs, hAv, hOv, hRv, hB⟩ := HR3.out
  have hll : (oneL (-1) L n).length = n := HIR.out.1
  have HLL := Lib.hid hll
  rw [hll] at hi hin
  clear hll
  obtain rfl : i = n := by injection hi with _ h; exact (Int.ofNat.inj h).symm
  obtain ⟨Aa, ca, rfl⟩ := own_shape hAv
  obtain ⟨Ao, co, rfl⟩ := own_shape hOv
  have HVA := Lib.hid (VR.own (own_below hAv HB4.out (fun z hz => (hAv.lt z hz).2)))
  have HVO := Lib.hid (VR.own (own_below hOv HB4.out (fun z hz => (hOv.lt z hz).2)))
  have HRP := Lib.hid (fun k (hk : k < i) => rep_row (own_below (hRv k hk) HB4.out (fun z hz => ((hRv k hk).lt z hz).2)) hb1 hb2)
  have HIR4 := Lib.hid (HIR.out.next (hB.trans (HB4.out.mono hB.size)))
  have HCH := Lib.hid (fun k (hk : k < i) u (hu : (oneL (-1) L i)[k]? = some u) => chain_at HT.out (by rw [HLL.out]; exact Nat.le_refl _) oneL_bad hC0 (fun k u hk hu => hF k u hk hu) hk hu)
  have HIV := Lib.hid (fun k (hk : k ≤ i) => chain_inv HT.out (by rw [HLL.out]; exact Nat.le_refl _) oneL_bad hC0 (fun k u hk hu => hF k u hk hu) k hk)
  have HFR := Lib.hid hFr
  have HBW := Lib.hid (((HB0.out.trans (HB2.out.mono HB0.out.size)).trans (hB.mono (by have := HB0.out.size; have := HB2.out.size; omega))).trans (HB4.out.mono (by have := HB0.out.size; have := HB2.out.size; have := hB.size; omega)))
  clear hi hin hC0 hF hFr hG hCB hAg hbs hAv hOv hRv hB HR3 HB4 HB0 HI HT0 KO KA hnl HN HO2 HB2 HVA HFR
  have km := fun W (g : Nat) (a b c d : Int) (hb : Blk W g 3 #[.int .i64 a, .int .i64 b, .int .i64 c, .int .i64 d]) hz => Md.Middle_ok (some ⟨g, 0, none⟩) 4 4 [a, b, c, d] (by decide) (by decide) W (ints4 hb) hz
  have KM := Lib.hid km
  clear km
  go_upto_region 6 with fail
  go_loopw [29] (fun kv wr => ∃ k : Nat, kv = .int .i64 k ∧ k ≤ i ∧ Below w4.heap.size w4 wr) (fun kv _ => i - (intOf kv).toNat)
  case atStart => exact ⟨0, rfl, Nat.zero_le _, Below.refl _ _⟩
  case round =>
    obtain ⟨k, rfl, hk, hB⟩ := hrel
    have HBk := Lib.hid hB
    clear hB
    by_cases hki : k < i
    · have q0 : (k : Int) < (i : Int) := by omega
      have qq : (0 : Int) ≤ (k : Int) := by omega
      obtain ⟨bo, oo, rfl, hlto, hro⟩ := reps_row HVO.out hki
      obtain ⟨br, or_, cr, hrp⟩ := HRP.out k hki
      have hrr := hrp.1
      obtain ⟨bi, offi, u, rfl, hlti, hu, hok, hri⟩ := HIR4.out.row hki
      obtain ⟨hgi, hcl, hbd, hrd⟩ := HCH.out k hki u hu
      have hIV := HIV.out (k + 1) hki
      have HPL := Lib.hid (fun (p a : Nat) (hp : p < 4) (ha : a < 3) => (hgi.plain hbd hcl hp ha).trans (by rw [hrd]))
      have HVD := Lib.hid ((hgi.verdict hcl (p := 3) (by decide) (by rw [hbd]; decide)).1)
      have HAL := Lib.hid (fun (s : Nat) (hs : s < 4) => hIV.allin (p := 3) (by decide) hs)
      have HOK := Lib.hid hok.2.2
      rw [hrr] at hro
      have HRO := Lib.hid (fun W (h : Below w4.heap.size w4 W) => (show W.cell? ⟨bo, oo + k, none⟩ = _ from (h.cell (p := ⟨bo, oo + k, none⟩) hlto).trans hro))
      have HRI := Lib.hid (fun W (h : Below w4.heap.size w4 W) => below_range h hlti hri)
      have HRR := Lib.hid (fun W (h : Below w4.heap.size w4 W) => (show W.rangeAt br (or_ + 0 * 14) _ from below_range h hrp.2.1 (hrp.2.2 0 (by decide))))
      have HR3 := Lib.hid (fun W (h : Below w4.heap.size w4 W) => (show W.rangeAt br (or_ + 3 * 14) _ from below_range h hrp.2.1 (hrp.2.2 3 (by decide))))
      have hbr := hrp.2.1
      clear hgi hcl hbd hrd hu hok hrr hrp hIV hro hri
      generalize C (k + 1) = x at *
      go_upto_region 9 with fail
      go_loopw [9] (fun pv wr => ∃ a : Nat, pv = .int .i64 a ∧ a ≤ 3 ∧ Below w4.heap.size w4 wr) (fun pv _ => 3 - (intOf pv).toNat)
      case atStart => exact ⟨0, rfl, Nat.zero_le _, HBk.out⟩
      case round =>
        obtain ⟨a, rfl, ha, hB⟩ := hrel
        have HBa := Lib.hid hB
        clear hB
        by_cases ha3 : a < 3
        · have q1 : (a : Int) < 3 := by omega
          have qa : (0 : Int) ≤ (a : Int) := by omega
          have r0 : wr.cell? ⟨bi, offi + k * 14 + a, none⟩ = some (.int .i64 (u.rd (0 * 3 + a))) := by have e := inp_one (HRI.out _ HBa.out) (j := 0 * 3 + a) (by omega); rw [show offi + k * 14 + a = offi + k * 14 + (0 * 3 + a) by omega]; exact e
          have r1 : wr.cell? ⟨bi, offi + k * 14 + 3 + a, none⟩ = some (.int .i64 (u.rd (1 * 3 + a))) := by have e := inp_one (HRI.out _ HBa.out) (j := 1 * 3 + a) (by omega); rw [show offi + k * 14 + 3 + a = offi + k * 14 + (1 * 3 + a) by omega]; exact e
          have r2 : wr.cell? ⟨bi, offi + k * 14 + 6 + a, none⟩ = some (.int .i64 (u.rd (2 * 3 + a))) := by have e := inp_one (HRI.out _ HBa.out) (j := 2 * 3 + a) (by omega); rw [show offi + k * 14 + 6 + a = offi + k * 14 + (2 * 3 + a) by omega]; exact e
          have r3 : wr.cell? ⟨bi, offi + k * 14 + 9 + a, none⟩ = some (.int .i64 (u.rd (3 * 3 + a))) := by have e := inp_one (HRI.out _ HBa.out) (j := 3 * 3 + a) (by omega); rw [show offi + k * 14 + 9 + a = offi + k * 14 + (3 * 3 + a) by omega]; exact e
          have i0 := HOK.out (0 * 3 + a) (by omega)
          have i1 := HOK.out (1 * 3 + a) (by omega)
          have i2 := HOK.out (2 * 3 + a) (by omega)
          have i3 := HOK.out (3 * 3 + a) (by omega)
          have hus : wr.cell? ⟨br, or_ + 2 + a, none⟩ = some (.int .i64 ((x.N 0).us a)) := by have e := (HRR.out _ HBa.out) (2 + a) _ (repC_us _ ha3); rw [show or_ + 2 + a = or_ + 0 * 14 + (2 + a) by omega]; exact e
          rw [HPL.out 0 a (by decide) ha3] at hus
          generalize u.rd (0 * 3 + a) = z0 at *
          generalize u.rd (1 * 3 + a) = z1 at *
          generalize u.rd (2 * 3 + a) = z2 at *
          generalize u.rd (3 * 3 + a) = z3 at *
          have HZ := Lib.hid (show ∀ z ∈ [z0, z1, z2, z3], -9223372036854775808 ≤ z ∧ z ≤ 9223372036854775807 from by intro z hz; simp only [List.mem_cons, List.not_mem_nil, or_false] at hz; rcases hz with rfl | rfl | rfl | rfl <;> assumption)
          clear i0 i1 i2 i3
          have hbi : bi < wr.heap.size := Nat.lt_of_lt_of_le hlti HBa.out.size
          have HR := Lib.hid (fun W (h : Below wr.heap.size wr W) => (show W.cell? ⟨bi, offi + k * 14 + a, none⟩ = _ ∧ W.cell? ⟨bi, offi + k * 14 + 3 + a, none⟩ = _ ∧ W.cell? ⟨bi, offi + k * 14 + 6 + a, none⟩ = _ ∧ W.cell? ⟨bi, offi + k * 14 + 9 + a, none⟩ = _ from ⟨(h.cell (p := ⟨bi, offi + k * 14 + a, none⟩) hbi).trans r0, (h.cell (p := ⟨bi, offi + k * 14 + 3 + a, none⟩) hbi).trans r1, (h.cell (p := ⟨bi, offi + k * 14 + 6 + a, none⟩) hbi).trans r2, (h.cell (p := ⟨bi, offi + k * 14 + 9 + a, none⟩) hbi).trans r3⟩))
          clear r0 r1 r2 r3
          go_upto_region 11 with fail
          refine wp_region_held (S := fun w' => Below wr.heap.size wr w') (by kernel_rfl) ?_
          have hS := (Below.refl wr.heap.size wr).drew
          refine wpAnyH_takeL (i := 0) (v := ?_) rfl (by kernel_rfl) (by kernel_rfl) (by kernel_rfl) (fun _ _ _ h => h) (Or.inl ⟨by rfl, fun wx hSw => ?_⟩) hS ?_
          rotate_left
          · go_simp; (try with_reducible rfl)
          try simp only [pts]
          refine wpAnyH_takeL (i := 1) (v := ?_) rfl (by kernel_rfl) (by kernel_rfl) (by kernel_rfl) (fun _ _ _ h => h) (Or.inl ⟨by rfl, fun wx hSw => ?_⟩) hS ?_
          rotate_left
          · go_simp; (try with_reducible rfl)
          try simp only [pts]
          refine wpAnyH_takeL (i := 2) (v := ?_) rfl (by kernel_rfl) (by kernel_rfl) (by kernel_rfl) (fun _ _ _ h => h) (Or.inl ⟨by rfl, fun wx hSw => ?_⟩) hS ?_
          rotate_left
          · go_simp; (try with_reducible rfl)
          try simp only [pts]
          refine wpAnyH_takeL (i := 3) (v := ?_) rfl (by kernel_rfl) (by kernel_rfl) (by kernel_rfl) (fun _ _ _ h => h) (Or.inl ⟨by rfl, fun wx hSw => ?_⟩) hS ?_
          rotate_left
          · go_simp; (try with_reducible rfl)
          try simp only [pts]
          refine wpAnyH_takeL (i := 4) (v := ?_) rfl (by kernel_rfl) (by kernel_rfl) (by kernel_rfl) (fun _ _ _ h => h) (Or.inl ⟨by rfl, fun wx hSw => ?_⟩) hS ?_
          rotate_left
          · go_simp; (try with_reducible rfl)
          try simp only [pts]
          refine wpAnyH_takeL (i := 5) (v := ?_) rfl (by kernel_rfl) (by kernel_rfl) (by kernel_rfl) (fun _ _ _ h => h) (Or.inl ⟨by rfl, fun wx hSw => ?_⟩) hS ?_
          rotate_left
          · go_simp; (try with_reducible rfl)
          try simp only [pts]
          refine wpAnyH_takeL (i := 6) (v := ?_) rfl (by kernel_rfl) (by kernel_rfl) (by kernel_rfl) (fun _ _ _ h => h) (Or.inl ⟨by rfl, fun wx hSw => ?_⟩) hS ?_
          rotate_left
          · go_simp; (try with_reducible rfl)
          try simp only [pts]
          refine wpAnyH_takeL (i := 7) (v := .int .i64 z0) rfl (by kernel_rfl) (by kernel_rfl) (by kernel_rfl) (fun _ _ _ h => h) (Or.inl ⟨by rfl, fun wx hSw => by have hc := (HR.out _ hSw).1; go_simp⟩) hS ?_
          try simp only [pts]
          refine wpAnyH_takeL (i := 8) (v := ?_) rfl (by kernel_rfl) (by kernel_rfl) (by kernel_rfl) (fun _ _ _ h => h) (Or.inl ⟨by rfl, fun wx hSw => ?_⟩) hS ?_
          rotate_left
          · go_simp; (try with_reducible rfl)
          try simp only [pts]
          refine wpAnyH_takeL (i := 9) (v := ?_) rfl (by kernel_rfl) (by kernel_rfl) (by kernel_rfl) (fun _ _ _ h => h) (Or.inl ⟨by rfl, fun wx hSw => ?_⟩) hS ?_
          rotate_left
          · go_simp; (try with_reducible rfl)
          try simp only [pts]
          refine wpAnyH_takeL (i := 10) (v := ?_) rfl (by kernel_rfl) (by kernel_rfl) (by kernel_rfl) (fun _ _ _ h => h) (Or.inl ⟨by rfl, fun wx hSw => ?_⟩) hS ?_
          rotate_left
          · go_simp; (try with_reducible rfl)
          try simp only [pts]
          refine wpAnyH_takeL (i := 11) (v := ?_) rfl (by kernel_rfl) (by kernel_rfl) (by kernel_rfl) (fun _ _ _ h => h) (Or.inl ⟨by rfl, fun wx hSw => ?_⟩) hS ?_
          rotate_left
          · go_simp; (try with_reducible rfl)
          try simp only [pts]
          refine wpAnyH_takeL (i := 12) (v := ?_) rfl (by kernel_rfl) (by kernel_rfl) (by kernel_rfl) (fun _ _ _ h => h) (Or.inl ⟨by rfl, fun wx hSw => ?_⟩) hS ?_
          rotate_left
          · go_simp; (try with_reducible rfl)
          try simp only [pts]
          refine wpAnyH_takeL (i := 13) (v := ?_) rfl (by kernel_rfl) (by kernel_rfl) (by kernel_rfl) (fun _ _ _ h => h) (Or.inl ⟨by rfl, fun wx hSw => ?_⟩) hS ?_
          rotate_left
          · go_simp; (try with_reducible rfl)
          try simp only [pts]
          refine wpAnyH_takeL (i := 14) (v := ?_) rfl (by kernel_rfl) (by kernel_rfl) (by kernel_rfl) (fun _ _ _ h => h) (Or.inl ⟨by rfl, fun wx hSw => ?_⟩) hS ?_
          rotate_left
          · go_simp; (try with_reducible rfl)
          try simp only [pts]
          refine wpAnyH_takeL (i := 15) (v := .int .i64 z1) rfl (by kernel_rfl) (by kernel_rfl) (by kernel_rfl) (fun _ _ _ h => h) (Or.inl ⟨by rfl, fun wx hSw => by have hc := (HR.out _ hSw).2.1; go_simp⟩) hS ?_
          try simp only [pts]
          refine wpAnyH_takeL (i := 16) (v := ?_) rfl (by kernel_rfl) (by kernel_rfl) (by kernel_rfl) (fun _ _ _ h => h) (Or.inl ⟨by rfl, fun wx hSw => ?_⟩) hS ?_
          rotate_left
          · go_simp; (try with_reducible rfl)
          try simp only [pts]
          refine wpAnyH_takeL (i := 17) (v := ?_) rfl (by kernel_rfl) (by kernel_rfl) (by kernel_rfl) (fun _ _ _ h => h) (Or.inl ⟨by rfl, fun wx hSw => ?_⟩) hS ?_
          rotate_left
          · go_simp; (try with_reducible rfl)
          try simp only [pts]
          refine wpAnyH_takeL (i := 18) (v := ?_) rfl (by kernel_rfl) (by kernel_rfl) (by kernel_rfl) (fun _ _ _ h => h) (Or.inl ⟨by rfl, fun wx hSw => ?_⟩) hS ?_
          rotate_left
          · go_simp; (try with_reducible rfl)
          try simp only [pts]
          refine wpAnyH_takeL (i := 19) (v := ?_) rfl (by kernel_rfl) (by kernel_rfl) (by kernel_rfl) (fun _ _ _ h => h) (Or.inl ⟨by rfl, fun wx hSw => ?_⟩) hS ?_
          rotate_left
          · go_simp; (try with_reducible rfl)
          try simp only [pts]
          refine wpAnyH_takeL (i := 20) (v := ?_) rfl (by kernel_rfl) (by kernel_rfl) (by kernel_rfl) (fun _ _ _ h => h) (Or.inl ⟨by rfl, fun wx hSw => ?_⟩) hS ?_
          rotate_left
          · go_simp; (try with_reducible rfl)
          try simp only [pts]
          refine wpAnyH_takeL (i := 21) (v := ?_) rfl (by kernel_rfl) (by kernel_rfl) (by kernel_rfl) (fun _ _ _ h => h) (Or.inl ⟨by rfl, fun wx hSw => ?_⟩) hS ?_
          rotate_left
          · go_simp; (try with_reducible rfl)
          try simp only [pts]
          refine wpAnyH_takeL (i := 22) (v := ?_) rfl (by kernel_rfl) (by kernel_rfl) (by kernel_rfl) (fun _ _ _ h => h) (Or.inl ⟨by rfl, fun wx hSw => ?_⟩) hS ?_
          rotate_left
          · go_simp; (try with_reducible rfl)
          try simp only [pts]
          refine wpAnyH_takeL (i := 23) (v := .int .i64 z2) rfl (by kernel_rfl) (by kernel_rfl) (by kernel_rfl) (fun _ _ _ h => h) (Or.inl ⟨by rfl, fun wx hSw => by have hc := (HR.out _ hSw).2.2.1; go_simp⟩) hS ?_
          try simp only [pts]
          refine wpAnyH_takeL (i := 24) (v := ?_) rfl (by kernel_rfl) (by kernel_rfl) (by kernel_rfl) (fun _ _ _ h => h) (Or.inl ⟨by rfl, fun wx hSw => ?_⟩) hS ?_
          rotate_left
          · go_simp; (try with_reducible rfl)
          try simp only [pts]
          refine wpAnyH_takeL (i := 25) (v := ?_) rfl (by kernel_rfl) (by kernel_rfl) (by kernel_rfl) (fun _ _ _ h => h) (Or.inl ⟨by rfl, fun wx hSw => ?_⟩) hS ?_
          rotate_left
          · go_simp; (try with_reducible rfl)
          try simp only [pts]
          refine wpAnyH_takeL (i := 26) (v := ?_) rfl (by kernel_rfl) (by kernel_rfl) (by kernel_rfl) (fun _ _ _ h => h) (Or.inl ⟨by rfl, fun wx hSw => ?_⟩) hS ?_
          rotate_left
          · go_simp; (try with_reducible rfl)
          try simp only [pts]
          refine wpAnyH_takeL (i := 27) (v := ?_) rfl (by kernel_rfl) (by kernel_rfl) (by kernel_rfl) (fun _ _ _ h => h) (Or.inl ⟨by rfl, fun wx hSw => ?_⟩) hS ?_
          rotate_left
          · go_simp; (try with_reducible rfl)
          try simp only [pts]
          refine wpAnyH_takeL (i := 28) (v := ?_) rfl (by kernel_rfl) (by kernel_rfl) (by kernel_rfl) (fun _ _ _ h => h) (Or.inl ⟨by rfl, fun wx hSw => ?_⟩) hS ?_
          rotate_left
          · go_simp; (try with_reducible rfl)
          try simp only [pts]
          refine wpAnyH_takeL (i := 29) (v := ?_) rfl (by kernel_rfl) (by kernel_rfl) (by kernel_rfl) (fun _ _ _ h => h) (Or.inl ⟨by rfl, fun wx hSw => ?_⟩) hS ?_
          rotate_left
          · go_simp; (try with_reducible rfl)
          try simp only [pts]
          refine wpAnyH_takeL (i := 30) (v := ?_) rfl (by kernel_rfl) (by kernel_rfl) (by kernel_rfl) (fun _ _ _ h => h) (Or.inl ⟨by rfl, fun wx hSw => ?_⟩) hS ?_
          rotate_left
          · go_simp; (try with_reducible rfl)
          try simp only [pts]
          refine wpAnyH_takeL (i := 31) (v := .int .i64 z3) rfl (by kernel_rfl) (by kernel_rfl) (by kernel_rfl) (fun _ _ _ h => h) (Or.inl ⟨by rfl, fun wx hSw => by have hc := (HR.out _ hSw).2.2.2; go_simp⟩) hS ?_
          try simp only [pts]
          refine wpAnyH_one (i := 32) rfl (by kernel_rfl) (fun K hK => ?_)
          go_simp
          have hX : Below wr.heap.size wr (wr.alloc (.cells #[.int .i64 z0, .int .i64 z1, .int .i64 z2, .int .i64 z3] 3)) := (Below.refl _ _).alloc (Nat.le_refl _) _
          clear hS
          have hS : Below wr.heap.size wr (wr.alloc (.cells #[.int .i64 z0, .int .i64 z1, .int .i64 z2, .int .i64 z3] 3)).drew := hX.drew
          have hz0 : Blk (wr.alloc (.cells #[.int .i64 z0, .int .i64 z1, .int .i64 z2, .int .i64 z3] 3)).drew wr.heap.size 3 #[.int .i64 z0, .int .i64 z1, .int .i64 z2, .int .i64 z3] := Blk.new _ _ _
          refine hK.out _ _ hS ?_
          clear hK K
          try simp only [pts]
          refine wpAnyH_one (i := 33) rfl (by kernel_rfl) (fun K hK => ?_)
          go_simp
          (with_reducible refine (KM.out _ _ _ _ _ _ hz0 HZ.out).mono ?_)
          rintro e w6 ⟨rfl, hB6⟩
          have hS6 := hS.trans (hB6.mono hS.size)
          clear hS hz0
          have hS := hS6
          refine hK.out _ _ hS ?_
          clear hK K
          try simp only [pts]
          refine wpAnyH_takeL (i := 34) (v := ?_) rfl (by kernel_rfl) (by kernel_rfl) (by kernel_rfl) (fun _ _ _ h => h) (Or.inl ⟨by rfl, fun wx hSw => ?_⟩) hS ?_
          rotate_left
          · go_simp; (try with_reducible rfl)
          try simp only [pts]
          refine wpAnyH_takeL (i := 35) (v := ?_) rfl (by kernel_rfl) (by kernel_rfl) (by kernel_rfl) (fun _ _ _ h => h) (Or.inl ⟨by rfl, fun wx hSw => ?_⟩) hS ?_
          rotate_left
          · go_simp; (try with_reducible rfl)
          try simp only [pts]
          refine wpAnyH_takeL (i := 36) (v := ?_) rfl (by kernel_rfl) (by kernel_rfl) (by kernel_rfl) (fun _ _ _ h => h) (Or.inl ⟨by rfl, fun wx hSw => ?_⟩) hS ?_
          rotate_left
          · go_simp; (try with_reducible rfl)
          try simp only [pts]
          refine wpAnyH_takeL (i := 37) (v := ?_) rfl (by kernel_rfl) (by kernel_rfl) (by kernel_rfl) (fun _ _ _ h => h) (Or.inl ⟨by rfl, fun wx hSw => ?_⟩) hS ?_
          rotate_left
          · go_simp; (try with_reducible rfl)
          try simp only [pts]
          refine wpAnyH_takeL (i := 38) (v := ?_) rfl (by kernel_rfl) (by kernel_rfl) (by kernel_rfl) (fun _ _ _ h => h) (Or.inl ⟨by rfl, fun wx hSw => ?_⟩) hS ?_
          rotate_left
          · go_simp; (try with_reducible rfl)
          try simp only [pts]
          refine wpAnyH_done (by kernel_rfl) ?_ _
          have HS6 := Lib.hid (HBa.out.trans (hS.mono HBa.out.size))
          have hro := HRO.out _ HS6.out
          rw [show repsN (-1) 4 = 4 from rfl] at hro
          have hus6 := (hS.cell (p := ⟨br, or_ + 2 + a, none⟩) (Nat.lt_of_lt_of_le hbr HBa.out.size)).trans hus
          clear hus hS HR HZ
          go_wp2_with fail
          go_roundw
          case rel => exact ⟨a + 1, by go_num, by omega, HS6.out⟩
          case measure => simp [intOf]; omega
        · have q1 : decide ((a : Int) < 3) = false := by rw [decide_eq_false_iff_not]; omega
          have hro := HRO.out _ HBa.out
          rw [show repsN (-1) 4 = 4 from rfl] at hro
          have c9 : wr.cell? ⟨br, or_ + 51, none⟩ = _ := (HR3.out _ HBa.out) 9 _ (show (repC (x.N 3)).toList[9]? = some (.bool (x.N 3).vs) from rfl)
          have c10 : wr.cell? ⟨br, or_ + 52, none⟩ = _ := (HR3.out _ HBa.out) 10 _ (show (repC (x.N 3)).toList[10]? = some (.bool ((x.N 3).ro.inn 0)) from rfl)
          have c11 : wr.cell? ⟨br, or_ + 53, none⟩ = _ := (HR3.out _ HBa.out) 11 _ (show (repC (x.N 3)).toList[11]? = some (.bool ((x.N 3).ro.inn 1)) from rfl)
          have c12 : wr.cell? ⟨br, or_ + 54, none⟩ = _ := (HR3.out _ HBa.out) 12 _ (show (repC (x.N 3)).toList[12]? = some (.bool ((x.N 3).ro.inn 2)) from rfl)
          have c13 : wr.cell? ⟨br, or_ + 55, none⟩ = _ := (HR3.out _ HBa.out) 13 _ (show (repC (x.N 3)).toList[13]? = some (.bool ((x.N 3).ro.inn 3)) from rfl)
          rw [HVD.out] at c9
          rw [HAL.out 0 (by decide)] at c10
          rw [HAL.out 1 (by decide)] at c11
          rw [HAL.out 2 (by decide)] at c12
          rw [HAL.out 3 (by decide)] at c13
          have qe := eq4b wr
          go_wp2_with (first | go_big_skip)
          go_roundw
          case rel => exact ⟨k + 1, by go_num, by omega, HBa.out⟩
          case measure => simp [intOf]; omega
    · have q0 : decide ((k : Int) < (i : Int)) = false := by rw [decide_eq_false_iff_not]; omega
      go_wp2_with fail
      go_ret
      exact ⟨rfl, HBW.out.trans (HBk.out.mono HBW.out.size)⟩
end Go.Proofs.Ytofeoeknmlkjgaa.Nk
namespace Go.Proofs.Ytofeoeknmlkjgaa.lawTopPlain
open Go.RowKit Go.Proofs.Ytofeoeknmlkjgaa Nk Fi Go.ChangeShapes Go.WideShapes
set_option maxRecDepth 100000 in
theorem walk {H : Type} {enc : TypeId × Value → H} {d0 d1 : DataW H} {p0 p1 : List MemPlace} (v0 v1 : Value) (W : World) (base : Nat)
    (h0 : Value.okWide Try.prog W .any base 23 v0) (k0 : DataW.Trod enc Try.prog W 0 (fun _ => true) true 23 v0 d0 p0)
    (h1 : Value.okWide Try.prog W .any base 24 v1) (k1 : DataW.Trod enc Try.prog W 0 (fun _ => true) true 24 v1 d1 p1)
    (s0 : ∀ x ∈ d0.weights Try.prog 23, x ≤ reachBytes) (s1 : ∀ x ∈ d1.weights Try.prog 24, x ≤ reachBytes) :
    Calls Try.prog 5 #[v0, v1] W fun e w' => e = .returned (.bool true) ∧ Below W.heap.size W w' := by
  obtain ⟨t, rfl, ht⟩ := tuning_in h0
  obtain ⟨A, n, c, rfl, hnc, hc, _, _⟩ := ok_slice Try.underlying24 h1
  obtain ⟨L, hL, hm⟩ := inputs_in k1 s1
  exact topplain_walk t ht A n c L W hL hm
end Go.Proofs.Ytofeoeknmlkjgaa.lawTopPlain
end
