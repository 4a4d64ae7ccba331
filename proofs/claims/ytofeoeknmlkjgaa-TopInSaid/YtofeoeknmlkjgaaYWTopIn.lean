/- Over merged: WTopIn. -/
import Derived.Test.YtofeoeknmlkjgaaYTopRp
import Derived.Test.YtofeoeknmlkjgaaZ48
set_option linter.unusedVariables false
set_option linter.unusedSimpArgs false
section
/- The walk of TopIn. -/
set_option linter.unusedVariables false
namespace Go.Proofs.Ytofeoeknmlkjgaa.Nk
open Go.RowKit Go.Proofs.Ytofeoeknmlkjgaa Mb Fi Sm
set_option maxRecDepth 100000 in
set_option maxHeartbeats 4000000 in
theorem topin_walk (t : Tu) (ht : t.In) (A : Option Addr) (m c : Nat) (L : List Inp) (b0 : Int) (w : World) (h : IR w A m c L) (hm : m ≤ 17592186044416) :
    Calls Try.prog 4 #[t.val, .slice A m c, .int .i64 b0] w fun e w' => e = .returned (.bool true) ∧ Below w.heap.size w w' := by
  have ks := fun W => tspot_any b0 5 W (by decide) (by decide)
  have KS := Lib.hid ks
  have h0 := Int.emod_nonneg b0 (b := 5) (by decide)
  have h5 := Int.emod_lt_of_pos b0 (b := 5) (by decide)
  have hT0 : TB (w.alloc (.cells #[.int .i64 t.dt, .int .i64 t.q, .int .i64 t.r, .int .i64 t.g] 23)) w.heap.size t := Blk.new _ _ _
  have HT0 := Lib.hid hT0
  have hB0 : Below w.heap.size w (w.alloc (.cells #[.int .i64 t.dt, .int .i64 t.q, .int .i64 t.r, .int .i64 t.g] 23)) := (Below.refl _ _).alloc (Nat.le_refl _) _
  have HI := Lib.hid (h.next hB0)
  have HB0 := Lib.hid hB0
  have HT := Lib.hid ht
  have hlm := h.1
  clear ks hT0 h ht hB0
  unfold Tu.val
  go_enter Try.func4, Try.ntmps4
  go_upto_region 2 with (first
    | (go_at_call 10; (with_reducible refine (KS.out _).mono ?_); rintro e w1 ⟨rfl, rfl⟩))
  obtain ⟨bad, hbd⟩ : ∃ bad, b0 % 5 - 1 = bad := ⟨_, rfl⟩
  rw [hbd]
  have hb1 : -1 ≤ bad := by omega
  have hb2 : bad < 4 := by omega
  have HBD := Lib.hid hbd
  clear hbd h0 h5 KS
  obtain ⟨w1, hw1⟩ : ∃ w1, w.alloc (.cells #[.int .i64 t.dt, .int .i64 t.q, .int .i64 t.r, .int .i64 t.g] 23) = w1 := ⟨_, rfl⟩
  rw [hw1] at HT0 HI HB0 ⊢
  clear hw1
  have ka := fun W => alive_any W
  have KA := Lib.hid ka
  clear ka
  have KO := Lib.hid (fun W (hb : Below w1.heap.size w1 W) => one_any A m c L bad W (HI.out.next hb) hm)
  have KB : Hid (∀ (W : World) (A1 : Option Addr) (n c1 : Nat), IR W A1 n c1 (oneL bad L n) → n ≤ 200 → Calls Try.prog 12 #[.agg #[.int .i64 t.dt, .int .i64 t.q, .int .i64 t.r, .int .i64 t.g], .slice A1 n c1] W _) := Lib.hid (fun W A1 n c1 hir hn => behind_any t HT.out bad hb1 hb2 A1 n c1 (oneL bad L n) W hir hn oneL_bad oneL_400)
  have SK := Lib.hid (fun W (hb : Below w1.heap.size w1 W) => (TB.c (Blk.next HT0.out hb) : (W.cell? ⟨w.heap.size, 0, none⟩ = some (.int .i64 t.dt) ∧ W.cell? ⟨w.heap.size, 1, none⟩ = some (.int .i64 t.q) ∧ W.cell? ⟨w.heap.size, 2, none⟩ = some (.int .i64 t.r) ∧ W.cell? ⟨w.heap.size, 3, none⟩ = some (.int .i64 t.g))))
  go_region_held3 (fun w' => w'.cell? ⟨w.heap.size, 0, none⟩ = some (.int .i64 t.dt) ∧ w'.cell? ⟨w.heap.size, 1, none⟩ = some (.int .i64 t.q) ∧ w'.cell? ⟨w.heap.size, 2, none⟩ = some (.int .i64 t.r) ∧ w'.cell? ⟨w.heap.size, 3, none⟩ = some (.int .i64 t.g)) (first | with_reducible exact SK.out _ (Below.refl _ _).drew | with_reducible exact SK.out _ hBx | with_reducible exact SK.out _ hBy) (first
    | (go_at_call 11; (with_reducible refine (KO.out _ (Below.refl _ _).drew).mono ?_); rintro e w2 ⟨v, n, rfl, hn, hO2, hB2⟩; obtain ⟨A1, c1, rfl⟩ := own_shape hO2; have hBx := (Below.refl w1.heap.size w1).drew.trans (hB2.mono (Nat.le_refl _)); have hnl : n ≤ L.length := (by rw [hn]; exact Nat.min_le_left _ _); have hn2 : n ≤ 200 := (by rw [hn]; exact Nat.min_le_right _ _); have HIR := Lib.hid (oneL_ir hnl hO2 (fun u hu => ((HI.out.2.2 u hu).next hBx))); clear hn hO2 hB2)
    | (go_at_call 12; (with_reducible refine (KB.out _ _ _ _ HIR.out hn2).mono ?_); rintro e w3 ⟨av, ov, q7, rfl, hR3⟩; have hBy := hBx.trans (hR3.below.mono hBx.size); have HR3 := Lib.hid hR3; clear hR3))
  go_upto_region 5 with (first
    | (go_at_call 13; (with_reducible refine (KA.out _).mono ?_); rintro e w4 ⟨rfl, hB4⟩; have HB4 := Lib.hid hB4; clear hB4)
    | go_big_skip)
  obtain ⟨i, C, R, bs, hi, hin, hC0, hF, hFr, hG, hCB, hAg, hbs, hAv, hOv, hRv, hB⟩ := HR3.out
  have hll : (oneL bad L n).length = n := HIR.out.1
  have HLL := Lib.hid hll
  rw [hll] at hi hin
  clear hll
  obtain rfl : i = n := by injection hi with _ h; exact (Int.ofNat.inj h).symm
  obtain ⟨Aa, ca, rfl⟩ := own_shape hAv
  obtain ⟨Ao, co, rfl⟩ := own_shape hOv
  have HVA := Lib.hid (VR.own (own_below hAv HB4.out (fun z hz => (hAv.lt z hz).2)))
  have HVO := Lib.hid (VR.own (own_below hOv HB4.out (fun z hz => (hOv.lt z hz).2)))
  have HRP := Lib.hid (fun k (hk : k < i) => rep_row (own_below (hRv k hk) HB4.out (fun z hz => ((hRv k hk).lt z hz).2)) hb1 hb2)
  have HIR4 := Lib.hid (HIR.out.next (hB.trans (HB4.out.mono hB.size)))
  have HCH := Lib.hid (fun k (hk : k < i) u (hu : (oneL bad L i)[k]? = some u) => chain_at HT.out (by rw [HLL.out]; exact Nat.le_refl _) oneL_bad hC0 (fun k u hk hu => hF k u hk hu) hk hu)
  have HIV := Lib.hid (fun k (hk : k ≤ i) => chain_inv HT.out (by rw [HLL.out]; exact Nat.le_refl _) oneL_bad hC0 (fun k u hk hu => hF k u hk hu) k hk)
  have HFR := Lib.hid hFr
  have HBW := Lib.hid (((HB0.out.trans (hBy.mono HB0.out.size))).trans (HB4.out.mono (by have := HB0.out.size; have := hBy.size; omega)))
  have HON := Lib.hid (fun k (hk : k < i) => (show 0 < k + 1 ∧ k + 1 ≤ i by omega))
  clear hi hin hC0 hF hFr hG hCB hAg hbs hAv hOv hRv hB HR3 HB4 HB0 HI HT0 KO KA KB SK hnl hBx hBy
  go_upto_region 6 with fail
  go_loopw [35] (fun kv wr => ∃ k : Nat, kv = .int .i64 k ∧ k ≤ i ∧ Below w4.heap.size w4 wr) (fun kv _ => i - (intOf kv).toNat)
  case atStart => exact ⟨0, rfl, Nat.zero_le _, Below.refl _ _⟩
  case round =>
    obtain ⟨k, rfl, hk, hB⟩ := hrel
    by_cases hki : k < i
    · have q0 : (k : Int) < (i : Int) := by omega
      have qq : (0 : Int) ≤ (k : Int) := by omega
      obtain ⟨b, off, rfl, hlt, hra⟩ := clus_at (HVA.out.next hB) hki
      obtain ⟨bo, oo, rfl, hlto, hro⟩ := reps_row (HVO.out.next hB) hki
      obtain ⟨br, or_, cr, hrp⟩ := HRP.out k hki
      have hrr := hrp.1
      obtain ⟨bi, offi, u, hAi, hlti, hu, hok, hri⟩ := HIR4.out.row hki
      obtain ⟨hgi, hcl, hbd, hrd⟩ := HCH.out k hki u hu
      have hIV := HIV.out (k + 1) hki
      have HVD := Lib.hid (fun (p : Nat) (hp : p < 4) (hpb : ¬ (p : Int) = bad) => hgi.verdict hcl hp (by rw [hbd]; exact hpb))
      have HIN := Lib.hid (fun (p : Nat) (hp : p < 4) (hpb : ¬ (p : Int) = bad) => hIV.inn p hp hpb)
      have HRA := Lib.hid hra
      have HONE := Lib.hid ((HFR.out (k + 1) hki).2)
      have HBk := Lib.hid hB
      rw [hrr] at hro
      have HRO := Lib.hid hro
      clear hra hgi hcl hbd hrd hu hok hB hrr hrp hIV hAi hro hri
      generalize C (k + 1) = x at *
      go_upto_region 8 with (first
        | (refine wpList_load_mid rfl 48 (.tmp 38) rfl b (off + k * 297) rfl (CA x).toList _ HRA.out Try.underlying48 rfl (by rw [Array.length_toList, CA_size]; exact infoCl) ?_; rw [show (CA x).toList.toArray = CA x from Array.toArray_toList ..])
        | (refine wpList_store_at 48 (.tmp 11) (.tmp 39) rfl rfl wr.heap.size _ _ (CA x) rfl rfl (Blk.new _ _ _) (by rw [zeroCl, CA_size, CA_size]) (by rw [CA_size]; exact infoCl) (CA_one HONE.out) ?_; intro w5 hN5 hg5; have HN5 : Hid (CB w5 wr.heap.size x) := hN5; have HG5 := Lib.hid hg5; clear hN5 hg5))
      have hb5 : Below wr.heap.size wr w5 := ((Below.refl wr.heap.size wr).alloc (Nat.le_refl _) _).grown HG5.out (by simp) (fun j hj => by cases hj; exact Nat.le_refl _)
      have HB5 := Lib.hid (HBk.out.trans (hb5.mono HBk.out.size))
      have HC5 := Lib.hid (fun W (h : Below w5.heap.size w5 W) => CB.next HN5.out h)
      have HRO5 := Lib.hid (fun W (h : Below w5.heap.size w5 W) => (show W.cell? ⟨bo, oo + k, none⟩ = _ from (h.cell (p := ⟨bo, oo + k, none⟩) (by have := hb5.size; show bo < _; omega)).trans ((hb5.cell (p := ⟨bo, oo + k, none⟩) hlto).trans HRO.out)))
      clear hb5 HBk HRA HG5 hlt hlto HRO
      generalize wr.heap.size = g at *
      go_upto_region 9 with fail
      go_loopw [12] (fun pv wr => ∃ p : Nat, pv = .int .i64 p ∧ p ≤ 4 ∧ Below w5.heap.size w5 wr) (fun pv _ => 4 - (intOf pv).toNat)
      case atStart => exact ⟨0, rfl, Nat.zero_le _, Below.refl _ _⟩
      case round =>
        obtain ⟨p, rfl, hp, hB⟩ := hrel
        have HBp := Lib.hid hB
        clear hB
        by_cases hp4 : p < 4
        · have q1 : (p : Int) < 4 := by omega
          have qp : (0 : Int) ≤ (p : Int) := by omega
          by_cases hpb : (p : Int) = bad
          · have q3 : ((p : Int) == bad) = true := by simpa using hpb
            go_wp2_with fail
            go_roundw
            case rel => exact ⟨p + 1, by go_num, by omega, HBp.out⟩
            case measure => simp [intOf]; omega
          · have q3 : ((p : Int) == bad) = false := by simpa using hpb
            obtain ⟨hvs, hvv⟩ := HVD.out p hp4 hpb
            have HG := Lib.hid (HIN.out p hp4 hpb)
            have hvd := (HC5.out _ HBp.out).vdR hp4
            rw [hvs, hvv] at hvd
            have HVR := Lib.hid hvd
            clear hvd hvs hvv
            go_upto_region 13 with (first
              | (refine wpList_load_mid rfl 43 (.tmp 50) rfl g (1 + p * 74 + 71) rfl [.int .i64 (x.N p).dg, .bool true, x.va p] _ HVR.out Try.underlying43 rfl infoVd ?_)
              | (refine wpList_store_at 43 (.tmp 13) (.tmp 51) rfl rfl wr.heap.size _ _ #[.int .i64 (x.N p).dg, .bool true, x.va p] rfl rfl (Blk.new _ _ _) rfl infoVd (one3 rfl rfl (HONE.out p hp4)) ?_; intro w6 hN6 hg6; have HN6 := Lib.hid hN6; have HG6 := Lib.hid hg6; clear hN6 hg6))
            have hb6 : Below wr.heap.size wr w6 := ((Below.refl wr.heap.size wr).alloc (Nat.le_refl _) _).grown HG6.out (by simp) (fun j hj => by cases hj; exact Nat.le_refl _)
            have HB6 := Lib.hid (HBp.out.trans (hb6.mono HBp.out.size))
            have kg := fun W => good_any (x.N p).ro W
            have KG := Lib.hid kg
            clear kg hb6 HG6 HVR
            generalize wr.heap.size = g6 at *
            have q7 : ((x.N p).dg != (x.N p).dg) = false := by simp
            have hCx := fun W (h : Below w6.heap.size w6 W) => HC5.out W (HB6.out.trans (h.mono HB6.out.size))
            have HCX := Lib.hid hCx
            clear hCx
            refine wp_region_held (S := fun w' => Below w6.heap.size w6 w') (by kernel_rfl) ?_
            have hS := (Below.refl w6.heap.size w6).drew
            refine wpAnyH_takeL (i := 0) (v := ?_) rfl (by kernel_rfl) (by kernel_rfl) (by kernel_rfl) (fun _ _ _ h => h) (Or.inl ⟨by rfl, fun wx hSw => ?_⟩) hS ?_
            rotate_left
            · go_simp; (try with_reducible rfl)
            try simp only [pts]
            refine wpAnyH_takeL (i := 1) (v := .bool true) rfl (by kernel_rfl) (by kernel_rfl) (by kernel_rfl) (fun _ _ _ h => h) (Or.inl ⟨by rfl, fun wx hSw => by have hc := Blk.cell (HN6.out.next hSw) 1; go_simp⟩) hS ?_
            try simp only [pts]
            refine wpAnyH_takeL (i := 2) (v := ?_) rfl (by kernel_rfl) (by kernel_rfl) (by kernel_rfl) (fun _ _ _ h => h) (Or.inl ⟨by rfl, fun wx hSw => ?_⟩) hS ?_
            rotate_left
            · go_simp; (try with_reducible rfl)
            try simp only [pts]
            refine wpAnyH_takeL (i := 3) (v := ?_) rfl (by kernel_rfl) (by kernel_rfl) (by kernel_rfl) (fun _ _ _ h => h) (Or.inl ⟨by rfl, fun wx hSw => ?_⟩) hS ?_
            rotate_left
            · go_simp; (try with_reducible rfl)
            try simp only [pts]
            refine wpAnyH_takeL (i := 4) (v := ?_) rfl (by kernel_rfl) (by kernel_rfl) (by kernel_rfl) (fun _ _ _ h => h) (Or.inl ⟨by rfl, fun wx hSw => ?_⟩) hS ?_
            rotate_left
            · go_simp; (try with_reducible rfl)
            try simp only [pts]
            refine wpAnyH_takeL (i := 5) (v := .int .i64 (x.N p).dg) rfl (by kernel_rfl) (by kernel_rfl) (by kernel_rfl) (fun _ _ _ h => h) (Or.inl ⟨by rfl, fun wx hSw => by have hc := Blk.cell (HN6.out.next hSw) 0; go_simp⟩) hS ?_
            try simp only [pts]
            refine wpAnyH_takeL (i := 6) (v := ?_) rfl (by kernel_rfl) (by kernel_rfl) (by kernel_rfl) (fun _ _ _ h => h) (Or.inl ⟨by rfl, fun wx hSw => ?_⟩) hS ?_
            rotate_left
            · go_simp; (try with_reducible rfl)
            try simp only [pts]
            refine wpAnyH_takeL (i := 7) (v := ?_) rfl (by kernel_rfl) (by kernel_rfl) (by kernel_rfl) (fun _ _ _ h => h) (Or.inl ⟨by rfl, fun wx hSw => ?_⟩) hS ?_
            rotate_left
            · go_simp; (try with_reducible rfl)
            try simp only [pts]
            refine wpAnyH_takeL (i := 8) (v := ?_) rfl (by kernel_rfl) (by kernel_rfl) (by kernel_rfl) (fun _ _ _ h => h) (Or.inl ⟨by rfl, fun wx hSw => ?_⟩) hS ?_
            rotate_left
            · go_simp; (try with_reducible rfl)
            try simp only [pts]
            refine wpAnyH_takeL (i := 9) (v := ?_) rfl (by kernel_rfl) (by kernel_rfl) (by kernel_rfl) (fun _ _ _ h => h) (Or.inl ⟨by rfl, fun wx hSw => ?_⟩) hS ?_
            rotate_left
            · go_simp; (try with_reducible rfl)
            try simp only [pts]
            refine wpAnyH_takeL (i := 10) (v := .int .i64 (x.N p).dg) rfl (by kernel_rfl) (by kernel_rfl) (by kernel_rfl) (fun _ _ _ h => h) (Or.inl ⟨by rfl, fun wx hSw => by have hc := (HCX.out _ hSw).dg hp4; go_simp⟩) hS ?_
            try simp only [pts]
            refine wpAnyH_takeL (i := 11) (v := ?_) rfl (by kernel_rfl) (by kernel_rfl) (by kernel_rfl) (fun _ _ _ h => h) (Or.inl ⟨by rfl, fun wx hSw => ?_⟩) hS ?_
            rotate_left
            · have hq := q7; go_simp; (try with_reducible rfl)
            try simp only [pts]
            refine wpAnyH_takeL (i := 12) (v := ?_) rfl (by kernel_rfl) (by kernel_rfl) (by kernel_rfl) (fun _ _ _ h => h) (Or.inl ⟨by rfl, fun wx hSw => ?_⟩) hS ?_
            rotate_left
            · go_simp; (try with_reducible rfl)
            try simp only [pts]
            refine wpAnyH_takeL (i := 13) (v := ?_) rfl (by kernel_rfl) (by kernel_rfl) (by kernel_rfl) (fun _ _ _ h => h) (Or.inl ⟨by rfl, fun wx hSw => ?_⟩) hS ?_
            rotate_left
            · go_simp; (try with_reducible rfl)
            try simp only [pts]
            refine wpAnyH_takeL (i := 14) (v := ?_) rfl (by kernel_rfl) (by kernel_rfl) (by kernel_rfl) (fun _ _ _ h => h) (Or.inl ⟨by rfl, fun wx hSw => ?_⟩) hS ?_
            rotate_left
            · go_simp; (try with_reducible rfl)
            try simp only [pts]
            refine wpAnyH_takeL (i := 15) (v := ?_) rfl (by kernel_rfl) (by kernel_rfl) (by kernel_rfl) (fun _ _ _ h => h) (Or.inl ⟨by rfl, fun wx hSw => ?_⟩) hS ?_
            rotate_left
            · go_simp; (try with_reducible rfl)
            try simp only [pts]
            refine wpAnyH_takeL (i := 16) (v := ?_) rfl (by kernel_rfl) (by kernel_rfl) (by kernel_rfl) (fun _ _ _ h => h) (Or.inl ⟨by rfl, fun wx hSw => ?_⟩) hS ?_
            rotate_left
            · go_simp; (try with_reducible rfl)
            try simp only [pts]
            refine wpAnyH_takeL (i := 17) (v := ?_) rfl (by kernel_rfl) (by kernel_rfl) (by kernel_rfl) (fun _ _ _ h => h) (Or.inl ⟨by rfl, fun wx hSw => ?_⟩) hS ?_
            rotate_left
            · go_simp; (try with_reducible rfl)
            try simp only [pts]
            refine wpAnyH_takeL (i := 18) (v := .agg (rollC (x.N p).ro)) rfl (by kernel_rfl) (by kernel_rfl) (by kernel_rfl) (fun _ _ _ h => h) (Or.inl ⟨by rfl, fun wx hSw => exec_load_mid 38 (.tmp 69) rfl g (1 + p * 74 + 27) rfl (rollC (x.N p).ro).toList _ ((HCX.out _ hSw).roR hp4) Try.underlying38 rfl infoRo⟩) hS ?_
            try simp only [pts]
            refine wpAnyH_one (i := 19) rfl (by kernel_rfl) (fun K hK => ?_)
            go_simp
            (with_reducible refine (KG.out _).mono ?_)
            rintro e w7 ⟨gb, rfl, hgb, hB7⟩
            obtain rfl : gb = true := hgb.2 HG.out.1
            clear hgb
            have hS7 := hS.trans (hB7.mono hS.size)
            clear hS
            have hS := hS7
            refine hK.out _ _ hS ?_
            clear hK K
            try simp only [pts]
            refine wpAnyH_takeL (i := 20) (v := ?_) rfl (by kernel_rfl) (by kernel_rfl) (by kernel_rfl) (fun _ _ _ h => h) (Or.inl ⟨by rfl, fun wx hSw => ?_⟩) hS ?_
            rotate_left
            · go_simp; (try with_reducible rfl)
            try simp only [pts]
            refine wpAnyH_takeL (i := 21) (v := ?_) rfl (by kernel_rfl) (by kernel_rfl) (by kernel_rfl) (fun _ _ _ h => h) (Or.inl ⟨by rfl, fun wx hSw => ?_⟩) hS ?_
            rotate_left
            · go_simp; (try with_reducible rfl)
            try simp only [pts]
            refine wpAnyH_done (by kernel_rfl) ?_ _
            have HS7 := Lib.hid (HB6.out.trans (hS.mono HB6.out.size))
            clear hS hS7 HN6 KG HCX q7
            go_upto_region 16 with (first | go_big_skip)
            go_loopw [14] (fun sv wt => ∃ s : Nat, sv = .int .i64 s ∧ s ≤ 4 ∧ Below w5.heap.size w5 wt) (fun sv _ => 4 - (intOf sv).toNat)
            case atStart => exact ⟨0, rfl, Nat.zero_le _, HS7.out⟩
            case round =>
              obtain ⟨s, rfl, hs, hBs⟩ := hrel
              have HBs := Lib.hid hBs
              clear hBs
              by_cases hs4 : s < 4
              · have q2 : (s : Int) < 4 := by omega
                have qs : (0 : Int) ≤ (s : Int) := by omega
                by_cases hsb : (s : Int) = bad
                · have q4 : ((s : Int) == bad) = true := by simpa using hsb
                  have q5 : ((s : Int) != bad) = false := by simpa using hsb
                  go_wp2_with (first | go_big_skip)
                  go_roundw
                  case rel => exact ⟨s + 1, by go_num, by omega, HBs.out⟩
                  case measure => simp [intOf]; omega
                · have q4 : ((s : Int) == bad) = false := by simpa using hsb
                  have q5 : ((s : Int) != bad) = true := by simpa using hsb
                  have hi := (HC5.out _ HBs.out).inn hp4 hs4
                  rw [(HG.out.2 s hs4 hsb).1] at hi
                  have hm := (HC5.out _ HBs.out).miss hp4 hs4
                  rw [(HG.out.2 s hs4 hsb).2] at hm
                  go_wp2_with fail
                  go_roundw
                  case rel => exact ⟨s + 1, by go_num, by omega, HBs.out⟩
                  case measure => simp [intOf]; omega
              · have q2 : decide ((s : Int) < 4) = false := by rw [decide_eq_false_iff_not]; omega
                go_wp2_with fail
                go_roundw
                case rel => exact ⟨p + 1, by go_num, by omega, HBs.out⟩
                case measure => simp [intOf]; omega
        · have q1 : decide ((p : Int) < 4) = false := by rw [decide_eq_false_iff_not]; omega
          have hro := HRO5.out _ HBp.out
          rw [repsN_four hb1 hb2] at hro
          by_cases hb0 : bad < 0
          · rw [if_pos hb0] at hro
            have q6 : decide (0 ≤ bad) = false := by rw [decide_eq_false_iff_not]; omega
            go_wp2_with (first | go_big_skip)
            go_roundw
            case rel => exact ⟨k + 1, by go_num, by omega, HB5.out.trans (HBp.out.mono HB5.out.size)⟩
            case measure => simp [intOf]; omega
          · rw [if_neg hb0] at hro
            have q6 : decide (bad < 0) = false := by rw [decide_eq_false_iff_not]; exact hb0
            go_wp2_with (first | go_big_skip)
            go_roundw
            case rel => exact ⟨k + 1, by go_num, by omega, HB5.out.trans (HBp.out.mono HB5.out.size)⟩
            case measure => simp [intOf]; omega
    · have q0 : decide ((k : Int) < (i : Int)) = false := by rw [decide_eq_false_iff_not]; omega
      have HBk := Lib.hid hB
      clear hB
      go_wp2_with fail
      go_ret
      exact ⟨rfl, HBW.out.trans (HBk.out.mono HBW.out.size)⟩
end Go.Proofs.Ytofeoeknmlkjgaa.Nk
namespace Go.Proofs.Ytofeoeknmlkjgaa.lawTopIn
open Go.RowKit Go.Proofs.Ytofeoeknmlkjgaa Nk Fi Go.ChangeShapes Go.WideShapes
set_option maxRecDepth 100000 in
theorem walk {H : Type} {enc : TypeId × Value → H} {d0 d1 d2 : DataW H} {p0 p1 p2 : List MemPlace} (v0 v1 v2 : Value) (W : World) (base : Nat)
    (h0 : Value.okWide Try.prog W .any base 23 v0) (k0 : DataW.Trod enc Try.prog W 0 (fun _ => true) true 23 v0 d0 p0)
    (h1 : Value.okWide Try.prog W .any base 24 v1) (k1 : DataW.Trod enc Try.prog W 0 (fun _ => true) true 24 v1 d1 p1)
    (h2 : Value.okWide Try.prog W .any base 3 v2) (k2 : DataW.Trod enc Try.prog W 0 (fun _ => true) true 3 v2 d2 p2)
    (s0 : ∀ x ∈ d0.weights Try.prog 23, x ≤ reachBytes) (s1 : ∀ x ∈ d1.weights Try.prog 24, x ≤ reachBytes) (s2 : ∀ x ∈ d2.weights Try.prog 3, x ≤ reachBytes) :
    Calls Try.prog 4 #[v0, v1, v2] W fun e w' => e = .returned (.bool true) ∧ Below W.heap.size W w' := by
  obtain ⟨t, rfl, ht⟩ := tuning_in h0
  obtain ⟨A, n, c, rfl, hnc, hc, _, _⟩ := ok_slice Try.underlying24 h1
  obtain ⟨x2, rfl, _⟩ := ok_int Try.underlying3 h2
  obtain ⟨L, hL, hm⟩ := inputs_in k1 s1
  exact topin_walk t ht A n c L x2 W hL hm
end Go.Proofs.Ytofeoeknmlkjgaa.lawTopIn
end
