/- WTopTrue, over merged texts. -/
import Derived.Test.YtofeoeknmlkjgaaZ48
set_option linter.unusedVariables false
set_option linter.unusedSimpArgs false
section
/- The walk of TopTrue. -/
set_option linter.unusedVariables false
namespace Go.Proofs.Ytofeoeknmlkjgaa.Nk
open Go.RowKit Go.Proofs.Ytofeoeknmlkjgaa Mb Fi Sm

def TpSt (w : World) (t : Tu) (bad : Int) (L : List Inp) (lv av ov : Value) (wr : World) : Prop :=
  ∃ (n : Nat) (A : Option Addr) (c : Nat) (q7 : Nat) (w3 : World), n = min L.length 200 ∧ lv = .slice A n c ∧ wr.ownsRow w.heap.size 51 14 (.slice A n c) n (flatI (oneL bad L n)) ∧ BhRel w3 q7 t bad (oneL bad L n) av ov (.int .i64 n) wr ∧ w.heap.size ≤ w3.heap.size ∧ Below w.heap.size w wr
set_option maxRecDepth 100000 in
set_option maxHeartbeats 4000000 in
theorem toptrue_walk (t : Tu) (ht : t.In) (A : Option Addr) (m c : Nat) (L : List Inp) (b0 : Int) (w : World) (h : IR w A m c L) (hm : m ≤ 17592186044416) :
    Calls Try.prog 3 #[t.val, .slice A m c, .int .i64 b0] w fun e w' => e = .returned (.bool true) ∧ Below w.heap.size w w' := by
  have ks := fun W => tspot_any b0 5 W (by decide) (by decide)
  have KS := Lib.hid ks
  have h0 := Int.emod_nonneg b0 (b := 5) (by decide)
  have h5 := Int.emod_lt_of_pos b0 (b := 5) (by decide)
  have hT0 : TB (w.alloc (.cells #[.int .i64 t.dt, .int .i64 t.q, .int .i64 t.r, .int .i64 t.g] 23)) w.heap.size t := Blk.new _ _ _
  have HT0 := Lib.hid hT0
  have hB0 : Below w.heap.size w (w.alloc (.cells #[.int .i64 t.dt, .int .i64 t.q, .int .i64 t.r, .int .i64 t.g] 23)) := (Below.refl _ _).alloc (Nat.le_refl _) _
  have HI := Lib.hid (h.next hB0)
  have HB0 := Lib.hid hB0
  have HT := Lib.hid ht
  have hlm := h.1
  clear ks hT0 h ht hB0
  unfold Tu.val
  go_enter Try.func3, Try.ntmps3
  go_upto_region 2 with (first
    | (go_at_call 10; (with_reducible refine (KS.out _).mono ?_); rintro e w1 ⟨rfl, rfl⟩))
  obtain ⟨bad, hbd⟩ : ∃ bad, b0 % 5 - 1 = bad := ⟨_, rfl⟩
  rw [hbd]
  have hb1 : -1 ≤ bad := by omega
  have hb2 : bad < 4 := by omega
  have HBD := Lib.hid hbd
  clear hbd h0 h5 KS
  obtain ⟨w1, hw1⟩ : ∃ w1, w.alloc (.cells #[.int .i64 t.dt, .int .i64 t.q, .int .i64 t.r, .int .i64 t.g] 23) = w1 := ⟨_, rfl⟩
  rw [hw1] at HT0 HI HB0 ⊢
  clear hw1
  have KO := Lib.hid (one_any A m c L bad w1 HI.out hm)
  have ka := fun W => alive_any W
  have KA := Lib.hid ka
  clear ka
  go_upto_region 3 with (first
    | (go_at_call 11; (with_reducible refine KO.out.mono ?_); rintro e w2 ⟨v, n, rfl, hn, hO2, hB2⟩; have HN := Lib.hid hn; have HO2 := Lib.hid hO2; have HB2 := Lib.hid hB2; clear hn hO2 hB2))
  obtain ⟨A1, c1, rfl⟩ := own_shape HO2.out
  have hnl : n ≤ L.length := by rw [HN.out]; exact Nat.min_le_left _ _
  have hn2 : n ≤ 200 := by rw [HN.out]; exact Nat.min_le_right _ _
  have hir : IR w2 A1 n c1 (oneL bad L n) := oneL_ir hnl HO2.out (fun u hu => ((HI.out.2.2 u hu).next HB2.out))
  have KB : Hid (Calls Try.prog 12 #[.agg #[.int .i64 t.dt, .int .i64 t.q, .int .i64 t.r, .int .i64 t.g], .slice A1 n c1] w2 _) := behind_any t HT.out bad hb1 hb2 A1 n c1 (oneL bad L n) w2 hir hn2 oneL_bad oneL_400
  obtain ⟨y0, y1, y2, y3⟩ := TB.c (Blk.next HT0.out HB2.out)
  have hll : (oneL bad L n).length = n := hir.1
  have HLL := Lib.hid hll
  have HIR := Lib.hid hir
  clear hir hll
  go_upto_region 4 with (first
    | (go_at_call 12; (with_reducible refine KB.out.mono ?_); rintro e w3 ⟨av, ov, q7, rfl, hR3⟩; have HR3 := Lib.hid hR3; clear hR3))
  clear y0 y1 y2 y3 KB
  go_upto_region 6 with (first
    | (go_at_call 13; (with_reducible refine (KA.out _).mono ?_); rintro e w4 ⟨rfl, hB4⟩; have HB4 := Lib.hid hB4; clear hB4)
    | go_big_skip)
  obtain ⟨i, C, R, bs, hi, hin, hC0, hF, hFr, hG, hCB, hAg, hbs, hAv, hOv, hRv, hB⟩ := HR3.out
  rw [HLL.out] at hi hin
  obtain rfl : i = n := by injection hi with _ h; exact (Int.ofNat.inj h).symm
  obtain ⟨Aa, ca, rfl⟩ := own_shape hAv
  have hVA := VR.own (own_below hAv HB4.out (fun z hz => (hAv.lt z hz).2))
  have HVA := Lib.hid hVA
  have HIR4 := Lib.hid (HIR.out.next (hB.trans (HB4.out.mono hB.size)))
  have HCH := Lib.hid (fun k (hk : k < i) u (hu : (oneL bad L i)[k]? = some u) => chain_at HT.out (by rw [HLL.out]; exact Nat.le_refl _) oneL_bad hC0 (fun k u hk hu => hF k u hk hu) hk hu)
  have HBW := Lib.hid (((HB0.out.trans (HB2.out.mono HB0.out.size)).trans (hB.mono (by have := HB0.out.size; have := HB2.out.size; omega))).trans (HB4.out.mono (by have := HB0.out.size; have := HB2.out.size; have := hB.size; omega)))
  have HFR := Lib.hid hFr
  clear hi hin hC0 hF hFr hG hCB hAg hbs hAv hOv hRv hB hVA HR3 HB4 HB0 HI HT0 HO2 HB2 KO KA HN hnl
  go_upto_region 7 with fail
  go_loopw [35] (fun kv wr => ∃ k : Nat, kv = .int .i64 k ∧ k ≤ i ∧ Below w4.heap.size w4 wr) (fun kv _ => i - (intOf kv).toNat)
  case atStart => exact ⟨0, rfl, Nat.zero_le _, Below.refl _ _⟩
  case round =>
    obtain ⟨k, rfl, hk, hB⟩ := hrel
    by_cases hki : k < i
    · have q0 : (k : Int) < (i : Int) := by omega
      have qq : (0 : Int) ≤ (k : Int) := by omega
      obtain ⟨b, off, rfl, hlt, hra⟩ := clus_at (HVA.out.next hB) hki
      obtain ⟨bi, offi, u, rfl, hlti, hu, hok, hri⟩ := (HIR4.out.next hB).row hki
      obtain ⟨hgi, hcl, hbd, hrd⟩ := HCH.out k hki u hu
      have HRA := Lib.hid hra
      have HRI := Lib.hid hri
      have HONE := Lib.hid ((HFR.out (k + 1) hki).2)
      have HAG := Lib.hid (fun (p s a : Nat) (hp : p < 4) (hpb : ¬ (p : Int) = bad) (hs : s < 4) (hsb : ¬ (s : Int) = bad) (ha : a < 3) => (hgi.agreed hcl hp (by rw [hbd]; exact hpb) hs (by rw [hbd]; exact hsb) ha).trans (by rw [hrd]))
      have HBk := Lib.hid hB
      clear hra hri hgi hcl hbd hrd hu hok hB
      generalize C (k + 1) = x at *
      go_upto_region 9 with (first
        | (refine wpList_load_mid rfl 48 (.tmp 38) rfl b (off + k * 297) rfl (CA x).toList _ HRA.out Try.underlying48 rfl (by rw [Array.length_toList, CA_size]; exact infoCl) ?_; rw [show (CA x).toList.toArray = CA x from Array.toArray_toList ..])
        | (refine wpList_store_at 48 (.tmp 11) (.tmp 39) rfl rfl wr.heap.size _ _ (CA x) rfl rfl (Blk.new _ _ _) (by rw [zeroCl, CA_size, CA_size]) (by rw [CA_size]; exact infoCl) (CA_one HONE.out) ?_; intro w5 hN5 hg5; have HN5 : Hid (CB w5 wr.heap.size x) := hN5; have HG5 := Lib.hid hg5; clear hN5 hg5))
      have hb5 : Below wr.heap.size wr w5 := ((Below.refl wr.heap.size wr).alloc (Nat.le_refl _) _).grown HG5.out (by simp) (fun j hj => by cases hj; exact Nat.le_refl _)
      have HB5 := Lib.hid (HBk.out.trans (hb5.mono HBk.out.size))
      have HRI5 := Lib.hid (fun W (h : Below w5.heap.size w5 W) => below_range h (by have := hb5.size; omega) (below_range hb5 hlti HRI.out))
      have HC5 := Lib.hid (fun W (h : Below w5.heap.size w5 W) => CB.next HN5.out h)
      clear hb5 HBk HRA HRI HG5 HONE hlt
      generalize wr.heap.size = g at *
      go_upto_region 10 with fail
      go_loopw [12] (fun pv wr => ∃ p : Nat, pv = .int .i64 p ∧ p ≤ 4 ∧ Below w5.heap.size w5 wr) (fun pv _ => 4 - (intOf pv).toNat)
      case atStart => exact ⟨0, rfl, Nat.zero_le _, Below.refl _ _⟩
      case round =>
        obtain ⟨p, rfl, hp, hB⟩ := hrel
        by_cases hp4 : p < 4
        · have q1 : (p : Int) < 4 := by omega
          have qp : (0 : Int) ≤ (p : Int) := by omega
          have HBp := Lib.hid hB
          clear hB
          go_upto_region 13 with fail
          go_loopw [13] (fun sv wt => ∃ s : Nat, sv = .int .i64 s ∧ s ≤ 4 ∧ Below w5.heap.size w5 wt) (fun sv _ => 4 - (intOf sv).toNat)
          case atStart => exact ⟨0, rfl, Nat.zero_le _, HBp.out⟩
          case round =>
            obtain ⟨s, rfl, hs, hBs⟩ := hrel
            by_cases hs4 : s < 4
            · have q2 : (s : Int) < 4 := by omega
              have qs : (0 : Int) ≤ (s : Int) := by omega
              have HBs := Lib.hid hBs
              clear hBs
              go_upto_region 15 with fail
              have hS0 := HBs.out.drew
              have HB1 : Hid (Below w5.heap.size w5 wr.drew) := HBs.out.drew
              by_cases hpb : (p : Int) = bad
              · have q3 : ((p : Int) == bad) = true := by simpa using hpb
                refine wp_region_held (S := fun w' => Below w5.heap.size w5 w') (by kernel_rfl) ?_
                have hS := hS0
                refine wpAnyH_takeL (i := 0) (v := ?_) rfl (by kernel_rfl) (by kernel_rfl) (by kernel_rfl) (fun _ _ _ h => h) (Or.inl ⟨by rfl, fun wx hSw => ?_⟩) hS ?_
                rotate_left
                · go_simp; (try with_reducible rfl)
                try simp only [pts]
                refine wpAnyH_takeL (i := 1) (v := ?_) rfl (by kernel_rfl) (by kernel_rfl) (by kernel_rfl) (fun _ _ _ h => h) (Or.inl ⟨by rfl, fun wx hSw => ?_⟩) hS ?_
                rotate_left
                · go_simp; (try with_reducible rfl)
                try simp only [pts]
                refine wpAnyH_takeL (i := 2) (v := .bool false) rfl (by kernel_rfl) (by kernel_rfl) (by kernel_rfl) (fun _ _ _ h => h) (Or.inl ⟨by rfl, fun wx hSw => by have hq := q3; go_simp⟩) hS ?_
                try simp only [pts]
                refine wpAnyH_takeL (i := 3) (v := ?_) rfl (by kernel_rfl) (by kernel_rfl) (by kernel_rfl) (fun _ _ _ h => h) (Or.inl ⟨by rfl, fun wx hSw => ?_⟩) hS ?_
                rotate_left
                · go_simp; (try with_reducible rfl)
                try simp only [pts]
                refine wpAnyH_takeL (i := 4) (v := undef) rfl (by kernel_rfl) (by kernel_rfl) (by kernel_rfl) (fun _ _ _ h => h) (Or.inr ⟨by rfl, rfl⟩) hS ?_
                try simp only [pts]
                refine wpAnyH_takeL (i := 5) (v := undef) rfl (by kernel_rfl) (by kernel_rfl) (by kernel_rfl) (fun _ _ _ h => h) (Or.inr ⟨by rfl, rfl⟩) hS ?_
                try simp only [pts]
                refine wpAnyH_takeL (i := 6) (v := undef) rfl (by kernel_rfl) (by kernel_rfl) (by kernel_rfl) (fun _ _ _ h => h) (Or.inr ⟨by rfl, rfl⟩) hS ?_
                try simp only [pts]
                refine wpAnyH_takeL (i := 7) (v := ?_) rfl (by kernel_rfl) (by kernel_rfl) (by kernel_rfl) (fun _ _ _ h => h) (Or.inl ⟨by rfl, fun wx hSw => ?_⟩) hS ?_
                rotate_left
                · go_simp; (try with_reducible rfl)
                try simp only [pts]
                refine wpAnyH_takeL (i := 8) (v := ?_) rfl (by kernel_rfl) (by kernel_rfl) (by kernel_rfl) (fun _ _ _ h => h) (Or.inl ⟨by rfl, fun wx hSw => ?_⟩) hS ?_
                rotate_left
                · go_simp; (try with_reducible rfl)
                try simp only [pts]
                refine wpAnyH_takeL (i := 9) (v := undef) rfl (by kernel_rfl) (by kernel_rfl) (by kernel_rfl) (fun _ _ _ h => h) (Or.inr ⟨by rfl, rfl⟩) hS ?_
                try simp only [pts]
                refine wpAnyH_takeL (i := 10) (v := undef) rfl (by kernel_rfl) (by kernel_rfl) (by kernel_rfl) (fun _ _ _ h => h) (Or.inr ⟨by rfl, rfl⟩) hS ?_
                try simp only [pts]
                refine wpAnyH_takeL (i := 11) (v := undef) rfl (by kernel_rfl) (by kernel_rfl) (by kernel_rfl) (fun _ _ _ h => h) (Or.inr ⟨by rfl, rfl⟩) hS ?_
                try simp only [pts]
                refine wpAnyH_takeL (i := 12) (v := undef) rfl (by kernel_rfl) (by kernel_rfl) (by kernel_rfl) (fun _ _ _ h => h) (Or.inr ⟨by rfl, rfl⟩) hS ?_
                try simp only [pts]
                refine wpAnyH_takeL (i := 13) (v := undef) rfl (by kernel_rfl) (by kernel_rfl) (by kernel_rfl) (fun _ _ _ h => h) (Or.inr ⟨by rfl, rfl⟩) hS ?_
                try simp only [pts]
                refine wpAnyH_takeL (i := 14) (v := undef) rfl (by kernel_rfl) (by kernel_rfl) (by kernel_rfl) (fun _ _ _ h => h) (Or.inr ⟨by rfl, rfl⟩) hS ?_
                try simp only [pts]
                refine wpAnyH_takeL (i := 15) (v := undef) rfl (by kernel_rfl) (by kernel_rfl) (by kernel_rfl) (fun _ _ _ h => h) (Or.inr ⟨by rfl, rfl⟩) hS ?_
                try simp only [pts]
                refine wpAnyH_takeL (i := 16) (v := undef) rfl (by kernel_rfl) (by kernel_rfl) (by kernel_rfl) (fun _ _ _ h => h) (Or.inr ⟨by rfl, rfl⟩) hS ?_
                try simp only [pts]
                refine wpAnyH_takeL (i := 17) (v := undef) rfl (by kernel_rfl) (by kernel_rfl) (by kernel_rfl) (fun _ _ _ h => h) (Or.inr ⟨by rfl, rfl⟩) hS ?_
                try simp only [pts]
                refine wpAnyH_takeL (i := 18) (v := undef) rfl (by kernel_rfl) (by kernel_rfl) (by kernel_rfl) (fun _ _ _ h => h) (Or.inr ⟨by rfl, rfl⟩) hS ?_
                try simp only [pts]
                refine wpAnyH_takeL (i := 19) (v := undef) rfl (by kernel_rfl) (by kernel_rfl) (by kernel_rfl) (fun _ _ _ h => h) (Or.inr ⟨by rfl, rfl⟩) hS ?_
                try simp only [pts]
                refine wpAnyH_takeL (i := 20) (v := undef) rfl (by kernel_rfl) (by kernel_rfl) (by kernel_rfl) (fun _ _ _ h => h) (Or.inr ⟨by rfl, rfl⟩) hS ?_
                try simp only [pts]
                refine wpAnyH_takeL (i := 21) (v := undef) rfl (by kernel_rfl) (by kernel_rfl) (by kernel_rfl) (fun _ _ _ h => h) (Or.inr ⟨by rfl, rfl⟩) hS ?_
                try simp only [pts]
                refine wpAnyH_takeL (i := 22) (v := undef) rfl (by kernel_rfl) (by kernel_rfl) (by kernel_rfl) (fun _ _ _ h => h) (Or.inr ⟨by rfl, rfl⟩) hS ?_
                try simp only [pts]
                refine wpAnyH_takeL (i := 23) (v := undef) rfl (by kernel_rfl) (by kernel_rfl) (by kernel_rfl) (fun _ _ _ h => h) (Or.inr ⟨by rfl, rfl⟩) hS ?_
                try simp only [pts]
                refine wpAnyH_takeL (i := 24) (v := ?_) rfl (by kernel_rfl) (by kernel_rfl) (by kernel_rfl) (fun _ _ _ h => h) (Or.inl ⟨by rfl, fun wx hSw => ?_⟩) hS ?_
                rotate_left
                · go_simp; (try with_reducible rfl)
                try simp only [pts]
                refine wpAnyH_done (by kernel_rfl) ?_ _
                go_wp2_with fail
                go_roundw
                case rel => exact ⟨s + 1, by go_num, by omega, HB1.out⟩
                case measure => simp [intOf]; omega
              · have q3 : ((p : Int) == bad) = false := by simpa using hpb
                by_cases hsb : (s : Int) = bad
                · have q4 : ((s : Int) == bad) = true := by simpa using hsb
                  refine wp_region_held (S := fun w' => Below w5.heap.size w5 w') (by kernel_rfl) ?_
                  have hS := hS0
                  refine wpAnyH_takeL (i := 0) (v := ?_) rfl (by kernel_rfl) (by kernel_rfl) (by kernel_rfl) (fun _ _ _ h => h) (Or.inl ⟨by rfl, fun wx hSw => ?_⟩) hS ?_
                  rotate_left
                  · go_simp; (try with_reducible rfl)
                  try simp only [pts]
                  refine wpAnyH_takeL (i := 1) (v := ?_) rfl (by kernel_rfl) (by kernel_rfl) (by kernel_rfl) (fun _ _ _ h => h) (Or.inl ⟨by rfl, fun wx hSw => ?_⟩) hS ?_
                  rotate_left
                  · go_simp; (try with_reducible rfl)
                  try simp only [pts]
                  refine wpAnyH_takeL (i := 2) (v := .bool true) rfl (by kernel_rfl) (by kernel_rfl) (by kernel_rfl) (fun _ _ _ h => h) (Or.inl ⟨by rfl, fun wx hSw => by have hq := q3; go_simp⟩) hS ?_
                  try simp only [pts]
                  refine wpAnyH_takeL (i := 3) (v := ?_) rfl (by kernel_rfl) (by kernel_rfl) (by kernel_rfl) (fun _ _ _ h => h) (Or.inl ⟨by rfl, fun wx hSw => ?_⟩) hS ?_
                  rotate_left
                  · go_simp; (try with_reducible rfl)
                  try simp only [pts]
                  refine wpAnyH_takeL (i := 4) (v := ?_) rfl (by kernel_rfl) (by kernel_rfl) (by kernel_rfl) (fun _ _ _ h => h) (Or.inl ⟨by rfl, fun wx hSw => ?_⟩) hS ?_
                  rotate_left
                  · go_simp; (try with_reducible rfl)
                  try simp only [pts]
                  refine wpAnyH_takeL (i := 5) (v := ?_) rfl (by kernel_rfl) (by kernel_rfl) (by kernel_rfl) (fun _ _ _ h => h) (Or.inl ⟨by rfl, fun wx hSw => ?_⟩) hS ?_
                  rotate_left
                  · go_simp; (try with_reducible rfl)
                  try simp only [pts]
                  refine wpAnyH_takeL (i := 6) (v := .bool false) rfl (by kernel_rfl) (by kernel_rfl) (by kernel_rfl) (fun _ _ _ h => h) (Or.inl ⟨by rfl, fun wx hSw => by have hq := q4; go_simp⟩) hS ?_
                  try simp only [pts]
                  refine wpAnyH_takeL (i := 7) (v := ?_) rfl (by kernel_rfl) (by kernel_rfl) (by kernel_rfl) (fun _ _ _ h => h) (Or.inl ⟨by rfl, fun wx hSw => ?_⟩) hS ?_
                  rotate_left
                  · go_simp; (try with_reducible rfl)
                  try simp only [pts]
                  refine wpAnyH_takeL (i := 8) (v := ?_) rfl (by kernel_rfl) (by kernel_rfl) (by kernel_rfl) (fun _ _ _ h => h) (Or.inl ⟨by rfl, fun wx hSw => ?_⟩) hS ?_
                  rotate_left
                  · go_simp; (try with_reducible rfl)
                  try simp only [pts]
                  refine wpAnyH_takeL (i := 9) (v := undef) rfl (by kernel_rfl) (by kernel_rfl) (by kernel_rfl) (fun _ _ _ h => h) (Or.inr ⟨by rfl, rfl⟩) hS ?_
                  try simp only [pts]
                  refine wpAnyH_takeL (i := 10) (v := undef) rfl (by kernel_rfl) (by kernel_rfl) (by kernel_rfl) (fun _ _ _ h => h) (Or.inr ⟨by rfl, rfl⟩) hS ?_
                  try simp only [pts]
                  refine wpAnyH_takeL (i := 11) (v := undef) rfl (by kernel_rfl) (by kernel_rfl) (by kernel_rfl) (fun _ _ _ h => h) (Or.inr ⟨by rfl, rfl⟩) hS ?_
                  try simp only [pts]
                  refine wpAnyH_takeL (i := 12) (v := undef) rfl (by kernel_rfl) (by kernel_rfl) (by kernel_rfl) (fun _ _ _ h => h) (Or.inr ⟨by rfl, rfl⟩) hS ?_
                  try simp only [pts]
                  refine wpAnyH_takeL (i := 13) (v := undef) rfl (by kernel_rfl) (by kernel_rfl) (by kernel_rfl) (fun _ _ _ h => h) (Or.inr ⟨by rfl, rfl⟩) hS ?_
                  try simp only [pts]
                  refine wpAnyH_takeL (i := 14) (v := undef) rfl (by kernel_rfl) (by kernel_rfl) (by kernel_rfl) (fun _ _ _ h => h) (Or.inr ⟨by rfl, rfl⟩) hS ?_
                  try simp only [pts]
                  refine wpAnyH_takeL (i := 15) (v := undef) rfl (by kernel_rfl) (by kernel_rfl) (by kernel_rfl) (fun _ _ _ h => h) (Or.inr ⟨by rfl, rfl⟩) hS ?_
                  try simp only [pts]
                  refine wpAnyH_takeL (i := 16) (v := undef) rfl (by kernel_rfl) (by kernel_rfl) (by kernel_rfl) (fun _ _ _ h => h) (Or.inr ⟨by rfl, rfl⟩) hS ?_
                  try simp only [pts]
                  refine wpAnyH_takeL (i := 17) (v := undef) rfl (by kernel_rfl) (by kernel_rfl) (by kernel_rfl) (fun _ _ _ h => h) (Or.inr ⟨by rfl, rfl⟩) hS ?_
                  try simp only [pts]
                  refine wpAnyH_takeL (i := 18) (v := undef) rfl (by kernel_rfl) (by kernel_rfl) (by kernel_rfl) (fun _ _ _ h => h) (Or.inr ⟨by rfl, rfl⟩) hS ?_
                  try simp only [pts]
                  refine wpAnyH_takeL (i := 19) (v := undef) rfl (by kernel_rfl) (by kernel_rfl) (by kernel_rfl) (fun _ _ _ h => h) (Or.inr ⟨by rfl, rfl⟩) hS ?_
                  try simp only [pts]
                  refine wpAnyH_takeL (i := 20) (v := undef) rfl (by kernel_rfl) (by kernel_rfl) (by kernel_rfl) (fun _ _ _ h => h) (Or.inr ⟨by rfl, rfl⟩) hS ?_
                  try simp only [pts]
                  refine wpAnyH_takeL (i := 21) (v := undef) rfl (by kernel_rfl) (by kernel_rfl) (by kernel_rfl) (fun _ _ _ h => h) (Or.inr ⟨by rfl, rfl⟩) hS ?_
                  try simp only [pts]
                  refine wpAnyH_takeL (i := 22) (v := undef) rfl (by kernel_rfl) (by kernel_rfl) (by kernel_rfl) (fun _ _ _ h => h) (Or.inr ⟨by rfl, rfl⟩) hS ?_
                  try simp only [pts]
                  refine wpAnyH_takeL (i := 23) (v := undef) rfl (by kernel_rfl) (by kernel_rfl) (by kernel_rfl) (fun _ _ _ h => h) (Or.inr ⟨by rfl, rfl⟩) hS ?_
                  try simp only [pts]
                  refine wpAnyH_takeL (i := 24) (v := ?_) rfl (by kernel_rfl) (by kernel_rfl) (by kernel_rfl) (fun _ _ _ h => h) (Or.inl ⟨by rfl, fun wx hSw => ?_⟩) hS ?_
                  rotate_left
                  · go_simp; (try with_reducible rfl)
                  try simp only [pts]
                  refine wpAnyH_done (by kernel_rfl) ?_ _
                  go_wp2_with fail
                  go_roundw
                  case rel => exact ⟨s + 1, by go_num, by omega, HB1.out⟩
                  case measure => simp [intOf]; omega
                · have q4 : ((s : Int) == bad) = false := by simpa using hsb
                  have HAR := Lib.hid (fun W (h : Below w5.heap.size w5 W) => (show W.rangeAt g (1 + p * 74 + 55 + s * 3) [.int .i64 (u.rd (s * 3)), .int .i64 (u.rd (s * 3 + 1)), .int .i64 (u.rd (s * 3 + 2))] from by have e := (HC5.out W h).agR hp4 hs4; rw [show s * 3 = s * 3 + 0 from rfl, HAG.out p s 0 hp4 hpb hs4 hsb (by omega), HAG.out p s 1 hp4 hpb hs4 hsb (by omega), HAG.out p s 2 hp4 hpb hs4 hsb (by omega)] at e; exact e))
                  refine wp_region_held (S := fun w' => Below w5.heap.size w5 w') (by kernel_rfl) ?_
                  have hS := hS0
                  refine wpAnyH_takeL (i := 0) (v := ?_) rfl (by kernel_rfl) (by kernel_rfl) (by kernel_rfl) (fun _ _ _ h => h) (Or.inl ⟨by rfl, fun wx hSw => ?_⟩) hS ?_
                  rotate_left
                  · go_simp; (try with_reducible rfl)
                  try simp only [pts]
                  refine wpAnyH_takeL (i := 1) (v := ?_) rfl (by kernel_rfl) (by kernel_rfl) (by kernel_rfl) (fun _ _ _ h => h) (Or.inl ⟨by rfl, fun wx hSw => ?_⟩) hS ?_
                  rotate_left
                  · go_simp; (try with_reducible rfl)
                  try simp only [pts]
                  refine wpAnyH_takeL (i := 2) (v := .bool true) rfl (by kernel_rfl) (by kernel_rfl) (by kernel_rfl) (fun _ _ _ h => h) (Or.inl ⟨by rfl, fun wx hSw => by have hq := q3; go_simp⟩) hS ?_
                  try simp only [pts]
                  refine wpAnyH_takeL (i := 3) (v := ?_) rfl (by kernel_rfl) (by kernel_rfl) (by kernel_rfl) (fun _ _ _ h => h) (Or.inl ⟨by rfl, fun wx hSw => ?_⟩) hS ?_
                  rotate_left
                  · go_simp; (try with_reducible rfl)
                  try simp only [pts]
                  refine wpAnyH_takeL (i := 4) (v := ?_) rfl (by kernel_rfl) (by kernel_rfl) (by kernel_rfl) (fun _ _ _ h => h) (Or.inl ⟨by rfl, fun wx hSw => ?_⟩) hS ?_
                  rotate_left
                  · go_simp; (try with_reducible rfl)
                  try simp only [pts]
                  refine wpAnyH_takeL (i := 5) (v := ?_) rfl (by kernel_rfl) (by kernel_rfl) (by kernel_rfl) (fun _ _ _ h => h) (Or.inl ⟨by rfl, fun wx hSw => ?_⟩) hS ?_
                  rotate_left
                  · go_simp; (try with_reducible rfl)
                  try simp only [pts]
                  refine wpAnyH_takeL (i := 6) (v := .bool true) rfl (by kernel_rfl) (by kernel_rfl) (by kernel_rfl) (fun _ _ _ h => h) (Or.inl ⟨by rfl, fun wx hSw => by have hq := q4; go_simp⟩) hS ?_
                  try simp only [pts]
                  refine wpAnyH_takeL (i := 7) (v := ?_) rfl (by kernel_rfl) (by kernel_rfl) (by kernel_rfl) (fun _ _ _ h => h) (Or.inl ⟨by rfl, fun wx hSw => ?_⟩) hS ?_
                  rotate_left
                  · go_simp; (try with_reducible rfl)
                  try simp only [pts]
                  refine wpAnyH_takeL (i := 8) (v := ?_) rfl (by kernel_rfl) (by kernel_rfl) (by kernel_rfl) (fun _ _ _ h => h) (Or.inl ⟨by rfl, fun wx hSw => ?_⟩) hS ?_
                  rotate_left
                  · go_simp; (try with_reducible rfl)
                  try simp only [pts]
                  refine wpAnyH_takeL (i := 9) (v := ?_) rfl (by kernel_rfl) (by kernel_rfl) (by kernel_rfl) (fun _ _ _ h => h) (Or.inl ⟨by rfl, fun wx hSw => ?_⟩) hS ?_
                  rotate_left
                  · go_simp; (try with_reducible rfl)
                  try simp only [pts]
                  refine wpAnyH_takeL (i := 10) (v := ?_) rfl (by kernel_rfl) (by kernel_rfl) (by kernel_rfl) (fun _ _ _ h => h) (Or.inl ⟨by rfl, fun wx hSw => ?_⟩) hS ?_
                  rotate_left
                  · go_simp; (try with_reducible rfl)
                  try simp only [pts]
                  refine wpAnyH_takeL (i := 11) (v := ?_) rfl (by kernel_rfl) (by kernel_rfl) (by kernel_rfl) (fun _ _ _ h => h) (Or.inl ⟨by rfl, fun wx hSw => ?_⟩) hS ?_
                  rotate_left
                  · go_simp; (try with_reducible rfl)
                  try simp only [pts]
                  refine wpAnyH_takeL (i := 12) (v := ?_) rfl (by kernel_rfl) (by kernel_rfl) (by kernel_rfl) (fun _ _ _ h => h) (Or.inl ⟨by rfl, fun wx hSw => ?_⟩) hS ?_
                  rotate_left
                  · go_simp; (try with_reducible rfl)
                  try simp only [pts]
                  refine wpAnyH_takeL (i := 13) (v := ?_) rfl (by kernel_rfl) (by kernel_rfl) (by kernel_rfl) (fun _ _ _ h => h) (Or.inl ⟨by rfl, fun wx hSw => ?_⟩) hS ?_
                  rotate_left
                  · go_simp; (try with_reducible rfl)
                  try simp only [pts]
                  refine wpAnyH_takeL (i := 14) (v := ?_) rfl (by kernel_rfl) (by kernel_rfl) (by kernel_rfl) (fun _ _ _ h => h) (Or.inl ⟨by rfl, fun wx hSw => ?_⟩) hS ?_
                  rotate_left
                  · go_simp; (try with_reducible rfl)
                  try simp only [pts]
                  refine wpAnyH_takeL (i := 15) (v := .agg #[.int .i64 (u.rd (s * 3)), .int .i64 (u.rd (s * 3 + 1)), .int .i64 (u.rd (s * 3 + 2))]) rfl (by kernel_rfl) (by kernel_rfl) (by kernel_rfl) (fun _ _ _ h => h) (Or.inl ⟨by rfl, fun wx hSw => exec_load_mid 39 (.tmp 62) rfl g (1 + p * 74 + 55 + s * 3) rfl [.int .i64 (u.rd (s * 3)), .int .i64 (u.rd (s * 3 + 1)), .int .i64 (u.rd (s * 3 + 2))] _ (HAR.out wx hSw) Try.underlying39 rfl info3⟩) hS ?_
                  try simp only [pts]
                  refine wpAnyH_takeL (i := 16) (v := ?_) rfl (by kernel_rfl) (by kernel_rfl) (by kernel_rfl) (fun _ _ _ h => h) (Or.inl ⟨by rfl, fun wx hSw => ?_⟩) hS ?_
                  rotate_left
                  · go_simp; (try with_reducible rfl)
                  try simp only [pts]
                  refine wpAnyH_takeL (i := 17) (v := ?_) rfl (by kernel_rfl) (by kernel_rfl) (by kernel_rfl) (fun _ _ _ h => h) (Or.inl ⟨by rfl, fun wx hSw => ?_⟩) hS ?_
                  rotate_left
                  · go_simp; (try with_reducible rfl)
                  try simp only [pts]
                  refine wpAnyH_takeL (i := 18) (v := ?_) rfl (by kernel_rfl) (by kernel_rfl) (by kernel_rfl) (fun _ _ _ h => h) (Or.inl ⟨by rfl, fun wx hSw => ?_⟩) hS ?_
                  rotate_left
                  · go_simp; (try with_reducible rfl)
                  try simp only [pts]
                  refine wpAnyH_takeL (i := 19) (v := ?_) rfl (by kernel_rfl) (by kernel_rfl) (by kernel_rfl) (fun _ _ _ h => h) (Or.inl ⟨by rfl, fun wx hSw => ?_⟩) hS ?_
                  rotate_left
                  · go_simp; (try with_reducible rfl)
                  try simp only [pts]
                  refine wpAnyH_takeL (i := 20) (v := ?_) rfl (by kernel_rfl) (by kernel_rfl) (by kernel_rfl) (fun _ _ _ h => h) (Or.inl ⟨by rfl, fun wx hSw => ?_⟩) hS ?_
                  rotate_left
                  · go_simp; (try with_reducible rfl)
                  try simp only [pts]
                  refine wpAnyH_takeL (i := 21) (v := ?_) rfl (by kernel_rfl) (by kernel_rfl) (by kernel_rfl) (fun _ _ _ h => h) (Or.inl ⟨by rfl, fun wx hSw => ?_⟩) hS ?_
                  rotate_left
                  · go_simp; (try with_reducible rfl)
                  try simp only [pts]
                  refine wpAnyH_takeL (i := 22) (v := .agg #[.int .i64 (u.rd (s * 3)), .int .i64 (u.rd (s * 3 + 1)), .int .i64 (u.rd (s * 3 + 2))]) rfl (by kernel_rfl) (by kernel_rfl) (by kernel_rfl) (fun _ _ _ h => h) (Or.inl ⟨by rfl, fun wx hSw => exec_load_mid 39 (.tmp 69) rfl bi (offi + k * 14 + s * 3) rfl [.int .i64 (u.rd (s * 3)), .int .i64 (u.rd (s * 3 + 1)), .int .i64 (u.rd (s * 3 + 2))] _ (inp_rd (HRI5.out wx hSw) hs4) Try.underlying39 rfl info3⟩) hS ?_
                  try simp only [pts]
                  refine wpAnyH_takeL (i := 23) (v := ?_) rfl (by kernel_rfl) (by kernel_rfl) (by kernel_rfl) (fun _ _ _ h => h) (Or.inl ⟨by rfl, fun wx hSw => ?_⟩) hS ?_
                  rotate_left
                  · have hq := eq3 (u.rd (s * 3)) (u.rd (s * 3 + 1)) (u.rd (s * 3 + 2)); go_simp; (try with_reducible rfl)
                  try simp only [pts]
                  refine wpAnyH_takeL (i := 24) (v := ?_) rfl (by kernel_rfl) (by kernel_rfl) (by kernel_rfl) (fun _ _ _ h => h) (Or.inl ⟨by rfl, fun wx hSw => ?_⟩) hS ?_
                  rotate_left
                  · go_simp; (try with_reducible rfl)
                  try simp only [pts]
                  refine wpAnyH_done (by kernel_rfl) ?_ _
                  go_wp2_with fail
                  go_roundw
                  case rel => exact ⟨s + 1, by go_num, by omega, HB1.out⟩
                  case measure => simp [intOf]; omega
            · have q2 : decide ((s : Int) < 4) = false := by rw [decide_eq_false_iff_not]; omega
              have HBs := Lib.hid hBs
              clear hBs
              go_wp2_with fail
              go_roundw
              case rel => exact ⟨p + 1, by go_num, by omega, HBs.out⟩
              case measure => simp [intOf]; omega
        · have q1 : decide ((p : Int) < 4) = false := by rw [decide_eq_false_iff_not]; omega
          have HBp := Lib.hid hB
          clear hB
          go_wp2_with fail
          go_roundw
          case rel => exact ⟨k + 1, by go_num, by omega, HB5.out.trans (HBp.out.mono HB5.out.size)⟩
          case measure => simp [intOf]; omega
    · have q0 : decide ((k : Int) < (i : Int)) = false := by rw [decide_eq_false_iff_not]; omega
      have HBk := Lib.hid hB
      clear hB
      go_wp2_with fail
      go_ret
      exact ⟨rfl, HBW.out.trans (HBk.out.mono HBW.out.size)⟩
end Go.Proofs.Ytofeoeknmlkjgaa.Nk
namespace Go.Proofs.Ytofeoeknmlkjgaa.lawTopTrue
open Go.RowKit Go.Proofs.Ytofeoeknmlkjgaa Nk Fi Go.ChangeShapes Go.WideShapes
set_option maxRecDepth 100000 in
theorem walk {H : Type} {enc : TypeId × Value → H} {d0 d1 d2 : DataW H} {p0 p1 p2 : List MemPlace} (v0 v1 v2 : Value) (W : World) (base : Nat)
    (h0 : Value.okWide Try.prog W .any base 23 v0) (k0 : DataW.Trod enc Try.prog W 0 (fun _ => true) true 23 v0 d0 p0)
    (h1 : Value.okWide Try.prog W .any base 24 v1) (k1 : DataW.Trod enc Try.prog W 0 (fun _ => true) true 24 v1 d1 p1)
    (h2 : Value.okWide Try.prog W .any base 3 v2) (k2 : DataW.Trod enc Try.prog W 0 (fun _ => true) true 3 v2 d2 p2)
    (s0 : ∀ x ∈ d0.weights Try.prog 23, x ≤ reachBytes) (s1 : ∀ x ∈ d1.weights Try.prog 24, x ≤ reachBytes) (s2 : ∀ x ∈ d2.weights Try.prog 3, x ≤ reachBytes) :
    Calls Try.prog 3 #[v0, v1, v2] W fun e w' => e = .returned (.bool true) ∧ Below W.heap.size W w' := by
  obtain ⟨t, rfl, ht⟩ := tuning_in h0
  obtain ⟨A, n, c, rfl, hnc, hc, _, _⟩ := ok_slice Try.underlying24 h1
  obtain ⟨x2, rfl, _⟩ := ok_int Try.underlying3 h2
  obtain ⟨L, hL, hm⟩ := inputs_in k1 s1
  exact toptrue_walk t ht A n c L x2 W hL hm
end Go.Proofs.Ytofeoeknmlkjgaa.lawTopTrue
end
