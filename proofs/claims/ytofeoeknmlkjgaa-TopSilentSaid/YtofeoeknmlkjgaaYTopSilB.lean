/- Over merged: TopSil TopSil2 WTopSilent. -/
import Derived.Test.YtofeoeknmlkjgaaYTopRp
import Derived.Test.YtofeoeknmlkjgaaZ48
set_option linter.unusedVariables false
set_option linter.unusedSimpArgs false
section
namespace Go.Proofs.Ytofeoeknmlkjgaa.Nk
open Go.RowKit Go.Proofs.Ytofeoeknmlkjgaa Mb Fi Sm
theorem flatI_len : ∀ L : List Inp, (flatI L).length = L.length * 14
  | [] => rfl
  | u :: L => by rw [flatI, List.length_append, flatI_len L, IA_len]; simp; omega
end Go.Proofs.Ytofeoeknmlkjgaa.Nk
end
section
/- A computer that sends nothing: the others put it out in the second frame (plain). -/
set_option linter.unusedVariables false
namespace Go.Proofs.Ytofeoeknmlkjgaa.Nk
open Go.RowKit Go.Proofs.Ytofeoeknmlkjgaa Mb Fi Sm

section
variable {X : Fr} {N : Nat → Nd} {b : Nat}
theorem sil_he (hN : Ids X N) (hl : X.Ls = []) (hb : (b : Int) = X.bad) (hb4 : b < 4) {p : Nat} (hp : p < 4) (hpb : ¬ (p : Int) = X.bad) : (N4 X N p).he b = 0 := by
  rw [N4_he hN hp hpb hb4, if_pos hb]
  unfold hBad lieL
  rw [hl]; rfl
theorem sil_JV (hN : Ids X N) (hl : X.Ls = []) (hb : (b : Int) = X.bad) (hb4 : b < 4) {p : Nat} (hp : p < 4) (hpb : ¬ (p : Int) = X.bad) : JV X N p b = 0 := by
  have hne : p ≠ b := by omega
  unfold JV jF
  rw [if_neg (fun h => hne h.symm)]
  obtain ⟨r1, r2, hr, h1, h2, n1, n2, m1, m2, t1, t2⟩ := told_from (judgeH (N4 X N p) (B4 X N p)) b p b hp hb4 hne
  rw [t1, t2, jud_told hN hp hpb h1 (by omega) n1 hb4, jud_told hN hp hpb h2 (by omega) n2 hb4, sil_he hN hl hb hb4 hp hpb, sil_he hN hl hb hb4 h1 (by omega), sil_he hN hl hb hb4 h2 (by omega)]
  exact Ag.maj3 (.inl ⟨rfl, rfl⟩)
end
theorem sil_pre (R : Rl) (A : Nat → Bool) (b : Nat) (hA : ∀ j, j < b → A j = true) (hi : ∀ j, j < b → R.inn j = true) : ∀ k, k ≤ b → ∃ ms, (stepTo R A k).1 = ⟨R.inn, ms, R.join⟩ ∧ ms b = R.miss b
  | 0, _ => ⟨R.miss, rfl, rfl⟩
  | k + 1, hk => by
    obtain ⟨ms, e, hm⟩ := sil_pre R A b hA hi k (by omega)
    unfold stepTo
    rw [e]
    simp only []
    rw [if_pos (hi k (by omega)), hA k (by omega)]
    refine ⟨upd ms k 0, rfl, ?_⟩
    rw [upd_far _ _ (by omega)]; exact hm
theorem sil_post (R : Rl) (A : Nat → Bool) (b : Nat) (hA : ∀ j, b < j → j < 4 → A j = true) (hi : ∀ j, b < j → j < 4 → ∀ k, (stepTo R A k).1.inn j = true) : ∀ d, b + 1 + d ≤ 4 → (stepTo R A (b + 1 + d)).1.inn b = (stepTo R A (b + 1)).1.inn b ∧ (stepTo R A (b + 1 + d)).1.miss b = (stepTo R A (b + 1)).1.miss b
  | 0, _ => ⟨rfl, rfl⟩
  | d + 1, hd => by
    obtain ⟨e1, e2⟩ := sil_post R A b hA hi d (by omega)
    have h := hi (b + 1 + d) (by omega) (by omega) (b + 1 + d)
    have ha := hA (b + 1 + d) (by omega) (by omega)
    rw [show b + 1 + (d + 1) = (b + 1 + d) + 1 by omega]
    conv => lhs; lhs; unfold stepTo
    conv => rhs; lhs; unfold stepTo
    rw [if_pos h, ha]
    simp only []
    refine ⟨?_, ?_⟩
    · rw [← e1]; rfl
    · rw [← e2]
      show (upd _ _ _) b = _
      rw [upd_far _ _ (by omega)]
def SilR (b m : Nat) (R : Rl) : Prop := R.inn b = decide (m < 2) ∧ (m = 0 → R.miss b = 0) ∧ (m = 1 → R.miss b = 1)
theorem sil_step {R : Rl} {A : Nat → Bool} {b m : Nat} (hb4 : b < 4) (hI : Inn (b : Int) R) (hA : ∀ j, j < 4 → j ≠ b → A j = true) (hAb : A b = false) (h : SilR b m R) : SilR b (m + 1) (stepTo R A 4).1 := by
  obtain ⟨ms, e, hm⟩ := sil_pre R A b (fun j hj => hA j (by omega) (by omega)) (fun j hj => (hI.2 j (by omega) (by omega)).1) b (Nat.le_refl _)
  have hp := sil_post R A b (fun j hj hj4 => hA j hj4 (by omega)) (fun j hj hj4 k => (stays R A j (hA j hj4 (by omega)) (hI.2 j hj4 (by omega)).1 (hI.2 j hj4 (by omega)).2 k).1) (3 - b) (by omega)
  rw [show b + 1 + (3 - b) = 4 by omega] at hp
  have hs : (stepTo R A (b + 1)).1.inn b = decide (m + 1 < 2) ∧ (m = 0 → (stepTo R A (b + 1)).1.miss b = 1) := by
    unfold stepTo
    rw [e]
    simp only []
    by_cases hin : R.inn b = true
    · rw [if_pos hin, hAb]
      have hm2 : m < 2 := by have := h.1; rw [hin] at this; simpa using this.symm
      have hc : ∀ ms', cntIn ⟨R.inn, ms', R.join⟩ 4 = 4 := fun ms' => by
        have hi : ∀ j, j < 4 → R.inn j = true := fun j hj => by
          by_cases ej : j = b
          · rw [ej]; exact hin
          · exact (hI.2 j hj (by omega)).1
        simp [cntIn, hi 0 (by omega), hi 1 (by omega), hi 2 (by omega), hi 3 (by omega)]
      unfold stay1
      rw [if_neg (by simp)]
      simp only []
      rw [hc, hm]
      by_cases e0 : m = 0
      · subst e0
        rw [h.2.1 rfl, if_pos (Or.inl (by omega))]
        refine ⟨?_, fun _ => ?_⟩
        · simp only []; rw [hin]; rfl
        · simp only []; rw [upd_same]; rfl
      · have e1 : m = 1 := by omega
        subst e1
        rw [h.2.2 rfl, if_neg (by omega)]
        refine ⟨?_, fun h => by omega⟩
        simp only []; rw [upd_same]; rfl
    · rw [if_neg hin, hAb]
      have hm2 : ¬ m < 2 := fun c => by have := h.1; rw [decide_eq_true c] at this; exact hin this
      unfold wait1
      rw [if_pos rfl]
      refine ⟨?_, fun h => by omega⟩
      simp only []
      rw [decide_eq_false (by omega)]
      simpa using hin
  refine ⟨hp.1.trans hs.1, fun h => by omega, fun h1 => ?_⟩
  exact hp.2.trans (hs.2 (by omega))
theorem GInv.silent {X : Fr} {N N' : Nat → Nd} {b m : Nat} (h : GInv X.bad N) (hr : ∀ i, i < 4 → ClRel X N i (N' i)) (hl : X.Ls = []) (hb : (b : Int) = X.bad) (hb4 : b < 4) {p : Nat} (hp : p < 4) (hpb : ¬ (p : Int) = X.bad) (hd : (N' p).dg ≠ 0) (hs : SilR b m (N p).ro) : SilR b (m + 1) (N' p).ro := by
  have hids : Ids X N := fun p hp hb => h.ids p hp
  have hg := h.good hr hp hpb
  have hv := verd (x := X) (N := N) hids h.tw hp hpb (h.inn p hp hpb)
  rw [hg] at hd ⊢
  rw [hv.2.2.2.1]
  refine sil_step hb4 (by rw [hb]; exact h.inn p hp hpb) (fun j hj hjb => ?_) ?_ hs
  · have hjb' : ¬ (j : Int) = X.bad := by omega
    rw [(JV_agr hids hj).1 hjb' p hp hpb, dg_same hids hj hp hjb' hpb (h.tw j p hj hp hjb' hpb)]
    simp
  · rw [sil_JV hids hl hb hb4 hp hpb]
    rw [hv.2.2.1] at hd
    have : (0 : Int) ≠ (N3 X N p).dg := fun e => hd e.symm
    simpa using this
theorem sil_beg (b : Nat) (hb : b < 4) (t : Tu) {p : Nat} (hp : p < 4) : SilR b 0 ((begC t).N p).ro := by
  have hn : (begC t).N p = begN p t := if_pos hp
  rw [hn]
  exact ⟨(beg_inn b hb).trans (by simp), fun _ => rfl, fun h => by omega⟩
end Go.Proofs.Ytofeoeknmlkjgaa.Nk
end
section
/- Inputs without lies; digests of good computers are alike. -/
set_option linter.unusedVariables false
namespace Go.Proofs.Ytofeoeknmlkjgaa.Nk
open Go.RowKit Go.Proofs.Ytofeoeknmlkjgaa Mb Fi Sm

theorem own_setN {w : World} {base g n cap i sz : Nat} {e : TypeId} {xs : List Value} (h : w.ownsRow base e sz (.slice (some ⟨g, 0, none⟩) n cap) n xs) (u : Value) (hn : 0 < n) :
    (w.setCell ⟨g, i, none⟩ u).ownsRow base e sz (.slice (some ⟨g, 0, none⟩) n cap) n (xs.set i u) := by
  refine ⟨by simpa using h.1, ?_⟩
  rcases h.2 with ⟨h1, _⟩ | ⟨g', cap', cur, hv, hb, hh, hc, hm, hs, ht⟩
  · cases h1
  · injection hv with h1 h2 h3
    injection h1 with h1
    injection h1 with h1
    subst h1 h3
    refine .inr ⟨g, cap, cur.setIfInBounds i u, rfl, hb, (show Blk w g e cur from hh).set_ i u, hc, hm, by simpa using hs, ?_⟩
    rw [← ht, Array.toList_setIfInBounds, List.take_set]
theorem own_blk {w : World} {base n sz c : Nat} {e : TypeId} {A : Option Addr} {xs : List Value} (h : w.ownsRow base e sz (.slice A n c) n xs) (hn : 0 < n) : ∃ g cur, A = some ⟨g, 0, none⟩ ∧ base ≤ g ∧ g < w.heap.size ∧ Blk w g e cur := by
  rcases h.2 with ⟨h1, h2⟩ | ⟨g, cap, cur, h1, hb, hh, _⟩
  · have hl := h.1
    injection h1 with a b c
    omega
  · injection h1 with a b c
    exact ⟨g, cur, a, hb, (h.lt g (by rw [a]; rfl)).2, hh⟩
def nolie (u : Inp) : Inp := ⟨u.bad, u.rd, none, 0, 0, []⟩
def silL (L : List Inp) (j : Nat) : List Inp := (L.take j).map nolie ++ L.drop j
theorem IA_nolie (u : Inp) : (IA u.y).toList.set 13 (.slice none 0 0) = (IA (nolie u).y).toList := by
  rw [← Array.toList_setIfInBounds]
  congr 1
theorem silL_succ (L : List Inp) (j : Nat) (hj : j < L.length) : (flatI (silL L j)).set (j * 14 + 13) (.slice none 0 0) = flatI (silL L (j + 1)) := by
  have e1 : silL L j = (L.take j).map nolie ++ (L[j] :: L.drop (j + 1)) := by unfold silL; rw [List.drop_eq_getElem_cons hj]
  have e2 : silL L (j + 1) = (L.take j).map nolie ++ (nolie L[j] :: L.drop (j + 1)) := by
    unfold silL
    rw [List.take_add_one, List.getElem?_eq_getElem hj, List.map_append, List.append_assoc]; rfl
  rw [e1, e2, flatI_app, flatI_app, List.set_append, if_neg (by rw [flatI_len]; simp; omega)]
  have e3 : j * 14 + 13 - (flatI ((L.take j).map nolie)).length = 13 := by rw [flatI_len]; simp; omega
  rw [e3, flatI, flatI, List.set_append, if_pos (by rw [IA_len]; decide), IA_nolie]
theorem silL_all (L : List Inp) : silL L L.length = L.map nolie := by unfold silL; rw [List.take_length, List.drop_length, List.append_nil]
theorem silL_zero (L : List Inp) : silL L 0 = L := rfl
theorem silL_ir {w' : World} {B n : Nat} {A : Option Addr} {c : Nat} {L : List Inp} (hl : L.length = n) (ho : w'.ownsRow B 51 14 (.slice A n c) n (flatI (L.map nolie))) (hok : ∀ u ∈ L, ∀ k, k < 12 → In64 (u.rd k)) : IR w' A n c (L.map nolie) := by
  refine ⟨by rw [List.length_map, hl], VR.own ho, fun u hu => ?_⟩
  obtain ⟨v, hv, rfl⟩ := List.mem_map.1 hu
  exact ⟨⟨rfl, VR.nil _ _, fun x hx => by cases hx⟩, Nat.le_refl _, hok v hv⟩
theorem nolie_bad {bad : Int} {L : List Inp} (h : ∀ u ∈ L, u.bad = bad) : ∀ u ∈ L.map nolie, u.bad = bad := fun u hu => by
  obtain ⟨v, hv, rfl⟩ := List.mem_map.1 hu
  exact h v hv
theorem nolie_n {L : List Inp} : ∀ u ∈ L.map nolie, u.n ≤ 400 := fun u hu => by
  obtain ⟨v, hv, rfl⟩ := List.mem_map.1 hu
  exact Nat.zero_le _
theorem nolie_Ls {L : List Inp} : ∀ u ∈ L.map nolie, u.Ls = [] := fun u hu => by
  obtain ⟨v, hv, rfl⟩ := List.mem_map.1 hu
  rfl
theorem GInv.dgs {X : Fr} {N N' : Nat → Nd} (h : GInv X.bad N) (hr : ∀ i, i < 4 → ClRel X N i (N' i)) {p q : Nat} (hp : p < 4) (hq : q < 4) (hpb : ¬ (p : Int) = X.bad) (hqb : ¬ (q : Int) = X.bad) : (N' p).dg = (N' q).dg := by
  have hids : Ids X N := fun p hp hb => h.ids p hp
  rw [h.good hr hp hpb, h.good hr hq hqb, (verd (x := X) (N := N) hids h.tw hp hpb (h.inn p hp hpb)).2.2.1, (verd (x := X) (N := N) hids h.tw hq hqb (h.inn q hq hqb)).2.2.1]
  exact dg_same hids hp hq hpb hqb (h.tw p q hp hq hpb hqb)
def SilN (b k : Nat) (N : Nat → Nd) : Prop := ∀ p : Nat, p < 4 → ¬ (p : Int) = (b : Int) → SilR b k (N p).ro
theorem SilN.step {X : Fr} {N N' : Nat → Nd} {b k p0 : Nat} (h : GInv X.bad N) (hr : ∀ i, i < 4 → ClRel X N i (N' i)) (hl : X.Ls = []) (hb : X.bad = (b : Int)) (hb4 : b < 4) (h0 : p0 < 4) (h0b : ¬ (p0 : Int) = (b : Int)) (hd : (N' p0).dg ≠ 0) (hs : SilN b k N) : SilN b (k + 1) N' :=
  fun p hp hpb => h.silent hr hl hb.symm hb4 hp (by rw [hb]; exact hpb) (by rw [h.dgs hr hp h0 (by rw [hb]; exact hpb) (by rw [hb]; exact h0b)]; exact hd) (hs p hp hpb)
theorem rep_in {W : World} {bad : Int} {N : Nat → Nd} {b off c j s : Nat} {rv : Value} (h : RpR W bad N b off c rv) (hj : j < repsN bad 4) (hs : s < 4) : W.cell? ⟨b, off + j * 14 + 10 + s, none⟩ = some (.bool ((N (repP bad 4 j)).ro.inn s)) := by
  rw [Nat.add_assoc (off + j * 14)]
  exact h.cell hj (repC_in _ hs)
theorem info14b : (Try.prog.info? 60).map (·.size) = some 14 := by kernel_rfl
end Go.Proofs.Ytofeoeknmlkjgaa.Nk
end
section
/- The walk of TopSilent. -/
set_option linter.unusedVariables false
namespace Go.Proofs.Ytofeoeknmlkjgaa.Nk
open Go.RowKit Go.Proofs.Ytofeoeknmlkjgaa Mb Fi Sm
set_option maxRecDepth 100000 in
set_option maxHeartbeats 4000000 in
theorem topsilent_walk (t : Tu) (ht : t.In) (A : Option Addr) (m c : Nat) (L : List Inp) (b0 : Int) (w : World) (h : IR w A m c L) (hm : m ≤ 17592186044416) :
    Calls Try.prog 8 #[t.val, .slice A m c, .int .i64 b0] w fun e w' => e = .returned (.bool true) ∧ Below w.heap.size w w' := by
  have ks := fun W => tspot_any b0 4 W (by decide) (by decide)
  have KS := Lib.hid ks
  have h0 := Int.emod_nonneg b0 (b := 4) (by decide)
  have h5 := Int.emod_lt_of_pos b0 (b := 4) (by decide)
  have hT0 : TB (w.alloc (.cells #[.int .i64 t.dt, .int .i64 t.q, .int .i64 t.r, .int .i64 t.g] 23)) w.heap.size t := Blk.new _ _ _
  have HT0 := Lib.hid hT0
  have hB0 : Below w.heap.size w (w.alloc (.cells #[.int .i64 t.dt, .int .i64 t.q, .int .i64 t.r, .int .i64 t.g] 23)) := (Below.refl _ _).alloc (Nat.le_refl _) _
  have HI := Lib.hid (h.next hB0)
  have HB0 := Lib.hid hB0
  have HT := Lib.hid ht
  have hlm := h.1
  clear ks hT0 h ht hB0
  unfold Tu.val
  go_enter Try.func8, Try.ntmps8
  go_upto_region 2 with (first
    | (go_at_call 10; (with_reducible refine (KS.out _).mono ?_); rintro e w1 ⟨rfl, rfl⟩))
  obtain ⟨bad, hbd⟩ : ∃ bad, b0 % 4 = bad := ⟨_, rfl⟩
  rw [hbd]
  have hb1 : -1 ≤ bad := by omega
  have hb2 : bad < 4 := by omega
  have hb0 : 0 ≤ bad := by omega
  have HBD := Lib.hid hbd
  clear hbd h0 h5 KS
  obtain ⟨w1, hw1⟩ : ∃ w1, w.alloc (.cells #[.int .i64 t.dt, .int .i64 t.q, .int .i64 t.r, .int .i64 t.g] 23) = w1 := ⟨_, rfl⟩
  rw [hw1] at HT0 HI HB0 ⊢
  clear hw1
  have ka := fun W => alive_any W
  have KA := Lib.hid ka
  clear ka
  obtain ⟨b4, rfl⟩ : ∃ q : Nat, bad = (q : Int) := ⟨bad.toNat, by omega⟩
  have hb4 : b4 < 4 := by omega
  have KO := Lib.hid (one_any A m c L (b4 : Int) w1 HI.out hm)
  go_upto_region 3 with (first
    | (go_at_call 11; (with_reducible refine KO.out.mono ?_); rintro e w2 ⟨v, n, rfl, hn, hO2, hB2⟩; have HN := Lib.hid hn; have HO2 := Lib.hid hO2; have HB2 := Lib.hid hB2; clear hn hO2 hB2))
  obtain ⟨A1, c1, rfl⟩ := own_shape HO2.out
  have hnl : n ≤ L.length := by rw [HN.out]; exact Nat.min_le_left _ _
  have hn2 : n ≤ 200 := by rw [HN.out]; exact Nat.min_le_right _ _
  have HOK := Lib.hid (fun u (hu : u ∈ oneL (b4 : Int) L n) => ((oneL_ir hnl HO2.out (fun u hu => ((HI.out.2.2 u hu).next HB2.out))).2.2 u hu).2.2)
  have HLEN := Lib.hid ((oneL_ir hnl HO2.out (fun u hu => ((HI.out.2.2 u hu).next HB2.out))).1)
  have HLB := Lib.hid (oneL_bad (bad := (b4 : Int)) (L := L) (n := n))
  obtain ⟨M, hM⟩ : ∃ M, oneL (b4 : Int) L n = M := ⟨_, rfl⟩
  rw [hM] at HOK HLEN HLB HO2
  clear hM
  go_upto_region 4 with fail
  go_loopw [22] (fun jv wr => ∃ j : Nat, jv = .int .i64 j ∧ j ≤ n ∧ wr.ownsRow w1.heap.size 51 14 (.slice A1 n c1) n (flatI (silL M j)) ∧ Below w1.heap.size w1 wr) (fun jv _ => n - (intOf jv).toNat)
  case atStart => exact ⟨0, rfl, Nat.zero_le _, HO2.out, HB2.out⟩
  case round =>
    obtain ⟨j, rfl, hj, hO, hB⟩ := hrel
    by_cases hjn : j < n
    · have q0 : (j : Int) < (n : Int) := by omega
      have qq : (0 : Int) ≤ (j : Int) := by omega
      obtain ⟨g, cur, rfl, hg1, hgl, hblk⟩ := own_blk hO (by omega)
      have hpre := flatI_get (silL M j) j ((silL M j)[j]'(by have := HLEN.out; unfold silL; simp; omega)) 13 (List.getElem?_eq_getElem _) (by decide)
      have k13 := hO.cells (g := g) rfl _ _ hpre
      have ea : (⟨g, 0, none⟩ : Addr).add (j * 14 + 13) = ⟨g, j * 14 + 13, none⟩ := by unfold Addr.add; simp
      rw [ea] at k13
      have f13 := Blk.frozen hblk (j * 14 + 13)
      have hO' := own_setN (i := j * 14 + 13) hO (.slice none 0 0) (by omega)
      rw [silL_succ M j (by rw [HLEN.out]; exact hjn)] at hO'
      have HO' := Lib.hid hO'
      have HB' := Lib.hid (hB.setCell (p := ⟨g, j * 14 + 13, none⟩) hg1 (.slice none 0 0))
      clear hO hB hO' hblk hpre ea
      generalize InD.c _ 13 = v13 at k13
      go_wp2_with fail
      go_roundw
      case rel => exact ⟨j + 1, by go_num, by omega, HO'.out, HB'.out⟩
      case measure => simp [intOf]; omega
    · have q0 : decide ((j : Int) < (n : Int)) = false := by rw [decide_eq_false_iff_not]; omega
      obtain rfl : j = n := by omega
      have HIR := Lib.hid (silL_ir (L := M) HLEN.out (by have e := silL_all M; rw [HLEN.out] at e; rw [← e]; exact hO) HOK.out)
      have HB2' := Lib.hid hB
      clear hO hB HO2 HB2 KO HN
      have KB : Hid (Calls Try.prog 12 #[.agg #[.int .i64 t.dt, .int .i64 t.q, .int .i64 t.r, .int .i64 t.g], .slice A1 j c1] wr _) := behind_any t HT.out (b4 : Int) hb1 hb2 A1 j c1 (M.map nolie) wr HIR.out hn2 (nolie_bad HLB.out) nolie_n
      obtain ⟨y0, y1, y2, y3⟩ := TB.c (Blk.next HT0.out HB2'.out)
      go_upto_region 9 with (first
        | (go_at_call 12; (with_reducible refine KB.out.mono ?_); rintro e w3 ⟨av, ov, q7, rfl, hR3⟩; have HR3 := Lib.hid hR3; clear hR3))
      clear y0 y1 y2 y3 KB
      go_upto_region 11 with (first
        | (go_at_call 13; (with_reducible refine (KA.out _).mono ?_); rintro e w4 ⟨rfl, hB4⟩; have HB4 := Lib.hid hB4; clear hB4)
        | go_big_skip)
      obtain ⟨i, C, R, bs, hi, hin, hC0, hF, hFr, hG, hCB, hAg, hbs, hAv, hOv, hRv, hB⟩ := HR3.out
      have hll : (M.map nolie).length = j := HIR.out.1
      have HLL := Lib.hid hll
      rw [hll] at hi hin
      clear hll
      obtain rfl : i = j := by injection hi with _ h; exact (Int.ofNat.inj h).symm
      obtain ⟨Aa, ca, rfl⟩ := own_shape hAv
      obtain ⟨Ao, co, rfl⟩ := own_shape hOv
      have HVO := Lib.hid (VR.own (own_below hOv HB4.out (fun z hz => (hOv.lt z hz).2)))
      have HRP := Lib.hid (fun k (hk : k < i) => rep_row (own_below (hRv k hk) HB4.out (fun z hz => ((hRv k hk).lt z hz).2)) hb1 hb2)
      have HCH := Lib.hid (fun k (hk : k < i) u (hu : (M.map nolie)[k]? = some u) => chain_at HT.out (by rw [HLL.out]; exact Nat.le_refl _) (nolie_bad HLB.out) hC0 (fun k u hk hu => hF k u hk hu) hk hu)
      have HC0 := Lib.hid (show SilN b4 0 (C 0).N from fun p hp _ => by rw [hC0]; exact sil_beg b4 hb4 t hp)
      have HBW := Lib.hid (((HB0.out.trans (HB2'.out.mono HB0.out.size)).trans (hB.mono (by have := HB0.out.size; have := HB2'.out.size; omega))).trans (HB4.out.mono (by have := HB0.out.size; have := HB2'.out.size; have := hB.size; omega)))
      clear hi hin hC0 hF hFr hG hCB hAg hbs hAv hOv hRv hB HR3 HB4 HB0 HI HT0 KA hnl HB2'
      go_upto_region 13 with fail
      go_loopw [11, 45] (fun rv kv wr => ∃ k : Nat, rv = .int .i64 k ∧ kv = .int .i64 k ∧ k ≤ i ∧ SilN b4 k (C k).N ∧ Below w4.heap.size w4 wr) (fun _ kv _ => i - (intOf kv).toNat)
      case atStart => exact ⟨0, rfl, rfl, Nat.zero_le _, HC0.out, Below.refl _ _⟩
      case round =>
        obtain ⟨k, rfl, rfl, hk, hS, hB⟩ := hrel
        have HBk := Lib.hid hB
        have HSk := Lib.hid hS
        clear hB hS
        by_cases hki : k < i
        · have q0 : (k : Int) < (i : Int) := by omega
          have qq : (0 : Int) ≤ (k : Int) := by omega
          obtain ⟨bo, oo, rfl, hlto, hro⟩ := reps_row HVO.out hki
          obtain ⟨br, or_, cr, hrp⟩ := HRP.out k hki
          have hrr := hrp.1
          have hku : k < (M.map nolie).length := by rw [HLL.out]; exact hki
          obtain ⟨hgi, hcl, hbd, hrd⟩ := HCH.out k hki _ (List.getElem?_eq_getElem hku)
          have hLs : (FX (C k) ((M.map nolie)[k]).y ((M.map nolie)[k]).Ls).Ls = [] := by
            show List.map Li.ly ((M.map nolie)[k]).Ls = []
            rw [nolie_Ls _ (List.getElem_mem hku)]; rfl
          have h3 : repsN (b4 : Int) 4 = 3 := by rw [repsN_four hb1 hb2, if_neg (by omega)]
          obtain ⟨hp0, hp0b, _⟩ := reps_at (b4 : Int) (C (k + 1)).N 4 0 (by rw [h3]; decide)
          have HST := Lib.hid (fun (hd : ((C (k + 1)).N (repP (b4 : Int) 4 0)).dg ≠ 0) => SilN.step hgi hcl hLs hbd hb4 hp0 hp0b hd HSk.out)
          rw [hrr, h3] at hro
          have HRO := Lib.hid (fun W (h : Below w4.heap.size w4 W) => (show W.cell? ⟨bo, oo + k, none⟩ = _ from (h.cell (p := ⟨bo, oo + k, none⟩) hlto).trans hro))
          have HRR := Lib.hid (fun W (h : Below w4.heap.size w4 W) => hrp.next h)
          have c8 := (HRR.out _ HBk.out).cell (j := 0) (f := 8) (by rw [h3]; decide) rfl
          rw [show or_ + 0 * 14 + 8 = or_ + 8 by omega] at c8
          have hro1 := HRO.out _ HBk.out
          clear hgi hcl hbd hrd hrr hrp hLs hro
          have HH3 := Lib.hid h3
          clear h3
          generalize ((C (k + 1)).N (repP (b4 : Int) 4 0)).dg = dg at *
          by_cases hd0 : dg = 0
          · have q3 : (dg == 0) = true := by simpa using hd0
            go_wp2_with fail
            go_ret
            exact ⟨rfl, HBW.out.trans (HBk.out.mono HBW.out.size)⟩
          · have q3 : (dg == 0) = false := by simpa using hd0
            have HS1 := Lib.hid (HST.out hd0)
            go_upto_region 19 with fail
            go_loopw [63] (fun jv wt => ∃ r : Nat, jv = .int .i64 r ∧ r ≤ 3 ∧ Below w4.heap.size w4 wt) (fun jv _ => 3 - (intOf jv).toNat)
            case atStart => exact ⟨0, rfl, Nat.zero_le _, HBk.out⟩
            case round =>
              obtain ⟨r, rfl, hr, hB⟩ := hrel
              have HBr := Lib.hid hB
              clear hB
              by_cases hr3 : r < 3
              · have q1 : (r : Int) < 3 := by omega
                have qr : (0 : Int) ≤ (r : Int) := by omega
                obtain ⟨hp, hpb, _⟩ := reps_at (b4 : Int) (C (k + 1)).N 4 r (by rw [HH3.out]; exact hr3)
                have hin := (HS1.out _ hp hpb).1
                have hra := (HRR.out _ HBr.out).2.2 r (by rw [HH3.out]; exact hr3)
                have HRA := Lib.hid hra
                have HIN := Lib.hid hin
                clear hra hin hp hpb
                generalize (C (k + 1)).N (repP (b4 : Int) 4 r) = nd at *
                go_upto_region 21 with (first
                  | (refine wpList_load_mid rfl 60 (.tmp 65) rfl br (or_ + r * 14) rfl (repC nd).toList _ HRA.out Try.underlying60 rfl info14b ?_; rw [show (repC nd).toList.toArray = repC nd from Array.toArray_toList ..])
                  | (refine wpList_store_at 60 (.tmp 14) (.tmp 66) rfl rfl wr.heap.size _ _ (repC nd) rfl rfl (Blk.new _ _ _) rfl info14b (repTo_one nd 3) ?_; intro w6 hN6 hg6; have HN6 := Lib.hid hN6; have HG6 := Lib.hid hg6; clear hN6 hg6))
                have hb6 : Below wr.heap.size wr w6 := ((Below.refl wr.heap.size wr).alloc (Nat.le_refl _) _).grown HG6.out (by simp) (fun j hj => by cases hj; exact Nat.le_refl _)
                have HB6 := Lib.hid (HBr.out.trans (hb6.mono HBr.out.size))
                have c10 : w6.cell? ⟨wr.heap.size, 10 + b4, none⟩ = some (.bool (nd.ro.inn b4)) := by have e := Blk.cell HN6.out (10 + b4); rw [e, ← Array.getElem?_toList]; exact repC_in nd hb4
                rw [HIN.out] at c10
                clear hb6 HG6 HN6 HRA
                have qb : (0 : Int) ≤ (b4 : Int) := by omega
                have qb4 : (b4 : Int) < 4 := by omega
                by_cases hk0 : k = 0
                · have q5 : (k : Int) + 1 < 2 := by omega
                  rw [decide_eq_true (show k + 1 < 2 by omega)] at c10
                  clear hk0
                  go_wp2_with fail
                  go_roundw
                  case rel => exact ⟨r + 1, by go_num, by omega, HB6.out⟩
                  case measure => simp [intOf]; omega
                · have q5 : decide ((k : Int) + 1 < 2) = false := by rw [decide_eq_false_iff_not]; omega
                  rw [decide_eq_false (show ¬ k + 1 < 2 by omega)] at c10
                  clear hk0
                  go_wp2_with fail
                  go_roundw
                  case rel => exact ⟨r + 1, by go_num, by omega, HB6.out⟩
                  case measure => simp [intOf]; omega
              · have q1 : decide ((r : Int) < 3) = false := by rw [decide_eq_false_iff_not]; omega
                go_wp2_with fail
                go_roundw
                case rel => exact ⟨k + 1, by go_num, by go_num, by omega, HS1.out, HBr.out⟩
                case measure => simp [intOf]; omega
        · have q0 : decide ((k : Int) < (i : Int)) = false := by rw [decide_eq_false_iff_not]; omega
          go_wp2_with fail
          go_ret
          exact ⟨rfl, HBW.out.trans (HBk.out.mono HBW.out.size)⟩
end Go.Proofs.Ytofeoeknmlkjgaa.Nk
namespace Go.Proofs.Ytofeoeknmlkjgaa.lawTopSilent
open Go.RowKit Go.Proofs.Ytofeoeknmlkjgaa Nk Fi Go.ChangeShapes Go.WideShapes
set_option maxRecDepth 100000 in
theorem walk {H : Type} {enc : TypeId × Value → H} {d0 d1 d2 : DataW H} {p0 p1 p2 : List MemPlace} (v0 v1 v2 : Value) (W : World) (base : Nat)
    (h0 : Value.okWide Try.prog W .any base 23 v0) (k0 : DataW.Trod enc Try.prog W 0 (fun _ => true) true 23 v0 d0 p0)
    (h1 : Value.okWide Try.prog W .any base 24 v1) (k1 : DataW.Trod enc Try.prog W 0 (fun _ => true) true 24 v1 d1 p1)
    (h2 : Value.okWide Try.prog W .any base 3 v2) (k2 : DataW.Trod enc Try.prog W 0 (fun _ => true) true 3 v2 d2 p2)
    (s0 : ∀ x ∈ d0.weights Try.prog 23, x ≤ reachBytes) (s1 : ∀ x ∈ d1.weights Try.prog 24, x ≤ reachBytes) (s2 : ∀ x ∈ d2.weights Try.prog 3, x ≤ reachBytes) :
    Calls Try.prog 8 #[v0, v1, v2] W fun e w' => e = .returned (.bool true) ∧ Below W.heap.size W w' := by
  obtain ⟨t, rfl, ht⟩ := tuning_in h0
  obtain ⟨A, n, c, rfl, hnc, hc, _, _⟩ := ok_slice Try.underlying24 h1
  obtain ⟨x2, rfl, _⟩ := ok_int Try.underlying3 h2
  obtain ⟨L, hL, hm⟩ := inputs_in k1 s1
  exact topsilent_walk t ht A n c L x2 W hL hm
end Go.Proofs.Ytofeoeknmlkjgaa.lawTopSilent
end
