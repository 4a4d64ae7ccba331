/- Merged: NodePass NodeIn ScribI. -/
import Derived.Test.YtofeoeknmlkjgaaZ03
import Derived.Test.YtofeoeknmlkjgaaZ05
import Derived.Test.YtofeoeknmlkjgaaZ08
import Derived.Test.YtofeoeknmlkjgaaZ36
import Derived.Test.YtofeoeknmlkjgaaZ37
import Derived.Test.YtofeoeknmlkjgaaZ38
set_option linter.unusedVariables false
set_option linter.unusedSimpArgs false
section
/- node.Pass. -/
set_option linter.unusedVariables false
namespace Go.Proofs.Ytofeoeknmlkjgaa.Nk
open Go.RowKit Go.Proofs.Ytofeoeknmlkjgaa Mb Fi Sm

def pasTo (n : Nd) (h : Hd) (i : Nat) : Nd := { n with he := fun k => if k < i then (match h k with | some l => l.getD 0 0 | none => n.he k) else n.he k }
def passH (n : Nd) (Ms : List Pm) : Hd := hearF n.id n.fr 3 1 Ms
def passN (n : Nd) (Ms : List Pm) : Nd := pasTo n (passH n Ms) 4
def heL (f : Nat → Int) : List Int := [f 0, f 1, f 2, f 3]
theorem pasTo_zero (n : Nd) (h : Hd) : pasTo n h 0 = n := by unfold pasTo; simp
theorem pasTo_none (n : Nd) (h : Hd) (i : Nat) (hh : h i = none) : pasTo n h (i + 1) = pasTo n h i := by
  unfold pasTo
  congr 1
  funext k
  rcases Nat.lt_trichotomy k i with c | c | c
  · rw [if_pos (by omega), if_pos c]
  · rw [if_pos (by omega), if_neg (by omega), c, hh]
  · rw [if_neg (by omega), if_neg (by omega)]
theorem pasTo_some (n : Nd) (h : Hd) (i : Nat) (l : List Int) (hi : i < 4) (hh : h i = some l) (va : Value) : ∀ j, j < 74 → (pasTo n h (i + 1)).c va j = if j = 51 + i then .int .i64 (l.getD 0 0) else (pasTo n h i).c va j := by
  intro j hj
  by_cases c : j = 51 + i
  · rw [if_pos c, c_he (by omega) (by omega)]
    unfold pasTo
    simp only
    rw [show j - 51 = i by omega, if_pos (by omega), hh]
  · rw [if_neg c]
    by_cases c2 : 51 ≤ j ∧ j < 55
    · rw [c_he c2.1 c2.2, c_he c2.1 c2.2]
      unfold pasTo
      simp only
      rcases Nat.lt_trichotomy (j - 51) i with c3 | c3 | c3
      · rw [if_pos (by omega), if_pos c3]
      · omega
      · rw [if_neg (by omega), if_neg (by omega)]
    · unfold pasTo
      exact (c_he_out n _ va j (by omega)).trans (c_he_out n _ va j (by omega)).symm
def PsRel (w w4 : World) (n : Nd) (va : Value) (h : Hd) (iv : Value) (wr : World) : Prop :=
  ∃ i : Nat, iv = .int .i64 i ∧ i ≤ 4 ∧ NB wr w.heap.size (pasTo n h i) va ∧ w4.grownBy wr (some w.heap.size)
theorem heI {w : World} {g : Nat} {n : Nd} {va : Value} (h : NB w g n va) (B : Nat) (hB : B ≤ g) : OwnI w B (some ⟨g, 51, none⟩) 4 4 (heL n.he) := by
  refine ⟨⟨rfl, fun _ => ⟨g, 51, rfl, Blk.lt h, fun j hj => ?_⟩⟩, (fun e => by cases e), Nat.le_refl _, fun ad e => ?_⟩
  · rw [h.he hj]
    match j, hj with
    | 0, _ => rfl
    | 1, _ => rfl
    | 2, _ => rfl
    | 3, _ => rfl
  · cases e
    exact ⟨rfl, hB, Blk.lt h, h.thereR (by show 51 + 4 ≤ 74; omega), .inl rfl, _, _, h, by decide⟩

set_option maxRecDepth 100000 in
set_option maxHeartbeats 8000000 in
theorem Pass_any (n : Nd) (A : Option Addr) (m c : Nat) (bs : List Value) (Am : Option Addr) (mm cm : Nat) (Ms : List Mg) (h0 : 0 ≤ n.id) (h4 : n.id < 4) (w : World) (hb : VR w 1 A m c bs) (h1 : ∀ u ∈ bs, u.oneCell' = true) (hm : m ≤ 140737488355328) (hM : MR w Am mm cm Ms) (hmm : mm ≤ 17592186044416) :
    Calls Try.prog 19 #[.agg (NA n (.slice A m c)), .slice Am mm cm] w (PhPost (passN n (Ms.map Mg.pm)) bs 2 n.id n.fr (heL (passN n (Ms.map Mg.pm)).he) w) := by
  obtain rfl : m = bs.length := by have := hb.1; omega
  have HVB := Lib.hid hb
  have H1 := Lib.hid h1
  have HMR := Lib.hid hM
  clear hb h1 hM
  --PRE Pass 8 4
  go_enter Try.func19, Try.ntmps19
  go_upto_region 1 with fail
  have hN : NB (((w.alloc (.cells (NA n (.slice A bs.length c)) 45)).alloc (.cells Try.zeroCells45 45)).alloc (.cells #[.int .i64 0, .int .i64 0, .int .i64 0, .slice none 0 0] 64)) w.heap.size n (.slice A bs.length c) := ((Blk.new _ _ _).alloc _).alloc _
  have hZ : Blk (((w.alloc (.cells (NA n (.slice A bs.length c)) 45)).alloc (.cells Try.zeroCells45 45)).alloc (.cells #[.int .i64 0, .int .i64 0, .int .i64 0, .slice none 0 0] 64)) (w.heap.size + 1) 45 Try.zeroCells45 := (Blk.at_ _ _ _ _ (by simp)).alloc _
  have hM : Blk (((w.alloc (.cells (NA n (.slice A bs.length c)) 45)).alloc (.cells Try.zeroCells45 45)).alloc (.cells #[.int .i64 0, .int .i64 0, .int .i64 0, .slice none 0 0] 64)) (w.heap.size + 1 + 1) 64 #[.int .i64 0, .int .i64 0, .int .i64 0, .slice none 0 0] := Blk.at_ _ _ _ _ (by simp)
  have hB : Below w.heap.size w (((w.alloc (.cells (NA n (.slice A bs.length c)) 45)).alloc (.cells Try.zeroCells45 45)).alloc (.cells #[.int .i64 0, .int .i64 0, .int .i64 0, .slice none 0 0] 64)) := (((Below.refl _ _).alloc (Nat.le_refl _) _).alloc (by simp) _).alloc (by simp; omega) _
  have hzs : (Try.zeroCells45).size = 74 := by kernel_rfl
  generalize Try.zeroCells45 = zc at *
  generalize ((w.alloc (.cells (NA n (.slice A bs.length c)) 45)).alloc (.cells zc 45)).alloc (.cells #[.int .i64 0, .int .i64 0, .int .i64 0, .slice none 0 0] 64) = W0 at *
  have hW0 : w.heap.size + 1 + 1 < W0.heap.size := hM.lt
  have HZS := Lib.hid hzs
  have HN := Lib.hid hN
  have HZ := Lib.hid hZ
  have HM := Lib.hid hM
  have HB := Lib.hid hB
  have KC := Lib.hid (copied_any n A bs.length c bs W0 (HVB.out.next hB) H1.out hm)
  unfold CopyPost at KC
  clear hN hZ hM hB hzs
  go_upto_region 4 with (first
    | (refine wpList_load_at 45 (.tmp 2) rfl rfl w.heap.size rfl _ (NA n (.slice A bs.length c)) _ HN.out Try.underlying45 rfl (by rw [NA_size]; exact infoNode) ?_)
    | (go_at_call 35; (with_reducible refine KC.out.mono ?_); rintro e w1 ⟨A', c', rfl, hO1, hB1⟩; have hw1 : W0.heap.size ≤ w1.heap.size := hB1.size; have HN1 := Lib.hid (NB.next HN.out hB1); have HZ1 := Lib.hid (HZ.out.next hB1); have HM1 := Lib.hid (HM.out.next hB1); have HB1 := Lib.hid (HB.out.trans (hB1.mono HB.out.size)); have HO1 := Lib.hid hO1; clear hO1 hB1)
    | (refine wpList_store_at 45 (.tmp 2) (.tmp 9) rfl rfl w.heap.size _ _ (NA n (.slice A' bs.length c')) rfl rfl HN1.out (by rw [NA_size, NA_size]) (by rw [NA_size]; exact infoNode) (NA_one _ _ _ _) ?_; intro w2 hN2 hg2; have HN2 := Lib.hid hN2; have HG2 := Lib.hid hg2; clear hN2 hg2)
    | (refine wpList_load_at 45 (.tmp 2) rfl rfl w.heap.size rfl _ (NA n (.slice A' bs.length c')) _ HN2.out Try.underlying45 rfl (by rw [NA_size]; exact infoNode) ?_)
    | (go_at_call 36; (with_reducible refine (strange_no n (.slice A' bs.length c') w2 h0 h4).mono ?_); rintro e w3 ⟨rfl, hb3⟩; have HN3 := Lib.hid (NB.next HN2.out hb3); have HBs := Lib.hid hb3; clear hb3))
  have HZ3 := Lib.hid ((HZ1.out.grown HG2.out (by intro e; have := Option.some.inj e; omega)).next HBs.out)
  have HM3 := Lib.hid ((HM1.out.grown HG2.out (by intro e; have := Option.some.inj e; omega)).next HBs.out)
  have HO3 := Lib.hid (own_below (own_kept_t HO1.out HG2.out HN1.out (by decide)) HBs.out (fun x hx => ((own_kept_t HO1.out HG2.out HN1.out (by decide)).lt x hx).2))
  have HB3 := Lib.hid ((HB1.out.grown HG2.out HB1.out.size (fun j hj => by cases hj; exact Nat.le_refl _)).trans (HBs.out.mono (by have := HG2.out.size; have := HB1.out.size; omega)))
  have hw3 : W0.heap.size ≤ w3.heap.size := by have := HG2.out.size; have := HBs.out.size; omega
  clear HN HZ HM HB KC HN1 HZ1 HM1 HB1 HO1 HN2 HG2 HBs
  --END
  have HMR3 := Lib.hid (HMR.out.next HB3.out)
  have KH := Lib.hid (hear_any n (.slice A' bs.length c') Am mm cm Ms 3 1 1 rfl (by decide) (by decide) h0 h4 w3 HMR3.out hmm)
  unfold HearPost at KH
  go_wp2_with (first
    | (refine wpList_load_at 45 (.tmp 2) rfl rfl w.heap.size rfl _ (NA n (.slice A' bs.length c')) _ HN3.out Try.underlying45 rfl (by rw [NA_size]; exact infoNode) ?_)
    | (go_at_call 37; (with_reducible refine KH.out.mono ?_); rintro e w4 ⟨sv, rfl, hS4, hb4⟩; have HN4 := Lib.hid (NB.next HN3.out hb4); have HSL := Lib.hid hS4; have HB34 := Lib.hid hb4; clear hS4 hb4))
  obtain ⟨va7, hva⟩ : ∃ v, v = Value.slice A' bs.length c' := ⟨_, rfl⟩
  have HVA := Lib.hid hva
  have HO4 := Lib.hid (own_below HO3.out HB34.out (fun x hx => (HO3.out.lt x hx).2))
  have HZ4 := Lib.hid (HZ3.out.next HB34.out)
  have HM4 := Lib.hid (HM3.out.next HB34.out)
  have HB4 := Lib.hid (HB3.out.trans (HB34.out.mono HB3.out.size))
  have hB3 := HB3.out.size
  clear HN3 HZ3 HM3 HO3 HB3 KH HMR3
  generalize hh : hearF n.id n.fr 3 1 (Ms.map Mg.pm) = h at *
  have HL := Lib.hid (fun i l (e : h i = some l) => hearF_len (id := n.id) (fr := n.fr) (kind := 3) (many := 1) (Ms.map Mg.pm) (fun _ => none) (fun i l e => by cases e) i l (show hearF n.id n.fr 3 1 (Ms.map Mg.pm) i = some l by rw [hh]; exact e))
  have HH := Lib.hid hh
  clear hh hva
  rw [← HVA.out] at HN4
  go_loopw [17] (fun iv wr => PsRel w w4 n va7 h iv wr) (fun iv _ => 4 - (intOf iv).toNat)
  case atStart => exact ⟨0, rfl, by omega, by rw [pasTo_zero]; exact HN4.out, grown_refl _ _⟩
  case round =>
    obtain ⟨i, rfl, hi4, hN, hG⟩ := hrel
    by_cases hi : i < 4
    · have q0 : (i : Int) < 4 := by omega
      have qq : (0 : Int) ≤ (i : Int) := by omega
      have ix := fun W => idx4s sv i hi W
      have hsl := HSL.out.grown hG (by omega)
      have q22 : ∀ (w : World) (a : Option Addr) (n c : Nat), (binOp .neq 58 (.slice a n c) (.slice none 0 0)).run Try.prog w = .ok (.bool (!a.isNone)) w := fun w a n c => run_neq_slice_nil_w w _ _ a n c Try.underlying58
      have k1 := hN.he hi
      have k2 := Blk.frozen hN (51 + i)
      have HN := Lib.hid hN
      have HG := Lib.hid hG
      clear hN hG
      rcases hsl i hi with ⟨h1, h2⟩ | ⟨l, ad, cl, h1, h2, h3, _⟩
      · simp only [h2] at ix
        have H1 := Lib.hid h1
        clear h1 h2 hsl
        go_wp2_with (first | go_big_skip)
        go_roundw
        case rel => exact ⟨i + 1, by go_num, by omega, by rw [pasTo_none _ _ _ H1.out]; exact HN.out, HG.out⟩
        case measure => simp [intOf]; omega
      · simp only [h2] at ix
        have hl3 : l.length = 1 := HL.out i l h1
        rw [hl3] at ix
        obtain ⟨b, off, e, hlt, hc⟩ := h3.2 (by omega)
        have ck := hc 0 (by omega)
        rw [Nat.add_zero] at ck
        injection e with e
        subst e
        have H1 := Lib.hid h1
        have HNS := Lib.hid (NB.set (n' := pasTo n h (i + 1)) HN.out (k := 51 + i) (u := .int .i64 (l.getD 0 0)) (pasTo_some n h i l hi H1.out va7))
        generalize l.getD 0 0 = z at *
        clear h1 h2 h3 hsl hl3 hc
        go_wp2_with (first | go_big_skip)
        go_roundw
        case rel => exact ⟨i + 1, by go_num, by omega, HNS.out, grown_trans HG.out (grown_set _ _ _ _)⟩
        case measure => simp [intOf]; omega
    · obtain rfl : i = 4 := by omega
      have hB3' := HB4.out.grown hG HB4.out.size (fun j hj => by cases hj; exact Nat.le_refl _)
      have HZ7 := Lib.hid (HZ4.out.grown hG (by intro e; have := Option.some.inj e; omega))
      have HM7 := Lib.hid (HM4.out.grown hG (by intro e; have := Option.some.inj e; omega))
      have HO7 := Lib.hid (own_kept_t HO4.out hG HN4.out (by decide))
      have HB7 := Lib.hid hB3'
      have HN7 := Lib.hid hN
      have hdi : pasTo n h 4 = passN n (Ms.map Mg.pm) := by unfold passN passH; rw [HH.out]
      have HDI := Lib.hid hdi
      have hid : (pasTo n h 4).id = n.id := rfl
      have hfr : (pasTo n h 4).fr = n.fr := rfl
      have HID := Lib.hid (And.intro hid hfr)
      clear hN hG hB3' HZ4 HM4 HO4 HB4 HN4 HSL HL HH hdi hid hfr HB34
      generalize pasTo n h 4 = n7 at *
      have hm6 := HM7.out.lt
      have HV7 : Hid ((NA n7 va7).all (·.oneCell') = true) := by rw [HVA.out]; exact NA_one _ _ _ _
      have KS := Lib.hid (fun W => say_any n7 va7 2 (some ⟨w.heap.size, 51, none⟩) 4 4 W)
      rw [HID.out.1, HID.out.2] at KS
      obtain ⟨w7, rfl⟩ : ∃ w7 : World, w7 = wr := ⟨_, rfl⟩
      go_upto_region 10 with fail
      --TAIL n7 || 4 || 30 || 5 || 34 || L;;L;;M;;M;;C:KS.out _@@w8@@⟨rfl, hbb⟩ || #[.int .i64 2, .int .i64 n.id, .int .i64 n.fr, .slice (some ⟨w.heap.size, 51, none⟩) 4 4] || w7
      try simp only [pts]
      have SK := Lib.hid (fun W (h : Below w7.heap.size w7 W) => (NB.next HN7.out h : NB W w.heap.size n7 va7))
      unfold NB at SK
      refine wp_region_F 6 (fun w' => Blk w' w.heap.size 45 (NA n7 va7)) (by kernel_rfl) (SK.out _ (Below.refl _ _).drew) (fun hS => ?_)
      refine wpF 0 (.agg (NA n7 va7)) rfl (by kernel_rfl) (fun _ _ _ h => h) (Or.inl ⟨by rfl, fun wx hSw => exec_load_row 45 (.tmp 2) rfl w.heap.size rfl _ (NA n7 va7) _ hSw Try.underlying45 rfl (by rw [NA_size]; exact infoNode)⟩) hS ?_
      try simp only [pts]
      refine wpF 1 (.agg (NA n7 va7)) rfl (by kernel_rfl) (fun _ _ _ h => h) (Or.inl ⟨by rfl, fun wx hSw => exec_load_row 45 (.tmp 2) rfl w.heap.size rfl _ (NA n7 va7) _ hSw Try.underlying45 rfl (by rw [NA_size]; exact infoNode)⟩) hS ?_
      try simp only [pts]
      refine wpF 2 ?_ rfl (by kernel_rfl) (fun _ _ _ h => h) (Or.inl ⟨by rfl, fun wx hSw => ?_⟩) hS ?_
      rotate_left
      · (try dsimp only at hSw); go_simp; (try with_reducible rfl)
      try simp only [pts]
      refine wpF 3 ?_ rfl (by kernel_rfl) (fun _ _ _ h => h) (Or.inl ⟨by rfl, fun wx hSw => ?_⟩) hS ?_
      rotate_left
      · (try dsimp only at hSw); go_simp; (try with_reducible rfl)
      try simp only [pts]
      refine wpAnyF_one (i := 4) rfl (by kernel_rfl) (fun K hK => ?_)
      go_simp
      (with_reducible refine (KS.out _).mono ?_)
      rintro e w8 ⟨rfl, hbb⟩
      have hb_w8 := (((Below.refl w7.heap.size w7).drew)).trans (hbb.mono (Nat.le_refl _))
      have H_prev := Lib.hid hb_w8
      clear hS
      have hS := SK.out _ hb_w8
      clear hbb hb_w8
      refine hK.out _ _ hS ?_
      clear hK K
      try simp only [pts]
      refine wpAnyF_one (i := 5) rfl (by kernel_rfl) (fun K hK => ?_)
      rw [if_pos (by rfl)]
      refine wp_store_row 45 (.tmp 4) (.tmp 30) rfl (w.heap.size + 1) _ zc (NA n7 va7) rfl rfl (HZ7.out.next H_prev.out) (by rw [NA_size, HZS.out]) (by rw [NA_size]; exact infoNode) HV7.out (fun w9 hN9 hg9 => ?_)
      have hS9 := hS.grown hg9 (by intro e; have := Option.some.inj e; omega)
      refine hK.out _ _ hS9 ?_
      clear hK K hS
      try simp only [pts]
      refine wpAnyF_last rfl (by kernel_rfl) (by kernel_rfl) (fun K hK => ?_)
      rw [if_pos (by rfl)]
      refine wp_store_row 64 (.tmp 5) (.tmp 34) rfl (w.heap.size + 1 + 1) _ _ #[.int .i64 2, .int .i64 n.id, .int .i64 n.fr, .slice (some ⟨w.heap.size, 51, none⟩) 4 4] rfl rfl ((HM7.out.next H_prev.out).grown hg9 (by intro e; have := Option.some.inj e; omega)) rfl (by kernel_rfl) (by simp [Value.oneCell']) (fun w10 hM10 hg10 => ?_)
      refine hK.out _ _ ?_
      clear hK K
      try simp only [pts]
      go_wp2_with fail
      have hN10 := hN9.grown hg10 (by intro e; have := Option.some.inj e; omega)
      --END
      refine bodyPost_ret (results_two Try.results19 _ _ (w.heap.size + 1) (w.heap.size + 1 + 1) _ _ _ _ _ _ rfl rfl hN10 hM10 Try.underlying45 rfl (by rw [NA_size]; exact infoNode) Try.underlying64 rfl (by kernel_rfl)) rfl ?_
      rw [HVA.out, ← HDI.out]
      exact ph_end (vs := heL n7.he) (by omega) (by omega) (by omega) HZ7.out HM7.out HO7.out (by omega) HB7.out H_prev.out hg9 hg10 (heI (HN7.out.next H_prev.out) _ (Nat.le_refl _)) (fun ad e => by cases e; exact ⟨by show w.heap.size ≠ _; omega, by show w.heap.size ≠ _; omega⟩)
end Go.Proofs.Ytofeoeknmlkjgaa.Nk
end
section
/- Numbers of 64 bits stay so; parts of a node written whole. -/
set_option linter.unusedVariables false
namespace Go.Proofs.Ytofeoeknmlkjgaa.Nk
open Go.RowKit Go.Proofs.Ytofeoeknmlkjgaa Mb Fi Sm

theorem maj3_in {P : Int → Prop} {x y z : Int} (hx : P x) (hy : P y) (hz : P z) (h0 : P 0) : P (Mj.maj [x, y, z] 0) := by
  by_cases a : x = y
  · rw [Ag.maj3 (v := x) (.inl ⟨rfl, a.symm⟩)]; exact hx
  · by_cases b : x = z
    · rw [Ag.maj3 (v := x) (.inr (.inl ⟨rfl, b.symm⟩))]; exact hx
    · by_cases c : y = z
      · rw [Ag.maj3 (v := y) (.inr (.inr ⟨rfl, c.symm⟩))]; exact hy
      · rw [Mj.maj_no]
        · exact h0
        · intro v
          rw [Ag.cn3]
          unfold Ag.ind
          show 2 * _ ≤ 3
          split <;> split <;> split <;> omega
theorem hearF_in {P : Int → Prop} {id fr kind : Int} {many : Nat} : ∀ (L : List Pm) (h : Hd), (∀ x ∈ L, ∀ v ∈ x.vs, P v) → (∀ i l, h i = some l → ∀ v ∈ l, P v) → ∀ i l, L.foldl (hear1 id fr kind many) h i = some l → ∀ v ∈ l, P v
  | [], h, _, hh, i, l, e => hh i l e
  | x :: L, h, hx, hh, i, l, e => by
    refine hearF_in L _ (fun y hy => hx y (List.mem_cons_of_mem _ hy)) (fun i l e => ?_) i l e
    unfold hear1 at e
    split at e
    · unfold upd at e
      split at e
      · injection e with e
        subst e
        exact hx x (List.mem_cons_self)
      · exact hh i l e
    · exact hh i l e
theorem getD_in {P : Int → Prop} {l : List Int} (h0 : P 0) (h : ∀ v ∈ l, P v) (k : Nat) : P (l.getD k 0) := by
  by_cases hk : k < l.length
  · simp only [List.getD, List.getElem?_eq_getElem hk]
    exact h _ (List.getElem_mem _)
  · simp only [List.getD, List.getElem?_eq_none (Nat.le_of_not_lt hk)]
    exact h0
theorem outO_in {P : Int → Prop} {h : Hd} {k d b : Nat} (h0 : P 0) (hh : ∀ i l, h i = some l → ∀ v ∈ l, P v) : ∀ i j, P (outO h k d b i j)
  | 0, j => h0
  | i + 1, j => by
    unfold outO
    split
    · cases e : h i with
      | some l =>
        show P (upd (outO h k d b i) (cntO d b i) (l.getD k 0) j)
        unfold upd
        split
        · exact getD_in h0 (hh i l e) k
        · exact outO_in h0 hh i j
      | none => exact outO_in h0 hh i j
    · exact outO_in h0 hh i j
theorem zero64 : In64 0 := ⟨by decide, by decide⟩
theorem has_of {z : Int} (h : In64 z) : IntKind.i64.has z := by
  unfold In64 at h
  simp [IntKind.has, IntKind.min, IntKind.max, IntKind.signed, IntKind.bits]
  omega
theorem he_verd (n : Nd) (va v : Value) (x : Int) (b : Bool) : ∀ i, i < 74 → ({ n with vv := x, vs := b } : Nd).c v i = if 71 ≤ i ∧ i < 71 + (#[Value.int .i64 x, Value.bool b, v] : Array Value).toList.length then (#[Value.int .i64 x, Value.bool b, v] : Array Value).toList.getD (i - 71) undef else n.c va i := by
  intro i hi
  have el : (#[Value.int .i64 x, Value.bool b, v] : Array Value).toList.length = 3 := rfl
  rw [el]
  by_cases h : 71 ≤ i ∧ i < 71 + 3
  · rw [if_pos h]
    rcases (show i = 71 ∨ i = 72 ∨ i = 73 by omega) with e | e | e <;> subst e <;> rfl
  · rw [if_neg h]
    have h71 : i < 71 := by omega
    unfold Nd.c
    simp only [if_pos h71]
theorem rollC_list (R : Rl) (k : Nat) (hk : k < 12) : (rollC R).toList.getD k undef = rcell R k := by
  rw [← rollC_eq]
  simp only [List.getD, Array.getElem?_toList]
  rw [AN_get hk]; rfl
theorem he_roll (n : Nd) (va : Value) (R : Rl) : ∀ i, i < 74 → ({ n with ro := R } : Nd).c va i = if 27 ≤ i ∧ i < 27 + (rollC R).toList.length then (rollC R).toList.getD (i - 27) undef else n.c va i := by
  intro i hi
  have el : (rollC R).toList.length = 12 := rfl
  rw [el]
  by_cases h : 27 ≤ i ∧ i < 27 + 12
  · rw [if_pos h, rollC_list _ _ (by omega), c_ro h.1 (by omega)]
  · rw [if_neg h]; exact c_ro_out n R va i (by omega)
theorem NB.roR {W : World} {g : Nat} {n : Nd} {va : Value} (h : NB W g n va) : W.rangeAt g 27 (rollC n.ro).toList := by
  intro j v hj
  have hlt : j < 12 := (List.getElem?_eq_some_iff.1 hj).1
  have h2 := rollC_list n.ro j hlt
  rw [List.getD, hj] at h2
  simp only [Option.getD_some] at h2
  rw [h2, h.at_ (by omega), c_ro (by omega) (by omega), show 27 + j - 27 = j by omega]
theorem info12r : (Try.prog.info? 38).map (·.size) = some 12 := by kernel_rfl
end Go.Proofs.Ytofeoeknmlkjgaa.Nk
end
section
/- fourwatchkeep.scribble of a list of numbers that a phase of a node has answered: its block alone changes. -/
set_option linter.unusedVariables false
namespace Go.Proofs.Ytofeoeknmlkjgaa.Sc
open Go.RowKit Go.Proofs.Ytofeoeknmlkjgaa

section
variable {P : Program} {e : TypeId} {w w' : World} {b off n : Nat}
theorem run_append_full (t ty : TypeId) (i : TypeInfo) (ht : P.underlying t = some (.slice e)) (hi : P.info? e = some i) (hz : i.zero = some (.int .i64 0)) (hsize : i.size = 1) (hby : i.bytes = 8)
    (h : w.there b off n) (B m c : Nat) (news : List Value) (hB : ∀ j u, news[j]? = some u → w.cell? ((⟨B, 0, none⟩ : Addr).add j) = some u) (hm : news.length = m) (hm0 : 0 < m)
    (h63 : n + m ≤ maxLen) (hbytes : (n + m) * 8 ≤ 140737488355328) :
    ∃ cap' w', (Builtin.append_ #[t, t] ty #[.slice (some ⟨b, off, none⟩) n n, .slice (some ⟨B, 0, none⟩) m c]).run P w = .ok (.slice (some ⟨w.heap.size, 0, none⟩) (n + m) cap') w' ∧ w.grownBy w' (some b) ∧ ∃ cur, Blk w' w.heap.size e cur ∧ n + m ≤ cur.size := by
  have hr := run_append_grow (P := P) w t ty e i (.int .i64 0) ht hi hz ⟨b, off, none⟩ n n ((List.range n).map fun j => (w.cell? ⟨b, off + j, none⟩).getD undef) (by rw [hsize]; simp)
    (fun j v hv => by
      have hj : j < n := by have := (List.getElem?_eq_some_iff.1 hv).1; simpa using this
      rw [List.getElem?_map, List.getElem?_range hj, Option.map_some] at hv
      rw [Addr.add_mid]
      obtain ⟨x, hx⟩ := Option.isSome_iff_exists.1 (h j hj).1
      rw [hx] at hv ⊢
      simpa using hv) ⟨B, 0, none⟩ m c news (by rw [hsize]; omega) hB (by omega) (by unfold maxLen at h63; omega) (growslice_fits (by omega) (by rw [hby]; omega))
  refine ⟨_, _, hr, ⟨rfl, rfl, rfl, by simp, fun k hk _ => Below.heap_alloc w.drew _ k hk⟩, _, heap_alloc_new w.drew _, ?_⟩
  simp only [Array.size_append, List.size_toArray, List.length_map, List.length_range]
  omega
end
section
variable {P : Program} {w : World} {ops : Array Oper} {rest : List Oper} {o : Oper} {a : Act} {Q : Exit → Act → World → Prop}
theorem wpList_append_full (hgd : Region.wanted o (yielded ops a.tmps) = true) (s x : Operand) (t : TypeId)
    (ho : o.op = .call { callee := .builtin .append, args := #[s, x], argTypes := #[t, t] }) (e : TypeId) (i : TypeInfo) (ht : P.underlying t = some (.slice e)) (hi : P.info? e = some i) (hz : i.zero = some (.int .i64 0)) (hsize : i.size = 1) (hby : i.bytes = 8)
    (b off n : Nat) (hs : a.eval s = .slice (some ⟨b, off, none⟩) n n) (h : w.there b off n) (B m c : Nat) (news : List Value) (hx : a.eval x = .slice (some ⟨B, 0, none⟩) m c) (hB : ∀ j u, news[j]? = some u → w.cell? ((⟨B, 0, none⟩ : Addr).add j) = some u) (hm : news.length = m) (hm0 : 0 < m)
    (h63 : n + m ≤ maxLen) (hbytes : (n + m) * 8 ≤ 140737488355328)
    (hK : ∀ cap' w', w.grownBy w' (some b) → (∃ cur, Blk w' w.heap.size e cur ∧ n + m ≤ cur.size) → wpList P ops Q rest (a.put o.dst (.slice (some ⟨w.heap.size, 0, none⟩) (n + m) cap')) w') : wpList P ops Q (o :: rest) a w := by
  refine wpList_step fun K hK' => ?_
  rw [if_pos hgd]
  obtain ⟨cap', w', hr, h3, h4⟩ := run_append_full (P := P) t o.type i ht hi hz hsize hby h B m c news hB hm hm0 h63 hbytes
  unfold Oper.wp execOp
  simp only [ho, resolve, invoke, builtin, Sem.run_bind, Sem.run_pure, Result.andThen_ok, List.map_toArray, List.map_cons, List.map_nil, hs, hx, hr]
  exact hK' _ _ (hK cap' w' h3 h4)
end
theorem there_set {w : World} {b off n : Nat} (h : w.there b off n) (i : Nat) (u : Value) : (w.setCell ⟨b, off + i, none⟩ u).there b off n := World.there_setCells h b (off + i) [u]
theorem there_get {w : World} {b off n i : Nat} (h : w.there b off n) (hi : i < n) : ∃ v, w.cell? ⟨b, off + i, none⟩ = some v := Option.isSome_iff_exists.1 (h i hi).1
def RelF (w0 : World) (b off n : Nat) (iv : Value) (W : World) : Prop := ∃ i : Nat, i ≤ n ∧ iv = .int .i64 i ∧ W.there b off n ∧ w0.grownBy W (some b)

set_option maxRecDepth 100000 in
set_option maxHeartbeats 2000000 in
theorem scribble_full (b off n : Nat) (w : World) (hb : b < w.heap.size) (h : w.there b off n) (hn : n * 8 ≤ 140737488000000) :
    Calls Try.prog 21 #[.slice (some ⟨b, off, none⟩) n n] w fun e w' => e = .returned (.tuple #[]) ∧ w.grownBy w' (some b) := by
  obtain ⟨i0, hi0, hz0, hz1, hz2⟩ := info_parts infoIntS
  have HL := Lib.hid h
  have HBB := Lib.hid hb
  clear h hb
  go_enter Try.func21, Try.ntmps21
  go_wp2_with fail
  go_loopw [2] (fun iv W => RelF w b off n iv W) (fun iv _ => n - (intOf iv).toNat)
  case atStart => exact ⟨0, by omega, rfl, HL.out, ⟨rfl, rfl, rfl, Nat.le_refl _, fun _ _ _ => rfl⟩⟩
  case round =>
    obtain ⟨i, hi, rfl, hL, hG⟩ := hrel
    obtain ⟨wi, rfl⟩ : ∃ wi : World, wi = wr := ⟨_, rfl⟩
    by_cases hin : i < n
    · obtain ⟨v, d0⟩ := there_get hL hin
      have f0 := (hL i hin).2
      have z1 : (0 : Int) ≤ (i : Int) := by omega
      have z2 : (i : Int) < (n : Int) := by omega
      have L := Lib.hid hL
      have G := Lib.hid hG
      clear hL hG
      go_wp2_with fail
      go_roundw
      case rel => exact ⟨i + 1, by omega, by go_num, there_set L.out i _, grown_trans G.out (grown_set _ _ _ _)⟩
      case measure => simp [intOf]; omega
    · obtain rfl : n = i := by omega
      have L := Lib.hid hL
      have G := Lib.hid hG
      clear hL hG
      have z1 : (0 : Int) < (n : Int) + 3 := by omega
      go_wp2_with (at_builtin; refine wpList_append_full rfl _ _ 58 rfl 3 i0 Try.underlying58 hi0 hz0 hz1 hz2 b off n rfl (World.there_alloc L.out _) wi.heap.size 3 3 [.int .i64 (-99), .int .i64 (-99), .int .i64 (-99)] rfl (World.news_of_block ((Blk.new wi 3 #[.int .i64 (-99), .int .i64 (-99), .int .i64 (-99)]))) rfl (by decide) (by unfold maxLen; omega) (by omega) ?_; intro cap2 w2 hgr2 hcur; obtain ⟨cur, hcb, hcs⟩ := hcur; have d0 : w2.cell? ⟨(wi.alloc (.cells #[.int .i64 (-99), .int .i64 (-99), .int .i64 (-99)] 3)).heap.size, 0, none⟩ = some cur[0] := (by rw [hcb.cell 0, Array.getElem?_eq_getElem (by omega)]); have f0 := hcb.frozen 0; (generalize cur[0] = q0 at d0); simp at d0 f0; have HC := Lib.hid hcb; have HG2 := Lib.hid hgr2; clear hcb hgr2)
      go_end0
      refine ⟨rfl, ?_⟩
      have hgg := grown_trans (grown_trans G.out (grown_below ((Below.refl _ _).alloc (Nat.le_refl _) _))) HG2.out
      refine ⟨hgg.1, hgg.2, hgg.3, by simpa [World.setCell] using hgg.4, fun k hk hne => ?_⟩
      rw [← hgg.5 k hk hne]
      exact Below.heap_setCell _ _ _ _ (by have := G.out.size; simp; omega)
theorem scribble_ownI {B : Nat} {A : Option Addr} {m c : Nat} {vs : List Int} (w : World) (h : Nk.OwnI w B A m c vs) (hn : m * 8 ≤ 140737488000000) (hB : B ≤ w.heap.size) :
    Calls Try.prog 21 #[.slice A m c] w fun e w' => e = .returned (.tuple #[]) ∧ ∃ q, w.grownBy w' (some q) ∧ B ≤ q ∧ (q < w.heap.size → ∃ t cur, Blk w q t cur ∧ t ≠ 4 ∧ A.map Addr.block = some q) := by
  cases A with
  | none =>
    obtain ⟨rfl, rfl⟩ := h.2.1 rfl
    refine (scribble_nil w).mono ?_
    rintro e w' ⟨rfl, hb⟩
    exact ⟨rfl, w.heap.size, grown_below hb, hB, fun h => absurd h (Nat.lt_irrefl _)⟩
  | some ad =>
    obtain ⟨k1, k2, k3, k4, k5, t6, cur6, k6, k7⟩ := h.2.2.2 ad rfl
    obtain ⟨b, off, sp⟩ := ad
    simp only at k1 k2 k3 k4 k5 k6
    subst k1
    have key : ∀ (e : Ending) (w' : World), (e = .returned (.tuple #[]) ∧ w.grownBy w' (some b)) → e = .returned (.tuple #[]) ∧ ∃ q, w.grownBy w' (some q) ∧ B ≤ q ∧ (q < w.heap.size → ∃ t cur, Blk w q t cur ∧ t ≠ 4 ∧ (some (⟨b, off, none⟩ : Addr)).map Addr.block = some q) := by
      rintro e w' ⟨rfl, hg⟩
      exact ⟨rfl, b, hg, k2, fun _ => ⟨t6, cur6, k6, k7, rfl⟩⟩
    rcases k5 with rfl | ⟨rfl, cur, hbl, hc, hmx⟩
    · exact (scribble_full b off c w k3 k4 hn).mono key
    · exact (scribble_any b m c w ⟨cur, hbl, h.2.2.1, .inl ⟨hc, hmx⟩⟩ hn).mono key
end Go.Proofs.Ytofeoeknmlkjgaa.Sc
end
