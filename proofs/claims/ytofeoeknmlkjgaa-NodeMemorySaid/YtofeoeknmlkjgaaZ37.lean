/- Merged: NodeRelay. -/
import Derived.Test.YtofeoeknmlkjgaaZ36
set_option linter.unusedVariables false
set_option linter.unusedSimpArgs false
section
/- node.Relay. -/
set_option linter.unusedVariables false
namespace Go.Proofs.Ytofeoeknmlkjgaa.Nk
open Go.RowKit Go.Proofs.Ytofeoeknmlkjgaa Mb Fi Sm

def relTo (n : Nd) (h : Hd) (i : Nat) : Nd := { n with di := fun k => if k / 3 < i then (match h (k / 3) with | some l => l.getD (k % 3) 0 | none => n.di k) else n.di k }
def relayH (n : Nd) (Ms : List Pm) : Hd := hearF n.id n.fr 1 3 Ms
def relayN (n : Nd) (Ms : List Pm) : Nd := relTo n (relayH n Ms) 4
def dirL (f : Nat → Int) (k : Nat) : List Int := (List.range k).map f
theorem relTo_zero (n : Nd) (h : Hd) : relTo n h 0 = n := by unfold relTo; simp
theorem relTo_none (n : Nd) (h : Hd) (i : Nat) (hh : h i = none) : relTo n h (i + 1) = relTo n h i := by
  unfold relTo
  congr 1
  funext k
  rcases Nat.lt_trichotomy (k / 3) i with c | c | c
  · rw [if_pos (by omega), if_pos c]
  · rw [if_pos (by omega), if_neg (by omega), c, hh]
  · rw [if_neg (by omega), if_neg (by omega)]
theorem relTo_some (n : Nd) (h : Hd) (i : Nat) (l : List Int) (hi : i < 4) (hh : h i = some l) (hl : l.length = 3) (va : Value) : ∀ j, j < 74 → (relTo n h (i + 1)).c va j = if 39 + i * 3 ≤ j ∧ j < 39 + i * 3 + (l.map (Value.int .i64)).length then (l.map (Value.int .i64)).getD (j - (39 + i * 3)) undef else (relTo n h i).c va j := by
  intro j hj
  rw [List.length_map, hl]
  by_cases c : 39 + i * 3 ≤ j ∧ j < 39 + i * 3 + 3
  · rw [if_pos c, c_di (by omega) (by omega)]
    unfold relTo
    simp only
    have e1 : (j - 39) / 3 = i := by omega
    have e2 : (j - 39) % 3 = j - (39 + i * 3) := by omega
    rw [e1, e2, if_pos (by omega), hh]
    have hlt : j - (39 + i * 3) < l.length := by omega
    simp [List.getD, List.getElem?_eq_getElem hlt]
  · rw [if_neg c]
    by_cases c2 : 39 ≤ j ∧ j < 51
    · rw [c_di c2.1 c2.2, c_di c2.1 c2.2]
      unfold relTo
      simp only
      rcases Nat.lt_trichotomy ((j - 39) / 3) i with c3 | c3 | c3
      · rw [if_pos (by omega), if_pos c3]
      · omega
      · rw [if_neg (by omega), if_neg (by omega)]
    · unfold relTo
      exact (c_di_out n _ va j (by omega)).trans (c_di_out n _ va j (by omega)).symm

def RlRel (w w4 : World) (n : Nd) (va : Value) (h : Hd) (iv : Value) (wr : World) : Prop :=
  ∃ i : Nat, iv = .int .i64 i ∧ i ≤ 4 ∧ NB wr w.heap.size (relTo n h i) va ∧ w4.grownBy wr (some w.heap.size)

def dirS (f : Nat → Int) : Nat → List Int
  | 0 => []
  | i + 1 => dirS f i ++ [f (3 * i), f (3 * i + 1), f (3 * i + 2)]
def RvRel (w6 : World) (f : Nat → Int) (lv iv : Value) (wr : World) : Prop :=
  ∃ (i : Nat) (v : Value), iv = .int .i64 i ∧ i ≤ 4 ∧ lv = v ∧ wr.ownsRow w6.heap.size 3 1 v (3 * i) ((dirS f i).map (Value.int .i64)) ∧ Below w6.heap.size w6 wr
theorem own_n3 {w : World} {b i : Nat} {e : TypeId} {v : Value} {xs : List Value} (h : w.ownsRow b e 1 v (3 * i + 3) xs) : w.ownsRow b e 1 v (3 * (i + 1)) xs := by rw [Nat.mul_add]; exact h
theorem own_ownI {w : World} {base m c : Nat} {A : Option Addr} {vs : List Int} (h : w.ownsRow base 3 1 (.slice A m c) m (vs.map (Value.int .i64))) : OwnI w base A m c vs := by
  have hv := VR.own h
  refine ⟨Bs_ints_own h, hv.2.1, ?_, fun ad e => ?_⟩
  · rcases h.2 with ⟨h1, h2⟩ | ⟨g, cap, cur, h1, hb, hh, hc, _⟩
    · omega
    · injection h1 with _ _ h3; omega
  · subst e
    rcases h.2 with ⟨h1, h2⟩ | ⟨g, cap, cur, h1, hb, hh, hc, hm, hs, ht⟩
    · cases h1
    · injection h1 with h1 _ h3
      injection h1 with h1
      subst h1 h3
      refine ⟨rfl, hb, (Array.getElem?_eq_some_iff.1 hh).1, fun j hj => ?_, .inr ⟨rfl, cur, hh, by omega, hm⟩, _, cur, hh, by decide⟩
      have hB : Blk w g _ cur := hh
      rw [Nat.zero_add, hB.cell j, Array.getElem?_eq_getElem (by omega)]
      exact ⟨rfl, hB.frozen j⟩

set_option maxRecDepth 100000 in
set_option maxHeartbeats 8000000 in
theorem Relay_any (n : Nd) (A : Option Addr) (m c : Nat) (bs : List Value) (Am : Option Addr) (mm cm : Nat) (Ms : List Mg) (h0 : 0 ≤ n.id) (h4 : n.id < 4) (w : World) (hb : VR w 1 A m c bs) (h1 : ∀ u ∈ bs, u.oneCell' = true) (hm : m ≤ 140737488355328) (hM : MR w Am mm cm Ms) (hmm : mm ≤ 17592186044416) :
    Calls Try.prog 17 #[.agg (NA n (.slice A m c)), .slice Am mm cm] w (PhPost (relayN n (Ms.map Mg.pm)) bs 2 n.id n.fr (dirL (relayN n (Ms.map Mg.pm)).di 12) w) := by
  obtain rfl : m = bs.length := by have := hb.1; omega
  have HVB := Lib.hid hb
  have H1 := Lib.hid h1
  have HMR := Lib.hid hM
  clear hb h1 hM
  --PRE Relay 11 4
  go_enter Try.func17, Try.ntmps17
  go_upto_region 1 with fail
  have hN : NB (((w.alloc (.cells (NA n (.slice A bs.length c)) 45)).alloc (.cells Try.zeroCells45 45)).alloc (.cells #[.int .i64 0, .int .i64 0, .int .i64 0, .slice none 0 0] 64)) w.heap.size n (.slice A bs.length c) := ((Blk.new _ _ _).alloc _).alloc _
  have hZ : Blk (((w.alloc (.cells (NA n (.slice A bs.length c)) 45)).alloc (.cells Try.zeroCells45 45)).alloc (.cells #[.int .i64 0, .int .i64 0, .int .i64 0, .slice none 0 0] 64)) (w.heap.size + 1) 45 Try.zeroCells45 := (Blk.at_ _ _ _ _ (by simp)).alloc _
  have hM : Blk (((w.alloc (.cells (NA n (.slice A bs.length c)) 45)).alloc (.cells Try.zeroCells45 45)).alloc (.cells #[.int .i64 0, .int .i64 0, .int .i64 0, .slice none 0 0] 64)) (w.heap.size + 1 + 1) 64 #[.int .i64 0, .int .i64 0, .int .i64 0, .slice none 0 0] := Blk.at_ _ _ _ _ (by simp)
  have hB : Below w.heap.size w (((w.alloc (.cells (NA n (.slice A bs.length c)) 45)).alloc (.cells Try.zeroCells45 45)).alloc (.cells #[.int .i64 0, .int .i64 0, .int .i64 0, .slice none 0 0] 64)) := (((Below.refl _ _).alloc (Nat.le_refl _) _).alloc (by simp) _).alloc (by simp; omega) _
  have hzs : (Try.zeroCells45).size = 74 := by kernel_rfl
  generalize Try.zeroCells45 = zc at *
  generalize ((w.alloc (.cells (NA n (.slice A bs.length c)) 45)).alloc (.cells zc 45)).alloc (.cells #[.int .i64 0, .int .i64 0, .int .i64 0, .slice none 0 0] 64) = W0 at *
  have hW0 : w.heap.size + 1 + 1 < W0.heap.size := hM.lt
  have HZS := Lib.hid hzs
  have HN := Lib.hid hN
  have HZ := Lib.hid hZ
  have HM := Lib.hid hM
  have HB := Lib.hid hB
  have KC := Lib.hid (copied_any n A bs.length c bs W0 (HVB.out.next hB) H1.out hm)
  unfold CopyPost at KC
  clear hN hZ hM hB hzs
  go_upto_region 4 with (first
    | (refine wpList_load_at 45 (.tmp 2) rfl rfl w.heap.size rfl _ (NA n (.slice A bs.length c)) _ HN.out Try.underlying45 rfl (by rw [NA_size]; exact infoNode) ?_)
    | (go_at_call 35; (with_reducible refine KC.out.mono ?_); rintro e w1 ⟨A', c', rfl, hO1, hB1⟩; have hw1 : W0.heap.size ≤ w1.heap.size := hB1.size; have HN1 := Lib.hid (NB.next HN.out hB1); have HZ1 := Lib.hid (HZ.out.next hB1); have HM1 := Lib.hid (HM.out.next hB1); have HB1 := Lib.hid (HB.out.trans (hB1.mono HB.out.size)); have HO1 := Lib.hid hO1; clear hO1 hB1)
    | (refine wpList_store_at 45 (.tmp 2) (.tmp 12) rfl rfl w.heap.size _ _ (NA n (.slice A' bs.length c')) rfl rfl HN1.out (by rw [NA_size, NA_size]) (by rw [NA_size]; exact infoNode) (NA_one _ _ _ _) ?_; intro w2 hN2 hg2; have HN2 := Lib.hid hN2; have HG2 := Lib.hid hg2; clear hN2 hg2)
    | (refine wpList_load_at 45 (.tmp 2) rfl rfl w.heap.size rfl _ (NA n (.slice A' bs.length c')) _ HN2.out Try.underlying45 rfl (by rw [NA_size]; exact infoNode) ?_)
    | (go_at_call 36; (with_reducible refine (strange_no n (.slice A' bs.length c') w2 h0 h4).mono ?_); rintro e w3 ⟨rfl, hb3⟩; have HN3 := Lib.hid (NB.next HN2.out hb3); have HBs := Lib.hid hb3; clear hb3))
  have HZ3 := Lib.hid ((HZ1.out.grown HG2.out (by intro e; have := Option.some.inj e; omega)).next HBs.out)
  have HM3 := Lib.hid ((HM1.out.grown HG2.out (by intro e; have := Option.some.inj e; omega)).next HBs.out)
  have HO3 := Lib.hid (own_below (own_kept_t HO1.out HG2.out HN1.out (by decide)) HBs.out (fun x hx => ((own_kept_t HO1.out HG2.out HN1.out (by decide)).lt x hx).2))
  have HB3 := Lib.hid ((HB1.out.grown HG2.out HB1.out.size (fun j hj => by cases hj; exact Nat.le_refl _)).trans (HBs.out.mono (by have := HG2.out.size; have := HB1.out.size; omega)))
  have hw3 : W0.heap.size ≤ w3.heap.size := by have := HG2.out.size; have := HBs.out.size; omega
  clear HN HZ HM HB KC HN1 HZ1 HM1 HB1 HO1 HN2 HG2 HBs
  --END
  have HMR3 := Lib.hid (HMR.out.next HB3.out)
  have KH := Lib.hid (hear_any n (.slice A' bs.length c') Am mm cm Ms 1 3 3 rfl (by decide) (by decide) h0 h4 w3 HMR3.out hmm)
  unfold HearPost at KH
  go_wp2_with (first
    | (refine wpList_load_at 45 (.tmp 2) rfl rfl w.heap.size rfl _ (NA n (.slice A' bs.length c')) _ HN3.out Try.underlying45 rfl (by rw [NA_size]; exact infoNode) ?_)
    | (go_at_call 37; (with_reducible refine KH.out.mono ?_); rintro e w4 ⟨sv, rfl, hS4, hb4⟩; have HN4 := Lib.hid (NB.next HN3.out hb4); have HSL := Lib.hid hS4; have HB34 := Lib.hid hb4; clear hS4 hb4))
  obtain ⟨va7, hva⟩ : ∃ v, v = Value.slice A' bs.length c' := ⟨_, rfl⟩
  have HVA := Lib.hid hva
  have HO4 := Lib.hid (own_below HO3.out HB34.out (fun x hx => (HO3.out.lt x hx).2))
  have HZ4 := Lib.hid (HZ3.out.next HB34.out)
  have HM4 := Lib.hid (HM3.out.next HB34.out)
  have HB4 := Lib.hid (HB3.out.trans (HB34.out.mono HB3.out.size))
  have hB3 := HB3.out.size
  clear HN3 HZ3 HM3 HO3 HB3 KH HMR3
  generalize hh : hearF n.id n.fr 1 3 (Ms.map Mg.pm) = h at *
  have HL := Lib.hid (fun i l (e : h i = some l) => hearF_len (id := n.id) (fr := n.fr) (kind := 1) (many := 3) (Ms.map Mg.pm) (fun _ => none) (fun i l e => by cases e) i l (show hearF n.id n.fr 1 3 (Ms.map Mg.pm) i = some l by rw [hh]; exact e))
  have HH := Lib.hid hh
  clear hh hva
  rw [← HVA.out] at HN4
  go_loopw [20] (fun iv wr => RlRel w w4 n va7 h iv wr) (fun iv _ => 4 - (intOf iv).toNat)
  case atStart => exact ⟨0, rfl, by omega, by rw [relTo_zero]; exact HN4.out, grown_refl _ _⟩
  case round =>
    obtain ⟨i, rfl, hi4, hN, hG⟩ := hrel
    by_cases hi : i < 4
    · have q0 : (i : Int) < 4 := by omega
      have qq : (0 : Int) ≤ (i : Int) := by omega
      have ix := fun W => idx4s sv i hi W
      have hsl := HSL.out.grown hG (by omega)
      have HN := Lib.hid hN
      have HG := Lib.hid hG
      clear hN hG
      rcases hsl i hi with ⟨h1, h2⟩ | ⟨l, ad, cl, h1, h2, h3, _⟩
      · simp only [h2] at ix
        have H1 := Lib.hid h1
        clear h1 h2 hsl
        go_wp2_with (first
          | (refine wpList_copy_nothing rfl (.tmp 27) (.tmp 28) 58 58 rfl 3 Try.underlying58 (by kernel_rfl) (some ⟨w.heap.size, 39 + i * 3, none⟩) none 3 3 0 0 rfl rfl rfl ?_))
        go_roundw
        case rel => exact ⟨i + 1, by go_num, by omega, by rw [relTo_none _ _ _ H1.out]; exact HN.out, HG.out⟩
        case measure => simp [intOf]; omega
      · simp only [h2] at ix
        have hl3 : l.length = 3 := HL.out i l h1
        rw [hl3] at ix
        have H1 := Lib.hid h1
        have HL3 := Lib.hid hl3
        have H3 := Lib.hid (ints_news h3)
        clear h1 h2 h3 hsl hl3
        go_wp2_with (first
          | (refine wpList_copy_nb (.tmp 27) (.tmp 28) 58 58 rfl rfl 3 Try.underlying58 (by kernel_rfl) w.heap.size (39 + i * 3) 3 3 ad 3 cl rfl rfl (relTo n h i) (relTo n h (i + 1)) va7 va7 HN.out (l.map (Value.int .i64)) (by rw [List.length_map, HL3.out]; rfl) (H3.out ad rfl) (by rw [List.length_map, HL3.out]; omega) (by intro v hv; obtain ⟨q, _, rfl⟩ := List.mem_map.1 hv; rfl) (relTo_some n h i l hi H1.out HL3.out va7) ?_; intro w5 hN5 hg5; have HN5 := Lib.hid hN5; have HG5 := Lib.hid hg5; clear hN5 hg5))
        go_roundw
        case rel => exact ⟨i + 1, by go_num, by omega, HN5.out, grown_trans HG.out HG5.out⟩
        case measure => simp [intOf]; omega
    · obtain rfl : i = 4 := by omega
      have hB3' := HB4.out.grown hG HB4.out.size (fun j hj => by cases hj; exact Nat.le_refl _)
      have HZ6 := Lib.hid (HZ4.out.grown hG (by intro e; have := Option.some.inj e; omega))
      have HM6 := Lib.hid (HM4.out.grown hG (by intro e; have := Option.some.inj e; omega))
      have HO6 := Lib.hid (own_kept_t HO4.out hG HN4.out (by decide))
      have HB6 := Lib.hid hB3'
      have HN6 := Lib.hid hN
      have hdi : relTo n h 4 = relayN n (Ms.map Mg.pm) := by unfold relayN relayH; rw [HH.out]
      have HDI := Lib.hid hdi
      have hid : (relTo n h 4).id = n.id := rfl
      have hfr : (relTo n h 4).fr = n.fr := rfl
      have HID := Lib.hid (And.intro hid hfr)
      clear hN hG hB3' HZ4 HM4 HO4 HB4 HN4 HSL HL HH hdi hid hfr HB34
      generalize relTo n h 4 = n7 at *
      obtain ⟨i0, hi, hz0, hz1, hz2⟩ := info_parts infoInt4
      have hs6 := HB6.out.size
      have hm6 := HM6.out.lt
      obtain ⟨w6, rfl⟩ : ∃ w6 : World, w6 = wr := ⟨_, rfl⟩
      go_wp2_with (first
        | (refine wpList_load_mid rfl 40 (.tmp 31) rfl w.heap.size 39 rfl (diC n7.di) _ HN6.out.diR Try.underlying40 rfl info12 ?_))
      go_loopw [8, 33] (fun lv iv wr => RvRel w6 n7.di lv iv wr) (fun _ iv _ => 4 - (intOf iv).toNat)
      case atStart => exact ⟨0, _, rfl, by omega, rfl, World.ownsRow_nil _ _ _ _, Below.refl _ _⟩
      case round =>
        obtain ⟨i, v, rfl, hi4', hv, hO, hB⟩ := hrel
        have hv2 := hv.symm
        clear hv
        subst hv2
        obtain ⟨Av, cv, rfl⟩ := own_shape hO
        by_cases hi' : i < 4
        · have q0 : (i : Int) < 4 := by omega
          have qq : (0 : Int) ≤ (i : Int) := by omega
          have ix := fun W => ixD n7.di i hi' W
          have hsn : dirS n7.di (i + 1) = dirS n7.di i ++ [n7.di (3 * i), n7.di (3 * i + 1), n7.di (3 * i + 2)] := rfl
          have HSN := Lib.hid hsn
          have HO := Lib.hid hO
          have HB := Lib.hid hB
          have hwr := hB.size
          clear hO hB hsn
          generalize n7.di (3 * i) = x0 at *
          generalize n7.di (3 * i + 1) = x1 at *
          generalize n7.di (3 * i + 2) = x2 at *
          have HO2 := fun o1 => Lib.hid (own_below HO.out ((Below.refl wr.heap.size wr).alloc (Nat.le_refl _) o1) (fun x hx => (HO.out.lt x hx).2))
          go_wp2_with (first
            | (at_builtin; go_loud (refine wpList_append_ints rfl _ _ 58 rfl w6.heap.size 3 i0 (.int .i64 0) .i64 8 Try.underlying58 hi hz0 hz1 hz2 rfl (.slice Av (3 * i) cv) _ _ rfl (Hid.out (HO2 _)) (some ⟨wr.heap.size, 0, none⟩) 3 3 [x0, x1, x2] rfl (fun e => by cases e) (ints_blk (zs := [x0, x1, x2]) (Blk.new _ _ _)) (by unfold maxLen; omega) (by omega) (by simp; omega) ?_); intro v3 w3 hown3 hg3))
          go_roundw
          case rel => exact ⟨i + 1, v3, by go_num, by omega, rfl, own_n3 (by rw [HSN.out, List.map_append]; exact hown3), (HB.out.alloc hwr _).grown hg3 (by simp; omega) (fun j hj => (HO.out.lt j hj).1)⟩
          case measure => simp [intOf]; omega
        · obtain rfl : i = 4 := by omega
          have HN7 := Lib.hid (NB.next HN6.out hB)
          have HZ7 := Lib.hid (HZ6.out.next hB)
          have HM7 := Lib.hid (HM6.out.next hB)
          have HO7 := Lib.hid (own_below HO6.out hB (fun x hx => (HO6.out.lt x hx).2))
          have HB7 := Lib.hid (HB6.out.trans (hB.mono hs6))
          have HOV := Lib.hid hO
          have HV7 : Hid ((NA n7 va7).all (·.oneCell') = true) := by rw [HVA.out]; exact NA_one _ _ _ _
          have KS := Lib.hid (fun W => say_any n7 va7 2 Av (3 * 4) cv W)
          rw [HID.out.1, HID.out.2] at KS
          have h12 := hW0
          clear hO hB HN6 HZ6 HM6 HO6 HB6
          obtain ⟨w7, rfl⟩ : ∃ w7 : World, w7 = wr := ⟨_, rfl⟩
          go_upto_region 15 with fail
          --TAIL n7 || 4 || 40 || 5 || 43 || L;;L;;M;;C:KS.out _@@w8@@⟨rfl, hbb⟩ || #[.int .i64 2, .int .i64 n.id, .int .i64 n.fr, .slice Av (3 * 4) cv] || w7
          try simp only [pts]
          have SK := Lib.hid (fun W (h : Below w7.heap.size w7 W) => (NB.next HN7.out h : NB W w.heap.size n7 va7))
          unfold NB at SK
          refine wp_region_F 5 (fun w' => Blk w' w.heap.size 45 (NA n7 va7)) (by kernel_rfl) (SK.out _ (Below.refl _ _).drew) (fun hS => ?_)
          refine wpF 0 (.agg (NA n7 va7)) rfl (by kernel_rfl) (fun _ _ _ h => h) (Or.inl ⟨by rfl, fun wx hSw => exec_load_row 45 (.tmp 2) rfl w.heap.size rfl _ (NA n7 va7) _ hSw Try.underlying45 rfl (by rw [NA_size]; exact infoNode)⟩) hS ?_
          try simp only [pts]
          refine wpF 1 (.agg (NA n7 va7)) rfl (by kernel_rfl) (fun _ _ _ h => h) (Or.inl ⟨by rfl, fun wx hSw => exec_load_row 45 (.tmp 2) rfl w.heap.size rfl _ (NA n7 va7) _ hSw Try.underlying45 rfl (by rw [NA_size]; exact infoNode)⟩) hS ?_
          try simp only [pts]
          refine wpF 2 ?_ rfl (by kernel_rfl) (fun _ _ _ h => h) (Or.inl ⟨by rfl, fun wx hSw => ?_⟩) hS ?_
          rotate_left
          · (try dsimp only at hSw); go_simp; (try with_reducible rfl)
          try simp only [pts]
          refine wpAnyF_one (i := 3) rfl (by kernel_rfl) (fun K hK => ?_)
          go_simp
          (with_reducible refine (KS.out _).mono ?_)
          rintro e w8 ⟨rfl, hbb⟩
          have hb_w8 := (((Below.refl w7.heap.size w7).drew)).trans (hbb.mono (Nat.le_refl _))
          have H_prev := Lib.hid hb_w8
          clear hS
          have hS := SK.out _ hb_w8
          clear hbb hb_w8
          refine hK.out _ _ hS ?_
          clear hK K
          try simp only [pts]
          refine wpAnyF_one (i := 4) rfl (by kernel_rfl) (fun K hK => ?_)
          rw [if_pos (by rfl)]
          refine wp_store_row 45 (.tmp 4) (.tmp 40) rfl (w.heap.size + 1) _ zc (NA n7 va7) rfl rfl (HZ7.out.next H_prev.out) (by rw [NA_size, HZS.out]) (by rw [NA_size]; exact infoNode) HV7.out (fun w9 hN9 hg9 => ?_)
          have hS9 := hS.grown hg9 (by intro e; have := Option.some.inj e; omega)
          refine hK.out _ _ hS9 ?_
          clear hK K hS
          try simp only [pts]
          refine wpAnyF_last rfl (by kernel_rfl) (by kernel_rfl) (fun K hK => ?_)
          rw [if_pos (by rfl)]
          refine wp_store_row 64 (.tmp 5) (.tmp 43) rfl (w.heap.size + 1 + 1) _ _ #[.int .i64 2, .int .i64 n.id, .int .i64 n.fr, .slice Av (3 * 4) cv] rfl rfl ((HM7.out.next H_prev.out).grown hg9 (by intro e; have := Option.some.inj e; omega)) rfl (by kernel_rfl) (by simp [Value.oneCell']) (fun w10 hM10 hg10 => ?_)
          refine hK.out _ _ ?_
          clear hK K
          try simp only [pts]
          go_wp2_with fail
          have hN10 := hN9.grown hg10 (by intro e; have := Option.some.inj e; omega)
          --END
          refine bodyPost_ret (results_two Try.results17 _ _ (w.heap.size + 1) (w.heap.size + 1 + 1) _ _ _ _ _ _ rfl rfl hN10 hM10 Try.underlying45 rfl (by rw [NA_size]; exact infoNode) Try.underlying64 rfl (by kernel_rfl)) rfl ?_
          have hov := own_ownI (m := 3 * 4) HOV.out
          have h6 := hs6
          have h7 := HB7.out.size
          rw [HVA.out, ← HDI.out]
          exact ph_end (vs := dirL n7.di 12) (by omega) (by omega) (by omega) HZ7.out HM7.out HO7.out (by omega) HB7.out H_prev.out hg9 hg10 ((hov.down hs6).next H_prev.out) (fun ad e => by have := (hov.2.2.2 ad e).2.1; omega)
end Go.Proofs.Ytofeoeknmlkjgaa.Nk
end
