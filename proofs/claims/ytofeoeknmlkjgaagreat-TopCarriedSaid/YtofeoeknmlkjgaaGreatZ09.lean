/- Merged: BusCopy BusStep BusSort1 BusFind. -/
import Derived.BigGuard
import Derived.Deep.RegionHeld3
import Derived.Laws.MakeOwn
import Derived.Test.YtofeoeknmlkjgaaGreatZ07
import Derived.Test.YtofeoeknmlkjgaaGreatZ08
set_option linter.unusedVariables false
set_option linter.unusedSimpArgs false
section
/- bus.copied: a queue of its own, row by row. -/
set_option linter.unusedVariables false
namespace Go.Proofs.YtofeoeknmlkjgaaGreat.Bs
open Go.RowKit Go.Proofs.YtofeoeknmlkjgaaGreat Crc Sm

def CopRel (w : World) (L : List Pc) (s3 i : Value) (wr : World) (C : Array Value) (z : Array Value) : Prop :=
  ∃ (k : Nat) (L' : List Pc), k ≤ L.length ∧ i = .int .i64 k ∧ L'.map Pc.key = (L.take k).map Pc.key ∧ QO wr (w.heap.size + 1 + 1) s3 L' ∧ Below w.heap.size w wr ∧ w.heap.size + 1 + 1 ≤ wr.heap.size ∧
    Blk wr w.heap.size 33 C ∧ Blk wr (w.heap.size + 1) 33 z

def busC (now ser : Int) (v : Value) : Array Value := #[.int .i64 now, .int .i64 ser, v]
set_option maxRecDepth 100000 in
set_option maxHeartbeats 4000000 in
theorem copied_any (now ser : Int) (A : Option Addr) (n c : Nat) (L : List Pc) (w : World) (h : QR w A n c L) (hn : n ≤ 1000) :
    Calls Tryz.prog 17 #[.agg #[.int .i64 now, .int .i64 ser, .slice A n c]] w fun e w' => ∃ A' c' L', e = .returned (.agg #[.int .i64 now, .int .i64 ser, .slice A' n c']) ∧
      QO w' w.heap.size (.slice A' n c') L' ∧ L'.map Pc.key = L.map Pc.key ∧ Below w.heap.size w w' := by
  obtain ⟨i0, hi, hz0, hz1, hz2⟩ := info_parts infoParcel
  have H := Lib.hid h
  have hb0 : Blk ((w.alloc (.cells (busC now ser (.slice A n c)) 33)).alloc (.cells (busC 0 0 (.slice none 0 0)) 33)) w.heap.size 33 (busC now ser (.slice A n c)) := (Blk.new _ _ _).alloc _
  have hb1 : Blk ((w.alloc (.cells (busC now ser (.slice A n c)) 33)).alloc (.cells (busC 0 0 (.slice none 0 0)) 33)) (w.heap.size + 1) 33 (busC 0 0 (.slice none 0 0)) := Blk.at_ _ _ _ _ (by simp)
  have hB : Below w.heap.size w ((w.alloc (.cells (busC now ser (.slice A n c)) 33)).alloc (.cells (busC 0 0 (.slice none 0 0)) 33)) := ((Below.refl _ _).alloc (by omega) _).alloc (by simp) _
  have hs : ((w.alloc (.cells (busC now ser (.slice A n c)) 33)).alloc (.cells (busC 0 0 (.slice none 0 0)) 33)).heap.size = w.heap.size + 1 + 1 := by simp
  have HB0 := Lib.hid hb0
  have HB1 := Lib.hid hb1
  have HB := Lib.hid hB
  have HS := Lib.hid hs
  clear hb0 hb1 hB hs h
  go_enter Tryz.func17, Tryz.ntmps17
  go_wp2_with (first
    | (at_make; go_loud (refine wpList_make_own _ rfl _ _ 31 rfl (w.heap.size + 1 + 1) 41 i0 (.agg #[.int .i64 0, .int .i64 0, .int .i64 0, .int .i64 0, .slice none 0 0]) 5 Tryz.underlying31 hi hz0 hz1 .i64 .i64 _ (n + 1) rfl rfl (by omega) (by rw [hz2]; omega) (by unfold maxLen; omega) (by simp) ?_; intro w2 hown2 hg2; have N0 := Lib.hid (Blk.grown HB0.out hg2 (by simp)); have N1 := Lib.hid (Blk.grown HB1.out hg2 (by simp)); have NB := Lib.hid (HB.out.grown hg2 HB.out.size (fun j hj => by cases hj)); have hs2 : w.heap.size + 1 + 1 ≤ w2.heap.size := Nat.le_trans (Nat.le_of_eq (by simp)) hg2.size; have HS2 := Lib.hid hs2; (simp only [Sm.heap_alloc_size] at hown2); have HO2 := Lib.hid hown2; clear hown2 hg2 hs2; have e2 := N0.out.cell 2; (simp only [busC, List.getElem?_toArray, List.getElem?_cons_zero, List.getElem?_cons_succ] at e2))))

  go_loopw [3, 14] (fun v i wr => CopRel w L v i wr (busC now ser (.slice A n c)) (busC 0 0 (.slice none 0 0))) (fun _ i _ => n - (intOf i).toNat)
  case atStart => exact ⟨0, [], Nat.zero_le _, rfl, rfl, ⟨HO2.out, fun p hp => by simp at hp, List.Pairwise.nil⟩, NB.out, HS2.out, N0.out, N1.out⟩
  case round =>
    clear HB0 HB1 HB HS N0 N1 NB HS2 HO2
    obtain ⟨k, L', hk, rfl, hkey, hO, hB, hwr, hb0, hb1⟩ := hrel
    have hLn := H.out.1
    have hl' : L'.length = k := by have := congrArg List.length hkey; simpa [Nat.min_eq_left hk] using this
    obtain ⟨A', c', hv⟩ := hO.shape
    rw [hl'] at hv
    subst hv
    have HL := Lib.hid hl'
    have HKY := Lib.hid hkey
    clear hl' hkey
    have HO := Lib.hid hO
    have HB := Lib.hid hB
    have HW := Lib.hid hwr
    have HB0 := Lib.hid hb0
    have HB1 := Lib.hid hb1
    clear hO hB hwr hb0 hb1
    by_cases hkn : k < n
    · obtain ⟨b, off, p, rfl, hlt, hp, hpm, hR, c0, c1, c2, c3, c4⟩ := (H.out.next (HB.out.mono (Nat.le_refl _))).row hkn
      have hxB : Below wr.heap.size wr (wr.alloc (.cells #[.int .i64 p.fr, .int .i64 p.to, .int .i64 p.du, .int .i64 p.se, .slice p.A p.n p.c] 41)) := (Below.refl _ _).alloc (Nat.le_refl _) _
      have hx0 : Blk (wr.alloc (.cells #[.int .i64 p.fr, .int .i64 p.to, .int .i64 p.du, .int .i64 p.se, .slice p.A p.n p.c] 41)) wr.heap.size 41 #[.int .i64 p.fr, .int .i64 p.to, .int .i64 p.du, .int .i64 p.se, .slice p.A p.n p.c] := Blk.new _ _ _
      have HXB := Lib.hid hxB
      have HX0 := Lib.hid hx0
      have HKC := Lib.hid (Clone8_any p.A p.n p.c p.zs (wr.alloc (.cells #[.int .i64 p.fr, .int .i64 p.to, .int .i64 p.du, .int .i64 p.se, .slice p.A p.n p.c] 41)) (hR.1.alloc _) hR.2.1 (by have := hR.2.2.1; omega))
      have HR := Lib.hid hR
      clear hR hxB hx0
      go_wp2_with (first
        | (go_at_call 18; (with_reducible refine HKC.out.mono ?_); rintro e w1 ⟨A1, c1, rfl, hN, hB1⟩; go_loud (have hW := HW.out; have hs1 := hB1.size; rw [Sm.heap_alloc_size] at hs1; have HN := Lib.hid hN; have N0 := Lib.hid (HX0.out.next hB1); have NB := Lib.hid (HXB.out.trans (hB1.mono (by simp))); clear hN hB1; have d0 := N0.out.cell 0; have d1 := N0.out.cell 1; have d2 := N0.out.cell 2; have d3 := N0.out.cell 3; have d4 := N0.out.cell 4; have f4 := N0.out.frozen 4; (simp only [List.getElem?_toArray, List.getElem?_cons_zero, List.getElem?_cons_succ] at d0 d1 d2 d3 d4)))
        | (at_builtin; go_loud (have hBW := fun o => (NB.out.setCell (p := ⟨wr.heap.size, 4, none⟩) (Nat.le_refl _) (.slice A1 p.n c1)).alloc (by simp [World.setCell]; omega) o; have hO2 := fun o => HO.out.next (hBW o); refine wpList_append_lies _ rfl _ _ 31 rfl (w.heap.size + 1 + 1) 41 i0 (.agg #[.int .i64 0, .int .i64 0, .int .i64 0, .int .i64 0, .slice none 0 0]) 5 56 Tryz.underlying31 hi hz0 hz1 hz2 rfl (by decide) (.slice A' k c') k (flat L') rfl (own_n HL.out (hO2 _).1) ⟨w1.heap.size, 0, none⟩ 1 1 (Pc.cells ⟨p.fr, p.to, p.du, p.se, A1, p.n, c1, p.zs⟩) rfl rfl (World.news_of_block (new_at (by simp [World.setCell]))) (by intro u hu; simp [Pc.cells] at hu; rcases hu with rfl | rfl | rfl | rfl | rfl <;> rfl) (by decide) (by unfold maxLen; omega) (by omega) (by simp [World.setCell]; omega) (w1.heap.size + 1) (by simp [World.setCell]) ?_); intro g' cap w3 hown3 hg3 hat hlt))
      go_roundw
      case rel =>
        have hW := HW.out
        have hq : Pc.Owns ((w1.setCell ⟨wr.heap.size, 4, none⟩ (.slice A1 p.n c1)).alloc (.cells #[.int .i64 p.fr, .int .i64 p.to, .int .i64 p.du, .int .i64 p.se, .slice A1 p.n c1] 41)) (wr.heap.size + 1) ⟨p.fr, p.to, p.du, p.se, A1, p.n, c1, p.zs⟩ := by
          have h1 : Pc.Owns w1 (wr.heap.size + 1) ⟨p.fr, p.to, p.du, p.se, A1, p.n, c1, p.zs⟩ := ⟨by have := HN.out; rw [Sm.heap_alloc_size] at this; exact this, HR.out.2.2.1, HR.out.2.2.2⟩
          exact (h1.grown (grown_set w1 wr.heap.size 4 _) N0.out (by decide)).next ((Below.refl _ _).alloc (Nat.le_refl _) _)
        refine ⟨k + 1, L' ++ [⟨p.fr, p.to, p.du, p.se, A1, p.n, c1, p.zs⟩], by omega, by go_num, ?_, (hO2 _).push (by rw [HL.out]; exact hown3) hg3 (hq.down (by omega)) ?_, ((HB.out.trans ((hBW _).mono (by omega))).grown hg3 (by simp [World.setCell]; omega) (fun j hj => by have := ((hO2 (.cells #[] 0)).lt j hj).1; omega)), ?_, ?_, ?_⟩
        · rw [List.map_append, HKY.out, List.take_add_one, hp, List.map_append]; rfl
        · intro p' hp' x hx hx2
          have h1 := (HO.out.2.1 p' hp').lt hx
          have h2 := hq.lt hx2
          omega
        · have := hg3.size
          simp [World.setCell] at this
          omega
        · exact Blk.grown (HB0.out.next (hBW _)) hg3 (own_blk_ne HO.out.1 HB0.out (by decide))
        · exact Blk.grown (HB1.out.next (hBW _)) hg3 (own_blk_ne HO.out.1 HB1.out (by decide))
      case measure => simp [intOf]; omega
    · obtain rfl : k = n := by omega
      have d0 := HB0.out.cell 0
      have d1 := HB0.out.cell 1
      have d2 := HB0.out.cell 2
      have f2 := HB0.out.frozen 2
      have m0 := HB1.out.cell 0
      have m1 := HB1.out.cell 1
      have m2 := HB1.out.cell 2
      have g0 := HB1.out.frozen 0
      have g1 := HB1.out.frozen 1
      have g2 := HB1.out.frozen 2
      simp only [busC, List.getElem?_toArray, List.getElem?_cons_zero, List.getElem?_cons_succ] at d0 d1 d2 m0 m1 m2
      go_wp2_with (fail)
      have hW := HW.out
      have hO3 := (HO.out.grown (grown_set wr w.heap.size 2 (.slice A' k c')) HB0.out (by decide) (by decide))
      have hb1 := HB1.out.far (by simp) (.slice A' k c') (p := ⟨w.heap.size, 2, none⟩)
      have hO4 := ((hO3.grown (grown_set _ (w.heap.size + 1) 0 (.int .i64 now)) hb1 (by decide) (by decide)).grown (grown_set _ (w.heap.size + 1) 1 (.int .i64 ser)) (hb1.set_ 0 _) (by decide) (by decide)).grown (grown_set _ (w.heap.size + 1) 2 (.slice A' k c')) ((hb1.set_ 0 _).set_ 1 _) (by decide) (by decide)
      refine bodyPost_ret (results_cell_row Tryz.results17 _ _ (w.heap.size + 1) _ _ (0, 0) _ rfl (((hb1.set_ 0 _).set_ 1 _).set_ 2 _) Tryz.underlying33 rfl (by kernel_rfl)) rfl ⟨A', c', L', rfl, hO4.down (by omega), ?_, ?_⟩
      · rw [HKY.out, ← H.out.1, List.take_length]
      · exact (((HB.out.setCell (p := ⟨w.heap.size, 2, none⟩) (Nat.le_refl _) _).setCell (by simp) _).setCell (by simp) _).setCell (by simp) _
end Go.Proofs.YtofeoeknmlkjgaaGreat.Bs
end
section
/- bus.Step over a contract of slices.SortStableFunc. -/
set_option linter.unusedVariables false
namespace Go.Proofs.YtofeoeknmlkjgaaGreat.Bs
open Go.RowKit Go.Proofs.YtofeoeknmlkjgaaGreat Crc Sm

def Sorts (R : List Pc → List Pc → Prop) (M : List Pc) : Prop := ∀ (W : World) (b : Nat) (v : Value), b ≤ W.heap.size → W.ownsRow b 41 5 v M.length (flat M) →
  Calls Tryz.prog 19 #[v, .func (.func 20) #[] #[]] W fun e W' =>
    e = .returned (.tuple #[]) ∧ ∃ M' : List Pc, M'.Perm M ∧ R M M' ∧ W'.ownsRow b 41 5 v M'.length (flat M') ∧ W.grownBy W' v.ownBlock

def dueBy (now : Int) (p : Pc) : Bool := decide (p.du ≤ now)
def StepRel (wc : World) (L : List Pc) (now : Int) (s8 s9 i : Value) (wr : World) : Prop :=
  ∃ k : Nat, k ≤ L.length ∧ i = .int .i64 k ∧ wr.ownsRow wc.heap.size 41 5 s8 ((L.take k).filter (dueBy now)).length (flat ((L.take k).filter (dueBy now))) ∧
    wr.ownsRow wc.heap.size 41 5 s9 ((L.take k).filter (fun p => !dueBy now p)).length (flat ((L.take k).filter (fun p => !dueBy now p))) ∧
    (∀ x, s8.ownBlock = some x → s9.ownBlock ≠ some x) ∧ Below wc.heap.size wc wr

theorem Apart.symm {p q : Pc} (h : Apart p q) : Apart q p := fun x hx hy => h x hy hx
theorem QO.of {w : World} {b b2 : Nat} {v : Value} {M : List Pc} (h : w.ownsRow b2 41 5 v M.length (flat M)) (hb : b ≤ b2) (ho : ∀ p ∈ M, p.Owns w b) (hp : M.Pairwise Apart) : QO w b v M := by
  refine ⟨⟨h.1, ?_⟩, ho, hp⟩
  rcases h.2 with h1 | ⟨g, cap, cur, hv, hg, r⟩
  · exact .inl h1
  · exact .inr ⟨g, cap, cur, hv, Nat.le_trans hb hg, r⟩
theorem own_al {w : World} {b sz m : Nat} {e : TypeId} {u : Value} {xs : List Value} (h : w.ownsRow b e sz u m xs) (o : Obj) : (w.alloc o).ownsRow b e sz u m xs := own_below h ((Below.refl _ _).alloc (Nat.le_refl _) o) (fun x hx => (h.lt x hx).2)
theorem fil_take {L : List Pc} {k : Nat} {p : Pc} (f : Pc → Bool) (h : L[k]? = some p) : (L.take (k + 1)).filter f = (L.take k).filter f ++ (if f p = true then [p] else []) := by
  rw [List.take_add_one, h, List.filter_append]
  congr 1
  simp [List.filter_cons]
theorem step_results {W : World} {g : Nat} {cs : Array Value} (h : Blk W g 33 cs) (h3c : cs.size = 3) (v e : Value) (tmps : Array Value) (h4 : tmps.getD 4 undef = .pointer (some ⟨g, 0, none⟩)) (h5 : tmps.getD 5 undef = v) (h6 : tmps.getD 6 undef = e) :
    (results Tryz.f8 tmps).run Tryz.prog W = .ok (.tuple #[.agg cs, v, e]) W := by
  have h4' : tmps[4]?.getD undef = .pointer (some ⟨g, 0, none⟩) := by simpa using h4
  have h5' : tmps[5]?.getD undef = v := by simpa using h5
  have h6' : tmps[6]?.getD undef = e := by simpa using h6
  simp [results, Tryz.results8, h4', h5', h6', asAddr, run_loadVar_row (P := Tryz.prog) W g _ 33 cs (0, 0) _ h Tryz.underlying33 rfl (by rw [h3c]; kernel_rfl)]

set_option maxRecDepth 100000 in
set_option maxHeartbeats 8000000 in
theorem Step_any (R : List Pc → List Pc → Prop) (now ser t : Int) (A : Option Addr) (n c : Nat) (L : List Pc) (w : World) (h : QR w A n c L) (hn : n ≤ 400) (ht : now ≤ t) (ht2 : t ≤ 1099511627776) (hs : ∀ M : List Pc, M.length ≤ n → Sorts R M) :
    Calls Tryz.prog 8 #[.agg #[.int .i64 now, .int .i64 ser, .slice A n c], .int .i64 t] w fun e w' =>
      ∃ (A2 : Option Addr) (n2 c2 : Nat) (A3 : Option Addr) (n3 c3 : Nat) (L' M : List Pc), e = .returned (.tuple #[.agg #[.int .i64 t, .int .i64 ser, .slice A2 n2 c2], .slice A3 n3 c3, .int .i64 0]) ∧ L'.map Pc.key = L.map Pc.key ∧
        QO w' w.heap.size (.slice A2 n2 c2) (L'.filter (fun p => !dueBy t p)) ∧ n2 = (L'.filter (fun p => !dueBy t p)).length ∧ QO w' w.heap.size (.slice A3 n3 c3) M ∧ n3 = M.length ∧ M.Perm (L'.filter (dueBy t)) ∧ R (L'.filter (dueBy t)) M ∧ Below w.heap.size w w' := by
  obtain ⟨i0, hi, hz0, hz1, hz2⟩ := info_parts infoParcel
  have hBl : Below w.heap.size w ((w.alloc (.cells #[.int .i64 now, .int .i64 ser, .slice A n c] 33)).alloc (.cells #[.int .i64 0, .int .i64 0, .slice none 0 0] 33)) := ((Below.refl _ _).alloc (by omega) _).alloc (by simp) _
  have hb0 : Blk ((w.alloc (.cells #[.int .i64 now, .int .i64 ser, .slice A n c] 33)).alloc (.cells #[.int .i64 0, .int .i64 0, .slice none 0 0] 33)) w.heap.size 33 #[.int .i64 now, .int .i64 ser, .slice A n c] := (Blk.new _ _ _).alloc _
  have hb1 : Blk ((w.alloc (.cells #[.int .i64 now, .int .i64 ser, .slice A n c] 33)).alloc (.cells #[.int .i64 0, .int .i64 0, .slice none 0 0] 33)) (w.heap.size + 1) 33 #[.int .i64 0, .int .i64 0, .slice none 0 0] := Blk.at_ _ _ _ _ (by simp)
  have hkc := fun W (hW : Below w.heap.size w W) => copied_any now ser A n c L W (h.next hW) (by omega)
  have hkl := h.1
  have HKL := Lib.hid hkl
  have KC := Lib.hid hkc
  have HBl := Lib.hid hBl
  have HB0 := Lib.hid hb0
  have HB1 := Lib.hid hb1
  have HS := Lib.hid hs
  clear hkc hBl hb0 hb1 h hkl hs
  have hfd : ∀ (W : World) (v : Value), (Instr.field 33 (.agg #[.int .i64 now, .int .i64 ser, v]) 2).run Tryz.prog W = .ok v W := fun _ _ => by kernel_rfl
  have q1 : decide (t < now) = false := by simpa using ht
  have q2 : decide (1099511627776 < t) = false := by simpa using ht2
  go_enter Tryz.func8, Tryz.ntmps8
  go_wp2_with (first
    | (go_at_call 17; (with_reducible refine (KC.out _ HBl.out).mono ?_); rintro e wc ⟨A', c', L', rfl, hO, hkey, hB2⟩; go_loud (have N0 := Lib.hid (HB0.out.next hB2); have N1 := Lib.hid (HB1.out.next hB2); have NB := Lib.hid (HBl.out.trans (hB2.mono (by simp; omega))); have HO := Lib.hid hO; have HY := Lib.hid hkey; clear hO hkey hB2)))
  have hl : L'.length = n := by have := congrArg List.length HY.out; simpa [HKL.out] using this
  clear HB0 HB1 HBl KC
  go_loopw [8, 9, 26] (fun s8 s9 i wr => StepRel wc L' t s8 s9 i wr) (fun _ _ i _ => n - (intOf i).toNat)
  case atStart => exact ⟨0, Nat.zero_le _, rfl, World.ownsRow_nil _ _ _ _, World.ownsRow_nil _ _ _ _, (fun x hx => by cases hx), Below.refl _ _⟩
  case round =>
    obtain ⟨k, hk, rfl, ho8, ho9, hne, hB⟩ := hrel
    obtain ⟨A8, c8, hv8⟩ := own_shape ho8
    obtain ⟨A9, c9, hv9⟩ := own_shape ho9
    have hA := ((HO.out.down (Nat.le_refl _)).next hB)
    have hlen8 : ((L'.take k).filter (dueBy t)).length ≤ k := Nat.le_trans (List.length_filter_le _ _) (by simp; omega)
    have hlen9 : ((L'.take k).filter (fun p => !dueBy t p)).length ≤ k := Nat.le_trans (List.length_filter_le _ _) (by simp; omega)
    by_cases hkn : k < n
    · have hAll : QR wr A' n c' L' := by
        have h := hA
        rw [← hl] at h ⊢
        exact h.reads
      obtain ⟨b, off, p, hAe, hlt, hp, hpm, hR, c0, c1, c2, c3, c4⟩ := hAll.row hkn
      subst hAe
      subst hv8 hv9
      have HO8 := Lib.hid ho8
      have HO9 := Lib.hid ho9
      have HNE := Lib.hid hne
      have HB := Lib.hid hB
      have hwr := hB.size
      clear ho8 ho9 hne hB hA hAll hR
      by_cases hdu : p.du ≤ t
      · have q3 : decide (p.du ≤ t) = true := by simpa using hdu
        have q4 : dueBy t p = true := q3
        go_wp2_with (first
          | (at_builtin; go_loud (refine wpList_append_lies _ rfl _ _ 31 rfl wc.heap.size 41 i0 (.agg #[.int .i64 0, .int .i64 0, .int .i64 0, .int .i64 0, .slice none 0 0]) 5 56 Tryz.underlying31 hi hz0 hz1 hz2 rfl (by decide) (.slice A8 _ c8) _ _ rfl (own_al (own_al HO8.out _) _) ⟨wr.heap.size + 1, 0, none⟩ 1 1 (Pc.cells p) rfl rfl (World.news_of_block (new_at (by simp))) (by intro u hu; simp [Pc.cells] at hu; rcases hu with rfl | rfl | rfl | rfl | rfl <;> rfl) (by decide) (by unfold maxLen; omega) (by omega) (by simp; omega) (wr.heap.size + 1 + 1) (by simp) ?_); intro g' cap w3 hown3 hg3 hat hlt3))
        go_roundw
        case rel =>
          have e1 := fil_take (dueBy t) hp
          have e2 := fil_take (fun p => !dueBy t p) hp
          simp only [q4, if_true, Bool.not_true, Bool.not_false, Bool.false_eq_true, if_false, List.append_nil] at e1 e2
          have hnn : (Value.slice A9 ((L'.take k).filter (fun p => !dueBy t p)).length c9).ownBlock = none ∨ (Value.slice A9 ((L'.take k).filter (fun p => !dueBy t p)).length c9).ownBlock ≠ (Value.slice A8 ((L'.take k).filter (dueBy t)).length c8).ownBlock := by
            cases hob : (Value.slice A9 ((L'.take k).filter (fun p => !dueBy t p)).length c9).ownBlock with
            | none => exact .inl rfl
            | some x => exact .inr (fun e => HNE.out x e.symm hob)
          have hfr : ∀ x, (Value.slice A9 ((L'.take k).filter (fun p => !dueBy t p)).length c9).ownBlock = some x → x ≠ g' := by
            intro x hx e
            subst e
            rcases hat with h1 | h1
            · exact HNE.out x h1 hx
            · have := (HO9.out.lt x hx).2
              omega
          have hBB : Below wc.heap.size wc w3 := ((HB.out.alloc (by omega) _).alloc (by simp; omega) _).grown hg3 (by simp; omega) (fun j hj => (HO8.out.lt j hj).1)
          have ho1 : w3.ownsRow wc.heap.size 41 5 (.slice (some ⟨g', 0, none⟩) (((L'.take k).filter (dueBy t)).length + 1) cap) ((L'.take (k + 1)).filter (dueBy t)).length (flat ((L'.take (k + 1)).filter (dueBy t))) := by
            rw [e1, List.length_append, flat_app, flat_one]; exact hown3
          have ho2 : w3.ownsRow wc.heap.size 41 5 (.slice A9 ((L'.take k).filter (fun p => !dueBy t p)).length c9) ((L'.take (k + 1)).filter (fun p => !dueBy t p)).length (flat ((L'.take (k + 1)).filter (fun p => !dueBy t p))) := by
            rw [e2]
            exact (own_al (own_al HO9.out _) _).kept hg3 hnn
          exact ⟨k + 1, by omega, by go_num, ho1, ho2, fun x hx hx2 => by cases hx; exact hfr _ hx2 rfl, hBB⟩
        case measure => simp [intOf]; omega
      · have q3 : decide (p.du ≤ t) = false := by simpa using hdu
        have q4 : dueBy t p = false := q3
        go_wp2_with (first
          | (at_builtin; go_loud (refine wpList_append_lies _ rfl _ _ 31 rfl wc.heap.size 41 i0 (.agg #[.int .i64 0, .int .i64 0, .int .i64 0, .int .i64 0, .slice none 0 0]) 5 56 Tryz.underlying31 hi hz0 hz1 hz2 rfl (by decide) (.slice A9 _ c9) _ _ rfl (own_al (own_al HO9.out _) _) ⟨wr.heap.size + 1, 0, none⟩ 1 1 (Pc.cells p) rfl rfl (World.news_of_block (new_at (by simp))) (by intro u hu; simp [Pc.cells] at hu; rcases hu with rfl | rfl | rfl | rfl | rfl <;> rfl) (by decide) (by unfold maxLen; omega) (by omega) (by simp; omega) (wr.heap.size + 1 + 1) (by simp) ?_); intro g' cap w3 hown3 hg3 hat hlt3))
        go_roundw
        case rel =>
          have e1 := fil_take (dueBy t) hp
          have e2 := fil_take (fun p => !dueBy t p) hp
          simp only [q4, if_true, Bool.not_true, Bool.not_false, Bool.false_eq_true, if_false, List.append_nil] at e1 e2
          have hnn : (Value.slice A8 ((L'.take k).filter (dueBy t)).length c8).ownBlock = none ∨ (Value.slice A8 ((L'.take k).filter (dueBy t)).length c8).ownBlock ≠ (Value.slice A9 ((L'.take k).filter (fun p => !dueBy t p)).length c9).ownBlock := by
            cases hob : (Value.slice A8 ((L'.take k).filter (dueBy t)).length c8).ownBlock with
            | none => exact .inl rfl
            | some x => exact .inr (fun e => HNE.out x hob e.symm)
          have hfr : ∀ x, (Value.slice A8 ((L'.take k).filter (dueBy t)).length c8).ownBlock = some x → x ≠ g' := by
            intro x hx e
            subst e
            rcases hat with h1 | h1
            · exact HNE.out x hx h1
            · have := (HO8.out.lt x hx).2
              omega
          have hBB : Below wc.heap.size wc w3 := ((HB.out.alloc (by omega) _).alloc (by simp; omega) _).grown hg3 (by simp; omega) (fun j hj => (HO9.out.lt j hj).1)
          have ho1 : w3.ownsRow wc.heap.size 41 5 (.slice (some ⟨g', 0, none⟩) (((L'.take k).filter (fun p => !dueBy t p)).length + 1) cap) ((L'.take (k + 1)).filter (fun p => !dueBy t p)).length (flat ((L'.take (k + 1)).filter (fun p => !dueBy t p))) := by
            rw [e2, List.length_append, flat_app, flat_one]; exact hown3
          have ho2 : w3.ownsRow wc.heap.size 41 5 (.slice A8 ((L'.take k).filter (dueBy t)).length c8) ((L'.take (k + 1)).filter (dueBy t)).length (flat ((L'.take (k + 1)).filter (dueBy t))) := by
            rw [e1]
            exact (own_al (own_al HO8.out _) _).kept hg3 hnn
          exact ⟨k + 1, by omega, by go_num, ho2, ho1, fun x hx hx2 => by cases hx2; exact hfr _ hx rfl, hBB⟩
        case measure => simp [intOf]; omega
    · obtain rfl : k = n := by omega
      have htk : L'.take k = L' := by rw [← hl]; exact List.take_length
      rw [htk] at ho8 ho9 hv8 hv9
      subst hv8 hv9
      have n0 := (N0.out.next hB)
      have n1 := (N1.out.next hB)
      have hsl := n1.lt
      have hlen : (L'.filter (dueBy t)).length ≤ k := by rw [← hl]; exact List.length_filter_le _ _
      have hsort := HS.out _ hlen wr wc.heap.size _ hB.size ho8
      have HSO := Lib.hid hsort
      have HO8 := Lib.hid ho8
      have HO9 := Lib.hid ho9
      have HNE := Lib.hid hne
      have HB := Lib.hid hB
      have HN0 := Lib.hid n0
      have HN1 := Lib.hid n1
      clear ho8 ho9 hne hB n0 n1 hsort hA hlen8 hlen9 HS
      go_wp2_with (first
        | (go_at_call 19; (with_reducible refine HSO.out.mono ?_); rintro e w4 ⟨rfl, M', hperm, hR, hown4, hg4⟩; go_loud (have HX0 := Lib.hid (Blk.grown HN0.out hg4 (own_blk_ne HO8.out HN0.out (by decide))); have HX1 := Lib.hid (Blk.grown HN1.out hg4 (own_blk_ne HO8.out HN1.out (by decide))); have HPM := Lib.hid hperm; have HR := Lib.hid hR; have HO4 := Lib.hid hown4; have HG4 := Lib.hid hg4; clear hperm hR hown4 hg4; have e1 := HX0.out.cell 1; have m0 := HX1.out.cell 0; have m1 := HX1.out.cell 1; have m2 := HX1.out.cell 2; have g0 := HX1.out.frozen 0; have g1 := HX1.out.frozen 1; have g2 := HX1.out.frozen 2; (simp only [List.getElem?_toArray, List.getElem?_cons_zero, List.getElem?_cons_succ] at e1 m0 m1 m2))))
      have hml : M'.length = (L'.filter (dueBy t)).length := HPM.out.length_eq
      have hown : ∀ p ∈ L', p.Owns w4 w.heap.size := by
        intro p hp
        have h1 := ((HO.out.2.1 p hp).next HB.out).down (show w.heap.size ≤ _ by simp; omega)
        exact ⟨h1.1.kept HG4.out (own_own_ne h1.1 HO8.out (by decide)), h1.2⟩
      have hwc := NB.out.size
      have hq8 : QO w4 w.heap.size (.slice A8 (L'.filter (dueBy t)).length c8) M' := QO.of HO4.out hwc (fun p hp => hown p ((List.mem_filter.1 (HPM.out.mem_iff.1 hp)).1))
        ((HPM.out.pairwise_iff (fun h => h.symm)).2 (HO.out.2.2.filter _))
      have hnn : (Value.slice A9 (L'.filter (fun p => !dueBy t p)).length c9).ownBlock = none ∨ (Value.slice A9 (L'.filter (fun p => !dueBy t p)).length c9).ownBlock ≠ (Value.slice A8 (L'.filter (dueBy t)).length c8).ownBlock := by
        cases hob : (Value.slice A9 (L'.filter (fun p => !dueBy t p)).length c9).ownBlock with
        | none => exact .inl rfl
        | some x => exact .inr (fun e => HNE.out x e.symm hob)
      have hq9 : QO w4 w.heap.size (.slice A9 (L'.filter (fun p => !dueBy t p)).length c9) (L'.filter (fun p => !dueBy t p)) := QO.of (HO9.out.kept HG4.out hnn) hwc (fun p hp => hown p ((List.mem_filter.1 hp).1)) (HO.out.2.2.filter _)
      have st : ∀ (v : Value) (M : List Pc), QO w4 w.heap.size v M → QO (((w4.setCell ⟨w.heap.size + 1, 0, none⟩ (.int .i64 t)).setCell ⟨w.heap.size + 1, 1, none⟩ (.int .i64 ser)).setCell ⟨w.heap.size + 1, 2, none⟩ (.slice A9 (L'.filter (fun p => !dueBy t p)).length c9)) w.heap.size v M := fun v M h =>
        ((h.grown (grown_set _ (w.heap.size + 1) 0 _) HX1.out (by decide) (by decide)).grown (grown_set _ (w.heap.size + 1) 1 _) (HX1.out.set_ 0 _) (by decide) (by decide)).grown (grown_set _ (w.heap.size + 1) 2 _) ((HX1.out.set_ 0 _).set_ 1 _) (by decide) (by decide)
      have hb4 : Below w.heap.size w w4 := (NB.out.trans (HB.out.mono hwc)).grown HG4.out (by have := HB.out.size; omega) (fun j hj => by have := (HO8.out.lt j hj).1; omega)
      refine bodyPost_ret (v := .tuple #[.agg #[.int .i64 t, .int .i64 ser, .slice A9 (L'.filter (fun p => !dueBy t p)).length c9], .slice A8 (L'.filter (dueBy t)).length c8, .int .i64 0]) (step_results (((HX1.out.set_ 0 _).set_ 1 _).set_ 2 _) rfl _ _ _ rfl rfl rfl) rfl
        ⟨_, _, _, _, _, _, L', M', rfl, HY.out, st _ _ hq9, rfl, st _ _ hq8, hml.symm, HPM.out, HR.out, ?_⟩
      exact ((hb4.setCell (p := ⟨w.heap.size + 1, 0, none⟩) (Nat.le_succ _) _).setCell (p := ⟨w.heap.size + 1, 1, none⟩) (Nat.le_succ _) _).setCell (p := ⟨w.heap.size + 1, 2, none⟩) (Nat.le_succ _) _
end Go.Proofs.YtofeoeknmlkjgaaGreat.Bs
end
section
/- SortStableFunc of at most one row. -/
set_option linter.unusedVariables false
namespace Go.Proofs.YtofeoeknmlkjgaaGreat.Bs
open Go.RowKit Go.Proofs.YtofeoeknmlkjgaaGreat Crc Sm

set_option maxRecDepth 100000 in
theorem insertion1_any (A : Option Addr) (n c : Nat) (f : Value) (hn : n ≤ 1) (w : World) :
    Calls Tryz.prog 60 #[.slice A n c, .int .i64 0, .int .i64 n, f] w fun e w' => e = .returned (.tuple #[]) ∧ w' = w := by
  have q1 : ((1 : Int) < (n : Int)) = False := by simp; omega
  go_enter Tryz.func60, Tryz.ntmps60
  go_wp2_with fail
  go_loopw [8] (fun i wr => i = .int .i64 1 ∧ wr = w) (fun i _ => 0)
  case atStart => exact ⟨rfl, rfl⟩
  case round =>
    obtain ⟨rfl, rfl⟩ := hrel
    go_wp2_with fail
    go_end0
    exact ⟨rfl, rfl⟩

set_option maxRecDepth 100000 in
theorem stable1_any (A : Option Addr) (n c : Nat) (f : Value) (hn : n ≤ 1) (w : World) :
    Calls Tryz.prog 37 #[.slice A n c, .int .i64 n, f] w fun e w' => e = .returned (.tuple #[]) ∧ w' = w := by
  have K := Lib.hid (fun W => insertion1_any A n c f hn W)
  have q1 : ((20 : Int) ≤ (n : Int)) = False := by simp; omega
  have q2 : ((20 : Int) < (n : Int)) = False := by simp; omega
  go_enter Tryz.func37, Tryz.ntmps37
  go_wp2_with fail
  go_loopw [7, 8] (fun a b wr => a = .int .i64 0 ∧ b = .int .i64 20 ∧ wr = w) (fun _ _ _ => 0)
  case atStart => exact ⟨rfl, rfl, rfl⟩
  case round =>
    obtain ⟨rfl, rfl, rfl⟩ := hrel
    go_wp2_with (first | (go_at_call 60; (with_reducible refine (K.out _).mono ?_); rintro e w2 ⟨rfl, rfl⟩))
    go_loopw [6] (fun a wr => a = .int .i64 20 ∧ wr = w2) (fun _ _ => 0)
    case atStart => exact ⟨rfl, rfl⟩
    case round =>
      obtain ⟨rfl, rfl⟩ := hrel
      go_wp2_with fail
      go_end0
      exact ⟨rfl, rfl⟩

set_option maxRecDepth 100000 in
theorem sorts1 (M : List Pc) (hM : M.length ≤ 1) : Sorts (fun M M' => M' = M) M := by
  intro W b v hb hown
  obtain ⟨A, c, rfl⟩ := own_shape hown
  have K := Lib.hid (fun W => stable1_any A M.length c (.func (.func 20) #[] #[]) hM W)
  have HO := Lib.hid hown
  clear hown
  go_enter Tryz.func19, Tryz.ntmps19
  go_wp2_with (first | (go_at_call 37; (with_reducible refine (K.out _).mono ?_); rintro e w2 ⟨rfl, rfl⟩))
  go_end0
  exact ⟨rfl, M, List.Perm.refl _, rfl, HO.out, grown_refl _ _⟩
end Go.Proofs.YtofeoeknmlkjgaaGreat.Bs
end
section
/- bus.find: the first parcel of a number. -/
set_option linter.unusedVariables false
namespace Go.Proofs.YtofeoeknmlkjgaaGreat.Bs
open Go.RowKit Go.Proofs.YtofeoeknmlkjgaaGreat Crc Sm

set_option maxRecDepth 100000 in
theorem findc_any (p : Pc) (g : Nat) (s : Int) (w : World) (hg : g < w.heap.size) (hc : w.cell? ⟨g, 0, none⟩ = some (.int .i64 s)) :
    Calls Tryz.prog 41 #[.agg #[.int .i64 p.fr, .int .i64 p.to, .int .i64 p.du, .int .i64 p.se, .slice p.A p.n p.c], .pointer (some ⟨g, 0, none⟩)] w fun e w' => e = .returned (.bool (decide (p.se = s))) ∧ Below w.heap.size w w' := by
  have c1 : (w.alloc (.cells #[.int .i64 p.fr, .int .i64 p.to, .int .i64 p.du, .int .i64 p.se, .slice p.A p.n p.c] 41)).cell? ⟨g, 0, none⟩ = some (.int .i64 s) := (((Below.refl w.heap.size w).alloc (Nat.le_refl _) _).cell (p := ⟨g, 0, none⟩) hg).trans hc
  go_enter Tryz.func41, Tryz.ntmps41
  go_wp2_with fail
  go_ret
  exact ⟨rfl, (Below.refl _ _).alloc (Nat.le_refl _) _⟩

def Found (L : List Pc) (s k : Int) : Prop := (k = -1 ∧ ∀ p ∈ L, p.se ≠ s) ∨ ∃ (i : Nat) (p : Pc), k = i ∧ L[i]? = some p ∧ p.se = s ∧ ∀ (j : Nat) (q : Pc), j < i → L[j]? = some q → q.se ≠ s
def IdxRel (w : World) (L : List Pc) (s : Int) (i : Value) (wr : World) : Prop := ∃ k : Nat, k ≤ L.length ∧ i = .int .i64 k ∧ (∀ (j : Nat) (q : Pc), j < k → L[j]? = some q → q.se ≠ s) ∧ Below w.heap.size w wr

set_option maxRecDepth 100000 in
set_option maxHeartbeats 4000000 in
theorem index_any (A : Option Addr) (n c : Nat) (L : List Pc) (g : Nat) (s : Int) (w : World) (h : QR w A n c L) (hn : n ≤ 100000) (hg : g < w.heap.size) (hc : w.cell? ⟨g, 0, none⟩ = some (.int .i64 s)) :
    Calls Tryz.prog 40 #[.slice A n c, .func (.func 41) #[] #[.pointer (some ⟨g, 0, none⟩)]] w fun e w' => (∃ k : Int, e = .returned (.int .i64 k) ∧ Found L s k) ∧ Below w.heap.size w w' := by
  have H := Lib.hid h
  have HC := Lib.hid hc
  have hl := h.1
  clear h hc
  go_enter Tryz.func40, Tryz.ntmps40
  go_wp2_with fail
  go_loopw [8] (fun i wr => IdxRel w L s i wr) (fun i _ => n - (intOf i).toNat)
  case atStart => exact ⟨0, Nat.zero_le _, rfl, (fun j q hj => by omega), Below.refl _ _⟩
  case round =>
    obtain ⟨k, hk, rfl, hne, hB⟩ := hrel
    by_cases hkn : k < n
    · obtain ⟨b, off, p, rfl, hlt, hp, hpm, hR, c0, c1, c2, c3, c4⟩ := (H.out.next hB).row hkn
      have HK := Lib.hid (findc_any p g s wr (Nat.lt_of_lt_of_le hg hB.size) ((hB.cell (p := ⟨g, 0, none⟩) hg).trans HC.out))
      have HB := Lib.hid hB
      have HNE := Lib.hid hne
      have hsz := hB.size
      clear hR hB hne
      by_cases hs : p.se = s
      · have q1 : decide (p.se = s) = true := by simpa using hs
        rw [q1] at HK
        have HSE := Lib.hid hs
        clear hs q1
        go_wp2_with (first | ((with_reducible refine HK.out.mono ?_); rintro e w2 ⟨rfl, hB2⟩))
        go_ret
        exact ⟨⟨k, rfl, .inr ⟨k, p, rfl, hp, HSE.out, HNE.out⟩⟩, HB.out.trans (hB2.mono hsz)⟩
      · have q1 : decide (p.se = s) = false := by simpa using hs
        rw [q1] at HK
        go_wp2_with (first | ((with_reducible refine HK.out.mono ?_); rintro e w2 ⟨rfl, hB2⟩))
        go_roundw
        case rel => 
          refine ⟨k + 1, by omega, by go_num, fun j q hj hq => ?_, HB.out.trans (hB2.mono hsz)⟩
          by_cases hjk : j = k
          · subst hjk; rw [hp] at hq; cases hq; exact hs
          · exact HNE.out j q (by omega) hq
        case measure => simp [intOf]; omega
    · obtain rfl : k = n := by omega
      go_wp2_with fail
      go_ret
      refine ⟨⟨-1, rfl, .inl ⟨rfl, fun p hp => ?_⟩⟩, hB⟩
      obtain ⟨j, hj⟩ := List.mem_iff_getElem?.1 hp
      have : j < L.length := (List.getElem?_eq_some_iff.1 hj).1
      exact hne j p (by omega) hj

set_option maxRecDepth 100000 in
theorem find_any (now ser s : Int) (A : Option Addr) (n c : Nat) (L : List Pc) (w : World) (h : QR w A n c L) (hn : n ≤ 100000) :
    Calls Tryz.prog 26 #[.agg #[.int .i64 now, .int .i64 ser, .slice A n c], .int .i64 s] w fun e w' => (∃ k : Int, e = .returned (.int .i64 k) ∧ Found L s k) ∧ Below w.heap.size w w' := by
  have hB : Below w.heap.size w ((w.alloc (.cells #[.int .i64 now, .int .i64 ser, .slice A n c] 33)).alloc (.cells #[.int .i64 s] 3)) := ((Below.refl _ _).alloc (Nat.le_refl _) _).alloc (by simp) _
  have HK := Lib.hid (index_any A n c L (w.heap.size + 1) s ((w.alloc (.cells #[.int .i64 now, .int .i64 ser, .slice A n c] 33)).alloc (.cells #[.int .i64 s] 3)) (h.next hB) hn (by simp) (by simp))
  have HB := Lib.hid hB
  clear hB h
  go_enter Tryz.func26, Tryz.ntmps26
  go_wp2_with (first | (go_at_call 40; (with_reducible refine HK.out.mono ?_); rintro e w2 ⟨⟨k, rfl, hF⟩, hB2⟩))
  go_ret
  exact ⟨⟨k, rfl, hF⟩, HB.out.trans (hB2.mono (by simp; omega))⟩
end Go.Proofs.YtofeoeknmlkjgaaGreat.Bs
end
