/- bus.Step over a contract of slices.SortStableFunc. -/
import Derived.Test.YtdlcjieaoalhoaaBusCopy
import Derived.BigGuard
set_option linter.unusedVariables false
namespace Go.Proofs.Ytdlcjieaoalhoaa.Bs
open Go.RowKit Go.Proofs.Ytdlcjieaoalhoaa Crc Sm

/-- what is asked of SortStableFunc at the rows M -/
def Sorts (R : List Pc → List Pc → Prop) (M : List Pc) : Prop := ∀ (W : World) (b : Nat) (v : Value), b ≤ W.heap.size → W.ownsRow b 35 5 v M.length (flat M) →
  Calls Try.prog 21 #[v, .func (.func 22) #[] #[]] W fun e W' =>
    e = .returned (.tuple #[]) ∧ ∃ M' : List Pc, M'.Perm M ∧ R M M' ∧ W'.ownsRow b 35 5 v M'.length (flat M') ∧ W.grownBy W' v.ownBlock

def dueBy (now : Int) (p : Pc) : Bool := decide (p.du ≤ now)
/-- what holds at the head of Step's loop: 'all' was made at or above B and is done at wc -/
def StepRel (wc : World) (L : List Pc) (now : Int) (s8 s9 i : Value) (wr : World) : Prop :=
  ∃ k : Nat, k ≤ L.length ∧ i = .int .i64 k ∧ wr.ownsRow wc.heap.size 35 5 s8 ((L.take k).filter (dueBy now)).length (flat ((L.take k).filter (dueBy now))) ∧
    wr.ownsRow wc.heap.size 35 5 s9 ((L.take k).filter (fun p => !dueBy now p)).length (flat ((L.take k).filter (fun p => !dueBy now p))) ∧
    (∀ x, s8.ownBlock = some x → s9.ownBlock ≠ some x) ∧ Below wc.heap.size wc wr

theorem Apart.symm {p q : Pc} (h : Apart p q) : Apart q p := fun x hx hy => h x hy hx
theorem QO.of {w : World} {b b2 : Nat} {v : Value} {M : List Pc} (h : w.ownsRow b2 35 5 v M.length (flat M)) (hb : b ≤ b2) (ho : ∀ p ∈ M, p.Owns w b) (hp : M.Pairwise Apart) : QO w b v M := by
  refine ⟨⟨h.1, ?_⟩, ho, hp⟩
  rcases h.2 with h1 | ⟨g, cap, cur, hv, hg, r⟩
  · exact .inl h1
  · exact .inr ⟨g, cap, cur, hv, Nat.le_trans hb hg, r⟩
theorem own_al {w : World} {b sz m : Nat} {e : TypeId} {u : Value} {xs : List Value} (h : w.ownsRow b e sz u m xs) (o : Obj) : (w.alloc o).ownsRow b e sz u m xs := own_below h ((Below.refl _ _).alloc (Nat.le_refl _) o) (fun x hx => (h.lt x hx).2)
theorem fil_take {L : List Pc} {k : Nat} {p : Pc} (f : Pc → Bool) (h : L[k]? = some p) : (L.take (k + 1)).filter f = (L.take k).filter f ++ (if f p = true then [p] else []) := by
  rw [List.take_add_one, h, List.filter_append]
  congr 1
  simp [List.filter_cons]
theorem step_results {W : World} {g : Nat} {cs : Array Value} (h : Blk W g 25 cs) (h3c : cs.size = 3) (v e : Value) (tmps : Array Value) (h4 : tmps.getD 4 undef = .pointer (some ⟨g, 0, none⟩)) (h5 : tmps.getD 5 undef = v) (h6 : tmps.getD 6 undef = e) :
    (results Try.f10 tmps).run Try.prog W = .ok (.tuple #[.agg cs, v, e]) W := by
  have h4' : tmps[4]?.getD undef = .pointer (some ⟨g, 0, none⟩) := by simpa using h4
  have h5' : tmps[5]?.getD undef = v := by simpa using h5
  have h6' : tmps[6]?.getD undef = e := by simpa using h6
  simp [results, Try.results10, h4', h5', h6', asAddr, run_loadVar_row (P := Try.prog) W g _ 25 cs (0, 0) _ h Try.underlying25 rfl (by rw [h3c]; kernel_rfl)]

set_option maxRecDepth 100000 in
set_option maxHeartbeats 8000000 in
theorem Step_any (R : List Pc → List Pc → Prop) (now ser t : Int) (A : Option Addr) (n c : Nat) (L : List Pc) (w : World) (h : QR w A n c L) (hn : n ≤ 400) (ht : now ≤ t) (ht2 : t ≤ 1099511627776) (hs : ∀ M : List Pc, M.length ≤ n → Sorts R M) :
    Calls Try.prog 10 #[.agg #[.int .i64 now, .int .i64 ser, .slice A n c], .int .i64 t] w fun e w' =>
      ∃ (A2 : Option Addr) (n2 c2 : Nat) (A3 : Option Addr) (n3 c3 : Nat) (L' M : List Pc), e = .returned (.tuple #[.agg #[.int .i64 t, .int .i64 ser, .slice A2 n2 c2], .slice A3 n3 c3, .int .i64 0]) ∧ L'.map Pc.key = L.map Pc.key ∧
        QO w' w.heap.size (.slice A2 n2 c2) (L'.filter (fun p => !dueBy t p)) ∧ n2 = (L'.filter (fun p => !dueBy t p)).length ∧ QO w' w.heap.size (.slice A3 n3 c3) M ∧ n3 = M.length ∧ M.Perm (L'.filter (dueBy t)) ∧ R (L'.filter (dueBy t)) M ∧ Below w.heap.size w w' := by
  obtain ⟨i0, hi, hz0, hz1, hz2⟩ := info_parts infoParcel
  have hBl : Below w.heap.size w ((w.alloc (.cells #[.int .i64 now, .int .i64 ser, .slice A n c] 25)).alloc (.cells #[.int .i64 0, .int .i64 0, .slice none 0 0] 25)) := ((Below.refl _ _).alloc (by omega) _).alloc (by simp) _
  have hb0 : Blk ((w.alloc (.cells #[.int .i64 now, .int .i64 ser, .slice A n c] 25)).alloc (.cells #[.int .i64 0, .int .i64 0, .slice none 0 0] 25)) w.heap.size 25 #[.int .i64 now, .int .i64 ser, .slice A n c] := (Blk.new _ _ _).alloc _
  have hb1 : Blk ((w.alloc (.cells #[.int .i64 now, .int .i64 ser, .slice A n c] 25)).alloc (.cells #[.int .i64 0, .int .i64 0, .slice none 0 0] 25)) (w.heap.size + 1) 25 #[.int .i64 0, .int .i64 0, .slice none 0 0] := Blk.at_ _ _ _ _ (by simp)
  have hkc := fun W (hW : Below w.heap.size w W) => copied_any now ser A n c L W (h.next hW) (by omega)
  have hkl := h.1
  have HKL := Lib.hid hkl
  have KC := Lib.hid hkc
  have HBl := Lib.hid hBl
  have HB0 := Lib.hid hb0
  have HB1 := Lib.hid hb1
  have HS := Lib.hid hs
  clear hkc hBl hb0 hb1 h hkl hs
  have hfd : ∀ (W : World) (v : Value), (Instr.field 25 (.agg #[.int .i64 now, .int .i64 ser, v]) 2).run Try.prog W = .ok v W := fun _ _ => by kernel_rfl
  have q1 : decide (t < now) = false := by simpa using ht
  have q2 : decide (1099511627776 < t) = false := by simpa using ht2
  go_enter Try.func10, Try.ntmps10
  go_wp2_with (first
    | (go_at_call 20; (with_reducible refine (KC.out _ HBl.out).mono ?_); rintro e wc ⟨A', c', L', rfl, hO, hkey, hB2⟩; go_loud (have N0 := Lib.hid (HB0.out.next hB2); have N1 := Lib.hid (HB1.out.next hB2); have NB := Lib.hid (HBl.out.trans (hB2.mono (by simp; omega))); have HO := Lib.hid hO; have HY := Lib.hid hkey; clear hO hkey hB2)))
  have hl : L'.length = n := by have := congrArg List.length HY.out; simpa [HKL.out] using this
  clear HB0 HB1 HBl KC
  go_loopw [8, 9, 26] (fun s8 s9 i wr => StepRel wc L' t s8 s9 i wr) (fun _ _ i _ => n - (intOf i).toNat)
  case atStart => exact ⟨0, Nat.zero_le _, rfl, World.ownsRow_nil _ _ _ _, World.ownsRow_nil _ _ _ _, (fun x hx => by cases hx), Below.refl _ _⟩
  case round =>
    obtain ⟨k, hk, rfl, ho8, ho9, hne, hB⟩ := hrel
    obtain ⟨A8, c8, hv8⟩ := own_shape ho8
    obtain ⟨A9, c9, hv9⟩ := own_shape ho9
    have hA := ((HO.out.down (Nat.le_refl _)).next hB)
    have hlen8 : ((L'.take k).filter (dueBy t)).length ≤ k := Nat.le_trans (List.length_filter_le _ _) (by simp; omega)
    have hlen9 : ((L'.take k).filter (fun p => !dueBy t p)).length ≤ k := Nat.le_trans (List.length_filter_le _ _) (by simp; omega)
    by_cases hkn : k < n
    · have hAll : QR wr A' n c' L' := by
        have h := hA
        rw [← hl] at h ⊢
        exact h.reads
      obtain ⟨b, off, p, hAe, hlt, hp, hpm, hR, c0, c1, c2, c3, c4⟩ := hAll.row hkn
      subst hAe
      subst hv8 hv9
      have HO8 := Lib.hid ho8
      have HO9 := Lib.hid ho9
      have HNE := Lib.hid hne
      have HB := Lib.hid hB
      have hwr := hB.size
      clear ho8 ho9 hne hB hA hAll hR
      by_cases hdu : p.du ≤ t
      · have q3 : decide (p.du ≤ t) = true := by simpa using hdu
        have q4 : dueBy t p = true := q3
        go_wp2_with (first
          | (at_builtin; go_loud (refine wpList_append_lies _ rfl _ _ 23 rfl wc.heap.size 35 i0 (.agg #[.int .i64 0, .int .i64 0, .int .i64 0, .int .i64 0, .slice none 0 0]) 5 56 Try.underlying23 hi hz0 hz1 hz2 rfl (by decide) (.slice A8 _ c8) _ _ rfl (own_al (own_al HO8.out _) _) ⟨wr.heap.size + 1, 0, none⟩ 1 1 (Pc.cells p) rfl rfl (World.news_of_block (new_at (by simp))) (by intro u hu; simp [Pc.cells] at hu; rcases hu with rfl | rfl | rfl | rfl | rfl <;> rfl) (by decide) (by unfold maxLen; omega) (by omega) (by simp; omega) (wr.heap.size + 1 + 1) (by simp) ?_); intro g' cap w3 hown3 hg3 hat hlt3))
        go_roundw
        case rel =>
          have e1 := fil_take (dueBy t) hp
          have e2 := fil_take (fun p => !dueBy t p) hp
          simp only [q4, if_true, Bool.not_true, Bool.not_false, Bool.false_eq_true, if_false, List.append_nil] at e1 e2
          have hnn : (Value.slice A9 ((L'.take k).filter (fun p => !dueBy t p)).length c9).ownBlock = none ∨ (Value.slice A9 ((L'.take k).filter (fun p => !dueBy t p)).length c9).ownBlock ≠ (Value.slice A8 ((L'.take k).filter (dueBy t)).length c8).ownBlock := by
            cases hob : (Value.slice A9 ((L'.take k).filter (fun p => !dueBy t p)).length c9).ownBlock with
            | none => exact .inl rfl
            | some x => exact .inr (fun e => HNE.out x e.symm hob)
          have hfr : ∀ x, (Value.slice A9 ((L'.take k).filter (fun p => !dueBy t p)).length c9).ownBlock = some x → x ≠ g' := by
            intro x hx e
            subst e
            rcases hat with h1 | h1
            · exact HNE.out x h1 hx
            · have := (HO9.out.lt x hx).2
              omega
          have hBB : Below wc.heap.size wc w3 := ((HB.out.alloc (by omega) _).alloc (by simp; omega) _).grown hg3 (by simp; omega) (fun j hj => (HO8.out.lt j hj).1)
          have ho1 : w3.ownsRow wc.heap.size 35 5 (.slice (some ⟨g', 0, none⟩) (((L'.take k).filter (dueBy t)).length + 1) cap) ((L'.take (k + 1)).filter (dueBy t)).length (flat ((L'.take (k + 1)).filter (dueBy t))) := by
            rw [e1, List.length_append, flat_app, flat_one]; exact hown3
          have ho2 : w3.ownsRow wc.heap.size 35 5 (.slice A9 ((L'.take k).filter (fun p => !dueBy t p)).length c9) ((L'.take (k + 1)).filter (fun p => !dueBy t p)).length (flat ((L'.take (k + 1)).filter (fun p => !dueBy t p))) := by
            rw [e2]
            exact (own_al (own_al HO9.out _) _).kept hg3 hnn
          exact ⟨k + 1, by omega, by go_num, ho1, ho2, fun x hx hx2 => by cases hx; exact hfr _ hx2 rfl, hBB⟩
        case measure => simp [intOf]; omega
      · have q3 : decide (p.du ≤ t) = false := by simpa using hdu
        have q4 : dueBy t p = false := q3
        go_wp2_with (first
          | (at_builtin; go_loud (refine wpList_append_lies _ rfl _ _ 23 rfl wc.heap.size 35 i0 (.agg #[.int .i64 0, .int .i64 0, .int .i64 0, .int .i64 0, .slice none 0 0]) 5 56 Try.underlying23 hi hz0 hz1 hz2 rfl (by decide) (.slice A9 _ c9) _ _ rfl (own_al (own_al HO9.out _) _) ⟨wr.heap.size + 1, 0, none⟩ 1 1 (Pc.cells p) rfl rfl (World.news_of_block (new_at (by simp))) (by intro u hu; simp [Pc.cells] at hu; rcases hu with rfl | rfl | rfl | rfl | rfl <;> rfl) (by decide) (by unfold maxLen; omega) (by omega) (by simp; omega) (wr.heap.size + 1 + 1) (by simp) ?_); intro g' cap w3 hown3 hg3 hat hlt3))
        go_roundw
        case rel =>
          have e1 := fil_take (dueBy t) hp
          have e2 := fil_take (fun p => !dueBy t p) hp
          simp only [q4, if_true, Bool.not_true, Bool.not_false, Bool.false_eq_true, if_false, List.append_nil] at e1 e2
          have hnn : (Value.slice A8 ((L'.take k).filter (dueBy t)).length c8).ownBlock = none ∨ (Value.slice A8 ((L'.take k).filter (dueBy t)).length c8).ownBlock ≠ (Value.slice A9 ((L'.take k).filter (fun p => !dueBy t p)).length c9).ownBlock := by
            cases hob : (Value.slice A8 ((L'.take k).filter (dueBy t)).length c8).ownBlock with
            | none => exact .inl rfl
            | some x => exact .inr (fun e => HNE.out x hob e.symm)
          have hfr : ∀ x, (Value.slice A8 ((L'.take k).filter (dueBy t)).length c8).ownBlock = some x → x ≠ g' := by
            intro x hx e
            subst e
            rcases hat with h1 | h1
            · exact HNE.out x hx h1
            · have := (HO8.out.lt x hx).2
              omega
          have hBB : Below wc.heap.size wc w3 := ((HB.out.alloc (by omega) _).alloc (by simp; omega) _).grown hg3 (by simp; omega) (fun j hj => (HO9.out.lt j hj).1)
          have ho1 : w3.ownsRow wc.heap.size 35 5 (.slice (some ⟨g', 0, none⟩) (((L'.take k).filter (fun p => !dueBy t p)).length + 1) cap) ((L'.take (k + 1)).filter (fun p => !dueBy t p)).length (flat ((L'.take (k + 1)).filter (fun p => !dueBy t p))) := by
            rw [e2, List.length_append, flat_app, flat_one]; exact hown3
          have ho2 : w3.ownsRow wc.heap.size 35 5 (.slice A8 ((L'.take k).filter (dueBy t)).length c8) ((L'.take (k + 1)).filter (dueBy t)).length (flat ((L'.take (k + 1)).filter (dueBy t))) := by
            rw [e1]
            exact (own_al (own_al HO8.out _) _).kept hg3 hnn
          exact ⟨k + 1, by omega, by go_num, ho2, ho1, fun x hx hx2 => by cases hx2; exact hfr _ hx rfl, hBB⟩
        case measure => simp [intOf]; omega
    · obtain rfl : k = n := by omega
      have htk : L'.take k = L' := by rw [← hl]; exact List.take_length
      rw [htk] at ho8 ho9 hv8 hv9
      subst hv8 hv9
      have n0 := (N0.out.next hB)
      have n1 := (N1.out.next hB)
      have hsl := n1.lt
      have hlen : (L'.filter (dueBy t)).length ≤ k := by rw [← hl]; exact List.length_filter_le _ _
      have hsort := HS.out _ hlen wr wc.heap.size _ hB.size ho8
      have HSO := Lib.hid hsort
      have HO8 := Lib.hid ho8
      have HO9 := Lib.hid ho9
      have HNE := Lib.hid hne
      have HB := Lib.hid hB
      have HN0 := Lib.hid n0
      have HN1 := Lib.hid n1
      clear ho8 ho9 hne hB n0 n1 hsort hA hlen8 hlen9 HS
      go_wp2_with (first
        | (go_at_call 21; (with_reducible refine HSO.out.mono ?_); rintro e w4 ⟨rfl, M', hperm, hR, hown4, hg4⟩; go_loud (have HX0 := Lib.hid (Blk.grown HN0.out hg4 (own_blk_ne HO8.out HN0.out (by decide))); have HX1 := Lib.hid (Blk.grown HN1.out hg4 (own_blk_ne HO8.out HN1.out (by decide))); have HPM := Lib.hid hperm; have HR := Lib.hid hR; have HO4 := Lib.hid hown4; have HG4 := Lib.hid hg4; clear hperm hR hown4 hg4; have e1 := HX0.out.cell 1; have m0 := HX1.out.cell 0; have m1 := HX1.out.cell 1; have m2 := HX1.out.cell 2; have g0 := HX1.out.frozen 0; have g1 := HX1.out.frozen 1; have g2 := HX1.out.frozen 2; (simp only [List.getElem?_toArray, List.getElem?_cons_zero, List.getElem?_cons_succ] at e1 m0 m1 m2))))
      have hml : M'.length = (L'.filter (dueBy t)).length := HPM.out.length_eq
      have hown : ∀ p ∈ L', p.Owns w4 w.heap.size := by
        intro p hp
        have h1 := ((HO.out.2.1 p hp).next HB.out).down (show w.heap.size ≤ _ by simp; omega)
        exact ⟨h1.1.kept HG4.out (own_own_ne h1.1 HO8.out (by decide)), h1.2⟩
      have hwc := NB.out.size
      have hq8 : QO w4 w.heap.size (.slice A8 (L'.filter (dueBy t)).length c8) M' := QO.of HO4.out hwc (fun p hp => hown p ((List.mem_filter.1 (HPM.out.mem_iff.1 hp)).1))
        ((HPM.out.pairwise_iff (fun h => h.symm)).2 (HO.out.2.2.filter _))
      have hnn : (Value.slice A9 (L'.filter (fun p => !dueBy t p)).length c9).ownBlock = none ∨ (Value.slice A9 (L'.filter (fun p => !dueBy t p)).length c9).ownBlock ≠ (Value.slice A8 (L'.filter (dueBy t)).length c8).ownBlock := by
        cases hob : (Value.slice A9 (L'.filter (fun p => !dueBy t p)).length c9).ownBlock with
        | none => exact .inl rfl
        | some x => exact .inr (fun e => HNE.out x e.symm hob)
      have hq9 : QO w4 w.heap.size (.slice A9 (L'.filter (fun p => !dueBy t p)).length c9) (L'.filter (fun p => !dueBy t p)) := QO.of (HO9.out.kept HG4.out hnn) hwc (fun p hp => hown p ((List.mem_filter.1 hp).1)) (HO.out.2.2.filter _)
      have st : ∀ (v : Value) (M : List Pc), QO w4 w.heap.size v M → QO (((w4.setCell ⟨w.heap.size + 1, 0, none⟩ (.int .i64 t)).setCell ⟨w.heap.size + 1, 1, none⟩ (.int .i64 ser)).setCell ⟨w.heap.size + 1, 2, none⟩ (.slice A9 (L'.filter (fun p => !dueBy t p)).length c9)) w.heap.size v M := fun v M h =>
        ((h.grown (grown_set _ (w.heap.size + 1) 0 _) HX1.out (by decide) (by decide)).grown (grown_set _ (w.heap.size + 1) 1 _) (HX1.out.set_ 0 _) (by decide) (by decide)).grown (grown_set _ (w.heap.size + 1) 2 _) ((HX1.out.set_ 0 _).set_ 1 _) (by decide) (by decide)
      have hb4 : Below w.heap.size w w4 := (NB.out.trans (HB.out.mono hwc)).grown HG4.out (by have := HB.out.size; omega) (fun j hj => by have := (HO8.out.lt j hj).1; omega)
      refine bodyPost_ret (v := .tuple #[.agg #[.int .i64 t, .int .i64 ser, .slice A9 (L'.filter (fun p => !dueBy t p)).length c9], .slice A8 (L'.filter (dueBy t)).length c8, .int .i64 0]) (step_results (((HX1.out.set_ 0 _).set_ 1 _).set_ 2 _) rfl _ _ _ rfl rfl rfl) rfl
        ⟨_, _, _, _, _, _, L', M', rfl, HY.out, st _ _ hq9, rfl, st _ _ hq8, hml.symm, HPM.out, HR.out, ?_⟩
      exact ((hb4.setCell (p := ⟨w.heap.size + 1, 0, none⟩) (Nat.le_succ _) _).setCell (p := ⟨w.heap.size + 1, 1, none⟩) (Nat.le_succ _) _).setCell (p := ⟨w.heap.size + 1, 2, none⟩) (Nat.le_succ _) _
end Go.Proofs.Ytdlcjieaoalhoaa.Bs
