/- The contract of agree.one: what each node takes for said by s. -/
import Derived.Test.YtllgjbjcdenchaaAgree
import Derived.Deep.RegionHeld3
import Derived.Deep.DrawnRows
set_option linter.unusedVariables false
namespace Go.Proofs.Ytllgjbjcdenchaa
open Go.RowKit Mj Ag
attribute [local go_sem ↓] Go.wp_at_zero Go.wp_at_succ

theorem Ints.below {w w' : World} {k : IntKind} {A : Option Addr} {n B : Nat} {zs : List Int} (h : Ints w k A n zs) (hb : Below B w w') (hA : ∀ ad, A = some ad → ad.block < B) : Ints w' k A n zs :=
  ⟨h.1, fun hn => by
    obtain ⟨b, off, e, hlt, hc⟩ := h.2 hn
    have hbB : b < B := hA _ e
    exact ⟨b, off, e, Nat.lt_of_lt_of_le hlt hb.size, fun j hj => (hb.cell (p := ⟨b, off + j, none⟩) hbB).trans (hc j hj)⟩⟩

theorem infoInt : (Try.prog.info? 3).map (fun i => (i.zero, i.size, i.bytes)) = some (some (.int .i64 0), 1, 8) := by kernel_rfl

/-- four numbers in a block -/
def Four (w : World) (g : Nat) (D : Nat → Int) : Prop := Blk w g 30 (AN 4 fun i => .int .i64 (D i))
theorem Four.set {w : World} {g k : Nat} {D : Nat → Int} (h : Four w g D) (x : Int) : Four (w.setCell ⟨g, k, none⟩ (.int .i64 x)) g (fun i => if i = k then x else D i) := by
  have := Blk.set_ h k (.int .i64 x)
  rw [AN_set] at this
  unfold Four
  rw [AN_congr (g := fun i => if i = k then Value.int .i64 x else Value.int .i64 (D i)) (fun i _ => by simp only []; split <;> rfl)]
  exact this
theorem Four.cell {w : World} {g k : Nat} {D : Nat → Int} (h : Four w g D) (hk : k < 4) : w.cell? ⟨g, k, none⟩ = some (.int .i64 (D k)) := (Blk.cell h k).trans (AN_get hk)

theorem beqt {a b : Nat} (h : a = b) : ((a : Int) == (b : Int)) = true := by simp [h]
theorem beqf {a b : Nat} (h : a ≠ b) : ((a : Int) == (b : Int)) = false := by simp; omega

theorem told_skip {D : Nat → Int} {bad : Int} {s k q : Nat} {T : Nat → List Int} (h : ∀ j, j < 4 → j ≠ s → Ag.Told D bad (from_ s j (if j < q then k + 1 else k)) (T j)) (hc : k = s ∨ q = s ∨ q = k) :
    ∀ j, j < 4 → j ≠ s → Ag.Told D bad (from_ s j (if j < q + 1 then k + 1 else k)) (T j) := by
  intro j hj hjs
  have := h j hj hjs
  by_cases e : j = q
  · subst e
    rw [if_neg (Nat.lt_irrefl _)] at this
    rw [if_pos (Nat.lt_succ_self _), from_succ, if_neg (by omega)]
    exact this
  · by_cases e2 : j < q
    · rw [if_pos e2] at this
      rwa [if_pos (by omega)]
    · rw [if_neg e2] at this
      rwa [if_neg (by omega)]
theorem told_step {D : Nat → Int} {bad : Int} {s k q : Nat} {T : Nat → List Int} {x : Int} (h : ∀ j, j < 4 → j ≠ s → Ag.Told D bad (from_ s j (if j < q then k + 1 else k)) (T j)) (hk : k ≠ s) (hqk : q ≠ k) (hv : ¬ (k : Int) = bad → x = D k) :
    ∀ j, j < 4 → j ≠ s → Ag.Told D bad (from_ s j (if j < q + 1 then k + 1 else k)) ((fun i => if i = q then T q ++ [x] else T i) j) := by
  intro j hj hjs
  have := h j hj hjs
  by_cases e : j = q
  · subst e
    rw [if_neg (Nat.lt_irrefl _)] at this
    rw [if_pos (Nat.lt_succ_self _), from_succ, if_pos ⟨hk, fun e => hqk e.symm⟩]
    simp only [if_true]
    exact this.snoc hv
  · simp only [if_neg e]
    by_cases e2 : j < q
    · rw [if_pos e2] at this
      rwa [if_pos (by omega)]
    · rw [if_neg e2] at this
      rwa [if_neg (by omega)]
theorem len_skip {k q : Nat} {T : Nat → List Int} (h : ∀ j, j < 4 → (T j).length ≤ if j < q then k + 1 else k) : ∀ j, j < 4 → (T j).length ≤ if j < q + 1 then k + 1 else k := by
  intro j hj
  have := h j hj
  split at this <;> split <;> omega
theorem len_step {k q : Nat} {T : Nat → List Int} {x : Int} (h : ∀ j, j < 4 → (T j).length ≤ if j < q then k + 1 else k) : ∀ j, j < 4 → ((fun i => if i = q then T q ++ [x] else T i) j).length ≤ if j < q + 1 then k + 1 else k := by
  intro j hj
  have := h j hj
  by_cases e : j = q
  · subst e
    rw [if_neg (Nat.lt_irrefl _)] at this
    rw [if_pos (Nat.lt_succ_self _)]
    simp only [if_true, List.length_append, List.length_singleton]
    omega
  · simp only [if_neg e]
    split at this <;> split <;> omega

theorem out_step {w : World} {g q s : Nat} {O : Nat → Int} {F G : Nat → Value} (hs : s < 4) (h : Blk w g 51 (AN 16 G)) (hG : ∀ i, i ≠ q * 4 + s → G i = if i % 4 = s ∧ i / 4 < q then .int .i64 (O (i / 4)) else F i) {x : Int} (hx : O q = x) :
    Blk (w.setCell ⟨g, q * 4 + s, none⟩ (.int .i64 x)) g 51 (AN 16 fun i => if i % 4 = s ∧ i / 4 < q + 1 then .int .i64 (O (i / 4)) else F i) := by
  have h2 := h.set_ (q * 4 + s) (.int .i64 x)
  rw [AN_set] at h2
  rw [AN_congr (g := fun i => if i = q * 4 + s then .int .i64 x else G i)]
  · exact h2
  · intro i _
    by_cases e : i = q * 4 + s
    · have e1 : i % 4 = s := by omega
      have e2 : i / 4 = q := by omega
      rw [if_pos ⟨e1, by omega⟩, if_pos e, e2, hx]
    · rw [if_neg e, hG i e]
      by_cases e3 : i % 4 = s ∧ i / 4 < q
      · rw [if_pos ⟨e3.1, by omega⟩, if_pos e3]
      · rw [if_neg (by omega), if_neg e3]

/-- what holds at the head of the last loop -/
def One4 (w : World) (g gl go B0 s : Nat) (D : Nat → Int) (A : Option Addr) (n c p : Nat) (T : Nat → List Int) (v : Nat → Value) (O : Nat → Int) (F : Nat → Value) (i : Value) (wr : World) : Prop :=
  ∃ (q : Nat), q ≤ 4 ∧ i = .int .i64 q ∧ Four wr g D ∧ Liar wr gl A n c p ∧
    Rows wr B0 100 3 4 (g + 1) (fun q => (T q).map (Value.int .i64)) v ∧ Blk wr go 51 (AN 16 fun i => if i % 4 = s ∧ i / 4 < q then .int .i64 (O (i / 4)) else F i) ∧ Below B0 w wr

theorem rows_step {w : World} {base n g q : Nat} {T0 E : TypeId} {Tq : List Int} {x : Int} {L : Nat → List Int} {v : Nat → Value} (h : Rows w base T0 E n g (fun i => if i = q then Tq.map (Value.int .i64) ++ [.int .i64 x] else (L i).map (Value.int .i64)) v) :
    Rows w base T0 E n g (fun j => ((fun i => if i = q then Tq ++ [x] else L i) j).map (Value.int .i64)) v := by
  have e : (fun j => ((fun i => if i = q then Tq ++ [x] else L i) j).map (Value.int .i64)) = (fun i => if i = q then Tq.map (Value.int .i64) ++ [.int .i64 x] else (L i).map (Value.int .i64)) := by
    funext j
    simp only []
    split
    · rw [List.map_append]; rfl
    · rfl
  rw [e]
  exact h

set_option maxRecDepth 100000 in
set_option maxHeartbeats 4000000 in
theorem one_any (s : Nat) (hs : s < 4) (value bad : Int) (go gl B0 : Nat) (F : Nat → Value) (A : Option Addr) (n c p : Nat) (zs : List Int) (w : World) (h1 : Blk w go 51 (AN 16 F)) (h2 : Liar w gl A n c p) (hi : Ints w .i64 A n zs)
    (hgo : B0 ≤ go) (hgl : B0 ≤ gl) (hA : ∀ ad, A = some ad → ad.block < B0) (hn : n ≤ 1152921504606846976) :
    Calls Try.prog 53 #[.pointer (some ⟨go, 0, none⟩), .int .i64 s, .int .i64 value, .int .i64 bad, .pointer (some ⟨gl, 0, none⟩)] w fun e w' => ∃ (O : Nat → Int) (p' : Nat), e = .returned (.tuple #[]) ∧ Agr s value bad O ∧
      Blk w' go 51 (AN 16 fun i => if i % 4 = s then .int .i64 (O (i / 4)) else F i) ∧ Liar w' gl A n c p' ∧ Below B0 w w' := by
  obtain ⟨g, hg⟩ : ∃ g, w.heap.size = g := ⟨_, rfl⟩
  obtain ⟨i0, hi0, hz0, hz1, hz2⟩ := info_parts infoInt
  have hgoL := h1.lt
  have hglL := Blk.lt h2
  have hne : go ≠ gl := Blk.ne_ h1 h2 (by decide)
  have hw0 : Blk ((w.alloc (.cells #[.int .i64 0, .int .i64 0, .int .i64 0, .int .i64 0] 30)).alloc (.cells #[.slice none 0 0, .slice none 0 0, .slice none 0 0, .slice none 0 0] 100)) g 30 #[.int .i64 0, .int .i64 0, .int .i64 0, .int .i64 0] := (Blk.at_ w _ _ _ hg.symm).alloc _
  have hw1 : Blk ((w.alloc (.cells #[.int .i64 0, .int .i64 0, .int .i64 0, .int .i64 0] 30)).alloc (.cells #[.slice none 0 0, .slice none 0 0, .slice none 0 0, .slice none 0 0] 100)) (g + 1) 100 #[.slice none 0 0, .slice none 0 0, .slice none 0 0, .slice none 0 0] := Blk.at_ _ _ _ _ (by simp [hg])
  have hw2 := (h1.alloc (.cells #[.int .i64 0, .int .i64 0, .int .i64 0, .int .i64 0] 30)).alloc (.cells #[.slice none 0 0, .slice none 0 0, .slice none 0 0, .slice none 0 0] 100)
  have hw3 := (Blk.alloc h2 (.cells #[.int .i64 0, .int .i64 0, .int .i64 0, .int .i64 0] 30)).alloc (.cells #[.slice none 0 0, .slice none 0 0, .slice none 0 0, .slice none 0 0] 100)
  have hwB : Below B0 w ((w.alloc (.cells #[.int .i64 0, .int .i64 0, .int .i64 0, .int .i64 0] 30)).alloc (.cells #[.slice none 0 0, .slice none 0 0, .slice none 0 0, .slice none 0 0] 100)) := ((Below.refl _ _).alloc (by omega) _).alloc (by simp; omega) _
  have HW0 := Lib.hid hw0
  have HW1 := Lib.hid hw1
  have HW2 := Lib.hid hw2
  have HW3 := Lib.hid hw3
  have HWB := Lib.hid hwB
  have HI := Lib.hid hi
  have HA := Lib.hid hA
  clear hw0 hw1 hw2 hw3 hwB hi h1 h2 hA
  have hBw : B0 ≤ w.heap.size := by omega
  rw [hg] at hgoL hglL
  have HG := Lib.hid hg
  clear hg
  go_enter Try.func53, Try.ntmps53
  go_wp2
  rw [HG.out]
  go_loopw [17] (fun i wr => ∃ (k : Nat) (D : Nat → Int) (p : Nat), k ≤ 4 ∧ i = .int .i64 k ∧ Four wr g D ∧ (∀ r, r < k → (¬ (s : Int) = bad ∨ r = s) → D r = value) ∧ Liar wr gl A n c p ∧
      Blk wr (g + 1) 100 (AN 4 fun _ => .slice none 0 0) ∧ Blk wr go 51 (AN 16 F) ∧ Below B0 w wr) (fun i _ => 4 - (intOf i).toNat)
  case atStart => exact ⟨0, fun _ => 0, p, by omega, rfl, HW0.out, fun r hr => by omega, HW3.out, HW1.out, HW2.out, HWB.out⟩
  case round =>
    clear HW0 HW1 HW2 HW3 HWB
    obtain ⟨k, D, p, hk, rfl, hD, hDv, hL, hT, hO, hB⟩ := hrel
    have HDv := Lib.hid hDv
    clear hDv
    by_cases hk4 : k < 4
    · have q0 := hD.cell hk4
      have f0 := Blk.frozen hD k
      have hD2 := hD.set (k := k) value
      have HD2 := Lib.hid hD2
      have HD := Lib.hid hD
      have HT := Lib.hid (hT.far (p := ⟨g, k, none⟩) (by simp) (.int .i64 value))
      have HO := Lib.hid (hO.far (p := ⟨g, k, none⟩) (by simp; omega) (.int .i64 value))
      have HL := Lib.hid (Blk.far hL (p := ⟨g, k, none⟩) (by simp; omega) (.int .i64 value))
      have HB := Lib.hid (hB.setCell (p := ⟨g, k, none⟩) (by simp; omega) (.int .i64 value))
      clear hD hD2 hT hO hL hB
      by_cases hsb : (s : Int) = bad ∧ k ≠ s
      · obtain ⟨hs1, hs2⟩ := hsb
        have t1 : ((s : Int) == bad) = true := by simpa using hs1
        have t2 : ((k : Int) != (s : Int)) = true := by rw [bne_iff_ne]; omega
        have HS1 := Lib.hid hs1
        clear hs1
        go_wp2_with fail
        refine (next_any gl A n c p zs _ HL.out (HI.out.below HB.out HA.out) (fun ad e => by have := HA.out ad e; omega) hn).mono ?_
        rintro e w1 ⟨rfl, hL1, hg1⟩
        have d0 := Blk.grown HD2.out hg1 (by simp; omega)
        have d1 := Four.cell d0 hk4
        have d2 := Blk.frozen d0 k
        simp only [if_true] at d1
        have D3 := Lib.hid (Four.set (k := k) d0 (zs.getD p 0))
        have T3 := Lib.hid ((HT.out.grown hg1 (by simp; omega)).far (p := ⟨g, k, none⟩) (by simp) (.int .i64 (zs.getD p 0)))
        have O3 := Lib.hid ((HO.out.grown hg1 (by simpa using hne)).far (p := ⟨g, k, none⟩) (by simp; omega) (.int .i64 (zs.getD p 0)))
        have L3 := Lib.hid (Blk.far hL1 (p := ⟨g, k, none⟩) (by simp; omega) (.int .i64 (zs.getD p 0)))
        have B3 := Lib.hid ((HB.out.grown hg1 (Nat.le_trans hBw HB.out.size) (fun j hj => by cases hj; omega)).setCell (p := ⟨g, k, none⟩) (by simp; omega) (.int .i64 (zs.getD p 0)))
        clear d0 hg1 hL1
        generalize zs.getD p 0 = x at *
        go_wp2_with fail
        go_roundw
        case rel =>
          refine ⟨k + 1, _, p + 1, by omega, by go_num, D3.out, fun r hr h => ?_, L3.out, T3.out, O3.out, B3.out⟩
          have hr' : r ≠ k := by
            intro e
            rcases h with h | h
            · exact h HS1.out
            · omega
          simp only [if_neg hr']
          exact HDv.out r (by omega) h
        case measure => simp [intOf]; omega
      · have hv : ∀ r, r < k + 1 → (¬ (s : Int) = bad ∨ r = s) → (if r = k then value else D r) = value := by
          intro r hr h
          by_cases e : r = k
          · rw [if_pos e]
          · rw [if_neg e]; exact HDv.out r (by omega) h
        have HV := Lib.hid hv
        clear hv
        by_cases hs1 : (s : Int) = bad
        · have t1 : ((s : Int) == bad) = true := by simpa using hs1
          have hks : k = s := by omega
          have t2 : ((k : Int) != (s : Int)) = false := by rw [hks]; simp
          clear hs1 hsb hks
          go_wp2_with fail
          go_roundw
          case rel => exact ⟨k + 1, _, p, by omega, by go_num, HD2.out, HV.out, HL.out, HT.out, HO.out, HB.out⟩
          case measure => simp [intOf]; omega
        · have t1 : ((s : Int) == bad) = false := by simpa using hs1
          clear hs1 hsb
          go_wp2_with fail
          go_roundw
          case rel => exact ⟨k + 1, _, p, by omega, by go_num, HD2.out, HV.out, HL.out, HT.out, HO.out, HB.out⟩
          case measure => simp [intOf]; omega
    · obtain rfl : k = 4 := by omega
      have hDv : Hid (∀ r, r < 4 → (¬ (s : Int) = bad ∨ r = s) → D r = value) := HDv
      have TR : Rows wr B0 100 3 4 (g + 1) (fun _ => []) (fun _ => .slice none 0 0) := Rows.start _ _ _ _ _ _ hT
      have HTR := Lib.hid TR
      have H1 := Lib.hid hD
      have H2 := Lib.hid hL
      have H3 := Lib.hid hO
      have H4 := Lib.hid hB
      clear TR hD hL hT hO hB
      go_wp2_with fail
      go_loopw [36] (fun i wr => ∃ (k p : Nat) (T : Nat → List Int) (v : Nat → Value), k ≤ 4 ∧ i = .int .i64 k ∧ Four wr g D ∧ (∀ q, q < 4 → q ≠ s → Ag.Told D bad (from_ s q k) (T q)) ∧ (∀ q, q < 4 → (T q).length ≤ k) ∧ Liar wr gl A n c p ∧
          Rows wr B0 100 3 4 (g + 1) (fun q => (T q).map (Value.int .i64)) v ∧ Blk wr go 51 (AN 16 F) ∧ Below B0 w wr) (fun i _ => 4 - (intOf i).toNat)
      case atStart => exact ⟨0, p, fun _ => [], _, by omega, rfl, H1.out, fun q _ _ => rfl, fun q _ => Nat.le_refl _, H2.out, HTR.out, H3.out, H4.out⟩
      case round =>
        clear H1 H2 H3 H4 HTR
        obtain ⟨k, p, T, v, hk, rfl, hD, hT, hTl, hL, hR, hO, hB⟩ := hrel
        have HT := Lib.hid hT
        have HTl := Lib.hid hTl
        clear hT hTl
        by_cases hk4 : k < 4
        · have H1 := Lib.hid hD
          have H2 := Lib.hid hL
          have H3 := Lib.hid hO
          have H4 := Lib.hid hB
          have H5 := Lib.hid hR
          clear hD hL hO hB hR
          go_wp2_with fail
          obtain ⟨wo, rfl⟩ : ∃ wo : World, wo = wr := ⟨_, rfl⟩
          go_loopw [39] (fun i wr => ∃ (q p : Nat) (T : Nat → List Int) (v : Nat → Value), q ≤ 4 ∧ i = .int .i64 q ∧ Four wr g D ∧ (∀ j, j < 4 → j ≠ s → Ag.Told D bad (from_ s j (if j < q then k + 1 else k)) (T j)) ∧ (∀ j, j < 4 → (T j).length ≤ if j < q then k + 1 else k) ∧ Liar wr gl A n c p ∧
              Rows wr B0 100 3 4 (g + 1) (fun q => (T q).map (Value.int .i64)) v ∧ Blk wr go 51 (AN 16 F) ∧ Below B0 w wr) (fun i _ => 4 - (intOf i).toNat)
          case atStart => exact ⟨0, p, T, v, by omega, rfl, H1.out, fun j hj hjs => by rw [if_neg (Nat.not_lt_zero _)]; exact HT.out j hj hjs, fun j hj => by rw [if_neg (Nat.not_lt_zero _)]; exact HTl.out j hj, H2.out, H5.out, H3.out, H4.out⟩
          case round =>
            clear H1 H2 H3 H4 H5 HT HTl T v p
            obtain ⟨q, p, T, v, hq, rfl, hD, hT, hTl, hL, hR, hO, hB⟩ := hrel
            have HT := Lib.hid hT
            have HTl := Lib.hid hTl
            clear hT hTl
            by_cases hq4 : q < 4
            · have hcell := hD.cell hq4
              have H1 := Lib.hid hD
              have H2 := Lib.hid hL
              have H3 := Lib.hid hO
              have H4 := Lib.hid hB
              have H5 := Lib.hid hR
              clear hD hL hO hB hR
              by_cases hks : k = s
              · have t1 := beqt hks
                have HC := Lib.hid hks
                clear hks hcell
                go_wp2_with fail
                go_roundw
                case rel => exact ⟨q + 1, p, T, v, by omega, by go_num, H1.out, told_skip HT.out (by first | exact .inl HC.out | exact .inr (.inl HC.out) | exact .inr (.inr HC.out)), len_skip HTl.out, H2.out, H5.out, H3.out, H4.out⟩
                case measure => simp [intOf]; omega
              have t1 := beqf hks
              by_cases hqs : q = s
              · have t2 := beqt hqs
                have HC := Lib.hid hqs
                clear hks hqs hcell
                go_wp2_with fail
                go_roundw
                case rel => exact ⟨q + 1, p, T, v, by omega, by go_num, H1.out, told_skip HT.out (by first | exact .inl HC.out | exact .inr (.inl HC.out) | exact .inr (.inr HC.out)), len_skip HTl.out, H2.out, H5.out, H3.out, H4.out⟩
                case measure => simp [intOf]; omega
              have t2 := beqf hqs
              by_cases hqk : q = k
              · have t3 := beqt hqk
                have HC := Lib.hid hqk
                clear hks hqs hqk hcell
                go_wp2_with fail
                go_roundw
                case rel => exact ⟨q + 1, p, T, v, by omega, by go_num, H1.out, told_skip HT.out (by first | exact .inl HC.out | exact .inr (.inl HC.out) | exact .inr (.inr HC.out)), len_skip HTl.out, H2.out, H5.out, H3.out, H4.out⟩
                case measure => simp [intOf]; omega
              have t3 := beqf hqk
              have HKS := Lib.hid hks
              have HQK := Lib.hid hqk
              clear hks hqs hqk hcell
              have hk := H1.out.cell hk4
              by_cases hkb : (k : Int) = bad
              · have t4 : ((k : Int) == bad) = true := by simpa using hkb
                have HKB := Lib.hid hkb
                clear hkb
                go_wp2_with fail
                refine (next_any gl A n c p zs _ H2.out (HI.out.below H4.out HA.out) (fun ad e => by have := HA.out ad e; omega) hn).mono ?_
                rintro e w1 ⟨rfl, hL1, hg1⟩
                have N1 := Lib.hid (Blk.grown H1.out hg1 (by simp; omega))
                have N2 := Lib.hid hL1
                have N3 := Lib.hid (Blk.grown H3.out hg1 (by simpa using hne))
                have N4 := Lib.hid (H4.out.grown hg1 (Nat.le_trans hBw H4.out.size) (fun j hj => by cases hj; omega))
                have N5 := Lib.hid (Rows.grown H5.out hg1 H2.out (by decide) (by omega))
                clear hL1 hg1
                generalize zs.getD p 0 = x at *
                have hbq := (Rows.alloc N5.out (.cells #[.int .i64 (x)] 3))
                have hgk := own_blk_ne (hbq.2.1 q hq4) hbq.1 (by decide)
                have HBQ := Lib.hid hbq
                have HGK := Lib.hid hgk
                have hTlq := HTl.out q hq4
                rw [if_neg (Nat.lt_irrefl _)] at hTlq
                have hvq := (Blk.cell N5.out.1 q).trans (AN_get hq4)
                have hBz : B0 ≤ w1.heap.size := Nat.le_trans hBw N4.out.size
                clear hbq hgk
                go_wp2_with (first
                  | (at_builtin; (refine wpList_append_lies _ rfl _ _ 38 rfl B0 3 i0 (.int .i64 0) 1 8 Try.underlying38 hi0 hz0 hz1 hz2 rfl (by decide) (v q) _ _ rfl (HBQ.out.2.1 q hq4) ⟨w1.heap.size, 0, none⟩ 1 1 [.int .i64 (x)] rfl rfl (cell_one_new _ _ _) (by intro u hu; simp at hu; subst hu; rfl) (by decide) (by rw [List.length_map]; unfold maxLen; omega) (by rw [List.length_map]; omega) (by simp; omega) (w1.heap.size + 1) (by simp) ?_; intro g' cap w2 hown2 hg2 hat hlt2; have hd0 := HBQ.out.1.grown hg2 HGK.out; have d1 := (Blk.cell hd0 q).trans (AN_get hq4); have d2 := Blk.frozen hd0 q)))
                go_roundw
                case rel =>
                  have hR2 := Rows.append (k := q) (u := .slice (some ⟨g', 0, none⟩) (((T q).map (Value.int .i64)).length + 1) cap) (xs := (T q).map (Value.int .i64) ++ [.int .i64 (x)]) HBQ.out hq4 (by decide) (by simpa using hown2) hg2 (by intro y hy; simp [Value.ownBlock] at hy; subst hy; exact hat.elim .inl (fun h => .inr (by simp; omega)))
                  have hT2 := told_step (x := x) HT.out HKS.out HQK.out (fun h => absurd HKB.out h)
                  have hR3 := rows_step hR2
                  rw [List.length_map] at hR3
                  exact ⟨_, _, _, ⟨q + 1, by omega, rfl, (((Blk.alloc N1.out _).grown hg2 (own_blk_ne (HBQ.out.2.1 q hq4) (Blk.alloc N1.out _) (by decide))).far (p := ⟨g + 1, q, none⟩) (by simp) _), p + 1, (fun i => if i = q then T q ++ [x] else T i), hT2, len_step HTl.out, (((Blk.alloc N2.out _).grown hg2 (own_blk_ne (HBQ.out.2.1 q hq4) (Blk.alloc N2.out _) (by decide))).far (p := ⟨g + 1, q, none⟩) (by simp; omega) _), ⟨_, hR3⟩, (((Blk.alloc N3.out _).grown hg2 (own_blk_ne (HBQ.out.2.1 q hq4) (Blk.alloc N3.out _) (by decide))).far (p := ⟨g + 1, q, none⟩) (by simp; omega) _), (((N4.out.alloc hBz _).grown hg2 (by simp; omega) (fun j hj => (HBQ.out.lt hq4 hj).2)).setCell (by simp; omega) _)⟩, rfl, rfl, by go_num⟩
                case measure => simp [intOf]; omega
              · have t4 : ((k : Int) == bad) = false := by simpa using hkb
                clear hkb
                have hbq := (Rows.alloc H5.out (.cells #[.int .i64 (D k)] 3))
                have hgk := own_blk_ne (hbq.2.1 q hq4) hbq.1 (by decide)
                have HBQ := Lib.hid hbq
                have HGK := Lib.hid hgk
                have hTlq := HTl.out q hq4
                rw [if_neg (Nat.lt_irrefl _)] at hTlq
                have hvq := (Blk.cell H5.out.1 q).trans (AN_get hq4)
                have hBz : B0 ≤ wr.heap.size := Nat.le_trans hBw H4.out.size
                clear hbq hgk
                go_wp2_with (first
                  | (at_builtin; (refine wpList_append_lies _ rfl _ _ 38 rfl B0 3 i0 (.int .i64 0) 1 8 Try.underlying38 hi0 hz0 hz1 hz2 rfl (by decide) (v q) _ _ rfl (HBQ.out.2.1 q hq4) ⟨wr.heap.size, 0, none⟩ 1 1 [.int .i64 (D k)] rfl rfl (cell_one_new _ _ _) (by intro u hu; simp at hu; subst hu; rfl) (by decide) (by rw [List.length_map]; unfold maxLen; omega) (by rw [List.length_map]; omega) (by simp; omega) (wr.heap.size + 1) (by simp) ?_; intro g' cap w2 hown2 hg2 hat hlt2; have hd0 := HBQ.out.1.grown hg2 HGK.out; have d1 := (Blk.cell hd0 q).trans (AN_get hq4); have d2 := Blk.frozen hd0 q)))
                go_roundw
                case rel =>
                  have hR2 := Rows.append (k := q) (u := .slice (some ⟨g', 0, none⟩) (((T q).map (Value.int .i64)).length + 1) cap) (xs := (T q).map (Value.int .i64) ++ [.int .i64 (D k)]) HBQ.out hq4 (by decide) (by simpa using hown2) hg2 (by intro y hy; simp [Value.ownBlock] at hy; subst hy; exact hat.elim .inl (fun h => .inr (by simp; omega)))
                  have hT2 := told_step (x := D k) HT.out HKS.out HQK.out (fun _ => rfl)
                  have hR3 := rows_step hR2
                  rw [List.length_map] at hR3
                  exact ⟨_, _, _, ⟨q + 1, by omega, rfl, (((Blk.alloc H1.out _).grown hg2 (own_blk_ne (HBQ.out.2.1 q hq4) (Blk.alloc H1.out _) (by decide))).far (p := ⟨g + 1, q, none⟩) (by simp) _), p, (fun i => if i = q then T q ++ [D k] else T i), hT2, len_step HTl.out, (((Blk.alloc H2.out _).grown hg2 (own_blk_ne (HBQ.out.2.1 q hq4) (Blk.alloc H2.out _) (by decide))).far (p := ⟨g + 1, q, none⟩) (by simp; omega) _), ⟨_, hR3⟩, (((Blk.alloc H3.out _).grown hg2 (own_blk_ne (HBQ.out.2.1 q hq4) (Blk.alloc H3.out _) (by decide))).far (p := ⟨g + 1, q, none⟩) (by simp; omega) _), (((H4.out.alloc hBz _).grown hg2 (by simp; omega) (fun j hj => (HBQ.out.lt hq4 hj).2)).setCell (by simp; omega) _)⟩, rfl, rfl, by go_num⟩
                case measure => simp [intOf]; omega
            · obtain rfl : q = 4 := by omega
              have H1 := Lib.hid hD
              have H2 := Lib.hid hL
              have H3 := Lib.hid hO
              have H4 := Lib.hid hB
              have H5 := Lib.hid hR
              clear hD hL hO hB hR
              go_wp2_with fail
              go_roundw
              case rel => exact ⟨k + 1, p, T, v, by omega, by go_num, H1.out, fun j hj hjs => by have := HT.out j hj hjs; rwa [if_pos hj] at this, fun j hj => by have := HTl.out j hj; rwa [if_pos hj] at this, H2.out, H5.out, H3.out, H4.out⟩
              case measure => simp [intOf]; omega
        · obtain rfl : k = 4 := by omega
          obtain ⟨O, hOq⟩ : ∃ O : Nat → Int, O = fun q => if q = s then value else maj [D q, (T q).getD 0 0, (T q).getD 1 0] 0 := ⟨_, rfl⟩
          have hagr : Agr s value bad O := agr_of hs hDv.out HT.out (fun q hq => by rw [hOq])
          have HAG := Lib.hid hagr
          have HOq := Lib.hid hOq
          have H1 := Lib.hid hD
          have H2 := Lib.hid hL
          have H3 := Lib.hid (show Blk wr go 51 (AN 16 fun i => if i % 4 = s ∧ i / 4 < 0 then .int .i64 (O (i / 4)) else F i) from by
            rw [AN_congr (g := F) (fun i _ => by simp)]; exact hO)
          have H4 := Lib.hid hB
          have H5 := Lib.hid hR
          clear hD hL hO hB hR hagr hOq HDv hDv HTl
          go_wp2_with fail
          go_loopw [73] (fun i wr => One4 w g gl go B0 s D A n c p T v O F i wr) (fun i _ => 4 - (intOf i).toNat)
          case atStart => unfold One4; exact ⟨0, by omega, rfl, H1.out, H2.out, H5.out, H3.out, H4.out⟩
          case round =>
            clear H1 H2 H3 H4 H5
            obtain ⟨q, hq, rfl, hD, hL, hR, hO, hB⟩ := hrel
            by_cases hq4 : q < 4
            · have h16 : q * 4 + s < 16 := by omega
              have hc := (hO.cell (q * 4 + s)).trans (AN_get h16)
              have hf := hO.frozen (q * 4 + s)
              by_cases hqs : q = s
              · have t1 : ((q : Int) != (s : Int)) = false := by rw [hqs]; simp
                have HC := Lib.hid hqs
                have H1 := Lib.hid hD
                have H2 := Lib.hid hL
                have H3 := Lib.hid hO
                have H4 := Lib.hid hB
                have H5 := Lib.hid hR
                clear hD hL hO hB hR hqs
                go_wp2_with fail
                go_roundw
                case rel => unfold One4; exact ⟨q + 1, by omega, by go_num, H1.out.far (by simp; omega) _, Blk.far H2.out (by simpa using hne.symm) _, Rows.set_far H5.out H3.out (by decide) (by omega), out_step hs H3.out (fun _ _ => rfl) (by rw [HOq.out]; simp [HC.out]), H4.out.setCell (by simp; omega) _⟩
                case measure => simp [intOf]; omega
              · have t1 : ((q : Int) != (s : Int)) = true := by rw [bne_iff_ne]; omega
                have hqD := hD.cell hq4
                have hqv := (hR.1.cell q).trans (AN_get hq4)
                have hown := hR.2.1 q hq4
                have htl := HT.out q hq4 hqs
                obtain ⟨r1, r2, ef, _⟩ := from_two hs hq4 hqs
                have hTlen : (T q).length = 2 := by have := told_len htl; rw [ef] at this; exact this
                obtain ⟨gq, cap, ev, _, hgq, _⟩ := own_form hown (by rw [List.length_map]; omega)
                rw [ev] at hown hqv
                have hI := Ints.own hown
                rw [List.length_map, hTlen] at hI hqv
                have hgqo : gq ≠ go := fun e => own_blk_ne hown hO (by decide) (by rw [e]; rfl)
                clear ev hown
                obtain ⟨_, _, e0, _, hcc⟩ := hI.2 (by omega)
                cases e0
                have c0 := hcc 0 (by omega)
                have c1 := hcc 1 (by omega)
                simp only [Nat.zero_add] at c0 c1
                have hOx : O q = maj [D q, (T q).getD 0 0, (T q).getD 1 0] 0 := by rw [HOq.out]; simp [hqs]
                have HOx := Lib.hid hOx
                clear hcc hOx htl hTlen ef hqs hI
                have hB0r : g + 1 < wr.heap.size := hR.1.lt
                have K1 := hD.far (p := ⟨go, q * 4 + s, none⟩) (by simp; omega) (.int .i64 value)
                have K2 := Blk.far hL (p := ⟨go, q * 4 + s, none⟩) (by simpa using hne.symm) (.int .i64 value)
                have K5 := Rows.set_far (i := q * 4 + s) (u := .int .i64 value) hR hO (by decide) (by omega)
                have K3 := hO.set_ (q * 4 + s) (.int .i64 value)
                rw [AN_set] at K3
                have K4 := hB.setCell (p := ⟨go, q * 4 + s, none⟩) (by simp; omega) (.int .i64 value)
                have s1 : (wr.setCell ⟨go, q * 4 + s, none⟩ (.int .i64 value)).cell? ⟨g, q, none⟩ = _ := (cell_same (Below.heap_setCell _ _ _ _ (by simp; omega)) _).trans hqD
                have s2 : (wr.setCell ⟨go, q * 4 + s, none⟩ (.int .i64 value)).cell? ⟨g + 1, q, none⟩ = _ := (cell_same (Below.heap_setCell _ _ _ _ (by simp; omega)) _).trans hqv
                have s3 : (wr.setCell ⟨go, q * 4 + s, none⟩ (.int .i64 value)).cell? ⟨gq, 0, none⟩ = _ := (cell_same (Below.heap_setCell _ _ _ _ (by simpa using hgqo)) _).trans c0
                have s4 : (wr.setCell ⟨go, q * 4 + s, none⟩ (.int .i64 value)).cell? ⟨gq, 1, none⟩ = _ := (cell_same (Below.heap_setCell _ _ _ _ (by simpa using hgqo)) _).trans c1
                have s5 : (wr.setCell ⟨go, q * 4 + s, none⟩ (.int .i64 value)).heap.size = wr.heap.size := by simp [World.setCell]
                have L1 := Lib.hid K1
                have L2 := Lib.hid K2
                have L3 := Lib.hid K3
                have L4 := Lib.hid K4
                have L5 := Lib.hid K5
                have S1 := Lib.hid s1
                have S2 := Lib.hid s2
                have S3 := Lib.hid s3
                have S4 := Lib.hid s4
                have S5 := Lib.hid s5
                clear hD hL hO hB hR K1 K2 K3 K4 K5 hqD hqv c0 c1 s1 s2 s3 s4 s5
                generalize (T q).getD 0 0 = x0 at *
                generalize (T q).getD 1 0 = x1 at *
                generalize D q = xd at *
                go_wp2_with fail
                generalize wr.setCell ⟨go, q * 4 + s, none⟩ (.int .i64 value) = W1 at *
                have hsw : ∀ w1, W1.grownBy w1 (some go) → w1.cell? ⟨g, q, none⟩ = some (.int .i64 xd) ∧ w1.cell? ⟨g + 1, q, none⟩ = some (.slice (some ⟨gq, 0, none⟩) 2 cap) ∧ w1.cell? ⟨gq, 0, none⟩ = some (.int .i64 x0) ∧ w1.cell? ⟨gq, 1, none⟩ = some (.int .i64 x1) := by
                  intro w1 hb
                  have h5 := S5.out
                  exact ⟨(hb.cell_far ⟨g, q, none⟩ (by show g < _; omega) (by simp; omega)).trans S1.out, (hb.cell_far ⟨g + 1, q, none⟩ (by show g + 1 < _; omega) (by simp; omega)).trans S2.out, (hb.cell_far ⟨gq, 0, none⟩ (by show gq < _; omega) (by simpa using hgqo)).trans S3.out, (hb.cell_far ⟨gq, 1, none⟩ (by show gq < _; omega) (by simpa using hgqo)).trans S4.out⟩
                have HSW := Lib.hid hsw
                have o0 := (L3.out.cell (q * 4 + s)).trans (AN_get h16)
                have of0 := L3.out.frozen (q * 4 + s)
                simp only [if_true] at o0
                have go1 : go < W1.heap.size := by have := S5.out; omega
                have z1 : (0 : Int) ≤ (s : Int) := by omega
                have z2 : (0 : Int) ≤ (q : Int) := by omega
                have z3 : (s : Int) < 4 := by omega
                have z4 : (q : Int) < 4 := by omega
                clear hsw
                have hbE := (Below.refl W1.heap.size W1).drew
                go_region_held3 (fun w' => w'.cell? ⟨g, q, none⟩ = some (.int .i64 xd) ∧ w'.cell? ⟨g + 1, q, none⟩ = some (.slice (some ⟨gq, 0, none⟩) 2 cap) ∧ w'.cell? ⟨gq, 0, none⟩ = some (.int .i64 x0) ∧ w'.cell? ⟨gq, 1, none⟩ = some (.int .i64 x1))
                  (first | exact HSW.out _ (grown_below hbE) | exact HSW.out _ (grown_trans (grown_below hbE) (grown_set _ _ _ _)))
                  (first | (go_at_call 62; (with_reducible refine (decide_any _ _ _ _).mono ?_); rintro e w2 ⟨rfl, hbD⟩; clear hbE; have hbE : Below W1.heap.size W1 w2 := Below.trans ((Below.refl W1.heap.size W1).drew) hbD; clear hbD; have hd1 := (hbE.cell (p := ⟨go, q * 4 + s, none⟩) go1).trans o0; have hd2 := (hbE.frozen (p := ⟨go, q * 4 + s, none⟩) go1).trans of0))
                go_wp2_with fail
                go_roundw
                case rel =>
                  (repeat apply Exists.intro)
                  refine ⟨?_, rfl⟩
                  unfold One4
                  exact ⟨q + 1, by omega, by go_num, (L1.out.next hbE).far (by simp; omega) _, Blk.far (Blk.next L2.out hbE) (by simpa using hne.symm) _, Rows.set_far (L5.out.next hbE) (L3.out.next hbE) (by decide) (by omega), out_step hs (L3.out.next hbE) (fun i hi => by simp only [if_neg hi]) HOx.out, (L4.out.trans (hbE.mono (by have := S5.out; have := L4.out.size; omega))).setCell (by simp; omega) _⟩
                case measure => simp [intOf]; omega
            · obtain rfl : q = 4 := by omega
              have HH : Hid (∃ (O : Nat → Int) (p' : Nat), Agr s value bad O ∧ Blk wr go 51 (AN 16 fun i => if i % 4 = s then .int .i64 (O (i / 4)) else F i) ∧ Liar wr gl A n c p' ∧ Below B0 w wr) := by
                refine ⟨O, p, HAG.out, ?_, hL, hB⟩
                rw [AN_congr (g := fun i => if i % 4 = s ∧ i / 4 < 4 then .int .i64 (O (i / 4)) else F i)]
                · exact hO
                · intro i hi
                  by_cases e : i % 4 = s
                  · rw [if_pos e, if_pos ⟨e, by omega⟩]
                  · rw [if_neg e, if_neg (fun h => e h.1)]
              clear hD hL hR hO hB HAG HOq
              go_wp2_with fail
              go_end0
              obtain ⟨O', p', q1, q2, q3, q4⟩ := HH.out
              exact ⟨O', p', rfl, q1, q2, q3, q4⟩
end Go.Proofs.Ytllgjbjcdenchaa
