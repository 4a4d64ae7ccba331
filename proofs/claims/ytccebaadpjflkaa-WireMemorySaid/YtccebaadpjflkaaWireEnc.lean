/- The contract of wire.Encode. -/
import Derived.Test.YtccebaadpjflkaaWirePut
import Derived.Test.YtccebaadpjflkaaKit2
set_option linter.unusedVariables false
namespace Go.Proofs.Ytccebaadpjflkaa.Wr
open Go.RowKit Go.Proofs.Ytccebaadpjflkaa Crc

theorem own_new (w : World) (t : TypeId) (xs : List Value) (n base : Nat) (hn : xs.length = n) (hb : base ≤ w.heap.size) (hl : n ≤ maxLen) : (w.alloc (.cells xs.toArray t)).ownsRow base t 1 (.slice (some ⟨w.heap.size, 0, none⟩) n n) n xs := by
  subst hn
  exact ⟨by simp, .inr ⟨w.heap.size, xs.length, xs.toArray, rfl, hb, Blk.new w t _, Nat.le_refl _, hl, by simp, by simp⟩⟩

/-- what Encode answers -/
def EncPost (k f r : Int) (n : Nat) (vs : List Int) (w : World) (e : Ending) (w' : World) : Prop :=
  (rightE k f r n = 0 ∧ ∃ A c, e = .returned (.tuple #[.slice A (8 + 8 * n + 4) c, .int .i64 0]) ∧ NewBytes w w' A (8 + 8 * n + 4) c (sealed (encB k f r vs))) ∨
  (rightE k f r n ≠ 0 ∧ e = .returned (.tuple #[.slice none 0 0, .int .i64 (rightE k f r n)]) ∧ Below w.heap.size w w')

/-- the head of a message's bytes -/
def hdB (k f r : Int) (n : Nat) : List Int := [87, k, f] ++ beB r 4 ++ [(n : Int)]
theorem hdB_len (k f r : Int) (n : Nat) : (hdB k f r n).length = 8 := by simp [hdB, beB_len]
theorem hdB_in (k f r : Int) (n : Nat) (h : rightE k f r n = 0) : Byts (hdB k f r n) := by
  obtain ⟨h1, h2, h3, h4, h5, h6, h7⟩ := right0.1 h
  intro z hz
  simp only [hdB, List.mem_append, List.mem_cons, List.not_mem_nil, or_false] at hz
  rcases hz with (((rfl | rfl | rfl) | hz) | rfl)
  · omega
  · omega
  · omega
  · exact beB_in _ _ z hz
  · omega
def EncRel (W0 : World) (B : Nat) (k f r : Int) (n : Nat) (vs : List Int) (b i : Value) (W : World) : Prop :=
  ∃ j : Nat, j ≤ n ∧ i = .int .i64 j ∧ W.ownsRow B 5 1 b (8 + 8 * j) ((hdB k f r n ++ valsB (vs.take j)).map (Value.int .u8)) ∧ Below B W0 W ∧ B ≤ W.heap.size

set_option maxRecDepth 100000 in
set_option maxHeartbeats 1000000 in
theorem Encode_any (k f r : Int) (A : Option Addr) (n c : Nat) (vs : List Int) (w : World) (h : Ints w .i64 A n vs) (hv : ∀ v ∈ vs, In64 v) (hn : n ≤ 9223372036854775807) :
    Calls Try.prog 23 #[.agg #[.int .i64 k, .int .i64 f, .int .i64 r, .slice A n c]] w (EncPost k f r n vs w) := by
  obtain ⟨i0, hi, hz0, hz1, hz2⟩ := info_parts infoByte
  have hP := Blk.new w 57 #[.int .i64 k, .int .i64 f, .int .i64 r, .slice A n c]
  have hB := (Below.refl w.heap.size w).alloc (Nat.le_refl _) (.cells #[.int .i64 k, .int .i64 f, .int .i64 r, .slice A n c] 57)
  have HP := Lib.hid hP
  have HB := Lib.hid hB
  have kr := fun W => right_any k f r A n c hn W
  have KR := Lib.hid kr
  have H := Lib.hid h
  have HV := Lib.hid hv
  clear hP hB kr h hv
  by_cases hr : rightE k f r n = 0
  · obtain ⟨k1, k2, f1, f2, r1, r2, n1⟩ := right0.1 hr
    have HR := Lib.hid hr
    clear hr
    go_enter Try.func23, Try.ntmps23
    go_wp2_with fail
    refine (KR.out _).mono ?_
    rintro e w1 ⟨rfl, hB1⟩
    rw [HR.out]
    have P1 := Lib.hid (HP.out.next hB1)
    have c0 := P1.out.cell 0
    have c1 := P1.out.cell 1
    have c2 := fun o => (P1.out.alloc o).cell 2
    simp only [List.getElem?_toArray, List.getElem?_cons_zero, List.getElem?_cons_succ] at c0 c1 c2
    have B1 := Lib.hid (below_next HB.out hB1)
    have H1 := Lib.hid ((H.out.alloc (.cells #[.int .i64 k, .int .i64 f, .int .i64 r, .slice A n c] 57)).next hB1)
    have hs1 : w.heap.size + 1 ≤ w1.heap.size := by have := hB1.size; simpa using this
    have hB1' : Below (w.heap.size + 1) (w.alloc (.cells #[.int .i64 k, .int .i64 f, .int .i64 r, .slice A n c] 57)) w1 := by have := hB1; simpa using this
    have HB1 := Lib.hid hB1'
    have H0 := Lib.hid (H.out.alloc (.cells #[.int .i64 k, .int .i64 f, .int .i64 r, .slice A n c] 57))
    clear hB1 hB1' H H1
    go_wp2_with fail
    refine (put_any (w.heap.size + 1) 3 4 7 rfl _ [.int .u8 87, .int .u8 k, .int .u8 f] r _ (own_new w1 5 _ 3 _ rfl hs1 (by decide)) (by omega) (by omega) (by simp; omega) (by unfold In64; omega)).mono ?_
    rintro e w2 ⟨A2, c2, rfl, hown2, hB2⟩
    have hs2 : w.heap.size + 1 ≤ w2.heap.size := by have := hB2.size; simp at this; omega
    have hP2 := (P1.out.alloc (.cells #[.int .u8 87, .int .u8 k, .int .u8 f] 5)).below hB2 (Nat.lt_succ_self _)
    have P2 := Lib.hid hP2
    have c3 := P2.out.cell 3
    simp only [List.getElem?_toArray, List.getElem?_cons_zero, List.getElem?_cons_succ] at c3
    have hB20 := ((HB1.out.alloc hs1 (.cells #[.int .u8 87, .int .u8 k, .int .u8 f] 5)).trans hB2)
    have HB20 := Lib.hid hB20
    have O2 := Lib.hid hown2
    clear hB2 hP2 hB20 hown2 P1 HB1 B1
    go_wp2_with (at_builtin; refine wpList_append_own _ rfl (.tmp 23) (.tmp 28) 58 rfl (w.heap.size + 1) 5 i0 (.int .u8 0) 1 1 Try.underlying58 hi hz0 hz1 hz2 rfl (by decide) _ 7 _ rfl (O2.out.alloc _) ⟨w2.heap.size, 0, none⟩ 1 1 [.int .u8 (n : Int)] rfl rfl (cell_one_new _ _ _) (by intro u hu; simp at hu; subst hu; rfl) (by unfold maxLen; omega) (by omega) (by simp; omega) ?_; intro v3 w3 hown3 hg3 _; have hB3 := (HB20.out.alloc (by simpa using hs2) (.cells #[.int .u8 (n : Int)] 5)).grown hg3 (by simp; omega) (fun j hj => (O2.out.lt j hj).1); have HB3 := Lib.hid hB3; have c4 := (((P2.out.alloc (.cells #[.int .u8 (n : Int)] 5)).grown hg3 (own_blk_ne O2.out P2.out (by decide))).cell 3); simp only [List.getElem?_toArray, List.getElem?_cons_zero, List.getElem?_cons_succ] at c4; have hs3 := hg3.size; clear hB3 hg3 c3; have O3 := Lib.hid hown3; clear hown3)
    have hW0 : (w.alloc (.cells #[.int .i64 k, .int .i64 f, .int .i64 r, .slice A n c] 57)).heap.size = w.heap.size + 1 := by simp
    obtain ⟨W0, hW⟩ : ∃ W0, W0 = w.alloc (.cells #[.int .i64 k, .int .i64 f, .int .i64 r, .slice A n c] 57) := ⟨_, rfl⟩
    have HW := Lib.hid hW
    have HI := Lib.hid (fun W (hb : Below (w.heap.size + 1) (w.alloc (.cells #[.int .i64 k, .int .i64 f, .int .i64 r, .slice A n c] 57)) W) => (H0.out).next (by rw [hW0]; exact hb))
    clear hW0 hW c4
    go_loopw [5, 33] (fun b i W => EncRel W0 (w.heap.size + 1) k f r n vs b i W) (fun _ i _ => n - (intOf i).toNat)
    case atStart => exact ⟨0, by omega, rfl, by simpa [hdB, valsB] using O3.out, by rw [HW.out]; exact HB3.out, by simp at hs3; omega⟩
    case round =>
      obtain ⟨j, hj, rfl, hown, hB, hsz⟩ := hrel
      obtain ⟨A5, c5, rfl⟩ := own_shape hown
      have O5 := Lib.hid hown
      have B5 := Lib.hid hB
      clear hown hB
      by_cases hlt : j < n
      · have hb0 := B5.out
        rw [HW.out] at hb0
        have hI := HI.out _ hb0
        obtain ⟨hvl, hI2⟩ := hI
        obtain ⟨b, off, rfl, _, hc⟩ := hI2 (by omega)
        have hx := hc j hlt
        have hv : In64 (vs.getD j 0) := by
          simp only [List.getD, List.getElem?_eq_getElem (show j < vs.length by omega)]
          exact HV.out _ (List.getElem_mem _)
        have hs : vs.take (j + 1) = vs.take j ++ [vs.getD j 0] := by
          rw [List.take_succ_eq_append_getElem (show j < vs.length by omega)]
          simp [List.getD, List.getElem?_eq_getElem (show j < vs.length by omega)]
        have HVJ := Lib.hid hv
        have HS := Lib.hid hs
        generalize vs.getD j 0 = y at *
        clear hc hI2 hvl hb0 hv hs
        go_wp2_with fail
        refine (put_any (w.heap.size + 1) (8 + 8 * j) 8 (8 + 8 * (j + 1)) (by omega) _ _ y _ O5.out (by omega) (by omega) hsz HVJ.out).mono ?_
        rintro e w6 ⟨A6, c6, rfl, hown6, hB6⟩
        have O6 := Lib.hid hown6
        have hs6 := hB6.size
        have B6 := Lib.hid (B5.out.trans hB6)
        clear hown6 hB6
        go_wp2_with fail
        go_roundw
        case rel => exact ⟨j + 1, by omega, by go_num, by rw [HS.out, valsB_snoc, ← List.append_assoc, List.map_append]; exact O6.out, B6.out, by omega⟩
        case measure => simp [intOf]; omega
      · obtain rfl : j = n := by omega
        have hb0 := B5.out
        rw [HW.out] at hb0
        have hI := HI.out _ hb0
        have hvl := hI.1
        have O6 := O5.out
        have he : hdB k f r j ++ valsB (vs.take j) = encB k f r vs := by
          rw [List.take_of_length_le (by omega)]
          unfold hdB encB
          rw [hvl]
        rw [he] at O6
        have HR2 : Hid (rightE k f r vs.length = 0) := Lib.hid (by rw [hvl]; exact HR.out)
        have O7 := Lib.hid O6
        have HVL := Lib.hid hvl
        have HB0 := Lib.hid hb0
        clear hI hb0 he O6 hvl
        go_wp2_with fail
        refine (seal_any A5 (8 + 8 * j) c5 (encB k f r vs) _ (Ints.own O7.out) (own_none O7.out).1 (by omega) (encB_in k f r vs HR2.out)).mono ?_
        rintro e w8 ⟨A8, c8, rfl, hown8, hB8⟩
        go_wp2_with fail
        go_ret2
        have hle : w.heap.size ≤ wr.heap.size := by omega
        exact .inl ⟨HR.out, A8, c8, rfl, own_le hown8 hle, (HB.out.trans (HB0.out.mono (by omega))).trans (hB8.mono hle)⟩
  · have hb : (rightE k f r n != 0) = true := by rw [bne_iff_ne]; exact hr
    have HR := Lib.hid hr
    clear hr
    generalize hg : rightE k f r n = q at *
    have HG := Lib.hid hg
    clear hg
    go_enter Try.func23, Try.ntmps23
    go_wp2_with fail
    refine (KR.out _).mono ?_
    rintro e w1 ⟨rfl, hB1⟩
    have B1 := Lib.hid (below_next HB.out hB1)
    clear hB1
    go_wp2_with fail
    go_ret2
    exact .inr ⟨by rw [HG.out]; exact HR.out, by rw [HG.out]; rfl, B1.out⟩
end Go.Proofs.Ytccebaadpjflkaa.Wr
