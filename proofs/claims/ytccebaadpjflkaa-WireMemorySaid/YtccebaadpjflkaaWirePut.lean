/- The contracts of wire.put, get, right. -/
import Derived.Test.YtccebaadpjflkaaWirePlain
import Derived.IntWalk
set_option linter.unusedVariables false
namespace Go.Proofs.Ytccebaadpjflkaa.Wr
open Go.RowKit Go.Proofs.Ytccebaadpjflkaa Crc

def PutRel (w : World) (base m : Nat) (xs : List Value) (v : Int) (n : Nat) (b i : Value) (wr : World) : Prop :=
  ∃ k : Nat, k ≤ n ∧ i = .int .i64 ((n : Int) - 1 - k) ∧ wr.ownsRow base 5 1 b (m + k) (xs ++ (beTo v n k).map (Value.int .u8)) ∧ Below base w wr ∧ w.heap.size ≤ wr.heap.size

set_option maxRecDepth 100000 in
set_option maxHeartbeats 1000000 in
theorem put_any (base m n q : Nat) (hq : m + n = q) (u : Value) (xs : List Value) (v : Int) (w : World) (hown : w.ownsRow base 5 1 u m xs) (hn : n ≤ 8) (hm : m ≤ 100000) (hb : base ≤ w.heap.size) (hv : In64 v) :
    Calls Try.prog 61 #[u, .int .i64 v, .int .i64 n] w fun e w' => ∃ A c, e = .returned (.slice A q c) ∧ w'.ownsRow base 5 1 (.slice A q c) q (xs ++ (beB v n).map (Value.int .u8)) ∧ Below base w w' := by
  obtain ⟨i0, hi, hz0, hz1, hz2⟩ := info_parts infoByte
  subst hq
  obtain ⟨A0, c0, rfl⟩ := own_shape hown
  have HO := Lib.hid hown
  clear hown
  go_enter Try.func61, Try.ntmps61
  go_wp2_with fail
  go_loopw [0, 7] (fun b i wr => PutRel w base m xs v n b i wr) (fun _ i _ => (intOf i + 1).toNat)
  case atStart => exact ⟨0, by omega, by simp, by simpa [beTo] using HO.out, Below.refl _ _, Nat.le_refl _⟩
  case round =>
    obtain ⟨k, hk, rfl, hown, hB, hsz⟩ := hrel
    by_cases hlt : k < n
    · obtain ⟨A1, c1, rfl⟩ := own_shape hown
      have HO1 := Lib.hid hown
      clear hown
      go_wp2_with (first
        | (at_builtin; refine wpList_append_own _ rfl (.tmp 14) (.tmp 21) 58 rfl base 5 i0 (.int .u8 0) 1 1 Try.underlying58 hi hz0 hz1 hz2 rfl (by decide) _ _ _ rfl (HO1.out.alloc _) ⟨wr.heap.size, 0, none⟩ 1 1 [.int .u8 (v / 2 ^ (8 * (n - 1 - k)) % 256)] rfl rfl (cell_one_new _ _ _) (by intro u hu; simp at hu; subst hu; rfl) (by unfold maxLen; omega) (by omega) (by simp; omega) ?_; intro v1 w4 hown1 hgrow1 hnil1))
      have hB4 : Below base w w4 := (hB.alloc (by omega) _).grown hgrow1 (by simp; omega) (fun j hj => (HO1.out.lt j hj).1)
      have hs4 : w.heap.size ≤ w4.heap.size := by have := hgrow1.size; simp at this; omega
      have HO2 := Lib.hid hown1
      clear hown1 hgrow1 hnil1
      go_wp2_with fail
      go_roundw
      case rel => exact ⟨k + 1, by omega, by go_num, by simpa [beTo, ← Nat.add_assoc] using HO2.out, hB4, hs4⟩
      case measure => simp [intOf]; omega
    · obtain rfl : k = n := by omega
      obtain ⟨A1, c1, rfl⟩ := own_shape hown
      have HO1 := Lib.hid hown
      clear hown
      go_wp2_with fail
      go_ret
      exact ⟨A1, c1, rfl, HO1.out, hB⟩

def GetRel (zs : List Int) (v i : Value) : Prop := ∃ k : Nat, k ≤ zs.length ∧ i = .int .i64 k ∧ v = .int .i64 (gv (zs.take k))
set_option maxRecDepth 100000 in
set_option maxHeartbeats 1000000 in
theorem get_any (A : Option Addr) (n c : Nat) (zs : List Int) (w : World) (h : Ints w .u8 A n zs) (hz : Byts zs) (hn : n ≤ 1000) :
    Calls Try.prog 62 #[.slice A n c] w fun e w' => e = .returned (.int .i64 (gv zs)) ∧ w = w' := by
  have hl := h.1
  have H := Lib.hid h
  have HZ := Lib.hid hz
  have HL := Lib.hid hl
  have h0 : gv (zs.take 0) = 0 := rfl
  have H0 := Lib.hid h0
  clear h hz hl h0
  go_enter Try.func62, Try.ntmps62
  go_wp2_with fail
  go_loop [3, 8] (fun v i => GetRel zs v i) (fun _ i => n - (intOf i).toNat)
  case atStart => exact ⟨0, by omega, rfl, by rw [H0.out]⟩
  case round =>
    obtain ⟨k, hk, rfl, rfl⟩ := hrel
    have hkn : k ≤ n := by have := HL.out; omega
    clear hk
    by_cases hlt : k < n
    · obtain ⟨b, off, rfl, _, hc⟩ := H.out.2 (by omega)
      have hx := hc k hlt
      have hb : 0 ≤ zs.getD k 0 ∧ zs.getD k 0 ≤ 255 := by
        have hkl : k < zs.length := by have := HL.out; omega
        simp only [List.getD, List.getElem?_eq_getElem hkl]
        exact HZ.out _ (List.getElem_mem _)
      have hs : bits .or .i64 (IntKind.i64.wrap (gv (zs.take k) * 256)) (zs.getD k 0) = gv (zs.take (k + 1)) := by
        rw [gv_snoc _ _ hb.1 hb.2]
        congr 1
        have hkl : k < zs.length := by have := HL.out; omega
        rw [List.take_succ_eq_append_getElem hkl]
        simp [List.getD, List.getElem?_eq_getElem hkl]
      have hg := gv_in (zs.take k)
      unfold In64 at hg
      obtain ⟨y0, y1⟩ := hb
      generalize zs.getD k 0 = y at *
      generalize hg1 : gv (zs.take (k + 1)) = g1 at *
      have HG1 := Lib.hid hg1
      have HS := Lib.hid hs
      clear hs
      generalize gv (zs.take k) = g0 at *
      clear hc hg1
      go_wp2_with fail
      go_round
      case rel => exact ⟨k + 1, by have := HL.out; omega, by go_num, by rw [HG1.out]; rw [← IntWalk.i64_left]; exact congrArg (Value.int .i64) HS.out⟩
      case measure => simp [intOf]; omega
    · obtain rfl : k = n := by omega
      go_wp2_with fail
      go_ret
      exact ⟨ret_i64 (by rw [List.take_of_length_le (by have := HL.out; omega)]), rfl⟩

set_option maxRecDepth 100000 in
set_option maxHeartbeats 1000000 in
theorem right_any (k f r : Int) (A : Option Addr) (n c : Nat) (hn : n ≤ 9223372036854775807) (w : World) :
    Calls Try.prog 60 #[.agg #[.int .i64 k, .int .i64 f, .int .i64 r, .slice A n c]] w fun e w' => e = .returned (.int .i64 (rightE k f r n)) ∧ Below w.heap.size w w' := by
  have hB := (Below.refl w.heap.size w).alloc (Nat.le_refl _) (.cells #[.int .i64 k, .int .i64 f, .int .i64 r, .slice A n c] 57)
  have HB := Lib.hid hB
  clear hB
  by_cases h1 : k < 1 ∨ 5 < k
  · have hr : rightE k f r n = 4 := by unfold rightE; rw [if_pos h1]
    rw [hr]
    clear hr
    by_cases h2 : k < 1
    · go_enter Try.func60, Try.ntmps60
      go_wp2_with fail
      go_ret
      exact ⟨rfl, HB.out⟩
    · have h3 : 5 < k := by omega
      clear h1
      go_enter Try.func60, Try.ntmps60
      go_wp2_with fail
      go_ret
      exact ⟨rfl, HB.out⟩
  · have k1 : 1 ≤ k := by omega
    have k2 : k ≤ 5 := by omega
    by_cases h2 : f < 0 ∨ 4 ≤ f ∨ r < 0 ∨ 2147483648 ≤ r
    · have hr : rightE k f r n = 3 := by unfold rightE; rw [if_neg h1, if_pos h2]
      rw [hr]
      clear hr h1
      by_cases f1 : f < 0
      · clear h2
        go_enter Try.func60, Try.ntmps60
        go_wp2_with fail
        go_ret
        exact ⟨rfl, HB.out⟩
      · by_cases f2 : 4 ≤ f
        · have f3 : 0 ≤ f := by omega
          clear h2 f1
          go_enter Try.func60, Try.ntmps60
          go_wp2_with fail
          go_ret
          exact ⟨rfl, HB.out⟩
        · have f3 : 0 ≤ f := by omega
          have f4 : f ≤ 3 := by omega
          by_cases r1 : r < 0
          · clear h2 f1 f2
            go_enter Try.func60, Try.ntmps60
            go_wp2_with fail
            go_ret
            exact ⟨rfl, HB.out⟩
          · have r2 : 0 ≤ r := by omega
            have r3 : 2147483648 ≤ r := by omega
            clear h2 f1 f2 r1
            go_enter Try.func60, Try.ntmps60
            go_wp2_with fail
            go_ret
            exact ⟨rfl, HB.out⟩
    · have f3 : 0 ≤ f := by omega
      have f4 : f ≤ 3 := by omega
      have r2 : 0 ≤ r := by omega
      have r3 : r < 2147483648 := by omega
      by_cases h3 : 24 < n
      · have hr : rightE k f r n = 6 := by unfold rightE; rw [if_neg h1, if_neg h2, if_pos h3]
        rw [hr]
        clear hr h1 h2
        go_enter Try.func60, Try.ntmps60
        go_wp2_with fail
        go_ret
        exact ⟨rfl, HB.out⟩
      · have hr : rightE k f r n = 0 := by unfold rightE; rw [if_neg h1, if_neg h2, if_neg h3]
        rw [hr]
        have n1 : n ≤ 24 := by omega
        clear hr h1 h2 h3
        go_enter Try.func60, Try.ntmps60
        go_wp2_with fail
        go_ret
        exact ⟨rfl, HB.out⟩
end Go.Proofs.Ytccebaadpjflkaa.Wr
