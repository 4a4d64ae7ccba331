/- Merged: NodeFuse NodePack. -/
import Derived.Deep.MidRow
import Derived.Test.YtofeoeknmlkjgaaZ13
import Derived.Test.YtofeoeknmlkjgaaZ29
set_option linter.unusedVariables false
set_option linter.unusedSimpArgs false
section
/- node.fuse. -/
set_option linter.unusedVariables false
namespace Go.Proofs.Ytofeoeknmlkjgaa.Nk
open Go.RowKit Go.Proofs.Ytofeoeknmlkjgaa Mb Fi Sm Md

def FRel (w : World) (n : Nd) (va : Value) (g a : Nat) (lv iv : Value) (wr : World) : Prop :=
  ∃ (i : Nat) (v : Value), iv = .int .i64 i ∧ i ≤ 4 ∧ lv = v ∧ wr.ownsRow w.heap.size 3 1 v (fuseL n a i).length ((fuseL n a i).map (Value.int .i64)) ∧ NB wr g n va ∧ Below w.heap.size w wr
theorem ret_int4 {a b : Int} (h : a = b) : Ending.returned (.int .i64 a) = .returned (.int .i64 b) := by rw [h]
theorem ints_new (w : World) (z : Int) (k : IntKind) (t : TypeId) : Ints (w.alloc (.cells #[.int k z] t)) k (some ⟨w.heap.size, 0, none⟩) 1 [z] := ⟨rfl, fun _ => ⟨w.heap.size, 0, rfl, by simp, fun j hj => by
  obtain rfl : j = 0 := by omega
  exact (Blk.new w t #[.int k z]).cell 0⟩⟩

set_option maxRecDepth 100000 in
set_option maxHeartbeats 4000000 in
theorem fuse_any (n : Nd) (va : Value) (a : Nat) (ha : a < 3) (hin : ∀ j, j < 12 → -9223372036854775808 ≤ n.ag j ∧ n.ag j ≤ 9223372036854775807) (w : World) :
    Calls Try.prog 41 #[.agg (NA n va), .int .i64 a] w fun e w' => e = .returned (.int .i64 (fuseF n a)) ∧ Below w.heap.size w w' := by
  obtain ⟨i0, hi, hz0, hz1, hz2⟩ := info_parts infoInt4
  have hN0 : NB (w.alloc (.cells (NA n va) 45)) w.heap.size n va := Blk.new _ _ _
  have hB0 : Below w.heap.size w (w.alloc (.cells (NA n va) 45)) := (Below.refl _ _).alloc (Nat.le_refl _) _
  have b0 := hN0.inn (i := 0) (by omega)
  have b1 := hN0.inn (i := 1) (by omega)
  have b2 := hN0.inn (i := 2) (by omega)
  have b3 := hN0.inn (i := 3) (by omega)
  have HN0 := Lib.hid hN0
  have HB0 := Lib.hid hB0
  have HIN := Lib.hid hin
  clear hN0 hB0 hin
  go_enter Try.func41, Try.ntmps41
  go_wp2_with fail
  clear b0 b1 b2 b3
  go_loopw [5, 13] (fun lv iv wr => FRel w n va w.heap.size a lv iv wr) (fun _ iv _ => 4 - (intOf iv).toNat)
  case atStart => exact ⟨0, _, rfl, by omega, rfl, World.ownsRow_nil _ _ _ _, HN0.out, HB0.out⟩
  case round =>
    clear HN0 HB0
    obtain ⟨i, v, rfl, hi4, hv, hO, hN, hB⟩ := hrel
    have hv2 := hv.symm
    clear hv
    subst hv2
    obtain ⟨Av, cv, rfl⟩ := own_shape hO
    have hfl := fuseL_len n a i
    by_cases hi' : i < 4
    · have q0 : (i : Int) < 4 := by omega
      have qq : (0 : Int) ≤ (i : Int) := by omega
      have qa : (0 : Int) ≤ (a : Int) := by omega
      have qa3 : (a : Int) < 3 := by omega
      have ix := fun W => idxIn n.ro i hi' W
      have c0 := hN.ag hi' ha
      have hsn : fuseL n a (i + 1) = if n.ro.inn i = true then fuseL n a i ++ [n.ag (i * 3 + a)] else fuseL n a i := rfl
      have HO := Lib.hid hO
      have HN := Lib.hid hN
      have HB := Lib.hid hB
      have hwr := hB.size
      clear hO hN hB
      cases hin : n.ro.inn i with
      | false =>
        rw [if_neg (by rw [hin]; decide)] at hsn
        simp only [hin] at ix
        have HSN := Lib.hid hsn
        clear hsn hin
        go_wp2_with fail
        go_roundw
        case rel => exact ⟨i + 1, _, by go_num, by omega, rfl, by rw [HSN.out]; exact HO.out, HN.out, HB.out⟩
        case measure => simp [intOf]; omega
      | true =>
        rw [if_pos hin] at hsn
        simp only [hin] at ix
        have HSN := Lib.hid hsn
        clear hsn hin
        generalize n.ag (i * 3 + a) = z at *
        go_wp2_with (first
          | (at_builtin; go_loud (refine wpList_append_ints rfl _ _ 58 rfl w.heap.size 3 i0 (.int .i64 0) .i64 8 Try.underlying58 hi hz0 hz1 hz2 rfl (.slice Av (fuseL n a i).length cv) _ _ rfl (own_below HO.out ((Below.refl wr.heap.size wr).alloc (Nat.le_refl _) _) (fun x hx => (HO.out.lt x hx).2)) (some ⟨wr.heap.size, 0, none⟩) 1 1 [z] rfl (fun e => by cases e) (ints_new _ _ _ _) (by unfold maxLen; omega) (by omega) (by simp; omega) ?_); intro v3 w3 hown3 hg3))
        go_roundw
        case rel =>
          have hb3 : Below w.heap.size w w3 := (HB.out.alloc hwr _).grown hg3 (by simp; omega) (fun j hj => (HO.out.lt j hj).1)
          have hn3 := Blk.grown (Blk.alloc HN.out (.cells #[.int .i64 z] 3)) hg3 (own_blk_ne (own_below HO.out ((Below.refl wr.heap.size wr).alloc (Nat.le_refl _) _) (fun x hx => (HO.out.lt x hx).2)) (Blk.alloc HN.out (.cells #[.int .i64 z] 3)) (by decide))
          exact ⟨i + 1, v3, by go_num, by omega, rfl, by rw [HSN.out, List.length_append, List.map_append]; exact hown3, hn3, hb3⟩
        case measure => simp [intOf]; omega
    · obtain rfl : i = 4 := by omega
      have hI := Bs_ints_own hO
      have HB := Lib.hid hB
      clear hO hN hB
      by_cases h0 : (fuseL n a 4).length = 0
      · have hz : fuseF n a = 0 := by unfold fuseF; rw [if_pos h0]
        have HZ := Lib.hid hz
        clear hz
        have K := Lib.hid (Middle_bad Av (fuseL n a 4).length cv (.inl h0) (by omega) wr)
        have H0 := Lib.hid h0
        clear h0 hI
        generalize (fuseL n a 4).length = m at *
        go_wp2_with (first | (go_at_call 15; (with_reducible refine K.out.mono ?_); rintro e w2 ⟨rfl, rfl⟩))
        go_ret
        exact ⟨ret_int4 HZ.out.symm, HB.out⟩
      · have hz : fuseF n a = midZ (fuseL n a 4) := by unfold fuseF; rw [if_neg h0]
        have HZ := Lib.hid hz
        clear hz
        have K := Lib.hid (Middle_ok Av (fuseL n a 4).length cv (fuseL n a 4) (by omega) (by omega) wr hI (fuseL_all n a _ HIN.out ha 4 (by omega)))
        clear h0 hI
        generalize midZ (fuseL n a 4) = z at *
        generalize (fuseL n a 4).length = m at *
        go_wp2_with (first | (go_at_call 15; (with_reducible refine K.out.mono ?_); rintro e w2 ⟨rfl, hb2⟩))
        go_ret
        exact ⟨ret_int4 HZ.out.symm, HB.out.trans (hb2.mono HB.out.size)⟩
end Go.Proofs.Ytofeoeknmlkjgaa.Nk
end
section
/- node.pack, digest. -/
set_option linter.unusedVariables false
namespace Go.Proofs.Ytofeoeknmlkjgaa.Nk
open Go.RowKit Go.Proofs.Ytofeoeknmlkjgaa Mb Fi Sm Md

def stL (s : St) : List Value := [.int .i64 s.x, .int .i64 s.v, .int .i64 s.p, .int .i64 s.q, .int .i64 s.r, .bool s.b, .int .i64 s.m]
def axL (n : Nd) : List Value := stL (n.ax 0) ++ stL (n.ax 1) ++ stL (n.ax 2)
theorem axL_get (n : Nd) (j : Nat) (hj : j < 21) : (axL n)[j]? = some (stc (n.ax (j / 7)) (j % 7)) := by
  have h := fun (s : St) (k : Nat) (hk : k < 7) => show (stL s)[k]? = some (stc s k) from by
    match k, hk with
    | 0, _ => rfl
    | 1, _ => rfl
    | 2, _ => rfl
    | 3, _ => rfl
    | 4, _ => rfl
    | 5, _ => rfl
    | 6, _ => rfl
  unfold axL
  rcases (show j < 7 ∨ (7 ≤ j ∧ j < 14) ∨ 14 ≤ j by omega) with c | c | c
  · rw [List.append_assoc, List.getElem?_append_left (by show j < 7; exact c), h _ _ c, show j / 7 = 0 by omega, show j % 7 = j by omega]
  · rw [List.append_assoc, List.getElem?_append_right (by show 7 ≤ j; exact c.1), List.getElem?_append_left (by show j - 7 < 7; omega)]
    show (stL (n.ax 1))[j - 7]? = _
    rw [h _ _ (by omega), show j / 7 = 1 by omega, show j % 7 = j - 7 by omega]
  · rw [List.append_assoc, List.getElem?_append_right (by show 7 ≤ j; omega), List.getElem?_append_right (by show 7 ≤ j - 7; omega)]
    show (stL (n.ax 2))[j - 7 - 7]? = _
    rw [h _ _ (by omega), show j / 7 = 2 by omega, show j % 7 = j - 7 - 7 by omega]
theorem NB.axR {W : World} {g : Nat} {n : Nd} {va : Value} (h : NB W g n va) : W.rangeAt g 6 (axL n) := by
  intro j v hj
  have hlt : j < 21 := (List.getElem?_eq_some_iff.1 hj).1
  rw [axL_get n j hlt] at hj
  injection hj with hj
  rw [← hj, h.at_ (by omega), c_ax (by omega) (by omega), show 6 + j - 6 = j by omega]
theorem info21 : (Try.prog.info? 34).map (·.size) = some 21 := by kernel_rfl
theorem ixA0 (n : Nd) (w : World) : (Instr.index 34 (.agg (axL n).toArray) (.int .i64 0)).run Try.prog w = .ok (.agg #[.int .i64 (n.ax 0).x, .int .i64 (n.ax 0).v, .int .i64 (n.ax 0).p, .int .i64 (n.ax 0).q, .int .i64 (n.ax 0).r, .bool (n.ax 0).b, .int .i64 (n.ax 0).m]) w := by kernel_rfl
theorem ixA1 (n : Nd) (w : World) : (Instr.index 34 (.agg (axL n).toArray) (.int .i64 1)).run Try.prog w = .ok (.agg #[.int .i64 (n.ax 1).x, .int .i64 (n.ax 1).v, .int .i64 (n.ax 1).p, .int .i64 (n.ax 1).q, .int .i64 (n.ax 1).r, .bool (n.ax 1).b, .int .i64 (n.ax 1).m]) w := by kernel_rfl
theorem ixA2 (n : Nd) (w : World) : (Instr.index 34 (.agg (axL n).toArray) (.int .i64 2)).run Try.prog w = .ok (.agg #[.int .i64 (n.ax 2).x, .int .i64 (n.ax 2).v, .int .i64 (n.ax 2).p, .int .i64 (n.ax 2).q, .int .i64 (n.ax 2).r, .bool (n.ax 2).b, .int .i64 (n.ax 2).m]) w := by kernel_rfl

theorem ixA (n : Nd) (k : Nat) (hk : k < 3) (w : World) : (Instr.index 34 (.agg (axL n).toArray) (.int .i64 (k : Int))).run Try.prog w = .ok (.agg #[.int .i64 (n.ax k).x, .int .i64 (n.ax k).v, .int .i64 (n.ax k).p, .int .i64 (n.ax k).q, .int .i64 (n.ax k).r, .bool (n.ax k).b, .int .i64 (n.ax k).m]) w := by
  match k, hk with
  | 0, _ => exact ixA0 n w
  | 1, _ => exact ixA1 n w
  | 2, _ => exact ixA2 n w
def PRel (w : World) (n : Nd) (va : Value) (g : Nat) (lv iv : Value) (wr : World) : Prop :=
  ∃ (i : Nat) (v : Value), iv = .int .i64 i ∧ i ≤ 3 ∧ lv = v ∧ wr.ownsRow w.heap.size 3 1 v (7 * i) ((packA n.ax i).map (Value.int .i64)) ∧ NB wr g n va ∧ Below w.heap.size w wr
theorem ints_blk {w : World} {g : Nat} {t : TypeId} {zs : List Int} {k : IntKind} (h : Blk w g t (zs.map (Value.int k)).toArray) : Ints w k (some ⟨g, 0, none⟩) zs.length zs := ⟨rfl, fun _ => ⟨g, 0, rfl, h.lt, fun j hj => by
  rw [Nat.zero_add, h.cell j]
  simp [List.getD, List.getElem?_eq_getElem hj]⟩⟩

theorem PRel.more {w wr w3 : World} {n : Nd} {va : Value} {g i : Nat} {Av : Option Addr} {cv : Nat} {v3 : Value} {l : List Int} {o1 o2 : Obj} (hs : packA n.ax (i + 1) = packA n.ax i ++ l) (hl : (packA n.ax i).length = 7 * i) (hi : i < 3)
    (hO : wr.ownsRow w.heap.size 3 1 (.slice Av (7 * i) cv) (7 * i) ((packA n.ax i).map (Value.int .i64))) (hN : NB wr g n va) (hB : Below w.heap.size w wr)
    (h3 : w3.ownsRow w.heap.size 3 1 v3 (7 * i + 7) ((packA n.ax i).map (Value.int .i64) ++ l.map (Value.int .i64))) (hg : ((wr.alloc o1).alloc o2).grownBy w3 (Value.slice Av (7 * i) cv).ownBlock) : PRel w n va g v3 (.int .i64 ((i : Int) + 1)) w3 := by
  have hb2 : Below wr.heap.size wr ((wr.alloc o1).alloc o2) := ((Below.refl wr.heap.size wr).alloc (Nat.le_refl _) o1).alloc (by simp) o2
  have ho2 := own_below hO hb2 (fun x hx => (hO.lt x hx).2)
  have hn2 := hN.next hb2
  have hs2 := hB.size
  refine ⟨i + 1, v3, by go_num, hi, rfl, ?_, Blk.grown hn2 hg (own_blk_ne ho2 hn2 (by decide)), (hB.trans (hb2.mono hs2)).grown hg (by simp; omega) (fun j hj => (hO.lt j hj).1)⟩
  rw [hs, List.map_append, Nat.mul_add]
  exact h3
def inTo (R : Rl) : Nat → Int
  | 0 => 0
  | i + 1 => if R.inn i = true then bits .or .i64 (inTo R i) (wrap64 (2 ^ i)) else inTo R i
def cTo (f : Nat → Int) : Nat → Int
  | 0 => 0
  | i + 1 => wrap64 (wrap64 (cTo f i * 8) + f i)

def packL (n : Nd) : List Int := packA n.ax 3 ++ [inTo n.ro 4, cTo n.ro.miss 4, cTo n.ro.join 4]
theorem packL_len (n : Nd) : (packL n).length = 24 := by unfold packL; rw [List.length_append, packA_len]; rfl
def PackPost (n : Nd) (w : World) (e : Ending) (w' : World) : Prop := ∃ A c, e = .returned (.slice A 24 c) ∧ w'.ownsRow w.heap.size 3 1 (.slice A 24 c) 24 ((packL n).map (Value.int .i64)) ∧ Below w.heap.size w w'
theorem int_eq {a b : Int} (h : a = b) : Value.int .i64 a = Value.int .i64 b := by rw [h]
set_option maxRecDepth 100000 in
set_option maxHeartbeats 4000000 in
theorem pack_any (n : Nd) (va : Value) (w : World) :
    Calls Try.prog 46 #[.agg (NA n va)] w (PackPost n w) := by
  obtain ⟨i0, hi, hz0, hz1, hz2⟩ := info_parts infoInt4
  have hN0 : NB (w.alloc (.cells (NA n va) 45)) w.heap.size n va := Blk.new _ _ _
  have hB0 : Below w.heap.size w (w.alloc (.cells (NA n va) 45)) := (Below.refl _ _).alloc (Nat.le_refl _) _
  have HN0 := Lib.hid hN0
  have HB0 := Lib.hid hB0
  clear hN0 hB0
  go_enter Try.func46, Try.ntmps46
  go_wp2_with (first
    | (refine wpList_load_mid rfl 34 (.tmp 11) rfl w.heap.size 6 rfl (axL n) _ HN0.out.axR Try.underlying34 rfl info21 ?_))
  go_loopw [3, 13] (fun lv iv wr => PRel w n va w.heap.size lv iv wr) (fun _ iv _ => 3 - (intOf iv).toNat)
  case atStart => exact ⟨0, _, rfl, by omega, rfl, World.ownsRow_nil _ _ _ _, HN0.out, HB0.out⟩
  case round =>
    clear HN0 HB0
    obtain ⟨i, v, rfl, hi3, hv, hO, hN, hB⟩ := hrel
    have hv2 := hv.symm
    clear hv
    subst hv2
    obtain ⟨Av, cv, rfl⟩ := own_shape hO
    by_cases hi' : i < 3
    · have q0 : (i : Int) < 3 := by omega
      have ix := fun W => ixA n i hi' W
      have hpl := packA_len n.ax i
      have hsn : packA n.ax (i + 1) = packA n.ax i ++ stI (n.ax i) := rfl
      have hwr := hB.size
      have HSN := Lib.hid hsn
      have HPL := Lib.hid hpl
      have HO := Lib.hid hO
      have HN := Lib.hid hN
      have HB := Lib.hid hB
      clear hO hN hB hsn hpl
      have HO2 := fun o1 o2 => Lib.hid (own_below HO.out (((Below.refl wr.heap.size wr).alloc (Nat.le_refl _) o1).alloc (by simp) o2) (fun x hx => (HO.out.lt x hx).2))
      unfold stI at HSN
      generalize n.ax i = s at *
      obtain ⟨sx, sv, sp, sq, sr, sb, sm⟩ := s
      simp only at ix HSN
      cases sb with
      | true =>
        have hI := fun W => ints_blk (w := W) (g := wr.heap.size + 1) (t := 3) (k := .i64) (zs := [sx, sv, sp, sq, sr, 1, sm])
        go_wp2_with (first
          | (at_builtin; go_loud (refine wpList_append_ints rfl _ _ 58 rfl w.heap.size 3 i0 (.int .i64 0) .i64 8 Try.underlying58 hi hz0 hz1 hz2 rfl (.slice Av (7 * i) cv) _ _ rfl (Hid.out (HO2 _ _)) (some ⟨wr.heap.size + 1, 0, none⟩) 7 7 [sx, sv, sp, sq, sr, 1, sm] rfl (fun e => by cases e) (hI _ (Blk.at_ _ _ _ _ (by simp))) (by unfold maxLen; omega) (by omega) (by simp; omega) ?_); intro v3 w3 hown3 hg3))
        go_roundw
        case rel => exact PRel.more HSN.out HPL.out hi' HO.out HN.out HB.out hown3 hg3
        case measure => simp [intOf]; omega
      | false =>
        have hI := fun W => ints_blk (w := W) (g := wr.heap.size + 1) (t := 3) (k := .i64) (zs := [sx, sv, sp, sq, sr, 0, sm])
        go_wp2_with (first
          | (at_builtin; go_loud (refine wpList_append_ints rfl _ _ 58 rfl w.heap.size 3 i0 (.int .i64 0) .i64 8 Try.underlying58 hi hz0 hz1 hz2 rfl (.slice Av (7 * i) cv) _ _ rfl (Hid.out (HO2 _ _)) (some ⟨wr.heap.size + 1, 0, none⟩) 7 7 [sx, sv, sp, sq, sr, 0, sm] rfl (fun e => by cases e) (hI _ (Blk.at_ _ _ _ _ (by simp))) (by unfold maxLen; omega) (by omega) (by simp; omega) ?_); intro v3 w3 hown3 hg3))
        go_roundw
        case rel => exact PRel.more HSN.out HPL.out hi' HO.out HN.out HB.out hown3 hg3
        case measure => simp [intOf]; omega
    · obtain rfl : i = 3 := by omega
      have HO := Lib.hid hO
      have HN := Lib.hid hN
      have HB := Lib.hid hB
      clear hO hN hB
      go_wp2_with fail
      go_loopw [7, 8, 9, 35] (fun s7 s8 s9 iv wx => ∃ i : Nat, iv = .int .i64 i ∧ i ≤ 4 ∧ s7 = .int .i64 (inTo n.ro i) ∧ s8 = .int .i64 (cTo n.ro.miss i) ∧ s9 = .int .i64 (cTo n.ro.join i) ∧ wx = wr) (fun _ _ _ iv _ => 4 - (intOf iv).toNat)
      case atStart => exact ⟨0, rfl, by omega, rfl, rfl, rfl, rfl⟩
      case round =>
        obtain ⟨i, rfl, hi4, rfl, rfl, rfl, rfl⟩ := hrel
        by_cases hi' : i < 4
        · have q0 : (i : Int) < 4 := by omega
          have qq : (0 : Int) ≤ (i : Int) := by omega
          have c1 := HN.out.inn hi'
          have c2 := HN.out.miss hi'
          have c3 := HN.out.join hi'
          generalize hmi : n.ro.miss i = mi at *
          generalize hji : n.ro.join i = ji at *
          have HMI := Lib.hid hmi
          have HJI := Lib.hid hji
          clear hmi hji
          cases hin : n.ro.inn i with
          | true =>
            rw [hin] at c1
            have HIN := Lib.hid hin
            clear hin
            go_wp2_with fail
            go_roundw
            case rel => exact ⟨i + 1, by go_num, by omega, int_eq (by rw [inTo, if_pos HIN.out]), int_eq (by rw [cTo, HMI.out]), int_eq (by rw [cTo, HJI.out]), trivial⟩
            case measure => simp [intOf]; omega
          | false =>
            rw [hin] at c1
            have HIN := Lib.hid hin
            clear hin
            go_wp2_with fail
            go_roundw
            case rel => exact ⟨i + 1, by go_num, by omega, int_eq (by rw [inTo, if_neg (by rw [HIN.out]; decide)]), int_eq (by rw [cTo, HMI.out]), int_eq (by rw [cTo, HJI.out]), trivial⟩
            case measure => simp [intOf]; omega
        · obtain rfl : i = 4 := by omega
          have hI := fun W => ints_blk (w := W) (g := wr.heap.size) (t := 3) (k := .i64) (zs := [inTo n.ro 4, cTo n.ro.miss 4, cTo n.ro.join 4])
          have hwr := HB.out.size
          have hPL := packA_len n.ax 3
          have HPL := Lib.hid hPL
          clear hPL
          have HO2 := fun o1 => Lib.hid (own_below HO.out ((Below.refl wr.heap.size wr).alloc (Nat.le_refl _) o1) (fun x hx => (HO.out.lt x hx).2))
          go_wp2_with (first
            | (at_builtin; go_loud (refine wpList_append_ints rfl _ _ 58 rfl w.heap.size 3 i0 (.int .i64 0) .i64 8 Try.underlying58 hi hz0 hz1 hz2 rfl (.slice Av (7 * 3) cv) _ _ rfl (Hid.out (HO2 _)) (some ⟨wr.heap.size, 0, none⟩) 3 3 [inTo n.ro 4, cTo n.ro.miss 4, cTo n.ro.join 4] rfl (fun e => by cases e) (hI _ (Blk.at_ _ _ _ _ (by simp))) (by unfold maxLen; omega) (by omega) (by simp; omega) ?_); intro v3 w3 hown3 hg3))
          go_ret
          obtain ⟨A3, c3, rfl⟩ := own_shape hown3
          refine ⟨A3, c3, rfl, ?_, (HB.out.alloc hwr _).grown hg3 (by simp; omega) (fun j hj => (HO.out.lt j hj).1)⟩
          show w3.ownsRow _ _ _ _ _ ((packA n.ax 3 ++ [inTo n.ro 4, cTo n.ro.miss 4, cTo n.ro.join 4]).map (Value.int .i64))
          rw [List.map_append]
          exact hown3
end Go.Proofs.Ytofeoeknmlkjgaa.Nk
end
