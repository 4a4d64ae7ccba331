/- The walk of SumLinear: sums go with exclusive or. -/
import Derived.Test.YtllgjbjcdenchaaBytes
import Derived.Test.YtllgjbjcdenchaaOpen
import Derived.Test.YtllgjbjcdenchaaKit2
import Derived.BigRegion
import Derived.Deep.CutRange
import Derived.Deep.RegionHeld3
import Derived.Deep.DrawnRows
import Derived.Deep.DeepCutAuto
set_option linter.unusedVariables false
namespace Go.Proofs.Ytllgjbjcdenchaa.lawSumLinear
open Go.RowKit Go.Proofs.Ytllgjbjcdenchaa Crc
attribute [local go_sem ↓] Go.wp_at_zero Go.wp_at_succ

/-- the start of the law: three new rows of noughts -/
def Zs (n : Nat) : Array Value := madeCells #[.int .u8 0] n

/-- the first k numbers of f, then noughts: l of them -/
def fillTo (f : Nat → Int) (l k : Nat) : Array Value := (Array.range l).map fun j => .int .u8 (if j < k then f j else 0)
theorem below_alloc {W w1 : World} (h : Below W.heap.size W w1) (o : Obj) : Below W.heap.size W (w1.alloc o) := h.alloc h.size o
theorem fillTo_zero (f : Nat → Int) (l : Nat) : Zs l = fillTo f l 0 := by
  apply Array.ext
  · simp [Zs, fillTo, madeCells]
  · intro i h1 h2
    simp [Zs, fillTo, madeCells, Nat.mod_one]
theorem fillTo_get (f : Nat → Int) (l k j : Nat) (h : j < l) : (fillTo f l k)[j]? = some (.int .u8 (if j < k then f j else 0)) := by
  simp [fillTo, h]
theorem fillTo_set (f : Nat → Int) (l k : Nat) (h : k < l) : (fillTo f l k).setIfInBounds k (.int .u8 (f k)) = fillTo f l (k + 1) := by
  apply Array.ext_getElem?
  intro i
  rw [Array.getElem?_setIfInBounds]
  by_cases hi : k = i
  · subst hi; simp [fillTo, h]
  · have e : (i < k) = (i < k + 1) := propext (by omega)
    rw [if_neg hi]
    by_cases hl : i < l
    · rw [fillTo_get f l k i hl, fillTo_get f l (k + 1) i hl]
      simp only [e]
    · rw [Array.getElem?_eq_none (by simp [fillTo]; omega), Array.getElem?_eq_none (by simp [fillTo]; omega)]
theorem fillTo_nought (l : Nat) : fillTo (fun _ => 0) l l = Zs l := by
  rw [fillTo_zero (fun _ => 0)]
  simp [fillTo]
theorem blk_ints {w : World} {g l : Nat} {t : TypeId} {f : Nat → Int} (h : Blk w g t (fillTo f l l)) : Ints w .u8 (some ⟨g, 0, none⟩) l ((List.range l).map f) := by
  refine ⟨by simp, fun _ => ⟨g, 0, rfl, h.lt, fun j hj => ?_⟩⟩
  rw [Nat.zero_add, h.cell j, fillTo_get f l l j hj]
  simp [hj, List.getD]
theorem xor_byte (x y : Int) (hx : 0 ≤ x ∧ x ≤ 255) (hy : 0 ≤ y ∧ y ≤ 255) : (0 ≤ bits .xor .u8 x y ∧ bits .xor .u8 x y ≤ 255) ∧ BitVec.ofInt 32 (bits .xor .u8 x y) = BitVec.ofInt 32 x ^^^ BitVec.ofInt 32 y := by
  obtain ⟨x, rfl⟩ := Int.eq_ofNat_of_zero_le hx.1
  obtain ⟨y, rfl⟩ := Int.eq_ofNat_of_zero_le hy.1
  have h := Nat.xor_lt_two_pow (n := 8) (x := x) (y := y) (by omega) (by omega)
  rw [u8_xor_nat x y (by omega) (by omega)]
  refine ⟨by omega, ?_⟩
  apply BitVec.eq_of_toNat_eq
  rw [BitVec.toNat_xor, BitVec.toNat_ofInt, BitVec.toNat_ofInt, BitVec.toNat_ofInt]
  have e1 : ((x : Int) % ((2 ^ 32 : Nat) : Int)).toNat = x := by omega
  have e2 : ((y : Int) % ((2 ^ 32 : Nat) : Int)).toNat = y := by omega
  rw [e1, e2]
  generalize x ^^^ y = q at *
  omega
theorem go_linear (f g h : Nat → Int) (hh : ∀ j, BitVec.ofInt 32 (h j) = BitVec.ofInt 32 (f j) ^^^ BitVec.ofInt 32 (g j)) (L : List Nat) : ∀ a b c d : BitVec 32, a ^^^ b = c ^^^ d →
    go a (L.map f) ^^^ go b (L.map g) = go c (L.map h) ^^^ go d (L.map fun _ => 0) := by
  induction L with
  | nil => intro a b c d e; exact e
  | cons j L ih =>
    intro a b c d e
    simp only [List.map_cons, go_cons]
    apply ih
    unfold by1
    rw [← it_xor, ← it_xor, hh j]
    congr 1
    have e2 : BitVec.ofInt 32 0 = 0#32 := rfl
    rw [e2, BitVec.xor_zero]
    generalize BitVec.ofInt 32 (f j) = p
    generalize BitVec.ofInt 32 (g j) = q
    calc a ^^^ p ^^^ (b ^^^ q) = (a ^^^ b) ^^^ (p ^^^ q) := by ac_rfl
      _ = (c ^^^ d) ^^^ (p ^^^ q) := by rw [e]
      _ = c ^^^ (p ^^^ q) ^^^ d := by ac_rfl
theorem i64_xor_nat (a b : BitVec 32) : bits .xor .i64 ((a.toNat : Nat) : Int) ((b.toNat : Nat) : Int) = (((a ^^^ b).toNat : Nat) : Int) := by
  have key : ∀ x y, bits .xor .i64 x y = IntKind.i64.wrap (((BitVec.ofInt 64 x ^^^ BitVec.ofInt 64 y).toNat : Nat) : Int) := fun _ _ => rfl
  have e : ∀ c : BitVec 32, (BitVec.ofInt 64 ((c.toNat : Nat) : Int)).toNat = c.toNat := by
    intro c
    have := c.isLt
    rw [BitVec.toNat_ofInt]; omega
  rw [key, BitVec.toNat_xor, e, e, BitVec.toNat_xor]
  have h := Nat.xor_lt_two_pow (n := 32) a.isLt b.isLt
  exact IntWalk.i64_in _ (by omega)
theorem plain (k : Nat) (f g h : Nat → Int) (hh : ∀ j, BitVec.ofInt 32 (h j) = BitVec.ofInt 32 (f j) ^^^ BitVec.ofInt 32 (g j)) :
    bits .xor .i64 (((sumFrom 0#32 ((List.range k).map f)).toNat : Nat) : Int) (((sumFrom 0#32 ((List.range k).map g)).toNat : Nat) : Int) =
      bits .xor .i64 (((sumFrom 0#32 ((List.range k).map h)).toNat : Nat) : Int) (((sumFrom 0#32 ((List.range k).map fun _ => 0)).toNat : Nat) : Int) := by
  have e : ∀ x y : BitVec 32, (~~~ x) ^^^ (~~~ y) = x ^^^ y := by
    intro x y
    apply BitVec.eq_of_getLsbD_eq
    intro i hi
    rw [BitVec.getLsbD_xor, BitVec.getLsbD_xor, BitVec.getLsbD_not, BitVec.getLsbD_not]
    cases x.getLsbD i <;> cases y.getLsbD i <;> simp [hi]
  rw [i64_xor_nat, i64_xor_nat]
  unfold sumFrom
  rw [e, e, go_linear f g h hh _ _ _ _ _ rfl]
theorem three_new (w : World) (Z : Array Value) (t : TypeId) :
    Blk (((w.alloc (.cells Z t)).alloc (.cells Z t)).alloc (.cells Z t)).drew w.heap.size t Z ∧ Blk (((w.alloc (.cells Z t)).alloc (.cells Z t)).alloc (.cells Z t)).drew (w.heap.size + 1) t Z ∧ Blk (((w.alloc (.cells Z t)).alloc (.cells Z t)).alloc (.cells Z t)).drew (w.heap.size + 1 + 1) t Z ∧
      Below w.heap.size w (((w.alloc (.cells Z t)).alloc (.cells Z t)).alloc (.cells Z t)).drew :=
  ⟨(((Blk.new w t Z).alloc _).alloc _).drew, ((Blk.at_ (w.alloc _) _ t Z (by simp)).alloc _).drew, (Blk.at_ ((w.alloc _).alloc _) _ t Z (by simp)).drew,
    (((((Below.refl _ w).alloc (Nat.le_refl _) _).alloc (by simp) _).alloc (by simp; omega) _).trans ⟨rfl, rfl, rfl, Nat.le_refl _, fun _ _ => rfl⟩)⟩

set_option maxRecDepth 100000 in
set_option maxHeartbeats 3000000 in
theorem walk1 (A B : Option Addr) (n m c d : Nat) (xs ys : List Int) (w : World) (h : Ints w .u8 A n xs) (hB : Ints w .u8 B m ys) (hn : n ≤ 140737488351232) (hm : m ≤ 140737488351232) (hx : ∀ z ∈ xs, 0 ≤ z ∧ z ≤ 255) (hy : ∀ z ∈ ys, 0 ≤ z ∧ z ≤ 255) :
    Calls Try.prog 8 #[.slice A n c, .slice B m d] w fun e w' => e = .returned (.bool true) ∧ Below w.heap.size w w' := by
  obtain ⟨i0, hi, hz0, hz1, hz2⟩ := info_parts infoByte
  have hmk : ∀ (W : World) (l : Nat), l ≤ 140737488351232 → (Instr.makeSlice 41 (.int .i64 (l : Int)) (.int .i64 (l : Int))).run Try.prog W = .ok (.slice (some ⟨W.heap.size, 0, none⟩) l l) (W.alloc (.cells (Zs l) 5)) := by
    intro W l hl
    have hr := run_make (P := Try.prog) W 41 5 i0 (.int .u8 0) Try.underlying41 hi hz0 .i64 .i64 (l : Int) (l : Int) (by omega) (Int.le_refl _) (by rw [hz2]; omega) (by omega)
    rw [hr, hz1]
    simp [Zs, Value.cells]
  obtain ⟨l, hl⟩ : ∃ l, l = min n m := ⟨_, rfl⟩
  have hmin : (if m < n then (m : Int) else (n : Int)) = (l : Int) := by split <;> omega
  have hmk1 := fun W => hmk W l (by omega)
  have hln : l ≤ n := by omega
  have hlm : l ≤ m := by omega
  have HL := Lib.hid hl
  clear hl
  have HM := Lib.hid hmk
  have H := Lib.hid h
  have HB := Lib.hid hB
  have HX := Lib.hid hx
  have HY := Lib.hid hy
  clear h hB hx hy hmk
  go_enter Try.func8, Try.ntmps8
  go_upto_region 2 with fail
  go_cut [6, 7, 8] (fun s6 s7 s8 wx => ∃ g6 g7 g8, s6 = .slice (some ⟨g6, 0, none⟩) l l ∧ s7 = .slice (some ⟨g7, 0, none⟩) l l ∧ s8 = .slice (some ⟨g8, 0, none⟩) l l ∧ w.heap.size ≤ g6 ∧ w.heap.size ≤ g7 ∧ w.heap.size ≤ g8 ∧ g6 ≠ g7 ∧ g6 ≠ g8 ∧ g7 ≠ g8 ∧ Blk wx g6 5 (Zs l) ∧ Blk wx g7 5 (Zs l) ∧ Blk wx g8 5 (Zs l) ∧ Below w.heap.size w wx)
  case first =>
    go_region
    all_goals (go_wp2_with fail; go_meet)
    all_goals (obtain ⟨k6, k7, k8, kb⟩ := three_new w (Zs l) 5; refine ⟨_, _, _, rfl, rfl, rfl, by omega, by omega, by omega, by omega, by omega, by omega, ?_, ?_, ?_, kb⟩ <;> first | exact k6 | exact k7 | exact k8)
  case rest =>
    obtain ⟨g6, g7, g8, rfl, rfl, rfl, p6, p7, p8, n67, n68, n78, k6, k7, k8, kb⟩ := hcut
    clear hmk1 hmin
    rw [fillTo_zero (fun j => xs.getD j 0)] at k6
    rw [fillTo_zero (fun j => ys.getD j 0)] at k7
    rw [fillTo_zero (fun j => bits .xor .u8 (xs.getD j 0) (ys.getD j 0))] at k8
    go_wp2_with fail
    go_loopw [9] (fun i wr => ∃ k : Nat, k ≤ l ∧ i = .int .i64 (k : Nat) ∧ Blk wr g6 5 (fillTo (fun j => xs.getD j 0) l k) ∧ Blk wr g7 5 (fillTo (fun j => ys.getD j 0) l k) ∧ Blk wr g8 5 (fillTo (fun j => bits .xor .u8 (xs.getD j 0) (ys.getD j 0)) l k) ∧ Below w.heap.size w wr) (fun i _ => l - (intOf i).toNat)
    case atStart => exact ⟨0, by omega, rfl, k6, k7, k8, kb⟩
    case round =>
      obtain ⟨k, hk, rfl, h6, h7, h8, hb⟩ := hrel
      by_cases hlt : k < l
      · obtain ⟨b1, o1, rfl, hb1, hc1⟩ := H.out.2 (by omega)
        obtain ⟨b2, o2, rfl, hb2, hc2⟩ := HB.out.2 (by omega)
        have c1 : wr.cell? ⟨b1, o1 + k, none⟩ = some (.int .u8 (xs.getD k 0)) := (hb.cell (p := ⟨b1, o1 + k, none⟩) hb1).trans (hc1 k (by omega))
        have c2 : wr.cell? ⟨b2, o2 + k, none⟩ = some (.int .u8 (ys.getD k 0)) := (hb.cell (p := ⟨b2, o2 + k, none⟩) hb2).trans (hc2 k (by omega))
        have d6 := (h6.cell k).trans (fillTo_get _ l k k hlt)
        have d7 := (h7.cell k).trans (fillTo_get _ l k k hlt)
        have d8 := (h8.cell k).trans (fillTo_get _ l k k hlt)
        have f6 := h6.frozen k
        have f7 := h7.frozen k
        have f8 := h8.frozen k
        simp only [Nat.lt_irrefl, if_false] at d6 d7 d8
        clear hc1 hc2
        have H6 := Lib.hid h6
        have H7 := Lib.hid h7
        have H8 := Lib.hid h8
        have HBB := Lib.hid hb
        clear h6 h7 h8 hb k6 k7 k8
        have m16 : g6 ≠ b1 := by omega
        have m17 : g7 ≠ b1 := by omega
        have m18 : g8 ≠ b1 := by omega
        have m26 : g6 ≠ b2 := by omega
        have m27 : g7 ≠ b2 := by omega
        have m28 : g8 ≠ b2 := by omega
        have q0 : (0 : Int) ≤ (k : Int) := by omega
        have q1 : (k : Int) < (n : Int) := by omega
        have q2 : (k : Int) < (m : Int) := by omega
        have q3 : (k : Int) < (l : Int) := by omega
        have s6 := fillTo_set (fun j => xs.getD j 0) l k hlt
        have s7 := fillTo_set (fun j => ys.getD j 0) l k hlt
        have s8 := fillTo_set (fun j => bits .xor .u8 (xs.getD j 0) (ys.getD j 0)) l k hlt
        replace s6 : (fillTo (fun j => xs.getD j 0) l k).setIfInBounds k (.int .u8 (xs.getD k 0)) = fillTo (fun j => xs.getD j 0) l (k + 1) := s6
        replace s7 : (fillTo (fun j => ys.getD j 0) l k).setIfInBounds k (.int .u8 (ys.getD k 0)) = fillTo (fun j => ys.getD j 0) l (k + 1) := s7
        replace s8 : (fillTo (fun j => bits .xor .u8 (xs.getD j 0) (ys.getD j 0)) l k).setIfInBounds k (.int .u8 (bits .xor .u8 (xs.getD k 0) (ys.getD k 0))) = fillTo (fun j => bits .xor .u8 (xs.getD j 0) (ys.getD j 0)) l (k + 1) := s8
        have S6 := Lib.hid s6
        have S7 := Lib.hid s7
        have S8 := Lib.hid s8
        clear s6 s7 s8
        generalize xs.getD k 0 = x at *
        generalize ys.getD k 0 = y at *
        go_upto_region 6 with fail
        go_region_held3 (fun w' => w'.cell? ⟨b1, o1 + k, none⟩ = some (.int .u8 x) ∧ w'.cell? ⟨b2, o2 + k, none⟩ = some (.int .u8 y)) (go_keep) (fail)
        all_goals go_wp2_with fail
        all_goals go_roundw
        case rel => exact ⟨k + 1, by omega, by go_num, by rw [← S6.out]; exact ((H6.out.set_ k _).far n67 _).far n68 _, by rw [← S7.out]; exact ((H7.out.far n67.symm _).set_ k _).far n78 _,
          by rw [← S8.out]; exact ((H8.out.far n68.symm _).far n78.symm _).set_ k _, (((HBB.out.setCell (p := ⟨g6, k, none⟩) p6 _).setCell (p := ⟨g7, k, none⟩) p7 _).setCell (p := ⟨g8, k, none⟩) p8 _).drew⟩
        case measure => simp [intOf]; omega
      · obtain rfl : k = l := by omega
        clear k6 k7 k8
        have i6 := blk_ints h6
        have i7 := blk_ints h7
        have i8 := blk_ints h8
        have z0 : ∀ (f : Nat → Int), (∀ j, 0 ≤ f j ∧ f j ≤ 255) → ∀ z ∈ (List.range k).map f, 0 ≤ z ∧ z ≤ 255 := by
          intro f hf z hz
          obtain ⟨j, _, rfl⟩ := List.mem_map.1 hz
          exact hf j
        have hg : ∀ (us : List Int), (∀ z ∈ us, 0 ≤ z ∧ z ≤ 255) → ∀ j, 0 ≤ us.getD j 0 ∧ us.getD j 0 ≤ 255 := by
          intro us hu j
          by_cases hj : j < us.length
          · simp only [List.getD, List.getElem?_eq_getElem hj]
            exact hu _ (List.getElem_mem hj)
          · simp only [List.getD, List.getElem?_eq_none (Nat.le_of_not_lt hj)]
            decide
        have gx := hg xs HX.out
        have gy := hg ys HY.out
        have gz : ∀ j, 0 ≤ bits .xor .u8 (xs.getD j 0) (ys.getD j 0) ∧ bits .xor .u8 (xs.getD j 0) (ys.getD j 0) ≤ 255 := fun j => (xor_byte _ _ (gx j) (gy j)).1
        have C6 := fun W (hW : Ints W .u8 _ k _) => Lib.hid (sum_any (some ⟨g6, 0, none⟩) k k _ W hW (z0 _ gx) (by omega))
        have C7 := fun W (hW : Ints W .u8 _ k _) => Lib.hid (sum_any (some ⟨g7, 0, none⟩) k k _ W hW (z0 _ gy) (by omega))
        have C8 := fun W (hW : Ints W .u8 _ k _) => Lib.hid (sum_any (some ⟨g8, 0, none⟩) k k _ W hW (z0 _ gz) (by omega))
        have C0 := fun W g (hW : Blk W g 5 (Zs k)) => Lib.hid (sum_any (some ⟨g, 0, none⟩) k k _ W (blk_ints ((fillTo_nought k).symm ▸ hW)) (z0 (fun _ => 0) (fun _ => by decide)) (by omega))
        have hp := plain k _ _ _ (fun j => (xor_byte _ _ (gx j) (gy j)).2)
        have I6 := Lib.hid i6
        have I7 := Lib.hid i7
        have I8 := Lib.hid i8
        have HBB := Lib.hid hb
        generalize (sumFrom 0#32 ((List.range k).map (fun j => xs.getD j 0))).toNat = s1 at *
        generalize (sumFrom 0#32 ((List.range k).map (fun j => ys.getD j 0))).toNat = s2 at *
        generalize (sumFrom 0#32 ((List.range k).map (fun j => bits .xor .u8 (xs.getD j 0) (ys.getD j 0)))).toNat = s3 at *
        generalize (sumFrom 0#32 ((List.range k).map (fun j => 0))).toNat = s4 at *
        clear i6 i7 i8 h6 h7 h8 hb z0 hg gx gy gz
        have hmk1 := fun W => HM.out W k (by omega)
        go_upto_region 7 with fail
        go_region_with (first
          | (go_at_call 26; refine (sums_any _).mono ?_; rintro e w1 ⟨rfl, hB1⟩)
          | (go_at_call 28; refine (Hid.out (C6 _ (by repeat (first | exact I6.out | refine Ints.alloc ?_ _ | refine Ints.next ?_ (by assumption))))).mono ?_; rintro e w2 ⟨rfl, hB2⟩)
          | (go_at_call 28; refine (Hid.out (C7 _ (by repeat (first | exact I7.out | refine Ints.alloc ?_ _ | refine Ints.next ?_ (by assumption))))).mono ?_; rintro e w2 ⟨rfl, hB2⟩)
          | (go_at_call 28; refine (Hid.out (C8 _ (by repeat (first | exact I8.out | refine Ints.alloc ?_ _ | refine Ints.next ?_ (by assumption))))).mono ?_; rintro e w2 ⟨rfl, hB2⟩)
          | (go_at_call 28; refine (Hid.out (C0 _ _ (by repeat (first | exact Blk.new _ _ _ | refine Blk.alloc ?_ _ | refine Blk.next ?_ (by assumption))))).mono ?_; rintro e w2 ⟨rfl, hB2⟩))
        all_goals (go_wp2_with fail; go_ret; refine ⟨rfl, ?_⟩; repeat (first | exact HBB.out.drew | refine below_alloc ?_ _ | refine below_next ?_ (by assumption)))

theorem walk {H : Type} {enc : TypeId × Value → H} {d0 d1 : DataW H} {p0 p1 : List MemPlace} (v0 v1 : Value) (W : World) (base : Nat)
    (h0 : Value.okWide Try.prog W .any base 41 v0) (k0 : DataW.Trod enc Try.prog W 0 (fun _ => true) true 41 v0 d0 p0)
    (h1 : Value.okWide Try.prog W .any base 41 v1) (k1 : DataW.Trod enc Try.prog W 0 (fun _ => true) true 41 v1 d1 p1)
    (s0 : ∀ es sp, d0 = .slice es sp → (es.length + sp.length) * Try.prog.bytesOf 5 ≤ reachBytes)
    (s1 : ∀ es sp, d1 = .slice es sp → (es.length + sp.length) * Try.prog.bytesOf 5 ≤ reachBytes) :
    Calls Try.prog 8 #[v0, v1] W fun e w' => e = .returned (.bool true) ∧ Below W.heap.size W w' := by
  obtain ⟨A, n, c, rfl, hnc, _, hA, _⟩ := ok_slice Try.underlying41 h0
  obtain ⟨zs, hI, hw, _, hr⟩ := ints_in Try.underlying41 Try.underlying5 (by kernel_rfl) k0 s0
  obtain ⟨B, m, d, rfl, hmd, _, hB, _⟩ := ok_slice Try.underlying41 h1
  obtain ⟨ys, hJ, hv, _, hs⟩ := ints_in Try.underlying41 Try.underlying5 (by kernel_rfl) k1 s1
  have hb : Try.prog.bytesOf 5 = 1 := by kernel_rfl
  rw [hb] at hr hs
  exact walk1 A B n m c d zs ys W hI hJ (by unfold reachBytes at hr; omega) (by unfold reachBytes at hs; omega) (fun z hz => bounds_u8 (hw z hz)) (fun z hz => bounds_u8 (hv z hz))
end Go.Proofs.Ytllgjbjcdenchaa.lawSumLinear
