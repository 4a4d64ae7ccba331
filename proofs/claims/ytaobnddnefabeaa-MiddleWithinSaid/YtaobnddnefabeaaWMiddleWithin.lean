/- The walk of MiddleWithin: the middle lies between the least and the greatest number. -/
import Derived.Test.YtaobnddnefabeaaMidLaw
import Derived.Test.YtaobnddnefabeaaAppend
set_option linter.unusedVariables false
namespace Go.Proofs.Ytaobnddnefabeaa.lawMiddleWithin
open Go.RowKit Go.Proofs.Ytaobnddnefabeaa Md

theorem infoInt : (Try.prog.info? 3).map (fun i => (i.zero, i.size, i.bytes)) = some (some (.int .i64 0), 1, 8) := by kernel_rfl

set_option maxRecDepth 100000 in
set_option maxHeartbeats 1000000 in
theorem walk0 (A : Option Addr) (n c : Nat) (zs : List Int) (w : World) (h : Ints w .i64 A n zs) (hA : A = none → n = 0 ∧ c = 0) (hc : n * 8 ≤ 140737488351232) (hn : n = 0 ∨ 64 < n) :
    Calls Try.prog 7 #[.slice A n c] w fun e w' => e = .returned (.bool true) ∧ Below w.heap.size w w' := by
  obtain ⟨i0, hi, hz0, hz1, hz2⟩ := info_parts infoInt
  have km := fun B d W => Middle_bad B n d hn (by omega) W
  have KM := Lib.hid km
  have HA := Lib.hid hA
  have H := Lib.hid h
  have t1 : ((n : Int) == 0 || decide (64 < (n : Int))) = true := by simp; omega
  clear km h hA
  go_enter Try.func7, Try.ntmps7
  go_wp2_with (at_builtin; refine wpList_append_ints rfl _ _ 51 rfl w.heap.size 3 i0 (.int .i64 0) .i64 8 Try.underlying51 hi hz0 hz1 hz2 rfl _ 0 [] rfl (World.ownsRow_nil _ _ _ _) A n c zs rfl HA.out H.out (by unfold maxLen; omega) (by omega) (Nat.le_refl _) ?_; intro v1 w1 hown1 hg1)
  simp only [Nat.zero_add, List.nil_append] at hown1
  obtain ⟨A1, c1, rfl⟩ := own_shape hown1
  refine (KM.out A1 c1 _).mono ?_
  rintro e w' ⟨rfl, rfl⟩
  have HB := Lib.hid ((Below.refl w.heap.size w).grown hg1 (Nat.le_refl _) (fun j hj => by cases hj))
  clear hg1 hown1
  go_wp2_with fail
  refine (middles_any _).mono ?_
  rintro e w' ⟨rfl, hB2⟩
  have HB2 := Lib.hid (below_next HB.out hB2)
  clear hB2
  rcases hn with rfl | hn
  · go_wp2_with fail
    go_ret
    exact ⟨rfl, HB2.out⟩
  · have t2 : ((n : Int) == 0) = false := by simp; omega
    have t3 : decide (64 < (n : Int)) = true := by simp; omega
    go_wp2_with fail
    go_ret
    exact ⟨rfl, HB2.out⟩

/-- the least and the greatest number so far -/
def Span (zs : List Int) (j : Nat) (lo hi : Int) : Prop := ∀ t, t < j → lo ≤ zs.getD t 0 ∧ zs.getD t 0 ≤ hi
def Rel (n : Nat) (zs : List Int) (x5 x6 x40 : Value) : Prop := ∃ (j : Nat) (lo hi : Int), j ≤ n ∧ x40 = .int .i64 j ∧ x5 = .int .i64 lo ∧ x6 = .int .i64 hi ∧ In64 lo ∧ In64 hi ∧ Span zs j lo hi

set_option maxRecDepth 100000 in
set_option maxHeartbeats 1000000 in
theorem walk1 (A : Option Addr) (n c : Nat) (zs : List Int) (w : World) (h : Ints w .i64 A n zs) (hz : ∀ z ∈ zs, In64 z) (hA : A = none → n = 0 ∧ c = 0) (hn : 0 < n) (hn64 : n ≤ 64) :
    Calls Try.prog 7 #[.slice A n c] w fun e w' => e = .returned (.bool true) ∧ Below w.heap.size w w' := by
  obtain ⟨i0, hi, hz0, hz1, hz2⟩ := info_parts infoInt
  have hzl := h.1
  have hzi : ∀ j, j < n → In64 (zs.getD j 0) := fun j hj => by
    simp only [List.getD, List.getElem?_eq_getElem (show j < zs.length by omega), Option.getD_some]; exact hz _ (List.getElem_mem _)
  have km := fun B d W (hI : Ints W .i64 B n zs) => Middle_ok B n d zs hn hn64 W hI hz
  have hg : ∀ lo hi, Span zs n lo hi → lo ≤ midZ zs ∧ midZ zs ≤ hi := fun lo hi hS => by
    refine mid_guard (lies := []) (good := zs) (by simp; omega) fun g hg => ?_
    obtain ⟨i, hi', rfl⟩ := List.getElem_of_mem hg
    have := hS i (by omega)
    simpa only [List.getD, List.getElem?_eq_getElem hi', Option.getD_some] using this
  generalize midZ zs = m at km hg
  obtain ⟨b, off, rfl, hlt, hcx⟩ := h.2 hn
  have KM := Lib.hid km
  have HG := Lib.hid hg
  have HA := Lib.hid hA
  have H := Lib.hid h
  have HC := Lib.hid hcx
  have HZ := Lib.hid hzi
  clear km h hA hg hcx hzi hz
  go_enter Try.func7, Try.ntmps7
  go_wp2_with (at_builtin; refine wpList_append_ints rfl _ _ 51 rfl w.heap.size 3 i0 (.int .i64 0) .i64 8 Try.underlying51 hi hz0 hz1 hz2 rfl _ 0 [] rfl (World.ownsRow_nil _ _ _ _) (some ⟨b, off, none⟩) n c zs rfl HA.out H.out (by unfold maxLen; omega) (by omega) (Nat.le_refl _) ?_; intro v1 w1 hown1 hg1)
  simp only [Nat.zero_add, List.nil_append] at hown1
  obtain ⟨A1, c1, rfl⟩ := own_shape hown1
  refine (KM.out A1 c1 _ (Ints.own hown1)).mono ?_
  rintro e w2 ⟨rfl, hB2⟩
  have hb2 := below_next ((Below.refl w.heap.size w).grown hg1 (Nat.le_refl _) (fun j hj => by cases hj)) hB2
  have hc2 := fun j (hj : j < n) => (hb2.cell (p := ⟨b, off + j, none⟩) hlt).trans (HC.out j hj)
  have d0 := hc2 0 hn
  have HB2 := Lib.hid hb2
  have HC2 := Lib.hid hc2
  have i0' := HZ.out 0 hn
  clear hg1 hown1 hB2 hb2 hc2
  generalize hx : zs.getD 0 0 = x at d0 i0'
  have HX := Lib.hid hx
  clear hx
  have p0 : (0 : Int) < (n : Int) := by omega
  simp only [Nat.add_zero] at d0
  go_upto_region 4 with fail
  go_region
  go_wp2_with fail
  go_loop [5, 6, 40] (fun x5 x6 x40 => Rel n zs x5 x6 x40) (fun _ _ i => n - (intOf i).toNat)
  case atStart => exact ⟨0, x, x, by omega, rfl, rfl, rfl, i0', i0', fun t ht => by omega⟩
  case round =>
    obtain ⟨j, lo, hi, hj, rfl, rfl, rfl, ilo, ihi, hS⟩ := hrel
    by_cases hjn : j < n
    · have d1 := HC2.out j hjn
      have i1 := HZ.out j hjn
      have HS := Lib.hid hS
      clear hS d0
      generalize hy : zs.getD j 0 = y at d1 i1
      have HY := Lib.hid hy
      clear hy
      go_wp2_with fail
      go_round
      case rel =>
        refine ⟨j + 1, min lo y, max hi y, by omega, by go_num, rfl, rfl, ?_, ?_, fun t ht => ?_⟩
        · unfold In64 at *; omega
        · unfold In64 at *; omega
        · by_cases htj : t < j
          · have := HS.out t htj; omega
          · obtain rfl : t = j := by omega
            rw [HY.out]; omega
      case measure => simp [intOf]; omega
    · obtain rfl : n = j := by omega
      obtain ⟨g1, g2⟩ := HG.out lo hi hS
      have t1 : decide (lo ≤ m) = true := decide_eq_true g1
      have t2 : decide (m ≤ hi) = true := decide_eq_true g2
      clear hS d0 g1 g2
      go_wp2_with fail
      refine (middles_any _).mono ?_
      rintro e w6 ⟨rfl, hB6⟩
      have HB3 := Lib.hid (below_next HB2.out.drew hB6)
      clear hB6
      go_wp2_with fail
      go_ret
      exact ⟨rfl, HB3.out⟩

set_option maxRecDepth 100000 in
theorem walk {H : Type} {enc : TypeId × Value → H} {d0 : DataW H} {p0 : List MemPlace} (v0 : Value) (W : World) (base : Nat)
    (h0 : Value.okWide Try.prog W .any base 51 v0) (k0 : DataW.Trod enc Try.prog W 0 (fun _ => true) true 51 v0 d0 p0)
    (s0 : ∀ es sp, d0 = .slice es sp → (es.length + sp.length) * Try.prog.bytesOf 3 ≤ reachBytes) :
    Calls Try.prog 7 #[v0] W fun e w' => e = .returned (.bool true) ∧ Below W.heap.size W w' := by
  obtain ⟨A, n, c, zs, rfl, hI, hz, hA, hnc, hc⟩ := list_in h0 k0 s0
  by_cases hn : 0 < n ∧ n ≤ 64
  · exact walk1 A n c zs W hI hz hA hn.1 hn.2
  · exact walk0 A n c zs W hI hA (by omega) (by omega)
end Go.Proofs.Ytaobnddnefabeaa.lawMiddleWithin
