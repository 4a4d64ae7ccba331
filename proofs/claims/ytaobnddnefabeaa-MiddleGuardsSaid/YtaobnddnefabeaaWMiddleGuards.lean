/- The walk of MiddleGuards: where fewer than a third are lies, the middle lies between the least and the greatest number that is no lie. -/
import Derived.Test.YtaobnddnefabeaaMidLaw
import Derived.Test.YtaobnddnefabeaaAppend
import Derived.Deep.RegionLaw
import Derived.Deep.CutRange
import Derived.Deep.DeepCutAuto
set_option linter.unusedVariables false
namespace Go.Proofs.Ytaobnddnefabeaa.lawMiddleGuards
open Go.RowKit Go.Proofs.Ytaobnddnefabeaa Md

theorem infoInt : (Try.prog.info? 3).map (fun i => (i.zero, i.size, i.bytes)) = some (some (.int .i64 0), 1, 8) := by kernel_rfl
/-- a number, and the world as it was -/
def CutNum (z : Int) (w : World) (s : Value) (wx : World) : Prop := s = .int .i64 z ∧ w = wx
theorem CutNum.mk {z : Int} {w : World} (v : Int) (h : v = z) : CutNum z w (.int .i64 v) w := ⟨by rw [h], rfl⟩
def nZ (n : Nat) : Int := min (n : Int) 40
def kZ (n m : Nat) : Int := min (min (m : Int) (nZ n / 2 - 1)) 19
theorem nZ_bd (n : Nat) : 0 ≤ nZ n ∧ nZ n ≤ 40 ∧ nZ n ≤ n := by unfold nZ; omega
theorem kZ_bd (n m : Nat) : -1 ≤ kZ n m ∧ kZ n m ≤ 19 ∧ kZ n m ≤ m ∧ kZ n m ≤ nZ n := by have := nZ_bd n; unfold kZ; omega
/-- the least and the greatest number so far -/
def Span (zs : List Int) (j : Nat) (lo hi : Int) : Prop := ∀ t, t < j → lo ≤ zs.getD t 0 ∧ zs.getD t 0 ≤ hi
def Rel (n : Nat) (zs : List Int) (x5 x6 x40 : Value) : Prop := ∃ (j : Nat) (lo hi : Int), j ≤ n ∧ x40 = .int .i64 j ∧ x5 = .int .i64 lo ∧ x6 = .int .i64 hi ∧ In64 lo ∧ In64 hi ∧ Span zs j lo hi

set_option maxRecDepth 100000 in
set_option maxHeartbeats 2000000 in
theorem walk1 (A B : Option Addr) (n c m d : Nat) (zs ys : List Int) (w : World) (h : Ints w .i64 A n zs) (hz : ∀ z ∈ zs, In64 z) (hA : A = none → n = 0 ∧ c = 0) (hnc : n ≤ c) (hc : c * 8 ≤ 140737488351232)
    (h' : Ints w .i64 B m ys) (hy : ∀ z ∈ ys, In64 z) (hB : B = none → m = 0 ∧ d = 0) (hmd : m ≤ d) (hd : d * 8 ≤ 140737488351232) :
    Calls Try.prog 8 #[.slice A n c, .slice B m d] w fun e w' => e = .returned (.bool true) ∧ Below w.heap.size w w' := by
  obtain ⟨i0, hi, hz0, hz1, hz2⟩ := info_parts infoInt
  obtain ⟨n1, n2, n3⟩ := nZ_bd n
  obtain ⟨k1, k2, k3, k4⟩ := kZ_bd n m
  have HN := Lib.hid (CutNum.mk (w := w) (z := nZ n))
  have HK := Lib.hid (CutNum.mk (w := w) (z := kZ n m))
  have EN := Lib.hid (show nZ n = min (n : Int) 40 from rfl)
  have EK := Lib.hid (show kZ n m = min (min (m : Int) (nZ n / 2 - 1)) 19 from rfl)
  by_cases hbad : nZ n < 1 ∨ kZ n m < 0 ∨ nZ n + kZ n m ≤ 3 * kZ n m
  · generalize nZ n = N at *
    generalize kZ n m = K at *
    clear h h' hz hy hA hB hi hz0 hz1 hz2
    go_enter Try.func8, Try.ntmps8
    go_upto_region 1 with fail
    go_cut [5] (fun s wx => CutNum N w s wx)
    case first =>
      go_wp2_with fail
      all_goals go_meet
      all_goals exact HN.out _ (by have := EN.out; (try split) <;> omega)
    case rest =>
      obtain ⟨rfl, rfl⟩ := hcut
      go_upto_region 2 with fail
      go_cut [6] (fun s wx => CutNum K w s wx)
      case first =>
        go_wp2_with fail
        all_goals go_meet
        all_goals exact HK.out _ (by have := EK.out; (try split) <;> (try split) <;> omega)
      case rest =>
        obtain ⟨rfl, rfl⟩ := hcut
        clear HN HK EN EK
        by_cases b1 : N < 1
        · have t1 : decide (N < 1) = true := decide_eq_true b1
          clear hbad
          go_wp2_with fail
          refine (middles_any _).mono ?_
          rintro e w1 ⟨rfl, hB1⟩
          have B1 := Lib.hid hB1
          clear hB1
          go_wp2_with fail
          go_ret
          exact ⟨rfl, B1.out⟩
        · have t1 : decide (N < 1) = false := decide_eq_false b1
          by_cases b2 : K < 0
          · have t2 : decide (K < 0) = true := decide_eq_true b2
            clear hbad
            go_wp2_with fail
            refine (middles_any _).mono ?_
            rintro e w1 ⟨rfl, hB1⟩
            have B1 := Lib.hid hB1
            clear hB1
            go_wp2_with fail
            go_ret
            exact ⟨rfl, B1.out⟩
          · have t2 : decide (K < 0) = false := decide_eq_false b2
            have t3 : decide (N + K ≤ 3 * K) = true := decide_eq_true (by omega)
            clear hbad
            go_wp2_with fail
            refine (middles_any _).mono ?_
            rintro e w1 ⟨rfl, hB1⟩
            have B1 := Lib.hid hB1
            clear hB1
            go_wp2_with fail
            go_ret
            exact ⟨rfl, B1.out⟩
  · obtain ⟨nn, hnn⟩ : ∃ nn : Nat, nZ n = (nn : Int) := ⟨(nZ n).toNat, by omega⟩
    obtain ⟨kk, hkk⟩ : ∃ kk : Nat, kZ n m = (kk : Int) := ⟨(kZ n m).toNat, by omega⟩
    rw [hnn, hkk] at hbad k4
    rw [hnn] at n1 n2 n3 EN EK HN
    rw [hkk] at k1 k2 k3 EK HK
    clear hnn hkk
    have c1 : nn ≤ n := by omega
    have c2 : kk ≤ m := by omega
    have c3 : 1 ≤ nn := by omega
    have c4 : nn ≤ 40 := by omega
    have c5 : kk ≤ 19 := by omega
    have c6 : 3 * kk < kk + nn := by omega
    have t1 : decide ((nn : Int) < 1) = false := decide_eq_false (by omega)
    have t1' : decide (nn < 1) = false := decide_eq_false (by omega)
    have t2 : decide ((kk : Int) < 0) = false := decide_eq_false (by omega)
    have t3 : decide ((nn : Int) + (kk : Int) ≤ 3 * (kk : Int)) = false := decide_eq_false (by omega)
    obtain ⟨r1, s1⟩ := cut_to (P := Try.prog) (kd := .i64) Try.underlying51 hi h c1 hnc
    obtain ⟨r2, s2⟩ := cut_to (P := Try.prog) (kd := .i64) Try.underlying51 hi h' c2 hmd
    have hA1 : A = none → nn = 0 ∧ c = 0 := fun e => ⟨by have := (hA e).1; omega, (hA e).2⟩
    have hB1 : B = none → kk = 0 ∧ d = 0 := fun e => ⟨by have := (hB e).1; omega, (hB e).2⟩
    have hzi : ∀ j, j < nn → In64 (zs.getD j 0) := fun j hj => by
      have := h.1
      simp only [List.getD, List.getElem?_eq_getElem (show j < zs.length by omega), Option.getD_some]; exact hz _ (List.getElem_mem _)
    have hlen : (ys.take kk ++ zs.take nn).length = kk + nn := by
      have e1 := h.1
      have e2 := h'.1
      rw [List.length_append, List.length_take, List.length_take]; omega
    have km := fun D d W (hI : Ints W .i64 D (kk + nn) (ys.take kk ++ zs.take nn)) => Middle_ok D (kk + nn) d (ys.take kk ++ zs.take nn) (by omega) (by omega) W hI (fun z hm => by
      rcases List.mem_append.1 hm with hm | hm
      · exact hy z (List.mem_of_mem_take hm)
      · exact hz z (List.mem_of_mem_take hm))
    have hg : ∀ lo hi, Span zs nn lo hi → lo ≤ midZ (ys.take kk ++ zs.take nn) ∧ midZ (ys.take kk ++ zs.take nn) ≤ hi := fun lo hi hS => by
      refine mid_guard (by have := h.1; have := h'.1; rw [List.length_take, List.length_take]; omega) fun g hg => ?_
      obtain ⟨i, hi', rfl⟩ := List.getElem_of_mem hg
      rw [List.length_take] at hi'
      have := hS i (by omega)
      rw [List.getElem_take]
      simpa only [List.getD, List.getElem?_eq_getElem (show i < zs.length by omega), Option.getD_some] using this
    generalize midZ (ys.take kk ++ zs.take nn) = mv at km hg
    obtain ⟨b, off, rfl, hlt, hcx⟩ := s1.2 (by omega)
    have hcx' : ∀ j, j < nn → w.cell? ⟨b, off + j, none⟩ = some (.int .i64 (zs.getD j 0)) := fun j hj => by
      rw [hcx j hj]; simp [List.getD, hj]
    have E0 := Lib.hid (show 0 + kk + nn = kk + nn by omega)
    have KM := Lib.hid km
    have HG := Lib.hid hg
    have HA1 := Lib.hid hA1
    have HB1 := Lib.hid hB1
    have S1 := Lib.hid s1
    have S2 := Lib.hid s2
    have HC := Lib.hid hcx'
    have HZ := Lib.hid hzi
    clear hbad n1 n2 n3 k1 k2 k3 k4 km hg hA1 hB1 s1 s2 hcx hcx' hzi h h' hz hy hA hB hlen
    go_enter Try.func8, Try.ntmps8
    go_upto_region 1 with fail
    go_cut [5] (fun s wx => CutNum (nn : Int) w s wx)
    case first =>
      go_wp2_with fail
      all_goals go_meet
      all_goals exact HN.out _ (by have := EN.out; (try split) <;> omega)
    case rest =>
      obtain ⟨rfl, rfl⟩ := hcut
      go_upto_region 2 with fail
      go_cut [6] (fun s wx => CutNum (kk : Int) w s wx)
      case first =>
        go_wp2_with fail
        all_goals go_meet
        all_goals exact HK.out _ (by have := EK.out; (try split) <;> (try split) <;> omega)
      case rest =>
        obtain ⟨rfl, rfl⟩ := hcut
        clear HN HK EN EK
        go_upto_region 5 with fail
        go_region_law (first | (refine step_append_ints rfl (.const (.slice none 0 0)) (.tmp 40) 51 rfl w.heap.size 3 i0 (.int .i64 0) .i64 8 Try.underlying51 hi hz0 hz1 hz2 rfl (.slice none 0 0) 0 [] (by simp [Act.eval]) (World.ownsRow_nil _ _ _ _) B kk d (ys.take kk) (by simp [Act.eval, Act.put]) HB1.out S2.out.drew (by unfold maxLen; omega) (by omega) (by exact Nat.le_refl _) ?_; intro v2 w2 hown2 hg2) | (refine step_append_ints rfl (.tmp 41) (.tmp 44) 51 rfl w.heap.size 3 i0 (.int .i64 0) .i64 8 Try.underlying51 hi hz0 hz1 hz2 rfl v2 _ _ (by simp [Act.eval]) hown2 (some ⟨b, off, none⟩) nn c (zs.take nn) (by simp [Act.eval]) HA1.out (S1.out.drew.next ((Below.refl w.heap.size _).grown hg2 (by exact Nat.le_refl _) (fun j hj => by cases hj))) (by unfold maxLen; omega) (by omega) (by have := hg2.size; simpa using this) ?_; intro v3 w3 hown3 hg3; rw [E0.out, List.nil_append, ← List.map_append] at hown3; obtain ⟨g3, cap3, rfl, hg3a, _, _⟩ := own_form hown3 (by omega)))
        have hb3 : Below w.heap.size w w3 := (((Below.refl w.heap.size w).drew).grown hg2 (Nat.le_refl _) (fun j hj => by cases hj)).grown hg3 (by have := hg2.size; simpa using this) (fun j hj => (hown2.lt j hj).1)
        have hJ := Ints.own hown3
        have HB3 := Lib.hid hb3
        have HJ := Lib.hid hJ
        clear hb3 hJ hown3 hg3 hown2 hg2 S1 S2 HA1 HB1 r2
        go_upto_region 6 with fail
        go_wp2_with fail
        refine (KM.out _ _ _ HJ.out).mono ?_
        rintro e w4 ⟨rfl, hB4⟩
        have hb4 := below_next HB3.out hB4
        have hc2 := fun j (hj : j < nn) => (hb4.cell (p := ⟨b, off + j, none⟩) hlt).trans (HC.out j hj)
        have d0 := hc2 0 (by omega)
        have HB4 := Lib.hid hb4
        have HC2 := Lib.hid hc2
        have i0' := HZ.out 0 (by omega)
        clear hb4 hc2 hB4 HB3 HJ KM HC
        generalize hx : zs.getD 0 0 = x at d0 i0'
        clear hx
        have p0 : (0 : Int) < (n : Int) := by omega
        simp only [Nat.add_zero] at d0
        go_upto_region 7 with fail
        go_region
        go_upto_region 8 with fail
        go_wp2_with fail
        go_loop [10, 11, 61] (fun x5 x6 x40 => Rel nn zs x5 x6 x40) (fun _ _ i => nn - (intOf i).toNat)
        case atStart => exact ⟨0, x, x, by omega, rfl, rfl, rfl, i0', i0', fun t ht => by omega⟩
        case round =>
          obtain ⟨j, lo, hi', hj, rfl, rfl, rfl, ilo, ihi, hS⟩ := hrel
          by_cases hjn : j < nn
          · have d1 := HC2.out j hjn
            have i1 := HZ.out j hjn
            have HS := Lib.hid hS
            clear hS d0
            generalize hy : zs.getD j 0 = y at d1 i1
            have HY := Lib.hid hy
            clear hy
            go_wp2_with fail
            go_round
            case rel =>
              refine ⟨j + 1, min lo y, max hi' y, by omega, by go_num, rfl, rfl, ?_, ?_, fun t ht => ?_⟩
              · unfold In64 at *; omega
              · unfold In64 at *; omega
              · by_cases htj : t < j
                · have := HS.out t htj; omega
                · obtain rfl : t = j := by omega
                  rw [HY.out]; omega
            case measure => simp [intOf]; omega
          · obtain rfl : nn = j := by omega
            obtain ⟨g1, g2⟩ := HG.out lo hi' hS
            have u1 : decide (lo ≤ mv) = true := decide_eq_true g1
            have u2 : decide (mv ≤ hi') = true := decide_eq_true g2
            clear hS d0 g1 g2
            go_wp2_with fail
            refine (middles_any _).mono ?_
            rintro e w6 ⟨rfl, hB6⟩
            have HB5 := Lib.hid (below_next HB4.out.drew hB6)
            clear hB6
            go_wp2_with fail
            go_ret
            exact ⟨rfl, HB5.out⟩

set_option maxRecDepth 100000 in
theorem walk {H : Type} {enc : TypeId × Value → H} {d0 d1 : DataW H} {p0 p1 : List MemPlace} (v0 v1 : Value) (W : World) (base : Nat)
    (h0 : Value.okWide Try.prog W .any base 51 v0) (k0 : DataW.Trod enc Try.prog W 0 (fun _ => true) true 51 v0 d0 p0)
    (h1 : Value.okWide Try.prog W .any base 51 v1) (k1 : DataW.Trod enc Try.prog W 0 (fun _ => true) true 51 v1 d1 p1)
    (s0 : ∀ es sp, d0 = .slice es sp → (es.length + sp.length) * Try.prog.bytesOf 3 ≤ reachBytes) (s1 : ∀ es sp, d1 = .slice es sp → (es.length + sp.length) * Try.prog.bytesOf 3 ≤ reachBytes) :
    Calls Try.prog 8 #[v0, v1] W fun e w' => e = .returned (.bool true) ∧ Below W.heap.size W w' := by
  obtain ⟨A, n, c, zs, rfl, hI, hz, hA, hnc, hc⟩ := list_in h0 k0 s0
  obtain ⟨B, m, d, ys, rfl, hJ, hy, hB, hmd, hd⟩ := list_in h1 k1 s1
  exact walk1 A B n c m d zs ys W hI hz hA hnc hc hJ hy hB hmd hd
end Go.Proofs.Ytaobnddnefabeaa.lawMiddleGuards
