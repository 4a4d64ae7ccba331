/- BusKeeps: nothing is lost or doubled, and two steps bring the same in the same order as one. -/
import Derived.Test.YtdlcjieaoalhoaaBusIn
import Derived.Test.YtdlcjieaoalhoaaBusRuns
import Derived.Test.YtdlcjieaoalhoaaBusKeep
import Derived.Test.YtdlcjieaoalhoaaKit2
import Derived.BigGuard
set_option linter.unusedVariables false
namespace Go.Proofs.Ytdlcjieaoalhoaa.lawBusKeeps
open Go.RowKit Go.Proofs.Ytdlcjieaoalhoaa Go.Proofs.Ytdlcjieaoalhoaa.Bs Crc Sm

/-- a row of a queue, whatever was made since -/
theorem row_cells {w : World} {A : Option Addr} {n c i : Nat} {L : List Pc} {x : Pc} (h : QR w A n c L) (hx : L[i]? = some x) : ∃ b off, A = some ⟨b, off, none⟩ ∧ ∀ W, Below w.heap.size w W →
    W.cell? ⟨b, off + i * 5, none⟩ = some (.int .i64 x.fr) ∧ W.cell? ⟨b, off + i * 5 + 1, none⟩ = some (.int .i64 x.to) ∧ W.cell? ⟨b, off + i * 5 + 2, none⟩ = some (.int .i64 x.du) ∧ W.cell? ⟨b, off + i * 5 + 3, none⟩ = some (.int .i64 x.se) ∧ W.cell? ⟨b, off + i * 5 + 4, none⟩ = some (.slice x.A x.n x.c) := by
  have hi : i < n := by rw [← h.1]; exact (List.getElem?_eq_some_iff.1 hx).1
  obtain ⟨b, off, p, hA, hlt, hp, _, _, c0, c1, c2, c3, c4⟩ := h.row hi
  rw [hx] at hp
  obtain rfl := Option.some.inj hp
  exact ⟨b, off, hA, fun W hW => ⟨(hW.cell (p := ⟨b, _, none⟩) hlt).trans c0, (hW.cell (p := ⟨b, _, none⟩) hlt).trans c1, (hW.cell (p := ⟨b, _, none⟩) hlt).trans c2, (hW.cell (p := ⟨b, _, none⟩) hlt).trans c3, (hW.cell (p := ⟨b, _, none⟩) hlt).trans c4⟩⟩

def CutXY (wr : World) (x : Pc) (s19 s20 : Value) (wx : World) : Prop :=
  ∃ (g1 g2 : Nat) (cs : Array Value), s19 = .pointer (some ⟨g1, 0, none⟩) ∧ s20 = .pointer (some ⟨g2, 0, none⟩) ∧ Blk wx g1 35 x.cells.toArray ∧ Blk wx g2 35 cs ∧ cs[3]? = some (.int .i64 x.se) ∧ Below wr.heap.size wr wx
theorem be2 (w : World) (o1 o2 : Obj) : Below w.heap.size w ((w.alloc o1).alloc o2) := ((Below.refl _ _).alloc (Nat.le_refl _) _).alloc (by simp) _

theorem cutXY_of (wr : World) (x y : Pc) {z : Int} (hz : z = x.se) : CutXY wr x (.pointer (some ⟨wr.heap.size, 0, none⟩)) (.pointer (some ⟨wr.heap.size + 1, 0, none⟩))
    ((wr.alloc (.cells #[.int .i64 x.fr, .int .i64 x.to, .int .i64 x.du, .int .i64 x.se, .slice x.A x.n x.c] 35)).alloc (.cells #[.int .i64 y.fr, .int .i64 y.to, .int .i64 y.du, .int .i64 z, .slice y.A y.n y.c] 35)) :=
  ⟨_, _, _, rfl, rfl, (Blk.new _ _ _).alloc _, Blk.at_ _ _ _ _ (by simp), by subst hz; rfl, be2 _ _ _⟩

set_option maxRecDepth 100000 in
set_option maxHeartbeats 8000000 in
theorem walk1 (A : Option Addr) (n c : Nat) (D : Nat → Ld) (s0 s1 : Int) (w : World) (h : LR w A n D) (hn : n ≤ 9223372036854775807) :
    Calls Try.prog 3 #[.slice A n c, .int .i64 s0, .int .i64 s1] w fun e w' => e = .returned (.bool true) ∧ Below w.heap.size w w' := by
  obtain ⟨k, hk⟩ : ∃ k, k = min n 100 := ⟨_, rfl⟩
  have hk100 : k ≤ 100 := by omega
  have kl := loaded_any A n c D w h hn
  unfold LdPost at kl
  rw [← hk] at kl
  have KL := Lib.hid kl
  have KR := Lib.hid (fun W => runs_any W)
  have ks1 := fun W => spot_any s0 1200 W (by omega) (by omega)
  have ks2 := fun W => spot_any s1 1200 W (by omega) (by omega)
  have b1 := Int.emod_nonneg s0 (b := 1200) (by omega)
  have b2 := Int.emod_lt_of_pos s0 (b := 1200) (by omega)
  have b3 := Int.emod_nonneg s1 (b := 1200) (by omega)
  have b4 := Int.emod_lt_of_pos s1 (b := 1200) (by omega)
  generalize s0 % 1200 = t at *
  generalize s1 % 1200 = v at *
  have KS1 := Lib.hid ks1
  have KS2 := Lib.hid ks2
  clear h kl ks1 ks2 hk
  go_enter Try.func3, Try.ntmps3
  go_upto_region 6 with (first
    | go_big_skip
    | (go_at_call 7; (with_reducible refine KL.out.mono ?_); rintro e w1 ⟨A1, c1, L, rfl, hq, hk, hB⟩; have HT0 := Lib.hid (hB.alloc hB.size (.cells #[.int .i64 0, .int .i64 k, .slice A1 k c1] 25)); have HQ := Lib.hid (hq.alloc (.cells #[.int .i64 0, .int .i64 k, .slice A1 k c1] 25)); have HK := Lib.hid hk; have HX := Lib.hid (Blk.new w1 25 #[.int .i64 0, .int .i64 k, .slice A1 k c1]); clear hq hk hB)
    | (go_at_call 8; (with_reducible refine (KR.out _).mono ?_); rintro e w2 ⟨rfl, hB2⟩; have HT := Lib.hid (HT0.out.trans (hB2.mono HT0.out.size)); clear HT0; have HQ := Lib.hid (HQ.out.next hB2); have HX := Lib.hid (HX.out.next hB2); clear hB2)
    | (go_at_call 9; (with_reducible refine (KS1.out _).mono ?_); rintro e w9 ⟨rfl, rfl⟩)
    | (go_at_call 9; (with_reducible refine (KS2.out _).mono ?_); rintro e w9 ⟨rfl, rfl⟩))
  clear KL KR KS1 KS2
  as_aux_lemma =>
  have hl : L.length = k := by have := congrArg List.length HK.out; simpa using this
  have e0 := HX.out.cell 0
  have e1 := HX.out.cell 1
  have e2 := HX.out.cell 2
  simp only [List.getElem?_toArray, List.getElem?_cons_zero, List.getElem?_cons_succ] at e0 e1 e2
  have kst := Step_any (fun _ M => InOrder M) 0 k t A1 k c1 L w2 (rd1 hl HQ.out) (by omega) b1 (by omega) (fun M hM => sortsN M (by omega))
  have KST := Lib.hid kst
  clear kst
  generalize w1.heap.size = gA at *
  go_upto_region 7 with (first
    | go_big_skip
    | (go_at_call 10; (with_reducible refine KST.out.mono ?_); rintro e w3 ⟨A2, n2, c2, A3, n3, c3, L1, P, rfl, hk1, hq2, hn2, hq3, hn3, hpm, hio, hB⟩; go_loud (have HK1 := Lib.hid hk1; have HN2 := Lib.hid hn2; have HN3 := Lib.hid hn3; have HPM := Lib.hid hpm; have HIO := Lib.hid hio; have hw3 := hB.alloc hB.size (.cells #[.int .i64 t, .int .i64 k, .slice A2 n2 c2] 25); have HXA := Lib.hid (HX.out.next hw3); have HQA := Lib.hid (HQ.out.next hw3); have HTA := Lib.hid (HT.out.trans (hw3.mono HT.out.size)); have HQ2 := Lib.hid (hq2.alloc (.cells #[.int .i64 t, .int .i64 k, .slice A2 n2 c2] 25)); have HQ3 := Lib.hid (hq3.alloc (.cells #[.int .i64 t, .int .i64 k, .slice A2 n2 c2] 25)); have HX2 := Lib.hid (Blk.new w3 25 #[.int .i64 t, .int .i64 k, .slice A2 n2 c2]); clear hk1 hq2 hn2 hq3 hn3 hpm hio hB hw3)))
  as_aux_lemma =>
  have hl1 : L1.length = k := by have := congrArg List.length HK1.out; simpa [hl] using this
  have hs1 := len_split t L1
  have hl2 : (L1.filter (fun p => !dueBy t p)).length = n2 := HN2.out.symm
  have hl3 : P.length = n3 := HN3.out.symm
  have hlp : P.length = (L1.filter (dueBy t)).length := HPM.out.length_eq
  have hn23 : n3 + n2 = k := by omega
  have x0 := HX2.out.cell 0
  have x1 := HX2.out.cell 1
  have x2 := HX2.out.cell 2
  simp only [List.getElem?_toArray, List.getElem?_cons_zero, List.getElem?_cons_succ] at x0 x1 x2
  have kst := Step_any (fun _ M => InOrder M) t k (t + v) A2 n2 c2 _ (w3.alloc (.cells #[.int .i64 t, .int .i64 k, .slice A2 n2 c2] 25)) (rd1 hl2 HQ2.out) (by omega) (by omega) (by omega) (fun M hM => sortsN M (by omega))
  have KST2 := Lib.hid kst
  clear kst KST hlp hs1
  go_upto_region 8 with (first
    | go_big_skip
    | (go_at_call 10; (with_reducible refine KST2.out.mono ?_); rintro e w4 ⟨A4, n4, c4, A5, n5, c5, L2, Q, rfl, hk1, hq2, hn2, hq3, hn3, hpm, hio, hB⟩; go_loud (have HK4 := Lib.hid hk1; have HN4 := Lib.hid hn2; have HN5 := Lib.hid hn3; have HPM5 := Lib.hid hpm; have HIO5 := Lib.hid hio; have hw3 := hB.alloc hB.size (.cells #[.int .i64 (t + v), .int .i64 k, .slice A4 n4 c4] 25); have HXB := Lib.hid (HXA.out.next hw3); have HX2B := Lib.hid (HX2.out.next hw3); have HQB := Lib.hid (HQA.out.next hw3); have HTB := Lib.hid (HTA.out.trans (hw3.mono HTA.out.size)); have HQ3B := Lib.hid (HQ3.out.next hw3); have HQ4 := Lib.hid (hq2.alloc (.cells #[.int .i64 (t + v), .int .i64 k, .slice A4 n4 c4] 25)); have HQ5 := Lib.hid (hq3.alloc (.cells #[.int .i64 (t + v), .int .i64 k, .slice A4 n4 c4] 25)); have HX4 := Lib.hid (Blk.new w4 25 #[.int .i64 (t + v), .int .i64 k, .slice A4 n4 c4]); clear hk1 hq2 hn2 hq3 hn3 hpm hio hB hw3)))
  clear x0 x1 x2 e0 e1 e2 KST2 HX HQ HT HXA HQA HTA HX2 HQ2 HQ3
  as_aux_lemma =>
  have hl4 : (L2.filter (fun p => !dueBy (t + v) p)).length = n4 := HN4.out.symm
  have hl5 : Q.length = n5 := HN5.out.symm
  have e0 := HXB.out.cell 0
  have e1 := HXB.out.cell 1
  have e2 := HXB.out.cell 2
  simp only [List.getElem?_toArray, List.getElem?_cons_zero, List.getElem?_cons_succ] at e0 e1 e2
  have kst := Step_any (fun _ M => InOrder M) 0 k (t + v) A1 k c1 L (w4.alloc (.cells #[.int .i64 (t + v), .int .i64 k, .slice A4 n4 c4] 25)) (rd1 hl HQB.out) (by omega) (by omega) (by omega) (fun M hM => sortsN M (by omega))
  have KST3 := Lib.hid kst
  clear kst
  go_upto_region 9 with (first
    | go_big_skip
    | (go_at_call 10; (with_reducible refine KST3.out.mono ?_); rintro e w5 ⟨A6, n6, c6, A7, n7, c7, L3, R, rfl, hk1, hq2, hn2, hq3, hn3, hpm, hio, hB⟩; go_loud (have HK6 := Lib.hid hk1; have HN6 := Lib.hid hn2; have HN7 := Lib.hid hn3; have HPM7 := Lib.hid hpm; have HIO7 := Lib.hid hio; have hw3 := hB.alloc hB.size (.cells #[.int .i64 (t + v), .int .i64 k, .slice A6 n6 c6] 25); have HXC := Lib.hid (HXB.out.next hw3); have HX4C := Lib.hid (HX4.out.next hw3); have HTC := Lib.hid (HTB.out.trans (hw3.mono HTB.out.size)); have HQ3C := Lib.hid (HQ3B.out.next hw3); have HQ5C := Lib.hid (HQ5.out.next hw3); have HQ7 := Lib.hid (hq3.alloc (.cells #[.int .i64 (t + v), .int .i64 k, .slice A6 n6 c6] 25)); have HX6 := Lib.hid (Blk.new w5 25 #[.int .i64 (t + v), .int .i64 k, .slice A6 n6 c6]); clear hk1 hq2 hn2 hq3 hn3 hpm hio hB hw3)))
  clear e0 e1 e2 KST3 HXB HX2B HQB HTB HQ3B HQ4 HQ5 HX4
  as_aux_lemma =>
  have hl7 : R.length = n7 := HN7.out.symm
  have hl6 : (L3.filter (fun p => !dueBy (t + v) p)).length = n6 := HN6.out.symm
  have hkp : Keeps (t + v) P Q R := keeps_of (K := L.map Pc.key) (t := t) (by omega) (by rw [HK.out]; exact ser_nodup (fun i => rfl) k) HK1.out HPM.out HIO.out HK4.out HPM5.out HIO5.out HK6.out HPM7.out HIO7.out
  have hst := stay_len (t := t) (u := t + v) (by omega) HK4.out (HK6.out.trans HK1.out.symm)
  have hs3 := len_split (t + v) L3
  have hl3' : L3.length = k := by have := congrArg List.length HK6.out; simpa [hl] using this
  have hp7 := HPM7.out.length_eq
  have hlen := hkp.len
  obtain rfl : n4 = n6 := by omega
  have q1 : ((n3 : Int) + (n5 : Int) != (n7 : Int)) = false := by simp; omega
  have q2 : ((n7 : Int) + (n4 : Int) != (k : Int)) = false := by simp; omega
  have e2 := HXC.out.cell 2
  have e4 := HX4C.out.cell 2
  have e6 := HX6.out.cell 2
  simp only [List.getElem?_toArray, List.getElem?_cons_zero, List.getElem?_cons_succ] at e2 e4 e6
  have QP := Lib.hid (rd1 hl3 HQ3C.out)
  have QQ := Lib.hid (rd1 hl5 HQ5C.out)
  have QR7 := Lib.hid (rd1 hl7 HQ7.out)
  have HKP := Lib.hid hkp
  have b7 : n3 + n5 = n7 := by omega
  have b8 : n7 ≤ 100 := by omega
  have b9 : n4 ≤ 100 := by omega
  have b10 : n7 + n4 = k := by omega
  clear hkp hst hs3 hl3' hp7 hlen hl6 hl4 hl2 hl1 hn23 HQ3C HQ5C HQ7 HK HK1 HN2 HN3 HPM HIO HK4 HN4 HN5 HPM5 HIO5 HK6 HN6 HN7 HPM7 HIO7
  generalize w5.alloc (.cells #[.int .i64 (t + v), .int .i64 k, .slice A6 n4 c6] 25) = W0 at *
  as_aux_lemma =>
  go_wp2_with fail
  have HTC' := HTC
  clear e2 e4 e6 q1 q2 HXC HX4C HX6 HTC
  have HTC := HTC'
  go_loopg [18] n7 (fun g iv wr => ∃ i : Nat, i ≤ n7 ∧ iv = .int .i64 i ∧ n7 ≤ i + g ∧ Below W0.heap.size W0 wr)
  case atStart => exact ⟨0, Nat.zero_le _, rfl, by omega, Below.refl _ _⟩
  case round =>
    obtain ⟨i, hi, rfl, hg, hB⟩ := hrel
    by_cases hin : i < n7
    · obtain ⟨x, hx⟩ : ∃ x, R[i]? = some x := ⟨R[i], List.getElem?_eq_getElem (by omega)⟩
      obtain ⟨b, off, rfl, hrow⟩ := row_cells (QR7.out.next hB) hx
      obtain ⟨r0, r1, r2, r3, r4⟩ := hrow wr (Below.refl _ _)
      have q3 : (i : Int) < (n7 : Int) := by omega
      have q4 : (0 : Int) ≤ (i : Int) := by omega
      have HB := Lib.hid hB
      have hdu := HKP.out.due i x hx
      go_upto_if 114 with (fail)
      go_cut [19, 20] (fun s19 s20 wx => CutXY wr x s19 s20 wx)
      case first =>
        by_cases c : i < n3
        · obtain ⟨y, hy, hse⟩ := HKP.out.fst i x hx (by omega)
          obtain ⟨b', off', rfl, hrow'⟩ := row_cells (QP.out.next hB) hy
          have p0 := fun o1 o2 => (hrow' _ (be2 wr o1 o2)).1
          have p1 := fun o1 o2 => (hrow' _ (be2 wr o1 o2)).2.1
          have p2 := fun o1 o2 => (hrow' _ (be2 wr o1 o2)).2.2.1
          have p3 := fun o1 o2 => (hrow' _ (be2 wr o1 o2)).2.2.2.1
          have p4 := fun o1 o2 => (hrow' _ (be2 wr o1 o2)).2.2.2.2
          rw [hse] at p3
          have c' : (i : Int) < (n3 : Int) := by omega
          clear hrow hrow' hy hx hB
          go_wp2_with fail
          go_meet
          exact cutXY_of wr x y rfl
        · obtain ⟨y, hy, hse⟩ := HKP.out.snd i x hx (by omega)
          obtain ⟨b', off', rfl, hrow'⟩ := row_cells (QQ.out.next hB) hy
          have p0 := fun o1 o2 => (hrow' _ (be2 wr o1 o2)).1
          have p1 := fun o1 o2 => (hrow' _ (be2 wr o1 o2)).2.1
          have p2 := fun o1 o2 => (hrow' _ (be2 wr o1 o2)).2.2.1
          have p3 := fun o1 o2 => (hrow' _ (be2 wr o1 o2)).2.2.2.1
          have p4 := fun o1 o2 => (hrow' _ (be2 wr o1 o2)).2.2.2.2
          rw [hse] at p3
          have c' : ¬ (i : Int) < (n3 : Int) := by omega
          have c2 : (n3 : Int) ≤ (i : Int) := by omega
          have z1 : IntKind.i64.wrap ((i : Int) - (n3 : Int)) = (i : Int) - (n3 : Int) := by rw [IntKind.wrap_i64]; omega
          have z2 : (i : Int) - (n3 : Int) < (n5 : Int) := by omega
          have z3 : ((i : Int) - (n3 : Int)).toNat = i - n3 := by omega
          rw [hl3] at p0 p1 p2 p3 p4
          clear hrow hrow' hy hx hB
          go_wp2_with fail
          go_meet
          exact cutXY_of wr x y rfl
      case rest =>
        obtain ⟨g1, g2, cs, rfl, rfl, hx1, hx2, hse, hBW⟩ := hcut
        have a2 := hx1.cell 2
        have a3 := hx1.cell 3
        have a4 := hx2.cell 3
        rw [hse] at a4
        simp only [Pc.cells, List.getElem?_toArray, List.getElem?_cons_zero, List.getElem?_cons_succ] at a2 a3
        have t1 : (x.se != x.se) = false := by simp
        have t2 : decide (t + v < x.du) = false := by simpa using hdu
        have HBW := Lib.hid (HB.out.trans (hBW.mono HB.out.size))
        clear r0 r1 r2 r3 r4
        rcases Nat.eq_zero_or_pos i with h0 | h0
        · subst h0
          have t3 : decide ((0 : Int) < 0) = false := by decide
          clear hx1 hx2 hse hBW hrow hx hB
          go_upto_region 19 with fail
          go_quiet (fail)
          go_wp2_with fail
          go_roundg (gk - 1)
          case rel => exact ⟨0 + 1, by omega, by go_num, by omega, HBW.out.trans (below_drewN W0.heap.size _ _)⟩
          case measure => omega
        · obtain ⟨j, rfl⟩ : ∃ j, i = j + 1 := ⟨i - 1, by omega⟩
          obtain ⟨z, hz⟩ : ∃ z, R[j]? = some z := ⟨R[j], List.getElem?_eq_getElem (by omega)⟩
          have hord := HKP.out.ord j z x hz hx
          obtain ⟨b2, off2, e2, hrow2⟩ := row_cells (QR7.out.next hB) hz
          injection e2 with e2
          injection e2 with e2 e3 _
          subst e2 e3
          obtain ⟨_, _, z2, z3, _⟩ := hrow2 wc hBW
          have ek : ((j + 1 : Nat) : Int) = (j : Int) + 1 := by omega
          have t3 : decide ((0 : Int) < (j : Int) + 1) = true := by rw [decide_eq_true_iff]; omega
          have v1 : IntKind.i64.wrap ((j : Int) + 1 - 1) = (j : Int) := by rw [IntKind.wrap_i64]; omega
          have v7 : IntKind.i64.wrap (j : Int) = (j : Int) := by rw [IntKind.wrap_i64]; omega
          have v8 : (0 : Int) ≤ (j : Int) := by omega
          have v9 : (j : Int) < (n7 : Int) := by omega
          have t4 : decide (x.du < z.du) = false := by rw [decide_eq_false_iff_not]; omega
          rw [ek]
          clear hx1 hx2 hse hBW hrow hrow2 hx hz hB ek q3 q4
          rcases hord with ho | ⟨ho, ho2⟩
          · have t5 : (z.du == x.du) = false := by simp; omega
            go_upto_region 19 with fail
            go_quiet (fail)
            go_wp2_with fail
            go_roundg (gk - 1)
            case rel => exact ⟨j + 1 + 1, by omega, by go_num, by omega, HBW.out.trans (below_drewN W0.heap.size _ _)⟩
            case measure => omega
          · have t5 : (z.du == x.du) = true := by simp; omega
            have t6 : decide (x.se ≤ z.se) = false := by rw [decide_eq_false_iff_not]; omega
            clear ho
            go_upto_region 19 with fail
            go_quiet (fail)
            go_wp2_with fail
            go_roundg (gk - 1)
            case rel => exact ⟨j + 1 + 1, by omega, by go_num, by omega, HBW.out.trans (below_drewN W0.heap.size _ _)⟩
            case measure => omega
    · obtain rfl : i = n7 := by omega
      go_wp2_with fail
      go_ret
      exact ⟨rfl, HTC.out.trans (hB.mono HTC.out.size)⟩

set_option maxRecDepth 100000 in
theorem walk {H : Type} {enc : TypeId × Value → H} {d0 d1 d2 : DataW H} {p0 p1 p2 : List MemPlace} (v0 v1 v2 : Value) (W : World) (base : Nat)
    (h0 : Value.okWide Try.prog W .any base 22 v0) (k0 : DataW.Trod enc Try.prog W 0 (fun _ => true) true 22 v0 d0 p0)
    (h1 : Value.okWide Try.prog W .any base 3 v1) (k1 : DataW.Trod enc Try.prog W 0 (fun _ => true) true 3 v1 d1 p1)
    (h2 : Value.okWide Try.prog W .any base 3 v2) (k2 : DataW.Trod enc Try.prog W 0 (fun _ => true) true 3 v2 d2 p2)
    (s0 : ∀ x ∈ d0.weights Try.prog 22, x ≤ reachBytes) (s1 : ∀ x ∈ d1.weights Try.prog 3, x ≤ reachBytes) (s2 : ∀ x ∈ d2.weights Try.prog 3, x ≤ reachBytes) :
    Calls Try.prog 3 #[v0, v1, v2] W fun e w' => e = .returned (.bool true) ∧ Below W.heap.size W w' := by
  obtain ⟨A, n, c, rfl, hnc, hc, _, _⟩ := ok_slice Try.underlying22 h0
  obtain ⟨x1, rfl, _⟩ := ok_int Try.underlying3 h1
  obtain ⟨x2, rfl, _⟩ := ok_int Try.underlying3 h2
  obtain ⟨D, hD⟩ := loads_in k0 s0
  exact walk1 A n c D x1 x2 W hD (by omega)
end Go.Proofs.Ytdlcjieaoalhoaa.lawBusKeeps
