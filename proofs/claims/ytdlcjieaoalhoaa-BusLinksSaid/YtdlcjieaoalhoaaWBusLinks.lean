/- BusLinks: each parcel that comes is one that was sent, over that link, with those bytes, at that time. -/
import Derived.Test.YtdlcjieaoalhoaaBusIn2
import Derived.Test.YtdlcjieaoalhoaaBusRuns
import Derived.Test.YtdlcjieaoalhoaaBusKeep
import Derived.Test.YtdlcjieaoalhoaaKit2
import Derived.BigGuard
set_option linter.unusedVariables false
namespace Go.Proofs.Ytdlcjieaoalhoaa.lawBusLinks
open Go.RowKit Go.Proofs.Ytdlcjieaoalhoaa Go.Proofs.Ytdlcjieaoalhoaa.Bs Crc Sm

/-- behind the step -/
def LinkCut (w2 : World) (Lk : List Ky) (k : Nat) (s8 s9 : Value) (wx : World) : Prop :=
  ∃ (A3 : Option Addr) (n3 c3 : Nat) (P : List Pc), s8 = .slice A3 n3 c3 ∧ s9 = .int .i64 0 ∧ n3 ≤ k ∧ QR wx A3 n3 c3 P ∧ (∀ p ∈ P, p.key ∈ Lk) ∧ Below w2.heap.size w2 wx
theorem sk_of {w : World} {g : Nat} {k : Nat} {A1 : Option Addr} {c1 : Nat} (h : Blk w g 25 #[.int .i64 0, .int .i64 k, .slice A1 k c1]) (W : World) (hW : Below w.heap.size w W) :
    W.cell? ⟨g, 0, none⟩ = some (.int .i64 0) ∧ W.cell? ⟨g, 1, none⟩ = some (.int .i64 k) ∧ W.cell? ⟨g, 2, none⟩ = some (.slice A1 k c1) :=
  ⟨(h.next hW).cell 0, (h.next hW).cell 1, (h.next hW).cell 2⟩
/-- what the step's contract says, shorter -/
def StPost (w : World) (Lk : List Ky) (k : Nat) (t : Int) (e : Ending) (w' : World) : Prop :=
  ∃ (A2 : Option Addr) (n2 c2 : Nat) (A3 : Option Addr) (n3 c3 : Nat) (P : List Pc), e = .returned (.tuple #[.agg #[.int .i64 t, .int .i64 k, .slice A2 n2 c2], .slice A3 n3 c3, .int .i64 0]) ∧ n3 ≤ k ∧ n3 = P.length ∧ QO w' w.heap.size (.slice A3 n3 c3) P ∧ (∀ p ∈ P, p.key ∈ Lk) ∧ Below w.heap.size w w'
theorem step_any' (t : Int) (A : Option Addr) (k c : Nat) (L : List Pc) (w : World) (h : QR w A k c L) (hk : k ≤ 100) (h0 : 0 ≤ t) (h1 : t < 1200) :
    Calls Try.prog 10 #[.agg #[.int .i64 0, .int .i64 k, .slice A k c], .int .i64 t] w (StPost w (L.map Pc.key) k t) := by
  refine (Step_any (fun _ M => InOrder M) 0 k t A k c L w h (by omega) h0 (by omega) (fun M hM => sortsN M (by omega))).mono ?_
  rintro e w' ⟨A2, n2, c2, A3, n3, c3, L', M, rfl, hk, hq2, hn2, hq3, hn3, hpm, hR, hB⟩
  have hl : L'.length = k := by have := congrArg List.length hk; simpa [h.1] using this
  refine ⟨A2, n2, c2, A3, n3, c3, M, rfl, ?_, hn3, hq3, fun p hp => ?_, hB⟩
  · have := hpm.length_eq
    have := List.length_filter_le (dueBy t) L'
    omega
  · have := (List.mem_filter.1 (hpm.mem_iff.1 hp)).1
    rw [← hk]
    exact List.mem_map.2 ⟨p, this, rfl⟩
theorem link_a {w2 w9 : World} {base : Nat} {Lk : List Ky} {k n3 c3 : Nat} {A3 : Option Addr} {P : List Pc} {a b c : Value} (hn : n3 ≤ k) (hl : n3 = P.length) (hQ : QO w9 base (.slice A3 n3 c3) P) (hP : ∀ p ∈ P, p.key ∈ Lk) (hB : Below w2.heap.size w2 w9) :
    LinkCut w2 Lk k (.slice A3 n3 c3) (.int .i64 0) (w9.alloc (.cells #[a, b, c] 25)) :=
  ⟨A3, n3, c3, P, rfl, rfl, hn, (rd1 hl.symm hQ).alloc _, hP, hB.alloc hB.size _⟩
theorem link_b {w2 w9 : World} {base : Nat} {Lk : List Ky} {k n3 c3 : Nat} {A3 : Option Addr} {P : List Pc} {a b c : Value} {cs : Array Value} (hz : Blk w9 w2.heap.size 25 cs) (hn : n3 ≤ k) (hl : n3 = P.length) (hQ : QO w9 base (.slice A3 n3 c3) P) (hP : ∀ p ∈ P, p.key ∈ Lk) (hB : Below w2.heap.size w2 w9) :
    LinkCut w2 Lk k (.slice A3 n3 c3) (.int .i64 0) (((w9.setCell ⟨w2.heap.size, 0, none⟩ a).setCell ⟨w2.heap.size, 1, none⟩ b).setCell ⟨w2.heap.size, 2, none⟩ c) :=
  ⟨A3, n3, c3, P, rfl, rfl, hn, rd1 hl.symm (((hQ.grown (grown_set _ _ 0 _) hz (by decide) (by decide)).grown (grown_set _ _ 1 _) (hz.set_ 0 _) (by decide) (by decide)).grown (grown_set _ _ 2 _) ((hz.set_ 0 _).set_ 1 _) (by decide) (by decide)), hP,
    ((hB.setCell (p := ⟨w2.heap.size, 0, none⟩) (Nat.le_refl _) _).setCell (p := ⟨w2.heap.size, 1, none⟩) (Nat.le_refl _) _).setCell (p := ⟨w2.heap.size, 2, none⟩) (Nat.le_refl _) _⟩
theorem lr_cells {w : World} {A : Option Addr} {n j : Nat} {D : Nat → Ld} (h : LR w A n D) (hj : j < n) : ∃ b off, A = some ⟨b, off, none⟩ ∧ ∀ W, Below w.heap.size w W → W.cell? ⟨b, off + j * 4, none⟩ = some (.int .i64 (D j).fr) ∧ W.cell? ⟨b, off + j * 4 + 1, none⟩ = some (.int .i64 (D j).to) ∧ W.cell? ⟨b, off + j * 4 + 2, none⟩ = some (.int .i64 (D j).dl) ∧ W.cell? ⟨b, off + j * 4 + 3, none⟩ = some (.slice (D j).A (D j).n (D j).c) := by
  obtain ⟨b, off, e, hlt, hc⟩ := h.1 (by omega)
  refine ⟨b, off, e, fun W hW => ?_⟩
  obtain ⟨c0, c1, c2, c3⟩ := hc j hj
  exact ⟨(hW.cell (p := ⟨b, _, none⟩) hlt).trans c0, (hW.cell (p := ⟨b, _, none⟩) hlt).trans c1, (hW.cell (p := ⟨b, _, none⟩) hlt).trans c2, (hW.cell (p := ⟨b, _, none⟩) hlt).trans c3⟩

set_option maxRecDepth 100000 in
set_option maxHeartbeats 8000000 in
theorem walk1 (A : Option Addr) (n c : Nat) (D : Nat → Ld) (s0 : Int) (w : World) (h : LR w A n D) (hcap : ∀ j, j < n → (D j).n ≤ (D j).c) (hn : n ≤ 9223372036854775807) :
    Calls Try.prog 4 #[.slice A n c, .int .i64 s0] w fun e w' => e = .returned (.bool true) ∧ Below w.heap.size w w' := by
  obtain ⟨i0, hinf, _, _, _⟩ := info_parts infoByte
  obtain ⟨k, hk⟩ : ∃ k, k = min n 100 := ⟨_, rfl⟩
  have hk100 : k ≤ 100 := by omega
  have hkn : k ≤ n := by omega
  have kl := loaded_any A n c D w h hn
  unfold LdPost at kl
  rw [← hk] at kl
  have KL := Lib.hid kl
  have KR := Lib.hid (fun W => runs_any W)
  have ks1 := fun W => spot_any s0 1200 W (by omega) (by omega)
  have b1 := Int.emod_nonneg s0 (b := 1200) (by omega)
  have b2 := Int.emod_lt_of_pos s0 (b := 1200) (by omega)
  generalize s0 % 1200 = t at *
  have KS1 := Lib.hid ks1
  have HLR := Lib.hid h
  have HCAP := Lib.hid hcap
  clear h hcap kl ks1 hk
  go_enter Try.func4, Try.ntmps4
  go_upto_region 4 with (first
    | go_big_skip
    | (go_at_call 7; (with_reducible refine KL.out.mono ?_); rintro e w1 ⟨A1, c1, L, rfl, hq, hk, hB⟩; have HT0 := Lib.hid (hB.alloc hB.size (.cells #[.int .i64 0, .int .i64 k, .slice A1 k c1] 25)); have HQ := Lib.hid (hq.alloc (.cells #[.int .i64 0, .int .i64 k, .slice A1 k c1] 25)); have HK := Lib.hid hk; have HX := Lib.hid (Blk.new w1 25 #[.int .i64 0, .int .i64 k, .slice A1 k c1]); clear hq hk hB)
    | (go_at_call 8; (with_reducible refine (KR.out _).mono ?_); rintro e w2 ⟨rfl, hB2⟩; have HT := Lib.hid (HT0.out.trans (hB2.mono HT0.out.size)); clear HT0; have HQ := Lib.hid (HQ.out.next hB2); have HX := Lib.hid (HX.out.next hB2); clear hB2))
  clear KL KR
  as_aux_lemma =>
  have hl : L.length = k := by have := congrArg List.length HK.out; simpa using this
  have HL2 := Lib.hid (HLR.out.next (HT.out))
  generalize w1.heap.size = gA at *
  have SK := Lib.hid (sk_of HX.out)
  have KST := Lib.hid (fun W (hW : Below w2.heap.size w2 W) => step_any' t A1 k c1 L W ((rd1 hl HQ.out).next hW) hk100 b1 b2)
  unfold StPost at KST
  go_cut [7, 8, 9] (fun _ s8 s9 wx => LinkCut w2 (L.map Pc.key) k s8 s9 wx)
  case first =>
    as_aux_lemma =>
    clear HQ HX HLR HCAP HL2
    go_region_held3 (fun w' => w'.cell? ⟨gA, 0, none⟩ = some (.int .i64 0) ∧ w'.cell? ⟨gA, 1, none⟩ = some (.int .i64 k) ∧ w'.cell? ⟨gA, 2, none⟩ = some (.slice A1 k c1)) (first | with_reducible exact SK.out _ (Below.refl _ _).drew | with_reducible exact SK.out _ ((Below.refl _ _).alloc (Nat.le_refl _) _).drew | with_reducible exact SK.out _ hBx | with_reducible exact SK.out _ (hBx.alloc hBx.size _) | with_reducible exact SK.out _ (((hBx.setCell (Nat.le_refl _) _).setCell (Nat.le_refl _) _).setCell (Nat.le_refl _) _)) (first
      | (go_at_call 9; (with_reducible refine (KS1.out _).mono ?_); rintro e w9 ⟨rfl, rfl⟩)
      | (go_at_call 10; (with_reducible refine (KST.out _ (Below.refl _ _).drew).mono ?_); rintro e w9 ⟨A2, n2, c2, A3, n3, c3, P, rfl, hn3, hl3, hq9, hk9, hB9⟩; have HL3 := Lib.hid hl3; clear hl3; have hBx : Below w2.heap.size w2 w9 := ((Below.refl _ _).drew).trans (hB9.mono (Nat.le_refl _)))
      | (go_at_call 10; (with_reducible refine (KST.out _ ((Below.refl _ _).alloc (Nat.le_refl _) _).drew).mono ?_); rintro e w9 ⟨A2, n2, c2, A3, n3, c3, P, rfl, hn3, hl3, hq9, hk9, hB9⟩; have HL3 := Lib.hid hl3; clear hl3; have hBx : Below w2.heap.size w2 w9 := (((Below.refl _ _).alloc (Nat.le_refl _) _).drew).trans (hB9.mono (by simp)); have hz9 : Blk w9 w2.heap.size 25 #[.int .i64 0, .int .i64 0, .slice none 0 0] := (Blk.new w2 _ _).drew.next hB9; have m0 := hz9.cell 0; have m1 := hz9.cell 1; have m2 := hz9.cell 2; have g0 := hz9.frozen 0; have g1 := hz9.frozen 1; have g2 := hz9.frozen 2; (simp only [List.getElem?_toArray, List.getElem?_cons_zero, List.getElem?_cons_succ] at m0 m1 m2)))
    all_goals (go_wp2_with fail; go_meet)
    all_goals first
      | exact link_a hn3 HL3.out hq9 hk9 hBx
      | exact link_b hz9 hn3 HL3.out hq9 hk9 hBx
  case rest =>
    obtain ⟨A3, n3, c3, P, rfl, rfl, hn3, hQR, hP, hB3⟩ := hcut
    clear KST SK KS1
    have HQR := Lib.hid hQR
    have HP := Lib.hid hP
    have HT3 := Lib.hid (HT.out.trans (hB3.mono HT.out.size))
    have HL3 := Lib.hid (HL2.out.next hB3)
    clear hQR hP hB3 HL2 HT HLR HQ HX
    generalize wc = W0 at *
    go_wp2_with fail
    have HT3' := HT3
    clear HT3
    have HT3 := HT3'
    go_loopg [38] n3 (fun g iv wr => ∃ i : Nat, i ≤ n3 ∧ iv = .int .i64 i ∧ n3 ≤ i + g ∧ Below W0.heap.size W0 wr)
    case atStart => exact ⟨0, Nat.zero_le _, rfl, by omega, Below.refl _ _⟩
    case round =>
      obtain ⟨i, hi, rfl, hg, hB⟩ := hrel
      by_cases hin : i < n3
      · obtain ⟨b, off, x, rfl, hlt, hx, hxm, hxr, r0, r1, r2, r3, r4⟩ := (HQR.out.next hB).row hin
        have hkey := HP.out x hxm
        rw [HK.out, List.mem_map] at hkey
        obtain ⟨j, hj, hkey⟩ := hkey
        rw [List.mem_range] at hj
        obtain ⟨xf, xt, xd, xs, xA, xn, xc, xz⟩ := x
        simp only [Pc.key, ldKey, Prod.mk.injEq] at hkey
        obtain ⟨rfl, rfl, rfl, rfl, rfl⟩ := hkey
        simp only at r0 r1 r2 r3 r4
        have hjn : j < n := by omega
        obtain ⟨b', off', rfl, hld⟩ := lr_cells (HL3.out.next hB) hjn
        obtain ⟨hI, hIA, hI2, hI3⟩ := (HL3.out.next hB).2 j hjn
        have hxI : Ints wr .u8 xA xn ((D j).zs.take 220) := hxr.1
        have hxA : xA = none → xn = 0 ∧ xc = 0 := hxr.2.1
        have hcp := HCAP.out j hjn
        generalize D j = dj at *
        obtain ⟨fr, tt, dl, dA, dn, dc, zs⟩ := dj
        simp only at hI hIA hI2 hI3 hld r0 r1 r2 r3 r4 hxI hcp
        have ms := fun o => hld _ ((Below.refl wr.heap.size wr).alloc (Nat.le_refl _) o)
        have m0 := fun o => (ms o).1
        have m1 := fun o => (ms o).2.1
        have m2 := fun o => (ms o).2.2.1
        have m3 := fun o => (ms o).2.2.2
        have hfm := Int.emod_nonneg fr (b := 4) (by decide)
        have hfm2 := Int.emod_lt_of_pos fr (b := 4) (by decide)
        have htm := Int.emod_nonneg tt (b := 3) (by decide)
        have htm2 := Int.emod_lt_of_pos tt (b := 3) (by decide)
        have kf := fun W => spot_any fr 4 W (by decide) (by decide)
        have kt := fun W => spot_any tt 3 W (by decide) (by decide)
        have kd := fun W => spot_any dl 1001 W (by decide) (by decide)
        generalize dl % 1001 = dm at *
        generalize fr % 4 = fm at *
        generalize tt % 3 = tm at *
        obtain ⟨to2, hto⟩ : ∃ x, x = (fm + 1 + tm) % 4 := ⟨_, rfl⟩
        rw [← hto] at r1
        have w1 : IntKind.i64.wrap (fm + 1) = fm + 1 := by rw [IntKind.wrap_i64]; omega
        have w2 : IntKind.i64.wrap (fm + 1 + tm) = fm + 1 + tm := by rw [IntKind.wrap_i64]; omega
        have w3 : (fm + 1 + tm).tmod 4 = to2 := by rw [hto, Int.tmod_eq_emod_of_nonneg (by omega)]
        have w4 : (fm + 1 + tm) % 4 = to2 := hto.symm
        have t1 : (fm != fm) = false := by simp
        have t2 : (to2 != to2) = false := by simp
        have t3 : (dm != dm) = false := by simp
        have q3 : (i : Int) < (n3 : Int) := by omega
        have q4 : (0 : Int) ≤ (i : Int) := by omega
        have q5 : (j : Int) < (n : Int) := by omega
        have q6 : (0 : Int) ≤ (j : Int) := by omega
        have q9 : decide ((j : Int) < 0) = false := by rw [decide_eq_false_iff_not]; omega
        have KF := Lib.hid kf
        have KT := Lib.hid kt
        have KD := Lib.hid kd
        have HB := Lib.hid hB
        have HXI := Lib.hid hxI
        have HXA := Lib.hid hxA
        have HI := Lib.hid hI
        have HIA := Lib.hid hIA
        obtain ⟨S, hS⟩ : ∃ S, S = strOfNums (zs.take 220) := ⟨_, rfl⟩
        have HS := Lib.hid hS
        have W34 := Lib.hid (And.intro w3 w4)
        clear kf kt kd hto hB hxI hxA hI hIA hS ms hld w3 w4
        by_cases hlong : 220 < dn
        · have q7 : decide (220 < (dn : Int)) = true := by rw [decide_eq_true_iff]; omega
          have q8 : (220 : Int) ≤ (dc : Int) := by omega
          go_upto_region 17 with (first
            | go_big_skip
            | (go_at_call 9; (with_reducible refine (KF.out _).mono ?_); rintro e w9 ⟨rfl, rfl⟩))
          have g0 := (Blk.new wr 35 #[.int .i64 fm, .int .i64 to2, .int .i64 dm, .int .i64 j, .slice xA xn xc]).alloc (.cells #[.int .i64 fr, .int .i64 tt, .int .i64 dl, .slice dA dn dc] 38)
          have g1 : Blk ((wr.alloc (.cells #[.int .i64 fm, .int .i64 to2, .int .i64 dm, .int .i64 j, .slice xA xn xc] 35)).alloc (.cells #[.int .i64 fr, .int .i64 tt, .int .i64 dl, .slice dA dn dc] 38)) (wr.heap.size + 1) 38 #[.int .i64 fr, .int .i64 tt, .int .i64 dl, .slice dA dn dc] := Blk.at_ _ _ _ _ (by simp)
          have hb2 : Below wr.heap.size wr ((wr.alloc (.cells #[.int .i64 fm, .int .i64 to2, .int .i64 dm, .int .i64 j, .slice xA xn xc] 35)).alloc (.cells #[.int .i64 fr, .int .i64 tt, .int .i64 dl, .slice dA dn dc] 38)) := ((Below.refl _ _).alloc (Nat.le_refl _) _).alloc (by simp) _
          generalize (wr.alloc (.cells #[.int .i64 fm, .int .i64 to2, .int .i64 dm, .int .i64 j, .slice xA xn xc] 35)).alloc (.cells #[.int .i64 fr, .int .i64 tt, .int .i64 dl, .slice dA dn dc] 38) = W2 at *
          generalize wr.heap.size = gx at g0 g1 ⊢
          have z0 := g0.cell 0
          have z1 := g0.cell 1
          have z2 := g0.cell 2
          have z4 := g0.cell 4
          have y0 := g1.cell 0
          have y1 := g1.cell 1
          have y2 := g1.cell 2
          simp only [List.getElem?_toArray, List.getElem?_cons_zero, List.getElem?_cons_succ] at z0 z1 z2 z4 y0 y1 y2
          have ca := fun m' => conv_ints (P := Try.prog) (dst := 9) Try.underlying33 Try.underlying5 Try.underlying9 (c := xc) ((HXI.out.next hb2).next (below_drewN W2.heap.size W2 m')) HXA.out
          have cb := fun m' => conv_ints (P := Try.prog) (dst := 9) Try.underlying33 Try.underlying5 Try.underlying9 (c := dc) (((cut_to (kd := .i64) (k := 220) Try.underlying33 hinf (HI.out.next hb2) (by omega) (by omega)).2).next (below_drewN W2.heap.size W2 m')) (fun e => by have := HIA.out e; omega)
          simp only [← HS.out] at ca cb
          obtain ⟨w3, w4⟩ := W34.out
          have HB2 := Lib.hid (HB.out.trans (hb2.mono HB.out.size))
          clear g0 g1 hb2 m0 m1 m2 m3 r0 r1 r2 r3 r4
          have KQ1 := Lib.hid (fun m' => Calls.quiet_of_same (n := m') (w := W2) (v := .int .i64 tm) ((KT.out (W2.drewN m')).mono fun _ _ h => ⟨h.1, h.2.symm⟩))
          have KQ2 := Lib.hid (fun m' => Calls.quiet_of_same (n := m') (w := W2) (v := .int .i64 dm) ((KD.out (W2.drewN m')).mono fun _ _ h => ⟨h.1, h.2.symm⟩))
          go_quiet (first | (go_at_call 9; with_reducible exact KQ1.out _) | (go_at_call 9; with_reducible exact KQ2.out _))
          go_wp2_with fail
          go_roundg (gk - 1)
          case rel => exact ⟨i + 1, by omega, by go_num, by omega, HB2.out.trans (below_drewN W0.heap.size _ _)⟩
          case measure => omega
        · have q7 : decide (220 < (dn : Int)) = false := by rw [decide_eq_false_iff_not]; omega
          go_upto_region 17 with (first
            | go_big_skip
            | (go_at_call 9; (with_reducible refine (KF.out _).mono ?_); rintro e w9 ⟨rfl, rfl⟩))
          have g0 := (Blk.new wr 35 #[.int .i64 fm, .int .i64 to2, .int .i64 dm, .int .i64 j, .slice xA xn xc]).alloc (.cells #[.int .i64 fr, .int .i64 tt, .int .i64 dl, .slice dA dn dc] 38)
          have g1 : Blk ((wr.alloc (.cells #[.int .i64 fm, .int .i64 to2, .int .i64 dm, .int .i64 j, .slice xA xn xc] 35)).alloc (.cells #[.int .i64 fr, .int .i64 tt, .int .i64 dl, .slice dA dn dc] 38)) (wr.heap.size + 1) 38 #[.int .i64 fr, .int .i64 tt, .int .i64 dl, .slice dA dn dc] := Blk.at_ _ _ _ _ (by simp)
          have hb2 : Below wr.heap.size wr ((wr.alloc (.cells #[.int .i64 fm, .int .i64 to2, .int .i64 dm, .int .i64 j, .slice xA xn xc] 35)).alloc (.cells #[.int .i64 fr, .int .i64 tt, .int .i64 dl, .slice dA dn dc] 38)) := ((Below.refl _ _).alloc (Nat.le_refl _) _).alloc (by simp) _
          generalize (wr.alloc (.cells #[.int .i64 fm, .int .i64 to2, .int .i64 dm, .int .i64 j, .slice xA xn xc] 35)).alloc (.cells #[.int .i64 fr, .int .i64 tt, .int .i64 dl, .slice dA dn dc] 38) = W2 at *
          generalize wr.heap.size = gx at g0 g1 ⊢
          have z0 := g0.cell 0
          have z1 := g0.cell 1
          have z2 := g0.cell 2
          have z4 := g0.cell 4
          have y0 := g1.cell 0
          have y1 := g1.cell 1
          have y2 := g1.cell 2
          simp only [List.getElem?_toArray, List.getElem?_cons_zero, List.getElem?_cons_succ] at z0 z1 z2 z4 y0 y1 y2
          have ca := fun m' => conv_ints (P := Try.prog) (dst := 9) Try.underlying33 Try.underlying5 Try.underlying9 (c := xc) ((HXI.out.next hb2).next (below_drewN W2.heap.size W2 m')) HXA.out
          have cb := fun m' => conv_ints (P := Try.prog) (dst := 9) Try.underlying33 Try.underlying5 Try.underlying9 (c := dc) (((show Ints W2 .u8 dA dn (zs.take 220) from by rw [List.take_of_length_le (by have := HI.out.1; omega)]; exact HI.out.next hb2)).next (below_drewN W2.heap.size W2 m')) HIA.out
          simp only [← HS.out] at ca cb
          obtain ⟨w3, w4⟩ := W34.out
          have HB2 := Lib.hid (HB.out.trans (hb2.mono HB.out.size))
          clear g0 g1 hb2 m0 m1 m2 m3 r0 r1 r2 r3 r4
          have KQ1 := Lib.hid (fun m' => Calls.quiet_of_same (n := m') (w := W2) (v := .int .i64 tm) ((KT.out (W2.drewN m')).mono fun _ _ h => ⟨h.1, h.2.symm⟩))
          have KQ2 := Lib.hid (fun m' => Calls.quiet_of_same (n := m') (w := W2) (v := .int .i64 dm) ((KD.out (W2.drewN m')).mono fun _ _ h => ⟨h.1, h.2.symm⟩))
          go_quiet (first | (go_at_call 9; with_reducible exact KQ1.out _) | (go_at_call 9; with_reducible exact KQ2.out _))
          go_wp2_with fail
          go_roundg (gk - 1)
          case rel => exact ⟨i + 1, by omega, by go_num, by omega, HB2.out.trans (below_drewN W0.heap.size _ _)⟩
          case measure => omega
      · obtain rfl : i = n3 := by omega
        go_wp2_with fail
        go_ret
        exact ⟨rfl, HT3.out.trans (hB.mono HT3.out.size)⟩

set_option maxRecDepth 100000 in
theorem walk {H : Type} {enc : TypeId × Value → H} {d0 d1 : DataW H} {p0 p1 : List MemPlace} (v0 v1 : Value) (W : World) (base : Nat)
    (h0 : Value.okWide Try.prog W .any base 22 v0) (k0 : DataW.Trod enc Try.prog W 0 (fun _ => true) true 22 v0 d0 p0)
    (h1 : Value.okWide Try.prog W .any base 3 v1) (k1 : DataW.Trod enc Try.prog W 0 (fun _ => true) true 3 v1 d1 p1)
    (s0 : ∀ x ∈ d0.weights Try.prog 22, x ≤ reachBytes) (s1 : ∀ x ∈ d1.weights Try.prog 3, x ≤ reachBytes) :
    Calls Try.prog 4 #[v0, v1] W fun e w' => e = .returned (.bool true) ∧ Below W.heap.size W w' := by
  obtain ⟨A, n, c, rfl, hnc, hc, _, _⟩ := ok_slice Try.underlying22 h0
  obtain ⟨x1, rfl, _⟩ := ok_int Try.underlying3 h1
  obtain ⟨D, hD, hcap⟩ := loads_in2 k0 s0
  exact walk1 A n c D x1 W hD hcap (by omega)
end Go.Proofs.Ytdlcjieaoalhoaa.lawBusLinks
