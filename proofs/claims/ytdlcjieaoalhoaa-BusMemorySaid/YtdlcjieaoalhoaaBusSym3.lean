/- slices.symMergeCmpFunc at parcels. -/
import Derived.Test.YtdlcjieaoalhoaaBusSym2
import Derived.Deep.DeepCutAuto
set_option linter.unusedVariables false
namespace Go.Proofs.Ytdlcjieaoalhoaa.Bs
open Go.RowKit Go.Sort Go.Proofs.Ytdlcjieaoalhoaa Crc Sm Sy

/-- where the search begins and ends -/
def LoHi (a m b M lo hi : Nat) : Prop := (lo = a ∧ m ≤ M ∧ hi = m) ∨ (M < m ∧ lo + b = M + m ∧ hi = M)
def LoCut (w : World) (a m b M : Nat) (s r : Value) (wx : World) : Prop := ∃ lo hi : Nat, s = .int .i64 lo ∧ r = .int .i64 hi ∧ LoHi a m b M lo hi ∧ wx = w
def BsG (w0 : World) (blk off : Nat) (d : Array Pc) (n lo hi : Nat) (iv jv : Value) (wr : World) : Prop :=
  ∃ i j : Nat, iv = .int .i64 i ∧ jv = .int .i64 j ∧ lo ≤ i ∧ i ≤ j ∧ j ≤ hi ∧ SP w0 blk off d wr ∧ (i = lo ∨ lp d[n - i]! d[i - 1]! = false) ∧ (j = hi ∨ lp d[n - 1 - j]! d[j]! = true)
theorem LoHi.cut {d : Array Pc} {a m b M lo hi s : Nat} (h : LoHi a m b M lo hi) (hM : (a + b) / 2 = M) (h1 : a < m) (h2 : m < b) (hl : lo ≤ s) (hh : s ≤ hi) (c1 : s = lo ∨ lp d[M + m - s]! d[s - 1]! = false) (c2 : s = hi ∨ lp d[M + m - 1 - s]! d[s]! = true) : Cut lp d a m b s := by
  unfold Cut
  rw [hM]
  have e : M + m - 1 - s = M + m - s - 1 := by omega
  rw [e] at c2
  unfold LoHi at h
  refine ⟨by omega, by omega, by omega, by omega, by omega, ?_, ?_⟩
  · rcases c2 with c | c
    · rcases h with h | h
      · exact .inl (by omega)
      · exact .inr (.inl (by omega))
    · exact .inr (.inr c)
  · rcases c1 with c | c
    · rcases h with h | h
      · exact .inl (by omega)
      · exact .inr (.inl (by omega))
    · exact .inr (.inr c)
theorem rot_none {d : Array Pc} {s m e : Nat} (hs : s ≤ m) (he : m ≤ e) (h : s = m ∨ m = e) : Rot d d s m e := by
  refine ⟨permIn_refl _ _ _, fun k hk => ?_, fun k hk => ?_⟩
  · rcases h with rfl | rfl
    · rfl
    · omega
  · rcases h with rfl | rfl
    · omega
    · rw [Nat.sub_self, Nat.add_zero]
def RotCut (w0 : World) (blk off N : Nat) (d : Array Pc) (s m e : Nat) (wx : World) : Prop := ∃ d1 : Array Pc, d1.size = N ∧ Rot d d1 s m e ∧ SP w0 blk off d1 wx
def PartCut (w0 : World) (blk off N : Nat) (d : Array Pc) (a s b : Nat) (wx : World) : Prop := ∃ d1 : Array Pc, d1.size = N ∧ Part lp d d1 a s b ∧ SP w0 blk off d1 wx

def BoolCut (w : World) (q : Bool) (s : Value) (wx : World) : Prop := s = .bool q ∧ w = wx
theorem BoolCut.yes {p : Prop} [Decidable p] {q : Bool} {w : World} (h : decide p = q) (hp : p) : BoolCut w q (.bool true) w := ⟨by rw [← h, decide_eq_true hp], rfl⟩
theorem BoolCut.no {p : Prop} [Decidable p] {q : Bool} {w : World} (h : decide p = q) (hp : ¬ p) : BoolCut w q (.bool false) w := ⟨by rw [← h, decide_eq_false hp], rfl⟩
def SymAt (w0 : World) (blk off N cap : Nat) (d : Array Pc) (a m b : Nat) (w : World) : Prop :=
  Calls Try.prog 34 #[.slice (some ⟨blk, off, none⟩) N cap, .int .i64 a, .int .i64 m, .int .i64 b, .func (.func 22) #[] #[]] w fun e w' => e = .returned (.tuple #[]) ∧ ∃ d', Mg lp d d' a m b ∧ SP w0 blk off d' w'

set_option maxRecDepth 100000 in
set_option maxHeartbeats 8000000 in
theorem sym_gen {w0 : World} {blk off N : Nat} {d0 d : Array Pc} (R : RP w0 blk off d0) (hd0 : d0.size = N) (hd : d.size = N) (w : World) (h : SP w0 blk off d w) (a m b cap : Nat) (h1 : a + 1 < m) (h2 : m + 1 < b) (h3 : b ≤ N) (hsz : N < 4611686018427387904)
    (ih : ∀ (d : Array Pc) (a' m' b' : Nat) (w : World), b' - a' < b - a → a' < m' → m' < b' → b' ≤ N → d.size = N → SP w0 blk off d w → SymAt w0 blk off N cap d a' m' b' w) :
    SymAt w0 blk off N cap d a m b w := by
  have mixed := insA.mixed
  have HR := Lib.hid R
  have H := Lib.hid h
  have HD := Lib.hid hd
  have HD0 := Lib.hid hd0
  have IH := Lib.hid ih
  obtain ⟨M, hM⟩ : ∃ M, (a + b) / 2 = M := ⟨_, rfl⟩
  have hM1 : a < M := by omega
  have hM2 : M < b := by omega
  have y0 : ((a : Int) + (b : Int)) / 2 = (M : Int) := by omega
  have y3 : ((m : Int) - (a : Int) == 1) = false := by simp; omega
  have y4 : ((b : Int) - (m : Int) == 1) = false := by simp; omega
  have HM := Lib.hid hM
  clear R h hd hd0 ih hM
  unfold SymAt
  go_enter Try.func34, Try.ntmps34
  go_upto_if 140 with (fail)
  go_cut [20, 21] (fun s r wx => LoCut w a m b M s r wx)
  case first =>
    as_aux_lemma =>
      by_cases c : M < m
      · have c' : (M : Int) < (m : Int) := by omega
        have x1 : IntKind.i64.wrap ((M : Int) + (m : Int) - (b : Int)) = (M : Int) + (m : Int) - (b : Int) := by rw [IntKind.wrap_i64]; have := HM.out; omega
        go_wp2_with fail
        go_meet
        exact ⟨M + m - b, M, by rw [show ((M + m - b : Nat) : Int) = (M : Int) + (m : Int) - (b : Int) by have := HM.out; omega], rfl, .inr ⟨c, by have := HM.out; omega, rfl⟩, rfl⟩
      · have c' : ¬ (M : Int) < (m : Int) := by omega
        go_wp2_with fail
        go_meet
        exact ⟨a, m, rfl, rfl, .inl ⟨rfl, by omega, rfl⟩, rfl⟩
  case rest =>
    obtain ⟨lo, hi, rfl, rfl, hlh, rfl⟩ := hcut
    have hlo : lo ≤ hi := by have := HM.out; unfold LoHi at hlh; omega
    have hhi : hi ≤ m ∧ hi ≤ M := by have := HM.out; unfold LoHi at hlh; omega
    have hnb : M + m ≤ lo + b := by have := HM.out; unfold LoHi at hlh; omega
    have hlh' := Lib.hid hlh
    clear hlh y0 y3 y4
    have x1 : IntKind.i64.wrap ((M : Int) + (m : Int) - 1) = (M : Int) + (m : Int) - 1 := by rw [IntKind.wrap_i64]; omega
    go_wp2_with fail
    go_loopw [20, 21] (fun iv jv wr => BsG w0 blk off d (M + m) lo hi iv jv wr) (fun iv jv _ => (intOf jv).toNat - (intOf iv).toNat)
    case atStart => exact ⟨lo, hi, rfl, rfl, Nat.le_refl _, hlo, Nat.le_refl _, H.out, .inl rfl, .inl rfl⟩
    case round =>
      clear x1
      obtain ⟨i, j, rfl, rfl, hi', hij, hj, hS, hL, hR⟩ := hrel
      by_cases c : i < j
      · have q1 : (i : Int) < (j : Int) := by omega
        obtain ⟨hh, ehh⟩ : ∃ hh, hh = (i + j) / 2 := ⟨_, rfl⟩
        have e0 : (0 : Int) ≤ ((i : Int) + (j : Int)) / 2 := by omega
        have e1 : ((i : Int) + (j : Int)) / 2 < (N : Int) := by omega
        have e2 : (((i : Int) + (j : Int)) / 2).toNat = hh := by omega
        have e4 : (((i : Int) + (j : Int)) / 2) = (hh : Int) := by omega
        have f0 : IntKind.i64.wrap ((M : Int) + (m : Int) - 1 - ((i : Int) + (j : Int)) / 2) = (M : Int) + (m : Int) - 1 - ((i : Int) + (j : Int)) / 2 := by rw [IntKind.wrap_i64]; omega
        have f1 : (0 : Int) ≤ (M : Int) + (m : Int) - 1 - ((i : Int) + (j : Int)) / 2 := by omega
        have g1 : ((i : Int) + (j : Int)) / 2 ≤ (M : Int) + (m : Int) - 1 := by omega
        have g2 : ((i : Int) + (j : Int)) / 2 < (M : Int) + (m : Int) := by omega
        have f2 : (M : Int) + (m : Int) - 1 - ((i : Int) + (j : Int)) / 2 < (N : Int) := by omega
        have f3 : ((M : Int) + (m : Int) - 1 - ((i : Int) + (j : Int)) / 2).toNat = M + m - 1 - hh := by omega
        obtain ⟨qq, eqq⟩ : ∃ qq, M + m - 1 - hh = qq := ⟨_, rfl⟩
        have hqN : qq < N := by omega
        rw [eqq] at f3
        obtain ⟨y, hy⟩ : ∃ x, d[hh]! = x := ⟨_, rfl⟩
        obtain ⟨x, hx⟩ : ∃ y, d[qq]! = y := ⟨_, rfl⟩
        have ly := fun n os => SP.grown_cells hS HR.out (HD.out.trans HD0.out.symm) (i := hh) (by rw [HD.out]; omega) hy n os
        have lx := fun n os => SP.grown_cells hS HR.out (HD.out.trans HD0.out.symm) (i := qq) (by rw [HD.out]; omega) hx n os
        have x0 := fun n os => (lx n os).1
        have x1 := fun n os => (lx n os).2.1
        have x2 := fun n os => (lx n os).2.2.1
        have x3 := fun n os => (lx n os).2.2.2.1
        have x4 := fun n os => (lx n os).2.2.2.2
        have y0 := fun n os => (ly n os).1
        have y1 := fun n os => (ly n os).2.1
        have y2 := fun n os => (ly n os).2.2.1
        have y3 := fun n os => (ly n os).2.2.2.1
        have y4 := fun n os => (ly n os).2.2.2.2
        have KC := Lib.hid (fun n os => cmp_grown x y wr n os)
        have HS := Lib.hid hS
        have HX := Lib.hid hx
        have HY := Lib.hid hy
        have HL := Lib.hid hL
        have HRR := Lib.hid hR
        have HHH := Lib.hid ehh
        have HE4 := Lib.hid e4
        have HQ := Lib.hid eqq
        clear lx ly hS hx hy hL hR ehh e4 eqq
        by_cases hc : cf x y < 0
        · as_aux_lemma =>
            go_upto_region 35 with fail
            go_quiet_grown (first | (go_at_call 22; refine Calls.grown_of (KC.out _ _)))
            clear x0 x1 x2 x3 x4 y0 y1 y2 y3 y4 f0 f1 f2 f3
            have hG := SWK.grown HS.out nq osq
            generalize grow (wr.drewN nq) osq = wg at hG ⊢
            have HG := Lib.hid hG
            clear hG
            go_wp2_with fail
            go_roundw
            case rel => exact ⟨i, hh, rfl, by rw [HE4.out], hi', by have := HHH.out; omega, by have := HHH.out; omega, HG.out, HL.out, .inr (by rw [HQ.out, HX.out, HY.out]; exact decide_eq_true hc)⟩
            case measure => have := HE4.out; simp [intOf]; omega
        · as_aux_lemma =>
            go_upto_region 35 with fail
            go_quiet_grown (first | (go_at_call 22; refine Calls.grown_of (KC.out _ _)))
            clear x0 x1 x2 x3 x4 y0 y1 y2 y3 y4 f0 f1 f2 f3
            have hG := SWK.grown HS.out nq osq
            generalize grow (wr.drewN nq) osq = wg at hG ⊢
            have HG := Lib.hid hG
            clear hG
            have z1 : IntKind.i64.wrap (((i : Int) + (j : Int)) / 2 + 1) = ((i : Int) + (j : Int)) / 2 + 1 := by rw [IntKind.wrap_i64]; omega
            go_wp2_with fail
            go_roundw
            case rel => exact ⟨hh + 1, j, by rw [HE4.out]; go_num, rfl, by have := HHH.out; omega, by have := HHH.out; omega, hj, HG.out, .inr (by rw [Nat.add_sub_cancel, show M + m - (hh + 1) = M + m - 1 - hh by omega, HQ.out, HX.out, HY.out]; exact decide_eq_false hc), HRR.out⟩
            case measure => have := HE4.out; simp [intOf]; omega
      · obtain rfl : i = j := by omega
        have hcut : Cut lp d a m b i := hlh'.out.cut HM.out (by omega) (by omega) hi' hj hL hR
        have HS := Lib.hid hS
        have HCUT := Lib.hid hcut
        clear hS hL hR hcut
        obtain ⟨ee, hee⟩ : ∃ ee, M + m - i = ee := ⟨_, rfl⟩
        have hem : m ≤ ee := by omega
        have heb : ee ≤ b := by omega
        have heM : M ≤ ee := by omega
        have eE : (M : Int) + (m : Int) - (i : Int) = (ee : Int) := by omega
        have eW : IntKind.i64.wrap ((M : Int) + (m : Int) - (i : Int)) = (ee : Int) := by rw [IntKind.wrap_i64]; omega
        have HEE := Lib.hid hee
        clear hee
        obtain ⟨q1, hq1⟩ : ∃ q : Bool, decide (i < m ∧ m < ee) = q := ⟨_, rfl⟩
        obtain ⟨q2, hq2⟩ : ∃ q : Bool, decide (a < i ∧ i < M) = q := ⟨_, rfl⟩
        obtain ⟨q3, hq3⟩ : ∃ q : Bool, decide (M < ee ∧ ee < b) = q := ⟨_, rfl⟩
        have HQ1 := Lib.hid hq1
        have HQ2 := Lib.hid hq2
        have HQ3 := Lib.hid hq3
        clear hq1 hq2 hq3
        go_upto_region 39 with fail
        go_cut [185] (fun s wx => BoolCut wr q1 s wx)
        case first =>
          as_aux_lemma =>
            by_cases c1 : i < m
            · have c1' : (i : Int) < (m : Int) := by omega
              by_cases c2 : m < ee
              · have c2' : (m : Int) < (ee : Int) := by omega
                go_wp2_with fail
                go_meet
                exact BoolCut.yes HQ1.out ⟨c1, c2⟩
              · have c2' : ¬ (m : Int) < (ee : Int) := by omega
                go_wp2_with fail
                go_meet
                exact BoolCut.no HQ1.out (fun h => c2 h.2)
            · have c1' : ¬ (i : Int) < (m : Int) := by omega
              go_wp2_with fail
              go_meet
              exact BoolCut.no HQ1.out (fun h => c1 h.1)
        case rest =>
        obtain ⟨rfl, rfl⟩ := hcut
        go_upto_if 185 with (fail)
        go_cut [] (fun wx => RotCut w0 blk off N d i m ee wx)
        case first =>
          as_aux_lemma =>
            cases q1 with
            | true =>
              have hq := of_decide_eq_true HQ1.out
              have kr := Lib.hid (rotate_any HR.out HD0.out HD.out wr HS.out i m ee cap (.func (.func 22) #[] #[]) hq.1 hq.2 (by omega) hsz)
              clear hq
              go_wp2_with (first | (go_at_call 35; (with_reducible refine kr.out.mono ?_); rintro e w2 ⟨rfl, d1, hr, hS2⟩))
              go_meet
              exact ⟨d1, hr.1.1.trans HD.out, hr, hS2⟩
            | false =>
              have hq := Lib.hid (of_decide_eq_false HQ1.out)
              go_wp2_with fail
              go_meet
              exact ⟨d, HD.out, rot_none (by omega) hem (by have := hq.out; omega), HS.out⟩
        case rest =>
          obtain ⟨d1, hd1, hr, hS1⟩ := hcut
          have HD1 := Lib.hid hd1
          have HRO := Lib.hid hr
          have HS1 := Lib.hid hS1
          clear hd1 hr hS1 HS eE eW
          go_upto_region 41 with fail
          go_cut [199] (fun s wx => BoolCut wc q2 s wx)
          case first =>
            as_aux_lemma =>
              by_cases c1 : a < i
              · have c1' : (a : Int) < (i : Int) := by omega
                by_cases c2 : i < M
                · have c2' : (i : Int) < (M : Int) := by omega
                  go_wp2_with fail
                  go_meet
                  exact BoolCut.yes HQ2.out ⟨c1, c2⟩
                · have c2' : ¬ (i : Int) < (M : Int) := by omega
                  go_wp2_with fail
                  go_meet
                  exact BoolCut.no HQ2.out (fun h => c2 h.2)
              · have c1' : ¬ (a : Int) < (i : Int) := by omega
                go_wp2_with fail
                go_meet
                exact BoolCut.no HQ2.out (fun h => c1 h.1)
          case rest =>
          obtain ⟨rfl, rfl⟩ := hcut
          go_upto_if 199 with (fail)
          go_cut [] (fun wx => PartCut w0 blk off N d1 a i M wx)
          case first =>
            as_aux_lemma =>
              cases q2 with
              | true =>
                have hq := of_decide_eq_true HQ2.out
                have kr := Lib.hid (IH.out d1 a i M wc (by omega) hq.1 hq.2 (by omega) HD1.out HS1.out)
                unfold SymAt at kr
                have hq' := Lib.hid hq
                clear hq
                go_wp2_with (first | (go_at_call 34; (with_reducible refine kr.out.mono ?_); rintro e w2 ⟨rfl, d2, hr, hS2⟩))
                go_meet
                exact ⟨d2, hr.1.1.trans HD1.out, .inl ⟨hq'.out.1, hq'.out.2, hr⟩, hS2⟩
              | false =>
                have hq := Lib.hid (of_decide_eq_false HQ2.out)
                go_wp2_with fail
                go_meet
                exact ⟨d1, HD1.out, .inr ⟨by have h1 := HCUT.out.1; have h2 := HCUT.out.2.2.1; rw [HM.out] at h2; have := hq.out; omega, rfl⟩, HS1.out⟩
          case rest =>
            obtain ⟨d2, hd2, hp2, hS2⟩ := hcut
            have HD2 := Lib.hid hd2
            have HP2 := Lib.hid hp2
            have HS2 := Lib.hid hS2
            clear hd2 hp2 hS2 HS1
            have hfin : ∀ d3, Part lp d2 d3 M ee b → Mg lp d d3 a m b := by
              intro d3 h3
              have h := HCUT.out
              have hro := HRO.out
              have hp := HP2.out
              rw [← HEE.out] at hro h3
              rw [← HM.out] at hro h3 hp
              exact mg_cut swo_lp (by rw [HD.out]; assumption) (by omega) (by omega) h hro hp h3
            have HF := Lib.hid hfin
            clear hfin
            go_upto_region 43 with fail
            go_cut [213] (fun s wx => BoolCut wc q3 s wx)
            case first =>
              as_aux_lemma =>
                by_cases c1 : M < ee
                · have c1' : (M : Int) < (ee : Int) := by omega
                  by_cases c2 : ee < b
                  · have c2' : (ee : Int) < (b : Int) := by omega
                    go_wp2_with fail
                    go_meet
                    exact BoolCut.yes HQ3.out ⟨c1, c2⟩
                  · have c2' : ¬ (ee : Int) < (b : Int) := by omega
                    go_wp2_with fail
                    go_meet
                    exact BoolCut.no HQ3.out (fun h => c2 h.2)
                · have c1' : ¬ (M : Int) < (ee : Int) := by omega
                  go_wp2_with fail
                  go_meet
                  exact BoolCut.no HQ3.out (fun h => c1 h.1)
            case rest =>
            obtain ⟨rfl, rfl⟩ := hcut
            cases q3 with
            | true =>
              have hq := of_decide_eq_true HQ3.out
              have kr := Lib.hid (IH.out d2 M ee b wc (by omega) hq.1 hq.2 (by omega) HD2.out HS2.out)
              unfold SymAt at kr
              have hq' := Lib.hid hq
              clear hq
              go_wp2_with (first | (go_at_call 34; (with_reducible refine kr.out.mono ?_); rintro e w2 ⟨rfl, d3, hr, hS3⟩))
              go_end0
              exact ⟨rfl, d3, HF.out d3 (.inl ⟨hq'.out.1, hq'.out.2, hr⟩), hS3⟩
            | false =>
              have hq := Lib.hid (of_decide_eq_false HQ3.out)
              go_wp2_with fail
              go_end0
              exact ⟨rfl, d2, HF.out d2 (.inr ⟨by have := hq.out; omega, rfl⟩), HS2.out⟩

theorem sym_any {w0 : World} {blk off N cap : Nat} {d0 : Array Pc} (R : RP w0 blk off d0) (hd0 : d0.size = N) (hsz : N < 4611686018427387904) : ∀ (n : Nat) (d : Array Pc) (a m b : Nat) (w : World), b - a ≤ n → a < m → m < b → b ≤ N → d.size = N → SP w0 blk off d w → SymAt w0 blk off N cap d a m b w := by
  intro n
  induction n with
  | zero => intro d a m b w h0 h1 h2; omega
  | succ n ih =>
    intro d a m b w h0 h1 h2 h3 hd h
    by_cases c1 : m = a + 1
    · subst c1
      have := sym_left R hd0 hd w h a b cap (by omega) h3 hsz
      unfold SymAt
      rw [show ((a + 1 : Nat) : Int) = (a : Int) + 1 by omega]
      exact this
    · by_cases c2 : b = m + 1
      · subst c2
        have := sym_right R hd0 hd w h a m cap (by omega) h3 hsz
        unfold SymAt
        rw [show ((m + 1 : Nat) : Int) = (m : Int) + 1 by omega]
        exact this
      · exact sym_gen R hd0 hd w h a m b cap (by omega) (by omega) h3 hsz (fun d a' m' b' w k1 k2 k3 k4 k5 k6 => ih d a' m' b' w (by omega) k2 k3 k4 k5 k6)
end Go.Proofs.Ytdlcjieaoalhoaa.Bs
