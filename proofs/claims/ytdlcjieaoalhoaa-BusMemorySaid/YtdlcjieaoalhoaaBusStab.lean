/- slices.stableCmpFunc and slices.SortStableFunc at parcels: sorted, nothing lost. -/
import Derived.Test.YtdlcjieaoalhoaaBusSym3
import Derived.Test.YtdlcjieaoalhoaaBusSort1
set_option linter.unusedVariables false
namespace Go.Proofs.Ytdlcjieaoalhoaa.Bs
open Go.RowKit Go.Sort Go.Shelf Go.Proofs.Ytdlcjieaoalhoaa Crc Sm Sy

theorem step1_enters : ∀ args (w : World), (callFunc 22 args).run Try.prog w = .ok (.enter 22 args) w :=
  enters_of Try.func22 (by kernel_rfl) rfl
theorem ins_any {w0 : World} {blk off N : Nat} {d0 d : Array Pc} (R : RP w0 blk off d0) (hd0 : d0.size = N) (hd : d.size = N) (w : World) (S : SP w0 blk off d w) (a b cap : Nat) (h1 : a ≤ b) (h2 : b ≤ N) (hsz : N < 4611686018427387904) :
    Calls Try.prog 33 #[.slice (some ⟨blk, off, none⟩) N cap, .int .i64 a, .int .i64 b, .func (.func 22) #[] #[]] w fun e w' =>
      e = .returned (.tuple #[]) ∧ ∃ d', PermIn a b d d' ∧ SortedIn lp a b d' ∧ SP w0 blk off d' w' := by
  have hi := insertionSort_holds swo_lp d a b h1 (by omega)
  have hC : CmpLays Try.prog 22 #[] Pc.cells 5 cf blk off d.size w := fun m os dk hdk x y => by
    have := cmp_any x y (sortWorldK Pc.cells 5 w blk off m dk os)
    exact this.mono fun e w' h => ⟨h.1, h.2⟩
  have := AnyQ.insertionSortCmpFunc insA 5 Try.isAgg35 Try.sizeOf35 Pc.cells R.hk R.h1 cf 22 #[] blk off cap a b d w step1_enters hC (S.holds R.hblk R.hH (hd.trans hd0.symm)) (S.lt R.hblk) h1 (by omega) (by omega)
  rw [hd] at this
  refine this.mono ?_
  rintro e w' ⟨rfl, n, os, rfl⟩
  exact ⟨rfl, _, hi.1, hi.2, S.on R.hblk n _ os hi.1.1⟩

def St1 (w0 : World) (blk off N : Nat) (d : Array Pc) (av bv : Value) (wr : World) : Prop :=
  ∃ (k a : Nat) (dk : Array Pc), a = k * 20 ∧ av = .int .i64 a ∧ bv = .int .i64 ((a : Int) + 20) ∧ a ≤ N ∧ dk.size = N ∧ PermIn 0 N d dk ∧ Runs lp 20 0 a dk ∧ SP w0 blk off dk wr
def St2 (w0 : World) (blk off N : Nat) (d : Array Pc) (sv : Value) (wr : World) : Prop :=
  ∃ (s : Nat) (dk : Array Pc), sv = .int .i64 s ∧ 20 ≤ s ∧ s < 2000 ∧ dk.size = N ∧ PermIn 0 N d dk ∧ Runs lp s 0 N dk ∧ SP w0 blk off dk wr
def St3 (w0 : World) (blk off N : Nat) (d : Array Pc) (s : Nat) (av bv : Value) (wr : World) : Prop :=
  ∃ (k a : Nat) (dk : Array Pc), a = k * (2 * s) ∧ av = .int .i64 a ∧ bv = .int .i64 ((a : Int) + 2 * (s : Int)) ∧ a ≤ N ∧ dk.size = N ∧ PermIn 0 N d dk ∧ Runs lp (2 * s) 0 a dk ∧ Runs lp s a N dk ∧ SP w0 blk off dk wr

theorem st1_more {N a k : Nat} {d dk d' : Array Pc} (ha : a = k * 20) (hP : PermIn 0 N d dk) (hR : Runs lp 20 0 a dk) (b : Nat) (hb : b ≤ N) (hbk : b = a + 20 ∨ b ≤ a + 20 ∧ b = N) (hab : a ≤ b) (hN : N ≤ dk.size) (hp : PermIn a b dk d') (hs : SortedIn lp a b d') : PermIn 0 N d d' ∧ Runs lp 20 0 b d' := by
  subst ha
  exact ⟨permIn_trans _ _ _ _ _ hP (permIn_mono _ _ _ _ _ _ (Nat.zero_le _) hb hN hp), hR.more (t := N) hp hs (by omega)⟩
theorem st3_more {N a k s : Nat} {d dk d' : Array Pc} (ha : a = k * (2 * s)) (hs0 : 0 < s) (hP : PermIn 0 N d dk) (hR : Runs lp (2 * s) 0 a dk) (hR2 : Runs lp s a N dk) (b : Nat) (hb : b ≤ N) (hbk : b = a + 2 * s ∨ b ≤ a + 2 * s ∧ b = N) (hab : a + s < b) (hN : N ≤ dk.size) (hm : Mg lp dk d' a (a + s) b) : PermIn 0 N d d' ∧ Runs lp (2 * s) 0 b d' ∧ Runs lp s b N d' := by
  have e1 : 2 * k * s = a := by rw [ha, Nat.mul_comm 2 k, Nat.mul_assoc]
  have e2 : (2 * k + 1) * s = a + s := by rw [Nat.add_mul, e1, Nat.one_mul]
  have s1 : SortedIn lp a (a + s) dk := hR2.at_ (k := 2 * k) (by omega) (by omega) (by omega) (by omega)
  have s2 : SortedIn lp (a + s) b dk := hR2.at_ (k := 2 * k + 1) (by omega) (by omega) (by rw [show 2 * k + 1 + 1 = (2 * k + 1) + 1 from rfl, Nat.add_mul, e2, Nat.one_mul]; omega) hb
  have s3 := hm.2 s1 s2
  refine ⟨permIn_trans _ _ _ _ _ hP (permIn_mono _ _ _ _ _ _ (Nat.zero_le _) hb hN hm.1), ?_, (hR2.mono (by omega)).keep hm.1 (Nat.le_refl _)⟩
  subst ha
  refine hR.more (t := N) hm.1 s3 ?_
  rw [Nat.add_mul, Nat.one_mul]
  exact hbk
theorem st3_last {N a k s : Nat} {dk : Array Pc} (ha : a = k * (2 * s)) (hR : Runs lp (2 * s) 0 a dk) (hR2 : Runs lp s a N dk) (haN : a ≤ N) (hN : N ≤ a + s) : Runs lp (2 * s) 0 N dk := by
  have e1 : 2 * k * s = a := by rw [ha, Nat.mul_comm 2 k, Nat.mul_assoc]
  have s1 : SortedIn lp a N dk := hR2.at_ (k := 2 * k) (by omega) (by omega) (by rw [Nat.add_mul, e1, Nat.one_mul]; omega) (Nat.le_refl _)
  subst ha
  exact hR.more (t := N) (permIn_refl _ _ _) s1 (by rw [Nat.add_mul, Nat.one_mul]; omega)

set_option maxRecDepth 100000 in
set_option maxHeartbeats 4000000 in
theorem stable_any {w0 : World} {blk off N : Nat} {d0 d : Array Pc} (R : RP w0 blk off d0) (hd0 : d0.size = N) (hd : d.size = N) (w : World) (h : SP w0 blk off d w) (cap : Nat) (hN : N ≤ 1000) :
    Calls Try.prog 29 #[.slice (some ⟨blk, off, none⟩) N cap, .int .i64 N, .func (.func 22) #[] #[]] w fun e w' => e = .returned (.tuple #[]) ∧ ∃ d', PermIn 0 N d d' ∧ SortedIn lp 0 N d' ∧ SP w0 blk off d' w' := by
  have HR := Lib.hid R
  have H := Lib.hid h
  have HD := Lib.hid hd
  have HD0 := Lib.hid hd0
  clear R h hd hd0
  go_enter Try.func29, Try.ntmps29
  go_wp2_with fail
  go_loopw [7, 8] (fun av bv wr => St1 w0 blk off N d av bv wr) (fun av _ _ => N - (intOf av).toNat)
  case atStart => exact ⟨0, 0, d, rfl, rfl, rfl, Nat.zero_le _, HD.out, permIn_refl _ _ _, fun k _ p q h1 h2 h3 h4 => absurd h4 (Nat.not_lt_zero _), H.out⟩
  case round =>
    obtain ⟨k, a, dk, ha, rfl, rfl, haN, hdk, hP, hR, hS⟩ := hrel
    have HA := Lib.hid ha
    have HDK := Lib.hid hdk
    have HP := Lib.hid hP
    have HRR := Lib.hid hR
    have HS := Lib.hid hS
    clear ha hdk hP hR hS
    by_cases c : a + 20 ≤ N
    · have c' : (a : Int) + 20 ≤ (N : Int) := by omega
      have ks := ins_any HR.out HD0.out HDK.out wr HS.out a (a + 20) cap (by omega) c (by omega)
      rw [show ((a + 20 : Nat) : Int) = (a : Int) + 20 by omega] at ks
      have KS := Lib.hid ks
      clear ks
      go_wp2_with (first | (go_at_call 33; (with_reducible refine KS.out.mono ?_); rintro e w2 ⟨rfl, d', hp', hs', hS'⟩))
      go_roundw
      case rel =>
        have hm := st1_more HA.out HP.out HRR.out (a + 20) c (.inl rfl) (by omega) (by have := HDK.out; omega) hp' hs'
        exact ⟨k + 1, a + 20, d', by have := HA.out; omega, by rw [show ((a + 20 : Nat) : Int) = (a : Int) + 20 by omega], by rw [show ((a + 20 : Nat) : Int) = (a : Int) + 20 by omega], c, hp'.1.trans HDK.out, hm.1, hm.2, hS'⟩
      case measure => simp [intOf]; omega
    · have c' : ¬ (a : Int) + 20 ≤ (N : Int) := by omega
      have ks := ins_any HR.out HD0.out HDK.out wr HS.out a N cap (by omega) (Nat.le_refl _) (by omega)
      have KS := Lib.hid ks
      clear ks
      go_wp2_with (first | (go_at_call 33; (with_reducible refine KS.out.mono ?_); rintro e w2 ⟨rfl, d', hp', hs', hS'⟩))
      have hm := st1_more HA.out HP.out HRR.out N (Nat.le_refl _) (.inr ⟨by omega, rfl⟩) (by omega) (by have := HDK.out; omega) hp' hs'
      have HM := Lib.hid hm
      have HD' := Lib.hid (hp'.1.trans HDK.out)
      have HS' := Lib.hid hS'
      clear hm hp' hs' hS' HS HRR HP HA HDK KS
      go_loopw [6] (fun sv wr => St2 w0 blk off N d sv wr) (fun sv _ => N - (intOf sv).toNat)
      case atStart => exact ⟨20, d', rfl, Nat.le_refl _, by omega, HD'.out, HM.out.1, HM.out.2, HS'.out⟩
      case round =>
        obtain ⟨s, dk, rfl, hs1, hs2, hdk, hP, hR, hS⟩ := hrel
        have HDK := Lib.hid hdk
        have HP := Lib.hid hP
        have HRR := Lib.hid hR
        have HS := Lib.hid hS
        clear hdk hP hR hS HM HD' HS'
        by_cases c2 : s < N
        · have c2' : (s : Int) < (N : Int) := by omega
          have z1 : IntKind.i64.wrap (2 * (s : Int)) = 2 * (s : Int) := by rw [IntKind.wrap_i64]; omega
          obtain ⟨wo, rfl⟩ : ∃ wo : World, wo = wr := ⟨_, rfl⟩
          go_wp2_with fail
          go_loopw [7, 8] (fun av bv wr => St3 w0 blk off N d s av bv wr) (fun av _ _ => N - (intOf av).toNat)
          case atStart => exact ⟨0, 0, dk, by omega, rfl, by first | rfl | (congr 1; omega), Nat.zero_le _, HDK.out, HP.out, fun k _ p q h1 h2 h3 h4 => absurd h4 (Nat.not_lt_zero _), HRR.out, HS.out⟩
          case round =>
            obtain ⟨k, a, dk, ha, rfl, rfl, haN, hdk, hP, hR, hR2, hS⟩ := hrel
            clear HDK HP HRR HS
            have HA := Lib.hid ha
            have HDK := Lib.hid hdk
            have HP := Lib.hid hP
            have HRR := Lib.hid hR
            have HR2 := Lib.hid hR2
            have HS := Lib.hid hS
            clear ha hdk hP hR hR2 hS
            by_cases c3 : a + 2 * s ≤ N
            · have c3' : (a : Int) + 2 * (s : Int) ≤ (N : Int) := by omega
              have ks := sym_any HR.out HD0.out (by omega) (cap := cap) (2 * s) dk a (a + s) (a + 2 * s) wr (by omega) (by omega) (by omega) c3 HDK.out HS.out
              unfold SymAt at ks
              rw [show ((a + s : Nat) : Int) = (a : Int) + (s : Int) by omega, show ((a + 2 * s : Nat) : Int) = (a : Int) + 2 * (s : Int) by omega] at ks
              have KS := Lib.hid ks
              clear ks
              go_wp2_with (first | (go_at_call 34; (with_reducible refine KS.out.mono ?_); rintro e w2 ⟨rfl, d', hm', hS'⟩))
              go_roundw
              case rel =>
                have hm := st3_more HA.out (by omega) HP.out HRR.out HR2.out (a + 2 * s) c3 (.inl rfl) (by omega) (by have := HDK.out; omega) hm'
                exact ⟨k + 1, a + 2 * s, d', by rw [Nat.add_mul, ← HA.out, Nat.one_mul], by rw [show ((a + 2 * s : Nat) : Int) = (a : Int) + 2 * (s : Int) by omega], by rw [show ((a + 2 * s : Nat) : Int) = (a : Int) + 2 * (s : Int) by omega], c3, hm'.1.1.trans HDK.out, hm.1, hm.2.1, hm.2.2, hS'⟩
              case measure => simp [intOf]; omega
            · have c3' : ¬ (a : Int) + 2 * (s : Int) ≤ (N : Int) := by omega
              by_cases c4 : a + s < N
              · have c4' : (a : Int) + (s : Int) < (N : Int) := by omega
                have ks := sym_any HR.out HD0.out (by omega) (cap := cap) (2 * s) dk a (a + s) N wr (by omega) (by omega) (by omega) (Nat.le_refl _) HDK.out HS.out
                unfold SymAt at ks
                rw [show ((a + s : Nat) : Int) = (a : Int) + (s : Int) by omega] at ks
                have KS := Lib.hid ks
                clear ks
                go_wp2_with (first | (go_at_call 34; (with_reducible refine KS.out.mono ?_); rintro e w2 ⟨rfl, d', hm', hS'⟩))
                go_roundw
                case rel =>
                  have hm := st3_more HA.out (by omega) HP.out HRR.out HR2.out N (Nat.le_refl _) (.inr ⟨by omega, rfl⟩) (by omega) (by have := HDK.out; omega) hm'
                  exact ⟨2 * s, d', by first | go_num | (congr 1; omega), by omega, by omega, hm'.1.1.trans HDK.out, hm.1, hm.2.1, hS'⟩
                case measure => simp [intOf]; omega
              · have c4' : ¬ (a : Int) + (s : Int) < (N : Int) := by omega
                go_wp2_with fail
                go_roundw
                case rel => exact ⟨2 * s, dk, by first | go_num | (congr 1; omega), by omega, by omega, HDK.out, HP.out, st3_last HA.out HRR.out HR2.out haN (by omega), HS.out⟩
                case measure => simp [intOf]; omega
        · have c2' : ¬ (s : Int) < (N : Int) := by omega
          go_wp2_with fail
          go_end0
          exact ⟨rfl, dk, HP.out, HRR.out.all (by omega), HS.out⟩
end Go.Proofs.Ytdlcjieaoalhoaa.Bs
