/- slices.rotateCmpFunc at parcels. -/
import Derived.Test.YtdlcjieaoalhoaaBusSwap
set_option linter.unusedVariables false
namespace Go.Proofs.Ytdlcjieaoalhoaa.Bs
open Go.RowKit Go.Sort Go.Proofs.Ytdlcjieaoalhoaa Crc Sm Sy

def RotRel (w0 : World) (blk off N : Nat) (d : Array Pc) (a m b : Nat) (iv jv : Value) (wr : World) : Prop :=
  ∃ (i j : Nat) (dj : Array Pc), iv = .int .i64 i ∧ jv = .int .i64 j ∧ 0 < i ∧ 0 < j ∧ i ≤ m ∧ m + j ≤ N ∧ dj.size = N ∧ SP w0 blk off dj wr ∧ ∀ d'', Rot dj d'' (m - i) m (m + j) → Rot d d'' a m b

set_option maxRecDepth 100000 in
set_option maxHeartbeats 2000000 in
theorem rotate_any {w0 : World} {blk off N : Nat} {d0 d : Array Pc} (R : RP w0 blk off d0) (hd0 : d0.size = N) (hd : d.size = N) (w : World) (h : SP w0 blk off d w) (a m b cap : Nat) (f : Value) (h1 : a < m) (h2 : m < b) (h3 : b ≤ N) (hsz : N < 4611686018427387904) :
    Calls Try.prog 35 #[.slice (some ⟨blk, off, none⟩) N cap, .int .i64 a, .int .i64 m, .int .i64 b, f] w fun e w' => e = .returned (.tuple #[]) ∧ ∃ d', Rot d d' a m b ∧ SP w0 blk off d' w' := by
  have HR := Lib.hid R
  have H := Lib.hid h
  have HD := Lib.hid hd
  have HD0 := Lib.hid hd0
  have y1 : IntKind.i64.wrap ((m : Int) - (a : Int)) = (m : Int) - (a : Int) := by rw [IntKind.wrap_i64]; omega
  have y2 : IntKind.i64.wrap ((b : Int) - (m : Int)) = (b : Int) - (m : Int) := by rw [IntKind.wrap_i64]; omega
  clear R h hd hd0
  go_enter Try.func35, Try.ntmps35
  go_wp2_with fail
  clear y1 y2
  go_loopw [10, 11] (fun iv jv wr => RotRel w0 blk off N d a m b iv jv wr) (fun iv jv _ => (intOf iv).toNat + (intOf jv).toNat)
  case atStart => exact ⟨m - a, b - m, d, by rw [show ((m - a : Nat) : Int) = (m : Int) - (a : Int) by omega], by rw [show ((b - m : Nat) : Int) = (b : Int) - (m : Int) by omega], by omega, by omega, by omega, by omega, HD.out, H.out, fun d'' hd => by rwa [show m - (m - a) = a by omega, show m + (b - m) = b by omega] at hd⟩
  case round =>
    obtain ⟨i, j, dj, rfl, rfl, hi, hj, him, hmj, hs, hS, hK⟩ := hrel
    have x1 : IntKind.i64.wrap ((m : Int) - (i : Int)) = (m : Int) - (i : Int) := by rw [IntKind.wrap_i64]; omega
    have e1 : ((m - i : Nat) : Int) = (m : Int) - (i : Int) := by omega
    rcases Nat.lt_trichotomy i j with c | c | c
    · have q1 : ((i : Int) != (j : Int)) = true := by simp; omega
      have q2 : decide ((j : Int) < (i : Int)) = false := by simp; omega
      have x2 : IntKind.i64.wrap ((m : Int) + (j : Int)) = (m : Int) + (j : Int) := by rw [IntKind.wrap_i64]; omega
      have x3 : IntKind.i64.wrap ((m : Int) + (j : Int) - (i : Int)) = (m : Int) + (j : Int) - (i : Int) := by rw [IntKind.wrap_i64]; omega
      have x4 : IntKind.i64.wrap ((j : Int) - (i : Int)) = (j : Int) - (i : Int) := by rw [IntKind.wrap_i64]; omega
      have ks := swapRange_any HR.out HD0.out hs wr hS (m - i) (m + j - i) i cap f (by omega) (by omega) hsz
      rw [e1, show ((m + j - i : Nat) : Int) = (m : Int) + (j : Int) - (i : Int) by omega] at ks
      have KS := Lib.hid ks
      have HK := Lib.hid hK
      have HS := Lib.hid hs
      clear ks hK hS hs e1
      go_wp2_with (first | (go_at_call 36; (with_reducible refine KS.out.mono ?_); rintro e w2 ⟨rfl, hS2⟩))
      go_roundw
      case rel => exact ⟨i, j - i, _, rfl, by rw [show ((j - i : Nat) : Int) = (j : Int) - (i : Int) by omega], hi, by omega, him, by omega, (size_sw _ _ _ _).trans HS.out, hS2, fun d'' hr => HK.out d'' (rot_right c him (by rw [HS.out]; omega) hi hr)⟩
      case measure => simp [intOf]; omega
    · subst c
      have q1 : ((i : Int) != (i : Int)) = false := by simp
      have ks := swapRange_any HR.out HD0.out hs wr hS (m - i) m i cap f (by omega) (by omega) hsz
      rw [e1] at ks
      have KS := Lib.hid ks
      have HK := Lib.hid hK
      have HS := Lib.hid hs
      clear ks hK hS hs e1
      go_wp2_with (first | (go_at_call 36; (with_reducible refine KS.out.mono ?_); rintro e w2 ⟨rfl, hS2⟩))
      go_end0
      exact ⟨rfl, _, HK.out _ (rot_end him (by rw [HS.out]; omega)), hS2⟩
    · have q1 : ((i : Int) != (j : Int)) = true := by simp; omega
      have q2 : decide ((j : Int) < (i : Int)) = true := by simp; omega
      have x4 : IntKind.i64.wrap ((i : Int) - (j : Int)) = (i : Int) - (j : Int) := by rw [IntKind.wrap_i64]; omega
      have ks := swapRange_any HR.out HD0.out hs wr hS (m - i) m j cap f (by omega) (by omega) hsz
      rw [e1] at ks
      have KS := Lib.hid ks
      have HK := Lib.hid hK
      have HS := Lib.hid hs
      clear ks hK hS hs e1
      go_wp2_with (first | (go_at_call 36; (with_reducible refine KS.out.mono ?_); rintro e w2 ⟨rfl, hS2⟩))
      go_roundw
      case rel => exact ⟨i - j, j, _, by rw [show ((i - j : Nat) : Int) = (i : Int) - (j : Int) by omega], rfl, by omega, hj, by omega, hmj, (size_sw _ _ _ _).trans HS.out, hS2, fun d'' hr => HK.out d'' (rot_left c him (by rw [HS.out]; omega) hj hr)⟩
      case measure => simp [intOf]; omega
end Go.Proofs.Ytdlcjieaoalhoaa.Bs
