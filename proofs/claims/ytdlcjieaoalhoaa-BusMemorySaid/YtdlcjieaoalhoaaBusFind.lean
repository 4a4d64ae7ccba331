/- bus.find: the first parcel of a number. -/
import Derived.Test.YtdlcjieaoalhoaaBusStep
set_option linter.unusedVariables false
namespace Go.Proofs.Ytdlcjieaoalhoaa.Bs
open Go.RowKit Go.Proofs.Ytdlcjieaoalhoaa Crc Sm

set_option maxRecDepth 100000 in
theorem findc_any (p : Pc) (g : Nat) (s : Int) (w : World) (hg : g < w.heap.size) (hc : w.cell? ⟨g, 0, none⟩ = some (.int .i64 s)) :
    Calls Try.prog 32 #[.agg #[.int .i64 p.fr, .int .i64 p.to, .int .i64 p.du, .int .i64 p.se, .slice p.A p.n p.c], .pointer (some ⟨g, 0, none⟩)] w fun e w' => e = .returned (.bool (decide (p.se = s))) ∧ Below w.heap.size w w' := by
  have c1 : (w.alloc (.cells #[.int .i64 p.fr, .int .i64 p.to, .int .i64 p.du, .int .i64 p.se, .slice p.A p.n p.c] 35)).cell? ⟨g, 0, none⟩ = some (.int .i64 s) := (((Below.refl w.heap.size w).alloc (Nat.le_refl _) _).cell (p := ⟨g, 0, none⟩) hg).trans hc
  go_enter Try.func32, Try.ntmps32
  go_wp2_with fail
  go_ret
  exact ⟨rfl, (Below.refl _ _).alloc (Nat.le_refl _) _⟩

/-- what find answers -/
def Found (L : List Pc) (s k : Int) : Prop := (k = -1 ∧ ∀ p ∈ L, p.se ≠ s) ∨ ∃ (i : Nat) (p : Pc), k = i ∧ L[i]? = some p ∧ p.se = s ∧ ∀ (j : Nat) (q : Pc), j < i → L[j]? = some q → q.se ≠ s
def IdxRel (w : World) (L : List Pc) (s : Int) (i : Value) (wr : World) : Prop := ∃ k : Nat, k ≤ L.length ∧ i = .int .i64 k ∧ (∀ (j : Nat) (q : Pc), j < k → L[j]? = some q → q.se ≠ s) ∧ Below w.heap.size w wr

set_option maxRecDepth 100000 in
set_option maxHeartbeats 4000000 in
theorem index_any (A : Option Addr) (n c : Nat) (L : List Pc) (g : Nat) (s : Int) (w : World) (h : QR w A n c L) (hn : n ≤ 100000) (hg : g < w.heap.size) (hc : w.cell? ⟨g, 0, none⟩ = some (.int .i64 s)) :
    Calls Try.prog 31 #[.slice A n c, .func (.func 32) #[] #[.pointer (some ⟨g, 0, none⟩)]] w fun e w' => (∃ k : Int, e = .returned (.int .i64 k) ∧ Found L s k) ∧ Below w.heap.size w w' := by
  have H := Lib.hid h
  have HC := Lib.hid hc
  have hl := h.1
  clear h hc
  go_enter Try.func31, Try.ntmps31
  go_wp2_with fail
  go_loopw [8] (fun i wr => IdxRel w L s i wr) (fun i _ => n - (intOf i).toNat)
  case atStart => exact ⟨0, Nat.zero_le _, rfl, (fun j q hj => by omega), Below.refl _ _⟩
  case round =>
    obtain ⟨k, hk, rfl, hne, hB⟩ := hrel
    by_cases hkn : k < n
    · obtain ⟨b, off, p, rfl, hlt, hp, hpm, hR, c0, c1, c2, c3, c4⟩ := (H.out.next hB).row hkn
      have HK := Lib.hid (findc_any p g s wr (Nat.lt_of_lt_of_le hg hB.size) ((hB.cell (p := ⟨g, 0, none⟩) hg).trans HC.out))
      have HB := Lib.hid hB
      have HNE := Lib.hid hne
      have hsz := hB.size
      clear hR hB hne
      by_cases hs : p.se = s
      · have q1 : decide (p.se = s) = true := by simpa using hs
        rw [q1] at HK
        have HSE := Lib.hid hs
        clear hs q1
        go_wp2_with (first | ((with_reducible refine HK.out.mono ?_); rintro e w2 ⟨rfl, hB2⟩))
        go_ret
        exact ⟨⟨k, rfl, .inr ⟨k, p, rfl, hp, HSE.out, HNE.out⟩⟩, HB.out.trans (hB2.mono hsz)⟩
      · have q1 : decide (p.se = s) = false := by simpa using hs
        rw [q1] at HK
        go_wp2_with (first | ((with_reducible refine HK.out.mono ?_); rintro e w2 ⟨rfl, hB2⟩))
        go_roundw
        case rel => 
          refine ⟨k + 1, by omega, by go_num, fun j q hj hq => ?_, HB.out.trans (hB2.mono hsz)⟩
          by_cases hjk : j = k
          · subst hjk; rw [hp] at hq; cases hq; exact hs
          · exact HNE.out j q (by omega) hq
        case measure => simp [intOf]; omega
    · obtain rfl : k = n := by omega
      go_wp2_with fail
      go_ret
      refine ⟨⟨-1, rfl, .inl ⟨rfl, fun p hp => ?_⟩⟩, hB⟩
      obtain ⟨j, hj⟩ := List.mem_iff_getElem?.1 hp
      have : j < L.length := (List.getElem?_eq_some_iff.1 hj).1
      exact hne j p (by omega) hj

set_option maxRecDepth 100000 in
theorem find_any (now ser s : Int) (A : Option Addr) (n c : Nat) (L : List Pc) (w : World) (h : QR w A n c L) (hn : n ≤ 100000) :
    Calls Try.prog 25 #[.agg #[.int .i64 now, .int .i64 ser, .slice A n c], .int .i64 s] w fun e w' => (∃ k : Int, e = .returned (.int .i64 k) ∧ Found L s k) ∧ Below w.heap.size w w' := by
  have hB : Below w.heap.size w ((w.alloc (.cells #[.int .i64 now, .int .i64 ser, .slice A n c] 25)).alloc (.cells #[.int .i64 s] 3)) := ((Below.refl _ _).alloc (Nat.le_refl _) _).alloc (by simp) _
  have HK := Lib.hid (index_any A n c L (w.heap.size + 1) s ((w.alloc (.cells #[.int .i64 now, .int .i64 ser, .slice A n c] 25)).alloc (.cells #[.int .i64 s] 3)) (h.next hB) hn (by simp) (by simp))
  have HB := Lib.hid hB
  clear hB h
  go_enter Try.func25, Try.ntmps25
  go_wp2_with (first | (go_at_call 31; (with_reducible refine HK.out.mono ?_); rintro e w2 ⟨⟨k, rfl, hF⟩, hB2⟩))
  go_ret
  exact ⟨⟨k, rfl, hF⟩, HB.out.trans (hB2.mono (by simp; omega))⟩
end Go.Proofs.Ytdlcjieaoalhoaa.Bs
