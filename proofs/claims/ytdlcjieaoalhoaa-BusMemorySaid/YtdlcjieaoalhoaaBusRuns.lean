/- fourwatchkeep.runs. -/
import Derived.Test.YtdlcjieaoalhoaaBusSend
import Derived.Test.YtdlcjieaoalhoaaBusSort1
set_option linter.unusedVariables false
namespace Go.Proofs.Ytdlcjieaoalhoaa.Bs
open Go.RowKit Go.Proofs.Ytdlcjieaoalhoaa Crc Sm

/-- a step of a bus on which one parcel is due -/
theorem step_one (now ser t : Int) (A : Option Addr) (c : Nat) (L : List Pc) (w : World) (h : QR w A 1 c L) (ht : now ≤ t) (ht2 : t ≤ 1099511627776) (p : Pc) (hp : L = [p]) (hd : p.du ≤ t) :
    Calls Try.prog 10 #[.agg #[.int .i64 now, .int .i64 ser, .slice A 1 c], .int .i64 t] w fun e w' =>
      ∃ (A2 : Option Addr) (c2 : Nat) (A3 : Option Addr) (c3 : Nat) (q : Pc), e = .returned (.tuple #[.agg #[.int .i64 t, .int .i64 ser, .slice A2 0 c2], .slice A3 1 c3, .int .i64 0]) ∧ q.key = p.key ∧
        QO w' w.heap.size (.slice A3 1 c3) [q] ∧ QO w' w.heap.size (.slice A2 0 c2) [] ∧ Below w.heap.size w w' := by
  refine (Step_any (fun M M' => M' = M) now ser t A 1 c L w h (by decide) ht ht2 (fun M hM => sorts1 M hM)).mono ?_
  rintro e w' ⟨A2, n2, c2, A3, n3, c3, L', M, rfl, hk, hq2, hn2, hq3, hn3, hpm, hR, hB⟩
  have hl : L'.length = 1 := by have := congrArg List.length hk; rw [hp] at this; simpa using this
  match L', hl with
  | [q], _ =>
    rw [hp] at hk
    have hqk : q.key = p.key := by simpa using hk
    have hqd : q.du = p.du := congrArg (fun k => k.2.2.1) hqk
    have hdb : dueBy t q = true := by unfold dueBy; rw [hqd]; simpa using hd
    simp only [List.filter_cons, hdb, if_true, List.filter_nil, Bool.not_true, Bool.false_eq_true, if_false, List.length_nil] at hq2 hn2 hR
    subst hn2
    rw [hR] at hq3 hn3
    simp only [List.length_singleton] at hn3
    subst hn3
    exact ⟨A2, c2, A3, c3, q, rfl, hqk, hq3, hq2, hB⟩

theorem rd1 {w : World} {b n c : Nat} {A : Option Addr} {L : List Pc} (hl : L.length = n) (h : QO w b (.slice A n c) L) : QR w A n c L := by
  rw [← hl] at h ⊢
  exact h.reads
set_option maxRecDepth 100000 in
set_option maxHeartbeats 4000000 in
theorem runs_any (w : World) : Calls Try.prog 8 #[] w fun e w' => e = .returned (.bool true) ∧ Below w.heap.size w w' := by
  have hi : Ints (w.alloc (.cells #[.int .u8 97] 5 (1, 2))) .u8 (some ⟨w.heap.size, 0, none⟩) 1 [97] := ⟨rfl, fun _ => ⟨w.heap.size, 0, rfl, by simp, fun j hj => by
    obtain rfl : j = 0 := by omega
    rw [Nat.zero_add, World.cell?_alloc_mark]; rfl⟩⟩
  have KS := Lib.hid (Send_any 0 0 0 1 3 none 0 0 [] (some ⟨w.heap.size, 0, none⟩) 1 1 [97] (w.alloc (.cells #[.int .u8 97] 5 (1, 2))) (QR.nil _) hi (fun e => by cases e) (by intro z hz; simp at hz; subst hz; decide) (by decide) (by decide) (by decide) (by decide) (by decide) (by decide) (by decide) (by decide))
  have kc := fun (w : World) (C : Array Value) (n c : Nat) => Lib.run_convert_bytes_const (P := Try.prog) w 33 5 C n c Try.underlying33 Try.underlying5
  clear hi
  go_enter Try.func8, Try.ntmps8
  go_wp2_with (first
    | (go_at_call 15; (with_reducible refine KS.out.mono ?_); rintro e w1 ⟨A1, c1, L1, rfl, hq1, hk1, hB1⟩; go_loud (have HQ1 := Lib.hid hq1; have HK1 := Lib.hid hk1; have HB1 := Lib.hid hB1; clear hq1 hk1 hB1))
    | (go_at_call 10; go_loud (have hl : L1.length = 1 := (by have := congrArg List.length HK1.out; simpa using this); obtain ⟨p, hp⟩ := List.length_eq_one_iff.1 hl; have hpk : p.key = (0, 1, 3, 0, [97]) := (by have := HK1.out; rw [hp] at this; simpa using this); have hpd : p.du = 3 := congrArg (fun k => k.2.2.1) hpk; (have hq := HQ1.out.alloc (.cells #[.int .i64 0, .int .i64 1, .slice A1 1 c1] 25)); have hqr := (rd1 hl hq)); (with_reducible refine (step_one 0 1 3 A1 c1 L1 _ hqr (by decide) (by decide) p hp (by rw [hpd]; decide)).mono ?_); rintro e w3 ⟨A2, c2, A3, c3, q, rfl, hqk, hq3, hq2, hB3⟩; have HB3 := Lib.hid hB3; clear hq3 hq2 hB3))
  go_ret
  have hb0 : Below w.heap.size w (w.alloc (.cells #[.int .u8 97] 5 (1, 2))) := (Below.refl _ _).alloc (Nat.le_refl _) _
  have hb1 := hb0.trans (HB1.out.mono (by simp))
  have hb2 := hb1.alloc hb1.size (.cells #[.int .i64 0, .int .i64 1, .slice A1 1 c1] 25)
  have hb3 := hb2.trans (HB3.out.mono hb2.size)
  exact ⟨rfl, hb3.alloc hb3.size _⟩
end Go.Proofs.Ytdlcjieaoalhoaa.Bs
