/- Merged: MidSort Middle. -/
import Derived.Deep.QuietTactic
import Derived.IntWalk
import Derived.Lib.SlKeysI
import Derived.Sort.OwnSorted
import Derived.Test.YtofeoeknmlkjgaaZ09
import Derived.Test.YtofeoeknmlkjgaaZ10
import Derived.Test.YtofeoeknmlkjgaaZ12
set_option linter.unusedVariables false
set_option linter.unusedSimpArgs false
section
/- slices.Sorted(slices.Values(s)): a new slice of the sorted list; what stands in the middle of two numbers. -/
set_option linter.unusedVariables false
namespace Go.Proofs.Ytofeoeknmlkjgaa.Md
open Go.RowKit Go.Proofs.Ytofeoeknmlkjgaa Go.Proofs Go.Shelf Go.Sort

set_option maxRecDepth 100000 in
set_option maxHeartbeats 2000000 in
theorem Sorted_any (Bs len cap : Nat) (A : Option Addr) (zs : List Int) (h0 : 0 < len) (hlen : len ≤ maxLen) (hbytes : len * 8 ≤ 140737488355328) (w : World) (hI : Ints w .i64 A len zs)
    (hBs : Bs < w.heap.size) (hc : w.cell? ⟨Bs, 0, none⟩ = some (.slice A len cap)) :
    Calls Try.prog 32 #[.func (.func 55) #[] #[.pointer (some ⟨Bs, 0, none⟩)]] w fun e w' => ∃ g c, e = .returned (.slice (some ⟨g, 0, none⟩) len c) ∧ w.heap.size ≤ g ∧ len ≤ c ∧ Ints w' .i64 (some ⟨g, 0, none⟩) len (srt zs) ∧ Below w.heap.size w w' := by
  refine (callsIn_wide (n := 6)).1 ?_
  have hzl := hI.1
  have k := collect_in Fence.wide 5 trivial trivial trivial rfl (by omega) Bs len cap A zs hlen hbytes w hI hBs hc
  have K := Lib.hid k
  have HL := Lib.hid hzl
  have h1 : 1 ≤ 6 := by omega
  have hfK : Fence.wide.fn 53 := trivial
  have hfS : Fence.wide.fn 54 := trivial
  clear k hI hc hzl
  refine callsIn_of_wp Try.func32 rfl trivial ?_ rfl
  simp only [Try.ntmps32, List.size_toArray, List.length_cons, List.length_nil, Nat.reduceAdd, Nat.reduceSub, Array.replicate_succ, Array.replicate_zero, List.push_toArray, List.append_toArray, List.nil_append, List.cons_append]
  gi_wp2_with (gi_at_call 53; refine K.out.mono ?_; rintro e W ⟨v, rfl, hrow, hnil, hb⟩)
  rcases hrow.2 with ⟨rfl, hz⟩ | ⟨gb, cap, cur, rfl, hbase, hgb, r1, r2, r3, r4⟩
  · have := HL.out; omega
  · have hH : Holds encZ W gb 0 zs.toArray := holds_of_block_i hgb (by simpa using r4)
    have hgl : gb < W.heap.size := (Array.getElem?_eq_some_iff.1 hgb).1
    have hsz : zs.length < 4611686018427387904 := by have := HL.out; omega
    have cS : CallsIn Fence.wide 5 Try.prog 54 _ _ _ := callsIn_wide.2 (AnyM.slices_Sort_int (ρ := sortA_ren) sortA gb 0 cap zs W hH hgl hsz)
    gi_wp2_with (gi_at_call 54; refine cS.mono ?_; rintro e w' ⟨rfl, nn, os, rfl⟩)
    go_ret
    have hlz : zs.length = len := HL.out
    have hown := ownsRow_sorted_i (n := nn) (os := os) (ts := srt zs) (srt_len zs) hbase hgb r1 r2 r3
    rw [hlz] at hown r1 ⊢
    exact ⟨gb, cap, rfl, hbase, r1, Ints.own hown, hb.grown (grownBy_sorted_i _) hb.size (fun j hj => by cases hj; exact hbase)⟩

theorem half_any (a b : Int) (ha : -9223372036854775808 ≤ a ∧ a ≤ 9223372036854775807) (hb : -9223372036854775808 ≤ b ∧ b ≤ 9223372036854775807) (w : World) :
    Calls Try.prog 34 #[.int .i64 a, .int .i64 b] w fun e w' => e = .returned (.int .i64 ((a + b) / 2)) ∧ w' = w := by
  obtain ⟨h1, h2, h3, h4, h5⟩ := half_i64 a b ha hb
  have h6 : -9223372036854775808 ≤ (a + b) / 2 ∧ (a + b) / 2 ≤ 9223372036854775807 := by omega
  have H := Lib.hid h1
  have H2 := Lib.hid h2
  have H6 := Lib.hid h6
  clear h1 h6
  go_enter Try.func34, Try.ntmps34
  go_wp2
  go_ret
  exact ⟨ret_i64 (by rw [H.out]; exact IntWalk.wrap64_in _ H6.out), rfl⟩
end Go.Proofs.Ytofeoeknmlkjgaa.Md
end
section
/- clock.Middle: the middle of a list. -/
set_option linter.unusedVariables false
namespace Go.Proofs.Ytofeoeknmlkjgaa.Md
open Go.RowKit Go.Proofs.Ytofeoeknmlkjgaa Go.Proofs Go.Shelf

theorem Values_any (a : Option Addr) (len cap : Nat) (w : World) :
    Calls Try.prog 33 #[.slice a len cap] w fun e w' => e = .returned (.func (.func 55) #[] #[.pointer (some ⟨w.heap.size, 0, none⟩)]) ∧ w' = w.alloc (.cells #[.slice a len cap] 58) :=
  (callsIn_wide (n := 6)).1 (values_in Fence.wide 6 trivial rfl a len cap w)

set_option maxRecDepth 100000 in
set_option maxHeartbeats 2000000 in
theorem Middle_ok (A : Option Addr) (len cap : Nat) (zs : List Int) (h0 : 0 < len) (h64 : len ≤ 64) (w : World) (hI : Ints w .i64 A len zs) (hz : ∀ z ∈ zs, -9223372036854775808 ≤ z ∧ z ≤ 9223372036854775807) :
    Calls Try.prog 15 #[.slice A len cap] w fun e w' => e = .returned (.tuple #[.int .i64 (midZ zs), .int .i64 0]) ∧ Below w.heap.size w w' := by
  have hzl := hI.1
  have ks := Sorted_any w.heap.size len cap A zs h0 (by unfold maxLen; omega) (by omega) (w.alloc (.cells #[.slice A len cap] 58)) (hI.alloc _) (by simp) ((Blk.new w 58 #[.slice A len cap]).cell 0)
  obtain ⟨q1, q2, q3, q4⟩ := third_lt h0
  have mem : ∀ i, i < len → -9223372036854775808 ≤ (srt zs).getD i 0 ∧ (srt zs).getD i 0 ≤ 9223372036854775807 := fun i hi => hz _ (srt_mem (by omega))
  have kh := fun W => half_any _ _ (mem _ q1) (mem _ q2) W
  have hmid : ((srt zs).getD (third len) 0 + (srt zs).getD (len - 1 - third len) 0) / 2 = midZ zs := by unfold midZ; rw [hzl]
  rw [hmid] at kh
  have ek : ((len : Int) - 1) / 3 = ((third len : Nat) : Int) := by unfold third; omega
  obtain ⟨r, hr, e1⟩ : ∃ r, len - third len - third len = r + 1 ∧ len - 1 - third len = third len + r := ⟨len - third len - third len - 1, by omega, by omega⟩
  rw [e1] at kh
  have hr1 : third len + r < len := by omega
  have HR := Lib.hid hr
  have KS := Lib.hid ks
  have KH := Lib.hid kh
  have EK := Lib.hid ek
  clear ks kh ek hmid mem hzl hI hz hr e1 q2 q3 q4
  generalize third len = k at *
  generalize midZ zs = m at *
  have t1 : ((len : Int) == 0) = false := by simp; omega
  have t2 : decide (64 < (len : Int)) = false := by simp; omega
  have ek2 : (len - 1) / 3 = k := by have := EK.out; omega
  have EK2 := Lib.hid ek2
  clear ek2
  go_enter Try.func15, Try.ntmps15
  go_wp2_with (first
    | (go_at_call 33; (with_reducible refine (Values_any _ _ _ _).mono ?_); rintro e w1 ⟨rfl, rfl⟩)
    | (go_at_call 32; (with_reducible refine KS.out.mono ?_); rintro e w1 ⟨g, c, rfl, hg, hlc, hI1, hB1⟩))
  rw [EK.out, EK2.out]
  obtain ⟨-, hI2⟩ := hI1
  obtain ⟨g', off, eg, hlt, hc⟩ := hI2 (by omega)
  injection eg with eg
  injection eg with eg eo
  subst eg
  subst eo
  simp only [Nat.zero_add] at hc
  have d0 := hc k (by omega)
  have d1 := hc (k + r) hr1
  have hkk : k < c := by omega
  rw [HR.out]
  have hz3 : IntKind.i64.wrap (r : Int) = (r : Int) := IntWalk.i64_in _ (by omega)
  have hz4 : IntKind.i64.wrap ((r : Int) + 1 - 1) = (r : Int) := by rw [show (r : Int) + 1 - 1 = r by omega]; exact hz3
  have D0 := Lib.hid d0
  have D1 := Lib.hid d1
  generalize (srt zs).getD k 0 = x at *
  generalize (srt zs).getD (k + r) 0 = y at *
  clear HR
  clear hc hI2
  have hz5 : (r : Int) < (r : Int) + 1 := by omega
  have HB := Lib.hid hB1
  clear hB1
  go_quiet ((go_at_call 34; exact Calls.quiet_of_same (KH.out _)))
  go_wp2_with fail
  refine bodyPost_ret (v := .tuple #[.int .i64 m, .int .i64 0]) (by simp [results, Try.results15, go_sem]) rfl ⟨rfl, ?_⟩
  exact (below_next ((Below.refl w.heap.size w).alloc (Nat.le_refl _) _) HB.out).trans (below_drewN _ _ _)

set_option maxRecDepth 100000 in
set_option maxHeartbeats 2000000 in
theorem Middle_bad (A : Option Addr) (len cap : Nat) (h : len = 0 ∨ 64 < len) (hl : len ≤ 9223372036854775807) (w : World) :
    Calls Try.prog 15 #[.slice A len cap] w fun e w' => e = .returned (.tuple #[.int .i64 0, .int .i64 8]) ∧ w = w' := by
  rcases Nat.eq_zero_or_pos len with rfl | h0
  · go_enter Try.func15, Try.ntmps15
    go_wp2_with fail
    refine bodyPost_ret (v := .tuple #[.int .i64 0, .int .i64 8]) (by simp [results, Try.results15, go_sem]) rfl ⟨rfl, rfl⟩
  · have t1 : ((len : Int) == 0) = false := by simp; omega
    have t2 : decide (64 < (len : Int)) = true := by simp; omega
    go_enter Try.func15, Try.ntmps15
    go_wp2_with fail
    refine bodyPost_ret (v := .tuple #[.int .i64 0, .int .i64 8]) (by simp [results, Try.results15, go_sem]) rfl ⟨rfl, rfl⟩
end Go.Proofs.Ytofeoeknmlkjgaa.Md
end
