/- slices.Sorted(slices.Values(s)): a new slice of the sorted list; what stands in the middle of two numbers. -/
import Derived.Test.YtaobnddnefabeaaMidSeq
import Derived.Test.YtaobnddnefabeaaLaySort
import Derived.Test.YtaobnddnefabeaaMidPlain
import Derived.Lib.SlKeysI
import Derived.Sort.OwnSorted
import Derived.IntWalk
set_option linter.unusedVariables false
namespace Go.Proofs.Ytaobnddnefabeaa.Md
open Go.RowKit Go.Proofs.Ytaobnddnefabeaa Go.Proofs Go.Shelf Go.Sort

set_option maxRecDepth 100000 in
set_option maxHeartbeats 2000000 in
theorem Sorted_any (Bs len cap : Nat) (A : Option Addr) (zs : List Int) (h0 : 0 < len) (hlen : len ≤ maxLen) (hbytes : len * 8 ≤ 140737488355328) (w : World) (hI : Ints w .i64 A len zs)
    (hBs : Bs < w.heap.size) (hc : w.cell? ⟨Bs, 0, none⟩ = some (.slice A len cap)) :
    Calls Try.prog 42 #[.func (.func 53) #[] #[.pointer (some ⟨Bs, 0, none⟩)]] w fun e w' => ∃ g c, e = .returned (.slice (some ⟨g, 0, none⟩) len c) ∧ w.heap.size ≤ g ∧ len ≤ c ∧ Ints w' .i64 (some ⟨g, 0, none⟩) len (srt zs) ∧ Below w.heap.size w w' := by
  refine (callsIn_wide (n := 6)).1 ?_
  have hzl := hI.1
  have k := collect_in Fence.wide 5 trivial trivial trivial rfl (by omega) Bs len cap A zs hlen hbytes w hI hBs hc
  have K := Lib.hid k
  have HL := Lib.hid hzl
  have h1 : 1 ≤ 6 := by omega
  have hfK : Fence.wide.fn 51 := trivial
  have hfS : Fence.wide.fn 52 := trivial
  clear k hI hc hzl
  refine callsIn_of_wp Try.func42 rfl trivial ?_ rfl
  simp only [Try.ntmps42, List.size_toArray, List.length_cons, List.length_nil, Nat.reduceAdd, Nat.reduceSub, Array.replicate_succ, Array.replicate_zero, List.push_toArray, List.append_toArray, List.nil_append, List.cons_append]
  gi_wp2_with (gi_at_call 51; refine K.out.mono ?_; rintro e W ⟨v, rfl, hrow, hnil, hb⟩)
  rcases hrow.2 with ⟨rfl, hz⟩ | ⟨gb, cap, cur, rfl, hbase, hgb, r1, r2, r3, r4⟩
  · have := HL.out; omega
  · have hH : Holds encZ W gb 0 zs.toArray := holds_of_block_i hgb (by simpa using r4)
    have hgl : gb < W.heap.size := (Array.getElem?_eq_some_iff.1 hgb).1
    have hsz : zs.length < 4611686018427387904 := by have := HL.out; omega
    have cS : CallsIn Fence.wide 5 Try.prog 52 _ _ _ := callsIn_wide.2 (AnyM.slices_Sort_int (ρ := sortA_ren) sortA gb 0 cap zs W hH hgl hsz)
    gi_wp2_with (gi_at_call 52; refine cS.mono ?_; rintro e w' ⟨rfl, nn, os, rfl⟩)
    go_ret
    have hlz : zs.length = len := HL.out
    have hown := ownsRow_sorted_i (n := nn) (os := os) (ts := srt zs) (srt_len zs) hbase hgb r1 r2 r3
    rw [hlz] at hown r1 ⊢
    exact ⟨gb, cap, rfl, hbase, r1, Ints.own hown, hb.grown (grownBy_sorted_i _) hb.size (fun j hj => by cases hj; exact hbase)⟩

theorem half_any (a b : Int) (ha : -9223372036854775808 ≤ a ∧ a ≤ 9223372036854775807) (hb : -9223372036854775808 ≤ b ∧ b ≤ 9223372036854775807) (w : World) :
    Calls Try.prog 44 #[.int .i64 a, .int .i64 b] w fun e w' => e = .returned (.int .i64 ((a + b) / 2)) ∧ w' = w := by
  obtain ⟨h1, h2, h3, h4, h5⟩ := half_i64 a b ha hb
  have h6 : -9223372036854775808 ≤ (a + b) / 2 ∧ (a + b) / 2 ≤ 9223372036854775807 := by omega
  have H := Lib.hid h1
  have H2 := Lib.hid h2
  have H6 := Lib.hid h6
  clear h1 h6
  go_enter Try.func44, Try.ntmps44
  go_wp2
  go_ret
  exact ⟨ret_i64 (by rw [H.out]; exact IntWalk.wrap64_in _ H6.out), rfl⟩
end Go.Proofs.Ytaobnddnefabeaa.Md
