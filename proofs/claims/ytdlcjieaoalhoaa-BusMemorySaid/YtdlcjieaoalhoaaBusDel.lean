/- slices.Delete of one row. -/
import Derived.Test.YtdlcjieaoalhoaaBusTurn
import Derived.Deep.RegionLaw
import Derived.Lib.SliceRun
set_option linter.unusedVariables false
namespace Go.Proofs.Ytdlcjieaoalhoaa.Bs
open Go.RowKit Go.Proofs.Ytdlcjieaoalhoaa Crc Sm

theorem flat_take : ∀ (L : List Pc) (i : Nat), flat (L.take i) = (flat L).take (i * 5)
  | [], i => by simp [flat]
  | p :: L, 0 => by simp [flat]
  | p :: L, i + 1 => by
    rw [List.take_succ_cons, flat, flat, flat_take L i, show (i + 1) * 5 = p.cells.length + i * 5 by simp [Pc.cells]; omega, List.take_length_add_append]
theorem flat_drop : ∀ (L : List Pc) (i : Nat), flat (L.drop i) = (flat L).drop (i * 5)
  | [], i => by simp [flat]
  | p :: L, 0 => by simp [flat]
  | p :: L, i + 1 => by
    rw [List.drop_succ_cons, flat, flat_drop L i, show (i + 1) * 5 = p.cells.length + i * 5 by simp [Pc.cells]; omega, List.drop_length_add_append]

theorem flat_one' : ∀ (L : List Pc) (u : Value), u ∈ flat L → u.oneCell' = true
  | [], u, h => by simp [flat] at h
  | p :: L, u, h => by
    rw [flat] at h
    rcases List.mem_append.1 h with h1 | h1
    · simp [Pc.cells] at h1; rcases h1 with rfl | rfl | rfl | rfl | rfl <;> rfl
    · exact flat_one' L u h1
theorem own_nc {w : World} {base n m c sz : Nat} {e : TypeId} {A : Option Addr} {xs : List Value} (h : w.ownsRow base e sz (.slice A m c) n xs) : n ≤ c := by
  rcases h.2 with ⟨h1, h2⟩ | ⟨g, cap, cur, h1, hb, hh, h2, _⟩
  · omega
  · injection h1 with a b c; omega
set_option maxRecDepth 100000 in
set_option maxHeartbeats 4000000 in
theorem delete_any (g cap n i b : Nat) (L : List Pc) (w : World) (hown : w.ownsRow b 35 5 (.slice (some ⟨g, 0, none⟩) n cap) n (flat L)) (hi : i < n) (hn : n ≤ 1000) :
    Calls Try.prog 26 #[.slice (some ⟨g, 0, none⟩) n cap, .int .i64 (i : Nat), .int .i64 ((i : Nat) + 1 : Int)] w fun e w' => e = .returned (.slice (some ⟨g, 0, none⟩) (n - 1) cap) ∧
      w'.ownsRow b 35 5 (.slice (some ⟨g, 0, none⟩) (n - 1) cap) (n - 1) (flat (L.eraseIdx i)) ∧ w.grownBy w' (some g) := by
  obtain ⟨i0, hi0, hz0, hz1, hz2⟩ := info_parts infoParcel
  have q1 : ((i : Int) == (i : Int) + 1) = false := by simp; omega
  have hnc : n ≤ cap := (own_nc hown)
  have q2 : (i : Int) + 1 ≤ (n : Int) := by omega
  have q3 : (n : Int) ≤ (cap : Int) := by omega
  have q4 : (i : Int) ≤ (i : Int) + 1 := by omega
  have q5 : (0 : Int) ≤ (i : Int) + 1 := by omega
  obtain ⟨cur, hh, hs, ht, hbg, hcm⟩ : ∃ cur, Blk w g 35 cur ∧ cur.size = cap * 5 ∧ cur.toList.take (n * 5) = flat L ∧ b ≤ g ∧ cap ≤ maxLen := by
    rcases hown.2 with ⟨h1, _⟩ | ⟨g', cap', cur, hv, hb, hh, hc, hm, hs, ht⟩
    · cases h1
    · cases hv; exact ⟨cur, hh, hs, ht, hb, hm⟩
  have hlt : (flat L).length = n * 5 := hown.1
  have hcl : ∀ k, k < n * 5 → (flat L)[k]? = w.cell? ⟨g, k, none⟩ := by
    intro k hk
    rw [hh.cell k, ← ht, List.getElem?_take, if_pos hk]; simp
  obtain ⟨news, hnews⟩ : ∃ news, news = (flat L).drop ((i + 1) * 5) := ⟨_, rfl⟩
  have hnl : news.length = (n - (i + 1)) * 5 := by rw [hnews, List.length_drop, hlt]; omega
  obtain ⟨A, hA, hsrc⟩ : ∃ A : Addr, (if cap = i + 1 then (some ⟨g, 0, none⟩ : Option Addr) else some ⟨g, (i + 1) * 5, none⟩) = some A ∧ Hid (∀ t u, news[t]? = some u → w.drew.cell? (A.add t) = some u) := by
    by_cases h : cap = i + 1
    · refine ⟨⟨g, 0, none⟩, by simp [h], fun t u hu => ?_⟩
      have h0 : news.length = 0 := by rw [hnl]; omega
      rw [List.length_eq_zero_iff.1 h0] at hu
      simp at hu
    · refine ⟨⟨g, (i + 1) * 5, none⟩, by simp [h], fun t u hu => ?_⟩
      have ht2 : t < (n - (i + 1)) * 5 := by
        have := (List.getElem?_eq_some_iff.1 hu).1
        rwa [hnl] at this
      rw [hnews, List.getElem?_drop, hcl _ (by omega)] at hu
      rw [Addr.add_lit]
      exact hu
  have s1 : Hid (news.length = (n - (i + 1)) * 5) := hnl
  have s2 : Hid (∀ u ∈ news, u.oneCell' = true) := by
    intro u hu
    rw [hnews] at hu
    exact flat_one' L u (List.mem_of_mem_drop hu)
  have s3 : Hid (∀ t, t < news.length → (w.drew.cell? ⟨g, 0 + i * 5 + t, none⟩).isSome = true ∧ w.drew.frozen? ⟨g, 0 + i * 5 + t, none⟩ = false) := by
    intro t ht
    rw [hnl] at ht
    refine ⟨?_, hh.drew.frozen _⟩
    rw [hh.drew.cell, Array.getElem?_eq_getElem (by rw [hs]; omega)]; rfl
  obtain ⟨W1, hW1⟩ : ∃ W1, W1 = w.drew.setCells g (0 + i * 5) news := ⟨_, rfl⟩
  obtain ⟨cs1, hb1, hsz1, hc1⟩ := blk_setCells_at news (0 + i * 5) w.drew cur hh.drew
  rw [← hW1] at hb1
  have hzc : ∀ W, (zeroValue 35).run Try.prog W = .ok (.agg #[.int .i64 0, .int .i64 0, .int .i64 0, .int .i64 0, .slice none 0 0]) W := fun W => by kernel_rfl
  have hclr : ∀ ty, (Builtin.clear_ #[23] ty #[.slice (some ⟨g, (i + (n - (i + 1))) * 5, none⟩) (n - (i + (n - (i + 1)))) (cap - (i + (n - (i + 1))))]).run Try.prog W1 = .ok (.tuple #[]) (W1.setCells g ((n - 1) * 5) [.int .i64 0, .int .i64 0, .int .i64 0, .int .i64 0, .slice none 0 0]) := by
    intro ty
    have e1 : i + (n - (i + 1)) = n - 1 := by omega
    have e2 : n - (n - 1) = 0 + 1 := by omega
    rw [e1, e2]
    have hst := run_storeCells_cells (P := Try.prog) g ((n - 1) * 5) [.int .i64 0, .int .i64 0, .int .i64 0, .int .i64 0, .slice none 0 0] 0 W1 (fun j hj => by
      rw [hb1.cell, Array.getElem?_eq_getElem (by rw [hsz1, hs]; simp at hj; omega)]; rfl) (fun j hj => hb1.frozen _) (by intro v hv; simp at hv; rcases hv with rfl | rfl | rfl | rfl | rfl <;> rfl)
    simp only [Nat.add_zero] at hst
    have hz5 : (Builtin.zeroCells (Value.agg #[.int .i64 0, .int .i64 0, .int .i64 0, .int .i64 0, .slice none 0 0]).cells (0 + 1)).toList = [.int .i64 0, .int .i64 0, .int .i64 0, .int .i64 0, .slice none 0 0] := by kernel_rfl
    simp only [Builtin.clear_, run_underlying Try.underlying23]
    simp [run_underlying Try.underlying23, hzc, hz5, hst]
  have hW : Hid (W1 = w.drew.setCells g (0 + i * 5) news) := hW1
  have hic : i ≤ cap := by omega
  have hjc : i + 1 ≤ cap := by omega
  have HB1 := Lib.hid hb1
  have HC1 := Lib.hid hc1
  have HS := Lib.hid hs
  have HS1 := Lib.hid hsz1
  have HCL := Lib.hid hcl
  have HNW := Lib.hid hnews
  have HT := Lib.hid ht
  have HBG := Lib.hid hbg
  have HCM := Lib.hid hcm
  have HLT := Lib.hid hlt
  clear hW1 hb1 hc1 hs hsz1 hcl hnews hown hlt hh ht hnl hbg hcm
  go_enter Try.func26, Try.ntmps26
  go_wp2_with fail
  go_region_law (refine step_append_room rfl (.tmp 22) (.tmp 25) 23 rfl 35 i0 5 Try.underlying23 hi0 hz1 g 0 i cap (by simp [Act.eval, Act.put]) A (n - (i + 1)) (cap - (i + 1)) news (by simp [Act.eval, Act.put]) s1.out hsrc.out s2.out (by omega) s3.out ?_; rw [← hW.out])
  go_wp2_with fail
  have e1 : i + (n - (i + 1)) = n - 1 := by omega
  rw [e1]
  go_ret
  obtain ⟨cs2, hb2, hsz2, hc2⟩ := blk_setCells_at [.int .i64 0, .int .i64 0, .int .i64 0, .int .i64 0, .slice none 0 0] ((n - 1) * 5) W1 cs1 HB1.out
  have hLn : L.length = n := by have := HLT.out; rw [flat_len] at this; omega
  have hsz : cs2.size = cap * 5 := by rw [hsz2, HS1.out, HS.out]
  refine ⟨rfl, ⟨?_, .inr ⟨g, cap, cs2, rfl, HBG.out, hb2, by omega, HCM.out, hsz, ?_⟩⟩, ?_⟩
  · rw [flat_len, List.length_eraseIdx, hLn, if_pos hi]
  · have hnl : news.length = (n - (i + 1)) * 5 := s1.out
    apply List.ext_getElem?
    intro k
    rw [List.getElem?_take, List.eraseIdx_eq_take_drop_succ, flat_app, flat_take, flat_drop, ← HNW.out]
    have hti : ((flat L).take (i * 5)).length = i * 5 := by rw [List.length_take, HLT.out]; omega
    split
    · rename_i hk
      have h0 : cs2.toList[k]? = cs2[k]? := by simp
      rw [h0, hc2 k (by rw [HS1.out, HS.out]; omega), if_neg (by omega), HC1.out k (by rw [HS.out]; omega)]
      by_cases hki : k < i * 5
      · have h2 := congrArg (fun (l : List Value) => l[k]?) HT.out
        simp only [List.getElem?_take] at h2
        rw [if_pos (by omega)] at h2
        rw [if_neg (by omega), List.getElem?_append_left (by omega), List.getElem?_take, if_pos hki, ← h2]
        simp
      · rw [if_pos (by omega), List.getElem?_append_right (by omega), hti, Nat.zero_add]
    · rename_i hk
      rw [List.getElem?_eq_none (by rw [List.length_append, hti, hnl]; omega)]
  · rw [hW.out]
    exact grown_trans (grown_trans (grown_below (Below.refl _ _).drew) (grown_setCells g _ _ _)) (grown_setCells g _ _ _)
end Go.Proofs.Ytdlcjieaoalhoaa.Bs
