/- bus.copied: a queue of its own, row by row. -/
import Derived.Test.YtdlcjieaoalhoaaBus0
import Derived.Test.YtdlcjieaoalhoaaOpen2
import Derived.Deep.RegionHeld3
import Derived.Laws.MakeOwn
set_option linter.unusedVariables false
namespace Go.Proofs.Ytdlcjieaoalhoaa.Bs
open Go.RowKit Go.Proofs.Ytdlcjieaoalhoaa Crc Sm

/-- what holds at the head of copied's loop -/
def CopRel (w : World) (L : List Pc) (s3 i : Value) (wr : World) (C : Array Value) (z : Array Value) : Prop :=
  ∃ (k : Nat) (L' : List Pc), k ≤ L.length ∧ i = .int .i64 k ∧ L'.map Pc.key = (L.take k).map Pc.key ∧ QO wr (w.heap.size + 1 + 1) s3 L' ∧ Below w.heap.size w wr ∧ w.heap.size + 1 + 1 ≤ wr.heap.size ∧
    Blk wr w.heap.size 25 C ∧ Blk wr (w.heap.size + 1) 25 z

def busC (now ser : Int) (v : Value) : Array Value := #[.int .i64 now, .int .i64 ser, v]
set_option maxRecDepth 100000 in
set_option maxHeartbeats 4000000 in
theorem copied_any (now ser : Int) (A : Option Addr) (n c : Nat) (L : List Pc) (w : World) (h : QR w A n c L) (hn : n ≤ 1000) :
    Calls Try.prog 20 #[.agg #[.int .i64 now, .int .i64 ser, .slice A n c]] w fun e w' => ∃ A' c' L', e = .returned (.agg #[.int .i64 now, .int .i64 ser, .slice A' n c']) ∧
      QO w' w.heap.size (.slice A' n c') L' ∧ L'.map Pc.key = L.map Pc.key ∧ Below w.heap.size w w' := by
  obtain ⟨i0, hi, hz0, hz1, hz2⟩ := info_parts infoParcel
  have H := Lib.hid h
  have hb0 : Blk ((w.alloc (.cells (busC now ser (.slice A n c)) 25)).alloc (.cells (busC 0 0 (.slice none 0 0)) 25)) w.heap.size 25 (busC now ser (.slice A n c)) := (Blk.new _ _ _).alloc _
  have hb1 : Blk ((w.alloc (.cells (busC now ser (.slice A n c)) 25)).alloc (.cells (busC 0 0 (.slice none 0 0)) 25)) (w.heap.size + 1) 25 (busC 0 0 (.slice none 0 0)) := Blk.at_ _ _ _ _ (by simp)
  have hB : Below w.heap.size w ((w.alloc (.cells (busC now ser (.slice A n c)) 25)).alloc (.cells (busC 0 0 (.slice none 0 0)) 25)) := ((Below.refl _ _).alloc (by omega) _).alloc (by simp) _
  have hs : ((w.alloc (.cells (busC now ser (.slice A n c)) 25)).alloc (.cells (busC 0 0 (.slice none 0 0)) 25)).heap.size = w.heap.size + 1 + 1 := by simp
  have HB0 := Lib.hid hb0
  have HB1 := Lib.hid hb1
  have HB := Lib.hid hB
  have HS := Lib.hid hs
  clear hb0 hb1 hB hs h
  go_enter Try.func20, Try.ntmps20
  go_wp2_with (first
    | (at_make; go_loud (refine wpList_make_own _ rfl _ _ 23 rfl (w.heap.size + 1 + 1) 35 i0 (.agg #[.int .i64 0, .int .i64 0, .int .i64 0, .int .i64 0, .slice none 0 0]) 5 Try.underlying23 hi hz0 hz1 .i64 .i64 _ (n + 1) rfl rfl (by omega) (by rw [hz2]; omega) (by unfold maxLen; omega) (by simp) ?_; intro w2 hown2 hg2; have N0 := Lib.hid (Blk.grown HB0.out hg2 (by simp)); have N1 := Lib.hid (Blk.grown HB1.out hg2 (by simp)); have NB := Lib.hid (HB.out.grown hg2 HB.out.size (fun j hj => by cases hj)); have hs2 : w.heap.size + 1 + 1 ≤ w2.heap.size := Nat.le_trans (Nat.le_of_eq (by simp)) hg2.size; have HS2 := Lib.hid hs2; (simp only [Sm.heap_alloc_size] at hown2); have HO2 := Lib.hid hown2; clear hown2 hg2 hs2; have e2 := N0.out.cell 2; (simp only [busC, List.getElem?_toArray, List.getElem?_cons_zero, List.getElem?_cons_succ] at e2))))

  go_loopw [3, 14] (fun v i wr => CopRel w L v i wr (busC now ser (.slice A n c)) (busC 0 0 (.slice none 0 0))) (fun _ i _ => n - (intOf i).toNat)
  case atStart => exact ⟨0, [], Nat.zero_le _, rfl, rfl, ⟨HO2.out, fun p hp => by simp at hp, List.Pairwise.nil⟩, NB.out, HS2.out, N0.out, N1.out⟩
  case round =>
    clear HB0 HB1 HB HS N0 N1 NB HS2 HO2
    obtain ⟨k, L', hk, rfl, hkey, hO, hB, hwr, hb0, hb1⟩ := hrel
    have hLn := H.out.1
    have hl' : L'.length = k := by have := congrArg List.length hkey; simpa [Nat.min_eq_left hk] using this
    obtain ⟨A', c', hv⟩ := hO.shape
    rw [hl'] at hv
    subst hv
    have HL := Lib.hid hl'
    have HKY := Lib.hid hkey
    clear hl' hkey
    have HO := Lib.hid hO
    have HB := Lib.hid hB
    have HW := Lib.hid hwr
    have HB0 := Lib.hid hb0
    have HB1 := Lib.hid hb1
    clear hO hB hwr hb0 hb1
    by_cases hkn : k < n
    · obtain ⟨b, off, p, rfl, hlt, hp, hpm, hR, c0, c1, c2, c3, c4⟩ := (H.out.next (HB.out.mono (Nat.le_refl _))).row hkn
      have hxB : Below wr.heap.size wr (wr.alloc (.cells #[.int .i64 p.fr, .int .i64 p.to, .int .i64 p.du, .int .i64 p.se, .slice p.A p.n p.c] 35)) := (Below.refl _ _).alloc (Nat.le_refl _) _
      have hx0 : Blk (wr.alloc (.cells #[.int .i64 p.fr, .int .i64 p.to, .int .i64 p.du, .int .i64 p.se, .slice p.A p.n p.c] 35)) wr.heap.size 35 #[.int .i64 p.fr, .int .i64 p.to, .int .i64 p.du, .int .i64 p.se, .slice p.A p.n p.c] := Blk.new _ _ _
      have HXB := Lib.hid hxB
      have HX0 := Lib.hid hx0
      have HKC := Lib.hid (Clone8_any p.A p.n p.c p.zs (wr.alloc (.cells #[.int .i64 p.fr, .int .i64 p.to, .int .i64 p.du, .int .i64 p.se, .slice p.A p.n p.c] 35)) (hR.1.alloc _) hR.2.1 (by have := hR.2.2.1; omega))
      have HR := Lib.hid hR
      clear hR hxB hx0
      go_wp2_with (first
        | (go_at_call 28; (with_reducible refine HKC.out.mono ?_); rintro e w1 ⟨A1, c1, rfl, hN, hB1⟩; go_loud (have hW := HW.out; have hs1 := hB1.size; rw [Sm.heap_alloc_size] at hs1; have HN := Lib.hid hN; have N0 := Lib.hid (HX0.out.next hB1); have NB := Lib.hid (HXB.out.trans (hB1.mono (by simp))); clear hN hB1; have d0 := N0.out.cell 0; have d1 := N0.out.cell 1; have d2 := N0.out.cell 2; have d3 := N0.out.cell 3; have d4 := N0.out.cell 4; have f4 := N0.out.frozen 4; (simp only [List.getElem?_toArray, List.getElem?_cons_zero, List.getElem?_cons_succ] at d0 d1 d2 d3 d4)))
        | (at_builtin; go_loud (have hBW := fun o => (NB.out.setCell (p := ⟨wr.heap.size, 4, none⟩) (Nat.le_refl _) (.slice A1 p.n c1)).alloc (by simp [World.setCell]; omega) o; have hO2 := fun o => HO.out.next (hBW o); refine wpList_append_lies _ rfl _ _ 23 rfl (w.heap.size + 1 + 1) 35 i0 (.agg #[.int .i64 0, .int .i64 0, .int .i64 0, .int .i64 0, .slice none 0 0]) 5 56 Try.underlying23 hi hz0 hz1 hz2 rfl (by decide) (.slice A' k c') k (flat L') rfl (own_n HL.out (hO2 _).1) ⟨w1.heap.size, 0, none⟩ 1 1 (Pc.cells ⟨p.fr, p.to, p.du, p.se, A1, p.n, c1, p.zs⟩) rfl rfl (World.news_of_block (new_at (by simp [World.setCell]))) (by intro u hu; simp [Pc.cells] at hu; rcases hu with rfl | rfl | rfl | rfl | rfl <;> rfl) (by decide) (by unfold maxLen; omega) (by omega) (by simp [World.setCell]; omega) (w1.heap.size + 1) (by simp [World.setCell]) ?_); intro g' cap w3 hown3 hg3 hat hlt))
      go_roundw
      case rel =>
        have hW := HW.out
        have hq : Pc.Owns ((w1.setCell ⟨wr.heap.size, 4, none⟩ (.slice A1 p.n c1)).alloc (.cells #[.int .i64 p.fr, .int .i64 p.to, .int .i64 p.du, .int .i64 p.se, .slice A1 p.n c1] 35)) (wr.heap.size + 1) ⟨p.fr, p.to, p.du, p.se, A1, p.n, c1, p.zs⟩ := by
          have h1 : Pc.Owns w1 (wr.heap.size + 1) ⟨p.fr, p.to, p.du, p.se, A1, p.n, c1, p.zs⟩ := ⟨by have := HN.out; rw [Sm.heap_alloc_size] at this; exact this, HR.out.2.2.1, HR.out.2.2.2⟩
          exact (h1.grown (grown_set w1 wr.heap.size 4 _) N0.out (by decide)).next ((Below.refl _ _).alloc (Nat.le_refl _) _)
        refine ⟨k + 1, L' ++ [⟨p.fr, p.to, p.du, p.se, A1, p.n, c1, p.zs⟩], by omega, by go_num, ?_, (hO2 _).push (by rw [HL.out]; exact hown3) hg3 (hq.down (by omega)) ?_, ((HB.out.trans ((hBW _).mono (by omega))).grown hg3 (by simp [World.setCell]; omega) (fun j hj => by have := ((hO2 (.cells #[] 0)).lt j hj).1; omega)), ?_, ?_, ?_⟩
        · rw [List.map_append, HKY.out, List.take_add_one, hp, List.map_append]; rfl
        · intro p' hp' x hx hx2
          have h1 := (HO.out.2.1 p' hp').lt hx
          have h2 := hq.lt hx2
          omega
        · have := hg3.size
          simp [World.setCell] at this
          omega
        · exact Blk.grown (HB0.out.next (hBW _)) hg3 (own_blk_ne HO.out.1 HB0.out (by decide))
        · exact Blk.grown (HB1.out.next (hBW _)) hg3 (own_blk_ne HO.out.1 HB1.out (by decide))
      case measure => simp [intOf]; omega
    · obtain rfl : k = n := by omega
      have d0 := HB0.out.cell 0
      have d1 := HB0.out.cell 1
      have d2 := HB0.out.cell 2
      have f2 := HB0.out.frozen 2
      have m0 := HB1.out.cell 0
      have m1 := HB1.out.cell 1
      have m2 := HB1.out.cell 2
      have g0 := HB1.out.frozen 0
      have g1 := HB1.out.frozen 1
      have g2 := HB1.out.frozen 2
      simp only [busC, List.getElem?_toArray, List.getElem?_cons_zero, List.getElem?_cons_succ] at d0 d1 d2 m0 m1 m2
      go_wp2_with (fail)
      have hW := HW.out
      have hO3 := (HO.out.grown (grown_set wr w.heap.size 2 (.slice A' k c')) HB0.out (by decide) (by decide))
      have hb1 := HB1.out.far (by simp) (.slice A' k c') (p := ⟨w.heap.size, 2, none⟩)
      have hO4 := ((hO3.grown (grown_set _ (w.heap.size + 1) 0 (.int .i64 now)) hb1 (by decide) (by decide)).grown (grown_set _ (w.heap.size + 1) 1 (.int .i64 ser)) (hb1.set_ 0 _) (by decide) (by decide)).grown (grown_set _ (w.heap.size + 1) 2 (.slice A' k c')) ((hb1.set_ 0 _).set_ 1 _) (by decide) (by decide)
      refine bodyPost_ret (results_cell_row Try.results20 _ _ (w.heap.size + 1) _ _ (0, 0) _ rfl (((hb1.set_ 0 _).set_ 1 _).set_ 2 _) Try.underlying25 rfl (by kernel_rfl)) rfl ⟨A', c', L', rfl, hO4.down (by omega), ?_, ?_⟩
      · rw [HKY.out, ← H.out.1, List.take_length]
      · exact (((HB.out.setCell (p := ⟨w.heap.size, 2, none⟩) (Nat.le_refl _) _).setCell (by simp) _).setCell (by simp) _).setCell (by simp) _
end Go.Proofs.Ytdlcjieaoalhoaa.Bs
