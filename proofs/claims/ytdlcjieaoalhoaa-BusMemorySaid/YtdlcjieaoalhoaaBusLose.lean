/- bus.Lose. -/
import Derived.Test.YtdlcjieaoalhoaaBusDel
set_option linter.unusedVariables false
namespace Go.Proofs.Ytdlcjieaoalhoaa.Bs
open Go.RowKit Go.Proofs.Ytdlcjieaoalhoaa Crc Sm

theorem lose_results {W : World} {g : Nat} {cs : Array Value} (h : Blk W g 25 cs) (h3c : cs.size = 3) (e : Value) (tmps : Array Value) (h2 : tmps.getD 4 undef = .pointer (some ⟨g, 0, none⟩)) (h3 : tmps.getD 5 undef = e) :
    (results Try.f12 tmps).run Try.prog W = .ok (.tuple #[.agg cs, e]) W := by
  have h2' : tmps[4]?.getD undef = .pointer (some ⟨g, 0, none⟩) := by simpa using h2
  have h3' : tmps[5]?.getD undef = e := by simpa using h3
  simp [results, Try.results12, h2', h3', asAddr, run_loadVar_row (P := Try.prog) W g _ 25 cs (0, 0) _ h Try.underlying25 rfl (by rw [h3c]; kernel_rfl)]
/-- what Lose answers -/
def LosePost (now ser : Int) (i n : Nat) (L : List Pc) (w : World) (e : Ending) (w' : World) : Prop :=
  ∃ A' c' L', e = .returned (.tuple #[.agg #[.int .i64 now, .int .i64 ser, .slice A' (n - 1) c'], .int .i64 0]) ∧ QO w' w.heap.size (.slice A' (n - 1) c') L' ∧
    L'.map Pc.key = (L.map Pc.key).eraseIdx i ∧ Below w.heap.size w w'
theorem map_eraseIdx' {α β : Type} (f : α → β) (L : List α) (i : Nat) : (L.eraseIdx i).map f = (L.map f).eraseIdx i := by
  rw [List.eraseIdx_eq_take_drop_succ, List.eraseIdx_eq_take_drop_succ, List.map_append, List.map_take, List.map_drop]

set_option maxRecDepth 100000 in
set_option maxHeartbeats 8000000 in
theorem Lose_ok (now ser s : Int) (i : Nat) (p : Pc) (A : Option Addr) (n c : Nat) (L : List Pc) (w : World) (h : QR w A n c L) (hn : n ≤ 1000) (hp : L[i]? = some p) (hs : p.se = s) (hf : ∀ (j : Nat) (q : Pc), j < i → L[j]? = some q → q.se ≠ s) :
    Calls Try.prog 12 #[.agg #[.int .i64 now, .int .i64 ser, .slice A n c], .int .i64 s] w (LosePost now ser i n L w) := by
  have hBl : Below w.heap.size w ((w.alloc (.cells #[.int .i64 now, .int .i64 ser, .slice A n c] 25)).alloc (.cells #[.int .i64 0, .int .i64 0, .slice none 0 0] 25)) := ((Below.refl _ _).alloc (by omega) _).alloc (by simp) _
  have hb0 : Blk ((w.alloc (.cells #[.int .i64 now, .int .i64 ser, .slice A n c] 25)).alloc (.cells #[.int .i64 0, .int .i64 0, .slice none 0 0] 25)) w.heap.size 25 #[.int .i64 now, .int .i64 ser, .slice A n c] := (Blk.new _ _ _).alloc _
  have hb1 : Blk ((w.alloc (.cells #[.int .i64 now, .int .i64 ser, .slice A n c] 25)).alloc (.cells #[.int .i64 0, .int .i64 0, .slice none 0 0] 25)) (w.heap.size + 1) 25 #[.int .i64 0, .int .i64 0, .slice none 0 0] := Blk.at_ _ _ _ _ (by simp)
  have hkf := fun W (hW : Below w.heap.size w W) => find_at (now := now) (ser := ser) (h.next hW) (by omega) hp hs hf
  have hkc := fun W (hW : Below w.heap.size w W) => copied_any now ser A n c L W (h.next hW) (by omega)
  have hin : i < n := by have := (List.getElem?_eq_some_iff.1 hp).1; have := h.1; omega
  have hkl := h.1
  have HKL := Lib.hid hkl
  have KF := Lib.hid hkf
  have KC := Lib.hid hkc
  have HBl := Lib.hid hBl
  have HB0 := Lib.hid hb0
  have HB1 := Lib.hid hb1
  clear hkf hkc hBl hb0 hb1 h hkl hp hs hf
  have q00 : decide ((i : Int) < 0) = false := by simp
  go_enter Try.func12, Try.ntmps12
  go_upto_region 5 with (first
    | (go_at_call 25; (with_reducible refine (KF.out _ HBl.out).mono ?_); rintro e w2 ⟨rfl, hB2⟩; go_loud (have N0 := Lib.hid (HB0.out.next hB2); have N1 := Lib.hid (HB1.out.next hB2); have NB := Lib.hid (HBl.out.trans (hB2.mono (by simp; omega))); clear hB2; have e0 := N0.out.cell 0; have e1 := N0.out.cell 1; have e2 := N0.out.cell 2; (simp only [List.getElem?_toArray, List.getElem?_cons_zero, List.getElem?_cons_succ] at e0 e1 e2)))
    | (go_at_call 20; (with_reducible refine (KC.out _ NB.out).mono ?_); rintro e w3 ⟨A', c', L', rfl, hO, hkey, hB3⟩; go_loud (clear e0 e1 e2; have M0 := Lib.hid (N0.out.next hB3); have M1 := Lib.hid (N1.out.next hB3); have MB := Lib.hid (NB.out.trans (hB3.mono NB.out.size)); have HO := Lib.hid (hO.down NB.out.size); have HY := Lib.hid hkey; clear hO hkey hB3; have e0 := M0.out.cell 0; have e1 := M0.out.cell 1; have e2 := M0.out.cell 2; have f0 := M0.out.frozen 0; have f1 := M0.out.frozen 1; have f2 := M0.out.frozen 2; (simp only [List.getElem?_toArray, List.getElem?_cons_zero, List.getElem?_cons_succ] at e0 e1 e2))))
  have hb0 : Blk (((w3.setCell ⟨w.heap.size, 0, none⟩ (.int .i64 now)).setCell ⟨w.heap.size, 1, none⟩ (.int .i64 ser)).setCell ⟨w.heap.size, 2, none⟩ (.slice A' n c')) w.heap.size 25 #[.int .i64 now, .int .i64 ser, .slice A' n c'] := ((M0.out.set_ 0 _).set_ 1 _).set_ 2 _
  have hl : L'.length = n := by have := congrArg List.length HY.out; simpa [HKL.out] using this
  have hq : QO (((w3.setCell ⟨w.heap.size, 0, none⟩ (.int .i64 now)).setCell ⟨w.heap.size, 1, none⟩ (.int .i64 ser)).setCell ⟨w.heap.size, 2, none⟩ (.slice A' n c')) w.heap.size (.slice A' n c') L' :=
    ((HO.out.grown (grown_set _ w.heap.size 0 _) M0.out (by decide) (by decide)).grown (grown_set _ w.heap.size 1 _) (M0.out.set_ 0 _) (by decide) (by decide)).grown (grown_set _ w.heap.size 2 _) ((M0.out.set_ 0 _).set_ 1 _) (by decide) (by decide)
  have hB : Below w.heap.size w (((w3.setCell ⟨w.heap.size, 0, none⟩ (.int .i64 now)).setCell ⟨w.heap.size, 1, none⟩ (.int .i64 ser)).setCell ⟨w.heap.size, 2, none⟩ (.slice A' n c')) := ((MB.out.setCell (p := ⟨w.heap.size, 0, none⟩) (Nat.le_refl _) _).setCell (p := ⟨w.heap.size, 1, none⟩) (Nat.le_refl _) _).setCell (p := ⟨w.heap.size, 2, none⟩) (Nat.le_refl _) _
  have hz1 : Blk (((w3.setCell ⟨w.heap.size, 0, none⟩ (.int .i64 now)).setCell ⟨w.heap.size, 1, none⟩ (.int .i64 ser)).setCell ⟨w.heap.size, 2, none⟩ (.slice A' n c')) (w.heap.size + 1) 25 #[.int .i64 0, .int .i64 0, .slice none 0 0] := ((M1.out.far (by simp) _).far (by simp) _).far (by simp) _
  clear e0 e1 e2 f0 f1 f2 M0 M1 MB HO
  generalize ((w3.setCell ⟨w.heap.size, 0, none⟩ (.int .i64 now)).setCell ⟨w.heap.size, 1, none⟩ (.int .i64 ser)).setCell ⟨w.heap.size, 2, none⟩ (.slice A' n c') = wz at *
  have ho1 : wz.ownsRow w.heap.size 35 5 (.slice A' n c') n (flat L') := own_n hl hq.1
  obtain ⟨gb, hAb, hgb, hgl⟩ : ∃ gb, A' = some ⟨gb, 0, none⟩ ∧ w.heap.size ≤ gb ∧ gb < wz.heap.size := by
    rcases ho1.2 with ⟨h1, h2⟩ | ⟨g, cap, cur, hv, hb, hh, _⟩
    · omega
    · injection hv with a _ _; exact ⟨g, a, hb, (Array.getElem?_eq_some_iff.1 hh).1⟩
  subst hAb
  have HDEL := Lib.hid (delete_any gb c' n i w.heap.size L' wz ho1 hin hn)
  have HB := Lib.hid hB
  have HQ := Lib.hid hq
  have HZ1 := Lib.hid hz1
  have HZ0 := Lib.hid hb0
  have HO1 := Lib.hid ho1
  have e0 := hb0.cell 0
  have e1 := hb0.cell 1
  have e2 := hb0.cell 2
  simp only [List.getElem?_toArray, List.getElem?_cons_zero, List.getElem?_cons_succ] at e0 e1 e2
  have hne0 : w.heap.size ≠ gb := fun e => own_blk_ne ho1 hb0 (by decide) (by rw [e]; rfl)
  have hne1 : w.heap.size + 1 ≠ gb := fun e => own_blk_ne ho1 hz1 (by decide) (by rw [e]; rfl)
  have HN0 := Lib.hid hne0
  have HN1 := Lib.hid hne1
  clear hb0 hq hB hz1 ho1 hne0 hne1
  go_wp2_with (first
    | (go_at_call 26; (with_reducible refine HDEL.out.mono ?_); rintro e w4 ⟨rfl, ho4, hg4⟩; go_loud (have M0 := Lib.hid (HZ0.out.grown hg4 (by intro h; injection h with h; exact HN0.out h)); have M1 := Lib.hid (HZ1.out.grown hg4 (by intro h; injection h with h; exact HN1.out h)); have HO4 := Lib.hid ho4; have HG4 := Lib.hid hg4; clear ho4 hg4 e0 e1 e2; have e0 := M0.out.cell 0; have e1 := M0.out.cell 1; have e2 := M0.out.cell 2; have f2 := M0.out.frozen 2; have m0 := M1.out.cell 0; have m1 := M1.out.cell 1; have m2 := M1.out.cell 2; have g0 := M1.out.frozen 0; have g1 := M1.out.frozen 1; have g2 := M1.out.frozen 2; (simp only [List.getElem?_toArray, List.getElem?_cons_zero, List.getElem?_cons_succ] at e0 e1 e2 m0 m1 m2))))
  have hown : ∀ p ∈ L', p.Owns w4 w.heap.size := fun p hp => by
    have h1 := HQ.out.2.1 p hp
    exact ⟨h1.1.kept HG4.out (own_own_ne h1.1 HO1.out (by decide)), h1.2⟩
  have hql : (L'.eraseIdx i).length = n - 1 := by rw [List.length_eraseIdx, hl, if_pos hin]
  have hq4 : QO w4 w.heap.size (.slice (some ⟨gb, 0, none⟩) (n - 1) c') (L'.eraseIdx i) := QO.of (own_n hql.symm HO4.out) (Nat.le_refl _) (fun p hp => hown p (List.mem_of_mem_eraseIdx hp)) (HQ.out.2.2.sublist (List.eraseIdx_sublist L' i))
  have hz2 := M1.out.far (p := ⟨w.heap.size, 2, none⟩) (by simp) (.slice (some ⟨gb, 0, none⟩) (n - 1) c')
  have hq5 := hq4.grown (grown_set _ w.heap.size 2 (.slice (some ⟨gb, 0, none⟩) (n - 1) c')) M0.out (by decide) (by decide)
  have hq6 := ((hq5.grown (grown_set _ (w.heap.size + 1) 0 (.int .i64 now)) hz2 (by decide) (by decide)).grown (grown_set _ (w.heap.size + 1) 1 (.int .i64 ser)) (hz2.set_ 0 _) (by decide) (by decide)).grown (grown_set _ (w.heap.size + 1) 2 (.slice (some ⟨gb, 0, none⟩) (n - 1) c')) ((hz2.set_ 0 _).set_ 1 _) (by decide) (by decide)
  refine bodyPost_ret (v := .tuple #[.agg #[.int .i64 now, .int .i64 ser, .slice (some ⟨gb, 0, none⟩) (n - 1) c'], .int .i64 0]) (lose_results (((hz2.set_ 0 _).set_ 1 _).set_ 2 _) rfl _ _ rfl rfl) rfl ⟨_, _, _, rfl, hq6, ?_, ?_⟩
  · rw [map_eraseIdx', HY.out]
  · have hb4 : Below w.heap.size w w4 := HB.out.grown HG4.out HB.out.size (fun j hj => by injection hj with hj; omega)
    exact (((hb4.setCell (p := ⟨w.heap.size, 2, none⟩) (Nat.le_refl _) _).setCell (p := ⟨w.heap.size + 1, 0, none⟩) (Nat.le_succ _) _).setCell (p := ⟨w.heap.size + 1, 1, none⟩) (Nat.le_succ _) _).setCell (p := ⟨w.heap.size + 1, 2, none⟩) (Nat.le_succ _) _
end Go.Proofs.Ytdlcjieaoalhoaa.Bs
