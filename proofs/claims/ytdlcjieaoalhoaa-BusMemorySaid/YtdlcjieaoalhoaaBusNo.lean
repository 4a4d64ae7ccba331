/- bus.Lose and bus.Turn of what is not there; whatever they answer is of their own. -/
import Derived.Test.YtdlcjieaoalhoaaBusLose
import Derived.Test.YtdlcjieaoalhoaaBusTurn
import Derived.Test.YtdlcjieaoalhoaaRows4
import Derived.BigGuard
set_option linter.unusedVariables false
namespace Go.Proofs.Ytdlcjieaoalhoaa.Bs
open Go.RowKit Go.Proofs.Ytdlcjieaoalhoaa Crc Sm

theorem find_no {now ser s : Int} {A : Option Addr} {n c : Nat} {L : List Pc} {w : World} (h : QR w A n c L) (hn : n ≤ 100000) (hno : ∀ p ∈ L, p.se ≠ s) :
    Calls Try.prog 25 #[.agg #[.int .i64 now, .int .i64 ser, .slice A n c], .int .i64 s] w fun e w' => e = .returned (.int .i64 (-1)) ∧ Below w.heap.size w w' :=
  (find_any now ser s A n c L w h hn).mono fun e w' h => by
    obtain ⟨⟨k, he, hF⟩, hB⟩ := h
    rcases hF with ⟨rfl, _⟩ | ⟨j, q, _, hq, hqs, _⟩
    · exact ⟨he, hB⟩
    · exact absurd hqs (hno q (List.mem_of_getElem? hq))
def NoPost (k : Int) (w : World) (e : Ending) (w' : World) : Prop := e = .returned (.tuple #[.agg #[.int .i64 0, .int .i64 0, .slice none 0 0], .int .i64 k]) ∧ Below w.heap.size w w'
set_option maxRecDepth 100000 in
set_option maxHeartbeats 4000000 in
theorem Lose_no (now ser s : Int) (A : Option Addr) (n c : Nat) (L : List Pc) (w : World) (h : QR w A n c L) (hn : n ≤ 1000) (hno : ∀ p ∈ L, p.se ≠ s) :
    Calls Try.prog 12 #[.agg #[.int .i64 now, .int .i64 ser, .slice A n c], .int .i64 s] w (NoPost 7 w) := by
  have hb0 : Blk ((w.alloc (.cells #[.int .i64 now, .int .i64 ser, .slice A n c] 25)).alloc (.cells #[.int .i64 0, .int .i64 0, .slice none 0 0] 25)) w.heap.size 25 #[.int .i64 now, .int .i64 ser, .slice A n c] := (Blk.new _ _ _).alloc _
  have hb1 : Blk ((w.alloc (.cells #[.int .i64 now, .int .i64 ser, .slice A n c] 25)).alloc (.cells #[.int .i64 0, .int .i64 0, .slice none 0 0] 25)) (w.heap.size + 1) 25 #[.int .i64 0, .int .i64 0, .slice none 0 0] := Blk.at_ _ _ _ _ (by simp)
  have hB0 : Below w.heap.size w ((w.alloc (.cells #[.int .i64 now, .int .i64 ser, .slice A n c] 25)).alloc (.cells #[.int .i64 0, .int .i64 0, .slice none 0 0] 25)) := ((Below.refl _ _).alloc (Nat.le_refl _) _).alloc (by simp) _
  have hs0 : w.heap.size + 1 < ((w.alloc (.cells #[.int .i64 now, .int .i64 ser, .slice A n c] 25)).alloc (.cells #[.int .i64 0, .int .i64 0, .slice none 0 0] 25)).heap.size := by simp
  have H0 := Lib.hid (h.next hB0)
  have d0 := hb0.cell 0
  have d1 := hb0.cell 1
  have d2 := hb0.cell 2
  simp only [List.getElem?_toArray, List.getElem?_cons_zero, List.getElem?_cons_succ] at d0 d1 d2
  have HB0 := Lib.hid hb0
  have HB1 := Lib.hid hb1
  have HBW := Lib.hid hB0
  have KF := Lib.hid (find_no (now := now) (ser := ser) (h.next hB0) (by omega) hno)
  clear hb0 hb1 hB0 h
  go_enter Try.func12, Try.ntmps12
  go_upto_region 1 with fail
  generalize ((w.alloc (.cells #[.int .i64 now, .int .i64 ser, .slice A n c] 25)).alloc (.cells #[.int .i64 0, .int .i64 0, .slice none 0 0] 25)) = V at *
  go_wp2_with (first
    | (go_at_call 25; (with_reducible refine KF.out.mono ?_); rintro e w2 ⟨rfl, hB2⟩; have HB2 := Lib.hid hB2; clear hB2)
    | (refine wpList_store_blk rfl 25 (.tmp 4) (.tmp 12) rfl (w.heap.size + 1) 25 _ #[.int .i64 0, .int .i64 0, .slice none 0 0] rfl rfl (HB1.out.next HB2.out) rfl (by kernel_rfl) (by simp [Value.oneCell']) ?_; intro w3 hN3 hg3; have HN3 := Lib.hid hN3; have HG3 := Lib.hid hg3; clear hN3 hg3))
  refine bodyPost_ret (lose_results HN3.out rfl _ _ rfl rfl) rfl ⟨rfl, ?_⟩
  have h2 := HBW.out.trans (HB2.out.mono HBW.out.size)
  exact h2.grown HG3.out h2.size (fun k hk => by cases hk; omega)
set_option maxRecDepth 100000 in
set_option maxHeartbeats 4000000 in
theorem Turn_no (now ser s : Int) (A : Option Addr) (n c : Nat) (L : List Pc) (w : World) (h : QR w A n c L) (hn : n ≤ 1000) (hno : ∀ p ∈ L, p.se ≠ s) :
    Calls Try.prog 11 #[.agg #[.int .i64 now, .int .i64 ser, .slice A n c], .int .i64 s, .int .i64 0, .int .i64 1] w (NoPost 7 w) := by
  have hb0 : Blk ((w.alloc (.cells #[.int .i64 now, .int .i64 ser, .slice A n c] 25)).alloc (.cells #[.int .i64 0, .int .i64 0, .slice none 0 0] 25)) w.heap.size 25 #[.int .i64 now, .int .i64 ser, .slice A n c] := (Blk.new _ _ _).alloc _
  have hb1 : Blk ((w.alloc (.cells #[.int .i64 now, .int .i64 ser, .slice A n c] 25)).alloc (.cells #[.int .i64 0, .int .i64 0, .slice none 0 0] 25)) (w.heap.size + 1) 25 #[.int .i64 0, .int .i64 0, .slice none 0 0] := Blk.at_ _ _ _ _ (by simp)
  have hB0 : Below w.heap.size w ((w.alloc (.cells #[.int .i64 now, .int .i64 ser, .slice A n c] 25)).alloc (.cells #[.int .i64 0, .int .i64 0, .slice none 0 0] 25)) := ((Below.refl _ _).alloc (Nat.le_refl _) _).alloc (by simp) _
  have hs0 : w.heap.size + 1 < ((w.alloc (.cells #[.int .i64 now, .int .i64 ser, .slice A n c] 25)).alloc (.cells #[.int .i64 0, .int .i64 0, .slice none 0 0] 25)).heap.size := by simp
  have H0 := Lib.hid (h.next hB0)
  have d0 := hb0.cell 0
  have d1 := hb0.cell 1
  have d2 := hb0.cell 2
  simp only [List.getElem?_toArray, List.getElem?_cons_zero, List.getElem?_cons_succ] at d0 d1 d2
  have HB0 := Lib.hid hb0
  have HB1 := Lib.hid hb1
  have HBW := Lib.hid hB0
  have KF := Lib.hid (find_no (now := now) (ser := ser) (h.next hB0) (by omega) hno)
  clear hb0 hb1 hB0 h
  go_enter Try.func11, Try.ntmps11
  go_upto_region 1 with fail
  generalize ((w.alloc (.cells #[.int .i64 now, .int .i64 ser, .slice A n c] 25)).alloc (.cells #[.int .i64 0, .int .i64 0, .slice none 0 0] 25)) = V at *
  go_wp2_with (first
    | (go_at_call 25; (with_reducible refine KF.out.mono ?_); rintro e w2 ⟨rfl, hB2⟩; have HB2 := Lib.hid hB2; clear hB2)
    | (refine wpList_store_blk rfl 25 (.tmp 8) (.tmp 16) rfl (w.heap.size + 1) 25 _ #[.int .i64 0, .int .i64 0, .slice none 0 0] rfl rfl (HB1.out.next HB2.out) rfl (by kernel_rfl) (by simp [Value.oneCell']) ?_; intro w3 hN3 hg3; have HN3 := Lib.hid hN3; have HG3 := Lib.hid hg3; clear hN3 hg3))
  refine bodyPost_ret (turn_results HN3.out rfl _ _ rfl rfl) rfl ⟨rfl, ?_⟩
  have h2 := HBW.out.trans (HB2.out.mono HBW.out.size)
  exact h2.grown HG3.out h2.size (fun k hk => by cases hk; omega)
set_option maxRecDepth 100000 in
set_option maxHeartbeats 4000000 in
theorem Turn_empty (now ser s : Int) (i : Nat) (p : Pc) (A : Option Addr) (n c : Nat) (L : List Pc) (w : World) (h : QR w A n c L) (hn : n ≤ 1000) (hp : L[i]? = some p) (hs : p.se = s) (hf : ∀ (j : Nat) (q : Pc), j < i → L[j]? = some q → q.se ≠ s) (hz : p.n = 0) :
    Calls Try.prog 11 #[.agg #[.int .i64 now, .int .i64 ser, .slice A n c], .int .i64 s, .int .i64 0, .int .i64 1] w (NoPost 3 w) := by
  have hin : i < n := by have := (List.getElem?_eq_some_iff.1 hp).1; have := h.1; omega
  have hb0 : Blk ((w.alloc (.cells #[.int .i64 now, .int .i64 ser, .slice A n c] 25)).alloc (.cells #[.int .i64 0, .int .i64 0, .slice none 0 0] 25)) w.heap.size 25 #[.int .i64 now, .int .i64 ser, .slice A n c] := (Blk.new _ _ _).alloc _
  have hb1 : Blk ((w.alloc (.cells #[.int .i64 now, .int .i64 ser, .slice A n c] 25)).alloc (.cells #[.int .i64 0, .int .i64 0, .slice none 0 0] 25)) (w.heap.size + 1) 25 #[.int .i64 0, .int .i64 0, .slice none 0 0] := Blk.at_ _ _ _ _ (by simp)
  have hB0 : Below w.heap.size w ((w.alloc (.cells #[.int .i64 now, .int .i64 ser, .slice A n c] 25)).alloc (.cells #[.int .i64 0, .int .i64 0, .slice none 0 0] 25)) := ((Below.refl _ _).alloc (Nat.le_refl _) _).alloc (by simp) _
  have hs0 : w.heap.size + 1 < ((w.alloc (.cells #[.int .i64 now, .int .i64 ser, .slice A n c] 25)).alloc (.cells #[.int .i64 0, .int .i64 0, .slice none 0 0] 25)).heap.size := by simp
  have H0 := Lib.hid (h.next hB0)
  have d0 := hb0.cell 0
  have d1 := hb0.cell 1
  have d2 := hb0.cell 2
  simp only [List.getElem?_toArray, List.getElem?_cons_zero, List.getElem?_cons_succ] at d0 d1 d2
  have HB0 := Lib.hid hb0
  have HB1 := Lib.hid hb1
  have HBW := Lib.hid hB0
  have KF := Lib.hid (find_at (now := now) (ser := ser) (h.next hB0) (by omega) hp hs hf)
  have HP := Lib.hid hp
  have q0 : decide ((i : Int) < 0) = false := by simp
  have z1 : (0 : Int) ≤ (i : Int) := by omega
  have z2 : (i : Int) < (n : Int) := by omega
  clear hb0 hb1 hB0 h hp hs hf
  go_enter Try.func11, Try.ntmps11
  go_upto_region 1 with fail
  generalize ((w.alloc (.cells #[.int .i64 now, .int .i64 ser, .slice A n c] 25)).alloc (.cells #[.int .i64 0, .int .i64 0, .slice none 0 0] 25)) = V at *
  go_upto_region 4 with (first
    | (go_at_call 25; (with_reducible refine KF.out.mono ?_); rintro e w2 ⟨rfl, hB2⟩; have HB2 := Lib.hid hB2; clear hB2))
  obtain ⟨b, off, p', rfl, _, hp', _, _, _, _, _, _, c4⟩ := (H0.out.next HB2.out).row hin
  obtain rfl := Option.some.inj (hp'.symm.trans HP.out)
  rw [hz] at c4
  clear hp' d0 d1 d2
  have d2 := (HB0.out.next HB2.out).cell 2
  simp only [List.getElem?_toArray, List.getElem?_cons_zero, List.getElem?_cons_succ] at d2
  go_wp2_with (first
    | (refine wpList_store_blk rfl 25 (.tmp 8) (.tmp 38) rfl (w.heap.size + 1) 25 _ #[.int .i64 0, .int .i64 0, .slice none 0 0] rfl rfl (HB1.out.next HB2.out) rfl (by kernel_rfl) (by simp [Value.oneCell']) ?_; intro w3 hN3 hg3; have HN3 := Lib.hid hN3; have HG3 := Lib.hid hg3; clear hN3 hg3)
    | go_big_skip)
  refine bodyPost_ret (turn_results HN3.out rfl _ _ rfl rfl) rfl ⟨rfl, ?_⟩
  have h2 := HBW.out.trans (HB2.out.mono HBW.out.size)
  exact h2.grown HG3.out h2.size (fun k hk => by cases hk; omega)
/-- a bus that is answered -/
def BAns (w : World) (e : Ending) (w' : World) : Prop :=
  ∃ (now ser er : Int) (A : Option Addr) (n c : Nat) (L : List Pc), e = .returned (.tuple #[.agg #[.int .i64 now, .int .i64 ser, .slice A n c], .int .i64 er]) ∧ QO w' w.heap.size (.slice A n c) L ∧ L.length = n ∧ n ≤ 1000 ∧ Below w.heap.size w w'
theorem NoPost.ans {k : Int} {w w' : World} {e : Ending} (h : NoPost k w e w') : BAns w e w' := ⟨0, 0, k, none, 0, 0, [], h.1, QO.nil _ _, rfl, Nat.zero_le _, h.2⟩
theorem first_or (s : Int) : ∀ L : List Pc, (∀ p ∈ L, p.se ≠ s) ∨ ∃ (i : Nat) (p : Pc), L[i]? = some p ∧ p.se = s ∧ ∀ (j : Nat) (q : Pc), j < i → L[j]? = some q → q.se ≠ s
  | [] => .inl (fun p hp => by cases hp)
  | a :: L => by
    by_cases e : a.se = s
    · exact .inr ⟨0, a, rfl, e, fun j q hj => absurd hj (Nat.not_lt_zero _)⟩
    · rcases first_or s L with h | ⟨i, p, h1, h2, h3⟩
      · refine .inl (fun p hp => ?_)
        rcases List.mem_cons.1 hp with rfl | hp
        · exact e
        · exact h p hp
      · refine .inr ⟨i + 1, p, by simpa using h1, h2, fun j q hj hq => ?_⟩
        cases j with
        | zero => obtain rfl : a = q := by simpa using hq
                  exact e
        | succ j => exact h3 j q (by omega) (by simpa using hq)
theorem Lose_all (now ser s : Int) (A : Option Addr) (n c : Nat) (L : List Pc) (w : World) (h : QR w A n c L) (hn : n ≤ 1000) :
    Calls Try.prog 12 #[.agg #[.int .i64 now, .int .i64 ser, .slice A n c], .int .i64 s] w (BAns w) := by
  rcases first_or s L with hno | ⟨i, p, h1, h2, h3⟩
  · exact (Lose_no now ser s A n c L w h hn hno).mono fun e w' h => h.ans
  · refine (Lose_ok now ser s i p A n c L w h hn h1 h2 h3).mono fun e w' hp => ?_
    obtain ⟨A', c', L', he, hq, hk, hb⟩ := hp
    have hl := congrArg List.length hk
    rw [List.length_map, List.length_eraseIdx, List.length_map, h.1, if_pos (by have := (List.getElem?_eq_some_iff.1 h1).1; have := h.1; omega)] at hl
    exact ⟨now, ser, 0, A', n - 1, c', L', he, hq, hl, by omega, hb⟩
theorem Turn_all (now ser s : Int) (A : Option Addr) (n c : Nat) (L : List Pc) (w : World) (h : QR w A n c L) (hn : n ≤ 1000) :
    Calls Try.prog 11 #[.agg #[.int .i64 now, .int .i64 ser, .slice A n c], .int .i64 s, .int .i64 0, .int .i64 1] w (BAns w) := by
  rcases first_or s L with hno | ⟨i, p, h1, h2, h3⟩
  · exact (Turn_no now ser s A n c L w h hn hno).mono fun e w' h => h.ans
  · by_cases hz : p.n = 0
    · exact (Turn_empty now ser s i p A n c L w h hn h1 h2 h3 hz).mono fun e w' h => h.ans
    · refine (Turn_ok now ser s 1 0 i p A n c L w h hn h1 h2 h3 (by omega) (by omega) (by omega)).mono fun e w' hp => ?_
      obtain ⟨A', c', L', he, hq, hk, hb⟩ := hp
      have hl := congrArg List.length hk
      rw [List.length_map, List.length_set, List.length_map, h.1] at hl
      exact ⟨now, ser, 0, A', n, c', L', he, hq, hl, hn, hb⟩
end Go.Proofs.Ytdlcjieaoalhoaa.Bs
