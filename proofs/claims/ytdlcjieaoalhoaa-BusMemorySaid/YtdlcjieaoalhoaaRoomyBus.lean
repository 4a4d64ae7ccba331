/- fourwatchkeep.roomyBus: a bus whose lists have marked room behind them. -/
import Derived.Test.YtdlcjieaoalhoaaSmear
import Derived.Test.YtdlcjieaoalhoaaRoomB
import Derived.Test.YtdlcjieaoalhoaaRows4
import Derived.Lib.SliceRun
set_option linter.unusedVariables false
namespace Go.Proofs.Ytdlcjieaoalhoaa.Bs
open Go.RowKit Go.Proofs.Ytdlcjieaoalhoaa Sm Rb

def updN (f : Nat → Nat) (k x : Nat) : Nat → Nat := fun i => if i = k then x else f i
theorem updN_same {f : Nat → Nat} {k x : Nat} : updN f k x k = x := if_pos rfl
theorem updN_far {f : Nat → Nat} {k x j : Nat} (h : j ≠ k) : updN f k x j = f j := if_neg h
/-- a parcel whose bytes lie elsewhere -/
def rmP (p : Pc) (g c : Nat) : Pc := { p with A := some ⟨g, 0, none⟩, c := c }
def rbL (L : List Pc) (gs cs : Nat → Nat) : Nat → List Pc
  | 0 => []
  | i + 1 => rbL L gs cs i ++ (match L[i]? with | some p => [rmP p (gs i) (cs i)] | none => [])
theorem rbL_len {L : List Pc} {gs cs : Nat → Nat} : ∀ i, i ≤ L.length → (rbL L gs cs i).length = i
  | 0, _ => rfl
  | i + 1, h => by
    rw [rbL, List.getElem?_eq_getElem (by omega), List.length_append, rbL_len i (by omega)]; rfl
theorem rbL_congr {L : List Pc} {gs cs gs' cs' : Nat → Nat} : ∀ i, (∀ j, j < i → gs j = gs' j ∧ cs j = cs' j) → rbL L gs cs i = rbL L gs' cs' i
  | 0, _ => rfl
  | i + 1, h => by rw [rbL, rbL, rbL_congr i (fun j hj => h j (by omega)), (h i (by omega)).1, (h i (by omega)).2]
theorem rbL_mem {L : List Pc} {gs cs : Nat → Nat} {y : Pc} : ∀ i, y ∈ rbL L gs cs i → ∃ j p, j < i ∧ L[j]? = some p ∧ y = rmP p (gs j) (cs j)
  | 0, h => by cases h
  | i + 1, h => by
    rw [rbL] at h
    rcases List.mem_append.1 h with h | h
    · obtain ⟨j, x, h1, h2, h3⟩ := rbL_mem i h
      exact ⟨j, x, by omega, h2, h3⟩
    · cases e : L[i]? with
      | none => rw [e] at h; cases h
      | some x => rw [e] at h; exact ⟨i, x, by omega, e, by simpa using h⟩
theorem rbL_get {L : List Pc} {gs cs : Nat → Nat} {j : Nat} {p : Pc} (hx : L[j]? = some p) : ∀ i, j < i → i ≤ L.length → (rbL L gs cs i)[j]? = some (rmP p (gs j) (cs j))
  | 0, h, _ => by omega
  | i + 1, h, hl => by
    rw [rbL]
    rcases Nat.lt_or_ge j i with h1 | h1
    · rw [List.getElem?_append_left (by rw [rbL_len i (by omega)]; exact h1), rbL_get hx i h1 (by omega)]
    · obtain rfl : j = i := by omega
      rw [List.getElem?_append_right (by rw [rbL_len j (by omega)]; exact Nat.le_refl _), rbL_len j (by omega), hx]; simp
theorem rbL_key {L : List Pc} {gs cs : Nat → Nat} : ∀ i, i ≤ L.length → (rbL L gs cs i).map Pc.key = (L.take i).map Pc.key
  | 0, _ => rfl
  | i + 1, h => by
    rw [rbL, List.getElem?_eq_getElem (by omega), List.map_append, rbL_key i (by omega), List.take_add_one, List.getElem?_eq_getElem (by omega), List.map_append]
    rfl
def RbOne (w : World) (B : Nat) (p : Pc) (g c : Nat) : Prop := B ≤ g ∧ p.n + 2 ≤ c ∧ ∃ cur, Blk w g 5 cur ∧ Room8 p.n p.zs cur
theorem RbOne.next {w w' : World} {B g c : Nat} {p : Pc} (h : RbOne w B p g c) (hb : Below w.heap.size w w') : RbOne w' B p g c := ⟨h.1, h.2.1, by obtain ⟨cur, h1, h2⟩ := h.2.2; exact ⟨cur, h1.next hb, h2⟩⟩
def RbIn (w1 : World) (L : List Pc) (gs cs : Nat → Nat) (bv : Value) (i : Nat) (wr : World) : Prop :=
  wr.ownsRow w1.heap.size 35 5 bv i (flat (rbL L gs cs i)) ∧ (∀ j p, j < i → L[j]? = some p → RbOne wr w1.heap.size p (gs j) (cs j)) ∧ Below w1.heap.size w1 wr
def RbRel (w1 : World) (L : List Pc) (bv iv : Value) (wr : World) : Prop := ∃ (i : Nat) (gs cs : Nat → Nat), iv = .int .i64 i ∧ i ≤ L.length ∧ RbIn w1 L gs cs bv i wr
theorem RbRel.put {w1 wr wd we : World} {L : List Pc} {gs cs : Nat → Nat} {bv v' iv : Value} {i g c : Nat} {p : Pc} (h : RbIn w1 L gs cs bv i wr) (hx : L[i]? = some p) (hbd : Below wr.heap.size wr wd)
    (ho : we.ownsRow w1.heap.size 35 5 v' (i + 1) (flat (rbL L gs cs i) ++ (rmP p g c).cells)) (hg : wd.grownBy we bv.ownBlock) (hk : RbOne wd w1.heap.size p g c) (hi : iv = .int .i64 ((i + 1 : Nat) : Int)) : RbRel w1 L v' iv we := by
  obtain ⟨h1, h2, h3⟩ := h
  have hil : i < L.length := (List.getElem?_eq_some_iff.1 hx).1
  have h1d := own_below h1 hbd (fun z hz => (h1.lt z hz).2)
  have up : ∀ q d r, RbOne wd w1.heap.size r q d → RbOne we w1.heap.size r q d := fun q d r hq => ⟨hq.1, hq.2.1, by
    obtain ⟨cur, k1, k2⟩ := hq.2.2
    exact ⟨cur, k1.grown hg (fun e => own_blk_ne h1d k1 (by decide) e), k2⟩⟩
  refine ⟨i + 1, updN gs i g, updN cs i c, hi, by omega, ?_, fun j y hj hy => ?_, ?_⟩
  · rw [rbL, hx, rbL_congr i (gs' := gs) (cs' := cs) (fun j hj => ⟨updN_far (by omega), updN_far (by omega)⟩), updN_same, updN_same, flat_app]
    simpa [flat] using ho
  · rcases Nat.lt_or_ge j i with c | c
    · rw [updN_far (by omega), updN_far (by omega)]
      exact up _ _ _ ((h2 j y c hy).next hbd)
    · obtain rfl : j = i := by omega
      rw [updN_same, updN_same]
      rw [hx] at hy; cases hy
      exact up _ _ _ hk
  · exact (h3.trans (hbd.mono h3.size)).grown hg (by have := h3.size; have := hbd.size; omega) (fun k hk => (h1.lt k hk).1)
/-- what roomyBus answers -/
def RoomyBus (w : World) (B : Nat) (L : List Pc) (n g c : Nat) (gs cs : Nat → Nat) : Prop :=
  B ≤ g ∧ n + 1 ≤ c ∧ w.ownsRow B 35 5 (.slice (some ⟨g, 0, none⟩) (n + 1) c) (n + 1) (flat (rbL L gs cs n) ++ [.int .i64 0, .int .i64 0, .int .i64 0, .int .i64 (-4711), .slice none 0 0]) ∧ ∀ j p, j < n → L[j]? = some p → RbOne w B p (gs j) (cs j)
theorem own_less {w : World} {base base2 size n : Nat} {e : TypeId} {v : Value} {xs : List Value} (h : w.ownsRow base e size v n xs) (hb : base2 ≤ base) : w.ownsRow base2 e size v n xs := by
  refine ⟨h.1, ?_⟩
  rcases h.2 with h1 | ⟨g, cap, cur, hv, hg, r⟩
  · exact .inl h1
  · exact .inr ⟨g, cap, cur, hv, Nat.le_trans hb hg, r⟩
theorem own_cap {w : World} {base size n c : Nat} {e : TypeId} {A : Option Addr} {xs : List Value} (h : w.ownsRow base e size (.slice A n c) n xs) : n ≤ c := by
  rcases h.2 with ⟨h1, h2⟩ | ⟨g, cap, cur, h1, hb, hh, h2, _⟩
  · omega
  · injection h1 with _ _ h3; omega
set_option maxRecDepth 100000 in
set_option maxHeartbeats 8000000 in
theorem roomyBus_any (now ser : Int) (A : Option Addr) (n c : Nat) (L : List Pc) (w : World) (h : QR w A n c L) (hn : n ≤ 1000) :
    Calls Try.prog 13 #[.agg #[.int .i64 now, .int .i64 ser, .slice A n c]] w fun e w' => ∃ g cq gs cs, e = .returned (.agg #[.int .i64 now, .int .i64 ser, .slice (some ⟨g, 0, none⟩) n cq]) ∧ RoomyBus w' w.heap.size L n g cq gs cs ∧ Below w.heap.size w w' := by
  obtain ⟨k0, hk0, kz0, kz1, kz2⟩ := info_parts infoPcS
  have hb0 : Blk ((w.alloc (.cells #[.int .i64 now, .int .i64 ser, .slice A n c] 25)).alloc (.cells #[.int .i64 0, .int .i64 0, .slice none 0 0] 25)) w.heap.size 25 #[.int .i64 now, .int .i64 ser, .slice A n c] := (Blk.new _ _ _).alloc _
  have hb1 : Blk ((w.alloc (.cells #[.int .i64 now, .int .i64 ser, .slice A n c] 25)).alloc (.cells #[.int .i64 0, .int .i64 0, .slice none 0 0] 25)) (w.heap.size + 1) 25 #[.int .i64 0, .int .i64 0, .slice none 0 0] := Blk.at_ _ _ _ _ (by simp)
  have hB0 : Below w.heap.size w ((w.alloc (.cells #[.int .i64 now, .int .i64 ser, .slice A n c] 25)).alloc (.cells #[.int .i64 0, .int .i64 0, .slice none 0 0] 25)) := ((Below.refl _ _).alloc (Nat.le_refl _) _).alloc (by simp) _
  have hs0 : w.heap.size + 1 < ((w.alloc (.cells #[.int .i64 now, .int .i64 ser, .slice A n c] 25)).alloc (.cells #[.int .i64 0, .int .i64 0, .slice none 0 0] 25)).heap.size := by simp
  have H := Lib.hid (h.next hB0)
  have hll := h.1
  have hw2 : IntKind.i64.wrap ((n : Int) + 2) = (n : Int) + 2 := IntWalk.i64_in _ (by omega)
  have d2 := hb0.cell 2
  simp only [List.getElem?_toArray, List.getElem?_cons_zero, List.getElem?_cons_succ] at d2
  have HB0 := Lib.hid hb0
  have HB1 := Lib.hid hb1
  have HBW := Lib.hid hB0
  clear hb0 hb1 hB0 h
  go_enter Try.func13, Try.ntmps13
  go_upto_region 1 with fail
  generalize ((w.alloc (.cells #[.int .i64 now, .int .i64 ser, .slice A n c] 25)).alloc (.cells #[.int .i64 0, .int .i64 0, .slice none 0 0] 25)) = V at *
  go_upto_region 2 with (first
    | (at_make; refine wpList_make_own _ rfl _ _ 23 rfl V.heap.size 35 k0 _ 5 Try.underlying23 hk0 kz0 kz1 .i64 .i64 _ (n + 2) rfl rfl (by push_cast; rfl) (by rw [kz2]; omega) (by unfold maxLen; omega) (Nat.le_refl _) ?_; intro w2 ho2 hg2; have HO2 := Lib.hid ho2; have HG2 := Lib.hid hg2; clear ho2 hg2))
  have hb2 : Below V.heap.size V w2 := (Below.refl _ _).grown HG2.out (Nat.le_refl _) (fun j e => by cases e)
  have d2 := (HB0.out.next hb2).cell 2
  simp only [List.getElem?_toArray, List.getElem?_cons_zero, List.getElem?_cons_succ] at d2
  have HBV := Lib.hid hb2
  clear hb2
  go_upto_region 3 with fail
  go_loopw [3, 14] (fun bv iv wr => RbRel V L bv iv wr) (fun _ iv _ => n - (intOf iv).toNat)
  case atStart => exact ⟨0, fun _ => 0, fun _ => 0, rfl, Nat.zero_le _, HO2.out, fun _ _ h => absurd h (Nat.not_lt_zero _), HBV.out⟩
  case round =>
    clear d2
    obtain ⟨Y, rfl⟩ : ∃ W : World, W = wr := ⟨_, rfl⟩
    obtain ⟨i, gs, cs, rfl, hi, hIn⟩ := hrel
    obtain ⟨Av, cv, rfl⟩ := own_shape hIn.1
    rw [hll] at hi
    have hsY := hIn.2.2.size
    have HI := Lib.hid hIn
    clear hIn
    by_cases hin : i < n
    · obtain ⟨b, off, p, rfl, hlt, hp, hpm, hpr, c0, c1, c2, c3, c4⟩ := (H.out.next HI.out.2.2).row hin
      have z1 : (0 : Int) ≤ (i : Int) := by omega
      have z2 : (i : Int) < (n : Int) := by omega
      have HP := Lib.hid hp
      have HPR := Lib.hid hpr
      clear hp hpm hpr
      go_upto_region 5 with fail
      have hG : Blk (Y.alloc (.cells #[.int .i64 p.fr, .int .i64 p.to, .int .i64 p.du, .int .i64 p.se, .slice p.A p.n p.c] 35)) Y.heap.size 35 #[.int .i64 p.fr, .int .i64 p.to, .int .i64 p.du, .int .i64 p.se, .slice p.A p.n p.c] := Blk.new _ _ _
      have hb5 : Below Y.heap.size Y (Y.alloc (.cells #[.int .i64 p.fr, .int .i64 p.to, .int .i64 p.du, .int .i64 p.se, .slice p.A p.n p.c] 35)) := (Below.refl _ _).alloc (Nat.le_refl _) _
      have hs5 : Y.heap.size < (Y.alloc (.cells #[.int .i64 p.fr, .int .i64 p.to, .int .i64 p.du, .int .i64 p.se, .slice p.A p.n p.c] 35)).heap.size := by simp
      generalize (Y.alloc (.cells #[.int .i64 p.fr, .int .i64 p.to, .int .i64 p.du, .int .i64 p.se, .slice p.A p.n p.c] 35)) = w5 at *
      clear c0 c1 c2 c3 c4
      have c4 : w5.cell? ⟨Y.heap.size, 4, none⟩ = some (.slice p.A p.n p.c) := hG.cell 4
      have KR := Lib.hid (roomyBytes_any p.A p.n p.c p.zs w5 (HPR.out.next hb5).1 HPR.out.2.1 (by have := HPR.out.2.2.1; omega))
      have HG := Lib.hid hG
      have HB5 := Lib.hid hb5
      clear hG hb5
      go_upto_region 6 with (first
        | (go_at_call 14; (with_reducible refine KR.out.mono ?_); rintro e w6 ⟨g, c', cur, rfl, hc', hk6, hr8, hg6, hb6⟩; have h7 := HG.out.next hb6; have d4 := h7.cell 4; have f4 := h7.frozen 4; have HG7 := Lib.hid h7; have HK6 := Lib.hid hk6; have HR8 := Lib.hid hr8; have HB6 := Lib.hid hb6; have hs6 := hb6.size; clear h7 hk6 hr8 hb6))
      have hG8 : Blk (w6.setCell ⟨Y.heap.size, 4, none⟩ (.slice (some ⟨g, 0, none⟩) p.n c')) Y.heap.size 35 #[.int .i64 p.fr, .int .i64 p.to, .int .i64 p.du, .int .i64 p.se, .slice (some ⟨g, 0, none⟩) p.n c'] := HG7.out.set_ 4 _
      have hK8 : Blk (w6.setCell ⟨Y.heap.size, 4, none⟩ (.slice (some ⟨g, 0, none⟩) p.n c')) g 5 cur := HK6.out.grown (grown_set _ _ _ _) (by intro e; have := Option.some.inj e; omega)
      have hb8 : Below Y.heap.size Y (w6.setCell ⟨Y.heap.size, 4, none⟩ (.slice (some ⟨g, 0, none⟩) p.n c')) := (HB5.out.trans (HB6.out.mono (Nat.le_of_lt hs5))).setCell (p := ⟨Y.heap.size, 4, none⟩) (Nat.le_refl _) _
      clear d4 f4
      generalize (w6.setCell ⟨Y.heap.size, 4, none⟩ (.slice (some ⟨g, 0, none⟩) p.n c')) = w8 at *
      have hs8 := hb8.size
      have hn9 : Blk (w8.alloc (.cells #[.int .i64 p.fr, .int .i64 p.to, .int .i64 p.du, .int .i64 p.se, .slice (some ⟨g, 0, none⟩) p.n c'] 35)) w8.heap.size 35 #[.int .i64 p.fr, .int .i64 p.to, .int .i64 p.du, .int .i64 p.se, .slice (some ⟨g, 0, none⟩) p.n c'] := Blk.new _ _ _
      have hb9 : Below Y.heap.size Y (w8.alloc (.cells #[.int .i64 p.fr, .int .i64 p.to, .int .i64 p.du, .int .i64 p.se, .slice (some ⟨g, 0, none⟩) p.n c'] 35)) := hb8.alloc hs8 _
      have hr9 : RbOne (w8.alloc (.cells #[.int .i64 p.fr, .int .i64 p.to, .int .i64 p.du, .int .i64 p.se, .slice (some ⟨g, 0, none⟩) p.n c'] 35)) V.heap.size p g c' := ⟨by omega, hc', cur, hK8.alloc _, HR8.out⟩
      have hv9 : VR (w8.alloc (.cells #[.int .i64 p.fr, .int .i64 p.to, .int .i64 p.du, .int .i64 p.se, .slice (some ⟨g, 0, none⟩) p.n c'] 35)) 5 (some ⟨w8.heap.size, 0, none⟩) 1 1 (rmP p g c').cells := ⟨rfl, (fun e => by cases e), fun _ => ⟨w8.heap.size, 0, rfl, hn9.lt, fun j u hu => by rw [Nat.zero_add, hn9.cell]; rw [← hu]; exact (List.getElem?_toArray ..)⟩⟩
      have ho9 := own_below HI.out.1 hb9 (fun z hz => (HI.out.1.lt z hz).2)
      have hsw4 : V.heap.size ≤ (w8.alloc (.cells #[.int .i64 p.fr, .int .i64 p.to, .int .i64 p.du, .int .i64 p.se, .slice (some ⟨g, 0, none⟩) p.n c'] 35)).heap.size := Nat.le_trans HI.out.2.2.size hb9.size
      have e0 := hG8.cell 0
      have e1 := hG8.cell 1
      have e2 := hG8.cell 2
      have e3 := hG8.cell 3
      have e4 := hG8.cell 4
      simp only [List.getElem?_toArray, List.getElem?_cons_zero, List.getElem?_cons_succ] at e0 e1 e2 e3 e4
      have HB9 := Lib.hid hb9
      have HR9 := Lib.hid hr9
      have HV9 := Lib.hid hv9
      have HO9 := Lib.hid ho9
      clear hG8 hb8 hb9 hr9 hv9 ho9 hn9 hK8 HG7 HK6 HR8 HB6 HB5 HG
      go_upto_region 7 with (first
        | (at_builtin; go_loud (refine wpList_append_vr _ _ 23 rfl rfl V.heap.size 35 k0 _ 5 56 Try.underlying23 hk0 kz0 kz1 kz2 rfl (by decide) (.slice Av i cv) i (flat (rbL L gs cs i)) rfl HO9.out (some ⟨w8.heap.size, 0, none⟩) 1 1 (rmP p g c').cells rfl HV9.out (by intro u hu; simp only [rmP, Pc.cells, List.mem_cons, List.not_mem_nil, or_false] at hu; rcases hu with rfl | rfl | rfl | rfl | rfl <;> rfl) (by unfold maxLen; omega) (by omega) hsw4 ?_); intro v10 w10 ho10 hg10; have HO10 := Lib.hid ho10; have HG10 := Lib.hid hg10; clear ho10 hg10))
      go_wp2_with fail
      go_roundw
      case rel => exact RbRel.put HI.out HP.out HB9.out HO10.out HG10.out HR9.out (by go_num)
      case measure => simp [intOf]; omega
    · obtain rfl : n = i := by omega
      have hvA : VR (Y.alloc (.cells #[.int .i64 0, .int .i64 0, .int .i64 0, .int .i64 (-4711), .slice none 0 0] 35)) 5 (some ⟨Y.heap.size, 0, none⟩) 1 1 [.int .i64 0, .int .i64 0, .int .i64 0, .int .i64 (-4711), .slice none 0 0] := ⟨rfl, (fun e => by cases e), fun _ => ⟨Y.heap.size, 0, rfl, by simp, fun j u hu => by rw [Nat.zero_add, (Blk.new Y 35 #[.int .i64 0, .int .i64 0, .int .i64 0, .int .i64 (-4711), .slice none 0 0]).cell]; rw [← hu]; exact (List.getElem?_toArray ..)⟩⟩
      have hoA := HI.out.1.alloc (.cells #[.int .i64 0, .int .i64 0, .int .i64 0, .int .i64 (-4711), .slice none 0 0] 35)
      have hbA : Below Y.heap.size Y (Y.alloc (.cells #[.int .i64 0, .int .i64 0, .int .i64 0, .int .i64 (-4711), .slice none 0 0] 35)) := (Below.refl _ _).alloc (Nat.le_refl _) _
      have hsA : V.heap.size ≤ (Y.alloc (.cells #[.int .i64 0, .int .i64 0, .int .i64 0, .int .i64 (-4711), .slice none 0 0] 35)).heap.size := Nat.le_trans hsY hbA.size
      have b0 := (HB0.out.next HI.out.2.2).next hbA
      have b1 := (HB1.out.next HI.out.2.2).next hbA
      have m2 := (HB0.out.next HI.out.2.2).cell 2
      simp only [List.getElem?_toArray, List.getElem?_cons_zero, List.getElem?_cons_succ] at m2
      have HVA := Lib.hid hvA
      have HOA := Lib.hid hoA
      have HBA := Lib.hid hbA
      have HB0A := Lib.hid b0
      have HB1A := Lib.hid b1
      clear hvA hoA hbA b0 b1
      go_upto_region 9 with (first
        | (at_builtin; go_loud (refine wpList_append_vr _ _ 23 rfl rfl V.heap.size 35 k0 _ 5 56 Try.underlying23 hk0 kz0 kz1 kz2 rfl (by decide) (.slice Av n cv) n (flat (rbL L gs cs n)) rfl HOA.out (some ⟨Y.heap.size, 0, none⟩) 1 1 [.int .i64 0, .int .i64 0, .int .i64 0, .int .i64 (-4711), .slice none 0 0] rfl HVA.out (by intro u hu; simp only [List.mem_cons, List.not_mem_nil, or_false] at hu; rcases hu with rfl | rfl | rfl | rfl | rfl <;> rfl) (by unfold maxLen; omega) (by omega) hsA ?_); intro v2 W2 ho2 hg2; (obtain ⟨A2, c2, rfl⟩ := own_shape ho2); (obtain ⟨g', cur', rfl, hg', hl', hk', hs'⟩ := own_at ho2 (by omega)); (have hcn := own_cap ho2); have q1 : (0 : Int) ≤ (n : Int) := (by omega); have q2 : (n : Int) ≤ (c2 : Int) := (by omega); have hbW := HB0A.out.grown hg2 (fun e => own_blk_ne HOA.out HB0A.out (by decide) e); have hbW1 := HB1A.out.grown hg2 (fun e => own_blk_ne HOA.out HB1A.out (by decide) e); have n2 := hbW.cell 2; have f2 := hbW.frozen 2; have HO3 := Lib.hid ho2; have HG3 := Lib.hid hg2; have HBW0 := Lib.hid hbW; have HBW1 := Lib.hid hbW1; clear ho2 hg2 hbW hbW1 hk'))
      have hb9 : Blk (W2.setCell ⟨w.heap.size, 2, none⟩ (.slice (some ⟨g', 0, none⟩) n c2)) w.heap.size 25 #[.int .i64 now, .int .i64 ser, .slice (some ⟨g', 0, none⟩) n c2] := HBW0.out.set_ 2 _
      have hc9 : Blk (W2.setCell ⟨w.heap.size, 2, none⟩ (.slice (some ⟨g', 0, none⟩) n c2)) (w.heap.size + 1) 25 #[.int .i64 0, .int .i64 0, .slice none 0 0] := HBW1.out.grown (grown_set _ _ _ _) (by intro e; have := Option.some.inj e; omega)
      have ho9 := own_kept_t HO3.out (grown_set W2 w.heap.size 2 (.slice (some ⟨g', 0, none⟩) n c2)) HBW0.out (by decide)
      have hr9 : ∀ j p, j < n → L[j]? = some p → RbOne (W2.setCell ⟨w.heap.size, 2, none⟩ (.slice (some ⟨g', 0, none⟩) n c2)) V.heap.size p (gs j) (cs j) := fun j p hj hp => by
        have h1 := (HI.out.2.1 j p hj hp).next HBA.out
        obtain ⟨k1, k2, cur, k3, k4⟩ := h1
        have k5 := k3.grown HG3.out (fun e => own_blk_ne HOA.out k3 (by decide) e)
        exact ⟨k1, k2, cur, k5.grown (grown_set _ _ _ _) (by intro e; have := Option.some.inj e; omega), k4⟩
      have hB2 := (HI.out.2.2.trans (HBA.out.mono hsY)).grown HG3.out hsA (fun k hk => (HOA.out.lt k hk).1)
      have hs2 := hB2.size
      have hB9 : Below w.heap.size w (W2.setCell ⟨w.heap.size, 2, none⟩ (.slice (some ⟨g', 0, none⟩) n c2)) := (HBW.out.trans (hB2.mono (by omega))).setCell (p := ⟨w.heap.size, 2, none⟩) (Nat.le_refl _) _
      clear n2 f2 m2
      have e0 := hb9.cell 0
      have e1 := hb9.cell 1
      have e2 := hb9.cell 2
      simp only [List.getElem?_toArray, List.getElem?_cons_zero, List.getElem?_cons_succ] at e0 e1 e2
      have hl9 := hb9.lt
      generalize (W2.setCell ⟨w.heap.size, 2, none⟩ (.slice (some ⟨g', 0, none⟩) n c2)) = w9 at *
      have HC9 := Lib.hid hc9
      have HO9 := Lib.hid ho9
      have HR9 := Lib.hid hr9
      have HB9 := Lib.hid hB9
      clear hb9 hc9 ho9 hr9 hB9 hB2
      go_wp2_with (first
        | (refine wpList_store_blk rfl 25 (.tmp 2) (.tmp 35) rfl (w.heap.size + 1) 25 _ #[.int .i64 now, .int .i64 ser, .slice (some ⟨g', 0, none⟩) n c2] rfl rfl HC9.out rfl (by kernel_rfl) (by simp [Value.oneCell']) ?_; intro w10 hN10 hg10; have HN10 := Lib.hid hN10; have HG10 := Lib.hid hg10; clear hN10 hg10))
      refine bodyPost_ret (results_cell_row Try.results13 _ _ (w.heap.size + 1) _ _ (0, 0) _ rfl HN10.out Try.underlying25 rfl (by kernel_rfl)) rfl ?_
      refine ⟨g', c2, gs, cs, rfl, ⟨by omega, hcn, own_less (own_kept_t HO9.out HG10.out HC9.out (by decide)) (by omega), fun j p hj hp => ?_⟩, HB9.out.grown HG10.out HB9.out.size (fun k hk => by cases hk; omega)⟩
      obtain ⟨k1, k2, cur, k3, k4⟩ := HR9.out j p hj hp
      exact ⟨by omega, k2, cur, k3.grown HG10.out (by intro e; have := Option.some.inj e; omega), k4⟩
end Go.Proofs.Ytdlcjieaoalhoaa.Bs
