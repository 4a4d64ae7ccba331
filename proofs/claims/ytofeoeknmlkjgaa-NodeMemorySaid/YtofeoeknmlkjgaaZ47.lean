/- Merged: Roomy. -/
import Derived.Deep.QuietTactic
import Derived.Laws.CopyOwn
import Derived.Laws.MakeOwn
import Derived.Test.YtofeoeknmlkjgaaProg
import Derived.Test.YtofeoeknmlkjgaaZ12
set_option linter.unusedVariables false
set_option linter.unusedSimpArgs false
section
/- fourwatchkeep.roomy, same, stayed: a list with marked room behind it; does it still hold what it held? -/
set_option linter.unusedVariables false
namespace Go.Proofs.Ytofeoeknmlkjgaa.Ro
open Go.RowKit Go.Proofs.Ytofeoeknmlkjgaa

section
variable {P : Program} {w : World} {ops : Array Oper} {rest : List Oper} {o : Oper} {a : Act} {Q : Exit → Act → World → Prop}
theorem made_repl (n : Nat) : madeCells #[Value.int .i64 0] n = (List.replicate n (Value.int .i64 0)).toArray := by
  apply Array.ext
  · simp [madeCells]
  · intro j h1 h2
    simp [madeCells, Nat.mod_one]
theorem wpList_make_many (hg : o.guard = none) (l c : Operand) (t : TypeId) (hop : o.op = Op.makeSlice t l c)
    (e : TypeId) (i : TypeInfo) (h1 : P.underlying t = some (.slice e)) (h2 : P.info? e = some i) (h3 : i.zero = some (.int .i64 0)) (h4 : i.size = 1) (h5 : i.bytes = 8)
    (L : Int) (n : Nat) (hl : a.eval l = .int .i64 L) (hc : a.eval c = .int .i64 L) (hL : L = (n : Int)) (hn : n * 8 ≤ 281474976710656)
    (hK : wpList P ops Q rest (a.put o.dst (.slice (some ⟨w.heap.size, 0, none⟩) n n)) (w.alloc (.cells (List.replicate n (.int .i64 0)).toArray e))) : wpList P ops Q (o :: rest) a w := by
  refine wpList_plain hg fun K hK' => ?_
  subst hL
  have hr := run_make (P := P) w t e i _ h1 h2 h3 .i64 .i64 n n (by omega) (Int.le_refl _) (by rw [h5]; omega) (by omega)
  have ez : (Value.int .i64 0).cells = #[Value.int .i64 0] := rfl
  rw [h4, Nat.mul_one, ez, Int.toNat_natCast, made_repl] at hr
  unfold Oper.wp
  simp [execOp, hop, hl, hc, hr, Result.andThen]
  exact hK' _ _ hK
end

def roomC (zs : List Int) : Array Value := (zs.map (Value.int .i64) ++ [Value.int .i64 (-4711), Value.int .i64 (-4712)]).toArray
theorem splice_room (zs : List Int) : splice (List.replicate (zs.length + 2) (Value.int .i64 0)) 0 (zs.map (Value.int .i64)) = zs.map (Value.int .i64) ++ [Value.int .i64 0, Value.int .i64 0] := by
  have e : List.drop zs.length (List.replicate (zs.length + 2) (Value.int .i64 0)) = [Value.int .i64 0, Value.int .i64 0] := by
    rw [List.drop_replicate, show zs.length + 2 - zs.length = 2 by omega]; rfl
  unfold splice
  rw [List.take_zero, List.nil_append, List.length_map, Nat.zero_add, e]
theorem room_set (zs : List Int) : (((zs.map (Value.int .i64) ++ [Value.int .i64 0, Value.int .i64 0]).toArray.setIfInBounds zs.length (.int .i64 (-4711))).setIfInBounds (zs.length + 1) (.int .i64 (-4712))) = roomC zs := by
  unfold roomC
  simp [List.set_append_right]
theorem room_get {zs : List Int} {j : Nat} (h : j < zs.length) : (roomC zs)[j]? = some (.int .i64 (zs.getD j 0)) := by
  unfold roomC
  simp [List.getElem?_append_left, h, List.getD]
theorem room_get1 (zs : List Int) : (roomC zs)[zs.length]? = some (.int .i64 (-4711)) := by
  unfold roomC
  simp [List.getElem?_append_right]
theorem room_get2 (zs : List Int) : (roomC zs)[zs.length + 1]? = some (.int .i64 (-4712)) := by
  unfold roomC
  simp [List.getElem?_append_right]
theorem room_ints {w : World} {g n : Nat} {t : TypeId} {zs : List Int} (hl : zs.length = n) (h : Blk w g t (roomC zs)) : Ints w .i64 (some ⟨g, 0, none⟩) n zs :=
  ⟨hl, fun _ => ⟨g, 0, rfl, h.lt, fun j hj => by rw [Nat.zero_add, h.cell j, room_get (by omega)]⟩⟩
theorem room2 {w2 : World} {g n : Nat} {t : TypeId} {zs : List Int} (hl : zs.length = n) (h : w2.heap[g]? = some (.cells (splice (List.replicate (n + 2) (Value.int .i64 0)) 0 (zs.map (Value.int .i64))).toArray t (0, 0))) :
    Blk w2 g t (zs.map (Value.int .i64) ++ [Value.int .i64 0, Value.int .i64 0]).toArray ∧ w2.cell? ⟨g, n, none⟩ = some (.int .i64 0) ∧ w2.cell? ⟨g, n + 1, none⟩ = some (.int .i64 0) ∧ w2.frozen? ⟨g, n, none⟩ = false ∧ w2.frozen? ⟨g, n + 1, none⟩ = false := by
  subst hl
  rw [splice_room] at h
  have hb : Blk w2 g t (zs.map (Value.int .i64) ++ [Value.int .i64 0, Value.int .i64 0]).toArray := h
  refine ⟨hb, ?_, ?_, hb.frozen _, hb.frozen _⟩
  · rw [hb.cell]; simp [List.getElem?_append_right]
  · rw [hb.cell]; simp [List.getElem?_append_right]
theorem infoInt : (Try.prog.info? 3).map (fun i => (i.zero, i.size, i.bytes)) = some (some (.int .i64 0), 1, 8) := by kernel_rfl

set_option maxRecDepth 100000 in
set_option maxHeartbeats 1000000 in
theorem roomy_any (A : Option Addr) (n c : Nat) (zs : List Int) (w : World) (h : Ints w .i64 A n zs) (hn : n * 8 ≤ 140737488355328) :
    Calls Try.prog 16 #[.slice A n c] w fun e w' => e = .returned (.slice (some ⟨w.heap.size, 0, none⟩) n (n + 2)) ∧ Blk w' w.heap.size 3 (roomC zs) ∧ Below w.heap.size w w' := by
  obtain ⟨i0, hi, hz0, hz1, hz2⟩ := info_parts infoInt
  have hsz : (Try.prog.info? 3).map (·.size) = some 1 := by rw [hi]; simp [hz1]
  obtain ⟨hzl, hI⟩ := h
  have hsrc : 0 < (zs.map (Value.int .i64)).length → (some (⟨w.heap.size, 0, none⟩ : Addr) = some ⟨w.heap.size, 0, none⟩) ∧ ∃ ad, A = some ad ∧ ∀ j v, (zs.map (Value.int .i64))[j]? = some v → (w.alloc (.cells (List.replicate (n + 2) (.int .i64 0)).toArray 3)).cell? (ad.add j) = some v := by
    intro hp
    rw [List.length_map] at hp
    obtain ⟨b, off, rfl, hlt, hc⟩ := hI (by omega)
    refine ⟨rfl, _, rfl, fun j v hv => ?_⟩
    have hj : j < zs.length := by
      rcases Nat.lt_or_ge j zs.length with h | h
      · exact h
      · rw [List.getElem?_eq_none (by simpa using h)] at hv; cases hv
    have e := (((Below.refl w.heap.size w).alloc (Nat.le_refl _) (.cells (List.replicate (n + 2) (.int .i64 0)).toArray 3)).cell (p := ⟨b, off + j, none⟩) hlt).trans (hc j (by omega))
    have e2 : (⟨b, off, none⟩ : Addr).add j = ⟨b, off + j, none⟩ := by simp [Addr.add]
    rw [e2, e]
    simp only [List.getElem?_map, List.getElem?_eq_getElem hj, Option.map_some] at hv
    simp only [List.getD, List.getElem?_eq_getElem hj, Option.getD_some]
    exact hv
  have HS := Lib.hid hsrc
  have HL := Lib.hid hzl
  have hN := Blk.new w 3 (List.replicate (n + 2) (.int .i64 0)).toArray
  have HN := Lib.hid hN
  have q1 : (0 : Int) ≤ (n : Int) := by omega
  have q2 : (n : Int) < (n : Int) + 2 := by omega
  have q3 : (n : Int) + 1 < (n : Int) + 2 := by omega
  have q4 : (0 : Int) ≤ (n : Int) + 1 := by omega
  have q5 : (n : Int) ≤ (n : Int) + 2 := by omega
  have q6 : ((n : Int) + 1).toNat = n + 1 := by omega
  clear hsrc hzl hN hI
  go_enter Try.func16, Try.ntmps16
  go_wp2_with (first
    | (refine wpList_make_many rfl (.tmp 6) (.tmp 6) 58 rfl 3 i0 Try.underlying58 hi hz0 hz1 hz2 _ (n + 2) rfl rfl (by push_cast; rfl) (by omega) ?_)
    | (refine wpList_copy_splice rfl (.tmp 8) (.tmp 9) 58 58 rfl 3 Try.underlying58 hsz (some ⟨w.heap.size, 0, none⟩) A (n + 2) (n + 2) n c rfl rfl w.heap.size 0 (List.replicate (n + 2) (.int .i64 0)) 3 HN.out (zs.map (Value.int .i64)) (by have := HL.out; rw [List.length_map]; show _ = min n (n + 2); omega) HS.out (by have := HL.out; rw [List.length_map, List.length_replicate]; omega) (by intro v hv; obtain ⟨q, _, rfl⟩ := List.mem_map.1 hv; rfl) w.heap.size w ((Below.refl _ _).alloc (Nat.le_refl _) _) (Nat.le_refl _) ?_; intro w2 hg2 hb2; (obtain ⟨hg3, d0, d1, f0, f1⟩ := room2 HL.out hg2.out); have HG := Lib.hid hg3; clear hg3 hg2))
  go_ret
  refine ⟨rfl, ?_, (hb2.setCell (Nat.le_refl _) _).setCell (Nat.le_refl _) _⟩
  rw [← room_set, HL.out]
  exact (HG.out.set_ _ _).set_ _ _

def SameRel (n : Nat) (w : World) (i : Value) (wr : World) : Prop := ∃ j : Nat, j ≤ n ∧ i = .int .i64 j ∧ Below w.heap.size w wr

set_option maxRecDepth 100000 in
set_option maxHeartbeats 1000000 in
theorem same_true (A B : Option Addr) (n c d : Nat) (zs : List Int) (w : World) (h : Ints w .i64 A n zs) (h2 : Ints w .i64 B n zs) (hn : n ≤ 140737488355328) :
    Calls Try.prog 48 #[.slice A n c, .slice B n d] w fun e w' => e = .returned (.bool true) ∧ Below w.heap.size w w' := by
  have H := Lib.hid h
  have H2 := Lib.hid h2
  clear h h2
  have t1 : ((n : Int) != (n : Int)) = false := by simp
  go_enter Try.func48, Try.ntmps48
  go_wp2_with fail
  go_loopw [5] (fun i wr => SameRel n w i wr) (fun i _ => n - (intOf i).toNat)
  case atStart => exact ⟨0, by omega, rfl, Below.refl _ _⟩
  case round =>
    obtain ⟨j, hj, rfl, hb⟩ := hrel
    by_cases hjn : j < n
    · obtain ⟨b, off, rfl, hlt, hc⟩ := H.out.2 (by omega)
      obtain ⟨b2, off2, rfl, hlt2, hc2⟩ := H2.out.2 (by omega)
      have d0 := (hb.cell (p := ⟨b, off + j, none⟩) hlt).trans (hc j hjn)
      have d1 := (hb.cell (p := ⟨b2, off2 + j, none⟩) hlt2).trans (hc2 j hjn)
      clear hc hc2
      generalize zs.getD j 0 = z at *
      have t2 : (z != z) = false := by simp
      have hz1 : (0 : Int) ≤ (j : Int) := by omega
      have hz2 : (j : Int) < (n : Int) := by omega
      have HB := Lib.hid hb
      clear hb
      go_wp2_with fail
      go_quiet (fail)
      go_wp2_with fail
      go_roundw
      case rel => exact ⟨j + 1, by omega, by go_num, HB.out.trans (below_drewN _ _ _)⟩
      case measure => simp [intOf]; omega
    · obtain rfl : j = n := by omega
      go_wp2_with fail
      go_ret
      exact ⟨rfl, hb⟩

set_option maxRecDepth 100000 in
set_option maxHeartbeats 1000000 in
theorem stayed_any (A : Option Addr) (g n c : Nat) (zs : List Int) (w : World) (hg : Blk w g 3 (roomC zs)) (h : Ints w .i64 A n zs) (hn : n ≤ 140737488355328) :
    Calls Try.prog 23 #[.slice (some ⟨g, 0, none⟩) n (n + 2), .slice A n c] w fun e w' => e = .returned (.bool true) ∧ Below w.heap.size w w' := by
  have hzl := h.1
  have ks := same_true (some ⟨g, 0, none⟩) A n (n + 2) c zs w (room_ints hzl hg) h hn
  have KS := Lib.hid ks
  have H := Lib.hid (fun W (hW : Below w.heap.size w W) => hg.next hW)
  have HL := Lib.hid hzl
  have q1 : (0 : Int) ≤ (n : Int) := by omega
  have q2 : (n : Int) < (n : Int) + 2 := by omega
  have q3 : (n : Int) + 1 < (n : Int) + 2 := by omega
  have q4 : (0 : Int) ≤ (n : Int) + 1 := by omega
  have q6 : ((n : Int) + 1).toNat = n + 1 := by omega
  have q7 : (0 : Int) ≤ (n : Int) + 2 := by omega
  clear ks hg h hzl
  go_enter Try.func23, Try.ntmps23
  go_wp2_with fail
  refine KS.out.mono ?_
  rintro e w1 ⟨rfl, hB1⟩
  have hb := H.out _ hB1
  have d0 := hb.cell n
  have d1 := hb.cell (n + 1)
  have e0 := room_get1 zs
  have e1 := room_get2 zs
  rw [HL.out] at e0 e1
  rw [e0] at d0
  rw [e1] at d1
  have HB := Lib.hid hB1
  clear hB1 hb e0 e1
  go_wp2_with fail
  go_ret
  exact ⟨rfl, HB.out⟩
end Go.Proofs.Ytofeoeknmlkjgaa.Ro
end
