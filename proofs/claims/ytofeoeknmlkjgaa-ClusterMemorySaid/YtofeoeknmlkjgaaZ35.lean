/- Merged: WireDec2. -/
import Derived.Deep.RegionHeld3
import Derived.RangeFuncCalls
import Derived.Stop.RegionWithIn
import Derived.Test.YtofeoeknmlkjgaaZ34
set_option linter.unusedVariables false
set_option linter.unusedSimpArgs false
section
/- The contract of wire.Decode: bytes that pass the tests ahead of the numbers. -/
set_option linter.unusedVariables false
namespace Go.Proofs.Ytofeoeknmlkjgaa.Wr
open Go.RowKit Go.Proofs.Ytofeoeknmlkjgaa Crc Go.Proofs Go.Shelf
attribute [local go_sem] Oper.semAt_some

def DecGood (zs : List Int) (w : World) (e : Ending) (w' : World) : Prop := ∃ k f r vs A c, IsMsg zs k f r vs ∧ e = .returned (.tuple #[.agg #[.int .i64 k, .int .i64 f, .int .i64 r, .slice A vs.length c], .int .i64 0]) ∧
  w'.ownsRow w.heap.size 3 1 (.slice A vs.length c) vs.length (vs.map (Value.int .i64)) ∧ Below w.heap.size w w'
def DecPost (zs : List Int) (w : World) (e : Ending) (w' : World) : Prop := DecGood zs w e w' ∨ DecBad zs w e w'

theorem infoIntW : (Try.prog.info? 3).map (fun i => (i.zero, i.size, i.bytes)) = some (some (.int .i64 0), 1, 8) := by kernel_rfl
theorem get_in (l : Nat) (A : Option Addr) (n c : Nat) (zs : List Int) (w : World) (h : Ints w .u8 A n zs) (hz : Byts zs) (hn : n ≤ 1000) (q : Nat) : CallsIn Fence.wide q Try.prog 110 #[.slice A n c] w fun e w' => e = .returned (.int .i64 (gv zs)) ∧ w = w' :=
  callsIn_wide.2 (get_any A n c zs w h hz hn)

theorem ints_sub {w : World} {kd : IntKind} {b off n o m : Nat} {zs : List Int} (h : Ints w kd (some ⟨b, off, none⟩) n zs) (hm : o + m ≤ n) : Ints w kd (some ⟨b, off + o, none⟩) m ((zs.drop o).take m) := by
  have hl := h.1
  refine ⟨by simp; omega, fun h0 => ?_⟩
  obtain ⟨_, _, e, hlt, hc⟩ := h.2 (by omega)
  cases e
  refine ⟨b, off + o, rfl, hlt, fun j hj => ?_⟩
  rw [Nat.add_assoc, hc (o + j) (by omega)]
  simp [List.getD, List.getElem?_take, List.getElem?_drop, hj]
theorem cut8 {P : Program} {t e : TypeId} {i : TypeInfo} (ht : P.underlying t = some (.slice e)) (hi : P.info? e = some i) (h1 : i.size = 1) (b off n c q : Nat) (hn : n = 8 + 8 * q) (hc : n ≤ c) :
    ∃ A' : Option Addr, (0 < q → A' = some ⟨b, off + 8, none⟩) ∧ ∀ W : World, (Instr.slice t (.slice (some ⟨b, off, none⟩) n c) (some (.int .i64 8)) none none).run P W = .ok (.slice A' (8 * q) (c - 8)) W := by
  subst hn
  refine ⟨if c = 8 then some ⟨b, off, none⟩ else some ⟨b, off + 8, none⟩, fun h => by rw [if_neg (by omega)], fun W => ?_⟩
  have e1 : (Instr.sliceBound (.int .i64 8) (8 + 8 * q) .sliceB).run P W = .ok 8 W := by
    have : (8 : Int) ≤ 8 + 8 * (q : Int) := by omega
    simp [Instr.sliceBound, asIntOf, this, go_sem]
  simp [Instr.slice, Instr.sliceBounds, run_underlying ht, sizeOf, typeInfo, hi, h1, e1, Addr.add]
theorem holdsBlk_own {β : Type} (n₀ B : Nat) (T e : TypeId) (size : Nat) (k : β → Nat) (f : β → List Value) (a b c : Value) : Own (fun s W => ∃ v, Blk W B T #[a, b, c, v] ∧ W.ownsRow n₀ e size v (k s) (f s)) := by
  rintro s X Y row ⟨v, hv, hr⟩ hg hrow
  refine ⟨v, hv.grown hg (fun e' => ?_), hr.kept hg ?_⟩
  · obtain ⟨o, ho, hc⟩ := hrow B e'.symm
    unfold Blk at hv
    rw [hv] at ho; cases ho; cases hc
  · rcases hr.2 with ⟨rfl, _⟩ | ⟨g, cap, cur, rfl, _, hgb, _⟩
    · exact .inl rfl
    · refine .inr fun e' => ?_
      obtain ⟨o, ho, hc⟩ := hrow g (by simpa [Value.ownBlock] using e'.symm)
      rw [hgb] at ho; cases ho; cases hc
theorem wpIn_append_own {F : Fence} {n : Nat} {P : Program} {w : World} {o : Oper} {a : Act} {K : Act → World → Prop} {Q : Exit → Act → World → Prop}
    (s x : Operand) (t : TypeId) (hop : o.op = Op.call { callee := Callee.builtin Builtin.append, args := #[s, x], argTypes := #[t, t] })
    (base : Nat) (e : TypeId) (i : TypeInfo) (z : Value) (size bytes : Nat) (h1 : P.underlying t = some (.slice e)) (h2 : P.info? e = some i) (h3 : i.zero = some z) (h4 : i.size = size) (h5 : i.bytes = bytes) (h6 : z.cells.size = size) (h7 : 0 < size)
    (v : Value) (k : Nat) (xs : List Value) (hs : a.eval s = v) (hown : w.ownsRow base e size v k xs) (ad : Addr) (m c : Nat) (news : List Value) (hx : a.eval x = .slice (some ad) m c) (hn : news.length = m * size)
    (hc : ∀ j u, news[j]? = some u → w.cell? (ad.add j) = some u) (h1c : ∀ u ∈ news, u.oneCell' = true) (b1 : k + m ≤ maxLen) (b2 : (k + m) * bytes ≤ 140737488355328) (b3 : base ≤ w.heap.size)
    (hK : ∀ v' w', w'.ownsRow base e size v' (k + m) (xs ++ news) → w.grownBy w' v.ownBlock → K (a.put o.dst v') w') : Oper.wpIn F n P o a w K Q := by
  obtain ⟨v', w', hrun, r1, r2, r3⟩ := run_append_own (P := P) w base t o.type e i z size bytes h1 h2 h3 h4 h5 h6 h7 v k xs hown ad m c news hn hc h1c b1 b2 b3
  unfold Oper.wpIn
  refine ⟨?_, ?_⟩
  · simp [Oper.about, hop, resolve, Target.leads, Sem.run_pure]
  · rw [Oper.semAt_plain F _ _ (by rw [hop]; intro c hc'; cases hc')]
    simp [execOp, hop, resolve, invoke, builtin, hs, hx, hrun, Result.andThen]
    exact hK _ _ r1 r2
theorem own_alloc_drew {w : World} {base size n : Nat} {e : TypeId} {v : Value} {xs : List Value} (h : w.ownsRow base e size v n xs) (o : Obj) : ((w.alloc o).drew).ownsRow base e size v n xs := h.alloc o
theorem msg_appended {W w3 : World} {gm N : Nat} {T e : TypeId} {a b c v v' : Value} {k m : Nat} {xs ys : List Value} {tmp : Obj} (hv : Blk W gm T #[a, b, c, v]) (hne : e ≠ T) (hrow : W.ownsRow N e 1 v k xs) (hN : N = gm + 3) (hn : N ≤ W.heap.size)
    (hown' : w3.ownsRow N e 1 v' m ys) (hgrow : ((W.alloc tmp).drew).grownBy w3 v.ownBlock) :
    Blk w3 gm T #[a, b, c, v] ∧ KeepsFrom N W (w3.setCell ⟨gm, 3, none⟩ v') ∧ Two (gm + 1) (gm + 1 + 1) W (w3.setCell ⟨gm, 3, none⟩ v') ∧ Blk (w3.setCell ⟨gm, 3, none⟩ v') gm T #[a, b, c, v'] ∧ (w3.setCell ⟨gm, 3, none⟩ v').ownsRow N e 1 v' m ys ∧
      Below gm W (w3.setCell ⟨gm, 3, none⟩ v') ∧ N ≤ (w3.setCell ⟨gm, 3, none⟩ v').heap.size := by
  have hg : (W.alloc tmp).grownBy w3 v.ownBlock := grown_trans (grown_below ((Below.refl _ _).drew)) hgrow
  have hb : Blk w3 gm T #[a, b, c, v] := (hv.alloc tmp).grown hg (own_blk_ne hrow hv hne)
  have hs : W.heap.size + 1 ≤ w3.heap.size := by have := hg.size; simpa using this
  have hblk : ∀ q, q < N → q ≠ gm → (w3.setCell ⟨gm, 3, none⟩ v').heap[q]? = W.heap[q]? := by
    intro q hq hqg
    rw [Below.heap_setCell _ _ _ _ (by simpa using hqg), hg.block q (by simp; omega) (fun e' => by have := hrow.lt q e'.symm; omega)]
    exact Below.heap_alloc W tmp q (by omega)
  refine ⟨hb, ?_, ⟨hblk _ (by omega) (by omega), hblk _ (by omega) (by omega)⟩, hb.set_ 3 v', own_set hown' (own_blk_ne hown' hb hne) _, ?_, by simp [World.setCell]; omega⟩
  · refine (((KeepsOthers.alloc W tmp).trans (KeepsOthers.of_grownBy hg fun j o ej hj => ?_)).trans (KeepsOthers.setCell _ _ _)).from _
    rcases (hrow.alloc tmp).2 with ⟨rfl, _⟩ | ⟨g, cap, cur, rfl, _, hgb, _⟩
    · simp [Value.ownBlock] at ej
    · obtain rfl : g = j := by simpa [Value.ownBlock] using ej
      rw [hgb] at hj; cases hj; rfl
  · exact (((Below.refl gm W).alloc (by omega) tmp).grown hg (by simp; omega) (fun j hj => by have := (hrow.lt j hj).1; omega)).setCell (p := ⟨gm, 3, none⟩) (Nat.le_refl _) _
theorem pces_chop (q : Nat) (l : List Int) : (pces q q).map (fun j => gv ((l.drop (8 * j.1)).take 8)) = chop q l := by
  have e : ∀ k, (List.range k).map (fun j => gv ((l.drop (8 * j)).take 8)) = chop k l := by
    intro k
    induction k with
    | zero => rfl
    | succ k ih => rw [List.range_succ, List.map_append, ih, chop_snoc]; rfl
  rw [← e q]
  unfold pces
  rw [List.take_of_length_le (by simp)]
  apply List.ext_getElem
  · simp
  · intro i h1 h2
    simp
theorem blk_putObj {W : World} {g D : Nat} {t : TypeId} {cs : Array Value} {o o' : Obj} (h : Blk W g t cs) (hK : W.heap[D]? = some o) (ho : o.isCells = false) : Blk (W.putObj D o') g t cs := by
  refine h.grown (grownBy_putObj' W D o') (fun e => ?_)
  obtain rfl : g = D := by simpa using e
  unfold Blk at h
  rw [h] at hK; cases hK; cases ho
theorem dec_results {W : World} {g : Nat} {cs : Array Value} (h : Blk W g 64 cs) (hs : cs.size = 4) (e : Value) (tmps : Array Value) (h2 : tmps.getD 2 undef = .pointer (some ⟨g, 0, none⟩)) (h3 : tmps.getD 3 undef = e) :
    (results Try.f94 tmps).run Try.prog W = .ok (.tuple #[.agg cs, e]) W := by
  have h2' : tmps[2]?.getD undef = .pointer (some ⟨g, 0, none⟩) := by simpa using h2
  have h3' : tmps[3]?.getD undef = e := by simpa using h3
  have hi : (Try.prog.info? 64).map (·.size) = some cs.size := by rw [hs]; kernel_rfl
  simp [results, Try.results94, h2', h3', asAddr, run_loadVar_row (P := Try.prog) W g _ 64 cs (0, 0) _ h Try.underlying64 rfl hi]
theorem dec_end {W : World} {g D : Nat} {cs : Array Value} {R : Ending → World → Prop} (h : Blk W g 64 cs) (hs : cs.size = 4) (hK : W.heap[D]? = some (.deferred (some []))) (e : Value) (tmps : Array Value) (h2 : tmps.getD 2 undef = .pointer (some ⟨g, 0, none⟩)) (h3 : tmps.getD 3 undef = e)
    (hR : R (.returned (.tuple #[.agg cs, e])) (W.putObj D (.deferred none))) :
    bodyPostM Fence.wide 6 Try.prog Try.f94 R Exit.ret { tmps := tmps, defers := [{ target := .collected D, args := #[] }] } W := by
  refine ⟨by simp, .inl ⟨_, _, rfl, run_takeDeferred hK, ?_⟩⟩
  exact ⟨_, dec_results (blk_putObj h hK rfl) hs e tmps h2 h3, hR⟩
theorem set4 {W : World} {g D : Nat} {t : TypeId} {a0 a1 a2 a3 : Value} (h : Blk W g t #[a0, a1, a2, a3]) (hK : W.heap[D]? = some (.deferred (some []))) (b0 b1 b2 b3 : Value) :
    Blk ((((W.setCell ⟨g, 0, none⟩ b0).setCell ⟨g, 1, none⟩ b1).setCell ⟨g, 2, none⟩ b2).setCell ⟨g, 3, none⟩ b3) g t #[b0, b1, b2, b3] ∧ ((((W.setCell ⟨g, 0, none⟩ b0).setCell ⟨g, 1, none⟩ b1).setCell ⟨g, 2, none⟩ b2).setCell ⟨g, 3, none⟩ b3).heap[D]? = some (.deferred (some [])) := by
  have hne : D ≠ g := by
    rintro rfl
    unfold Blk at h
    rw [h] at hK; cases hK
  refine ⟨(((h.set_ 0 b0).set_ 1 b1).set_ 2 b2).set_ 3 b3, ?_⟩
  rw [Below.heap_setCell _ _ _ _ hne, Below.heap_setCell _ _ _ _ hne, Below.heap_setCell _ _ _ _ hne, Below.heap_setCell _ _ _ _ hne]
  exact hK
theorem opn_ok (A : Option Addr) (n c : Nat) (zs : List Int) (w : World) (h : Ints w .u8 A n zs) (hA : A = none → n = 0 ∧ c = 0) (hnc : n ≤ c) (hn : n ≤ 220) (h4 : 12 ≤ n) (hz : Byts zs) (ht : tailTo zs (zs.length - 4) 4 = (sumFrom 0#32 (zs.take (zs.length - 4))).toNat) :
    Calls Try.prog 109 #[.slice A n c] w fun e w' => ∃ A1 c1, e = .returned (.tuple #[.slice A1 (zs.length - 4) c1, .bool true]) ∧ NewBytes w w' A1 (zs.length - 4) c1 (zs.take (zs.length - 4)) := by
  refine (open_any A n c zs w h hA hnc (by omega) hz).mono ?_
  intro e w' ho
  have hl := h.1
  rcases ho with ⟨_, h1, A', c', rfl, h2⟩ | ⟨h1, rfl, h2⟩
  · exact ⟨A', c', rfl, h2⟩
  · exact absurd ht (h1 (by omega))

set_option maxRecDepth 100000 in
set_option maxHeartbeats 4000000 in
theorem dec_nums (b off n c : Nat) (zs : List Int) (w : World) (h : Ints w .u8 (some ⟨b, off, none⟩) n zs) (hnc : n ≤ c) (hn : 12 ≤ n) (hn2 : n ≤ 220) (h0 : zs.getD 0 0 = 87) (hz : Byts zs)
    (ht : tailTo zs (zs.length - 4) 4 = (sumFrom 0#32 (zs.take (zs.length - 4))).toNat) (q : Nat) (hq : q ≤ 24) (h7 : (zs.take (zs.length - 4)).getD 7 0 = q) (hlen : zs.length - 4 = 8 + 8 * q) :
    Calls Try.prog 94 #[.slice (some ⟨b, off, none⟩) n c] w (DecPost zs w) := by
  obtain ⟨i0, hi, hz0, hz1, hz2⟩ := info_parts infoByte
  obtain ⟨j0, hj, hj0, hj1, hj2⟩ := info_parts infoIntW
  refine (callsIn_wide (n := 6)).1 ?_
  have hP := Blk.new w 64 #[.int .i64 0, .int .i64 0, .int .i64 0, .slice none 0 0]
  have hB := (Below.refl w.heap.size w).alloc (Nat.le_refl _) (.cells #[.int .i64 0, .int .i64 0, .int .i64 0, .slice none 0 0] 64)
  have HB := Lib.hid hB
  have HP := Lib.hid hP
  have KO := Lib.hid (opn_ok (some ⟨b, off, none⟩) n c zs _ (h.alloc (.cells #[.int .i64 0, .int .i64 0, .int .i64 0, .slice none 0 0] 64)) (fun e => by cases e) hnc hn2 hn hz ht)
  have HT := Lib.hid ht
  obtain ⟨_, _, e0, hlt, hc⟩ := h.2 (by omega)
  cases e0
  have hc0 := hc 0 (by omega)
  have d0 := fun o => ((Below.refl w.heap.size w).alloc (Nat.le_refl _) o).cell (p := ⟨b, off, none⟩) hlt
  rw [Nat.add_zero] at hc0
  simp only [hc0] at d0
  have q0 : 0 < n := by omega
  have HL := Lib.hid h.1
  have HZ := Lib.hid hz
  rw [h0] at d0
  have H0 := Lib.hid h0
  have H7 := Lib.hid h7
  have HLEN := Lib.hid hlen
  clear hB h hc h0 hP hz ht h7 hlen hc0
  refine callsIn_of_wp_marks Try.func94 rfl trivial ?_ rfl
  simp only [Try.ntmps94, List.size_toArray, List.length_cons, List.length_nil, Nat.reduceAdd, Nat.reduceSub, Array.replicate_succ, Array.replicate_zero, List.push_toArray, List.append_toArray, List.nil_append, List.cons_append]
  gi_wp2
  refine ⟨trivial, (callsIn_wide.2 KO.out).mono ?_⟩
  rintro e w1 ⟨A1, c1, rfl, hown, hB1⟩
  have P1 := Lib.hid (HP.out.next hB1)
  have B1 := Lib.hid (below_next HB.out hB1)
  have hm := HLEN.out
  rw [hm] at hown ⊢
  have O1 := Lib.hid hown
  have hI := Ints.own hown
  have hnc1 := (own_none hown).2.2
  obtain ⟨b2, off2, rfl, hlt2, hc2⟩ := hI.2 (by omega)
  have hD : ∀ i, i < 8 → 0 ≤ (zs.take (8 + 8 * q)).getD i 0 ∧ (zs.take (8 + 8 * q)).getD i 0 ≤ 255 := by
    intro i hi
    have hlt : i < (zs.take (8 + 8 * q)).length := by have := HL.out; simp; omega
    simp only [List.getD, List.getElem?_eq_getElem hlt]
    exact HZ.out _ (List.mem_of_mem_take (List.getElem_mem _))
  have d1 := hc2 1 (by omega)
  have d2 := hc2 2 (by omega)
  have d7 := hc2 7 (by omega)
  have h7 := H7.out
  rw [hm] at h7
  rw [h7] at d7
  have hS := ints_sub (o := 3) (m := 4) hI (by omega)
  have hC := ints_sub (o := 8) (m := 8 * q) hI (by omega)
  have hD1 := hD 1 (by omega)
  have hD2 := hD 2 (by omega)
  have hbS : Byts (((zs.take (8 + 8 * q)).drop 3).take 4) := fun z h => HZ.out z (List.mem_of_mem_take (List.mem_of_mem_drop (List.mem_of_mem_take h)))
  have HBS := Lib.hid hbS
  have HS := Lib.hid hS
  have HC := Lib.hid hC
  have HI := Lib.hid hI
  obtain ⟨y1, hy1⟩ : ∃ y1, y1 = (zs.take (8 + 8 * q)).getD 1 0 := ⟨_, rfl⟩
  obtain ⟨y2, hy2⟩ : ∃ y2, y2 = (zs.take (8 + 8 * q)).getD 2 0 := ⟨_, rfl⟩
  rw [← hy1] at d1 hD1
  rw [← hy2] at d2 hD2
  have HY1 := Lib.hid hy1
  have HY2 := Lib.hid hy2
  obtain ⟨ys, hys⟩ : ∃ ys, ys = ((zs.take (8 + 8 * q)).drop 3).take 4 := ⟨_, rfl⟩
  rw [← hys] at HS HBS
  have HYS := Lib.hid hys
  have q1 : 8 + 8 * q ≤ c1 := hnc1
  obtain ⟨x1, x2⟩ := hD1
  obtain ⟨x3, x4⟩ := hD2
  have tq : (((8 + 8 * q : Nat) : Int) != 8 + 8 * (q : Int)) = false := by
    rw [bne_eq_false_iff_eq]; omega
  clear hown hB1 hm hI hc2 hD h7 hS hC hbS hy1 hy2 hys
  have da1 := fun o => (((Below.refl w1.heap.size w1).alloc (Nat.le_refl _) o).cell (p := ⟨b2, off2 + 1, none⟩) hlt2).trans d1
  have da2 := fun o => (((Below.refl w1.heap.size w1).alloc (Nat.le_refl _) o).cell (p := ⟨b2, off2 + 2, none⟩) hlt2).trans d2
  have q2 : 7 ≤ c1 := by omega
  have i1 : (1 : Int) < 8 + 8 * (q : Int) := by omega
  have i2 : (2 : Int) < 8 + 8 * (q : Int) := by omega
  have i3 : (7 : Int) ≤ (c1 : Int) := by omega
  have i4 : ¬ c1 = 3 := by omega
  obtain ⟨A8, hA8, cf⟩ := cut8 (P := Try.prog) (t := 78) Try.underlying78 hi hz1 b2 off2 (8 + 8 * q) c1 q rfl hnc1
  have hf62 : Fence.wide.fn 110 := trivial
  gi_wp2
  refine wpIn_wide.2 ?_
  go_region_held3 (fun w' => w'.cell? ⟨b2, off2 + 1, none⟩ = some (.int .u8 y1) ∧ w'.cell? ⟨b2, off2 + 2, none⟩ = some (.int .u8 y2))
    (first | exact ⟨d1, d2⟩ | exact ⟨da1 _, da2 _⟩)
    ((go_at_call 110; (with_reducible refine (get_any (some ⟨b2, off2 + 3, none⟩) 4 (c1 - 3) ys _ ?_ HBS.out (by omega)).mono ?_); (first | exact HS.out | exact HS.out.alloc _); rintro e w' ⟨rfl, rfl⟩))
  all_goals gi_wp2
  all_goals refine ⟨trivial, (chunk_in 5 A8 (8 * q) (c1 - 8) _).mono ?_⟩
  all_goals rintro e w2 ⟨rfl, rfl⟩
  all_goals gi_wp2
  all_goals
    obtain ⟨W2, hW2⟩ : ∃ W2, W2 = (((w1.alloc (.cells #[.int .i64 y1, .int .i64 y2, .int .i64 (gv ys), .slice none 0 0] 64)).alloc (.cells #[.slice A8 (8 * q) (c1 - 8)] 78)).alloc (.cells #[.int .i64 8] 3)).drew := ⟨_, rfl⟩
    rw [← hW2]
    have hM : Blk W2 w1.heap.size 64 #[.int .i64 y1, .int .i64 y2, .int .i64 (gv ys), .slice none 0 0] := by rw [hW2]; exact ((Blk.new w1 _ _).alloc _).alloc _
    have hcS : W2.cell? ⟨w1.heap.size + 1, 0, none⟩ = some (.slice A8 (8 * q) (c1 - 8)) := by rw [hW2]; exact ((Blk.at_ _ _ 78 #[.slice A8 (8 * q) (c1 - 8)] (by simp)).alloc _).cell 0
    have hcK : W2.cell? ⟨w1.heap.size + 1 + 1, 0, none⟩ = some (.int .i64 8) := by rw [hW2]; exact (Blk.at_ _ _ 3 #[.int .i64 8] (by simp)).cell 0
    have hs2 : W2.heap.size = w1.heap.size + 3 := by rw [hW2]; simp
    have hB2 : Below w1.heap.size w1 W2 := by rw [hW2]; exact ((((Below.refl _ _).alloc (Nat.le_refl _) _).alloc (by simp) _).alloc (by simp; omega) _).drew
    have h61 : 1 ≤ 6 := by omega
    clear hW2
    apply wpIn_rangeFunc_ownG (F := Fence.wide) (n := 6) rfl h61 (gf := 114) (lb := #[.pointer (some ⟨w1.heap.size + 1, 0, none⟩), .pointer (some ⟨w1.heap.size + 1 + 1, 0, none⟩)]) rfl trivial (enters_of Try.func114 (by kernel_rfl) rfl)
      (chunk_stops 5 (by omega) (w1.heap.size + 1) (w1.heap.size + 1 + 1) q (c1 - 8) b2 (off2 + 8) A8 hA8 (by omega) (by omega) W2 (by omega) (by omega) hcS hcK) two_t (two_b (by omega) (by omega)) (Below.refl _ _) (fun _ => rfl)
      (fun pre W => (∃ v, Blk W w1.heap.size 64 #[.int .i64 y1, .int .i64 y2, .int .i64 (gv ys), v] ∧ W.ownsRow W2.heap.size 3 1 v pre.length ((pre.map fun j => gv ((((zs.take (8 + 8 * q)).drop 8).drop (8 * j.1)).take 8)).map (Value.int .i64))) ∧ Below w1.heap.size w1 W ∧ W2.heap.size ≤ W.heap.size)
      (fun _ _ _ => False)
      (OwnFrom.and (Own.from (holdsBlk_own _ _ _ _ _ _ _ _ _ _) _) (OwnFrom.and (ownFrom_below (Nat.le_refl _) (by omega)) (fun s A B row hs hg hr => Nat.le_trans hs hg.size)))
      (fun _ _ _ _ _ hs _ _ => hs)
      ⟨⟨_, hM, World.ownsRow_nil _ _ _ _⟩, hB2, Nat.le_refl _⟩
    case hassign =>
      intro l x W K hK
      gi_wp2
      exact hK
    case hbody =>
      rintro l pre x W ⟨⟨v, hv, hrow⟩, hB, hsW⟩ hlt
      obtain ⟨Av, cv, rfl⟩ := own_shape hrow
      have hc3 := hv.cell 3
      simp only [List.getElem?_toArray, List.getElem?_cons_zero, List.getElem?_cons_succ] at hc3
      have hxl := x.2
      have hIx := ints_sub (o := 8 * x.1) (m := 8) (ints_sub (o := 8) (m := 8 * q) (HI.out.next hB) (by omega)) (by omega)
      have hbx : Byts (((((zs.take (8 + 8 * q)).drop 8).take (8 * q)).drop (8 * x.1)).take 8) := fun z h => HZ.out z (List.mem_of_mem_take (List.mem_of_mem_drop (List.mem_of_mem_take (List.mem_of_mem_drop (List.mem_of_mem_take h)))))
      have hex : ((((zs.take (8 + 8 * q)).drop 8).take (8 * q)).drop (8 * x.1)).take 8 = (((zs.take (8 + 8 * q)).drop 8).drop (8 * x.1)).take 8 := by
        rw [List.take_of_length_le (l := (zs.take (8 + 8 * q)).drop 8) (by simp; omega)]
      rw [hex] at hIx hbx
      obtain ⟨px, hpx⟩ : ∃ px, px = (((zs.take (8 + 8 * q)).drop 8).drop (8 * x.1)).take 8 := ⟨_, rfl⟩
      rw [← hpx] at hIx hbx
      have HIX := Lib.hid hIx
      have HBX := Lib.hid hbx
      have HPX := Lib.hid hpx
      have HV := Lib.hid hv
      have HR := Lib.hid hrow
      have HBW := Lib.hid hB
      have HCS := Lib.hid hcS
      have HCK := Lib.hid hcK
      have HM := Lib.hid hM
      clear hIx hbx hpx hex hv hrow hB hcS hcK hM
      gi_wp2
      have hc4 := fun o => (HV.out.alloc o).cell 3
      simp only [List.getElem?_toArray, List.getElem?_cons_zero, List.getElem?_cons_succ] at hc4
      refine wpIn_region_any (by kernel_rfl) ?_
      change wpAnyIn _ _ _ _ _ _ _ _ _ (World.drew _)
      -- orders begin
      refine wpAnyIn_ready (rs := [0, 2]) (by kernel_rfl) (by simp) ?_
      refine AllReadyIn.cons rfl (fun K hK => ?_) ?_
      · go_simp
        refine hK _ _ ?_
        clear hK K
        refine wpAnyIn_ready (rs := [1, 2]) (by kernel_rfl) (by simp) ?_
        refine AllReadyIn.cons rfl (fun K hK => ?_) ?_
        · go_simp
          refine hK _ _ ?_
          clear hK K
          refine wpAnyIn_ready (rs := [2]) (by kernel_rfl) (by simp) ?_
          refine AllReadyIn.cons rfl (fun K hK => ?_) ?_
          · go_simp
            refine hK _ _ ?_
            clear hK K
            refine wpAnyIn_ready (rs := [3]) (by kernel_rfl) (by simp) ?_
            refine AllReadyIn.cons rfl (fun K hK => ?_) ?_
            · go_simp
              gi_wp2_with (gi_at_call 110; (with_reducible refine (CallsIn.inRound l (get_in 0 (some ⟨b2, off2 + 8 + 8 * x.1, none⟩) 8 8 px _ HIX.out.drew HBX.out (by omega) _)).mono ?_); rintro e w' ⟨rfl, rfl⟩)
              (first | (refine hK _ _ ?_; clear hK K) | skip)
              refine wpAnyIn_ready (rs := [4]) (by kernel_rfl) (by simp) ?_
              refine AllReadyIn.cons rfl (fun K hK => ?_) ?_
              · go_simp
                refine hK _ _ ?_
                clear hK K
                refine wpAnyIn_ready (rs := [5]) (by kernel_rfl) (by simp) ?_
                refine AllReadyIn.cons rfl (fun K hK => ?_) ?_
                · refine wpIn_append_own (.tmp 65) (.tmp 68) 58 rfl W2.heap.size 3 j0 (.int .i64 0) 1 8 Try.underlying58 hj hj0 hj1 hj2 rfl (by decide) (.slice Av pre.length cv) pre.length _ rfl (own_alloc_drew HR.out _) ⟨W.heap.size, 0, none⟩ 1 1 [.int .i64 (gv px)] rfl rfl (cell_one_new _ _ _) (by intro u hu; simp at hu; subst hu; rfl) (by unfold maxLen; omega) (by omega) (by simp; omega) ?_
                  intro v3 w3 hown3 hg3
                  refine hK _ _ ?_
                  clear hK K
                  obtain ⟨A3, c3, rfl⟩ := own_shape hown3
                  obtain ⟨hm3, hk4, ht4, hm4, ho4, hb4, hs4⟩ := msg_appended HV.out (by decide) HR.out hs2 hsW hown3 hg3
                  have hc5 := hm3.cell 3
                  simp only [List.getElem?_toArray, List.getElem?_cons_zero, List.getElem?_cons_succ] at hc5
                  have hf5 := hm3.frozen 3
                  refine wpAnyIn_ready (rs := [6]) (by kernel_rfl) (by simp) ?_
                  refine AllReadyIn.cons rfl (fun K hK => ?_) ?_
                  · go_simp
                    refine hK _ _ ?_
                    clear hK K
                    refine wpAnyIn_ready (rs := [7]) (by kernel_rfl) (by simp) ?_
                    refine AllReadyIn.cons rfl (fun K hK => ?_) ?_
                    · go_simp
                      refine hK _ _ ?_
                      clear hK K
                      refine wpAnyIn_done (by kernel_rfl) ?_ _
                      exact ⟨hk4, ht4, ⟨_, hm4, by simpa [HPX.out] using ho4⟩, HBW.out.trans hb4, hs4⟩
                    exact AllReadyIn.nil
                  exact AllReadyIn.nil
                exact AllReadyIn.nil
              exact AllReadyIn.nil
            exact AllReadyIn.nil
          exact AllReadyIn.nil
        refine AllReadyIn.cons rfl (fun K hK => ?_) ?_
        · go_simp
          refine hK _ _ ?_
          clear hK K
          refine wpAnyIn_ready (rs := [1, 3]) (by kernel_rfl) (by simp) ?_
          refine AllReadyIn.cons rfl (fun K hK => ?_) ?_
          · go_simp
            refine hK _ _ ?_
            clear hK K
            refine wpAnyIn_ready (rs := [3]) (by kernel_rfl) (by simp) ?_
            refine AllReadyIn.cons rfl (fun K hK => ?_) ?_
            · go_simp
              gi_wp2_with (gi_at_call 110; (with_reducible refine (CallsIn.inRound l (get_in 0 (some ⟨b2, off2 + 8 + 8 * x.1, none⟩) 8 8 px _ HIX.out.drew HBX.out (by omega) _)).mono ?_); rintro e w' ⟨rfl, rfl⟩)
              (first | (refine hK _ _ ?_; clear hK K) | skip)
              refine wpAnyIn_ready (rs := [4]) (by kernel_rfl) (by simp) ?_
              refine AllReadyIn.cons rfl (fun K hK => ?_) ?_
              · go_simp
                refine hK _ _ ?_
                clear hK K
                refine wpAnyIn_ready (rs := [5]) (by kernel_rfl) (by simp) ?_
                refine AllReadyIn.cons rfl (fun K hK => ?_) ?_
                · refine wpIn_append_own (.tmp 65) (.tmp 68) 58 rfl W2.heap.size 3 j0 (.int .i64 0) 1 8 Try.underlying58 hj hj0 hj1 hj2 rfl (by decide) (.slice Av pre.length cv) pre.length _ rfl (own_alloc_drew HR.out _) ⟨W.heap.size, 0, none⟩ 1 1 [.int .i64 (gv px)] rfl rfl (cell_one_new _ _ _) (by intro u hu; simp at hu; subst hu; rfl) (by unfold maxLen; omega) (by omega) (by simp; omega) ?_
                  intro v3 w3 hown3 hg3
                  refine hK _ _ ?_
                  clear hK K
                  obtain ⟨A3, c3, rfl⟩ := own_shape hown3
                  obtain ⟨hm3, hk4, ht4, hm4, ho4, hb4, hs4⟩ := msg_appended HV.out (by decide) HR.out hs2 hsW hown3 hg3
                  have hc5 := hm3.cell 3
                  simp only [List.getElem?_toArray, List.getElem?_cons_zero, List.getElem?_cons_succ] at hc5
                  have hf5 := hm3.frozen 3
                  refine wpAnyIn_ready (rs := [6]) (by kernel_rfl) (by simp) ?_
                  refine AllReadyIn.cons rfl (fun K hK => ?_) ?_
                  · go_simp
                    refine hK _ _ ?_
                    clear hK K
                    refine wpAnyIn_ready (rs := [7]) (by kernel_rfl) (by simp) ?_
                    refine AllReadyIn.cons rfl (fun K hK => ?_) ?_
                    · go_simp
                      refine hK _ _ ?_
                      clear hK K
                      refine wpAnyIn_done (by kernel_rfl) ?_ _
                      exact ⟨hk4, ht4, ⟨_, hm4, by simpa [HPX.out] using ho4⟩, HBW.out.trans hb4, hs4⟩
                    exact AllReadyIn.nil
                  exact AllReadyIn.nil
                exact AllReadyIn.nil
              exact AllReadyIn.nil
            exact AllReadyIn.nil
          refine AllReadyIn.cons rfl (fun K hK => ?_) ?_
          · go_simp
            gi_wp2_with (gi_at_call 110; (with_reducible refine (CallsIn.inRound l (get_in 0 (some ⟨b2, off2 + 8 + 8 * x.1, none⟩) 8 8 px _ HIX.out.drew HBX.out (by omega) _)).mono ?_); rintro e w' ⟨rfl, rfl⟩)
            (first | (refine hK _ _ ?_; clear hK K) | skip)
            refine wpAnyIn_ready (rs := [1, 4]) (by kernel_rfl) (by simp) ?_
            refine AllReadyIn.cons rfl (fun K hK => ?_) ?_
            · go_simp
              refine hK _ _ ?_
              clear hK K
              refine wpAnyIn_ready (rs := [4]) (by kernel_rfl) (by simp) ?_
              refine AllReadyIn.cons rfl (fun K hK => ?_) ?_
              · go_simp
                refine hK _ _ ?_
                clear hK K
                refine wpAnyIn_ready (rs := [5]) (by kernel_rfl) (by simp) ?_
                refine AllReadyIn.cons rfl (fun K hK => ?_) ?_
                · refine wpIn_append_own (.tmp 65) (.tmp 68) 58 rfl W2.heap.size 3 j0 (.int .i64 0) 1 8 Try.underlying58 hj hj0 hj1 hj2 rfl (by decide) (.slice Av pre.length cv) pre.length _ rfl (own_alloc_drew HR.out _) ⟨W.heap.size, 0, none⟩ 1 1 [.int .i64 (gv px)] rfl rfl (cell_one_new _ _ _) (by intro u hu; simp at hu; subst hu; rfl) (by unfold maxLen; omega) (by omega) (by simp; omega) ?_
                  intro v3 w3 hown3 hg3
                  refine hK _ _ ?_
                  clear hK K
                  obtain ⟨A3, c3, rfl⟩ := own_shape hown3
                  obtain ⟨hm3, hk4, ht4, hm4, ho4, hb4, hs4⟩ := msg_appended HV.out (by decide) HR.out hs2 hsW hown3 hg3
                  have hc5 := hm3.cell 3
                  simp only [List.getElem?_toArray, List.getElem?_cons_zero, List.getElem?_cons_succ] at hc5
                  have hf5 := hm3.frozen 3
                  refine wpAnyIn_ready (rs := [6]) (by kernel_rfl) (by simp) ?_
                  refine AllReadyIn.cons rfl (fun K hK => ?_) ?_
                  · go_simp
                    refine hK _ _ ?_
                    clear hK K
                    refine wpAnyIn_ready (rs := [7]) (by kernel_rfl) (by simp) ?_
                    refine AllReadyIn.cons rfl (fun K hK => ?_) ?_
                    · go_simp
                      refine hK _ _ ?_
                      clear hK K
                      refine wpAnyIn_done (by kernel_rfl) ?_ _
                      exact ⟨hk4, ht4, ⟨_, hm4, by simpa [HPX.out] using ho4⟩, HBW.out.trans hb4, hs4⟩
                    exact AllReadyIn.nil
                  exact AllReadyIn.nil
                exact AllReadyIn.nil
              exact AllReadyIn.nil
            refine AllReadyIn.cons rfl (fun K hK => ?_) ?_
            · go_simp
              refine hK _ _ ?_
              clear hK K
              refine wpAnyIn_ready (rs := [1]) (by kernel_rfl) (by simp) ?_
              refine AllReadyIn.cons rfl (fun K hK => ?_) ?_
              · go_simp
                refine hK _ _ ?_
                clear hK K
                refine wpAnyIn_ready (rs := [5]) (by kernel_rfl) (by simp) ?_
                refine AllReadyIn.cons rfl (fun K hK => ?_) ?_
                · refine wpIn_append_own (.tmp 65) (.tmp 68) 58 rfl W2.heap.size 3 j0 (.int .i64 0) 1 8 Try.underlying58 hj hj0 hj1 hj2 rfl (by decide) (.slice Av pre.length cv) pre.length _ rfl (own_alloc_drew HR.out _) ⟨W.heap.size, 0, none⟩ 1 1 [.int .i64 (gv px)] rfl rfl (cell_one_new _ _ _) (by intro u hu; simp at hu; subst hu; rfl) (by unfold maxLen; omega) (by omega) (by simp; omega) ?_
                  intro v3 w3 hown3 hg3
                  refine hK _ _ ?_
                  clear hK K
                  obtain ⟨A3, c3, rfl⟩ := own_shape hown3
                  obtain ⟨hm3, hk4, ht4, hm4, ho4, hb4, hs4⟩ := msg_appended HV.out (by decide) HR.out hs2 hsW hown3 hg3
                  have hc5 := hm3.cell 3
                  simp only [List.getElem?_toArray, List.getElem?_cons_zero, List.getElem?_cons_succ] at hc5
                  have hf5 := hm3.frozen 3
                  refine wpAnyIn_ready (rs := [6]) (by kernel_rfl) (by simp) ?_
                  refine AllReadyIn.cons rfl (fun K hK => ?_) ?_
                  · go_simp
                    refine hK _ _ ?_
                    clear hK K
                    refine wpAnyIn_ready (rs := [7]) (by kernel_rfl) (by simp) ?_
                    refine AllReadyIn.cons rfl (fun K hK => ?_) ?_
                    · go_simp
                      refine hK _ _ ?_
                      clear hK K
                      refine wpAnyIn_done (by kernel_rfl) ?_ _
                      exact ⟨hk4, ht4, ⟨_, hm4, by simpa [HPX.out] using ho4⟩, HBW.out.trans hb4, hs4⟩
                    exact AllReadyIn.nil
                  exact AllReadyIn.nil
                exact AllReadyIn.nil
              exact AllReadyIn.nil
            exact AllReadyIn.nil
          exact AllReadyIn.nil
        exact AllReadyIn.nil
      refine AllReadyIn.cons rfl (fun K hK => ?_) ?_
      · go_simp
        refine hK _ _ ?_
        clear hK K
        refine wpAnyIn_ready (rs := [0, 3]) (by kernel_rfl) (by simp) ?_
        refine AllReadyIn.cons rfl (fun K hK => ?_) ?_
        · go_simp
          refine hK _ _ ?_
          clear hK K
          refine wpAnyIn_ready (rs := [1, 3]) (by kernel_rfl) (by simp) ?_
          refine AllReadyIn.cons rfl (fun K hK => ?_) ?_
          · go_simp
            refine hK _ _ ?_
            clear hK K
            refine wpAnyIn_ready (rs := [3]) (by kernel_rfl) (by simp) ?_
            refine AllReadyIn.cons rfl (fun K hK => ?_) ?_
            · go_simp
              gi_wp2_with (gi_at_call 110; (with_reducible refine (CallsIn.inRound l (get_in 0 (some ⟨b2, off2 + 8 + 8 * x.1, none⟩) 8 8 px _ HIX.out.drew HBX.out (by omega) _)).mono ?_); rintro e w' ⟨rfl, rfl⟩)
              (first | (refine hK _ _ ?_; clear hK K) | skip)
              refine wpAnyIn_ready (rs := [4]) (by kernel_rfl) (by simp) ?_
              refine AllReadyIn.cons rfl (fun K hK => ?_) ?_
              · go_simp
                refine hK _ _ ?_
                clear hK K
                refine wpAnyIn_ready (rs := [5]) (by kernel_rfl) (by simp) ?_
                refine AllReadyIn.cons rfl (fun K hK => ?_) ?_
                · refine wpIn_append_own (.tmp 65) (.tmp 68) 58 rfl W2.heap.size 3 j0 (.int .i64 0) 1 8 Try.underlying58 hj hj0 hj1 hj2 rfl (by decide) (.slice Av pre.length cv) pre.length _ rfl (own_alloc_drew HR.out _) ⟨W.heap.size, 0, none⟩ 1 1 [.int .i64 (gv px)] rfl rfl (cell_one_new _ _ _) (by intro u hu; simp at hu; subst hu; rfl) (by unfold maxLen; omega) (by omega) (by simp; omega) ?_
                  intro v3 w3 hown3 hg3
                  refine hK _ _ ?_
                  clear hK K
                  obtain ⟨A3, c3, rfl⟩ := own_shape hown3
                  obtain ⟨hm3, hk4, ht4, hm4, ho4, hb4, hs4⟩ := msg_appended HV.out (by decide) HR.out hs2 hsW hown3 hg3
                  have hc5 := hm3.cell 3
                  simp only [List.getElem?_toArray, List.getElem?_cons_zero, List.getElem?_cons_succ] at hc5
                  have hf5 := hm3.frozen 3
                  refine wpAnyIn_ready (rs := [6]) (by kernel_rfl) (by simp) ?_
                  refine AllReadyIn.cons rfl (fun K hK => ?_) ?_
                  · go_simp
                    refine hK _ _ ?_
                    clear hK K
                    refine wpAnyIn_ready (rs := [7]) (by kernel_rfl) (by simp) ?_
                    refine AllReadyIn.cons rfl (fun K hK => ?_) ?_
                    · go_simp
                      refine hK _ _ ?_
                      clear hK K
                      refine wpAnyIn_done (by kernel_rfl) ?_ _
                      exact ⟨hk4, ht4, ⟨_, hm4, by simpa [HPX.out] using ho4⟩, HBW.out.trans hb4, hs4⟩
                    exact AllReadyIn.nil
                  exact AllReadyIn.nil
                exact AllReadyIn.nil
              exact AllReadyIn.nil
            exact AllReadyIn.nil
          refine AllReadyIn.cons rfl (fun K hK => ?_) ?_
          · go_simp
            gi_wp2_with (gi_at_call 110; (with_reducible refine (CallsIn.inRound l (get_in 0 (some ⟨b2, off2 + 8 + 8 * x.1, none⟩) 8 8 px _ HIX.out.drew HBX.out (by omega) _)).mono ?_); rintro e w' ⟨rfl, rfl⟩)
            (first | (refine hK _ _ ?_; clear hK K) | skip)
            refine wpAnyIn_ready (rs := [1, 4]) (by kernel_rfl) (by simp) ?_
            refine AllReadyIn.cons rfl (fun K hK => ?_) ?_
            · go_simp
              refine hK _ _ ?_
              clear hK K
              refine wpAnyIn_ready (rs := [4]) (by kernel_rfl) (by simp) ?_
              refine AllReadyIn.cons rfl (fun K hK => ?_) ?_
              · go_simp
                refine hK _ _ ?_
                clear hK K
                refine wpAnyIn_ready (rs := [5]) (by kernel_rfl) (by simp) ?_
                refine AllReadyIn.cons rfl (fun K hK => ?_) ?_
                · refine wpIn_append_own (.tmp 65) (.tmp 68) 58 rfl W2.heap.size 3 j0 (.int .i64 0) 1 8 Try.underlying58 hj hj0 hj1 hj2 rfl (by decide) (.slice Av pre.length cv) pre.length _ rfl (own_alloc_drew HR.out _) ⟨W.heap.size, 0, none⟩ 1 1 [.int .i64 (gv px)] rfl rfl (cell_one_new _ _ _) (by intro u hu; simp at hu; subst hu; rfl) (by unfold maxLen; omega) (by omega) (by simp; omega) ?_
                  intro v3 w3 hown3 hg3
                  refine hK _ _ ?_
                  clear hK K
                  obtain ⟨A3, c3, rfl⟩ := own_shape hown3
                  obtain ⟨hm3, hk4, ht4, hm4, ho4, hb4, hs4⟩ := msg_appended HV.out (by decide) HR.out hs2 hsW hown3 hg3
                  have hc5 := hm3.cell 3
                  simp only [List.getElem?_toArray, List.getElem?_cons_zero, List.getElem?_cons_succ] at hc5
                  have hf5 := hm3.frozen 3
                  refine wpAnyIn_ready (rs := [6]) (by kernel_rfl) (by simp) ?_
                  refine AllReadyIn.cons rfl (fun K hK => ?_) ?_
                  · go_simp
                    refine hK _ _ ?_
                    clear hK K
                    refine wpAnyIn_ready (rs := [7]) (by kernel_rfl) (by simp) ?_
                    refine AllReadyIn.cons rfl (fun K hK => ?_) ?_
                    · go_simp
                      refine hK _ _ ?_
                      clear hK K
                      refine wpAnyIn_done (by kernel_rfl) ?_ _
                      exact ⟨hk4, ht4, ⟨_, hm4, by simpa [HPX.out] using ho4⟩, HBW.out.trans hb4, hs4⟩
                    exact AllReadyIn.nil
                  exact AllReadyIn.nil
                exact AllReadyIn.nil
              exact AllReadyIn.nil
            refine AllReadyIn.cons rfl (fun K hK => ?_) ?_
            · go_simp
              refine hK _ _ ?_
              clear hK K
              refine wpAnyIn_ready (rs := [1]) (by kernel_rfl) (by simp) ?_
              refine AllReadyIn.cons rfl (fun K hK => ?_) ?_
              · go_simp
                refine hK _ _ ?_
                clear hK K
                refine wpAnyIn_ready (rs := [5]) (by kernel_rfl) (by simp) ?_
                refine AllReadyIn.cons rfl (fun K hK => ?_) ?_
                · refine wpIn_append_own (.tmp 65) (.tmp 68) 58 rfl W2.heap.size 3 j0 (.int .i64 0) 1 8 Try.underlying58 hj hj0 hj1 hj2 rfl (by decide) (.slice Av pre.length cv) pre.length _ rfl (own_alloc_drew HR.out _) ⟨W.heap.size, 0, none⟩ 1 1 [.int .i64 (gv px)] rfl rfl (cell_one_new _ _ _) (by intro u hu; simp at hu; subst hu; rfl) (by unfold maxLen; omega) (by omega) (by simp; omega) ?_
                  intro v3 w3 hown3 hg3
                  refine hK _ _ ?_
                  clear hK K
                  obtain ⟨A3, c3, rfl⟩ := own_shape hown3
                  obtain ⟨hm3, hk4, ht4, hm4, ho4, hb4, hs4⟩ := msg_appended HV.out (by decide) HR.out hs2 hsW hown3 hg3
                  have hc5 := hm3.cell 3
                  simp only [List.getElem?_toArray, List.getElem?_cons_zero, List.getElem?_cons_succ] at hc5
                  have hf5 := hm3.frozen 3
                  refine wpAnyIn_ready (rs := [6]) (by kernel_rfl) (by simp) ?_
                  refine AllReadyIn.cons rfl (fun K hK => ?_) ?_
                  · go_simp
                    refine hK _ _ ?_
                    clear hK K
                    refine wpAnyIn_ready (rs := [7]) (by kernel_rfl) (by simp) ?_
                    refine AllReadyIn.cons rfl (fun K hK => ?_) ?_
                    · go_simp
                      refine hK _ _ ?_
                      clear hK K
                      refine wpAnyIn_done (by kernel_rfl) ?_ _
                      exact ⟨hk4, ht4, ⟨_, hm4, by simpa [HPX.out] using ho4⟩, HBW.out.trans hb4, hs4⟩
                    exact AllReadyIn.nil
                  exact AllReadyIn.nil
                exact AllReadyIn.nil
              exact AllReadyIn.nil
            exact AllReadyIn.nil
          exact AllReadyIn.nil
        refine AllReadyIn.cons rfl (fun K hK => ?_) ?_
        · go_simp
          gi_wp2_with (gi_at_call 110; (with_reducible refine (CallsIn.inRound l (get_in 0 (some ⟨b2, off2 + 8 + 8 * x.1, none⟩) 8 8 px _ HIX.out.drew HBX.out (by omega) _)).mono ?_); rintro e w' ⟨rfl, rfl⟩)
          (first | (refine hK _ _ ?_; clear hK K) | skip)
          refine wpAnyIn_ready (rs := [0, 4]) (by kernel_rfl) (by simp) ?_
          refine AllReadyIn.cons rfl (fun K hK => ?_) ?_
          · go_simp
            refine hK _ _ ?_
            clear hK K
            refine wpAnyIn_ready (rs := [1, 4]) (by kernel_rfl) (by simp) ?_
            refine AllReadyIn.cons rfl (fun K hK => ?_) ?_
            · go_simp
              refine hK _ _ ?_
              clear hK K
              refine wpAnyIn_ready (rs := [4]) (by kernel_rfl) (by simp) ?_
              refine AllReadyIn.cons rfl (fun K hK => ?_) ?_
              · go_simp
                refine hK _ _ ?_
                clear hK K
                refine wpAnyIn_ready (rs := [5]) (by kernel_rfl) (by simp) ?_
                refine AllReadyIn.cons rfl (fun K hK => ?_) ?_
                · refine wpIn_append_own (.tmp 65) (.tmp 68) 58 rfl W2.heap.size 3 j0 (.int .i64 0) 1 8 Try.underlying58 hj hj0 hj1 hj2 rfl (by decide) (.slice Av pre.length cv) pre.length _ rfl (own_alloc_drew HR.out _) ⟨W.heap.size, 0, none⟩ 1 1 [.int .i64 (gv px)] rfl rfl (cell_one_new _ _ _) (by intro u hu; simp at hu; subst hu; rfl) (by unfold maxLen; omega) (by omega) (by simp; omega) ?_
                  intro v3 w3 hown3 hg3
                  refine hK _ _ ?_
                  clear hK K
                  obtain ⟨A3, c3, rfl⟩ := own_shape hown3
                  obtain ⟨hm3, hk4, ht4, hm4, ho4, hb4, hs4⟩ := msg_appended HV.out (by decide) HR.out hs2 hsW hown3 hg3
                  have hc5 := hm3.cell 3
                  simp only [List.getElem?_toArray, List.getElem?_cons_zero, List.getElem?_cons_succ] at hc5
                  have hf5 := hm3.frozen 3
                  refine wpAnyIn_ready (rs := [6]) (by kernel_rfl) (by simp) ?_
                  refine AllReadyIn.cons rfl (fun K hK => ?_) ?_
                  · go_simp
                    refine hK _ _ ?_
                    clear hK K
                    refine wpAnyIn_ready (rs := [7]) (by kernel_rfl) (by simp) ?_
                    refine AllReadyIn.cons rfl (fun K hK => ?_) ?_
                    · go_simp
                      refine hK _ _ ?_
                      clear hK K
                      refine wpAnyIn_done (by kernel_rfl) ?_ _
                      exact ⟨hk4, ht4, ⟨_, hm4, by simpa [HPX.out] using ho4⟩, HBW.out.trans hb4, hs4⟩
                    exact AllReadyIn.nil
                  exact AllReadyIn.nil
                exact AllReadyIn.nil
              exact AllReadyIn.nil
            refine AllReadyIn.cons rfl (fun K hK => ?_) ?_
            · go_simp
              refine hK _ _ ?_
              clear hK K
              refine wpAnyIn_ready (rs := [1]) (by kernel_rfl) (by simp) ?_
              refine AllReadyIn.cons rfl (fun K hK => ?_) ?_
              · go_simp
                refine hK _ _ ?_
                clear hK K
                refine wpAnyIn_ready (rs := [5]) (by kernel_rfl) (by simp) ?_
                refine AllReadyIn.cons rfl (fun K hK => ?_) ?_
                · refine wpIn_append_own (.tmp 65) (.tmp 68) 58 rfl W2.heap.size 3 j0 (.int .i64 0) 1 8 Try.underlying58 hj hj0 hj1 hj2 rfl (by decide) (.slice Av pre.length cv) pre.length _ rfl (own_alloc_drew HR.out _) ⟨W.heap.size, 0, none⟩ 1 1 [.int .i64 (gv px)] rfl rfl (cell_one_new _ _ _) (by intro u hu; simp at hu; subst hu; rfl) (by unfold maxLen; omega) (by omega) (by simp; omega) ?_
                  intro v3 w3 hown3 hg3
                  refine hK _ _ ?_
                  clear hK K
                  obtain ⟨A3, c3, rfl⟩ := own_shape hown3
                  obtain ⟨hm3, hk4, ht4, hm4, ho4, hb4, hs4⟩ := msg_appended HV.out (by decide) HR.out hs2 hsW hown3 hg3
                  have hc5 := hm3.cell 3
                  simp only [List.getElem?_toArray, List.getElem?_cons_zero, List.getElem?_cons_succ] at hc5
                  have hf5 := hm3.frozen 3
                  refine wpAnyIn_ready (rs := [6]) (by kernel_rfl) (by simp) ?_
                  refine AllReadyIn.cons rfl (fun K hK => ?_) ?_
                  · go_simp
                    refine hK _ _ ?_
                    clear hK K
                    refine wpAnyIn_ready (rs := [7]) (by kernel_rfl) (by simp) ?_
                    refine AllReadyIn.cons rfl (fun K hK => ?_) ?_
                    · go_simp
                      refine hK _ _ ?_
                      clear hK K
                      refine wpAnyIn_done (by kernel_rfl) ?_ _
                      exact ⟨hk4, ht4, ⟨_, hm4, by simpa [HPX.out] using ho4⟩, HBW.out.trans hb4, hs4⟩
                    exact AllReadyIn.nil
                  exact AllReadyIn.nil
                exact AllReadyIn.nil
              exact AllReadyIn.nil
            exact AllReadyIn.nil
          refine AllReadyIn.cons rfl (fun K hK => ?_) ?_
          · go_simp
            refine hK _ _ ?_
            clear hK K
            refine wpAnyIn_ready (rs := [0]) (by kernel_rfl) (by simp) ?_
            refine AllReadyIn.cons rfl (fun K hK => ?_) ?_
            · go_simp
              refine hK _ _ ?_
              clear hK K
              refine wpAnyIn_ready (rs := [1]) (by kernel_rfl) (by simp) ?_
              refine AllReadyIn.cons rfl (fun K hK => ?_) ?_
              · go_simp
                refine hK _ _ ?_
                clear hK K
                refine wpAnyIn_ready (rs := [5]) (by kernel_rfl) (by simp) ?_
                refine AllReadyIn.cons rfl (fun K hK => ?_) ?_
                · refine wpIn_append_own (.tmp 65) (.tmp 68) 58 rfl W2.heap.size 3 j0 (.int .i64 0) 1 8 Try.underlying58 hj hj0 hj1 hj2 rfl (by decide) (.slice Av pre.length cv) pre.length _ rfl (own_alloc_drew HR.out _) ⟨W.heap.size, 0, none⟩ 1 1 [.int .i64 (gv px)] rfl rfl (cell_one_new _ _ _) (by intro u hu; simp at hu; subst hu; rfl) (by unfold maxLen; omega) (by omega) (by simp; omega) ?_
                  intro v3 w3 hown3 hg3
                  refine hK _ _ ?_
                  clear hK K
                  obtain ⟨A3, c3, rfl⟩ := own_shape hown3
                  obtain ⟨hm3, hk4, ht4, hm4, ho4, hb4, hs4⟩ := msg_appended HV.out (by decide) HR.out hs2 hsW hown3 hg3
                  have hc5 := hm3.cell 3
                  simp only [List.getElem?_toArray, List.getElem?_cons_zero, List.getElem?_cons_succ] at hc5
                  have hf5 := hm3.frozen 3
                  refine wpAnyIn_ready (rs := [6]) (by kernel_rfl) (by simp) ?_
                  refine AllReadyIn.cons rfl (fun K hK => ?_) ?_
                  · go_simp
                    refine hK _ _ ?_
                    clear hK K
                    refine wpAnyIn_ready (rs := [7]) (by kernel_rfl) (by simp) ?_
                    refine AllReadyIn.cons rfl (fun K hK => ?_) ?_
                    · go_simp
                      refine hK _ _ ?_
                      clear hK K
                      refine wpAnyIn_done (by kernel_rfl) ?_ _
                      exact ⟨hk4, ht4, ⟨_, hm4, by simpa [HPX.out] using ho4⟩, HBW.out.trans hb4, hs4⟩
                    exact AllReadyIn.nil
                  exact AllReadyIn.nil
                exact AllReadyIn.nil
              exact AllReadyIn.nil
            exact AllReadyIn.nil
          exact AllReadyIn.nil
        exact AllReadyIn.nil
      exact AllReadyIn.nil
      -- orders end
    case hdone =>
      rintro D xs W hD rfl ⟨⟨v, hv, hrow⟩, hB, hsW⟩ hK
      obtain ⟨Av, cv, rfl⟩ := own_shape hrow
      have hlq : (pces q q).length = q := by simp [pces]
      have hch := pces_chop q ((zs.take (8 + 8 * q)).drop 8)
      rw [hlq, hch] at hrow
      rw [hlq] at hv
      have e0 := hv.cell 0
      have e1 := hv.cell 1
      have e2 := hv.cell 2
      have e3 := hv.cell 3
      simp only [List.getElem?_toArray, List.getElem?_cons_zero, List.getElem?_cons_succ] at e0 e1 e2 e3
      have HV := Lib.hid hv
      have HR := Lib.hid hrow
      have HBW := Lib.hid (below_next B1.out hB)
      have HK := Lib.hid hK
      have hP1 := P1.out.next hB
      have HP1 := Lib.hid hP1
      have hszW := hB.size
      have hP1l := P1.out.lt
      clear hv hrow hB hK hch hlq hP1 hcS hcK hM
      gi_wp2
      refine ⟨trivial, (callsIn_wide.2 (right_any y1 y2 (gv ys) Av q cv (by omega) _)).mono ?_⟩
      rintro e w5 ⟨rfl, hB5⟩
      have HV5 := Lib.hid (HV.out.next hB5)
      have HR5 := Lib.hid (own_below HR.out hB5 (fun g hg => (HR.out.lt g hg).2))
      have HB5 := Lib.hid (below_next HBW.out hB5)
      have HK5 : Hid (w5.heap[D]? = some (.deferred (some []))) := Lib.hid ((hB5.block D (by have := (Array.getElem?_eq_some_iff.1 HK.out).1; exact this)).trans HK.out)
      have HP5 := Lib.hid (HP1.out.next hB5)
      have g0 := HV5.out.cell 0
      have g1 := HV5.out.cell 1
      have g2 := HV5.out.cell 2
      have g3 := HV5.out.cell 3
      have f0 := HP5.out.frozen 0
      have f1 := HP5.out.frozen 1
      have f2 := HP5.out.frozen 2
      have f3 := HP5.out.frozen 3
      have r0 := HP5.out.cell 0
      have r1 := HP5.out.cell 1
      have r2 := HP5.out.cell 2
      have r3 := HP5.out.cell 3
      simp only [List.getElem?_toArray, List.getElem?_cons_zero, List.getElem?_cons_succ] at g0 g1 g2 g3 r0 r1 r2 r3
      clear hB5 e0 e1 e2 e3
      by_cases hr : rightE y1 y2 (gv ys) q = 0
      · have HRE := Lib.hid hr
        rw [hr]
        clear hr
        have hm4 : IsMsg zs y1 y2 (gv ys) (chop q ((zs.take (8 + 8 * q)).drop 8)) := by
          have hl4 := HLEN.out
          have h := isMsg_of zs HZ.out (by have := HL.out; omega) H0.out HT.out q H7.out HLEN.out (by rw [hl4, ← HY1.out, ← HY2.out, ← HYS.out]; exact HRE.out)
          rw [hl4, ← HY1.out, ← HY2.out, ← HYS.out] at h
          exact h
        have HM4 := Lib.hid hm4
        clear hm4
        gi_wp2
        obtain ⟨z1, z2⟩ := set4 HP5.out HK5.out (.int .i64 y1) (.int .i64 y2) (.int .i64 (gv ys)) (.slice Av q cv)
        refine dec_end z1 rfl z2 (.int .i64 0) _ rfl rfl (.inl ⟨y1, y2, gv ys, _, Av, cv, HM4.out, by rw [chop_len], ?_, ?_⟩)
        · rw [chop_len]
          refine ownsRow_putObj (own_le (base := W2.heap.size) ?_ (by omega)) _ z2 rfl
          exact own_set (own_set (own_set (own_set HR5.out (own_blk_ne HR5.out HP5.out (by decide)) _) (own_blk_ne HR5.out HP5.out (by decide)) _) (own_blk_ne HR5.out HP5.out (by decide)) _) (own_blk_ne HR5.out HP5.out (by decide)) _
        · exact ((((HB5.out.setCell (Nat.le_refl _) _).setCell (Nat.le_refl _) _).setCell (Nat.le_refl _) _).setCell (Nat.le_refl _) _).trans (belowK_b (w := w) (Nat.le_refl _) _ D _ _ (by omega) z2 rfl rfl)
      · have hrb : (rightE y1 y2 (gv ys) q != 0) = true := by rw [bne_iff_ne]; exact hr
        have HRE := Lib.hid hr
        clear hr
        have hno : ∀ k f r vs, ¬ IsMsg zs k f r vs := by
          intro k f r vs hm
          have hl4 := HLEN.out
          obtain ⟨-, a1, a2, a3, a4, a5⟩ := encB_at k f r vs
          have ht := hm.take
          rw [hl4] at ht
          rw [← ht] at a1 a2 a3 a4 a5
          have h7 := H7.out
          rw [hl4] at h7
          obtain ⟨-, -, -, -, hr0, hr1, -⟩ := right0.1 hm.1
          refine HRE.out ?_
          have hq : vs.length = q := by have := a3.symm.trans h7; omega
          rw [HY1.out, HY2.out, HYS.out, a1, a2, a4, gv_beB4 r hr0 (by omega), ← hq]
          exact hm.1
        have HNO := Lib.hid hno
        clear hno
        gi_wp2
        obtain ⟨z1, z2⟩ := set4 HP5.out HK5.out (.int .i64 0) (.int .i64 0) (.int .i64 0) (.slice none 0 0)
        refine dec_end z1 rfl z2 (.int .i64 (rightE y1 y2 (gv ys) q)) _ rfl rfl (.inr ⟨_, HRE.out, HNO.out, rfl, ?_⟩)
        exact ((((HB5.out.setCell (Nat.le_refl _) _).setCell (Nat.le_refl _) _).setCell (Nat.le_refl _) _).setCell (Nat.le_refl _) _).trans (belowK_b (w := w) (Nat.le_refl _) _ D _ _ (by omega) z2 rfl rfl)
    case hstop =>
      rintro D c pre W _ _ h _
      exact h.elim
end Go.Proofs.Ytofeoeknmlkjgaa.Wr
end
