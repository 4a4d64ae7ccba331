/- Over merged: TopRp. -/
import Derived.Test.YtofeoeknmlkjgaaZ48
set_option linter.unusedVariables false
set_option linter.unusedSimpArgs false
section
/- The Top laws: the reports behind each frame, the verdict and the roll of a node. -/
set_option linter.unusedVariables false
namespace Go.Proofs.Ytofeoeknmlkjgaa.Nk
open Go.RowKit Go.Proofs.Ytofeoeknmlkjgaa Mb Fi Sm

theorem repC_len (n : Nd) : (repC n).toList.length = 14 := rfl
theorem repsL_len (bad : Int) (N : Nat → Nd) : ∀ k, (repsL bad N k).length = repsN bad k * 14
  | 0 => rfl
  | k + 1 => by
    unfold repsL repsN
    rw [List.length_append, repsL_len bad N k]
    split
    · simp
    · rw [repC_len]; omega
def repP (bad : Int) : Nat → Nat → Nat
  | 0, _ => 0
  | k + 1, j => if j < repsN bad k then repP bad k j else k
theorem reps_at (bad : Int) (N : Nat → Nd) : ∀ k j, j < repsN bad k → repP bad k j < k ∧ ¬ ((repP bad k j : Nat) : Int) = bad ∧ ∀ f, f < 14 → (repsL bad N k)[j * 14 + f]? = (repC (N (repP bad k j))).toList[f]?
  | 0, j, h => absurd h (Nat.not_lt_zero _)
  | k + 1, j, h => by
    unfold repP
    by_cases c : j < repsN bad k
    · obtain ⟨h1, h2, h3⟩ := reps_at bad N k j c
      rw [if_pos c]
      refine ⟨by omega, h2, fun f hf => ?_⟩
      rw [repsL, List.getElem?_append_left (by rw [repsL_len]; omega)]
      exact h3 f hf
    · rw [if_neg c]
      unfold repsN at h
      have hb : ¬ (k : Int) = bad := fun e => by rw [if_pos e] at h; omega
      rw [if_neg hb] at h
      obtain rfl : j = repsN bad k := by omega
      refine ⟨Nat.lt_succ_self k, hb, fun f hf => ?_⟩
      rw [repsL, List.getElem?_append_right (by rw [repsL_len]; omega), repsL_len, if_neg hb, show repsN bad k * 14 + f - repsN bad k * 14 = f by omega]
theorem repsN_four {bad : Int} (h0 : -1 ≤ bad) (h1 : bad < 4) : repsN bad 4 = if bad < 0 then 4 else 3 := by
  have : bad = -1 ∨ bad = 0 ∨ bad = 1 ∨ bad = 2 ∨ bad = 3 := by omega
  rcases this with rfl | rfl | rfl | rfl | rfl <;> rfl
section
variable {W W' : World} {B : Nat} {bad : Int} {N : Nat → Nd} {rv : Value}
def RpR (W : World) (bad : Int) (N : Nat → Nd) (b off c : Nat) (rv : Value) : Prop :=
  rv = .slice (some ⟨b, off, none⟩) (repsN bad 4) c ∧ b < W.heap.size ∧ ∀ j, j < repsN bad 4 → W.rangeAt b (off + j * 14) (repC (N (repP bad 4 j))).toList
theorem rep_row (h : W.ownsRow B 60 14 rv (repsN bad 4) (repsL bad N 4)) (h0 : -1 ≤ bad) (h1 : bad < 4) : ∃ b off c, RpR W bad N b off c rv := by
  obtain ⟨A, c, rfl, hv⟩ := VR.mk_own h
  have hn : 0 < repsN bad 4 := by rw [repsN_four h0 h1]; split <;> omega
  obtain ⟨b, off, rfl, hlt, hc⟩ := hv.2.2 hn
  refine ⟨b, off, c, rfl, hlt, fun j hj f v hf => ?_⟩
  have hf14 : f < 14 := (List.getElem?_eq_some_iff.1 hf).1
  obtain ⟨_, _, h3⟩ := reps_at bad N 4 j hj
  rw [Nat.add_assoc]
  exact hc (j * 14 + f) v (by rw [h3 f hf14]; exact hf)
theorem RpR.next {b off c : Nat} (h : RpR W bad N b off c rv) (hb : Below W.heap.size W W') : RpR W' bad N b off c rv := ⟨h.1, Nat.lt_of_lt_of_le h.2.1 hb.size, fun j hj => below_range hb h.2.1 (h.2.2 j hj)⟩
theorem RpR.cell {b off c j f : Nat} {v : Value} (h : RpR W bad N b off c rv) (hj : j < repsN bad 4) (hv : (repC (N (repP bad 4 j))).toList[f]? = some v) : W.cell? ⟨b, off + j * 14 + f, none⟩ = some v := h.2.2 j hj f v hv
theorem reps_row {A : Option Addr} {n ca k : Nat} {R : Nat → Value} (h : VR W 1 A n ca ((List.range n).map R)) (hk : k < n) : ∃ b off, A = some ⟨b, off, none⟩ ∧ b < W.heap.size ∧ W.cell? ⟨b, off + k, none⟩ = some (R k) := by
  obtain ⟨b, off, rfl, hlt, hc⟩ := h.2.2 (by omega)
  refine ⟨b, off, rfl, hlt, hc k (R k) ?_⟩
  rw [List.getElem?_map, List.getElem?_range hk]; rfl
variable {g p f k : Nat} {x : Cl}
theorem CB.vdR (h : CB W g x) (hp : p < 4) : W.rangeAt g (1 + p * 74 + 71) [.int .i64 (x.N p).vv, .bool (x.N p).vs, x.va p] := by
  intro j v hj
  have hlt : j < 3 := (List.getElem?_eq_some_iff.1 hj).1
  have : j = 0 ∨ j = 1 ∨ j = 2 := by omega
  rcases this with rfl | rfl | rfl <;> (cases hj; rw [Nat.add_assoc]; exact h.nd hp (by omega))
theorem CB.roR (h : CB W g x) (hp : p < 4) : W.rangeAt g (1 + p * 74 + 27) (rollC (x.N p).ro).toList := by
  intro j v hj
  have hlt : j < 12 := (List.getElem?_eq_some_iff.1 hj).1
  rw [Nat.add_assoc, h.nd hp (by omega), c_ro (by omega) (by omega), show 27 + j - 27 = j by omega, ← hj]
  have e : (rollC (x.N p).ro).toList[j]? = some (rcell (x.N p).ro j) := by
    rw [← rollC_eq, Array.getElem?_toList, AN_get (by omega)]
  rw [e]
theorem CB.dg (h : CB W g x) (hp : p < 4) : W.cell? ⟨g, 1 + p * 74 + 70, none⟩ = some (.int .i64 (x.N p).dg) := h.nd hp (by omega)
theorem CB.inn (h : CB W g x) (hp : p < 4) {s : Nat} (hs : s < 4) : W.cell? ⟨g, 1 + p * 74 + 27 + s, none⟩ = some (.bool ((x.N p).ro.inn s)) := by
  have := h.nd hp (f := 27 + s) (by omega)
  rw [c_ro (by omega) (by omega), show 27 + s - 27 = s by omega] at this
  rw [Nat.add_assoc, this]
  unfold rcell; rw [if_pos hs]
theorem CB.miss (h : CB W g x) (hp : p < 4) {s : Nat} (hs : s < 4) : W.cell? ⟨g, 1 + p * 74 + 27 + 4 + s, none⟩ = some (.int .i64 ((x.N p).ro.miss s)) := by
  have := h.nd hp (f := 27 + 4 + s) (by omega)
  rw [c_ro (by omega) (by omega), show 27 + 4 + s - 27 = 4 + s by omega] at this
  rw [show 1 + p * 74 + 27 + 4 + s = 1 + p * 74 + (27 + 4 + s) by omega, this]
  unfold rcell; rw [if_neg (by omega), if_pos (by omega), show 4 + s - 4 = s by omega]
end
theorem BhRel.below {w wr : World} {q7 : Nat} {t : Tu} {bad : Int} {L : List Inp} {av ov iv : Value} (h : BhRel w q7 t bad L av ov iv wr) : Below w.heap.size w wr := by
  obtain ⟨i, C, R, bs, hi, hin, hC0, hF, hFr, hG, hCB, hAg, hbs, hAv, hOv, hRv, hB⟩ := h
  exact hB
theorem one3 {a b c : Value} (ha : a.oneCell' = true) (hb : b.oneCell' = true) (hc : c.oneCell' = true) : (#[a, b, c] : Array Value).all (·.oneCell') = true := by simp [ha, hb, hc]
theorem wpAnyH_one {P : Program} {ops : Array Oper} {Q : Exit → Act → World → Prop} {md : Region.Mode} {S : World → Prop} {i : Nat} {o : Oper} {fuel : Nat} {listed : Array Bool} {a : Act} {w : World} (ho' : ops.toList[i]? = some o) (hr : Region.ready md ops listed = [i])
    (h : ∀ K' : Act → World → Prop, Shut (∀ a w, S w → wpAnyH P md ops Q S fuel (listed.setIfInBounds i true) a w → K' a w) → if Region.wanted o (yielded ops a.tmps) = true then Oper.wp P o a w K' Q else K' (a.put o.dst undef) w) :
    wpAnyH P md ops Q S (fuel + 1) listed a w := by
  have ho : ops[i]? = some o := by rw [← Array.getElem?_toList]; exact ho'
  refine ⟨fun h0 => (by rw [hr] at h0; cases h0), fun j hj => ?_⟩
  rw [hr] at hj
  obtain rfl : j = i := by simpa using hj
  exact wpOp_step ho (fun K' hK => h K' (fun a w hS hW => hK a w ⟨hS, hW⟩))
theorem ints4 {W : World} {g : Nat} {t : TypeId} {a b c d : Int} (h : Blk W g t #[.int .i64 a, .int .i64 b, .int .i64 c, .int .i64 d]) : Ints W .i64 (some ⟨g, 0, none⟩) 4 [a, b, c, d] := by
  refine ⟨rfl, fun _ => ⟨g, 0, rfl, Blk.lt h, fun j hj => ?_⟩⟩
  have : j = 0 ∨ j = 1 ∨ j = 2 ∨ j = 3 := by omega
  rcases this with rfl | rfl | rfl | rfl
  · exact h.cell 0
  · exact h.cell 1
  · exact h.cell 2
  · exact h.cell 3
theorem inp_one {W : World} {b off k : Nat} {u : Inp} (h : W.rangeAt b (off + k * 14) (IA u.y).toList) {j : Nat} (hj : j < 12) : W.cell? ⟨b, off + k * 14 + j, none⟩ = some (.int .i64 (u.rd j)) := by
  have hz : j < (IA u.y).size := by rw [IA_size]; omega
  rw [h j ((IA u.y)[j]) (by rw [Array.getElem?_toList]; exact Array.getElem?_eq_getElem hz)]
  have e : (IA u.y)[j]? = some (u.y.c j) := by unfold IA; rw [AN_get (by omega)]
  rw [← Array.getElem?_eq_getElem hz, e]
  unfold InD.c
  rw [if_pos (by omega)]; rfl
theorem repC_us (n : Nd) {a : Nat} (ha : a < 3) : (repC n).toList[2 + a]? = some (.int .i64 (n.us a)) := by
  have : a = 0 ∨ a = 1 ∨ a = 2 := by omega
  rcases this with rfl | rfl | rfl <;> rfl
theorem repC_pl (n : Nd) {a : Nat} (ha : a < 3) : (repC n).toList[5 + a]? = some (.int .i64 (n.ax a).x) := by
  have : a = 0 ∨ a = 1 ∨ a = 2 := by omega
  rcases this with rfl | rfl | rfl <;> rfl
theorem repC_in (n : Nd) {s : Nat} (hs : s < 4) : (repC n).toList[10 + s]? = some (.bool (n.ro.inn s)) := by
  have : s = 0 ∨ s = 1 ∨ s = 2 ∨ s = 3 := by omega
  rcases this with rfl | rfl | rfl | rfl <;> rfl
theorem eq4b (w : World) : (Op.equalIn 10000 35 (.agg #[.bool true, .bool true, .bool true, .bool true]) (.agg #[.bool true, .bool true, .bool true, .bool true])).run Try.prog w = .ok true w := eql_self (by kernel_rfl) (by kernel_rfl) w
theorem infoVd : (Try.prog.info? 43).map (·.size) = some 3 := by kernel_rfl
theorem infoRo : (Try.prog.info? 38).map (·.size) = some 12 := by kernel_rfl
end Go.Proofs.Ytofeoeknmlkjgaa.Nk
end
