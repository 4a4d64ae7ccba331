/- Merged: NodeLaw NodeSense NodeRelay NodePass NodeIn NodeAx NodeJudge NodeDec0 ClPlain ClLaw NodeSame. -/
import Derived.BigGuard
import Derived.Laws.Closers25b
import Derived.Laws.CopyOwn
import Derived.Test.YtofeoeknmlkjgaaGreatZ05
import Derived.Test.YtofeoeknmlkjgaaGreatZ10
import Derived.Test.YtofeoeknmlkjgaaGreatZ18
import Derived.Test.YtofeoeknmlkjgaaGreatZ20
import Derived.Test.YtofeoeknmlkjgaaGreatZ41
set_option linter.unusedVariables false
set_option linter.unusedSimpArgs false
section
/- Laws on a node in a block: stores of parts, the load of the whole in a region that draws its order. -/
set_option linter.unusedVariables false
namespace Go.Proofs.YtofeoeknmlkjgaaGreat.Nk
open Go.RowKit Go.Proofs.YtofeoeknmlkjgaaGreat Mb Fi Sm

theorem blk_setCells_AN {w : World} {g o m : Nat} {t : TypeId} {f : Nat → Value} {vs : List Value} (h : Blk w g t (AN m f)) : Blk (w.setCells g o vs) g t (AN m fun i => if o ≤ i ∧ i < o + vs.length then vs.getD (i - o) undef else f i) := by
  obtain ⟨cs', h1, h2, h3⟩ := blk_setCells_at vs o w _ h
  rw [AN_size] at h2 h3
  have e : cs' = AN m fun i => if o ≤ i ∧ i < o + vs.length then vs.getD (i - o) undef else f i := by
    apply Array.ext (by rw [h2, AN_size])
    intro i a b
    have h4 := h3 i (by omega)
    rw [Array.getElem?_eq_getElem a, AN_get (by omega)] at h4
    have h5 : (AN m fun i => if o ≤ i ∧ i < o + vs.length then vs.getD (i - o) undef else f i)[i]? = some (if o ≤ i ∧ i < o + vs.length then vs.getD (i - o) undef else f i) := AN_get (by omega)
    rw [Array.getElem?_eq_getElem b] at h5
    rw [Option.some.inj h5]
    split at h4
    · rename_i hc
      rw [if_pos hc]
      rw [List.getElem?_eq_getElem (by omega)] at h4
      rw [Option.some.inj h4]
      simp [List.getD, List.getElem?_eq_getElem (show i - o < vs.length by omega)]
    · rename_i hc
      rw [if_neg hc]
      exact Option.some.inj h4
  rw [e] at h1
  exact h1
theorem NB.setR {W : World} {g o : Nat} {n n' : Nd} {va va' : Value} {vs : List Value} (h : NB W g n va) (he : ∀ i, i < 74 → n'.c va' i = if o ≤ i ∧ i < o + vs.length then vs.getD (i - o) undef else n.c va i) : NB (W.setCells g o vs) g n' va' := by
  have := blk_setCells_AN (o := o) (vs := vs) h
  unfold NB NA
  rw [AN_congr he]
  exact this
theorem NB.thereR {W : World} {g o k : Nat} {n : Nd} {va : Value} (h : NB W g n va) (hk : o + k ≤ 74) : W.there g o k := fun j hj => by
  rw [h.at_ (by omega)]
  exact ⟨rfl, Blk.frozen h _⟩
theorem c_fr_out (n : Nd) (x : Int) (va : Value) (i : Nat) (h : i < 1 ∨ 2 ≤ i) : ({ n with fr := x } : Nd).c va i = n.c va i := by
  unfold Nd.c
  rcases h with h | h
  · simp only [if_pos h]
  · simp only [if_neg (show ¬ i < 2 by omega)]
theorem c_di_out (n : Nd) (x : Nat → Int) (va : Value) (i : Nat) (h : i < 39 ∨ 51 ≤ i) : ({ n with di := x } : Nd).c va i = n.c va i := by
  unfold Nd.c
  rcases h with h | h
  · simp only [if_pos h]
  · simp only [if_neg (show ¬ i < 51 by omega)]
theorem c_he_out (n : Nd) (x : Nat → Int) (va : Value) (i : Nat) (h : i < 51 ∨ 55 ≤ i) : ({ n with he := x } : Nd).c va i = n.c va i := by
  unfold Nd.c
  rcases h with h | h
  · simp only [if_pos h]
  · simp only [if_neg (show ¬ i < 55 by omega)]
theorem c_ag_out (n : Nd) (x : Nat → Int) (va : Value) (i : Nat) (h : i < 55 ∨ 67 ≤ i) : ({ n with ag := x } : Nd).c va i = n.c va i := by
  unfold Nd.c
  rcases h with h | h
  · simp only [if_pos h]
  · simp only [if_neg (show ¬ i < 67 by omega)]
theorem c_us_out (n : Nd) (x : Nat → Int) (va : Value) (i : Nat) (h : i < 67 ∨ 70 ≤ i) : ({ n with us := x } : Nd).c va i = n.c va i := by
  unfold Nd.c
  rcases h with h | h
  · simp only [if_pos h]
  · simp only [if_neg (show ¬ i < 70 by omega)]
theorem c_dg_out (n : Nd) (x : Int) (va : Value) (i : Nat) (h : i < 70 ∨ 71 ≤ i) : ({ n with dg := x } : Nd).c va i = n.c va i := by
  unfold Nd.c
  rcases h with h | h
  · simp only [if_pos h]
  · simp only [if_neg (show ¬ i < 71 by omega)]
theorem c_ax_out (n : Nd) (x : Nat → St) (va : Value) (i : Nat) (h : i < 6 ∨ 27 ≤ i) : ({ n with ax := x } : Nd).c va i = n.c va i := by
  unfold Nd.c
  rcases h with h | h
  · simp only [if_pos h]
  · simp only [if_neg (show ¬ i < 27 by omega)]
theorem c_ro_out (n : Nd) (x : Rl) (va : Value) (i : Nat) (h : i < 27 ∨ 39 ≤ i) : ({ n with ro := x } : Nd).c va i = n.c va i := by
  unfold Nd.c
  rcases h with h | h
  · simp only [if_pos h]
  · simp only [if_neg (show ¬ i < 39 by omega)]
theorem c_va_out (n : Nd) (va va' : Value) (i : Nat) (h : i < 73) : n.c va' i = n.c va i := by
  unfold Nd.c
  simp only [if_pos h]
theorem zeros_get (m k : Nat) (h : k < m) : (List.replicate m (Value.int .i64 0)).getD k undef = .int .i64 0 := by
  simp [List.getD, h]
theorem he_di0 (n : Nd) (va : Value) : ∀ i, i < 74 → ({ n with di := fun _ => 0 } : Nd).c va i = if 39 ≤ i ∧ i < 39 + (#[Value.int .i64 0, Value.int .i64 0, Value.int .i64 0, Value.int .i64 0, Value.int .i64 0, Value.int .i64 0, Value.int .i64 0, Value.int .i64 0, Value.int .i64 0, Value.int .i64 0, Value.int .i64 0, Value.int .i64 0] : Array Value).toList.length then (#[Value.int .i64 0, Value.int .i64 0, Value.int .i64 0, Value.int .i64 0, Value.int .i64 0, Value.int .i64 0, Value.int .i64 0, Value.int .i64 0, Value.int .i64 0, Value.int .i64 0, Value.int .i64 0, Value.int .i64 0] : Array Value).toList.getD (i - 39) undef else n.c va i := by
  intro i hi
  have e : (#[Value.int .i64 0, Value.int .i64 0, Value.int .i64 0, Value.int .i64 0, Value.int .i64 0, Value.int .i64 0, Value.int .i64 0, Value.int .i64 0, Value.int .i64 0, Value.int .i64 0, Value.int .i64 0, Value.int .i64 0] : Array Value).toList = List.replicate 12 (Value.int .i64 0) := rfl
  rw [e, List.length_replicate]
  by_cases h : 39 ≤ i ∧ i < 39 + 12
  · rw [if_pos h, zeros_get _ _ (by omega), c_di h.1 (by omega)]
  · rw [if_neg h]; exact c_di_out n _ va i (by omega)
theorem he_he0 (n : Nd) (va : Value) : ∀ i, i < 74 → ({ n with he := fun _ => 0 } : Nd).c va i = if 51 ≤ i ∧ i < 51 + (#[Value.int .i64 0, Value.int .i64 0, Value.int .i64 0, Value.int .i64 0] : Array Value).toList.length then (#[Value.int .i64 0, Value.int .i64 0, Value.int .i64 0, Value.int .i64 0] : Array Value).toList.getD (i - 51) undef else n.c va i := by
  intro i hi
  have e : (#[Value.int .i64 0, Value.int .i64 0, Value.int .i64 0, Value.int .i64 0] : Array Value).toList = List.replicate 4 (Value.int .i64 0) := rfl
  rw [e, List.length_replicate]
  by_cases h : 51 ≤ i ∧ i < 51 + 4
  · rw [if_pos h, zeros_get _ _ (by omega), c_he h.1 (by omega)]
  · rw [if_neg h]; exact c_he_out n _ va i (by omega)
theorem he_di3 (n : Nd) (va : Value) (d : Nat) (a b c : Int) (hd : d < 4) : ∀ i, i < 74 → ({ n with di := fun k => if k / 3 = d then (if k % 3 = 0 then a else if k % 3 = 1 then b else c) else n.di k } : Nd).c va i = if 39 + d * 3 ≤ i ∧ i < 39 + d * 3 + (#[Value.int .i64 a, Value.int .i64 b, Value.int .i64 c] : Array Value).toList.length then (#[Value.int .i64 a, Value.int .i64 b, Value.int .i64 c] : Array Value).toList.getD (i - (39 + d * 3)) undef else n.c va i := by
  intro i hi
  have el : (#[Value.int .i64 a, Value.int .i64 b, Value.int .i64 c] : Array Value).toList.length = 3 := rfl
  rw [el]
  by_cases h : 39 + d * 3 ≤ i ∧ i < 39 + d * 3 + 3
  · rw [if_pos h, c_di (by omega) (by omega)]
    simp only [if_pos (show (i - 39) / 3 = d by omega)]
    rcases (show i - (39 + d * 3) = 0 ∨ i - (39 + d * 3) = 1 ∨ i - (39 + d * 3) = 2 by omega) with e | e | e
    · rw [e, if_pos (by omega)]; rfl
    · rw [e, if_neg (by omega), if_pos (by omega)]; rfl
    · rw [e, if_neg (by omega), if_neg (by omega)]; rfl
  · rw [if_neg h]
    by_cases h2 : 39 ≤ i ∧ i < 51
    · rw [c_di h2.1 h2.2, c_di h2.1 h2.2]
      simp only [if_neg (show ¬ (i - 39) / 3 = d by omega)]
    · exact c_di_out n _ va i (by omega)
section
variable {P : Program} {w : World} {ops : Array Oper} {rest : List Oper} {o : Oper} {a : Act} {Q : Exit → Act → World → Prop}
theorem wpList_store_nb (ty : TypeId) (x y : Operand) (ho : o.op = .store ty x y) (hgd : o.guard = none)
    (g off : Nat) (cells : Array Value) (n n' : Nd) (va va' : Value) (hx : a.eval x = .pointer (some ⟨g, off, none⟩)) (hy : a.eval y = .agg cells)
    (hN : NB w g n va) (hoff : off + cells.size ≤ 74) (hi : (P.info? ty).map (·.size) = some cells.size) (h1 : cells.all (·.oneCell') = true)
    (he : ∀ i, i < 74 → n'.c va' i = if off ≤ i ∧ i < off + cells.toList.length then cells.toList.getD (i - off) undef else n.c va i)
    (h : ∀ w', NB w' g n' va' → w.grownBy w' (some g) → wpList P ops Q rest (a.put o.dst undef) w') : wpList P ops Q (o :: rest) a w :=
  wpList_store_mid hgd ty x y ho g off cells hx hy (hN.thereR hoff) hi h1 (h _ (hN.setR he) (grown_setCells _ _ _ _))
end
theorem exec_load_row {P : Program} {o : Oper} {ρ : Operand → Value} {w : World} (ty : TypeId) (x : Operand) (ho : o.op = .load ty x) (g : Nat) (hx : ρ x = .pointer (some ⟨g, 0, none⟩)) (t : TypeId) (cs : Array Value) (d : TypeDesc) (hb : Blk w g t cs)
    (hu : P.underlying ty = some d) (hd : (match d with | .struct _ | .array _ _ => true | _ => false) = true) (hi : (P.info? ty).map (·.size) = some cs.size) : (execOp ρ o).run P w = .ok (.value (.agg cs)) w := by
  unfold execOp
  simp only [ho, hx, Instr.loadAt, Instr.sureAddr, Sem.run_bind, Sem.run_pure, Result.andThen_ok, run_loadVar_row w g t ty cs (0, 0) d hb hu hd hi]
theorem wp_store_row {P : Program} {o : Oper} {a : Act} {w : World} {K : Act → World → Prop} {Q : Exit → Act → World → Prop} (ty : TypeId) (x y : Operand) (ho : o.op = .store ty x y) (g : Nat) (t : TypeId) (cs cells : Array Value) (hx : a.eval x = .pointer (some ⟨g, 0, none⟩)) (hy : a.eval y = .agg cells)
    (hb : Blk w g t cs) (hl : cells.size = cs.size) (hi : (P.info? ty).map (·.size) = some cells.size) (h1 : cells.all (·.oneCell') = true)
    (h : ∀ w', Blk w' g t cells → w.grownBy w' (some g) → K (a.put o.dst undef) w') : o.wp P a w K Q := by
  refine wp_store_mid ty x y ho g 0 cells hx hy (fun j hj => ?_) hi h1 (h _ (hb.over hl) (grown_setCells g _ _ _))
  rw [Nat.zero_add]
  refine ⟨?_, hb.frozen j⟩
  rw [hb.cell j, Array.getElem?_eq_getElem (by omega)]
  rfl
theorem setRow_blk {w : World} {g : Nat} {t : TypeId} {cs : Array Value} (h : Blk w g t cs) (cs' : Array Value) : Blk (w.setRow g cs') g t cs' := by
  show (w.heap.modify g _)[g]? = _
  rw [Array.getElem?_modify, if_pos rfl, show w.heap[g]? = some (.cells cs t (0, 0)) from h]
  rfl
def diC (f : Nat → Int) : List Value := [.int .i64 (f 0), .int .i64 (f 1), .int .i64 (f 2), .int .i64 (f 3), .int .i64 (f 4), .int .i64 (f 5), .int .i64 (f 6), .int .i64 (f 7), .int .i64 (f 8), .int .i64 (f 9), .int .i64 (f 10), .int .i64 (f 11)]
theorem diC_get (f : Nat → Int) (j : Nat) (hj : j < 12) : (diC f)[j]? = some (.int .i64 (f j)) := by
  have e : diC f = (List.range 12).map (fun j => Value.int .i64 (f j)) := rfl
  rw [e, List.getElem?_map, List.getElem?_range hj]; rfl
theorem NB.diR {W : World} {g : Nat} {n : Nd} {va : Value} (h : NB W g n va) : W.rangeAt g 39 (diC n.di) := by
  intro j v hj
  have hlt : j < 12 := (List.getElem?_eq_some_iff.1 hj).1
  rw [diC_get _ j hlt] at hj
  injection hj with hj
  rw [← hj, h.at_ (by omega), c_di (by omega) (by omega), show 39 + j - 39 = j by omega]
theorem info12 : (Tryz.prog.info? 57).map (·.size) = some 12 := by kernel_rfl
theorem ixD0 (f : Nat → Int) (w : World) : (Instr.index 57 (.agg (diC f).toArray) (.int .i64 0)).run Tryz.prog w = .ok (.agg #[.int .i64 (f 0), .int .i64 (f 1), .int .i64 (f 2)]) w := by kernel_rfl
theorem ixD1 (f : Nat → Int) (w : World) : (Instr.index 57 (.agg (diC f).toArray) (.int .i64 1)).run Tryz.prog w = .ok (.agg #[.int .i64 (f 3), .int .i64 (f 4), .int .i64 (f 5)]) w := by kernel_rfl
theorem ixD2 (f : Nat → Int) (w : World) : (Instr.index 57 (.agg (diC f).toArray) (.int .i64 2)).run Tryz.prog w = .ok (.agg #[.int .i64 (f 6), .int .i64 (f 7), .int .i64 (f 8)]) w := by kernel_rfl
theorem ixD3 (f : Nat → Int) (w : World) : (Instr.index 57 (.agg (diC f).toArray) (.int .i64 3)).run Tryz.prog w = .ok (.agg #[.int .i64 (f 9), .int .i64 (f 10), .int .i64 (f 11)]) w := by kernel_rfl
theorem ixD (f : Nat → Int) (k : Nat) (hk : k < 4) (w : World) : (Instr.index 57 (.agg (diC f).toArray) (.int .i64 (k : Int))).run Tryz.prog w = .ok (.agg #[.int .i64 (f (3 * k)), .int .i64 (f (3 * k + 1)), .int .i64 (f (3 * k + 2))]) w := by
  match k, hk with
  | 0, _ => exact ixD0 f w
  | 1, _ => exact ixD1 f w
  | 2, _ => exact ixD2 f w
  | 3, _ => exact ixD3 f w
theorem row_AN {m off : Nat} {f : Nat → Value} {cs : List Value} (h : off + cs.length ≤ m) : ((AN m f).toList.take off ++ (cs ++ (AN m f).toList.drop (off + cs.length))).toArray = AN m fun i => if off ≤ i ∧ i < off + cs.length then cs.getD (i - off) undef else f i := by
  have hl : (AN m f).toList.length = m := by rw [Array.length_toList, AN_size]
  apply Array.ext_getElem?
  intro i
  rw [List.getElem?_toArray]
  by_cases hi : i < m
  · rw [AN_get hi]
    rcases (show i < off ∨ (off ≤ i ∧ i < off + cs.length) ∨ off + cs.length ≤ i by omega) with c | c | c
    · rw [if_neg (by omega), List.getElem?_append_left (by rw [List.length_take]; omega), List.getElem?_take, if_pos c, Array.getElem?_toList, AN_get hi]
    · rw [if_pos c, List.getElem?_append_right (by rw [List.length_take]; omega), List.length_take, hl, Nat.min_eq_left (by omega), List.getElem?_append_left (by omega), List.getElem?_eq_getElem (by omega)]
      simp [List.getD, List.getElem?_eq_getElem (show i - off < cs.length by omega)]
    · rw [if_neg (by omega), List.getElem?_append_right (by rw [List.length_take]; omega), List.length_take, hl, Nat.min_eq_left (by omega), List.getElem?_append_right (by omega), List.getElem?_drop, Array.getElem?_toList, show off + cs.length + (i - off - cs.length) = i by omega, AN_get hi]
  · rw [Array.getElem?_eq_none (by rw [AN_size]; omega), List.getElem?_eq_none]
    simp only [List.length_append, List.length_take, List.length_drop, hl]
    omega
section
variable {w : World} {ops : Array Oper} {rest : List Oper} {o : Oper} {a : Act} {Q : Exit → Act → World → Prop} {P : Program}
theorem wpList_copy_nb (d s : Operand) (dT sT : TypeId) (ho : o.op = .call { callee := .builtin .copy, args := #[d, s], argTypes := #[dT, sT] }) (hgd : o.guard = none) (elem : TypeId) (hu : P.underlying dT = some (.slice elem)) (hsz : (P.info? elem).map (·.size) = some 1)
    (g off dLen dCap : Nat) (ad : Addr) (sLen sCap : Nat) (hd : a.eval d = .slice (some ⟨g, off, none⟩) dLen dCap) (hs : a.eval s = .slice (some ad) sLen sCap)
    (n n' : Nd) (va va' : Value) (hN : NB w g n va) (cs : List Value) (hn : cs.length = Nat.min sLen dLen)
    (hsrc : ∀ (j : Nat) (v : Value), cs[j]? = some v → w.cell? (ad.add j) = some v) (hfit : off + cs.length ≤ 74) (h1 : ∀ v ∈ cs, v.oneCell' = true)
    (he : ∀ i, i < 74 → n'.c va' i = if off ≤ i ∧ i < off + cs.length then cs.getD (i - off) undef else n.c va i)
    (h : ∀ w', NB w' g n' va' → w.grownBy w' (some g) → wpList P ops Q rest (a.put o.dst (goInt cs.length)) w') : wpList P ops Q (o :: rest) a w := by
  refine wpList_copy_own hgd d s dT sT ho elem hu hsz g off dLen dCap ad sLen sCap hd hs (NA n va) _ hN cs hn hsrc (by rw [NA_size]; exact hfit) h1 (h _ ?_ ?_)
  · unfold NB NA
    rw [row_AN hfit, AN_congr (fun i hi => (he i hi).symm)]
    exact setRow_blk hN _
  · exact ⟨rfl, rfl, rfl, by simp [World.setRow], fun k hk hne => setRow_other w g k _ (fun e => hne (by rw [e]))⟩
end
theorem results_two {P : Program} {fn : Func} {p q : Tmp} {ty ty' : TypeId} (h : fn.results = #[.cell p ty, .cell q ty']) (tmps : Array Value) (w : World) (g g' : Nat) (t t' : TypeId) (cs cs' : Array Value) (d d' : TypeDesc)
    (hp : tmps.getD p undef = .pointer (some ⟨g, 0, none⟩)) (hq : tmps.getD q undef = .pointer (some ⟨g', 0, none⟩)) (hg : Blk w g t cs) (hg' : Blk w g' t' cs')
    (hu : P.underlying ty = some d) (hd : (match d with | .struct _ | .array _ _ => true | _ => false) = true) (hi : (P.info? ty).map (·.size) = some cs.size)
    (hu' : P.underlying ty' = some d') (hd' : (match d' with | .struct _ | .array _ _ => true | _ => false) = true) (hi' : (P.info? ty').map (·.size) = some cs'.size) :
    (results fn tmps).run P w = .ok (.tuple #[.agg cs, .agg cs']) w := by
  have hp' : tmps[p]?.getD undef = .pointer (some ⟨g, 0, none⟩) := by simpa using hp
  have hq' : tmps[q]?.getD undef = .pointer (some ⟨g', 0, none⟩) := by simpa using hq
  simp [results, h, hp', hq', asAddr, run_loadVar_row w g t ty cs (0, 0) d hg hu hd hi, run_loadVar_row w g' t' ty' cs' (0, 0) d' hg' hu' hd' hi']
end Go.Proofs.YtofeoeknmlkjgaaGreat.Nk
end
section
/- node.Sense. -/
set_option linter.unusedVariables false
namespace Go.Proofs.YtofeoeknmlkjgaaGreat.Nk
open Go.RowKit Go.Proofs.YtofeoeknmlkjgaaGreat Mb Fi Sm

def senseN (n : Nd) (d : Nat) (fr r0 r1 r2 : Int) : Nd := { n with fr := fr, di := fun k => if k / 3 = d then (if k % 3 = 0 then r0 else if k % 3 = 1 then r1 else r2) else 0, he := fun _ => 0 }
def OwnI (w : World) (base : Nat) (A : Option Addr) (m c : Nat) (vs : List Int) : Prop := Ints w .i64 A m vs ∧ (A = none → m = 0 ∧ c = 0) ∧ m ≤ c ∧ ∀ ad, A = some ad → ad.spot = none ∧ base ≤ ad.block ∧ ad.block < w.heap.size ∧ w.there ad.block ad.off m
def PhPost (n' : Nd) (bs : List Value) (k f r : Int) (vs : List Int) (w : World) (e : Ending) (w' : World) : Prop :=
  ∃ A' c' Am cm, e = .returned (.tuple #[.agg (NA n' (.slice A' bs.length c')), .agg #[.int .i64 k, .int .i64 f, .int .i64 r, .slice Am vs.length cm]]) ∧
    w'.ownsRow w.heap.size 4 1 (.slice A' bs.length c') bs.length bs ∧ OwnI w' w.heap.size Am vs.length cm vs ∧ Below w.heap.size w w'

set_option maxRecDepth 100000 in
set_option maxHeartbeats 4000000 in
theorem Sense_any (n : Nd) (A : Option Addr) (m c : Nat) (bs : List Value) (fr r0 r1 r2 : Int) (d : Nat) (hd : n.id = (d : Int)) (hd4 : d < 4) (w : World) (hb : VR w 1 A m c bs) (h1 : ∀ u ∈ bs, u.oneCell' = true) (hm : m ≤ 140737488355328) :
    Calls Tryz.prog 30 #[.agg (NA n (.slice A m c)), .int .i64 fr, .agg #[.int .i64 r0, .int .i64 r1, .int .i64 r2]] w (PhPost (senseN n d fr r0 r1 r2) bs 1 d fr [r0, r1, r2] w) := by
  obtain rfl : m = bs.length := by have := hb.1; omega
  have HVB := Lib.hid hb
  have H1 := Lib.hid h1
  have HD := Lib.hid hd
  clear hb h1 hd
  go_enter Tryz.func30, Tryz.ntmps30
  go_upto_region 1 with fail
  have hN : NB ((((w.alloc (.cells (NA n (.slice A bs.length c)) 62)).alloc (.cells #[.int .i64 r0, .int .i64 r1, .int .i64 r2] 56)).alloc (.cells Tryz.zeroCells62 62)).alloc (.cells #[.int .i64 0, .int .i64 0, .int .i64 0, .slice none 0 0] 24)) w.heap.size n (.slice A bs.length c) := (((Blk.new _ _ _).alloc _).alloc _).alloc _
  have hR : Blk ((((w.alloc (.cells (NA n (.slice A bs.length c)) 62)).alloc (.cells #[.int .i64 r0, .int .i64 r1, .int .i64 r2] 56)).alloc (.cells Tryz.zeroCells62 62)).alloc (.cells #[.int .i64 0, .int .i64 0, .int .i64 0, .slice none 0 0] 24)) (w.heap.size + 1) 56 #[.int .i64 r0, .int .i64 r1, .int .i64 r2] := ((Blk.at_ _ _ _ _ (by simp)).alloc _).alloc _
  have hZ : Blk ((((w.alloc (.cells (NA n (.slice A bs.length c)) 62)).alloc (.cells #[.int .i64 r0, .int .i64 r1, .int .i64 r2] 56)).alloc (.cells Tryz.zeroCells62 62)).alloc (.cells #[.int .i64 0, .int .i64 0, .int .i64 0, .slice none 0 0] 24)) (w.heap.size + 1 + 1) 62 Tryz.zeroCells62 := (Blk.at_ _ _ _ _ (by simp)).alloc _
  have hM : Blk ((((w.alloc (.cells (NA n (.slice A bs.length c)) 62)).alloc (.cells #[.int .i64 r0, .int .i64 r1, .int .i64 r2] 56)).alloc (.cells Tryz.zeroCells62 62)).alloc (.cells #[.int .i64 0, .int .i64 0, .int .i64 0, .slice none 0 0] 24)) (w.heap.size + 1 + 1 + 1) 24 #[.int .i64 0, .int .i64 0, .int .i64 0, .slice none 0 0] := Blk.at_ _ _ _ _ (by simp)
  have hB : Below w.heap.size w ((((w.alloc (.cells (NA n (.slice A bs.length c)) 62)).alloc (.cells #[.int .i64 r0, .int .i64 r1, .int .i64 r2] 56)).alloc (.cells Tryz.zeroCells62 62)).alloc (.cells #[.int .i64 0, .int .i64 0, .int .i64 0, .slice none 0 0] 24)) := ((((Below.refl _ _).alloc (Nat.le_refl _) _).alloc (by simp) _).alloc (by simp; omega) _).alloc (by simp; omega) _
  have hzs : (Tryz.zeroCells62).size = 74 := by kernel_rfl
  generalize Tryz.zeroCells62 = zc at *
  generalize (((w.alloc (.cells (NA n (.slice A bs.length c)) 62)).alloc (.cells #[.int .i64 r0, .int .i64 r1, .int .i64 r2] 56)).alloc (.cells zc 62)).alloc (.cells #[.int .i64 0, .int .i64 0, .int .i64 0, .slice none 0 0] 24) = W0 at *
  have hg : w.heap.size + 1 + 1 + 1 < W0.heap.size := hM.lt
  have HZS := Lib.hid hzs
  have HN := Lib.hid hN
  have HR := Lib.hid hR
  have HZ := Lib.hid hZ
  have HM := Lib.hid hM
  have HB := Lib.hid hB
  have KC := Lib.hid (copied_any n A bs.length c bs W0 (HVB.out.next hB) H1.out hm)
  unfold CopyPost at KC
  clear hN hR hZ hM hB hzs
  go_upto_region 4 with (first
    | (refine wpList_load_at 62 (.tmp 3) rfl rfl w.heap.size rfl _ (NA n (.slice A bs.length c)) _ HN.out Tryz.underlying62 rfl (by rw [NA_size]; exact infoNode) ?_)
    | (go_at_call 45; (with_reducible refine KC.out.mono ?_); rintro e w1 ⟨A', c', rfl, hO1, hB1⟩; have HN1 := Lib.hid (NB.next HN.out hB1); have HR1 := Lib.hid (HR.out.next hB1); have HZ1 := Lib.hid (HZ.out.next hB1); have HM1 := Lib.hid (HM.out.next hB1); have HB1 := Lib.hid (HB.out.trans (hB1.mono HB.out.size)); have HO1 := Lib.hid hO1; clear hO1 hB1)
    | (refine wpList_store_at 62 (.tmp 3) (.tmp 9) rfl rfl w.heap.size _ _ (NA n (.slice A' bs.length c')) rfl rfl HN1.out (by rw [NA_size, NA_size]) (by rw [NA_size]; exact infoNode) (NA_one _ _ _ _) ?_; intro w2 hN2 hg2; have HN2 := Lib.hid hN2; have HG2 := Lib.hid hg2; clear hN2 hg2)
    | (refine wpList_load_at 62 (.tmp 3) rfl rfl w.heap.size rfl _ (NA n (.slice A' bs.length c')) _ HN2.out Tryz.underlying62 rfl (by rw [NA_size]; exact infoNode) ?_)
    | (go_at_call 46; (with_reducible refine (strange_no n (.slice A' bs.length c') w2 (by rw [HD.out]; omega) (by rw [HD.out]; omega)).mono ?_); rintro e w3 ⟨rfl, hb3⟩; have HN3 := Lib.hid (NB.next HN2.out hb3); have HB3 := Lib.hid hb3; clear hb3))
  have c1 := NB.fr HN3.out
  have f1 := Blk.frozen HN3.out 1
  have HN4 := Lib.hid (NB.set (n' := { n with fr := fr }) HN3.out (k := 1) (u := .int .i64 fr) (fun i hi => by
    by_cases e : i = 1
    · subst e; rfl
    · rw [if_neg e]; exact c_fr_out n fr _ i (by omega)))
  go_upto_region 5 with fail
  clear c1 f1
  have qd : (0 : Int) ≤ (d : Int) := by omega
  have qd4 : (d : Int) < 4 := by omega
  have hB4 : Below w.heap.size w (w3.setCell ⟨w.heap.size, 1, none⟩ (.int .i64 fr)) := (((HB1.out.grown HG2.out HB1.out.size (fun j hj => by cases hj; exact Nat.le_refl _)).trans (HB3.out.mono (by have := HG2.out.size; have := HB1.out.size; omega)))).setCell (p := ⟨w.heap.size, 1, none⟩) (Nat.le_refl _) _
  have hx : ∀ (q : Nat) (t : TypeId) (cs : Array Value), q ≠ w.heap.size → Blk w1 q t cs → Blk (w3.setCell ⟨w.heap.size, 1, none⟩ (.int .i64 fr)) q t cs := fun q t cs hq h => ((h.grown HG2.out (by intro e; exact hq (Option.some.inj e))).next HB3.out).grown (grown_set _ _ _ _) (by intro e; exact hq (Option.some.inj e))
  have hR4 := hx _ _ _ (by omega) HR1.out
  have hZ4 := hx _ _ _ (by omega) HZ1.out
  have hM4 := hx _ _ _ (by omega) HM1.out
  have hO4 : (w3.setCell ⟨w.heap.size, 1, none⟩ (.int .i64 fr)).ownsRow W0.heap.size 4 1 (.slice A' bs.length c') bs.length bs :=
    own_kept_t (own_below (own_kept_t HO1.out HG2.out HN1.out (by decide)) HB3.out (fun x hx => ((own_kept_t HO1.out HG2.out HN1.out (by decide)).lt x hx).2)) (grown_set _ _ _ _) HN3.out (by decide)
  generalize w3.setCell ⟨w.heap.size, 1, none⟩ (.int .i64 fr) = W4 at *
  have HR4 := Lib.hid hR4
  have HZ4 := Lib.hid hZ4
  have HM4 := Lib.hid hM4
  have HO4 := Lib.hid hO4
  have HB4 := Lib.hid hB4
  clear hR4 hZ4 hM4 hO4 hB4 hx HN HR HZ HM HB KC HN1 HR1 HZ1 HM1 HB1 HO1 HN2 HG2 HN3 HB3
  have k0 := HR4.out.cell 0
  have k1 := HR4.out.cell 1
  have k2 := HR4.out.cell 2
  (simp only [List.getElem?_toArray, List.getElem?_cons_zero, List.getElem?_cons_succ] at k0 k1 k2)
  go_upto_region 7 with (first
    | (refine wpList_store_nb 57 (.tmp 17) (.tmp 16) rfl rfl w.heap.size 39 #[Value.int .i64 0, Value.int .i64 0, Value.int .i64 0, Value.int .i64 0, Value.int .i64 0, Value.int .i64 0, Value.int .i64 0, Value.int .i64 0, Value.int .i64 0, Value.int .i64 0, Value.int .i64 0, Value.int .i64 0] { n with fr := fr } { n with fr := fr, di := fun _ => 0 } _ _ rfl rfl HN4.out (by decide) (by kernel_rfl) (by kernel_rfl) (he_di0 { n with fr := fr } (.slice A' bs.length c')) ?_; intro w5 hN5 hg5; have HN5 := Lib.hid hN5; have HG5 := Lib.hid hg5; clear hN5 hg5)
    | (refine wpList_store_nb 53 (.tmp 19) (.tmp 18) rfl rfl w.heap.size 51 #[Value.int .i64 0, Value.int .i64 0, Value.int .i64 0, Value.int .i64 0] { n with fr := fr, di := fun _ => 0 } { n with fr := fr, di := fun _ => 0, he := fun _ => 0 } _ _ rfl rfl HN5.out (by decide) (by kernel_rfl) (by kernel_rfl) (he_he0 { n with fr := fr, di := fun _ => 0 } (.slice A' bs.length c')) ?_; intro w6 hN6 hg6; have HN6 := Lib.hid hN6; have HG6 := Lib.hid hg6; clear hN6 hg6))
  have g34 : w.heap.size + 1 ≠ w.heap.size := by omega
  have hR6 := (HR4.out.grown HG5.out (by intro e; exact g34 (Option.some.inj e))).grown HG6.out (by intro e; exact g34 (Option.some.inj e))
  have HR6 := Lib.hid hR6
  have c0 : w6.cell? ⟨w.heap.size, 0, none⟩ = some (.int .i64 d) := by rw [← HD.out]; exact HN6.out.id
  clear k0 k1 k2 hR6
  go_upto_region 8 with (first
    | (refine wpList_load_at 56 (.tmp 5) rfl rfl (w.heap.size + 1) rfl _ #[.int .i64 r0, .int .i64 r1, .int .i64 r2] _ HR6.out Tryz.underlying56 rfl (by kernel_rfl) ?_)
    | (refine wpList_store_nb 56 (.tmp 24) (.tmp 22) rfl rfl w.heap.size (39 + d * 3) #[.int .i64 r0, .int .i64 r1, .int .i64 r2] { n with fr := fr, di := fun _ => 0, he := fun _ => 0 } (senseN n d fr r0 r1 r2) _ _ rfl rfl HN6.out (by simp; omega) (by kernel_rfl) (by simp [Value.oneCell']) (he_di3 { n with fr := fr, di := fun _ => 0, he := fun _ => 0 } (.slice A' bs.length c') d r0 r1 r2 hd4) ?_; intro w7 hN7 hg7; have HN7 := Lib.hid hN7; have HG7 := Lib.hid hg7; clear hN7 hg7))
  have g36 : w.heap.size + 1 + 1 ≠ w.heap.size := by omega
  have g37 : w.heap.size + 1 + 1 + 1 ≠ w.heap.size := by omega
  have hx : ∀ (q : Nat) (t : TypeId) (cs : Array Value), q ≠ w.heap.size → Blk W4 q t cs → Blk w7 q t cs := fun q t cs hq h => ((h.grown HG5.out (by intro e; exact hq (Option.some.inj e))).grown HG6.out (by intro e; exact hq (Option.some.inj e))).grown HG7.out (by intro e; exact hq (Option.some.inj e))
  have HR7 := Lib.hid (hx _ _ _ g34 HR4.out)
  have HZ7 := Lib.hid (hx _ _ _ g36 HZ4.out)
  have HM7 := Lib.hid (hx _ _ _ g37 HM4.out)
  have HO7 := Lib.hid (own_kept_t (own_kept_t (own_kept_t HO4.out HG5.out HN4.out (by decide)) HG6.out HN5.out (by decide)) HG7.out HN6.out (by decide))
  have HB7 := Lib.hid (((HB4.out.grown HG5.out HB4.out.size (fun j hj => by cases hj; exact Nat.le_refl _)).grown HG6.out (by have := HB4.out.size; have := HG5.out.size; omega) (fun j hj => by cases hj; exact Nat.le_refl _)).grown HG7.out (by have := HB4.out.size; have := HG5.out.size; have := HG6.out.size; omega) (fun j hj => by cases hj; exact Nat.le_refl _))
  clear hx HR4 HZ4 HM4 HO4 HN4 HN5 HN6 HG5 HG6 HG7 HR6 HB4 c0
  have hid : (senseN n d fr r0 r1 r2).id = (d : Int) := HD.out
  have hfr : (senseN n d fr r0 r1 r2).fr = fr := rfl
  have KS := Lib.hid (fun W => say_any (senseN n d fr r0 r1 r2) (.slice A' bs.length c') 1 (some ⟨w.heap.size + 1, 0, none⟩) 3 3 W)
  rw [hid, hfr] at KS
  have SK := Lib.hid (fun W (h : Below w7.heap.size w7 W) => NB.next HN7.out h)
  unfold NB at SK
  clear hid hfr
  generalize hn7 : senseN n d fr r0 r1 r2 = n7 at *
  have HN7' := Lib.hid hn7
  clear hn7
  try simp only [pts]
  refine wp_region_F 5 (fun w' => Blk w' w.heap.size 62 (NA n7 (.slice A' bs.length c'))) (by kernel_rfl) (SK.out _ (Below.refl _ _).drew) (fun hS => ?_)
  refine wpF 0 (.agg (NA n7 (.slice A' bs.length c'))) rfl (by kernel_rfl) (fun _ _ _ h => h) (Or.inl ⟨by rfl, fun wx hSw => exec_load_row 62 (.tmp 3) rfl w.heap.size rfl _ (NA n7 (.slice A' bs.length c')) _ hSw Tryz.underlying62 rfl (by rw [NA_size]; exact infoNode)⟩) hS ?_
  try simp only [pts]
  refine wpF 1 (.agg (NA n7 (.slice A' bs.length c'))) rfl (by kernel_rfl) (fun _ _ _ h => h) (Or.inl ⟨by rfl, fun wx hSw => exec_load_row 62 (.tmp 3) rfl w.heap.size rfl _ (NA n7 (.slice A' bs.length c')) _ hSw Tryz.underlying62 rfl (by rw [NA_size]; exact infoNode)⟩) hS ?_
  try simp only [pts]
  refine wpF 2 ?_ rfl (by kernel_rfl) (fun _ _ _ h => h) (Or.inl ⟨by rfl, fun wx hSw => ?_⟩) hS ?_
  rotate_left
  · (try dsimp only at hSw); go_simp; (try with_reducible rfl)
  try simp only [pts]
  refine wpAnyF_one (i := 3) rfl (by kernel_rfl) (fun K hK => ?_)
  go_simp
  (with_reducible refine (KS.out _).mono ?_)
  rintro e w8 ⟨rfl, hb8⟩
  have hb8' : Below w7.heap.size w7 w8 := ((Below.refl _ _).drew).trans (hb8.mono (Nat.le_refl _))
  clear hS
  have hS := SK.out _ hb8'
  have HB8 := Lib.hid hb8'
  clear hb8 hb8'
  refine hK.out _ _ hS ?_
  clear hK K
  try simp only [pts]
  refine wpAnyF_one (i := 4) rfl (by kernel_rfl) (fun K hK => ?_)
  rw [if_pos (by rfl)]
  refine wp_store_row 62 (.tmp 6) (.tmp 25) rfl (w.heap.size + 1 + 1) _ zc (NA n7 (.slice A' bs.length c')) rfl rfl (HZ7.out.next HB8.out) (by rw [NA_size, HZS.out]) (by rw [NA_size]; exact infoNode) (NA_one _ _ _ _) (fun w9 hN9 hg9 => ?_)
  have hS9 := hS.grown hg9 (by intro e; exact g36 (Option.some.inj e).symm)
  refine hK.out _ _ hS9 ?_
  clear hK K hS
  try simp only [pts]
  refine wpAnyF_last rfl (by kernel_rfl) (by kernel_rfl) (fun K hK => ?_)
  rw [if_pos (by rfl)]
  refine wp_store_row 24 (.tmp 7) (.tmp 28) rfl (w.heap.size + 1 + 1 + 1) _ _ #[.int .i64 1, .int .i64 d, .int .i64 fr, .slice (some ⟨w.heap.size + 1, 0, none⟩) 3 3] rfl rfl ((HM7.out.next HB8.out).grown hg9 (by intro e; have := Option.some.inj e; omega)) rfl (by kernel_rfl) (by simp [Value.oneCell']) (fun w10 hM10 hg10 => ?_)
  refine hK.out _ _ ?_
  clear hK K
  try simp only [pts]
  go_wp2_with fail
  have hN10 := hN9.grown hg10 (by intro e; have := Option.some.inj e; omega)
  refine bodyPost_ret (results_two Tryz.results30 _ _ (w.heap.size + 1 + 1) (w.heap.size + 1 + 1 + 1) _ _ _ _ _ _ rfl rfl hN10 hM10 Tryz.underlying62 rfl (by rw [NA_size]; exact infoNode) Tryz.underlying24 rfl (by kernel_rfl)) rfl ?_
  have hzz := HZ7.out.next HB8.out
  have hmm := (HM7.out.next HB8.out).grown hg9 (by intro e; have := Option.some.inj e; omega)
  have ho8 := own_below HO7.out HB8.out (fun x hx => (HO7.out.lt x hx).2)
  have ho10 := own_kept_t (own_kept_t ho8 hg9 hzz (by decide)) hg10 hmm (by decide)
  have hr10 := ((HR7.out.next HB8.out).grown hg9 (by intro e; have := Option.some.inj e; omega)).grown hg10 (by intro e; have := Option.some.inj e; omega)
  have s7 := HB7.out.size
  have s8 := HB8.out.size
  have b8 := HB7.out.trans (HB8.out.mono s7)
  have b9 := b8.grown hg9 b8.size (fun j hj => by cases hj; omega)
  have b10 := b9.grown hg10 b9.size (fun j hj => by cases hj; omega)
  rw [← HN7'.out]
  exact ⟨A', c', some ⟨w.heap.size + 1, 0, none⟩, 3, rfl, own_le ho10 (by omega), ⟨ints_blk (zs := [r0, r1, r2]) hr10, (fun e => by cases e), Nat.le_refl _, fun ad e => by
    cases e
    refine ⟨rfl, by show _ ≤ w.heap.size + 1; omega, hr10.lt, fun j hj => ?_⟩
    rw [Nat.zero_add, hr10.cell j]
    have hj3 : j < 3 := hj
    exact ⟨by rw [Array.getElem?_eq_getElem (by simpa using hj3)]; rfl, hr10.frozen j⟩⟩, b10⟩
theorem OwnI.grown {w w' : World} {B q m c : Nat} {A : Option Addr} {vs : List Int} (h : OwnI w B A m c vs) (hg : w.grownBy w' (some q)) (hne : ∀ ad, A = some ad → ad.block ≠ q) : OwnI w' B A m c vs := by
  obtain ⟨h1, h2, h3, h4⟩ := h
  refine ⟨⟨h1.1, fun hn => ?_⟩, h2, h3, fun ad e => ?_⟩
  · obtain ⟨b, off, e, hlt, hc⟩ := h1.2 hn
    refine ⟨b, off, e, Nat.lt_of_lt_of_le hlt hg.size, fun j hj => ?_⟩
    rw [← hc j hj]
    exact World.cell?_of_block (hg.block b hlt (by intro e2; exact hne _ e (Option.some.inj e2)))
  · obtain ⟨k1, k2, k3, k4⟩ := h4 ad e
    have hb := hg.block ad.block k3 (by intro e2; exact hne _ e (Option.some.inj e2))
    refine ⟨k1, k2, Nat.lt_of_lt_of_le k3 hg.size, fun j hj => ?_⟩
    rw [World.cell?_of_block (a := ⟨ad.block, ad.off + j, none⟩) hb, World.frozen?_of_block (a := ⟨ad.block, ad.off + j, none⟩) hb]
    exact k4 j hj
theorem OwnI.next {w w' : World} {B m c : Nat} {A : Option Addr} {vs : List Int} (h : OwnI w B A m c vs) (hb : Below w.heap.size w w') : OwnI w' B A m c vs :=
  h.grown (q := w.heap.size) (grown_below hb) (fun ad e => by have := (h.2.2.2 ad e).2.2.1; omega)
theorem OwnI.down {w : World} {B B' m c : Nat} {A : Option Addr} {vs : List Int} (h : OwnI w B A m c vs) (hb : B' ≤ B) : OwnI w B' A m c vs :=
  ⟨h.1, h.2.1, h.2.2.1, fun ad e => by obtain ⟨k1, k2, k3, k4⟩ := h.2.2.2 ad e; exact ⟨k1, Nat.le_trans hb k2, k3, k4⟩⟩
theorem ph_end {w w7 w8 w9 w10 : World} {n7 : Nd} {A' Am : Option Addr} {c' cm b0 g1 g2 : Nat} {bs : List Value} {k f r : Int} {vs : List Int} {zc ms : Array Value} (hg1 : w.heap.size ≤ g1) (hg2 : w.heap.size ≤ g2) (h12 : g2 ≠ g1)
    (hZ : Blk w7 g1 62 zc) (hM : Blk w7 g2 24 ms) (hO : w7.ownsRow b0 4 1 (.slice A' bs.length c') bs.length bs) (hb0 : w.heap.size ≤ b0) (hB : Below w.heap.size w w7) (hb8 : Below w7.heap.size w7 w8)
    (hg9 : w8.grownBy w9 (some g1)) (hg10 : w9.grownBy w10 (some g2)) (hI : OwnI w8 w.heap.size Am vs.length cm vs) (hne : ∀ ad, Am = some ad → ad.block ≠ g1 ∧ ad.block ≠ g2) :
    PhPost n7 bs k f r vs w (.returned (.tuple #[.agg (NA n7 (.slice A' bs.length c')), .agg #[.int .i64 k, .int .i64 f, .int .i64 r, .slice Am vs.length cm]])) w10 := by
  have hzz := hZ.next hb8
  have hmm := (hM.next hb8).grown hg9 (by intro e; exact h12 (Option.some.inj e))
  have ho8 := own_below hO hb8 (fun x hx => (hO.lt x hx).2)
  have ho10 := own_kept_t (own_kept_t ho8 hg9 hzz (by decide)) hg10 hmm (by decide)
  have s7 := hB.size
  have b8 := hB.trans (hb8.mono s7)
  have b9 := b8.grown hg9 b8.size (fun j hj => by cases hj; exact hg1)
  have b10 := b9.grown hg10 b9.size (fun j hj => by cases hj; exact hg2)
  exact ⟨A', c', Am, cm, rfl, own_le ho10 hb0, (hI.grown hg9 (fun ad e => (hne ad e).1)).grown hg10 (fun ad e => (hne ad e).2), b10⟩
end Go.Proofs.YtofeoeknmlkjgaaGreat.Nk
end
section
/- node.Relay. -/
set_option linter.unusedVariables false
namespace Go.Proofs.YtofeoeknmlkjgaaGreat.Nk
open Go.RowKit Go.Proofs.YtofeoeknmlkjgaaGreat Mb Fi Sm

def relTo (n : Nd) (h : Hd) (i : Nat) : Nd := { n with di := fun k => if k / 3 < i then (match h (k / 3) with | some l => l.getD (k % 3) 0 | none => n.di k) else n.di k }
def relayH (n : Nd) (Ms : List Pm) : Hd := hearF n.id n.fr 1 3 Ms
def relayN (n : Nd) (Ms : List Pm) : Nd := relTo n (relayH n Ms) 4
def dirL (f : Nat → Int) (k : Nat) : List Int := (List.range k).map f
theorem relTo_zero (n : Nd) (h : Hd) : relTo n h 0 = n := by unfold relTo; simp
theorem relTo_none (n : Nd) (h : Hd) (i : Nat) (hh : h i = none) : relTo n h (i + 1) = relTo n h i := by
  unfold relTo
  congr 1
  funext k
  rcases Nat.lt_trichotomy (k / 3) i with c | c | c
  · rw [if_pos (by omega), if_pos c]
  · rw [if_pos (by omega), if_neg (by omega), c, hh]
  · rw [if_neg (by omega), if_neg (by omega)]
theorem relTo_some (n : Nd) (h : Hd) (i : Nat) (l : List Int) (hi : i < 4) (hh : h i = some l) (hl : l.length = 3) (va : Value) : ∀ j, j < 74 → (relTo n h (i + 1)).c va j = if 39 + i * 3 ≤ j ∧ j < 39 + i * 3 + (l.map (Value.int .i64)).length then (l.map (Value.int .i64)).getD (j - (39 + i * 3)) undef else (relTo n h i).c va j := by
  intro j hj
  rw [List.length_map, hl]
  by_cases c : 39 + i * 3 ≤ j ∧ j < 39 + i * 3 + 3
  · rw [if_pos c, c_di (by omega) (by omega)]
    unfold relTo
    simp only
    have e1 : (j - 39) / 3 = i := by omega
    have e2 : (j - 39) % 3 = j - (39 + i * 3) := by omega
    rw [e1, e2, if_pos (by omega), hh]
    have hlt : j - (39 + i * 3) < l.length := by omega
    simp [List.getD, List.getElem?_eq_getElem hlt]
  · rw [if_neg c]
    by_cases c2 : 39 ≤ j ∧ j < 51
    · rw [c_di c2.1 c2.2, c_di c2.1 c2.2]
      unfold relTo
      simp only
      rcases Nat.lt_trichotomy ((j - 39) / 3) i with c3 | c3 | c3
      · rw [if_pos (by omega), if_pos c3]
      · omega
      · rw [if_neg (by omega), if_neg (by omega)]
    · unfold relTo
      exact (c_di_out n _ va j (by omega)).trans (c_di_out n _ va j (by omega)).symm

def RlRel (w w4 : World) (n : Nd) (va : Value) (h : Hd) (iv : Value) (wr : World) : Prop :=
  ∃ i : Nat, iv = .int .i64 i ∧ i ≤ 4 ∧ NB wr w.heap.size (relTo n h i) va ∧ w4.grownBy wr (some w.heap.size)

def dirS (f : Nat → Int) : Nat → List Int
  | 0 => []
  | i + 1 => dirS f i ++ [f (3 * i), f (3 * i + 1), f (3 * i + 2)]
def RvRel (w6 : World) (f : Nat → Int) (lv iv : Value) (wr : World) : Prop :=
  ∃ (i : Nat) (v : Value), iv = .int .i64 i ∧ i ≤ 4 ∧ lv = v ∧ wr.ownsRow w6.heap.size 3 1 v (3 * i) ((dirS f i).map (Value.int .i64)) ∧ Below w6.heap.size w6 wr
theorem own_n3 {w : World} {b i : Nat} {e : TypeId} {v : Value} {xs : List Value} (h : w.ownsRow b e 1 v (3 * i + 3) xs) : w.ownsRow b e 1 v (3 * (i + 1)) xs := by rw [Nat.mul_add]; exact h
theorem own_ownI {w : World} {base m c : Nat} {A : Option Addr} {vs : List Int} {e : TypeId} (h : w.ownsRow base e 1 (.slice A m c) m (vs.map (Value.int .i64))) : OwnI w base A m c vs := by
  have hv := VR.own h
  refine ⟨Bs_ints_own h, hv.2.1, ?_, fun ad e => ?_⟩
  · rcases h.2 with ⟨h1, h2⟩ | ⟨g, cap, cur, h1, hb, hh, hc, _⟩
    · omega
    · injection h1 with _ _ h3; omega
  · subst e
    rcases h.2 with ⟨h1, h2⟩ | ⟨g, cap, cur, h1, hb, hh, hc, hm, hs, ht⟩
    · cases h1
    · injection h1 with h1 _ h3
      injection h1 with h1
      subst h1 h3
      refine ⟨rfl, hb, (Array.getElem?_eq_some_iff.1 hh).1, fun j hj => ?_⟩
      have hB : Blk w g _ cur := hh
      rw [Nat.zero_add, hB.cell j, Array.getElem?_eq_getElem (by omega)]
      exact ⟨rfl, hB.frozen j⟩

set_option maxRecDepth 100000 in
set_option maxHeartbeats 8000000 in
theorem Relay_any (n : Nd) (A : Option Addr) (m c : Nat) (bs : List Value) (Am : Option Addr) (mm cm : Nat) (Ms : List Mg) (h0 : 0 ≤ n.id) (h4 : n.id < 4) (w : World) (hb : VR w 1 A m c bs) (h1 : ∀ u ∈ bs, u.oneCell' = true) (hm : m ≤ 140737488355328) (hM : MR w Am mm cm Ms) (hmm : mm ≤ 17592186044416) :
    Calls Tryz.prog 31 #[.agg (NA n (.slice A m c)), .slice Am mm cm] w (PhPost (relayN n (Ms.map Mg.pm)) bs 2 n.id n.fr (dirL (relayN n (Ms.map Mg.pm)).di 12) w) := by
  obtain rfl : m = bs.length := by have := hb.1; omega
  have HVB := Lib.hid hb
  have H1 := Lib.hid h1
  have HMR := Lib.hid hM
  clear hb h1 hM
  --PRE Relay 11 4
  go_enter Tryz.func31, Tryz.ntmps31
  go_upto_region 1 with fail
  have hN : NB (((w.alloc (.cells (NA n (.slice A bs.length c)) 62)).alloc (.cells Tryz.zeroCells62 62)).alloc (.cells #[.int .i64 0, .int .i64 0, .int .i64 0, .slice none 0 0] 24)) w.heap.size n (.slice A bs.length c) := ((Blk.new _ _ _).alloc _).alloc _
  have hZ : Blk (((w.alloc (.cells (NA n (.slice A bs.length c)) 62)).alloc (.cells Tryz.zeroCells62 62)).alloc (.cells #[.int .i64 0, .int .i64 0, .int .i64 0, .slice none 0 0] 24)) (w.heap.size + 1) 62 Tryz.zeroCells62 := (Blk.at_ _ _ _ _ (by simp)).alloc _
  have hM : Blk (((w.alloc (.cells (NA n (.slice A bs.length c)) 62)).alloc (.cells Tryz.zeroCells62 62)).alloc (.cells #[.int .i64 0, .int .i64 0, .int .i64 0, .slice none 0 0] 24)) (w.heap.size + 1 + 1) 24 #[.int .i64 0, .int .i64 0, .int .i64 0, .slice none 0 0] := Blk.at_ _ _ _ _ (by simp)
  have hB : Below w.heap.size w (((w.alloc (.cells (NA n (.slice A bs.length c)) 62)).alloc (.cells Tryz.zeroCells62 62)).alloc (.cells #[.int .i64 0, .int .i64 0, .int .i64 0, .slice none 0 0] 24)) := (((Below.refl _ _).alloc (Nat.le_refl _) _).alloc (by simp) _).alloc (by simp; omega) _
  have hzs : (Tryz.zeroCells62).size = 74 := by kernel_rfl
  generalize Tryz.zeroCells62 = zc at *
  generalize ((w.alloc (.cells (NA n (.slice A bs.length c)) 62)).alloc (.cells zc 62)).alloc (.cells #[.int .i64 0, .int .i64 0, .int .i64 0, .slice none 0 0] 24) = W0 at *
  have hW0 : w.heap.size + 1 + 1 < W0.heap.size := hM.lt
  have HZS := Lib.hid hzs
  have HN := Lib.hid hN
  have HZ := Lib.hid hZ
  have HM := Lib.hid hM
  have HB := Lib.hid hB
  have KC := Lib.hid (copied_any n A bs.length c bs W0 (HVB.out.next hB) H1.out hm)
  unfold CopyPost at KC
  clear hN hZ hM hB hzs
  go_upto_region 4 with (first
    | (refine wpList_load_at 62 (.tmp 2) rfl rfl w.heap.size rfl _ (NA n (.slice A bs.length c)) _ HN.out Tryz.underlying62 rfl (by rw [NA_size]; exact infoNode) ?_)
    | (go_at_call 45; (with_reducible refine KC.out.mono ?_); rintro e w1 ⟨A', c', rfl, hO1, hB1⟩; have hw1 : W0.heap.size ≤ w1.heap.size := hB1.size; have HN1 := Lib.hid (NB.next HN.out hB1); have HZ1 := Lib.hid (HZ.out.next hB1); have HM1 := Lib.hid (HM.out.next hB1); have HB1 := Lib.hid (HB.out.trans (hB1.mono HB.out.size)); have HO1 := Lib.hid hO1; clear hO1 hB1)
    | (refine wpList_store_at 62 (.tmp 2) (.tmp 12) rfl rfl w.heap.size _ _ (NA n (.slice A' bs.length c')) rfl rfl HN1.out (by rw [NA_size, NA_size]) (by rw [NA_size]; exact infoNode) (NA_one _ _ _ _) ?_; intro w2 hN2 hg2; have HN2 := Lib.hid hN2; have HG2 := Lib.hid hg2; clear hN2 hg2)
    | (refine wpList_load_at 62 (.tmp 2) rfl rfl w.heap.size rfl _ (NA n (.slice A' bs.length c')) _ HN2.out Tryz.underlying62 rfl (by rw [NA_size]; exact infoNode) ?_)
    | (go_at_call 46; (with_reducible refine (strange_no n (.slice A' bs.length c') w2 h0 h4).mono ?_); rintro e w3 ⟨rfl, hb3⟩; have HN3 := Lib.hid (NB.next HN2.out hb3); have HBs := Lib.hid hb3; clear hb3))
  have HZ3 := Lib.hid ((HZ1.out.grown HG2.out (by intro e; have := Option.some.inj e; omega)).next HBs.out)
  have HM3 := Lib.hid ((HM1.out.grown HG2.out (by intro e; have := Option.some.inj e; omega)).next HBs.out)
  have HO3 := Lib.hid (own_below (own_kept_t HO1.out HG2.out HN1.out (by decide)) HBs.out (fun x hx => ((own_kept_t HO1.out HG2.out HN1.out (by decide)).lt x hx).2))
  have HB3 := Lib.hid ((HB1.out.grown HG2.out HB1.out.size (fun j hj => by cases hj; exact Nat.le_refl _)).trans (HBs.out.mono (by have := HG2.out.size; have := HB1.out.size; omega)))
  have hw3 : W0.heap.size ≤ w3.heap.size := by have := HG2.out.size; have := HBs.out.size; omega
  clear HN HZ HM HB KC HN1 HZ1 HM1 HB1 HO1 HN2 HG2 HBs
  --END
  have HMR3 := Lib.hid (HMR.out.next HB3.out)
  have KH := Lib.hid (hear_any n (.slice A' bs.length c') Am mm cm Ms 1 3 3 rfl (by decide) (by decide) h0 h4 w3 HMR3.out hmm)
  unfold HearPost at KH
  go_wp2_with (first
    | (refine wpList_load_at 62 (.tmp 2) rfl rfl w.heap.size rfl _ (NA n (.slice A' bs.length c')) _ HN3.out Tryz.underlying62 rfl (by rw [NA_size]; exact infoNode) ?_)
    | (go_at_call 48; (with_reducible refine KH.out.mono ?_); rintro e w4 ⟨sv, rfl, hS4, hb4⟩; have HN4 := Lib.hid (NB.next HN3.out hb4); have HSL := Lib.hid hS4; have HB34 := Lib.hid hb4; clear hS4 hb4))
  obtain ⟨va7, hva⟩ : ∃ v, v = Value.slice A' bs.length c' := ⟨_, rfl⟩
  have HVA := Lib.hid hva
  have HO4 := Lib.hid (own_below HO3.out HB34.out (fun x hx => (HO3.out.lt x hx).2))
  have HZ4 := Lib.hid (HZ3.out.next HB34.out)
  have HM4 := Lib.hid (HM3.out.next HB34.out)
  have HB4 := Lib.hid (HB3.out.trans (HB34.out.mono HB3.out.size))
  have hB3 := HB3.out.size
  clear HN3 HZ3 HM3 HO3 HB3 KH HMR3
  generalize hh : hearF n.id n.fr 1 3 (Ms.map Mg.pm) = h at *
  have HL := Lib.hid (fun i l (e : h i = some l) => hearF_len (id := n.id) (fr := n.fr) (kind := 1) (many := 3) (Ms.map Mg.pm) (fun _ => none) (fun i l e => by cases e) i l (show hearF n.id n.fr 1 3 (Ms.map Mg.pm) i = some l by rw [hh]; exact e))
  have HH := Lib.hid hh
  clear hh hva
  rw [← HVA.out] at HN4
  go_loopw [20] (fun iv wr => RlRel w w4 n va7 h iv wr) (fun iv _ => 4 - (intOf iv).toNat)
  case atStart => exact ⟨0, rfl, by omega, by rw [relTo_zero]; exact HN4.out, grown_refl _ _⟩
  case round =>
    obtain ⟨i, rfl, hi4, hN, hG⟩ := hrel
    by_cases hi : i < 4
    · have q0 : (i : Int) < 4 := by omega
      have qq : (0 : Int) ≤ (i : Int) := by omega
      have ix := fun W => idx4s sv i hi W
      have hsl := HSL.out.grown hG (by omega)
      have HN := Lib.hid hN
      have HG := Lib.hid hG
      clear hN hG
      rcases hsl i hi with ⟨h1, h2⟩ | ⟨l, ad, cl, h1, h2, h3, _⟩
      · simp only [h2] at ix
        have H1 := Lib.hid h1
        clear h1 h2 hsl
        go_wp2_with (first
          | (refine wpList_copy_nothing rfl (.tmp 27) (.tmp 28) 22 22 rfl 3 Tryz.underlying22 (by kernel_rfl) (some ⟨w.heap.size, 39 + i * 3, none⟩) none 3 3 0 0 rfl rfl rfl ?_))
        go_roundw
        case rel => exact ⟨i + 1, by go_num, by omega, by rw [relTo_none _ _ _ H1.out]; exact HN.out, HG.out⟩
        case measure => simp [intOf]; omega
      · simp only [h2] at ix
        have hl3 : l.length = 3 := HL.out i l h1
        rw [hl3] at ix
        have H1 := Lib.hid h1
        have HL3 := Lib.hid hl3
        have H3 := Lib.hid (ints_news h3)
        clear h1 h2 h3 hsl hl3
        go_wp2_with (first
          | (refine wpList_copy_nb (.tmp 27) (.tmp 28) 22 22 rfl rfl 3 Tryz.underlying22 (by kernel_rfl) w.heap.size (39 + i * 3) 3 3 ad 3 cl rfl rfl (relTo n h i) (relTo n h (i + 1)) va7 va7 HN.out (l.map (Value.int .i64)) (by rw [List.length_map, HL3.out]; rfl) (H3.out ad rfl) (by rw [List.length_map, HL3.out]; omega) (by intro v hv; obtain ⟨q, _, rfl⟩ := List.mem_map.1 hv; rfl) (relTo_some n h i l hi H1.out HL3.out va7) ?_; intro w5 hN5 hg5; have HN5 := Lib.hid hN5; have HG5 := Lib.hid hg5; clear hN5 hg5))
        go_roundw
        case rel => exact ⟨i + 1, by go_num, by omega, HN5.out, grown_trans HG.out HG5.out⟩
        case measure => simp [intOf]; omega
    · obtain rfl : i = 4 := by omega
      have hB3' := HB4.out.grown hG HB4.out.size (fun j hj => by cases hj; exact Nat.le_refl _)
      have HZ6 := Lib.hid (HZ4.out.grown hG (by intro e; have := Option.some.inj e; omega))
      have HM6 := Lib.hid (HM4.out.grown hG (by intro e; have := Option.some.inj e; omega))
      have HO6 := Lib.hid (own_kept_t HO4.out hG HN4.out (by decide))
      have HB6 := Lib.hid hB3'
      have HN6 := Lib.hid hN
      have hdi : relTo n h 4 = relayN n (Ms.map Mg.pm) := by unfold relayN relayH; rw [HH.out]
      have HDI := Lib.hid hdi
      have hid : (relTo n h 4).id = n.id := rfl
      have hfr : (relTo n h 4).fr = n.fr := rfl
      have HID := Lib.hid (And.intro hid hfr)
      clear hN hG hB3' HZ4 HM4 HO4 HB4 HN4 HSL HL HH hdi hid hfr HB34
      generalize relTo n h 4 = n7 at *
      obtain ⟨i0, hi, hz0, hz1, hz2⟩ := info_parts infoInt4
      have hs6 := HB6.out.size
      have hm6 := HM6.out.lt
      obtain ⟨w6, rfl⟩ : ∃ w6 : World, w6 = wr := ⟨_, rfl⟩
      go_wp2_with (first
        | (refine wpList_load_mid rfl 57 (.tmp 31) rfl w.heap.size 39 rfl (diC n7.di) _ HN6.out.diR Tryz.underlying57 rfl info12 ?_))
      go_loopw [8, 33] (fun lv iv wr => RvRel w6 n7.di lv iv wr) (fun _ iv _ => 4 - (intOf iv).toNat)
      case atStart => exact ⟨0, _, rfl, by omega, rfl, World.ownsRow_nil _ _ _ _, Below.refl _ _⟩
      case round =>
        obtain ⟨i, v, rfl, hi4', hv, hO, hB⟩ := hrel
        have hv2 := hv.symm
        clear hv
        subst hv2
        obtain ⟨Av, cv, rfl⟩ := own_shape hO
        by_cases hi' : i < 4
        · have q0 : (i : Int) < 4 := by omega
          have qq : (0 : Int) ≤ (i : Int) := by omega
          have ix := fun W => ixD n7.di i hi' W
          have hsn : dirS n7.di (i + 1) = dirS n7.di i ++ [n7.di (3 * i), n7.di (3 * i + 1), n7.di (3 * i + 2)] := rfl
          have HSN := Lib.hid hsn
          have HO := Lib.hid hO
          have HB := Lib.hid hB
          have hwr := hB.size
          clear hO hB hsn
          generalize n7.di (3 * i) = x0 at *
          generalize n7.di (3 * i + 1) = x1 at *
          generalize n7.di (3 * i + 2) = x2 at *
          have HO2 := fun o1 => Lib.hid (own_below HO.out ((Below.refl wr.heap.size wr).alloc (Nat.le_refl _) o1) (fun x hx => (HO.out.lt x hx).2))
          go_wp2_with (first
            | (at_builtin; go_loud (refine wpList_append_ints rfl _ _ 22 rfl w6.heap.size 3 i0 (.int .i64 0) .i64 8 Tryz.underlying22 hi hz0 hz1 hz2 rfl (.slice Av (3 * i) cv) _ _ rfl (Hid.out (HO2 _)) (some ⟨wr.heap.size, 0, none⟩) 3 3 [x0, x1, x2] rfl (fun e => by cases e) (ints_blk (zs := [x0, x1, x2]) (Blk.new _ _ _)) (by unfold maxLen; omega) (by omega) (by simp; omega) ?_); intro v3 w3 hown3 hg3))
          go_roundw
          case rel => exact ⟨i + 1, v3, by go_num, by omega, rfl, own_n3 (by rw [HSN.out, List.map_append]; exact hown3), (HB.out.alloc hwr _).grown hg3 (by simp; omega) (fun j hj => (HO.out.lt j hj).1)⟩
          case measure => simp [intOf]; omega
        · obtain rfl : i = 4 := by omega
          have HN7 := Lib.hid (NB.next HN6.out hB)
          have HZ7 := Lib.hid (HZ6.out.next hB)
          have HM7 := Lib.hid (HM6.out.next hB)
          have HO7 := Lib.hid (own_below HO6.out hB (fun x hx => (HO6.out.lt x hx).2))
          have HB7 := Lib.hid (HB6.out.trans (hB.mono hs6))
          have HOV := Lib.hid hO
          have HV7 : Hid ((NA n7 va7).all (·.oneCell') = true) := by rw [HVA.out]; exact NA_one _ _ _ _
          have KS := Lib.hid (fun W => say_any n7 va7 2 Av (3 * 4) cv W)
          rw [HID.out.1, HID.out.2] at KS
          have h12 := hW0
          clear hO hB HN6 HZ6 HM6 HO6 HB6
          obtain ⟨w7, rfl⟩ : ∃ w7 : World, w7 = wr := ⟨_, rfl⟩
          go_upto_region 15 with fail
          --TAIL n7 || 4 || 40 || 5 || 43 || L;;L;;M;;C:KS.out _@@w8@@⟨rfl, hbb⟩ || #[.int .i64 2, .int .i64 n.id, .int .i64 n.fr, .slice Av (3 * 4) cv] || w7
          try simp only [pts]
          have SK := Lib.hid (fun W (h : Below w7.heap.size w7 W) => (NB.next HN7.out h : NB W w.heap.size n7 va7))
          unfold NB at SK
          refine wp_region_F 5 (fun w' => Blk w' w.heap.size 62 (NA n7 va7)) (by kernel_rfl) (SK.out _ (Below.refl _ _).drew) (fun hS => ?_)
          refine wpF 0 (.agg (NA n7 va7)) rfl (by kernel_rfl) (fun _ _ _ h => h) (Or.inl ⟨by rfl, fun wx hSw => exec_load_row 62 (.tmp 2) rfl w.heap.size rfl _ (NA n7 va7) _ hSw Tryz.underlying62 rfl (by rw [NA_size]; exact infoNode)⟩) hS ?_
          try simp only [pts]
          refine wpF 1 (.agg (NA n7 va7)) rfl (by kernel_rfl) (fun _ _ _ h => h) (Or.inl ⟨by rfl, fun wx hSw => exec_load_row 62 (.tmp 2) rfl w.heap.size rfl _ (NA n7 va7) _ hSw Tryz.underlying62 rfl (by rw [NA_size]; exact infoNode)⟩) hS ?_
          try simp only [pts]
          refine wpF 2 ?_ rfl (by kernel_rfl) (fun _ _ _ h => h) (Or.inl ⟨by rfl, fun wx hSw => ?_⟩) hS ?_
          rotate_left
          · (try dsimp only at hSw); go_simp; (try with_reducible rfl)
          try simp only [pts]
          refine wpAnyF_one (i := 3) rfl (by kernel_rfl) (fun K hK => ?_)
          go_simp
          (with_reducible refine (KS.out _).mono ?_)
          rintro e w8 ⟨rfl, hbb⟩
          have hb_w8 := (((Below.refl w7.heap.size w7).drew)).trans (hbb.mono (Nat.le_refl _))
          have H_prev := Lib.hid hb_w8
          clear hS
          have hS := SK.out _ hb_w8
          clear hbb hb_w8
          refine hK.out _ _ hS ?_
          clear hK K
          try simp only [pts]
          refine wpAnyF_one (i := 4) rfl (by kernel_rfl) (fun K hK => ?_)
          rw [if_pos (by rfl)]
          refine wp_store_row 62 (.tmp 4) (.tmp 40) rfl (w.heap.size + 1) _ zc (NA n7 va7) rfl rfl (HZ7.out.next H_prev.out) (by rw [NA_size, HZS.out]) (by rw [NA_size]; exact infoNode) HV7.out (fun w9 hN9 hg9 => ?_)
          have hS9 := hS.grown hg9 (by intro e; have := Option.some.inj e; omega)
          refine hK.out _ _ hS9 ?_
          clear hK K hS
          try simp only [pts]
          refine wpAnyF_last rfl (by kernel_rfl) (by kernel_rfl) (fun K hK => ?_)
          rw [if_pos (by rfl)]
          refine wp_store_row 24 (.tmp 5) (.tmp 43) rfl (w.heap.size + 1 + 1) _ _ #[.int .i64 2, .int .i64 n.id, .int .i64 n.fr, .slice Av (3 * 4) cv] rfl rfl ((HM7.out.next H_prev.out).grown hg9 (by intro e; have := Option.some.inj e; omega)) rfl (by kernel_rfl) (by simp [Value.oneCell']) (fun w10 hM10 hg10 => ?_)
          refine hK.out _ _ ?_
          clear hK K
          try simp only [pts]
          go_wp2_with fail
          have hN10 := hN9.grown hg10 (by intro e; have := Option.some.inj e; omega)
          --END
          refine bodyPost_ret (results_two Tryz.results31 _ _ (w.heap.size + 1) (w.heap.size + 1 + 1) _ _ _ _ _ _ rfl rfl hN10 hM10 Tryz.underlying62 rfl (by rw [NA_size]; exact infoNode) Tryz.underlying24 rfl (by kernel_rfl)) rfl ?_
          have hov := own_ownI (m := 3 * 4) HOV.out
          have h6 := hs6
          have h7 := HB7.out.size
          rw [HVA.out, ← HDI.out]
          exact ph_end (vs := dirL n7.di 12) (by omega) (by omega) (by omega) HZ7.out HM7.out HO7.out (by omega) HB7.out H_prev.out hg9 hg10 ((hov.down hs6).next H_prev.out) (fun ad e => by have := (hov.2.2.2 ad e).2.1; omega)
end Go.Proofs.YtofeoeknmlkjgaaGreat.Nk
end
section
/- node.Pass. -/
set_option linter.unusedVariables false
namespace Go.Proofs.YtofeoeknmlkjgaaGreat.Nk
open Go.RowKit Go.Proofs.YtofeoeknmlkjgaaGreat Mb Fi Sm

def pasTo (n : Nd) (h : Hd) (i : Nat) : Nd := { n with he := fun k => if k < i then (match h k with | some l => l.getD 0 0 | none => n.he k) else n.he k }
def passH (n : Nd) (Ms : List Pm) : Hd := hearF n.id n.fr 3 1 Ms
def passN (n : Nd) (Ms : List Pm) : Nd := pasTo n (passH n Ms) 4
def heL (f : Nat → Int) : List Int := [f 0, f 1, f 2, f 3]
theorem pasTo_zero (n : Nd) (h : Hd) : pasTo n h 0 = n := by unfold pasTo; simp
theorem pasTo_none (n : Nd) (h : Hd) (i : Nat) (hh : h i = none) : pasTo n h (i + 1) = pasTo n h i := by
  unfold pasTo
  congr 1
  funext k
  rcases Nat.lt_trichotomy k i with c | c | c
  · rw [if_pos (by omega), if_pos c]
  · rw [if_pos (by omega), if_neg (by omega), c, hh]
  · rw [if_neg (by omega), if_neg (by omega)]
theorem pasTo_some (n : Nd) (h : Hd) (i : Nat) (l : List Int) (hi : i < 4) (hh : h i = some l) (va : Value) : ∀ j, j < 74 → (pasTo n h (i + 1)).c va j = if j = 51 + i then .int .i64 (l.getD 0 0) else (pasTo n h i).c va j := by
  intro j hj
  by_cases c : j = 51 + i
  · rw [if_pos c, c_he (by omega) (by omega)]
    unfold pasTo
    simp only
    rw [show j - 51 = i by omega, if_pos (by omega), hh]
  · rw [if_neg c]
    by_cases c2 : 51 ≤ j ∧ j < 55
    · rw [c_he c2.1 c2.2, c_he c2.1 c2.2]
      unfold pasTo
      simp only
      rcases Nat.lt_trichotomy (j - 51) i with c3 | c3 | c3
      · rw [if_pos (by omega), if_pos c3]
      · omega
      · rw [if_neg (by omega), if_neg (by omega)]
    · unfold pasTo
      exact (c_he_out n _ va j (by omega)).trans (c_he_out n _ va j (by omega)).symm
def PsRel (w w4 : World) (n : Nd) (va : Value) (h : Hd) (iv : Value) (wr : World) : Prop :=
  ∃ i : Nat, iv = .int .i64 i ∧ i ≤ 4 ∧ NB wr w.heap.size (pasTo n h i) va ∧ w4.grownBy wr (some w.heap.size)
theorem heI {w : World} {g : Nat} {n : Nd} {va : Value} (h : NB w g n va) (B : Nat) (hB : B ≤ g) : OwnI w B (some ⟨g, 51, none⟩) 4 4 (heL n.he) := by
  refine ⟨⟨rfl, fun _ => ⟨g, 51, rfl, Blk.lt h, fun j hj => ?_⟩⟩, (fun e => by cases e), Nat.le_refl _, fun ad e => ?_⟩
  · rw [h.he hj]
    match j, hj with
    | 0, _ => rfl
    | 1, _ => rfl
    | 2, _ => rfl
    | 3, _ => rfl
  · cases e
    exact ⟨rfl, hB, Blk.lt h, h.thereR (by show 51 + 4 ≤ 74; omega)⟩

set_option maxRecDepth 100000 in
set_option maxHeartbeats 8000000 in
theorem Pass_any (n : Nd) (A : Option Addr) (m c : Nat) (bs : List Value) (Am : Option Addr) (mm cm : Nat) (Ms : List Mg) (h0 : 0 ≤ n.id) (h4 : n.id < 4) (w : World) (hb : VR w 1 A m c bs) (h1 : ∀ u ∈ bs, u.oneCell' = true) (hm : m ≤ 140737488355328) (hM : MR w Am mm cm Ms) (hmm : mm ≤ 17592186044416) :
    Calls Tryz.prog 33 #[.agg (NA n (.slice A m c)), .slice Am mm cm] w (PhPost (passN n (Ms.map Mg.pm)) bs 2 n.id n.fr (heL (passN n (Ms.map Mg.pm)).he) w) := by
  obtain rfl : m = bs.length := by have := hb.1; omega
  have HVB := Lib.hid hb
  have H1 := Lib.hid h1
  have HMR := Lib.hid hM
  clear hb h1 hM
  --PRE Pass 8 4
  go_enter Tryz.func33, Tryz.ntmps33
  go_upto_region 1 with fail
  have hN : NB (((w.alloc (.cells (NA n (.slice A bs.length c)) 62)).alloc (.cells Tryz.zeroCells62 62)).alloc (.cells #[.int .i64 0, .int .i64 0, .int .i64 0, .slice none 0 0] 24)) w.heap.size n (.slice A bs.length c) := ((Blk.new _ _ _).alloc _).alloc _
  have hZ : Blk (((w.alloc (.cells (NA n (.slice A bs.length c)) 62)).alloc (.cells Tryz.zeroCells62 62)).alloc (.cells #[.int .i64 0, .int .i64 0, .int .i64 0, .slice none 0 0] 24)) (w.heap.size + 1) 62 Tryz.zeroCells62 := (Blk.at_ _ _ _ _ (by simp)).alloc _
  have hM : Blk (((w.alloc (.cells (NA n (.slice A bs.length c)) 62)).alloc (.cells Tryz.zeroCells62 62)).alloc (.cells #[.int .i64 0, .int .i64 0, .int .i64 0, .slice none 0 0] 24)) (w.heap.size + 1 + 1) 24 #[.int .i64 0, .int .i64 0, .int .i64 0, .slice none 0 0] := Blk.at_ _ _ _ _ (by simp)
  have hB : Below w.heap.size w (((w.alloc (.cells (NA n (.slice A bs.length c)) 62)).alloc (.cells Tryz.zeroCells62 62)).alloc (.cells #[.int .i64 0, .int .i64 0, .int .i64 0, .slice none 0 0] 24)) := (((Below.refl _ _).alloc (Nat.le_refl _) _).alloc (by simp) _).alloc (by simp; omega) _
  have hzs : (Tryz.zeroCells62).size = 74 := by kernel_rfl
  generalize Tryz.zeroCells62 = zc at *
  generalize ((w.alloc (.cells (NA n (.slice A bs.length c)) 62)).alloc (.cells zc 62)).alloc (.cells #[.int .i64 0, .int .i64 0, .int .i64 0, .slice none 0 0] 24) = W0 at *
  have hW0 : w.heap.size + 1 + 1 < W0.heap.size := hM.lt
  have HZS := Lib.hid hzs
  have HN := Lib.hid hN
  have HZ := Lib.hid hZ
  have HM := Lib.hid hM
  have HB := Lib.hid hB
  have KC := Lib.hid (copied_any n A bs.length c bs W0 (HVB.out.next hB) H1.out hm)
  unfold CopyPost at KC
  clear hN hZ hM hB hzs
  go_upto_region 4 with (first
    | (refine wpList_load_at 62 (.tmp 2) rfl rfl w.heap.size rfl _ (NA n (.slice A bs.length c)) _ HN.out Tryz.underlying62 rfl (by rw [NA_size]; exact infoNode) ?_)
    | (go_at_call 45; (with_reducible refine KC.out.mono ?_); rintro e w1 ⟨A', c', rfl, hO1, hB1⟩; have hw1 : W0.heap.size ≤ w1.heap.size := hB1.size; have HN1 := Lib.hid (NB.next HN.out hB1); have HZ1 := Lib.hid (HZ.out.next hB1); have HM1 := Lib.hid (HM.out.next hB1); have HB1 := Lib.hid (HB.out.trans (hB1.mono HB.out.size)); have HO1 := Lib.hid hO1; clear hO1 hB1)
    | (refine wpList_store_at 62 (.tmp 2) (.tmp 9) rfl rfl w.heap.size _ _ (NA n (.slice A' bs.length c')) rfl rfl HN1.out (by rw [NA_size, NA_size]) (by rw [NA_size]; exact infoNode) (NA_one _ _ _ _) ?_; intro w2 hN2 hg2; have HN2 := Lib.hid hN2; have HG2 := Lib.hid hg2; clear hN2 hg2)
    | (refine wpList_load_at 62 (.tmp 2) rfl rfl w.heap.size rfl _ (NA n (.slice A' bs.length c')) _ HN2.out Tryz.underlying62 rfl (by rw [NA_size]; exact infoNode) ?_)
    | (go_at_call 46; (with_reducible refine (strange_no n (.slice A' bs.length c') w2 h0 h4).mono ?_); rintro e w3 ⟨rfl, hb3⟩; have HN3 := Lib.hid (NB.next HN2.out hb3); have HBs := Lib.hid hb3; clear hb3))
  have HZ3 := Lib.hid ((HZ1.out.grown HG2.out (by intro e; have := Option.some.inj e; omega)).next HBs.out)
  have HM3 := Lib.hid ((HM1.out.grown HG2.out (by intro e; have := Option.some.inj e; omega)).next HBs.out)
  have HO3 := Lib.hid (own_below (own_kept_t HO1.out HG2.out HN1.out (by decide)) HBs.out (fun x hx => ((own_kept_t HO1.out HG2.out HN1.out (by decide)).lt x hx).2))
  have HB3 := Lib.hid ((HB1.out.grown HG2.out HB1.out.size (fun j hj => by cases hj; exact Nat.le_refl _)).trans (HBs.out.mono (by have := HG2.out.size; have := HB1.out.size; omega)))
  have hw3 : W0.heap.size ≤ w3.heap.size := by have := HG2.out.size; have := HBs.out.size; omega
  clear HN HZ HM HB KC HN1 HZ1 HM1 HB1 HO1 HN2 HG2 HBs
  --END
  have HMR3 := Lib.hid (HMR.out.next HB3.out)
  have KH := Lib.hid (hear_any n (.slice A' bs.length c') Am mm cm Ms 3 1 1 rfl (by decide) (by decide) h0 h4 w3 HMR3.out hmm)
  unfold HearPost at KH
  go_wp2_with (first
    | (refine wpList_load_at 62 (.tmp 2) rfl rfl w.heap.size rfl _ (NA n (.slice A' bs.length c')) _ HN3.out Tryz.underlying62 rfl (by rw [NA_size]; exact infoNode) ?_)
    | (go_at_call 48; (with_reducible refine KH.out.mono ?_); rintro e w4 ⟨sv, rfl, hS4, hb4⟩; have HN4 := Lib.hid (NB.next HN3.out hb4); have HSL := Lib.hid hS4; have HB34 := Lib.hid hb4; clear hS4 hb4))
  obtain ⟨va7, hva⟩ : ∃ v, v = Value.slice A' bs.length c' := ⟨_, rfl⟩
  have HVA := Lib.hid hva
  have HO4 := Lib.hid (own_below HO3.out HB34.out (fun x hx => (HO3.out.lt x hx).2))
  have HZ4 := Lib.hid (HZ3.out.next HB34.out)
  have HM4 := Lib.hid (HM3.out.next HB34.out)
  have HB4 := Lib.hid (HB3.out.trans (HB34.out.mono HB3.out.size))
  have hB3 := HB3.out.size
  clear HN3 HZ3 HM3 HO3 HB3 KH HMR3
  generalize hh : hearF n.id n.fr 3 1 (Ms.map Mg.pm) = h at *
  have HL := Lib.hid (fun i l (e : h i = some l) => hearF_len (id := n.id) (fr := n.fr) (kind := 3) (many := 1) (Ms.map Mg.pm) (fun _ => none) (fun i l e => by cases e) i l (show hearF n.id n.fr 3 1 (Ms.map Mg.pm) i = some l by rw [hh]; exact e))
  have HH := Lib.hid hh
  clear hh hva
  rw [← HVA.out] at HN4
  go_loopw [17] (fun iv wr => PsRel w w4 n va7 h iv wr) (fun iv _ => 4 - (intOf iv).toNat)
  case atStart => exact ⟨0, rfl, by omega, by rw [pasTo_zero]; exact HN4.out, grown_refl _ _⟩
  case round =>
    obtain ⟨i, rfl, hi4, hN, hG⟩ := hrel
    by_cases hi : i < 4
    · have q0 : (i : Int) < 4 := by omega
      have qq : (0 : Int) ≤ (i : Int) := by omega
      have ix := fun W => idx4s sv i hi W
      have hsl := HSL.out.grown hG (by omega)
      have q22 : ∀ (w : World) (a : Option Addr) (n c : Nat), (binOp .neq 22 (.slice a n c) (.slice none 0 0)).run Tryz.prog w = .ok (.bool (!a.isNone)) w := fun w a n c => run_neq_slice_nil_w w _ _ a n c Tryz.underlying22
      have k1 := hN.he hi
      have k2 := Blk.frozen hN (51 + i)
      have HN := Lib.hid hN
      have HG := Lib.hid hG
      clear hN hG
      rcases hsl i hi with ⟨h1, h2⟩ | ⟨l, ad, cl, h1, h2, h3, _⟩
      · simp only [h2] at ix
        have H1 := Lib.hid h1
        clear h1 h2 hsl
        go_wp2_with (first | go_big_skip)
        go_roundw
        case rel => exact ⟨i + 1, by go_num, by omega, by rw [pasTo_none _ _ _ H1.out]; exact HN.out, HG.out⟩
        case measure => simp [intOf]; omega
      · simp only [h2] at ix
        have hl3 : l.length = 1 := HL.out i l h1
        rw [hl3] at ix
        obtain ⟨b, off, e, hlt, hc⟩ := h3.2 (by omega)
        have ck := hc 0 (by omega)
        rw [Nat.add_zero] at ck
        injection e with e
        subst e
        have H1 := Lib.hid h1
        have HNS := Lib.hid (NB.set (n' := pasTo n h (i + 1)) HN.out (k := 51 + i) (u := .int .i64 (l.getD 0 0)) (pasTo_some n h i l hi H1.out va7))
        generalize l.getD 0 0 = z at *
        clear h1 h2 h3 hsl hl3 hc
        go_wp2_with (first | go_big_skip)
        go_roundw
        case rel => exact ⟨i + 1, by go_num, by omega, HNS.out, grown_trans HG.out (grown_set _ _ _ _)⟩
        case measure => simp [intOf]; omega
    · obtain rfl : i = 4 := by omega
      have hB3' := HB4.out.grown hG HB4.out.size (fun j hj => by cases hj; exact Nat.le_refl _)
      have HZ7 := Lib.hid (HZ4.out.grown hG (by intro e; have := Option.some.inj e; omega))
      have HM7 := Lib.hid (HM4.out.grown hG (by intro e; have := Option.some.inj e; omega))
      have HO7 := Lib.hid (own_kept_t HO4.out hG HN4.out (by decide))
      have HB7 := Lib.hid hB3'
      have HN7 := Lib.hid hN
      have hdi : pasTo n h 4 = passN n (Ms.map Mg.pm) := by unfold passN passH; rw [HH.out]
      have HDI := Lib.hid hdi
      have hid : (pasTo n h 4).id = n.id := rfl
      have hfr : (pasTo n h 4).fr = n.fr := rfl
      have HID := Lib.hid (And.intro hid hfr)
      clear hN hG hB3' HZ4 HM4 HO4 HB4 HN4 HSL HL HH hdi hid hfr HB34
      generalize pasTo n h 4 = n7 at *
      have hm6 := HM7.out.lt
      have HV7 : Hid ((NA n7 va7).all (·.oneCell') = true) := by rw [HVA.out]; exact NA_one _ _ _ _
      have KS := Lib.hid (fun W => say_any n7 va7 2 (some ⟨w.heap.size, 51, none⟩) 4 4 W)
      rw [HID.out.1, HID.out.2] at KS
      obtain ⟨w7, rfl⟩ : ∃ w7 : World, w7 = wr := ⟨_, rfl⟩
      go_upto_region 10 with fail
      --TAIL n7 || 4 || 30 || 5 || 34 || L;;L;;M;;M;;C:KS.out _@@w8@@⟨rfl, hbb⟩ || #[.int .i64 2, .int .i64 n.id, .int .i64 n.fr, .slice (some ⟨w.heap.size, 51, none⟩) 4 4] || w7
      try simp only [pts]
      have SK := Lib.hid (fun W (h : Below w7.heap.size w7 W) => (NB.next HN7.out h : NB W w.heap.size n7 va7))
      unfold NB at SK
      refine wp_region_F 6 (fun w' => Blk w' w.heap.size 62 (NA n7 va7)) (by kernel_rfl) (SK.out _ (Below.refl _ _).drew) (fun hS => ?_)
      refine wpF 0 (.agg (NA n7 va7)) rfl (by kernel_rfl) (fun _ _ _ h => h) (Or.inl ⟨by rfl, fun wx hSw => exec_load_row 62 (.tmp 2) rfl w.heap.size rfl _ (NA n7 va7) _ hSw Tryz.underlying62 rfl (by rw [NA_size]; exact infoNode)⟩) hS ?_
      try simp only [pts]
      refine wpF 1 (.agg (NA n7 va7)) rfl (by kernel_rfl) (fun _ _ _ h => h) (Or.inl ⟨by rfl, fun wx hSw => exec_load_row 62 (.tmp 2) rfl w.heap.size rfl _ (NA n7 va7) _ hSw Tryz.underlying62 rfl (by rw [NA_size]; exact infoNode)⟩) hS ?_
      try simp only [pts]
      refine wpF 2 ?_ rfl (by kernel_rfl) (fun _ _ _ h => h) (Or.inl ⟨by rfl, fun wx hSw => ?_⟩) hS ?_
      rotate_left
      · (try dsimp only at hSw); go_simp; (try with_reducible rfl)
      try simp only [pts]
      refine wpF 3 ?_ rfl (by kernel_rfl) (fun _ _ _ h => h) (Or.inl ⟨by rfl, fun wx hSw => ?_⟩) hS ?_
      rotate_left
      · (try dsimp only at hSw); go_simp; (try with_reducible rfl)
      try simp only [pts]
      refine wpAnyF_one (i := 4) rfl (by kernel_rfl) (fun K hK => ?_)
      go_simp
      (with_reducible refine (KS.out _).mono ?_)
      rintro e w8 ⟨rfl, hbb⟩
      have hb_w8 := (((Below.refl w7.heap.size w7).drew)).trans (hbb.mono (Nat.le_refl _))
      have H_prev := Lib.hid hb_w8
      clear hS
      have hS := SK.out _ hb_w8
      clear hbb hb_w8
      refine hK.out _ _ hS ?_
      clear hK K
      try simp only [pts]
      refine wpAnyF_one (i := 5) rfl (by kernel_rfl) (fun K hK => ?_)
      rw [if_pos (by rfl)]
      refine wp_store_row 62 (.tmp 4) (.tmp 30) rfl (w.heap.size + 1) _ zc (NA n7 va7) rfl rfl (HZ7.out.next H_prev.out) (by rw [NA_size, HZS.out]) (by rw [NA_size]; exact infoNode) HV7.out (fun w9 hN9 hg9 => ?_)
      have hS9 := hS.grown hg9 (by intro e; have := Option.some.inj e; omega)
      refine hK.out _ _ hS9 ?_
      clear hK K hS
      try simp only [pts]
      refine wpAnyF_last rfl (by kernel_rfl) (by kernel_rfl) (fun K hK => ?_)
      rw [if_pos (by rfl)]
      refine wp_store_row 24 (.tmp 5) (.tmp 34) rfl (w.heap.size + 1 + 1) _ _ #[.int .i64 2, .int .i64 n.id, .int .i64 n.fr, .slice (some ⟨w.heap.size, 51, none⟩) 4 4] rfl rfl ((HM7.out.next H_prev.out).grown hg9 (by intro e; have := Option.some.inj e; omega)) rfl (by kernel_rfl) (by simp [Value.oneCell']) (fun w10 hM10 hg10 => ?_)
      refine hK.out _ _ ?_
      clear hK K
      try simp only [pts]
      go_wp2_with fail
      have hN10 := hN9.grown hg10 (by intro e; have := Option.some.inj e; omega)
      --END
      refine bodyPost_ret (results_two Tryz.results33 _ _ (w.heap.size + 1) (w.heap.size + 1 + 1) _ _ _ _ _ _ rfl rfl hN10 hM10 Tryz.underlying62 rfl (by rw [NA_size]; exact infoNode) Tryz.underlying24 rfl (by kernel_rfl)) rfl ?_
      rw [HVA.out, ← HDI.out]
      exact ph_end (vs := heL n7.he) (by omega) (by omega) (by omega) HZ7.out HM7.out HO7.out (by omega) HB7.out H_prev.out hg9 hg10 (heI (HN7.out.next H_prev.out) _ (Nat.le_refl _)) (fun ad e => by cases e; exact ⟨by show w.heap.size ≠ _; omega, by show w.heap.size ≠ _; omega⟩)
end Go.Proofs.YtofeoeknmlkjgaaGreat.Nk
end
section
/- Numbers of 64 bits stay so; parts of a node written whole. -/
set_option linter.unusedVariables false
namespace Go.Proofs.YtofeoeknmlkjgaaGreat.Nk
open Go.RowKit Go.Proofs.YtofeoeknmlkjgaaGreat Mb Fi Sm

theorem maj3_in {P : Int → Prop} {x y z : Int} (hx : P x) (hy : P y) (hz : P z) (h0 : P 0) : P (Mj.maj [x, y, z] 0) := by
  by_cases a : x = y
  · rw [Ag.maj3 (v := x) (.inl ⟨rfl, a.symm⟩)]; exact hx
  · by_cases b : x = z
    · rw [Ag.maj3 (v := x) (.inr (.inl ⟨rfl, b.symm⟩))]; exact hx
    · by_cases c : y = z
      · rw [Ag.maj3 (v := y) (.inr (.inr ⟨rfl, c.symm⟩))]; exact hy
      · rw [Mj.maj_no]
        · exact h0
        · intro v
          rw [Ag.cn3]
          unfold Ag.ind
          show 2 * _ ≤ 3
          split <;> split <;> split <;> omega
theorem hearF_in {P : Int → Prop} {id fr kind : Int} {many : Nat} : ∀ (L : List Pm) (h : Hd), (∀ x ∈ L, ∀ v ∈ x.vs, P v) → (∀ i l, h i = some l → ∀ v ∈ l, P v) → ∀ i l, L.foldl (hear1 id fr kind many) h i = some l → ∀ v ∈ l, P v
  | [], h, _, hh, i, l, e => hh i l e
  | x :: L, h, hx, hh, i, l, e => by
    refine hearF_in L _ (fun y hy => hx y (List.mem_cons_of_mem _ hy)) (fun i l e => ?_) i l e
    unfold hear1 at e
    split at e
    · unfold upd at e
      split at e
      · injection e with e
        subst e
        exact hx x (List.mem_cons_self)
      · exact hh i l e
    · exact hh i l e
theorem getD_in {P : Int → Prop} {l : List Int} (h0 : P 0) (h : ∀ v ∈ l, P v) (k : Nat) : P (l.getD k 0) := by
  by_cases hk : k < l.length
  · simp only [List.getD, List.getElem?_eq_getElem hk]
    exact h _ (List.getElem_mem _)
  · simp only [List.getD, List.getElem?_eq_none (Nat.le_of_not_lt hk)]
    exact h0
theorem outO_in {P : Int → Prop} {h : Hd} {k d b : Nat} (h0 : P 0) (hh : ∀ i l, h i = some l → ∀ v ∈ l, P v) : ∀ i j, P (outO h k d b i j)
  | 0, j => h0
  | i + 1, j => by
    unfold outO
    split
    · cases e : h i with
      | some l =>
        show P (upd (outO h k d b i) (cntO d b i) (l.getD k 0) j)
        unfold upd
        split
        · exact getD_in h0 (hh i l e) k
        · exact outO_in h0 hh i j
      | none => exact outO_in h0 hh i j
    · exact outO_in h0 hh i j
theorem zero64 : In64 0 := ⟨by decide, by decide⟩
theorem has_of {z : Int} (h : In64 z) : IntKind.i64.has z := by
  unfold In64 at h
  simp [IntKind.has, IntKind.min, IntKind.max, IntKind.signed, IntKind.bits]
  omega
theorem he_verd (n : Nd) (va v : Value) (x : Int) (b : Bool) : ∀ i, i < 74 → ({ n with vv := x, vs := b } : Nd).c v i = if 71 ≤ i ∧ i < 71 + (#[Value.int .i64 x, Value.bool b, v] : Array Value).toList.length then (#[Value.int .i64 x, Value.bool b, v] : Array Value).toList.getD (i - 71) undef else n.c va i := by
  intro i hi
  have el : (#[Value.int .i64 x, Value.bool b, v] : Array Value).toList.length = 3 := rfl
  rw [el]
  by_cases h : 71 ≤ i ∧ i < 71 + 3
  · rw [if_pos h]
    rcases (show i = 71 ∨ i = 72 ∨ i = 73 by omega) with e | e | e <;> subst e <;> rfl
  · rw [if_neg h]
    have h71 : i < 71 := by omega
    unfold Nd.c
    simp only [if_pos h71]
theorem rollC_list (R : Rl) (k : Nat) (hk : k < 12) : (rollC R).toList.getD k undef = rcell R k := by
  rw [← rollC_eq]
  simp only [List.getD, Array.getElem?_toList]
  rw [AN_get hk]; rfl
theorem he_roll (n : Nd) (va : Value) (R : Rl) : ∀ i, i < 74 → ({ n with ro := R } : Nd).c va i = if 27 ≤ i ∧ i < 27 + (rollC R).toList.length then (rollC R).toList.getD (i - 27) undef else n.c va i := by
  intro i hi
  have el : (rollC R).toList.length = 12 := rfl
  rw [el]
  by_cases h : 27 ≤ i ∧ i < 27 + 12
  · rw [if_pos h, rollC_list _ _ (by omega), c_ro h.1 (by omega)]
  · rw [if_neg h]; exact c_ro_out n R va i (by omega)
theorem NB.roR {W : World} {g : Nat} {n : Nd} {va : Value} (h : NB W g n va) : W.rangeAt g 27 (rollC n.ro).toList := by
  intro j v hj
  have hlt : j < 12 := (List.getElem?_eq_some_iff.1 hj).1
  have h2 := rollC_list n.ro j hlt
  rw [List.getD, hj] at h2
  simp only [Option.getD_some] at h2
  rw [h2, h.at_ (by omega), c_ro (by omega) (by omega), show 27 + j - 27 = j by omega]
theorem info12r : (Tryz.prog.info? 55).map (·.size) = some 12 := by kernel_rfl
end Go.Proofs.YtofeoeknmlkjgaaGreat.Nk
end
section
/- The axes of a node: state by state. -/
set_option linter.unusedVariables false
namespace Go.Proofs.YtofeoeknmlkjgaaGreat.Nk
open Go.RowKit Go.Proofs.YtofeoeknmlkjgaaGreat Mb Fi Sm

theorem fuseL_congr {n m : Nd} (h1 : m.ro = n.ro) (h2 : m.ag = n.ag) (a : Nat) : ∀ i, fuseL m a i = fuseL n a i
  | 0 => rfl
  | i + 1 => by unfold fuseL; rw [fuseL_congr h1 h2 a i, h1, h2]
theorem fuseF_congr {n m : Nd} (h1 : m.ro = n.ro) (h2 : m.ag = n.ag) (a : Nat) : fuseF m a = fuseF n a := by
  unfold fuseF; rw [fuseL_congr h1 h2]
def fuTo (n : Nd) (k : Nat) : Nd := { n with us := fun j => if j < k then fuseF n j else n.us j, ax := fun j => if j < k then stepS (n.ax j) n.tu (fuseF n j) else n.ax j }
theorem fuTo_zero (n : Nd) : fuTo n 0 = n := by unfold fuTo; simp
def fuMid (n : Nd) (k : Nat) : Nd := { fuTo n k with us := fun j => if j < k + 1 then fuseF n j else n.us j }
theorem stL_get (s : St) (k : Nat) (hk : k < 7) : (stL s)[k]? = some (stc s k) := by
  match k, hk with
  | 0, _ => rfl
  | 1, _ => rfl
  | 2, _ => rfl
  | 3, _ => rfl
  | 4, _ => rfl
  | 5, _ => rfl
  | 6, _ => rfl
theorem NB.stR {W : World} {g a : Nat} {n : Nd} {va : Value} (h : NB W g n va) (ha : a < 3) : W.rangeAt g (6 + a * 7) (stL (n.ax a)) := by
  intro j v hj
  have hlt : j < 7 := (List.getElem?_eq_some_iff.1 hj).1
  rw [stL_get _ j hlt] at hj
  injection hj with hj
  rw [← hj]
  exact h.ax ha hlt
def tuL (t : Tu) : List Value := [.int .i64 t.dt, .int .i64 t.q, .int .i64 t.r, .int .i64 t.g]
theorem tuL_get (s : Tu) (k : Nat) (hk : k < 4) : (tuL s)[k]? = some (tuc s k) := by
  match k, hk with
  | 0, _ => rfl
  | 1, _ => rfl
  | 2, _ => rfl
  | 3, _ => rfl
theorem NB.tuR {W : World} {g : Nat} {n : Nd} {va : Value} (h : NB W g n va) : W.rangeAt g 2 (tuL n.tu) := by
  intro j v hj
  have hlt : j < 4 := (List.getElem?_eq_some_iff.1 hj).1
  rw [tuL_get _ j hlt] at hj
  injection hj with hj
  rw [← hj, h.at_ (by omega), c_tu (by omega) (by omega), show 2 + j - 2 = j by omega]
theorem info7 : (Tryz.prog.info? 50).map (·.size) = some 7 := by kernel_rfl
theorem info4t : (Tryz.prog.info? 48).map (·.size) = some 4 := by kernel_rfl
theorem he_us (n : Nd) (va : Value) (a : Nat) (ha : a < 3) : ∀ i, i < 74 → (fuMid n a).c va i = if i = 67 + a then .int .i64 (fuseF n a) else (fuTo n a).c va i := by
  intro i hi
  by_cases h : i = 67 + a
  · rw [if_pos h]
    unfold Nd.c
    rw [if_neg (by omega), if_neg (by omega), if_neg (by omega), if_neg (by omega), if_neg (by omega), if_neg (by omega), if_neg (by omega), if_neg (by omega), if_pos (by omega)]
    show Value.int .i64 (if i - 67 < a + 1 then fuseF n (i - 67) else n.us (i - 67)) = _
    rw [if_pos (by omega), show i - 67 = a by omega]
  · rw [if_neg h]
    by_cases h2 : 67 ≤ i ∧ i < 70
    · unfold Nd.c
      rw [if_neg (by omega), if_neg (by omega), if_neg (by omega), if_neg (by omega), if_neg (by omega), if_neg (by omega), if_neg (by omega), if_neg (by omega), if_pos (by omega)]
      rw [if_neg (by omega), if_neg (by omega), if_neg (by omega), if_neg (by omega), if_neg (by omega), if_neg (by omega), if_neg (by omega), if_neg (by omega), if_pos (by omega)]
      show Value.int .i64 (if i - 67 < a + 1 then fuseF n (i - 67) else n.us (i - 67)) = Value.int .i64 (if i - 67 < a then fuseF n (i - 67) else n.us (i - 67))
      by_cases h3 : i - 67 < a
      · rw [if_pos (by omega), if_pos h3]
      · rw [if_neg (by omega), if_neg h3]
    · exact c_us_out (fuTo n a) _ va i (by omega)
theorem he_ax (n : Nd) (va : Value) (a : Nat) (ha : a < 3) : ∀ i, i < 74 → (fuTo n (a + 1)).c va i = if 6 + a * 7 ≤ i ∧ i < 6 + a * 7 + (stL (stepS (n.ax a) n.tu (fuseF n a))).toArray.toList.length then (stL (stepS (n.ax a) n.tu (fuseF n a))).toArray.toList.getD (i - (6 + a * 7)) undef else (fuMid n a).c va i := by
  intro i hi
  have el : (stL (stepS (n.ax a) n.tu (fuseF n a))).toArray.toList.length = 7 := rfl
  rw [el]
  by_cases h : 6 + a * 7 ≤ i ∧ i < 6 + a * 7 + 7
  · rw [if_pos h, c_ax (by omega) (by omega), show (i - 6) / 7 = a by omega, show (i - 6) % 7 = i - (6 + a * 7) by omega]
    show stc (if a < a + 1 then stepS (n.ax a) n.tu (fuseF n a) else n.ax a) _ = (stL (stepS (n.ax a) n.tu (fuseF n a))).getD _ undef
    rw [if_pos (by omega), List.getD, stL_get _ _ (by omega)]
    rfl
  · rw [if_neg h]
    by_cases h2 : 6 ≤ i ∧ i < 27
    · rw [c_ax (by omega) (by omega), c_ax (by omega) (by omega)]
      have ne : (i - 6) / 7 ≠ a := by omega
      show stc (if (i - 6) / 7 < a + 1 then stepS (n.ax ((i - 6) / 7)) n.tu (fuseF n ((i - 6) / 7)) else n.ax ((i - 6) / 7)) _ = stc (if (i - 6) / 7 < a then stepS (n.ax ((i - 6) / 7)) n.tu (fuseF n ((i - 6) / 7)) else n.ax ((i - 6) / 7)) _
      by_cases h3 : (i - 6) / 7 < a
      · rw [if_pos (by omega), if_pos h3]
      · rw [if_neg (by omega), if_neg h3]
    · exact c_ax_out (fuMid n a) _ va i (by omega)
theorem exec_load_mid {P : Program} {o : Oper} {ρ : Operand → Value} {w : World} (ty : TypeId) (x : Operand) (ho : o.op = .load ty x) (g off : Nat) (hx : ρ x = .pointer (some ⟨g, off, none⟩)) (cs : List Value) (d : TypeDesc) (hb : w.rangeAt g off cs)
    (hu : P.underlying ty = some d) (hd : d.isRow = true) (hi : (P.info? ty).map (·.size) = some cs.length) : (execOp ρ o).run P w = .ok (.value (.agg cs.toArray)) w := by
  unfold execOp
  simp only [ho, hx, Instr.loadAt, Instr.sureAddr, Sem.run_bind, Sem.run_pure, Result.andThen_ok, run_loadVar_mid w g off ty cs d hb hu hd hi]
section
variable {P : Program} {w : World} {o : Oper} {a : Act} {K : Act → World → Prop} {Q : Exit → Act → World → Prop}
theorem wp_store_nb (ty : TypeId) (x y : Operand) (ho : o.op = .store ty x y)
    (g off : Nat) (cells : Array Value) (n n' : Nd) (va va' : Value) (hx : a.eval x = .pointer (some ⟨g, off, none⟩)) (hy : a.eval y = .agg cells)
    (hN : NB w g n va) (hoff : off + cells.size ≤ 74) (hi : (P.info? ty).map (·.size) = some cells.size) (h1 : cells.all (·.oneCell') = true)
    (he : ∀ i, i < 74 → n'.c va' i = if off ≤ i ∧ i < off + cells.toList.length then cells.toList.getD (i - off) undef else n.c va i)
    (h : ∀ w', NB w' g n' va' → w.grownBy w' (some g) → K (a.put o.dst undef) w') : o.wp P a w K Q :=
  wp_store_mid ty x y ho g off cells hx hy (hN.thereR hoff) hi h1 (h _ (hN.setR he) (grown_setCells _ _ _ _))
end
theorem stL_one (s : St) : ((stL s).toArray).all (·.oneCell') = true := by simp [stL, Value.oneCell']
def Nd.In (n : Nd) : Prop := In64 n.id ∧ In64 n.fr ∧ n.tu.In ∧ (∀ a, a < 3 → (n.ax a).In) ∧ (∀ k, k < 12 → In64 (n.di k)) ∧ (∀ k, k < 4 → In64 (n.he k)) ∧ (∀ k, k < 12 → In64 (n.ag k)) ∧ (∀ k, k < 3 → In64 (n.us k)) ∧ In64 n.dg ∧ In64 n.vv ∧ (∀ k, k < 4 → In64 (n.ro.miss k)) ∧ (∀ k, k < 4 → In64 (n.ro.join k))
theorem wrap64_in (z : Int) : In64 (wrap64 z) := by unfold In64 wrap64; omega
theorem bits64_in (o : BinOp) (a b : Int) : In64 (bits o .i64 a b) := bits_within o .i64 a b
theorem inTo_in (R : Rl) : ∀ i, In64 (inTo R i)
  | 0 => zero64
  | i + 1 => by unfold inTo; split; exact bits64_in _ _ _; exact inTo_in R i
theorem cTo_in (f : Nat → Int) : ∀ i, In64 (cTo f i)
  | 0 => zero64
  | i + 1 => by unfold cTo; exact wrap64_in _
theorem packA_in {ax : Nat → St} : ∀ k, (∀ a, a < k → (ax a).In) → ∀ z ∈ packA ax k, In64 z
  | 0, _, z, hz => by cases hz
  | k + 1, h, z, hz => by
    unfold packA at hz
    rcases List.mem_append.1 hz with hz | hz
    · exact packA_in k (fun a ha => h a (by omega)) z hz
    · obtain ⟨h1, h2, h3, h4, h5, h6⟩ := h k (by omega)
      unfold stI at hz
      simp only [List.mem_cons, List.not_mem_nil, or_false] at hz
      rcases hz with e | e | e | e | e | e | e
      · rw [e]; exact h1
      · rw [e]; exact h2
      · rw [e]; exact h3
      · rw [e]; exact h4
      · rw [e]; exact h5
      · rw [e]; split <;> exact ⟨by decide, by decide⟩
      · rw [e]; exact h6
theorem packL_in {n : Nd} (h : ∀ a, a < 3 → (n.ax a).In) : ∀ z ∈ packL n, In64 z := by
  intro z hz
  unfold packL at hz
  rcases List.mem_append.1 hz with hz | hz
  · exact packA_in 3 h z hz
  · simp only [List.mem_cons, List.not_mem_nil, or_false] at hz
    rcases hz with e | e | e
    · rw [e]; exact inTo_in _ _
    · rw [e]; exact cTo_in _ _
    · rw [e]; exact cTo_in _ _
theorem fuTo_in {n : Nd} (h : ∀ a, a < 3 → (n.ax a).In) (k : Nat) : ∀ a, a < 3 → ((fuTo n k).ax a).In := by
  intro a ha
  show (if a < k then stepS (n.ax a) n.tu (fuseF n a) else n.ax a).In
  split
  · exact stepS_in _ _ _ (h a ha)
  · exact h a ha
theorem he_dg (n : Nd) (va : Value) (y : Int) : ∀ i, i < 74 → ({ n with dg := y } : Nd).c va i = if i = 70 then .int .i64 y else n.c va i := by
  intro i hi
  by_cases h : i = 70
  · subst h; rfl
  · rw [if_neg h]; exact c_dg_out n y va i (by omega)
theorem he_he1 (n : Nd) (va : Value) (d : Nat) (hd : d < 4) (y : Int) : ∀ i, i < 74 → ({ n with he := upd n.he d y } : Nd).c va i = if i = 51 + d then .int .i64 y else n.c va i := by
  intro i hi
  by_cases h : i = 51 + d
  · rw [if_pos h, c_he (by omega) (by omega)]
    show Value.int .i64 (upd n.he d y (i - 51)) = _
    unfold upd
    rw [if_pos (by omega)]
  · rw [if_neg h]
    by_cases h2 : 51 ≤ i ∧ i < 55
    · rw [c_he (by omega) (by omega), c_he (by omega) (by omega)]
      show Value.int .i64 (upd n.he d y (i - 51)) = _
      unfold upd
      rw [if_neg (by omega)]
    · exact c_he_out n _ va i (by omega)
theorem fuseF_in (n : Nd) (a : Nat) (ha : a < 3) (h : ∀ j, j < 12 → In64 (n.ag j)) : Fx.In (fuseF n a) := by
  unfold fuseF
  split
  · exact zero64
  · rename_i c
    exact Md.mid_guard (lies := []) (good := fuseL n a 4) (by simp only [List.length_nil]; omega) (fuseL_all n a In64 h ha 4 (by decide))
end Go.Proofs.YtofeoeknmlkjgaaGreat.Nk
end
section
/- node.Judge. -/
set_option linter.unusedVariables false
namespace Go.Proofs.YtofeoeknmlkjgaaGreat.Nk
open Go.RowKit Go.Proofs.YtofeoeknmlkjgaaGreat Mb Fi Sm

def judgeH (n : Nd) (Ms : List Pm) : Hd := hearF n.id n.fr 2 4 Ms
def jF (n : Nd) (h : Hd) (d s : Nat) : Int := if s = d then n.he s else Mj.maj [n.he s, toldF h s d s 0, toldF h s d s 1] 0
def jTo (n : Nd) (h : Hd) (d i : Nat) : Nat → Int := fun j => if j < i then jF n h d j else 0
def jV (n : Nd) (h : Hd) (d : Nat) : Vt.Vs := Vt.VL (jF n h d 0) (jF n h d 1) (jF n h d 2) (jF n h d 3) (n.ro.inn 0) (n.ro.inn 1) (n.ro.inn 2) (n.ro.inn 3)
def I4 (f : Nat → Int) : Array Value := AN 4 fun j => .int .i64 (f j)
theorem jTo_put {w : World} {g : Nat} {n : Nd} {h : Hd} {d i : Nat} {z : Int} (hb : Blk w g 53 (I4 (jTo n h d i))) (hz : z = jF n h d i) : Blk (w.setCell ⟨g, i, none⟩ (.int .i64 z)) g 53 (I4 (jTo n h d (i + 1))) := by
  have := hb.set_ i (.int .i64 z)
  unfold I4 at this ⊢
  rw [AN_set] at this
  rw [AN_congr (g := fun j => if j = i then .int .i64 z else .int .i64 (jTo n h d i j))]
  · exact this
  · intro j _
    show Value.int .i64 (jTo n h d (i + 1) j) = _
    unfold jTo
    rcases Nat.lt_trichotomy j i with c | c | c
    · rw [if_pos (by omega), if_neg (by omega), if_pos c]
    · rw [if_pos (by omega), if_pos c, hz, c]
    · rw [if_neg (by omega), if_neg (by omega), if_neg (by omega)]
theorem sl4_one {W : World} {B : Nat} {h : Hd} {sv : Nat → Value} (hs : Sl4 W B h sv) (i : Nat) (hi : i < 4) : (sv i).oneCell' = true := by
  rcases hs i hi with ⟨_, e⟩ | ⟨l, ad, c, _, e, _⟩
  · rw [e]; rfl
  · rw [e]; rfl
theorem jTo_put2 {w : World} {g : Nat} {n : Nd} {h : Hd} {d i : Nat} {z : Int} {u : Value} (hb : Blk w g 53 ((I4 (jTo n h d i)).setIfInBounds i u)) (hz : z = jF n h d i) : Blk (w.setCell ⟨g, i, none⟩ (.int .i64 z)) g 53 (I4 (jTo n h d (i + 1))) := by
  have := hb.set_ i (.int .i64 z)
  unfold I4 at this ⊢
  rw [AN_set, AN_set] at this
  rw [AN_congr (g := fun j => if j = i then .int .i64 z else if j = i then u else .int .i64 (jTo n h d i j))]
  · exact this
  · intro j _
    show Value.int .i64 (jTo n h d (i + 1) j) = _
    unfold jTo
    rcases Nat.lt_trichotomy j i with c | c | c
    · rw [if_pos (by omega), if_neg (by omega), if_neg (by omega), if_pos c]
    · rw [if_pos (by omega), if_pos c, hz, c]
    · rw [if_neg (by omega), if_neg (by omega), if_neg (by omega), if_neg (by omega)]
theorem cell_set_ne {w : World} {b o g i : Nat} {u v : Value} (h : w.cell? ⟨b, o, none⟩ = some v) (hb : b < w.heap.size) (hne : b ≠ g) : (w.setCell ⟨g, i, none⟩ u).cell? ⟨b, o, none⟩ = some v :=
  (World.cell?_of_block (a := ⟨b, o, none⟩) ((grown_set w g i u).block b hb (by intro e; exact hne (Option.some.inj e)))).trans h
theorem jF_in {n : Nd} {h : Hd} (hin : ∀ i, i < 4 → In64 (n.he i)) (hh : ∀ i l, h i = some l → ∀ v ∈ l, In64 v) (d s : Nat) (hs : s < 4) : In64 (jF n h d s) := by
  unfold jF
  split
  · exact hin s hs
  · exact maj3_in (hin s hs) (outO_in zero64 hh 4 0) (outO_in zero64 hh 4 1) zero64
def jA (n : Nd) (h : Hd) (d j : Nat) : Bool := Vt.agree (jV n h d) (jF n h d j)
open Classical in
noncomputable def judgeN (n : Nd) (Ms : List Pm) (d : Nat) : Nd :=
  { n with vv := Vt.val (jV n (judgeH n Ms) d), vs := Vt.strong (jV n (judgeH n Ms) d), ro := if Mb.Good n.ro then (stepAll n.ro (jA n (judgeH n Ms) d) (Vt.strong (jV n (judgeH n Ms) d))).1 else n.ro }
def judgeB (n : Nd) (Ms : List Pm) (d : Nat) : List Value := [.bool (jA n (judgeH n Ms) d 0), .bool (jA n (judgeH n Ms) d 1), .bool (jA n (judgeH n Ms) d 2), .bool (jA n (judgeH n Ms) d 3)]
def JRel (w5 : World) (n : Nd) (h : Hd) (d g7 : Nat) (iv : Value) (wr : World) : Prop :=
  ∃ i : Nat, iv = .int .i64 i ∧ i ≤ 4 ∧ Blk wr g7 53 (I4 (jTo n h d i)) ∧ w5.grownBy wr (some g7)
set_option maxRecDepth 100000 in
set_option maxHeartbeats 8000000 in
theorem Judge_any (n : Nd) (A : Option Addr) (m c : Nat) (bs : List Value) (Am : Option Addr) (mm cm : Nat) (Ms : List Mg) (d : Nat) (hd : n.id = (d : Int)) (hd4 : d < 4) (hin : ∀ i, i < 4 → In64 (n.he i)) (w : World) (hb : VR w 1 A m c bs) (h1 : ∀ u ∈ bs, u.oneCell' = true) (hm : m ≤ 140737488355328) (hM : MR w Am mm cm Ms) (hmm : mm ≤ 17592186044416) :
    Calls Tryz.prog 34 #[.agg (NA n (.slice A m c)), .slice Am mm cm] w (PhPost (judgeN n (Ms.map Mg.pm) d) (judgeB n (Ms.map Mg.pm) d) 5 n.id n.fr (packL (judgeN n (Ms.map Mg.pm) d)) w) := by
  obtain rfl : m = bs.length := by have := hb.1; omega
  have HVB := Lib.hid hb
  have H1 := Lib.hid h1
  have HMR := Lib.hid hM
  have HD := Lib.hid hd
  have h0 : 0 ≤ n.id := by omega
  have h4 : n.id < 4 := by omega
  have HIN := Lib.hid hin
  clear hb h1 hM hd hin
  --PRE Judge 13 4
  go_enter Tryz.func34, Tryz.ntmps34
  go_upto_region 1 with fail
  have hN : NB (((w.alloc (.cells (NA n (.slice A bs.length c)) 62)).alloc (.cells Tryz.zeroCells62 62)).alloc (.cells #[.int .i64 0, .int .i64 0, .int .i64 0, .slice none 0 0] 24)) w.heap.size n (.slice A bs.length c) := ((Blk.new _ _ _).alloc _).alloc _
  have hZ : Blk (((w.alloc (.cells (NA n (.slice A bs.length c)) 62)).alloc (.cells Tryz.zeroCells62 62)).alloc (.cells #[.int .i64 0, .int .i64 0, .int .i64 0, .slice none 0 0] 24)) (w.heap.size + 1) 62 Tryz.zeroCells62 := (Blk.at_ _ _ _ _ (by simp)).alloc _
  have hM : Blk (((w.alloc (.cells (NA n (.slice A bs.length c)) 62)).alloc (.cells Tryz.zeroCells62 62)).alloc (.cells #[.int .i64 0, .int .i64 0, .int .i64 0, .slice none 0 0] 24)) (w.heap.size + 1 + 1) 24 #[.int .i64 0, .int .i64 0, .int .i64 0, .slice none 0 0] := Blk.at_ _ _ _ _ (by simp)
  have hB : Below w.heap.size w (((w.alloc (.cells (NA n (.slice A bs.length c)) 62)).alloc (.cells Tryz.zeroCells62 62)).alloc (.cells #[.int .i64 0, .int .i64 0, .int .i64 0, .slice none 0 0] 24)) := (((Below.refl _ _).alloc (Nat.le_refl _) _).alloc (by simp) _).alloc (by simp; omega) _
  have hzs : (Tryz.zeroCells62).size = 74 := by kernel_rfl
  generalize Tryz.zeroCells62 = zc at *
  generalize ((w.alloc (.cells (NA n (.slice A bs.length c)) 62)).alloc (.cells zc 62)).alloc (.cells #[.int .i64 0, .int .i64 0, .int .i64 0, .slice none 0 0] 24) = W0 at *
  have hW0 : w.heap.size + 1 + 1 < W0.heap.size := hM.lt
  have HZS := Lib.hid hzs
  have HN := Lib.hid hN
  have HZ := Lib.hid hZ
  have HM := Lib.hid hM
  have HB := Lib.hid hB
  have KC := Lib.hid (copied_any n A bs.length c bs W0 (HVB.out.next hB) H1.out hm)
  unfold CopyPost at KC
  clear hN hZ hM hB hzs
  go_upto_region 4 with (first
    | (refine wpList_load_at 62 (.tmp 2) rfl rfl w.heap.size rfl _ (NA n (.slice A bs.length c)) _ HN.out Tryz.underlying62 rfl (by rw [NA_size]; exact infoNode) ?_)
    | (go_at_call 45; (with_reducible refine KC.out.mono ?_); rintro e w1 ⟨A', c', rfl, hO1, hB1⟩; have hw1 : W0.heap.size ≤ w1.heap.size := hB1.size; have HN1 := Lib.hid (NB.next HN.out hB1); have HZ1 := Lib.hid (HZ.out.next hB1); have HM1 := Lib.hid (HM.out.next hB1); have HB1 := Lib.hid (HB.out.trans (hB1.mono HB.out.size)); have HO1 := Lib.hid hO1; clear hO1 hB1)
    | (refine wpList_store_at 62 (.tmp 2) (.tmp 14) rfl rfl w.heap.size _ _ (NA n (.slice A' bs.length c')) rfl rfl HN1.out (by rw [NA_size, NA_size]) (by rw [NA_size]; exact infoNode) (NA_one _ _ _ _) ?_; intro w2 hN2 hg2; have HN2 := Lib.hid hN2; have HG2 := Lib.hid hg2; clear hN2 hg2)
    | (refine wpList_load_at 62 (.tmp 2) rfl rfl w.heap.size rfl _ (NA n (.slice A' bs.length c')) _ HN2.out Tryz.underlying62 rfl (by rw [NA_size]; exact infoNode) ?_)
    | (go_at_call 46; (with_reducible refine (strange_no n (.slice A' bs.length c') w2 h0 h4).mono ?_); rintro e w3 ⟨rfl, hb3⟩; have HN3 := Lib.hid (NB.next HN2.out hb3); have HBs := Lib.hid hb3; clear hb3))
  have HZ3 := Lib.hid ((HZ1.out.grown HG2.out (by intro e; have := Option.some.inj e; omega)).next HBs.out)
  have HM3 := Lib.hid ((HM1.out.grown HG2.out (by intro e; have := Option.some.inj e; omega)).next HBs.out)
  have HO3 := Lib.hid (own_below (own_kept_t HO1.out HG2.out HN1.out (by decide)) HBs.out (fun x hx => ((own_kept_t HO1.out HG2.out HN1.out (by decide)).lt x hx).2))
  have HB3 := Lib.hid ((HB1.out.grown HG2.out HB1.out.size (fun j hj => by cases hj; exact Nat.le_refl _)).trans (HBs.out.mono (by have := HG2.out.size; have := HB1.out.size; omega)))
  have hw3 : W0.heap.size ≤ w3.heap.size := by have := HG2.out.size; have := HBs.out.size; omega
  clear HN HZ HM HB KC HN1 HZ1 HM1 HB1 HO1 HN2 HG2 HBs
  --END
  have HMR3 := Lib.hid (HMR.out.next HB3.out)
  have KH := Lib.hid (hear_any n (.slice A' bs.length c') Am mm cm Ms 2 4 4 rfl (by decide) (by decide) h0 h4 w3 HMR3.out hmm)
  unfold HearPost at KH
  go_upto_region 6 with (first
    | (refine wpList_load_at 62 (.tmp 2) rfl rfl w.heap.size rfl _ (NA n (.slice A' bs.length c')) _ HN3.out Tryz.underlying62 rfl (by rw [NA_size]; exact infoNode) ?_)
    | (go_at_call 48; (with_reducible refine KH.out.mono ?_); rintro e w4 ⟨sv, rfl, hS4, hb4⟩; have HN4 := Lib.hid (NB.next HN3.out hb4); have HSL := Lib.hid hS4; have HB34 := Lib.hid hb4; clear hS4 hb4)
    | (refine wpList_store_at 111 (.tmp 6) (.tmp 21) rfl rfl w4.heap.size _ #[.slice none 0 0, .slice none 0 0, .slice none 0 0, .slice none 0 0] (AN 4 sv) rfl rfl (Blk.new w4 _ _) (by rw [AN_size]; rfl) (by rw [AN_size]; exact info44) (AN_one (fun i hi => sl4_one HSL.out i hi)) ?_; intro w5 hS5 hg5; have HS5 := Lib.hid hS5; have HG5 := Lib.hid hg5; clear hS5 hg5))
  obtain ⟨va7, hva⟩ : ∃ v, v = Value.slice A' bs.length c' := ⟨_, rfl⟩
  have HVA := Lib.hid hva
  have hs34 := HB34.out.size
  have hs45 := HG5.out.size
  have hg4lt : w4.heap.size < w5.heap.size := Nat.lt_of_lt_of_le (by simp) hs45
  have hb45 : Below w4.heap.size w4 w5 := ((Below.refl _ _).alloc (Nat.le_refl _) _).grown HG5.out (by simp) (fun j hj => by cases hj; exact Nat.le_refl _)
  have hb56 : Below w5.heap.size w5 (w5.alloc (.cells #[.int .i64 0, .int .i64 0, .int .i64 0, .int .i64 0] 53)) := (Below.refl _ _).alloc (Nat.le_refl _) _
  have hb46 := hb45.trans (hb56.mono hb45.size)
  have hb36 := HB34.out.trans (hb46.mono hs34)
  have HN6 := Lib.hid (NB.next HN3.out hb36)
  have HZ6 := Lib.hid (HZ3.out.next hb36)
  have HM6 := Lib.hid (HM3.out.next hb36)
  have HO6 := Lib.hid (own_below HO3.out hb36 (fun x hx => (HO3.out.lt x hx).2))
  have HB6 := Lib.hid (HB3.out.trans (hb36.mono HB3.out.size))
  have HS6 := Lib.hid (HS5.out.next hb56)
  have HT6 := Lib.hid (show Blk (w5.alloc (.cells #[.int .i64 0, .int .i64 0, .int .i64 0, .int .i64 0] 53)) w5.heap.size 53 (I4 (jTo n (hearF n.id n.fr 2 4 (Ms.map Mg.pm)) d 0)) from Blk.new _ _ _)
  have h3sz := HM3.out.lt
  have HB46 := Lib.hid hb46
  have HSL4 := Lib.hid HSL.out
  have hg67 := hg4lt
  clear hb45 hb56 hb46 hb36 HN3 HZ3 HM3 HO3 HB3 HS5 HSL HB34 HG5 KH HMR3 HN4
  generalize hh : hearF n.id n.fr 2 4 (Ms.map Mg.pm) = hX at *
  have HL := Lib.hid (fun i l (e : hX i = some l) => hearF_len (id := n.id) (fr := n.fr) (kind := 2) (many := 4) (Ms.map Mg.pm) (fun _ => none) (fun i l e => by cases e) i l (show hearF n.id n.fr 2 4 (Ms.map Mg.pm) i = some l by rw [hh]; exact e))
  have HH := Lib.hid hh
  have HP := Lib.hid (fun s (hs : s < 4) => (jF_in HIN.out (fun i l (e : hX i = some l) => hearF_in (id := n.id) (fr := n.fr) (kind := 2) (many := 4) (Ms.map Mg.pm) (fun _ => none) (fun x hx v hv => by obtain ⟨y, hy, rfl⟩ := List.mem_map.1 hx; exact (HMR.out.2.2 y hy).2.2.2 v hv) (fun i l e => by cases e) i l (show hearF n.id n.fr 2 4 (Ms.map Mg.pm) i = some l by rw [hh]; exact e)) d s hs : In64 (jF n hX d s)))
  clear hh hva
  rw [← HVA.out] at HN6
  generalize w5.alloc (.cells #[.int .i64 0, .int .i64 0, .int .i64 0, .int .i64 0] 53) = W6 at *
  generalize w5.heap.size = g7 at *
  generalize hg6e : w4.heap.size = g6 at *
  have HG6E := Lib.hid hg6e
  clear hg6e
  go_wp2_with fail
  go_loopw [22] (fun iv wr => JRel W6 n hX d g7 iv wr) (fun iv _ => 4 - (intOf iv).toNat)
  case atStart => exact ⟨0, rfl, by omega, HT6.out, grown_refl _ _⟩
  case round =>
    obtain ⟨i, rfl, hi4, hT, hG⟩ := hrel
    have hN := HN6.out.grown hG (by intro e; have := Option.some.inj e; omega)
    have hS := HS6.out.grown hG (by intro e; have := Option.some.inj e; omega)
    by_cases hi : i < 4
    · have q0 : (i : Int) < 4 := by omega
      have qq : (0 : Int) ≤ (i : Int) := by omega
      have k1 := NB.he hN hi
      have k0 := NB.id hN
      rw [HD.out] at k0
      have k2 : wr.cell? ⟨g7, i, none⟩ = some (.int .i64 (jTo n hX d i i)) := by
        have := hT.cell i
        rw [this]; unfold I4; rw [AN_get hi]
      have k3 := hT.frozen i
      have HN := Lib.hid hN
      have HS := Lib.hid hS
      have HT := Lib.hid hT
      have HG := Lib.hid hG
      clear hN hS hT hG
      by_cases hid : i = d
      · have q1 : ((i : Int) != (d : Int)) = false := by simp; omega
        have hz : n.he i = jF n hX d i := by unfold jF; rw [if_pos hid]
        have HZ := Lib.hid hz
        have HID := Lib.hid hid
        clear hz hid
        generalize n.he i = z at *
        go_wp2_with (first | go_big_skip)
        go_roundw
        case rel => exact ⟨i + 1, by go_num, by omega, jTo_put HT.out HZ.out, grown_trans HG.out (grown_set _ _ _ _)⟩
        case measure => simp [intOf]; omega
      · have q1 : ((i : Int) != (d : Int)) = true := by simp; omega
        have kt := told_any hX sv d i i hd4 hi (fun e => hid e.symm) (fun j l e => by have := HL.out j l e; omega)
        have hz : Mj.maj [n.he i, toldF hX i d i 0, toldF hX i d i 1] 0 = jF n hX d i := by unfold jF; rw [if_neg hid]
        have HZ := Lib.hid hz
        have HX := Lib.hid (grown_trans HG.out (grown_set wr g7 i (.int .i64 (n.he i))))
        have hsl := HSL4.out.next (by rw [HG6E.out]; exact HB46.out.grown HX.out (by have := HB46.out.size; rw [HG6E.out] at this; exact this) (fun j hj => by cases hj; omega))
        have HS8 := Lib.hid (HS6.out.grown HX.out (by intro e; have := Option.some.inj e; omega))
        have HN8 := Lib.hid (HN6.out.grown HX.out (by intro e; have := Option.some.inj e; omega))
        have HT8 := Lib.hid (HT.out.set_ i (.int .i64 (n.he i)))
        have KT := Lib.hid (kt _ _ hsl)
        clear hz hid kt hsl
        generalize hze : n.he i = z at *
        have HZE := Lib.hid hze
        clear hze
        obtain ⟨wq, hwq⟩ : ∃ wq, wq = wr.setCell ⟨g7, i, none⟩ (.int .i64 z) := ⟨_, rfl⟩
        rw [← hwq] at HX HS8 HN8 HT8 KT
        have HWQ := Lib.hid hwq
        go_upto_region 11 with (first | go_big_skip)
        rw [← hwq]
        clear hwq k1 k2 k3
        have k0 := NB.id HN8.out
        rw [HD.out] at k0
        go_upto_region 12 with (first
          | (refine wpList_load_at 111 (.tmp 6) rfl rfl g6 rfl _ (AN 4 sv) _ HS8.out Tryz.underlying111 rfl (by rw [AN_size]; exact info44) ?_)
          | (go_at_call 49; (with_reducible refine KT.out.mono ?_); rintro e w8 ⟨rfl, hb8⟩; have HB8 := Lib.hid hb8; clear hb8)
          | (refine wpList_store_at 113 (.tmp 9) (.tmp 40) rfl rfl w8.heap.size _ #[.int .i64 0, .int .i64 0] (I2 (toldF hX i d i)) rfl rfl (Blk.new w8 _ _) (by unfold I2; rw [AN_size]; rfl) (by unfold I2; rw [AN_size]; exact info2) (AN_one (fun i hi => rfl)) ?_; intro w9 hT9 hg9; have HT9 := Lib.hid hT9; have HG9 := Lib.hid hg9; clear hT9 hg9))
        try simp only [pts]
        have hb89 : Below w8.heap.size w8 w9 := ((Below.refl _ _).alloc (Nat.le_refl _) _).grown HG9.out (by simp) (fun j hj => by cases hj; exact Nat.le_refl _)
        have hbq9 := HB8.out.trans (hb89.mono HB8.out.size)
        have hN9 := NB.next HN8.out hbq9
        have hT89 := HT8.out.next hbq9
        have t0 : w9.cell? ⟨w8.heap.size, 0, none⟩ = some (.int .i64 (toldF hX i d i 0)) := by have := HT9.out.cell 0; rw [this]; unfold I2; rw [AN_get (by decide)]
        have t1 : w9.cell? ⟨w8.heap.size, 1, none⟩ = some (.int .i64 (toldF hX i d i 1)) := by have := HT9.out.cell 1; rw [this]; unfold I2; rw [AN_get (by decide)]
        have tz := NB.he hN9 hi
        rw [HZE.out] at tz
        have l9 : w8.heap.size < w9.heap.size := HT9.out.lt
        have lg : w.heap.size < w9.heap.size := Blk.lt hN9
        have SK := Lib.hid (fun W (hb : Below w9.heap.size w9 W) => (⟨(hb.cell (p := ⟨w.heap.size, 51 + i, none⟩) lg).trans tz, (hb.cell (p := ⟨w8.heap.size, 0, none⟩) l9).trans t0, (hb.cell (p := ⟨w8.heap.size, 1, none⟩) l9).trans t1⟩ : W.cell? ⟨w.heap.size, 51 + i, none⟩ = some (.int .i64 z) ∧ W.cell? ⟨w8.heap.size, 0, none⟩ = some (.int .i64 (toldF hX i d i 0)) ∧ W.cell? ⟨w8.heap.size, 1, none⟩ = some (.int .i64 (toldF hX i d i 1))))
        have FK := Lib.hid (fun W (hb : Below w9.heap.size w9 W) => (⟨by rw [(hT89.next hb).cell i, Array.getElem?_eq_getElem (by simp [I4, AN_size]; omega)]; exact ⟨_, rfl⟩, (hT89.next hb).frozen i⟩ : (∃ u, W.cell? ⟨g7, i, none⟩ = some u) ∧ W.frozen? ⟨g7, i, none⟩ = false))
        have KD := Lib.hid (fun W => decide_any z (toldF hX i d i 0) (toldF hX i d i 1) W)
        have HT89 := Lib.hid hT89
        have HBQ9 := Lib.hid hbq9
        rw [HZ.out] at KD
        clear hb89 hbq9 hN9 hT89 t0 t1 tz k0
        generalize toldF hX i d i 0 = x0 at *
        generalize toldF hX i d i 1 = x1 at *
        have hg79 : g7 < w8.heap.size := Nat.lt_of_lt_of_le HT8.out.lt HB8.out.size
        generalize w8.heap.size = g9 at *
        go_region_held3 (fun W => W.cell? ⟨w.heap.size, 51 + i, none⟩ = some (.int .i64 z) ∧ W.cell? ⟨g9, 0, none⟩ = some (.int .i64 x0) ∧ W.cell? ⟨g9, 1, none⟩ = some (.int .i64 x1))
          (first | with_reducible exact SK.out _ (Below.refl _ _).drew | with_reducible exact SK.out _ hb10 | with_reducible exact SK11.out _)
          (first
            | (go_at_call 50; (with_reducible refine (KD.out _).mono ?_); rintro e w10 ⟨rfl, hb10'⟩; have hb10 : Below w9.heap.size w9 w10 := ((Below.refl _ _).drew).trans (hb10'.mono (Nat.le_refl _)); have kk := FK.out _ hb10; obtain ⟨⟨u, ku⟩, kf⟩ := kk; have HB10 := Lib.hid hb10; have sk10 := SK.out _ hb10; have SK11 := Lib.hid (fun u => (⟨cell_set_ne sk10.1 (Nat.lt_of_lt_of_le lg hb10.size) (by omega), cell_set_ne sk10.2.1 (Nat.lt_of_lt_of_le l9 hb10.size) (by omega), cell_set_ne sk10.2.2 (Nat.lt_of_lt_of_le l9 hb10.size) (by omega)⟩ : (w10.setCell ⟨g7, i, none⟩ u).cell? ⟨w.heap.size, 51 + i, none⟩ = some (.int .i64 z) ∧ (w10.setCell ⟨g7, i, none⟩ u).cell? ⟨g9, 0, none⟩ = some (.int .i64 x0) ∧ (w10.setCell ⟨g7, i, none⟩ u).cell? ⟨g9, 1, none⟩ = some (.int .i64 x1))); clear hb10' sk10))
        go_wp2_with fail
        go_roundw
        case rel => exact ⟨i + 1, by go_num, by omega, jTo_put2 (HT89.out.next HB10.out) rfl, grown_trans (grown_trans HX.out (grown_below (HBQ9.out.trans (HB10.out.mono HBQ9.out.size)))) (grown_set _ _ _ _)⟩
        case measure => simp [intOf]; omega
    · obtain rfl : i = 4 := by omega
      have hN := HN6.out.grown hG (by intro e; have := Option.some.inj e; omega)
      have hB3' := HB6.out.grown hG HB6.out.size (fun j hj => by cases hj; omega)
      have HZ4 := Lib.hid (HZ6.out.grown hG (by intro e; have := Option.some.inj e; omega))
      have HM4 := Lib.hid (HM6.out.grown hG (by intro e; have := Option.some.inj e; omega))
      have HB4 := Lib.hid hB3'
      have HN4 := Lib.hid hN
      have HT4 := Lib.hid (show Blk wr g7 53 #[.int .i64 (jF n hX d 0), .int .i64 (jF n hX d 1), .int .i64 (jF n hX d 2), .int .i64 (jF n hX d 3)] from hT)
      have b0 := NB.inn hN (i := 0) (by omega)
      have b1 := NB.inn hN (i := 1) (by omega)
      have b2 := NB.inn hN (i := 2) (by omega)
      have b3 := NB.inn hN (i := 3) (by omega)
      have kv := vote_any (jF n hX d 0) (jF n hX d 1) (jF n hX d 2) (jF n hX d 3) (n.ro.inn 0) (n.ro.inn 1) (n.ro.inn 2) (n.ro.inn 3) (has_of (HP.out 0 (by decide))) (has_of (HP.out 1 (by decide))) (has_of (HP.out 2 (by decide))) (has_of (HP.out 3 (by decide))) wr
      have hjv : Vt.VL (jF n hX d 0) (jF n hX d 1) (jF n hX d 2) (jF n hX d 3) (n.ro.inn 0) (n.ro.inn 1) (n.ro.inn 2) (n.ro.inn 3) = jV n hX d := rfl
      rw [hjv] at kv
      have KV := Lib.hid kv
      clear hN hG hB3' hT HN6 HZ6 HM6 HB6 HO6 HT6 HS6 kv hjv HSL4 HB46 HL
      go_upto_region 15 with (first
        | (refine wpList_load_at 53 (.tmp 7) rfl rfl g7 rfl _ #[.int .i64 (jF n hX d 0), .int .i64 (jF n hX d 1), .int .i64 (jF n hX d 2), .int .i64 (jF n hX d 3)] _ HT4.out Tryz.underlying53 rfl (by kernel_rfl) ?_)
        | (go_at_call 54; (with_reducible refine KV.out.mono ?_); rintro e w11 ⟨v, rfl, hov, hb11⟩; obtain ⟨Av, cv, rfl⟩ := own_shape hov; have HOV := Lib.hid hov; have HB11 := Lib.hid hb11; have HN11 := Lib.hid (NB.next HN4.out hb11); clear hov hb11)
        | (refine wpList_store_nb 60 (.tmp 58) (.tmp 57) rfl rfl w.heap.size 71 #[.int .i64 (Vt.val (jV n hX d)), .bool (Vt.strong (jV n hX d)), .slice Av 4 cv] n { n with vv := Vt.val (jV n hX d), vs := Vt.strong (jV n hX d) } va7 (.slice Av 4 cv) rfl rfl HN11.out (by simp) (by kernel_rfl) (by simp [Value.oneCell']) (he_verd n va7 (.slice Av 4 cv) (Vt.val (jV n hX d)) (Vt.strong (jV n hX d))) ?_; intro w12 hN12 hg12; have HN12 := Lib.hid hN12; have HG12 := Lib.hid hg12; clear hN12 hg12))
      as_aux_lemma =>
      have HX := Lib.hid (show wr.grownBy w12 (some w.heap.size) from grown_trans (grown_below HB11.out) HG12.out)
      have HB12 := Lib.hid (HB4.out.grown HX.out HB4.out.size (fun j hj => by cases hj; exact Nat.le_refl _))
      have HZ12 := Lib.hid (HZ4.out.grown HX.out (by intro e; have := Option.some.inj e; omega))
      have HM12 := Lib.hid (HM4.out.grown HX.out (by intro e; have := Option.some.inj e; omega))
      have HO12 := Lib.hid (own_kept_t HOV.out HG12.out HN11.out (by decide))
      have hs4 := HB4.out.size
      have hm4 := HM4.out.lt
      clear HN4 HN11 HT4 HB4 HZ4 HM4 HX HG12 KV
      obtain ⟨gv, hgv⟩ : ∃ gv, Av = some ⟨gv, 0, none⟩ := by
        rcases HOV.out.2 with ⟨h1, h2⟩ | ⟨g, cap, cur, h1, _⟩
        · omega
        · injection h1 with h1; exact ⟨g, h1⟩
      subst hgv
      have hA4 : ∀ j, j < 4 → w12.cell? ⟨gv, 0 + j, none⟩ = some (.bool (jA n hX d j)) := by
        intro j hj
        have hv := VR.own (c := cv) (n := 4) HO12.out
        obtain ⟨b, off, e, hlt, hc⟩ := hv.2.2 (by omega)
        injection e with e
        injection e with e1 e2 _
        subst e1 e2
        refine hc j _ ?_
        match j, hj with
        | 0, _ => rfl
        | 1, _ => rfl
        | 2, _ => rfl
        | 3, _ => rfl
      have hgvlt : gv < w12.heap.size := (HO12.out.lt gv rfl).2
      have k1 := NB.vv HN12.out
      have k2 := NB.vs HN12.out
      have k3 := NB.agr HN12.out
      generalize hV : jV n hX d = V at *
      generalize hst : Vt.strong V = st at *
      generalize hvl : Vt.val V = vl at *
      have HR12 := Lib.hid (NB.roR HN12.out)
      have HVV := Lib.hid hV
      have HST := Lib.hid hst
      have HVL := Lib.hid hvl
      clear hV hst hvl
      by_cases hG : Mb.Good n.ro
      · have KST := Lib.hid (Step_any n.ro (jA n hX d) vl st gv 0 cv w12 hG hgvlt hA4)
        unfold StepPost at KST
        have HGd := Lib.hid hG
        clear hG hA4
        have kst2 : Hid (Calls Tryz.prog 55 #[.agg (rollC n.ro).toList.toArray, .agg #[.int .i64 vl, .bool st, .slice (some ⟨gv, 0, none⟩) 4 cv]] w12 fun e w' => ∃ v, e = .returned (.tuple #[.agg (rollC (stepAll n.ro (jA n hX d) st).1), v, .int .i64 0]) ∧ w'.ownsRow w12.heap.size 147 2 v (stepAll n.ro (jA n hX d) st).2.length (chC (stepAll n.ro (jA n hX d) st).2) ∧ Below w12.heap.size w12 w') := KST
        clear KST
        generalize hR : (stepAll n.ro (jA n hX d) st).1 = R' at *
        have HRR := Lib.hid hR
        clear hR
        go_upto_region 18 with (first
          | (refine wpList_load_mid rfl 55 (.tmp 60) rfl w.heap.size 27 rfl (rollC n.ro).toList _ HR12.out Tryz.underlying55 rfl info12r ?_)
          | (go_at_call 55; (with_reducible refine kst2.out.mono ?_); rintro e w13 ⟨v, rfl, _, hb13⟩; have HB13 := Lib.hid hb13; have HN13 := Lib.hid (NB.next HN12.out hb13); clear hb13)
          | (refine wpList_store_at 55 (.tmp 10) (.tmp 65) rfl rfl w13.heap.size _ _ (rollC R') rfl rfl (Blk.new w13 _ _) (by rfl) (by kernel_rfl) (rollC_one R') ?_; intro w14 hR14 hg14; have HR14 := Lib.hid hR14; have HG14 := Lib.hid hg14; have HN14 := Lib.hid (Blk.grown (Blk.alloc HN13.out _) hg14 (by intro e; have := Option.some.inj e; have := Blk.lt HN13.out; omega)); clear hR14 hg14)
          | (refine wpList_load_at 55 (.tmp 10) rfl rfl w13.heap.size rfl _ (rollC R') _ HR14.out Tryz.underlying55 rfl (by kernel_rfl) ?_)
          | (refine wpList_store_nb 55 (.tmp 71) (.tmp 70) rfl rfl w.heap.size 27 (rollC R') { n with vv := vl, vs := st } { n with vv := vl, vs := st, ro := R' } _ _ rfl rfl HN14.out (by show 27 + 12 ≤ 74; omega) (by kernel_rfl) (rollC_one R') (he_roll { n with vv := vl, vs := st } (.slice (some ⟨gv, 0, none⟩) 4 cv) R') ?_; intro w15 hN15 hg15; have HN15 := Lib.hid hN15; have HG15 := Lib.hid hg15; clear hN15 hg15))
        have hb14 := HB13.out.trans ((((Below.refl w13.heap.size w13).alloc (Nat.le_refl _) _).grown HG14.out (by simp) (fun j hj => by cases hj; exact Nat.le_refl _)).mono HB13.out.size)
        have HX := Lib.hid (show w12.grownBy w15 (some w.heap.size) from grown_trans (grown_below hb14) HG15.out)
        have hn7 : ({ n with vv := vl, vs := st, ro := R' } : Nd) = judgeN n (Ms.map Mg.pm) d := by unfold judgeN judgeH; rw [HH.out, HVV.out, HVL.out, HST.out, if_pos HGd.out, HRR.out]
        have HJN := Lib.hid hn7
        clear hn7
        have HN7 := HN15
        have HID := Lib.hid (show ({ n with vv := vl, vs := st, ro := R' } : Nd).id = n.id ∧ ({ n with vv := vl, vs := st, ro := R' } : Nd).fr = n.fr from ⟨rfl, rfl⟩)
        obtain ⟨w7, rfl⟩ : ∃ w7 : World, w7 = w15 := ⟨_, rfl⟩
        generalize ({ n with vv := vl, vs := st, ro := R' } : Nd) = n7 at *
        have hjb : judgeB n (Ms.map Mg.pm) d = [.bool (jA n hX d 0), .bool (jA n hX d 1), .bool (jA n hX d 2), .bool (jA n hX d 3)] := by unfold judgeB judgeH; rw [HH.out]
        have HZ7 := Lib.hid (HZ12.out.grown HX.out (by intro e; have := Option.some.inj e; omega))
        have HM7 := Lib.hid (HM12.out.grown HX.out (by intro e; have := Option.some.inj e; omega))
        have HB7 := Lib.hid (HB12.out.grown HX.out HB12.out.size (fun j hj => by cases hj; exact Nat.le_refl _))
        have HO7 := Lib.hid (show w7.ownsRow wr.heap.size 4 1 (.slice (some ⟨gv, 0, none⟩) (judgeB n (Ms.map Mg.pm) d).length cv) (judgeB n (Ms.map Mg.pm) d).length (judgeB n (Ms.map Mg.pm) d) from by rw [hjb]; unfold jA; rw [HVV.out]; exact own_kept_t HO12.out HX.out HN12.out (by decide))
        have HB0 := Lib.hid (show w.heap.size ≤ wr.heap.size from hs4)
        clear hjb
        obtain ⟨va7, hvb⟩ : ∃ v, v = Value.slice (some ⟨gv, 0, none⟩) 4 cv := ⟨_, rfl⟩
        have HVB7 := Lib.hid hvb
        rw [← hvb] at HN7
        clear hvb
        have HV7 : Hid ((NA n7 va7).all (·.oneCell') = true) := by rw [HVB7.out]; exact NA_one _ _ _ _
        have KP := Lib.hid (fun W => pack_any n7 va7 W)
        unfold PackPost at KP
        have KS := Lib.hid (fun A c W => say_any n7 va7 5 A 24 c W)
        rw [HID.out.1, HID.out.2] at KS
        have hm7 := HM7.out.lt
        have hz7 := HB7.out.size
        go_upto_region 18 with fail
        --TAIL n7 || 4 || 72 || 5 || 76 || L;;L;;L;;C:KP.out _@@wp@@⟨Ap, cp, rfl, hop, hbb⟩;;C:KS.out Ap cp _@@w8@@⟨rfl, hbb⟩ || #[.int .i64 5, .int .i64 n.id, .int .i64 n.fr, .slice Ap 24 cp] || w7
        try simp only [pts]
        have SK := Lib.hid (fun W (h : Below w7.heap.size w7 W) => (NB.next HN7.out h : NB W w.heap.size n7 va7))
        unfold NB at SK
        refine wp_region_F 6 (fun w' => Blk w' w.heap.size 62 (NA n7 va7)) (by kernel_rfl) (SK.out _ (Below.refl _ _).drew) (fun hS => ?_)
        refine wpF 0 (.agg (NA n7 va7)) rfl (by kernel_rfl) (fun _ _ _ h => h) (Or.inl ⟨by rfl, fun wx hSw => exec_load_row 62 (.tmp 2) rfl w.heap.size rfl _ (NA n7 va7) _ hSw Tryz.underlying62 rfl (by rw [NA_size]; exact infoNode)⟩) hS ?_
        try simp only [pts]
        refine wpF 1 (.agg (NA n7 va7)) rfl (by kernel_rfl) (fun _ _ _ h => h) (Or.inl ⟨by rfl, fun wx hSw => exec_load_row 62 (.tmp 2) rfl w.heap.size rfl _ (NA n7 va7) _ hSw Tryz.underlying62 rfl (by rw [NA_size]; exact infoNode)⟩) hS ?_
        try simp only [pts]
        refine wpF 2 (.agg (NA n7 va7)) rfl (by kernel_rfl) (fun _ _ _ h => h) (Or.inl ⟨by rfl, fun wx hSw => exec_load_row 62 (.tmp 2) rfl w.heap.size rfl _ (NA n7 va7) _ hSw Tryz.underlying62 rfl (by rw [NA_size]; exact infoNode)⟩) hS ?_
        try simp only [pts]
        refine wpAnyF_one (i := 3) rfl (by kernel_rfl) (fun K hK => ?_)
        go_simp
        (with_reducible refine (KP.out _).mono ?_)
        rintro e wp ⟨Ap, cp, rfl, hop, hbb⟩
        have hb_wp := (((Below.refl w7.heap.size w7).drew)).trans (hbb.mono (Nat.le_refl _))
        have H_prev := Lib.hid hb_wp
        have HBB_wp := Lib.hid hbb
        clear hS
        have hS := SK.out _ hb_wp
        clear hbb hb_wp
        refine hK.out _ _ hS ?_
        clear hK K
        try simp only [pts]
        refine wpAnyF_one (i := 4) rfl (by kernel_rfl) (fun K hK => ?_)
        go_simp
        (with_reducible refine (KS.out Ap cp _).mono ?_)
        rintro e w8 ⟨rfl, hbb⟩
        have hb_w8 := (H_prev.out).trans (hbb.mono (by first | exact (H_prev.out).size | omega))
        have H_prev := Lib.hid hb_w8
        have HBB_w8 := Lib.hid hbb
        clear hS
        have hS := SK.out _ hb_w8
        clear hbb hb_w8
        refine hK.out _ _ hS ?_
        clear hK K
        try simp only [pts]
        refine wpAnyF_one (i := 5) rfl (by kernel_rfl) (fun K hK => ?_)
        rw [if_pos (by rfl)]
        refine wp_store_row 62 (.tmp 4) (.tmp 72) rfl (w.heap.size + 1) _ zc (NA n7 va7) rfl rfl (HZ7.out.next H_prev.out) (by rw [NA_size, HZS.out]) (by rw [NA_size]; exact infoNode) HV7.out (fun w9 hN9 hg9 => ?_)
        have hS9 := hS.grown hg9 (by intro e; have := Option.some.inj e; omega)
        refine hK.out _ _ hS9 ?_
        clear hK K hS
        try simp only [pts]
        refine wpAnyF_last rfl (by kernel_rfl) (by kernel_rfl) (fun K hK => ?_)
        rw [if_pos (by rfl)]
        refine wp_store_row 24 (.tmp 5) (.tmp 76) rfl (w.heap.size + 1 + 1) _ _ #[.int .i64 5, .int .i64 n.id, .int .i64 n.fr, .slice Ap 24 cp] rfl rfl ((HM7.out.next H_prev.out).grown hg9 (by intro e; have := Option.some.inj e; omega)) rfl (by kernel_rfl) (by simp [Value.oneCell']) (fun w10 hM10 hg10 => ?_)
        refine hK.out _ _ ?_
        clear hK K
        try simp only [pts]
        go_wp2_with fail
        have hN10 := hN9.grown hg10 (by intro e; have := Option.some.inj e; omega)
        --END
        refine bodyPost_ret (results_two Tryz.results34 _ _ (w.heap.size + 1) (w.heap.size + 1 + 1) _ _ _ _ _ _ rfl rfl hN10 hM10 Tryz.underlying62 rfl (by rw [NA_size]; exact infoNode) Tryz.underlying24 rfl (by kernel_rfl)) rfl ?_
        have hov := own_ownI hop
        have hsd : w7.drew.heap.size = w7.heap.size := rfl
        have hpl : 24 = (packL n7).length := (packL_len n7).symm
        rw [HVB7.out, ← HJN.out]
        have hov2 := (hov.down (show w.heap.size ≤ _ by rw [hsd]; omega)).next HBB_w8.out
        have hne := fun ad (e : Ap = some ad) => (hov.2.2.2 ad e).2.1
        rw [hpl] at hov2
        have hfin := ph_end (bs := judgeB n (Ms.map Mg.pm) d) (k := 5) (f := n.id) (r := n.fr) (n7 := n7) (vs := packL n7) (by omega) (by omega) (by omega) HZ7.out HM7.out HO7.out HB0.out HB7.out H_prev.out hg9 hg10 hov2 (fun ad e => by have := hne ad e; rw [hsd] at this; omega)
        rw [← hpl] at hfin
        exact hfin
      · have KST := Lib.hid (Step_bad n.ro vl st ⟨gv, 0, none⟩ cv w12 hG)
        have HGd := Lib.hid hG
        clear hG hA4
        have kst2 : Hid (Calls Tryz.prog 55 #[.agg (rollC n.ro).toList.toArray, .agg #[.int .i64 vl, .bool st, .slice (some ⟨gv, 0, none⟩) 4 cv]] w12 fun e w' => e = .returned (.tuple #[.agg (rollC R0), .slice none 0 0, .int .i64 3]) ∧ Below w12.heap.size w12 w') := KST
        clear KST
        generalize hr0 : R0 = R' at *
        clear hr0
        go_upto_region 18 with (first
          | (refine wpList_load_mid rfl 55 (.tmp 60) rfl w.heap.size 27 rfl (rollC n.ro).toList _ HR12.out Tryz.underlying55 rfl info12r ?_)
          | (go_at_call 55; (with_reducible refine kst2.out.mono ?_); rintro e w13 ⟨rfl, hb13⟩; have HB13 := Lib.hid hb13; have HN13 := Lib.hid (NB.next HN12.out hb13); clear hb13)
          | (refine wpList_store_at 55 (.tmp 10) (.tmp 65) rfl rfl w13.heap.size _ _ (rollC R') rfl rfl (Blk.new w13 _ _) (by rfl) (by kernel_rfl) (rollC_one R') ?_; intro w14 hR14 hg14; have HG14 := Lib.hid hg14; have HN14 := Lib.hid (Blk.grown (Blk.alloc HN13.out _) hg14 (by intro e; have := Option.some.inj e; have := Blk.lt HN13.out; omega)); clear hR14 hg14))
        have hb14 := HB13.out.trans ((((Below.refl w13.heap.size w13).alloc (Nat.le_refl _) _).grown HG14.out (by simp) (fun j hj => by cases hj; exact Nat.le_refl _)).mono HB13.out.size)
        have HX := Lib.hid (show w12.grownBy w14 (some w.heap.size) from grown_below hb14)
        have hn7 : ({ n with vv := vl, vs := st } : Nd) = judgeN n (Ms.map Mg.pm) d := by unfold judgeN judgeH; rw [HH.out, HVV.out, HVL.out, HST.out, if_neg HGd.out]
        have HJN := Lib.hid hn7
        clear hn7
        have HN7 : Hid (NB w14 w.heap.size { n with vv := vl, vs := st } (.slice (some ⟨gv, 0, none⟩) 4 cv)) := HN14
        have HID := Lib.hid (show ({ n with vv := vl, vs := st } : Nd).id = n.id ∧ ({ n with vv := vl, vs := st } : Nd).fr = n.fr from ⟨rfl, rfl⟩)
        obtain ⟨w7, rfl⟩ : ∃ w7 : World, w7 = w14 := ⟨_, rfl⟩
        generalize ({ n with vv := vl, vs := st } : Nd) = n7 at *
        have hjb : judgeB n (Ms.map Mg.pm) d = [.bool (jA n hX d 0), .bool (jA n hX d 1), .bool (jA n hX d 2), .bool (jA n hX d 3)] := by unfold judgeB judgeH; rw [HH.out]
        have HZ7 := Lib.hid (HZ12.out.grown HX.out (by intro e; have := Option.some.inj e; omega))
        have HM7 := Lib.hid (HM12.out.grown HX.out (by intro e; have := Option.some.inj e; omega))
        have HB7 := Lib.hid (HB12.out.grown HX.out HB12.out.size (fun j hj => by cases hj; exact Nat.le_refl _))
        have HO7 := Lib.hid (show w7.ownsRow wr.heap.size 4 1 (.slice (some ⟨gv, 0, none⟩) (judgeB n (Ms.map Mg.pm) d).length cv) (judgeB n (Ms.map Mg.pm) d).length (judgeB n (Ms.map Mg.pm) d) from by rw [hjb]; unfold jA; rw [HVV.out]; exact own_kept_t HO12.out HX.out HN12.out (by decide))
        have HB0 := Lib.hid (show w.heap.size ≤ wr.heap.size from hs4)
        clear hjb
        obtain ⟨va7, hvb⟩ : ∃ v, v = Value.slice (some ⟨gv, 0, none⟩) 4 cv := ⟨_, rfl⟩
        have HVB7 := Lib.hid hvb
        rw [← hvb] at HN7
        clear hvb
        have HV7 : Hid ((NA n7 va7).all (·.oneCell') = true) := by rw [HVB7.out]; exact NA_one _ _ _ _
        have KP := Lib.hid (fun W => pack_any n7 va7 W)
        unfold PackPost at KP
        have KS := Lib.hid (fun A c W => say_any n7 va7 5 A 24 c W)
        rw [HID.out.1, HID.out.2] at KS
        have hm7 := HM7.out.lt
        have hz7 := HB7.out.size
        go_upto_region 18 with fail
        --TAIL n7 || 4 || 72 || 5 || 76 || L;;L;;L;;C:KP.out _@@wp@@⟨Ap, cp, rfl, hop, hbb⟩;;C:KS.out Ap cp _@@w8@@⟨rfl, hbb⟩ || #[.int .i64 5, .int .i64 n.id, .int .i64 n.fr, .slice Ap 24 cp] || w7
        try simp only [pts]
        have SK := Lib.hid (fun W (h : Below w7.heap.size w7 W) => (NB.next HN7.out h : NB W w.heap.size n7 va7))
        unfold NB at SK
        refine wp_region_F 6 (fun w' => Blk w' w.heap.size 62 (NA n7 va7)) (by kernel_rfl) (SK.out _ (Below.refl _ _).drew) (fun hS => ?_)
        refine wpF 0 (.agg (NA n7 va7)) rfl (by kernel_rfl) (fun _ _ _ h => h) (Or.inl ⟨by rfl, fun wx hSw => exec_load_row 62 (.tmp 2) rfl w.heap.size rfl _ (NA n7 va7) _ hSw Tryz.underlying62 rfl (by rw [NA_size]; exact infoNode)⟩) hS ?_
        try simp only [pts]
        refine wpF 1 (.agg (NA n7 va7)) rfl (by kernel_rfl) (fun _ _ _ h => h) (Or.inl ⟨by rfl, fun wx hSw => exec_load_row 62 (.tmp 2) rfl w.heap.size rfl _ (NA n7 va7) _ hSw Tryz.underlying62 rfl (by rw [NA_size]; exact infoNode)⟩) hS ?_
        try simp only [pts]
        refine wpF 2 (.agg (NA n7 va7)) rfl (by kernel_rfl) (fun _ _ _ h => h) (Or.inl ⟨by rfl, fun wx hSw => exec_load_row 62 (.tmp 2) rfl w.heap.size rfl _ (NA n7 va7) _ hSw Tryz.underlying62 rfl (by rw [NA_size]; exact infoNode)⟩) hS ?_
        try simp only [pts]
        refine wpAnyF_one (i := 3) rfl (by kernel_rfl) (fun K hK => ?_)
        go_simp
        (with_reducible refine (KP.out _).mono ?_)
        rintro e wp ⟨Ap, cp, rfl, hop, hbb⟩
        have hb_wp := (((Below.refl w7.heap.size w7).drew)).trans (hbb.mono (Nat.le_refl _))
        have H_prev := Lib.hid hb_wp
        have HBB_wp := Lib.hid hbb
        clear hS
        have hS := SK.out _ hb_wp
        clear hbb hb_wp
        refine hK.out _ _ hS ?_
        clear hK K
        try simp only [pts]
        refine wpAnyF_one (i := 4) rfl (by kernel_rfl) (fun K hK => ?_)
        go_simp
        (with_reducible refine (KS.out Ap cp _).mono ?_)
        rintro e w8 ⟨rfl, hbb⟩
        have hb_w8 := (H_prev.out).trans (hbb.mono (by first | exact (H_prev.out).size | omega))
        have H_prev := Lib.hid hb_w8
        have HBB_w8 := Lib.hid hbb
        clear hS
        have hS := SK.out _ hb_w8
        clear hbb hb_w8
        refine hK.out _ _ hS ?_
        clear hK K
        try simp only [pts]
        refine wpAnyF_one (i := 5) rfl (by kernel_rfl) (fun K hK => ?_)
        rw [if_pos (by rfl)]
        refine wp_store_row 62 (.tmp 4) (.tmp 72) rfl (w.heap.size + 1) _ zc (NA n7 va7) rfl rfl (HZ7.out.next H_prev.out) (by rw [NA_size, HZS.out]) (by rw [NA_size]; exact infoNode) HV7.out (fun w9 hN9 hg9 => ?_)
        have hS9 := hS.grown hg9 (by intro e; have := Option.some.inj e; omega)
        refine hK.out _ _ hS9 ?_
        clear hK K hS
        try simp only [pts]
        refine wpAnyF_last rfl (by kernel_rfl) (by kernel_rfl) (fun K hK => ?_)
        rw [if_pos (by rfl)]
        refine wp_store_row 24 (.tmp 5) (.tmp 76) rfl (w.heap.size + 1 + 1) _ _ #[.int .i64 5, .int .i64 n.id, .int .i64 n.fr, .slice Ap 24 cp] rfl rfl ((HM7.out.next H_prev.out).grown hg9 (by intro e; have := Option.some.inj e; omega)) rfl (by kernel_rfl) (by simp [Value.oneCell']) (fun w10 hM10 hg10 => ?_)
        refine hK.out _ _ ?_
        clear hK K
        try simp only [pts]
        go_wp2_with fail
        have hN10 := hN9.grown hg10 (by intro e; have := Option.some.inj e; omega)
        --END
        refine bodyPost_ret (results_two Tryz.results34 _ _ (w.heap.size + 1) (w.heap.size + 1 + 1) _ _ _ _ _ _ rfl rfl hN10 hM10 Tryz.underlying62 rfl (by rw [NA_size]; exact infoNode) Tryz.underlying24 rfl (by kernel_rfl)) rfl ?_
        have hov := own_ownI hop
        have hsd : w7.drew.heap.size = w7.heap.size := rfl
        have hpl : 24 = (packL n7).length := (packL_len n7).symm
        rw [HVB7.out, ← HJN.out]
        have hov2 := (hov.down (show w.heap.size ≤ _ by rw [hsd]; omega)).next HBB_w8.out
        have hne := fun ad (e : Ap = some ad) => (hov.2.2.2 ad e).2.1
        rw [hpl] at hov2
        have hfin := ph_end (bs := judgeB n (Ms.map Mg.pm) d) (k := 5) (f := n.id) (r := n.fr) (n7 := n7) (vs := packL n7) (by omega) (by omega) (by omega) HZ7.out HM7.out HO7.out HB0.out HB7.out H_prev.out hg9 hg10 hov2 (fun ad e => by have := hne ad e; rw [hsd] at this; omega)
        rw [← hpl] at hfin
        exact hfin
end Go.Proofs.YtofeoeknmlkjgaaGreat.Nk
end
section
/- node.Decide: what it computes. -/
set_option linter.unusedVariables false
namespace Go.Proofs.YtofeoeknmlkjgaaGreat.Nk
open Go.RowKit Go.Proofs.YtofeoeknmlkjgaaGreat Mb Fi Sm

def decH (n : Nd) (Ms : List Pm) : Hd := hearF n.id n.fr 2 12 Ms
def aF (n : Nd) (h : Hd) (d j : Nat) : Int := if j / 3 = d then n.di j else Mj.maj [n.di j, toldF h j d (j / 3) 0, toldF h j d (j / 3) 1] 0
def agTo (n : Nd) (h : Hd) (d k : Nat) : Nd := { n with ag := fun j => if j < k then aF n h d j else n.ag j }
theorem agTo_zero (n : Nd) (h : Hd) (d : Nat) : agTo n h d 0 = n := by unfold agTo; simp
theorem agTo_put (n : Nd) (h : Hd) (d k : Nat) (hk : k < 12) (z : Int) (hz : z = aF n h d k) (va : Value) (m : Nd) (hm : m = agTo n h d k ∨ ∃ y, m = { agTo n h d k with ag := upd (agTo n h d k).ag k y }) :
    ∀ j, j < 74 → (agTo n h d (k + 1)).c va j = if j = 55 + k then .int .i64 z else m.c va j := by
  intro j hj
  by_cases c : j = 55 + k
  · rw [if_pos c, c_ag (by omega) (by omega)]
    unfold agTo
    simp only
    rw [show j - 55 = k by omega, if_pos (by omega), hz]
  · rw [if_neg c]
    by_cases c2 : 55 ≤ j ∧ j < 67
    · rw [c_ag c2.1 c2.2, c_ag c2.1 c2.2]
      have e : m.ag (j - 55) = (agTo n h d k).ag (j - 55) := by
        rcases hm with rfl | ⟨y, rfl⟩
        · rfl
        · show upd _ k y (j - 55) = _
          unfold upd
          rw [if_neg (by omega)]
      rw [e]
      unfold agTo
      simp only
      rcases Nat.lt_trichotomy (j - 55) k with c3 | c3 | c3
      · rw [if_pos (by omega), if_pos c3]
      · omega
      · rw [if_neg (by omega), if_neg (by omega)]
    · have e : m.c va j = (agTo n h d k).c va j := by
        rcases hm with rfl | ⟨y, rfl⟩
        · rfl
        · exact c_ag_out _ _ va j (by omega)
      rw [e]
      unfold agTo
      exact (c_ag_out n _ va j (by omega)).trans (c_ag_out n _ va j (by omega)).symm
def decideN (n : Nd) (Ms : List Pm) (d : Nat) : Nd :=
  { ({ fuTo (agTo n (decH n Ms) d 12) 3 with dg := dgF (fuTo (agTo n (decH n Ms) d 12) 3) } : Nd) with he := upd ({ fuTo (agTo n (decH n Ms) d 12) 3 with dg := dgF (fuTo (agTo n (decH n Ms) d 12) 3) } : Nd).he d (dgF (fuTo (agTo n (decH n Ms) d 12) 3)) }
end Go.Proofs.YtofeoeknmlkjgaaGreat.Nk
end
section
/- Four computers, one of which may be faulty: what a frame computes, plain; and what the good ones agree on. -/
set_option linter.unusedVariables false
namespace Go.Proofs.YtofeoeknmlkjgaaGreat.Nk
open Go.RowKit Go.Proofs.YtofeoeknmlkjgaaGreat Mb Fi Sm

/-! what is heard -/
def fitsS (fr kind : Int) (many s : Nat) (x : Pm) : Bool := decide (x.k = kind) && decide (x.r = fr) && decide (x.vs.length = many) && decide (x.f = (s : Int))
def firstM (fr kind : Int) (many s : Nat) (L : List Pm) : Option (List Int) := (L.find? (fitsS fr kind many s)).map (·.vs)
theorem hear_keeps (id fr kind : Int) (many s : Nat) (l : List Int) : ∀ (L : List Pm) (h : Hd), h s = some l → L.foldl (hear1 id fr kind many) h s = some l
  | [], h, e => e
  | x :: L, h, e => by
    refine hear_keeps id fr kind many s l L _ ?_
    unfold hear1
    split
    · rename_i hf
      simp only [fitsM, Bool.and_eq_true, decide_eq_true_eq, Option.isNone_iff_eq_none] at hf
      unfold upd
      rw [if_neg]
      · exact e
      · intro h2
        rw [← h2, e] at hf
        exact absurd hf.2 (by simp)
    · exact e
theorem hear_first (id fr kind : Int) (many s : Nat) (hs : s < 4) (hne : (s : Int) ≠ id) : ∀ (L : List Pm) (h : Hd), h s = none → L.foldl (hear1 id fr kind many) h s = firstM fr kind many s L
  | [], h, e => e
  | x :: L, h, e => by
    rw [List.foldl_cons]
    unfold firstM
    rw [List.find?_cons]
    by_cases hf : fitsS fr kind many s x = true
    · rw [hf]
      have hf' := hf
      simp only [fitsS, Bool.and_eq_true, decide_eq_true_eq] at hf'
      obtain ⟨⟨⟨a, b⟩, c⟩, d⟩ := hf'
      have hn : x.f.toNat = s := by omega
      have hy : fitsM id fr kind many h x = true := fits_yes ⟨a, b, c, by omega, by omega, by omega, by rw [hn]; exact e⟩
      rw [hear_keeps id fr kind many s x.vs L _ (by unfold hear1; rw [if_pos hy]; unfold upd; rw [if_pos hn.symm])]
      rfl
    · rw [Bool.not_eq_true] at hf
      rw [hf]
      refine hear_first id fr kind many s hs hne L _ ?_
      unfold hear1
      split
      · rename_i hg
        simp only [fitsM, Bool.and_eq_true, decide_eq_true_eq, Option.isNone_iff_eq_none] at hg
        unfold upd
        rw [if_neg]
        · exact e
        · intro h2
          have h3 : fitsS fr kind many s x = true := by
            simp only [fitsS, Bool.and_eq_true, decide_eq_true_eq]
            exact ⟨⟨⟨hg.1.1.1.1.1.1, hg.1.1.1.1.1.2⟩, hg.1.1.1.1.2⟩, by omega⟩
          rw [hf] at h3; cases h3
      · exact e
theorem hear_self (id fr kind : Int) (many s : Nat) (hne : (s : Int) = id) : ∀ (L : List Pm) (h : Hd), h s = none → L.foldl (hear1 id fr kind many) h s = none
  | [], h, e => e
  | x :: L, h, e => by
    refine hear_self id fr kind many s hne L _ ?_
    unfold hear1
    split
    · rename_i hg
      simp only [fitsM, Bool.and_eq_true, decide_eq_true_eq, Option.isNone_iff_eq_none] at hg
      unfold upd
      rw [if_neg]
      · exact e
      · intro h2; have := hg.1.2; have := hg.1.1.2; have := hg.1.1.1.2; omega
    · exact e
theorem hearF_at (id fr kind : Int) (many s : Nat) (hs : s < 4) (L : List Pm) : hearF id fr kind many L s = if (s : Int) = id then none else firstM fr kind many s L := by
  split
  · rename_i h; exact hear_self id fr kind many s h L _ rfl
  · rename_i h; exact hear_first id fr kind many s hs h L _ rfl
theorem firstM_app (fr kind : Int) (many s : Nat) (L M : List Pm) : firstM fr kind many s (L ++ M) = (firstM fr kind many s L).or (firstM fr kind many s M) := by
  unfold firstM
  rw [List.find?_append]
  cases L.find? (fitsS fr kind many s) <;> rfl
theorem firstM_none (fr kind : Int) (many s : Nat) (L : List Pm) (h : ∀ x ∈ L, x.f ≠ (s : Int)) : firstM fr kind many s L = none := by
  unfold firstM
  rw [List.find?_eq_none.2]
  · rfl
  · intro x hx hf
    simp only [fitsS, Bool.and_eq_true, decide_eq_true_eq] at hf
    exact h x hx hf.2

/-! boxes -/
def boxF (bad : Int) (lie : List Pm) (m : Nat → Pm) (tt : Nat) : Nat → List Pm
  | 0 => []
  | i + 1 => boxF bad lie m tt i ++ (if (i : Int) = bad then lie else if i = tt then [] else [m i])
structure Ly where
  ph : Int
  tt : Int
  m : Option Pm
def lyM (bad : Int) (k tt : Nat) (l : Ly) : Option Pm := if l.ph = (k : Int) ∧ l.tt = (tt : Int) ∧ (tt : Int) ≠ bad then l.m.filter (fun x => decide (x.f = bad)) else none
def lieL (bad : Int) (k tt : Nat) (Ls : List Ly) : List Pm := Ls.filterMap (lyM bad k tt)
theorem lieL_from (bad : Int) (k tt : Nat) (Ls : List Ly) : ∀ x ∈ lieL bad k tt Ls, x.f = bad := by
  intro x hx
  unfold lieL at hx
  rw [List.mem_filterMap] at hx
  obtain ⟨l, _, hl⟩ := hx
  unfold lyM at hl
  split at hl
  · rw [Option.filter_eq_some_iff] at hl
    simpa using hl.2
  · cases hl
theorem first_box_good (fr kind : Int) (many s : Nat) (bad : Int) (lie : List Pm) (m : Nat → Pm) (tt : Nat) (hl : ∀ x ∈ lie, x.f = bad) (hm : ∀ i, (m i).f = (i : Int)) (hsb : (s : Int) ≠ bad) (hst : s ≠ tt) :
    ∀ i, firstM fr kind many s (boxF bad lie m tt i) = if s < i then firstM fr kind many s [m s] else none
  | 0 => by rw [if_neg (by omega)]; rfl
  | i + 1 => by
    rw [boxF, firstM_app, first_box_good fr kind many s bad lie m tt hl hm hsb hst i]
    by_cases e : i = s
    · subst e
      rw [if_neg hsb, if_neg hst, if_neg (Nat.lt_irrefl i), if_pos (Nat.lt_succ_self i)]
      rfl
    · have hz : firstM fr kind many s (if (i : Int) = bad then lie else if i = tt then [] else [m i]) = none := by
        refine firstM_none _ _ _ _ _ fun x hx => ?_
        split at hx
        · rw [hl x hx]; exact fun h => hsb h.symm
        · split at hx
          · cases hx
          · rw [List.mem_singleton] at hx
            subst hx
            rw [hm i]; omega
      rw [hz]
      by_cases c : s < i
      · rw [if_pos c, if_pos (by omega)]; simp
      · rw [if_neg c, if_neg (by omega)]; rfl
theorem first_box_bad (fr kind : Int) (many s : Nat) (bad : Int) (lie : List Pm) (m : Nat → Pm) (tt : Nat) (hm : ∀ i, (m i).f = (i : Int)) (hsb : (s : Int) = bad) :
    ∀ i, firstM fr kind many s (boxF bad lie m tt i) = if s < i then firstM fr kind many s lie else none
  | 0 => by rw [if_neg (by omega)]; rfl
  | i + 1 => by
    rw [boxF, firstM_app, first_box_bad fr kind many s bad lie m tt hm hsb i]
    by_cases e : i = s
    · subst e
      rw [if_pos hsb, if_neg (Nat.lt_irrefl i), if_pos (Nat.lt_succ_self i)]
      rfl
    · have hz : firstM fr kind many s (if (i : Int) = bad then lie else if i = tt then [] else [m i]) = none := by
        rw [if_neg (by omega)]
        refine firstM_none _ _ _ _ _ fun x hx => ?_
        split at hx
        · cases hx
        · rw [List.mem_singleton] at hx
          subst hx
          rw [hm i]; omega
      rw [hz]
      by_cases c : s < i
      · rw [if_pos c, if_pos (by omega)]; simp
      · rw [if_neg c, if_neg (by omega)]; rfl
theorem firstM_one (fr kind : Int) (many s : Nat) (x : Pm) (h : x.k = kind ∧ x.r = fr ∧ x.vs.length = many ∧ x.f = (s : Int)) : firstM fr kind many s [x] = some x.vs := by
  unfold firstM
  rw [List.find?_cons, show fitsS fr kind many s x = true by simp only [fitsS, Bool.and_eq_true, decide_eq_true_eq]; exact ⟨⟨⟨h.1, h.2.1⟩, h.2.2.1⟩, h.2.2.2⟩]
  rfl

/-! a frame -/
structure Fr where
  bad : Int
  fr : Int
  rd : Nat → Int
  Ls : List Ly
section
variable (x : Fr) (N : Nat → Nd)
def N1 (i : Nat) : Nd := if (i : Int) = x.bad then N i else senseN (N i) i x.fr (x.rd (i * 3)) (x.rd (i * 3 + 1)) (x.rd (i * 3 + 2))
def M1 (i : Nat) : Pm := ⟨1, i, x.fr, [x.rd (i * 3), x.rd (i * 3 + 1), x.rd (i * 3 + 2)]⟩
def B1 (tt : Nat) : List Pm := boxF x.bad (lieL x.bad 0 tt x.Ls) (M1 x) tt 4
def N2 (i : Nat) : Nd := if (i : Int) = x.bad then N i else relayN (N1 x N i) (B1 x i)
def M2 (i : Nat) : Pm := ⟨2, i, x.fr, dirL (N2 x N i).di 12⟩
def B2 (tt : Nat) : List Pm := boxF x.bad (lieL x.bad 1 tt x.Ls) (M2 x N) tt 4
def N3 (i : Nat) : Nd := if (i : Int) = x.bad then N i else decideN (N2 x N i) (B2 x N i) i
def M3 (i : Nat) : Pm := ⟨3, i, x.fr, [(N3 x N i).dg]⟩
def B3 (tt : Nat) : List Pm := boxF x.bad (lieL x.bad 2 tt x.Ls) (M3 x N) tt 4
def N4 (i : Nat) : Nd := if (i : Int) = x.bad then N i else passN (N3 x N i) (B3 x N i)
def M4 (i : Nat) : Pm := ⟨2, i, x.fr, heL (N4 x N i).he⟩
def B4 (tt : Nat) : List Pm := boxF x.bad (lieL x.bad 3 tt x.Ls) (M4 x N) tt 4
noncomputable def N5 (i : Nat) : Nd := if (i : Int) = x.bad then N i else judgeN (N4 x N i) (B4 x N i) i
noncomputable def M5 (i : Nat) : Pm := ⟨5, i, x.fr, packL (N5 x N i)⟩
noncomputable def B5 (tt : Nat) : List Pm := boxF x.bad (lieL x.bad 4 tt x.Ls) (M5 x N) tt 4
end

/-! told -/
def valH (h : Hd) (q k : Nat) : Int := match h q with | some l => l.getD k 0 | none => 0
theorem told_from (h : Hd) (k d b : Nat) (hd : d < 4) (hb : b < 4) (hdb : d ≠ b) :
    ∃ r1 r2, Ag.from_ b d 4 = [r1, r2] ∧ r1 < 4 ∧ r2 < 4 ∧ r1 ≠ d ∧ r2 ≠ d ∧ r1 ≠ b ∧ r2 ≠ b ∧ toldF h k d b 0 = valH h r1 k ∧ toldF h k d b 1 = valH h r2 k := by
  have key : ∀ (a0 a1 a2 a3 : Option (List Int)) (h : Hd), h 0 = a0 → h 1 = a1 → h 2 = a2 → h 3 = a3 → ∃ r1 r2, Ag.from_ b d 4 = [r1, r2] ∧ r1 < 4 ∧ r2 < 4 ∧ r1 ≠ d ∧ r2 ≠ d ∧ r1 ≠ b ∧ r2 ≠ b ∧ toldF h k d b 0 = valH h r1 k ∧ toldF h k d b 1 = valH h r2 k := by
    intro a0 a1 a2 a3 h h0 h1 h2 h3
    have hd' : d = 0 ∨ d = 1 ∨ d = 2 ∨ d = 3 := by omega
    have hb' : b = 0 ∨ b = 1 ∨ b = 2 ∨ b = 3 := by omega
    rcases hd' with rfl | rfl | rfl | rfl <;> rcases hb' with rfl | rfl | rfl | rfl <;> first
      | exact absurd rfl hdb
      | (refine ⟨_, _, rfl, by decide, by decide, by decide, by decide, by decide, by decide, ?_, ?_⟩ <;>
          (unfold toldF; simp only [outO, cntO, valH, h0, h1, h2, h3]; cases a0 <;> cases a1 <;> cases a2 <;> cases a3 <;> simp [upd]))
  exact key _ _ _ _ h rfl rfl rfl rfl
end Go.Proofs.YtofeoeknmlkjgaaGreat.Nk
end
section
/- Four computers: the good ones agree (plain). -/
set_option linter.unusedVariables false
namespace Go.Proofs.YtofeoeknmlkjgaaGreat.Nk
open Go.RowKit Go.Proofs.YtofeoeknmlkjgaaGreat Mb Fi Sm

theorem told_map {D : Nat → Int} {bad : Int} {f : Nat → Int} : ∀ {rs : List Nat}, (∀ r ∈ rs, ¬ (r : Int) = bad → f r = D r) → Ag.Told D bad rs (rs.map f)
  | [], _ => rfl
  | r :: rs, h => ⟨f r, rs.map f, rfl, h r (List.mem_cons_self ..), told_map fun q hq => h q (List.mem_cons_of_mem _ hq)⟩
theorem agree_gen {bad : Int} {s : Nat} (hs : s < 4) (value : Int) (D : Nat → Int) (V : Nat → Nat → Int) (O : Nat → Int)
    (hD : ∀ r : Nat, r < 4 → ¬ (r : Int) = bad → ¬ (s : Int) = bad → D r = value) (hV : ∀ q r : Nat, q < 4 → r < 4 → ¬ (q : Int) = bad → ¬ (r : Int) = bad → r ≠ q → V q r = D r)
    (hO : ∀ q : Nat, q < 4 → ¬ (q : Int) = bad → O q = if q = s then D s else Mj.maj [D q, ((Ag.from_ s q 4).map (V q)).getD 0 0, ((Ag.from_ s q 4).map (V q)).getD 1 0] 0) :
    (¬ (s : Int) = bad → ∀ q : Nat, q < 4 → ¬ (q : Int) = bad → O q = value) ∧ ∀ p q : Nat, p < 4 → q < 4 → ¬ (p : Int) = bad → ¬ (q : Int) = bad → O p = O q := by
  have hmem : ∀ q r : Nat, r ∈ Ag.from_ s q 4 → r < 4 ∧ r ≠ s ∧ r ≠ q := by
    intro q r hr
    unfold Ag.from_ at hr
    rw [List.mem_filter, List.mem_range] at hr
    simp only [Bool.and_eq_true, decide_eq_true_eq] at hr
    exact ⟨hr.1, hr.2⟩
  have key := Ag.agr_of (s := s) (value := if (s : Int) = bad then D s else value) (bad := bad) (D := fun r : Nat => if (r : Int) = bad then (if (s : Int) = bad then D s else value) else D r)
    (T := fun q => (Ag.from_ s q 4).map (fun r : Nat => if (q : Int) = bad then (if (r : Int) = bad then (if (s : Int) = bad then D s else value) else D r) else V q r))
    (O := fun q : Nat => if q = s then (if (s : Int) = bad then D s else value) else Mj.maj [(if (q : Int) = bad then (if (s : Int) = bad then D s else value) else D q), ((Ag.from_ s q 4).map (fun r : Nat => if (q : Int) = bad then (if (r : Int) = bad then (if (s : Int) = bad then D s else value) else D r) else V q r)).getD 0 0, ((Ag.from_ s q 4).map (fun r : Nat => if (q : Int) = bad then (if (r : Int) = bad then (if (s : Int) = bad then D s else value) else D r) else V q r)).getD 1 0] 0)
    hs
    (by
      intro r hr h
      by_cases hb : (r : Int) = bad
      · simp only [hb, if_true]
      · simp only [if_neg hb]
        rcases h with h | h
        · rw [if_neg h]; exact hD r hr hb h
        · subst h; rw [if_neg hb]; exact hD r hr hb hb)
    (by
      intro q hq hqs
      refine told_map fun r hr hrb => ?_
      obtain ⟨h1, h2, h3⟩ := hmem q r hr
      by_cases hqb : (q : Int) = bad
      · simp only [if_pos hqb, if_neg hrb]
      · simp only [if_neg hqb, if_neg hrb]
        exact hV q r hq h1 hqb hrb h3)
    (fun q hq => rfl)
  have he : ∀ q : Nat, q < 4 → ¬ (q : Int) = bad → O q = (if q = s then (if (s : Int) = bad then D s else value) else Mj.maj [(if (q : Int) = bad then (if (s : Int) = bad then D s else value) else D q), ((Ag.from_ s q 4).map (fun r : Nat => if (q : Int) = bad then (if (r : Int) = bad then (if (s : Int) = bad then D s else value) else D r) else V q r)).getD 0 0, ((Ag.from_ s q 4).map (fun r : Nat => if (q : Int) = bad then (if (r : Int) = bad then (if (s : Int) = bad then D s else value) else D r) else V q r)).getD 1 0] 0) := by
    intro q hq hb
    rw [hO q hq hb]
    by_cases e : q = s
    · subst e
      rw [if_pos rfl, if_pos rfl, if_neg hb]
      exact hD q hq hb hb
    · rw [if_neg e, if_neg e, if_neg hb]
      simp only [if_neg hb]
  refine ⟨fun hsb q hq hb => ?_, fun p q hp hq hpb hqb => ?_⟩
  · rw [he q hq hb]
    have := key.1 hsb q hq hb
    simp only [] at this
    rw [this, if_neg hsb]
  · rw [he p hp hpb, he q hq hqb]
    exact key.2 p q hp hq hpb hqb

section
variable {x : Fr} {N : Nat → Nd}
def Ids (x : Fr) (N : Nat → Nd) : Prop := ∀ p : Nat, p < 4 → ¬ (p : Int) = x.bad → (N p).id = (p : Int)
theorem N1_good {p : Nat} (hb : ¬ (p : Int) = x.bad) : N1 x N p = senseN (N p) p x.fr (x.rd (p * 3)) (x.rd (p * 3 + 1)) (x.rd (p * 3 + 2)) := if_neg hb
theorem N2_good {p : Nat} (hb : ¬ (p : Int) = x.bad) : N2 x N p = relayN (N1 x N p) (B1 x p) := if_neg hb
theorem N3_good {p : Nat} (hb : ¬ (p : Int) = x.bad) : N3 x N p = decideN (N2 x N p) (B2 x N p) p := if_neg hb
theorem N4_good {p : Nat} (hb : ¬ (p : Int) = x.bad) : N4 x N p = passN (N3 x N p) (B3 x N p) := if_neg hb
theorem N5_good {p : Nat} (hb : ¬ (p : Int) = x.bad) : N5 x N p = judgeN (N4 x N p) (B4 x N p) p := if_neg hb
theorem N2_id {p : Nat} (hb : ¬ (p : Int) = x.bad) : (N2 x N p).id = (N p).id ∧ (N2 x N p).fr = x.fr ∧ (N2 x N p).ax = (N p).ax ∧ (N2 x N p).ro = (N p).ro ∧ (N2 x N p).tu = (N p).tu ∧ (N2 x N p).he = fun _ => 0 := by
  rw [N2_good hb, N1_good hb]; exact ⟨rfl, rfl, rfl, rfl, rfl, rfl⟩
theorem N3_id {p : Nat} (hb : ¬ (p : Int) = x.bad) : (N3 x N p).id = (N p).id ∧ (N3 x N p).fr = x.fr ∧ (N3 x N p).ro = (N p).ro ∧ (N3 x N p).tu = (N p).tu := by
  obtain ⟨a, b, c, d, e, f⟩ := N2_id (x := x) (N := N) hb
  rw [N3_good hb]; exact ⟨a, b, d, e⟩
theorem N4_id {p : Nat} (hb : ¬ (p : Int) = x.bad) : (N4 x N p).id = (N p).id ∧ (N4 x N p).fr = x.fr ∧ (N4 x N p).ro = (N p).ro ∧ (N4 x N p).tu = (N p).tu := by
  obtain ⟨a, b, c, d⟩ := N3_id (x := x) (N := N) hb
  rw [N4_good hb]; exact ⟨a, b, c, d⟩
def dBad (x : Fr) (p s a : Nat) : Int := match firstM x.fr 1 3 s (lieL x.bad 0 p x.Ls) with | some l => l.getD a 0 | none => 0
theorem N2_di (hN : Ids x N) {p s a : Nat} (hp : p < 4) (hb : ¬ (p : Int) = x.bad) (hs : s < 4) (ha : a < 3) : (N2 x N p).di (s * 3 + a) = if (s : Int) = x.bad then dBad x p s a else x.rd (s * 3 + a) := by
  have e1 : (N1 x N p).id = (p : Int) := by rw [N1_good hb]; exact hN p hp hb
  have e2 : (N1 x N p).fr = x.fr := by rw [N1_good hb]; rfl
  rw [N2_good hb]
  show (if (s * 3 + a) / 3 < 4 then (match relayH (N1 x N p) (B1 x p) ((s * 3 + a) / 3) with | some l => l.getD ((s * 3 + a) % 3) 0 | none => (N1 x N p).di (s * 3 + a)) else (N1 x N p).di (s * 3 + a)) = _
  rw [show (s * 3 + a) / 3 = s by omega, show (s * 3 + a) % 3 = a by omega, if_pos hs]
  unfold relayH
  rw [hearF_at _ _ _ _ _ hs, e1, e2]
  have hdi : (N1 x N p).di (s * 3 + a) = if s = p then x.rd (s * 3 + a) else 0 := by
    rw [N1_good hb]
    show (if (s * 3 + a) / 3 = p then (if (s * 3 + a) % 3 = 0 then _ else if (s * 3 + a) % 3 = 1 then _ else _) else (0 : Int)) = _
    rw [show (s * 3 + a) / 3 = s by omega, show (s * 3 + a) % 3 = a by omega]
    by_cases e : s = p
    · subst e
      rw [if_pos rfl, if_pos rfl]
      have : a = 0 ∨ a = 1 ∨ a = 2 := by omega
      rcases this with rfl | rfl | rfl <;> rfl
    · rw [if_neg e, if_neg e]
  by_cases e : s = p
  · subst e
    rw [if_pos rfl, if_neg hb, hdi, if_pos rfl]
  · rw [if_neg (by omega)]
    by_cases hsb : (s : Int) = x.bad
    · rw [if_pos hsb]
      unfold B1 dBad
      rw [first_box_bad _ _ _ _ _ _ _ _ (fun i => rfl) hsb, if_pos hs]
      cases firstM x.fr 1 3 s (lieL x.bad 0 p x.Ls) with
      | none => show (N1 x N p).di (s * 3 + a) = 0; rw [hdi, if_neg e]
      | some l => rfl
    · rw [if_neg hsb]
      unfold B1
      rw [first_box_good _ _ _ _ _ _ _ _ (lieL_from _ _ _ _) (fun i => rfl) hsb e, if_pos hs, firstM_one x.fr 1 3 s (M1 x s) ⟨rfl, rfl, rfl, rfl⟩]
      have : a = 0 ∨ a = 1 ∨ a = 2 := by omega
      rcases this with rfl | rfl | rfl <;> rfl
theorem dirL_get (f : Nat → Int) {j m : Nat} (hj : j < m) : (dirL f m).getD j 0 = f j := by
  unfold dirL
  simp only [List.getD, List.getElem?_map, List.getElem?_range hj]
  rfl
theorem dirL_len (f : Nat → Int) (m : Nat) : (dirL f m).length = m := by unfold dirL; simp
theorem dec_told (hN : Ids x N) {p q : Nat} (hp : p < 4) (hb : ¬ (p : Int) = x.bad) (hq : q < 4) (hqb : ¬ (q : Int) = x.bad) (hne : q ≠ p) {j : Nat} (hj : j < 12) : valH (decH (N2 x N p) (B2 x N p)) q j = (N2 x N q).di j := by
  obtain ⟨e1, e2, _⟩ := N2_id (x := x) (N := N) hb
  unfold valH decH
  rw [hearF_at _ _ _ _ _ hq, e1, e2, hN p hp hb, if_neg (by omega)]
  unfold B2
  rw [first_box_good _ _ _ _ _ _ _ _ (lieL_from _ _ _ _) (fun i => rfl) hqb hne, if_pos hq, firstM_one x.fr 2 12 q (M2 x N q) ⟨rfl, rfl, dirL_len _ _, rfl⟩]
  exact dirL_get _ hj
theorem N3_ag (hN : Ids x N) {s a : Nat} (hs : s < 4) (ha : a < 3) :
    (¬ (s : Int) = x.bad → ∀ q : Nat, q < 4 → ¬ (q : Int) = x.bad → (N3 x N q).ag (s * 3 + a) = x.rd (s * 3 + a)) ∧ ∀ p q : Nat, p < 4 → q < 4 → ¬ (p : Int) = x.bad → ¬ (q : Int) = x.bad → (N3 x N p).ag (s * 3 + a) = (N3 x N q).ag (s * 3 + a) := by
  refine agree_gen hs (x.rd (s * 3 + a)) (fun r => (N2 x N r).di (s * 3 + a)) (fun q r => valH (decH (N2 x N q) (B2 x N q)) r (s * 3 + a)) (fun q => (N3 x N q).ag (s * 3 + a)) ?_ ?_ ?_
  · intro r hr hb hsb
    show (N2 x N r).di (s * 3 + a) = _
    rw [N2_di hN hr hb hs ha, if_neg hsb]
  · intro q r hq hr hqb hrb hne
    exact dec_told hN hq hqb hr hrb hne (by omega)
  · intro q hq hqb
    show (N3 x N q).ag (s * 3 + a) = _
    rw [N3_good hqb]
    show (if s * 3 + a < 12 then aF (N2 x N q) (decH (N2 x N q) (B2 x N q)) q (s * 3 + a) else (N2 x N q).ag (s * 3 + a)) = _
    rw [if_pos (by omega)]
    unfold aF
    rw [show (s * 3 + a) / 3 = s by omega]
    by_cases e : q = s
    · subst e; rw [if_pos rfl, if_pos rfl]
    · rw [if_neg (fun h => e h.symm), if_neg e]
      obtain ⟨r1, r2, hr, _, _, _, _, _, _, t1, t2⟩ := told_from (decH (N2 x N q) (B2 x N q)) (s * 3 + a) q s hq hs e
      rw [hr, t1, t2]
      rfl

/-! behind Decide -/
def Tw (n m : Nd) : Prop := n.ax = m.ax ∧ n.tu = m.tu ∧ n.ro = m.ro
theorem fuseL_same {n m : Nd} (h1 : m.ro = n.ro) {a : Nat} (h2 : ∀ s, s < 4 → m.ag (s * 3 + a) = n.ag (s * 3 + a)) : ∀ i, i ≤ 4 → fuseL m a i = fuseL n a i
  | 0, _ => rfl
  | i + 1, hi => by unfold fuseL; rw [fuseL_same h1 h2 i (by omega), h1, h2 i (by omega)]
theorem fuseF_same {n m : Nd} (h1 : m.ro = n.ro) {a : Nat} (h2 : ∀ s, s < 4 → m.ag (s * 3 + a) = n.ag (s * 3 + a)) : fuseF m a = fuseF n a := by
  unfold fuseF; rw [fuseL_same h1 h2 4 (Nat.le_refl _)]
theorem dgF_same {n m : Nd} (h1 : m.ax = n.ax) (h2 : m.ro = n.ro) : dgF m = dgF n := by
  have : packL m = packL n := by unfold packL; rw [h1, h2]
  unfold dgF; rw [this]
theorem N3_us {p a : Nat} (hb : ¬ (p : Int) = x.bad) (ha : a < 3) : (N3 x N p).us a = fuseF (N3 x N p) a := by
  rw [N3_good hb]
  show (if a < 3 then fuseF (agTo (N2 x N p) (decH (N2 x N p) (B2 x N p)) p 12) a else _) = _
  rw [if_pos ha]
  exact (fuseF_congr rfl rfl a).symm
theorem N3_ax {p : Nat} (hb : ¬ (p : Int) = x.bad) : (N3 x N p).ax = fun a => if a < 3 then stepS ((N p).ax a) (N p).tu ((N3 x N p).us a) else (N p).ax a := by
  obtain ⟨_, _, c, _, e, _⟩ := N2_id (x := x) (N := N) hb
  funext a
  by_cases ha : a < 3
  · rw [if_pos ha, N3_us hb ha]
    rw [N3_good hb]
    show (if a < 3 then stepS ((N2 x N p).ax a) (N2 x N p).tu (fuseF (agTo (N2 x N p) (decH (N2 x N p) (B2 x N p)) p 12) a) else (N2 x N p).ax a) = _
    rw [if_pos ha, c, e]
    exact congrArg _ (fuseF_congr rfl rfl a).symm
  · rw [if_neg ha]
    rw [N3_good hb]
    show (if a < 3 then stepS ((N2 x N p).ax a) (N2 x N p).tu (fuseF (agTo (N2 x N p) (decH (N2 x N p) (B2 x N p)) p 12) a) else (N2 x N p).ax a) = _
    rw [if_neg ha, c]
theorem N3_dg {p : Nat} (hb : ¬ (p : Int) = x.bad) : (N3 x N p).dg = dgF (N3 x N p) := by
  rw [N3_good hb]
  exact (dgF_same rfl rfl).symm
theorem N3_he {p : Nat} (hb : ¬ (p : Int) = x.bad) : (N3 x N p).he = upd (fun _ => 0) p (N3 x N p).dg := by
  obtain ⟨_, _, _, _, _, f⟩ := N2_id (x := x) (N := N) hb
  rw [N3_good hb]
  show upd (N2 x N p).he p _ = _
  rw [f]; rfl
theorem us_same (hN : Ids x N) {p q a : Nat} (hp : p < 4) (hq : q < 4) (hpb : ¬ (p : Int) = x.bad) (hqb : ¬ (q : Int) = x.bad) (ht : Tw (N p) (N q)) (ha : a < 3) : (N3 x N p).us a = (N3 x N q).us a := by
  rw [N3_us hpb ha, N3_us hqb ha]
  refine fuseF_same ?_ fun s hs => (N3_ag hN hs ha).2 p q hp hq hpb hqb
  rw [(N3_id hpb).2.2.1, (N3_id hqb).2.2.1, ht.2.2]
theorem N3_tw (hN : Ids x N) {p q : Nat} (hp : p < 4) (hq : q < 4) (hpb : ¬ (p : Int) = x.bad) (hqb : ¬ (q : Int) = x.bad) (ht : Tw (N p) (N q)) : Tw (N3 x N p) (N3 x N q) := by
  refine ⟨?_, ?_, ?_⟩
  · rw [N3_ax hpb, N3_ax hqb]
    funext a
    by_cases ha : a < 3
    · rw [if_pos ha, if_pos ha, ht.1, ht.2.1, us_same hN hp hq hpb hqb ht ha]
    · rw [if_neg ha, if_neg ha, ht.1]
  · rw [(N3_id hpb).2.2.2, (N3_id hqb).2.2.2, ht.2.1]
  · rw [(N3_id hpb).2.2.1, (N3_id hqb).2.2.1, ht.2.2]
theorem dg_same (hN : Ids x N) {p q : Nat} (hp : p < 4) (hq : q < 4) (hpb : ¬ (p : Int) = x.bad) (hqb : ¬ (q : Int) = x.bad) (ht : Tw (N p) (N q)) : (N3 x N p).dg = (N3 x N q).dg := by
  rw [N3_dg hpb, N3_dg hqb]
  exact dgF_same (N3_tw hN hp hq hpb hqb ht).1 (N3_tw hN hp hq hpb hqb ht).2.2

/-! behind Pass -/
def hBad (x : Fr) (p s : Nat) : Int := match firstM x.fr 3 1 s (lieL x.bad 2 p x.Ls) with | some l => l.getD 0 0 | none => 0
theorem N4_he (hN : Ids x N) {p s : Nat} (hp : p < 4) (hb : ¬ (p : Int) = x.bad) (hs : s < 4) : (N4 x N p).he s = if (s : Int) = x.bad then hBad x p s else (N3 x N s).dg := by
  obtain ⟨e1, e2, _⟩ := N3_id (x := x) (N := N) hb
  rw [N4_good hb]
  show (if s < 4 then (match passH (N3 x N p) (B3 x N p) s with | some l => l.getD 0 0 | none => (N3 x N p).he s) else (N3 x N p).he s) = _
  rw [if_pos hs, N3_he hb]
  unfold passH
  rw [hearF_at _ _ _ _ _ hs, e1, e2, hN p hp hb]
  by_cases e : s = p
  · subst e
    rw [if_pos rfl, if_neg hb]
    show upd _ s _ s = _
    rw [upd_same]
  · rw [if_neg (by omega)]
    unfold B3
    by_cases hsb : (s : Int) = x.bad
    · rw [if_pos hsb]
      unfold hBad
      rw [first_box_bad _ _ _ _ _ _ _ _ (fun i => rfl) hsb, if_pos hs]
      cases firstM x.fr 3 1 s (lieL x.bad 2 p x.Ls) with
      | none => show upd _ p _ s = _; rw [upd_far _ _ e]
      | some l => rfl
    · rw [if_neg hsb, first_box_good _ _ _ _ _ _ _ _ (lieL_from _ _ _ _) (fun i => rfl) hsb e, if_pos hs, firstM_one x.fr 3 1 s (M3 x N s) ⟨rfl, rfl, rfl, rfl⟩]
      rfl
theorem N4_keep {p : Nat} (hb : ¬ (p : Int) = x.bad) : (N4 x N p).ax = (N3 x N p).ax ∧ (N4 x N p).us = (N3 x N p).us ∧ (N4 x N p).dg = (N3 x N p).dg ∧ (N4 x N p).ag = (N3 x N p).ag := by
  rw [N4_good hb]; exact ⟨rfl, rfl, rfl, rfl⟩
theorem heL_get (f : Nat → Int) {s : Nat} (hs : s < 4) : (heL f).getD s 0 = f s := by
  have : s = 0 ∨ s = 1 ∨ s = 2 ∨ s = 3 := by omega
  rcases this with rfl | rfl | rfl | rfl <;> rfl

/-! behind Judge -/
def JV (x : Fr) (N : Nat → Nd) (p s : Nat) : Int := jF (N4 x N p) (judgeH (N4 x N p) (B4 x N p)) p s
theorem jud_told (hN : Ids x N) {p q : Nat} (hp : p < 4) (hb : ¬ (p : Int) = x.bad) (hq : q < 4) (hqb : ¬ (q : Int) = x.bad) (hne : q ≠ p) {s : Nat} (hs : s < 4) : valH (judgeH (N4 x N p) (B4 x N p)) q s = (N4 x N q).he s := by
  obtain ⟨e1, e2, _⟩ := N4_id (x := x) (N := N) hb
  unfold valH judgeH
  rw [hearF_at _ _ _ _ _ hq, e1, e2, hN p hp hb, if_neg (by omega)]
  unfold B4
  rw [first_box_good _ _ _ _ _ _ _ _ (lieL_from _ _ _ _) (fun i => rfl) hqb hne, if_pos hq, firstM_one x.fr 2 4 q (M4 x N q) ⟨rfl, rfl, rfl, rfl⟩]
  exact heL_get _ hs
theorem JV_agr (hN : Ids x N) {s : Nat} (hs : s < 4) :
    (¬ (s : Int) = x.bad → ∀ q : Nat, q < 4 → ¬ (q : Int) = x.bad → JV x N q s = (N3 x N s).dg) ∧ ∀ p q : Nat, p < 4 → q < 4 → ¬ (p : Int) = x.bad → ¬ (q : Int) = x.bad → JV x N p s = JV x N q s := by
  refine agree_gen hs (N3 x N s).dg (fun r => (N4 x N r).he s) (fun q r => valH (judgeH (N4 x N q) (B4 x N q)) r s) (fun q => JV x N q s) ?_ ?_ ?_
  · intro r hr hb hsb
    show (N4 x N r).he s = _
    rw [N4_he hN hr hb hs, if_neg hsb]
  · intro q r hq hr hqb hrb hne
    exact jud_told hN hq hqb hr hrb hne hs
  · intro q hq hqb
    show jF _ _ q s = _
    unfold jF
    by_cases e : q = s
    · subst e; rw [if_pos rfl, if_pos rfl]
    · rw [if_neg (fun h => e h.symm), if_neg e]
      obtain ⟨r1, r2, hr, _, _, _, _, _, _, t1, t2⟩ := told_from (judgeH (N4 x N q) (B4 x N q)) s q s hq hs e
      rw [hr, t1, t2]
      rfl
theorem masks (v : Nat → Int) (b : Nat → Bool) (g bad : Int) (hv : ∀ s : Nat, s < 4 → ¬ (s : Int) = bad → v s = g) (hb : ∀ s : Nat, s < 4 → ¬ (s : Int) = bad → b s = true) :
    Vt.val (Vt.VL (v 0) (v 1) (v 2) (v 3) (b 0) (b 1) (b 2) (b 3)) = g ∧ Vt.strong (Vt.VL (v 0) (v 1) (v 2) (v 3) (b 0) (b 1) (b 2) (b 3)) = true ∧ ∀ s, s < 4 → Vt.agree (Vt.VL (v 0) (v 1) (v 2) (v 3) (b 0) (b 1) (b 2) (b 3)) (v s) = (v s == g) := by
  have key : ∀ (j : Nat), j < 4 → (∀ s : Nat, s < 4 → s ≠ j → v s = g) → (∀ s : Nat, s < 4 → s ≠ j → b s = true) → Vt.val (Vt.VL (v 0) (v 1) (v 2) (v 3) (b 0) (b 1) (b 2) (b 3)) = g ∧ Vt.strong (Vt.VL (v 0) (v 1) (v 2) (v 3) (b 0) (b 1) (b 2) (b 3)) = true ∧ ∀ s, s < 4 → Vt.agree (Vt.VL (v 0) (v 1) (v 2) (v 3) (b 0) (b 1) (b 2) (b 3)) (v s) = (v s == g) := by
    intro j hj h1 h2
    have hj' : j = 0 ∨ j = 1 ∨ j = 2 ∨ j = 3 := by omega
    rcases hj' with rfl | rfl | rfl | rfl
    · rw [h1 1 (by omega) (by omega), h1 2 (by omega) (by omega), h1 3 (by omega) (by omega), h2 1 (by omega) (by omega), h2 2 (by omega) (by omega), h2 3 (by omega) (by omega)]
      generalize hl : v 0 = lie
      generalize b 0 = b0
      have hx : Vt.val (Vt.VL lie g g g b0 true true true) = g ∧ Vt.strong (Vt.VL lie g g g b0 true true true) = true ∧ Vt.agree (Vt.VL lie g g g b0 true true true) g = true ∧ Vt.agree (Vt.VL lie g g g b0 true true true) lie = (lie == g) := by
        by_cases h : lie = g
        · subst h
          cases b0 <;> simp [Vt.val, Vt.bst, Vt.cnt, Vt.VL, Vt.strong, Vt.best, Vt.agree, Vt.tot]
        · have h' : ¬ g = lie := fun e => h e.symm
          cases b0 <;> simp [Vt.val, Vt.bst, Vt.cnt, Vt.VL, Vt.strong, Vt.best, Vt.agree, Vt.tot, h, h']
      refine ⟨hx.1, hx.2.1, fun s hs => ?_⟩
      by_cases e : s = 0
      · subst e; rw [hl]; exact hx.2.2.2
      · rw [h1 s hs e]; simpa using hx.2.2.1
    · rw [h1 0 (by omega) (by omega), h1 2 (by omega) (by omega), h1 3 (by omega) (by omega), h2 0 (by omega) (by omega), h2 2 (by omega) (by omega), h2 3 (by omega) (by omega)]
      generalize hl : v 1 = lie
      generalize b 1 = b0
      have hx : Vt.val (Vt.VL g lie g g true b0 true true) = g ∧ Vt.strong (Vt.VL g lie g g true b0 true true) = true ∧ Vt.agree (Vt.VL g lie g g true b0 true true) g = true ∧ Vt.agree (Vt.VL g lie g g true b0 true true) lie = (lie == g) := by
        by_cases h : lie = g
        · subst h
          cases b0 <;> simp [Vt.val, Vt.bst, Vt.cnt, Vt.VL, Vt.strong, Vt.best, Vt.agree, Vt.tot]
        · have h' : ¬ g = lie := fun e => h e.symm
          cases b0 <;> simp [Vt.val, Vt.bst, Vt.cnt, Vt.VL, Vt.strong, Vt.best, Vt.agree, Vt.tot, h, h']
      refine ⟨hx.1, hx.2.1, fun s hs => ?_⟩
      by_cases e : s = 1
      · subst e; rw [hl]; exact hx.2.2.2
      · rw [h1 s hs e]; simpa using hx.2.2.1
    · rw [h1 0 (by omega) (by omega), h1 1 (by omega) (by omega), h1 3 (by omega) (by omega), h2 0 (by omega) (by omega), h2 1 (by omega) (by omega), h2 3 (by omega) (by omega)]
      generalize hl : v 2 = lie
      generalize b 2 = b0
      have hx : Vt.val (Vt.VL g g lie g true true b0 true) = g ∧ Vt.strong (Vt.VL g g lie g true true b0 true) = true ∧ Vt.agree (Vt.VL g g lie g true true b0 true) g = true ∧ Vt.agree (Vt.VL g g lie g true true b0 true) lie = (lie == g) := by
        by_cases h : lie = g
        · subst h
          cases b0 <;> simp [Vt.val, Vt.bst, Vt.cnt, Vt.VL, Vt.strong, Vt.best, Vt.agree, Vt.tot]
        · have h' : ¬ g = lie := fun e => h e.symm
          cases b0 <;> simp [Vt.val, Vt.bst, Vt.cnt, Vt.VL, Vt.strong, Vt.best, Vt.agree, Vt.tot, h, h']
      refine ⟨hx.1, hx.2.1, fun s hs => ?_⟩
      by_cases e : s = 2
      · subst e; rw [hl]; exact hx.2.2.2
      · rw [h1 s hs e]; simpa using hx.2.2.1
    · rw [h1 0 (by omega) (by omega), h1 1 (by omega) (by omega), h1 2 (by omega) (by omega), h2 0 (by omega) (by omega), h2 1 (by omega) (by omega), h2 2 (by omega) (by omega)]
      generalize hl : v 3 = lie
      generalize b 3 = b0
      have hx : Vt.val (Vt.VL g g g lie true true true b0) = g ∧ Vt.strong (Vt.VL g g g lie true true true b0) = true ∧ Vt.agree (Vt.VL g g g lie true true true b0) g = true ∧ Vt.agree (Vt.VL g g g lie true true true b0) lie = (lie == g) := by
        by_cases h : lie = g
        · subst h
          cases b0 <;> simp [Vt.val, Vt.bst, Vt.cnt, Vt.VL, Vt.strong, Vt.best, Vt.agree, Vt.tot]
        · have h' : ¬ g = lie := fun e => h e.symm
          cases b0 <;> simp [Vt.val, Vt.bst, Vt.cnt, Vt.VL, Vt.strong, Vt.best, Vt.agree, Vt.tot, h, h']
      refine ⟨hx.1, hx.2.1, fun s hs => ?_⟩
      by_cases e : s = 3
      · subst e; rw [hl]; exact hx.2.2.2
      · rw [h1 s hs e]; simpa using hx.2.2.1
  by_cases hj : ∃ j : Nat, j < 4 ∧ (j : Int) = bad
  · obtain ⟨j, hj, he⟩ := hj
    exact key j hj (fun s hs hn => hv s hs (by omega)) (fun s hs hn => hb s hs (by omega))
  · exact key 0 (by omega) (fun s hs _ => hv s hs fun e => hj ⟨s, hs, e⟩) (fun s hs _ => hb s hs fun e => hj ⟨s, hs, e⟩)
def Inn (bad : Int) (R : Rl) : Prop := Mb.Good R ∧ ∀ s : Nat, s < 4 → ¬ (s : Int) = bad → R.inn s = true ∧ R.miss s = 0
theorem stepTo_congr (R : Rl) (A B : Nat → Bool) : ∀ m, (∀ k, k < m → A k = B k) → stepTo R A m = stepTo R B m
  | 0, _ => rfl
  | m + 1, h => by unfold stepTo; rw [stepTo_congr R A B m (fun k hk => h k (by omega)), h m (by omega)]
theorem stays (R : Rl) (A : Nat → Bool) (q : Nat) (hA : A q = true) (hi : R.inn q = true) (hm : R.miss q = 0) :
    ∀ k, (stepTo R A k).1.inn q = true ∧ (stepTo R A k).1.miss q = 0
  | 0 => ⟨hi, hm⟩
  | k + 1 => by
    obtain ⟨h1, h2⟩ := stays R A q hA hi hm k
    unfold stepTo
    generalize (stepTo R A k).1 = P at *
    generalize (stepTo R A k).2 = l at *
    by_cases e : k = q
    · subst e
      rw [if_pos h1, hA]
      unfold stay1
      simp only [if_true, upd_same]
      exact ⟨h1, trivial⟩
    · have eq' : q ≠ k := fun h => e h.symm
      split
      · refine ⟨?_, ?_⟩
        · unfold stay1; split
          · exact h1
          · split
            · exact h1
            · simp only []; rw [upd_far _ _ eq']; exact h1
        · unfold stay1; split
          · simp only []; rw [upd_far _ _ eq']; exact h2
          · split <;> (simp only []; rw [upd_far _ _ eq']; exact h2)
      · refine ⟨?_, ?_⟩
        · unfold wait1; split
          · exact h1
          · split
            · exact h1
            · simp only []; rw [upd_far _ _ eq']; exact h1
        · unfold wait1; split
          · exact h2
          · split
            · exact h2
            · simp only []; rw [upd_far _ _ eq']; exact h2
theorem verd (hN : Ids x N) (hT : ∀ p q : Nat, p < 4 → q < 4 → ¬ (p : Int) = x.bad → ¬ (q : Int) = x.bad → Tw (N p) (N q)) {p : Nat} (hp : p < 4) (hb : ¬ (p : Int) = x.bad) (hI : Inn x.bad (N p).ro) :
    (N5 x N p).vv = (N5 x N p).dg ∧ (N5 x N p).vs = true ∧ (N5 x N p).dg = (N3 x N p).dg ∧ (N5 x N p).ro = (stepTo (N p).ro (fun s => JV x N p s == (N3 x N p).dg) 4).1 ∧ Inn x.bad (N5 x N p).ro := by
  have hm := masks (JV x N p) (N p).ro.inn (N3 x N p).dg x.bad
    (fun s hs hsb => ((JV_agr hN hs).1 hsb p hp hb).trans (dg_same hN hs hp hsb hb (hT s p hs hp hsb hb))) (fun s hs hsb => (hI.2 s hs hsb).1)
  have hjv : jV (N4 x N p) (judgeH (N4 x N p) (B4 x N p)) p = Vt.VL (JV x N p 0) (JV x N p 1) (JV x N p 2) (JV x N p 3) ((N p).ro.inn 0) ((N p).ro.inn 1) ((N p).ro.inn 2) ((N p).ro.inn 3) := by
    unfold jV; rw [(N4_id hb).2.2.1]; rfl
  have hro : (N5 x N p).ro = (stepTo (N p).ro (fun s => JV x N p s == (N3 x N p).dg) 4).1 := by
    rw [N5_good hb]
    unfold judgeN
    simp only []
    rw [(N4_id hb).2.2.1, if_pos hI.1]
    unfold stepAll
    rw [hjv, hm.2.1, if_pos rfl]
    rw [stepTo_congr _ (jA (N4 x N p) (judgeH (N4 x N p) (B4 x N p)) p) _ 4 fun k hk => ?_]
    show Vt.agree (jV _ _ p) (JV x N p k) = _
    rw [hjv]
    exact hm.2.2 k hk
  refine ⟨?_, ?_, ?_, hro, ?_, ?_⟩
  · rw [N5_good hb]
    show Vt.val (jV (N4 x N p) (judgeH (N4 x N p) (B4 x N p)) p) = (N4 x N p).dg
    rw [hjv, (N4_keep hb).2.2.1]
    exact hm.1
  · rw [N5_good hb]
    show Vt.strong (jV (N4 x N p) (judgeH (N4 x N p) (B4 x N p)) p) = true
    rw [hjv]
    exact hm.2.1
  · rw [N5_good hb]
    exact (N4_keep hb).2.2.1
  · rw [hro]
    exact step_good hI.1 4 (Nat.le_refl _)
  · intro s hs hsb
    rw [hro]
    refine stays _ _ s ?_ (hI.2 s hs hsb).1 (hI.2 s hs hsb).2 4
    rw [(JV_agr hN hs).1 hsb p hp hb, dg_same hN hs hp hsb hb (hT s p hs hp hsb hb)]
    simp
theorem N5_keep {p : Nat} (hb : ¬ (p : Int) = x.bad) : (N5 x N p).id = (N p).id ∧ (N5 x N p).fr = x.fr ∧ (N5 x N p).tu = (N p).tu ∧ (N5 x N p).ax = (N3 x N p).ax ∧ (N5 x N p).us = (N3 x N p).us ∧ (N5 x N p).ag = (N3 x N p).ag := by
  obtain ⟨a, b, c, d⟩ := N4_id (x := x) (N := N) hb
  obtain ⟨e, f, g, h⟩ := N4_keep (x := x) (N := N) hb
  rw [N5_good hb]
  exact ⟨a, b, d, e, f, h⟩
theorem N5_tw (hN : Ids x N) (hT : ∀ p q : Nat, p < 4 → q < 4 → ¬ (p : Int) = x.bad → ¬ (q : Int) = x.bad → Tw (N p) (N q)) {p q : Nat} (hp : p < 4) (hq : q < 4) (hpb : ¬ (p : Int) = x.bad) (hqb : ¬ (q : Int) = x.bad)
    (hIp : Inn x.bad (N p).ro) (hIq : Inn x.bad (N q).ro) : Tw (N5 x N p) (N5 x N q) := by
  obtain ⟨h1, h2, h3⟩ := N3_tw hN hp hq hpb hqb (hT p q hp hq hpb hqb)
  refine ⟨?_, ?_, ?_⟩
  · rw [(N5_keep hpb).2.2.2.1, (N5_keep hqb).2.2.2.1, h1]
  · rw [(N5_keep hpb).2.2.1, (N5_keep hqb).2.2.1]; exact (hT p q hp hq hpb hqb).2.1
  · rw [(verd hN hT hp hpb hIp).2.2.2.1, (verd hN hT hq hqb hIq).2.2.2.1, (hT p q hp hq hpb hqb).2.2]
    rw [stepTo_congr _ _ (fun s => JV x N q s == (N3 x N q).dg) 4 fun k hk => ?_]
    rw [(JV_agr hN hk).2 p q hp hq hpb hqb, dg_same hN hp hq hpb hqb (hT p q hp hq hpb hqb)]
end
end Go.Proofs.YtofeoeknmlkjgaaGreat.Nk
end
section
/- node.same: some truth value. -/
set_option linter.unusedVariables false
namespace Go.Proofs.YtofeoeknmlkjgaaGreat.Nk
open Go.RowKit Go.Proofs.YtofeoeknmlkjgaaGreat Mb Fi Sm

def SomeBool (w : World) (e : Ending) (w' : World) : Prop := (∃ b : Bool, e = .returned (.bool b)) ∧ Below w.heap.size w w'
def NSameRel (n : Nat) (w : World) (i : Value) (wr : World) : Prop := ∃ j : Nat, j ≤ n ∧ i = .int .i64 j ∧ Below w.heap.size w wr

set_option maxRecDepth 100000 in
set_option maxHeartbeats 1000000 in
theorem nsame_any (A B : Option Addr) (n c d : Nat) (xs ys : List Int) (w : World) (h : Ints w .i64 A n xs) (h2 : Ints w .i64 B n ys) (hn : n ≤ 140737488355328) :
    Calls Tryz.prog 71 #[.slice A n c, .slice B n d] w (SomeBool w) := by
  have H := Lib.hid h
  have H2 := Lib.hid h2
  clear h h2
  go_enter Tryz.func71, Tryz.ntmps71
  go_wp2_with fail
  go_loopw [8] (fun i wr => NSameRel n w i wr) (fun i _ => n - (intOf i).toNat)
  case atStart => exact ⟨0, by omega, rfl, Below.refl _ _⟩
  case round =>
    obtain ⟨j, hj, rfl, hb⟩ := hrel
    by_cases hjn : j < n
    · obtain ⟨b, off, rfl, hlt, hc⟩ := H.out.2 (by omega)
      obtain ⟨b2, off2, rfl, hlt2, hc2⟩ := H2.out.2 (by omega)
      have d0 := (hb.cell (p := ⟨b, off + j, none⟩) hlt).trans (hc j hjn)
      have d1 := (hb.cell (p := ⟨b2, off2 + j, none⟩) hlt2).trans (hc2 j hjn)
      clear hc hc2
      generalize xs.getD j 0 = z at *
      generalize ys.getD j 0 = z' at *
      have hz1 : (0 : Int) ≤ (j : Int) := by omega
      have hz2 : (j : Int) < (n : Int) := by omega
      have HB := Lib.hid hb
      clear hb
      cases t2 : (z != z') with
      | false =>
        go_wp2_with fail
        go_quiet (fail)
        go_wp2_with fail
        go_roundw
        case rel => exact ⟨j + 1, by omega, by go_num, HB.out.trans (below_drewN _ _ _)⟩
        case measure => simp [intOf]; omega
      | true =>
        go_wp2_with fail
        go_quiet (fail)
        go_wp2_with fail
        go_ret
        exact ⟨⟨false, rfl⟩, HB.out.trans (below_drewN _ _ _)⟩
    · obtain rfl : j = n := by omega
      go_wp2_with fail
      go_ret
      exact ⟨⟨true, rfl⟩, hb⟩
end Go.Proofs.YtofeoeknmlkjgaaGreat.Nk
end
