/- Merged: NodeLaw NodeSense NodeRelay NodePass NodeIn ScribI. -/
import Derived.Laws.CopyOwn
import Derived.Test.YtofeoeknmlkjgaaZ03
import Derived.Test.YtofeoeknmlkjgaaZ05
import Derived.Test.YtofeoeknmlkjgaaZ08
import Derived.Test.YtofeoeknmlkjgaaZ25
import Derived.Test.YtofeoeknmlkjgaaZ32
import Derived.Test.YtofeoeknmlkjgaaZ37
set_option linter.unusedVariables false
set_option linter.unusedSimpArgs false
section
/- Laws on a node in a block: stores of parts, the load of the whole in a region that draws its order. -/
set_option linter.unusedVariables false
namespace Go.Proofs.Ytofeoeknmlkjgaa.Nk
open Go.RowKit Go.Proofs.Ytofeoeknmlkjgaa Mb Fi Sm

theorem blk_setCells_AN {w : World} {g o m : Nat} {t : TypeId} {f : Nat → Value} {vs : List Value} (h : Blk w g t (AN m f)) : Blk (w.setCells g o vs) g t (AN m fun i => if o ≤ i ∧ i < o + vs.length then vs.getD (i - o) undef else f i) := by
  obtain ⟨cs', h1, h2, h3⟩ := blk_setCells_at vs o w _ h
  rw [AN_size] at h2 h3
  have e : cs' = AN m fun i => if o ≤ i ∧ i < o + vs.length then vs.getD (i - o) undef else f i := by
    apply Array.ext (by rw [h2, AN_size])
    intro i a b
    have h4 := h3 i (by omega)
    rw [Array.getElem?_eq_getElem a, AN_get (by omega)] at h4
    have h5 : (AN m fun i => if o ≤ i ∧ i < o + vs.length then vs.getD (i - o) undef else f i)[i]? = some (if o ≤ i ∧ i < o + vs.length then vs.getD (i - o) undef else f i) := AN_get (by omega)
    rw [Array.getElem?_eq_getElem b] at h5
    rw [Option.some.inj h5]
    split at h4
    · rename_i hc
      rw [if_pos hc]
      rw [List.getElem?_eq_getElem (by omega)] at h4
      rw [Option.some.inj h4]
      simp [List.getD, List.getElem?_eq_getElem (show i - o < vs.length by omega)]
    · rename_i hc
      rw [if_neg hc]
      exact Option.some.inj h4
  rw [e] at h1
  exact h1
theorem NB.setR {W : World} {g o : Nat} {n n' : Nd} {va va' : Value} {vs : List Value} (h : NB W g n va) (he : ∀ i, i < 74 → n'.c va' i = if o ≤ i ∧ i < o + vs.length then vs.getD (i - o) undef else n.c va i) : NB (W.setCells g o vs) g n' va' := by
  have := blk_setCells_AN (o := o) (vs := vs) h
  unfold NB NA
  rw [AN_congr he]
  exact this
theorem NB.thereR {W : World} {g o k : Nat} {n : Nd} {va : Value} (h : NB W g n va) (hk : o + k ≤ 74) : W.there g o k := fun j hj => by
  rw [h.at_ (by omega)]
  exact ⟨rfl, Blk.frozen h _⟩
theorem c_fr_out (n : Nd) (x : Int) (va : Value) (i : Nat) (h : i < 1 ∨ 2 ≤ i) : ({ n with fr := x } : Nd).c va i = n.c va i := by
  unfold Nd.c
  rcases h with h | h
  · simp only [if_pos h]
  · simp only [if_neg (show ¬ i < 2 by omega)]
theorem c_di_out (n : Nd) (x : Nat → Int) (va : Value) (i : Nat) (h : i < 39 ∨ 51 ≤ i) : ({ n with di := x } : Nd).c va i = n.c va i := by
  unfold Nd.c
  rcases h with h | h
  · simp only [if_pos h]
  · simp only [if_neg (show ¬ i < 51 by omega)]
theorem c_he_out (n : Nd) (x : Nat → Int) (va : Value) (i : Nat) (h : i < 51 ∨ 55 ≤ i) : ({ n with he := x } : Nd).c va i = n.c va i := by
  unfold Nd.c
  rcases h with h | h
  · simp only [if_pos h]
  · simp only [if_neg (show ¬ i < 55 by omega)]
theorem c_ag_out (n : Nd) (x : Nat → Int) (va : Value) (i : Nat) (h : i < 55 ∨ 67 ≤ i) : ({ n with ag := x } : Nd).c va i = n.c va i := by
  unfold Nd.c
  rcases h with h | h
  · simp only [if_pos h]
  · simp only [if_neg (show ¬ i < 67 by omega)]
theorem c_us_out (n : Nd) (x : Nat → Int) (va : Value) (i : Nat) (h : i < 67 ∨ 70 ≤ i) : ({ n with us := x } : Nd).c va i = n.c va i := by
  unfold Nd.c
  rcases h with h | h
  · simp only [if_pos h]
  · simp only [if_neg (show ¬ i < 70 by omega)]
theorem c_dg_out (n : Nd) (x : Int) (va : Value) (i : Nat) (h : i < 70 ∨ 71 ≤ i) : ({ n with dg := x } : Nd).c va i = n.c va i := by
  unfold Nd.c
  rcases h with h | h
  · simp only [if_pos h]
  · simp only [if_neg (show ¬ i < 71 by omega)]
theorem c_ax_out (n : Nd) (x : Nat → St) (va : Value) (i : Nat) (h : i < 6 ∨ 27 ≤ i) : ({ n with ax := x } : Nd).c va i = n.c va i := by
  unfold Nd.c
  rcases h with h | h
  · simp only [if_pos h]
  · simp only [if_neg (show ¬ i < 27 by omega)]
theorem c_ro_out (n : Nd) (x : Rl) (va : Value) (i : Nat) (h : i < 27 ∨ 39 ≤ i) : ({ n with ro := x } : Nd).c va i = n.c va i := by
  unfold Nd.c
  rcases h with h | h
  · simp only [if_pos h]
  · simp only [if_neg (show ¬ i < 39 by omega)]
theorem c_va_out (n : Nd) (va va' : Value) (i : Nat) (h : i < 73) : n.c va' i = n.c va i := by
  unfold Nd.c
  simp only [if_pos h]
theorem zeros_get (m k : Nat) (h : k < m) : (List.replicate m (Value.int .i64 0)).getD k undef = .int .i64 0 := by
  simp [List.getD, h]
theorem he_di0 (n : Nd) (va : Value) : ∀ i, i < 74 → ({ n with di := fun _ => 0 } : Nd).c va i = if 39 ≤ i ∧ i < 39 + (#[Value.int .i64 0, Value.int .i64 0, Value.int .i64 0, Value.int .i64 0, Value.int .i64 0, Value.int .i64 0, Value.int .i64 0, Value.int .i64 0, Value.int .i64 0, Value.int .i64 0, Value.int .i64 0, Value.int .i64 0] : Array Value).toList.length then (#[Value.int .i64 0, Value.int .i64 0, Value.int .i64 0, Value.int .i64 0, Value.int .i64 0, Value.int .i64 0, Value.int .i64 0, Value.int .i64 0, Value.int .i64 0, Value.int .i64 0, Value.int .i64 0, Value.int .i64 0] : Array Value).toList.getD (i - 39) undef else n.c va i := by
  intro i hi
  have e : (#[Value.int .i64 0, Value.int .i64 0, Value.int .i64 0, Value.int .i64 0, Value.int .i64 0, Value.int .i64 0, Value.int .i64 0, Value.int .i64 0, Value.int .i64 0, Value.int .i64 0, Value.int .i64 0, Value.int .i64 0] : Array Value).toList = List.replicate 12 (Value.int .i64 0) := rfl
  rw [e, List.length_replicate]
  by_cases h : 39 ≤ i ∧ i < 39 + 12
  · rw [if_pos h, zeros_get _ _ (by omega), c_di h.1 (by omega)]
  · rw [if_neg h]; exact c_di_out n _ va i (by omega)
theorem he_he0 (n : Nd) (va : Value) : ∀ i, i < 74 → ({ n with he := fun _ => 0 } : Nd).c va i = if 51 ≤ i ∧ i < 51 + (#[Value.int .i64 0, Value.int .i64 0, Value.int .i64 0, Value.int .i64 0] : Array Value).toList.length then (#[Value.int .i64 0, Value.int .i64 0, Value.int .i64 0, Value.int .i64 0] : Array Value).toList.getD (i - 51) undef else n.c va i := by
  intro i hi
  have e : (#[Value.int .i64 0, Value.int .i64 0, Value.int .i64 0, Value.int .i64 0] : Array Value).toList = List.replicate 4 (Value.int .i64 0) := rfl
  rw [e, List.length_replicate]
  by_cases h : 51 ≤ i ∧ i < 51 + 4
  · rw [if_pos h, zeros_get _ _ (by omega), c_he h.1 (by omega)]
  · rw [if_neg h]; exact c_he_out n _ va i (by omega)
theorem he_di3 (n : Nd) (va : Value) (d : Nat) (a b c : Int) (hd : d < 4) : ∀ i, i < 74 → ({ n with di := fun k => if k / 3 = d then (if k % 3 = 0 then a else if k % 3 = 1 then b else c) else n.di k } : Nd).c va i = if 39 + d * 3 ≤ i ∧ i < 39 + d * 3 + (#[Value.int .i64 a, Value.int .i64 b, Value.int .i64 c] : Array Value).toList.length then (#[Value.int .i64 a, Value.int .i64 b, Value.int .i64 c] : Array Value).toList.getD (i - (39 + d * 3)) undef else n.c va i := by
  intro i hi
  have el : (#[Value.int .i64 a, Value.int .i64 b, Value.int .i64 c] : Array Value).toList.length = 3 := rfl
  rw [el]
  by_cases h : 39 + d * 3 ≤ i ∧ i < 39 + d * 3 + 3
  · rw [if_pos h, c_di (by omega) (by omega)]
    simp only [if_pos (show (i - 39) / 3 = d by omega)]
    rcases (show i - (39 + d * 3) = 0 ∨ i - (39 + d * 3) = 1 ∨ i - (39 + d * 3) = 2 by omega) with e | e | e
    · rw [e, if_pos (by omega)]; rfl
    · rw [e, if_neg (by omega), if_pos (by omega)]; rfl
    · rw [e, if_neg (by omega), if_neg (by omega)]; rfl
  · rw [if_neg h]
    by_cases h2 : 39 ≤ i ∧ i < 51
    · rw [c_di h2.1 h2.2, c_di h2.1 h2.2]
      simp only [if_neg (show ¬ (i - 39) / 3 = d by omega)]
    · exact c_di_out n _ va i (by omega)
section
variable {P : Program} {w : World} {ops : Array Oper} {rest : List Oper} {o : Oper} {a : Act} {Q : Exit → Act → World → Prop}
theorem wpList_store_nb (ty : TypeId) (x y : Operand) (ho : o.op = .store ty x y) (hgd : o.guard = none)
    (g off : Nat) (cells : Array Value) (n n' : Nd) (va va' : Value) (hx : a.eval x = .pointer (some ⟨g, off, none⟩)) (hy : a.eval y = .agg cells)
    (hN : NB w g n va) (hoff : off + cells.size ≤ 74) (hi : (P.info? ty).map (·.size) = some cells.size) (h1 : cells.all (·.oneCell') = true)
    (he : ∀ i, i < 74 → n'.c va' i = if off ≤ i ∧ i < off + cells.toList.length then cells.toList.getD (i - off) undef else n.c va i)
    (h : ∀ w', NB w' g n' va' → w.grownBy w' (some g) → wpList P ops Q rest (a.put o.dst undef) w') : wpList P ops Q (o :: rest) a w :=
  wpList_store_mid hgd ty x y ho g off cells hx hy (hN.thereR hoff) hi h1 (h _ (hN.setR he) (grown_setCells _ _ _ _))
end
theorem exec_load_row {P : Program} {o : Oper} {ρ : Operand → Value} {w : World} (ty : TypeId) (x : Operand) (ho : o.op = .load ty x) (g : Nat) (hx : ρ x = .pointer (some ⟨g, 0, none⟩)) (t : TypeId) (cs : Array Value) (d : TypeDesc) (hb : Blk w g t cs)
    (hu : P.underlying ty = some d) (hd : (match d with | .struct _ | .array _ _ => true | _ => false) = true) (hi : (P.info? ty).map (·.size) = some cs.size) : (execOp ρ o).run P w = .ok (.value (.agg cs)) w := by
  unfold execOp
  simp only [ho, hx, Instr.loadAt, Instr.sureAddr, Sem.run_bind, Sem.run_pure, Result.andThen_ok, run_loadVar_row w g t ty cs (0, 0) d hb hu hd hi]
theorem wp_store_row {P : Program} {o : Oper} {a : Act} {w : World} {K : Act → World → Prop} {Q : Exit → Act → World → Prop} (ty : TypeId) (x y : Operand) (ho : o.op = .store ty x y) (g : Nat) (t : TypeId) (cs cells : Array Value) (hx : a.eval x = .pointer (some ⟨g, 0, none⟩)) (hy : a.eval y = .agg cells)
    (hb : Blk w g t cs) (hl : cells.size = cs.size) (hi : (P.info? ty).map (·.size) = some cells.size) (h1 : cells.all (·.oneCell') = true)
    (h : ∀ w', Blk w' g t cells → w.grownBy w' (some g) → K (a.put o.dst undef) w') : o.wp P a w K Q := by
  refine wp_store_mid ty x y ho g 0 cells hx hy (fun j hj => ?_) hi h1 (h _ (hb.over hl) (grown_setCells g _ _ _))
  rw [Nat.zero_add]
  refine ⟨?_, hb.frozen j⟩
  rw [hb.cell j, Array.getElem?_eq_getElem (by omega)]
  rfl
theorem setRow_blk {w : World} {g : Nat} {t : TypeId} {cs : Array Value} (h : Blk w g t cs) (cs' : Array Value) : Blk (w.setRow g cs') g t cs' := by
  show (w.heap.modify g _)[g]? = _
  rw [Array.getElem?_modify, if_pos rfl, show w.heap[g]? = some (.cells cs t (0, 0)) from h]
  rfl
def diC (f : Nat → Int) : List Value := [.int .i64 (f 0), .int .i64 (f 1), .int .i64 (f 2), .int .i64 (f 3), .int .i64 (f 4), .int .i64 (f 5), .int .i64 (f 6), .int .i64 (f 7), .int .i64 (f 8), .int .i64 (f 9), .int .i64 (f 10), .int .i64 (f 11)]
theorem diC_get (f : Nat → Int) (j : Nat) (hj : j < 12) : (diC f)[j]? = some (.int .i64 (f j)) := by
  have e : diC f = (List.range 12).map (fun j => Value.int .i64 (f j)) := rfl
  rw [e, List.getElem?_map, List.getElem?_range hj]; rfl
theorem NB.diR {W : World} {g : Nat} {n : Nd} {va : Value} (h : NB W g n va) : W.rangeAt g 39 (diC n.di) := by
  intro j v hj
  have hlt : j < 12 := (List.getElem?_eq_some_iff.1 hj).1
  rw [diC_get _ j hlt] at hj
  injection hj with hj
  rw [← hj, h.at_ (by omega), c_di (by omega) (by omega), show 39 + j - 39 = j by omega]
theorem info12 : (Try.prog.info? 40).map (·.size) = some 12 := by kernel_rfl
theorem ixD0 (f : Nat → Int) (w : World) : (Instr.index 40 (.agg (diC f).toArray) (.int .i64 0)).run Try.prog w = .ok (.agg #[.int .i64 (f 0), .int .i64 (f 1), .int .i64 (f 2)]) w := by kernel_rfl
theorem ixD1 (f : Nat → Int) (w : World) : (Instr.index 40 (.agg (diC f).toArray) (.int .i64 1)).run Try.prog w = .ok (.agg #[.int .i64 (f 3), .int .i64 (f 4), .int .i64 (f 5)]) w := by kernel_rfl
theorem ixD2 (f : Nat → Int) (w : World) : (Instr.index 40 (.agg (diC f).toArray) (.int .i64 2)).run Try.prog w = .ok (.agg #[.int .i64 (f 6), .int .i64 (f 7), .int .i64 (f 8)]) w := by kernel_rfl
theorem ixD3 (f : Nat → Int) (w : World) : (Instr.index 40 (.agg (diC f).toArray) (.int .i64 3)).run Try.prog w = .ok (.agg #[.int .i64 (f 9), .int .i64 (f 10), .int .i64 (f 11)]) w := by kernel_rfl
theorem ixD (f : Nat → Int) (k : Nat) (hk : k < 4) (w : World) : (Instr.index 40 (.agg (diC f).toArray) (.int .i64 (k : Int))).run Try.prog w = .ok (.agg #[.int .i64 (f (3 * k)), .int .i64 (f (3 * k + 1)), .int .i64 (f (3 * k + 2))]) w := by
  match k, hk with
  | 0, _ => exact ixD0 f w
  | 1, _ => exact ixD1 f w
  | 2, _ => exact ixD2 f w
  | 3, _ => exact ixD3 f w
theorem row_AN {m off : Nat} {f : Nat → Value} {cs : List Value} (h : off + cs.length ≤ m) : ((AN m f).toList.take off ++ (cs ++ (AN m f).toList.drop (off + cs.length))).toArray = AN m fun i => if off ≤ i ∧ i < off + cs.length then cs.getD (i - off) undef else f i := by
  have hl : (AN m f).toList.length = m := by rw [Array.length_toList, AN_size]
  apply Array.ext_getElem?
  intro i
  rw [List.getElem?_toArray]
  by_cases hi : i < m
  · rw [AN_get hi]
    rcases (show i < off ∨ (off ≤ i ∧ i < off + cs.length) ∨ off + cs.length ≤ i by omega) with c | c | c
    · rw [if_neg (by omega), List.getElem?_append_left (by rw [List.length_take]; omega), List.getElem?_take, if_pos c, Array.getElem?_toList, AN_get hi]
    · rw [if_pos c, List.getElem?_append_right (by rw [List.length_take]; omega), List.length_take, hl, Nat.min_eq_left (by omega), List.getElem?_append_left (by omega), List.getElem?_eq_getElem (by omega)]
      simp [List.getD, List.getElem?_eq_getElem (show i - off < cs.length by omega)]
    · rw [if_neg (by omega), List.getElem?_append_right (by rw [List.length_take]; omega), List.length_take, hl, Nat.min_eq_left (by omega), List.getElem?_append_right (by omega), List.getElem?_drop, Array.getElem?_toList, show off + cs.length + (i - off - cs.length) = i by omega, AN_get hi]
  · rw [Array.getElem?_eq_none (by rw [AN_size]; omega), List.getElem?_eq_none]
    simp only [List.length_append, List.length_take, List.length_drop, hl]
    omega
section
variable {w : World} {ops : Array Oper} {rest : List Oper} {o : Oper} {a : Act} {Q : Exit → Act → World → Prop} {P : Program}
theorem wpList_copy_nb (d s : Operand) (dT sT : TypeId) (ho : o.op = .call { callee := .builtin .copy, args := #[d, s], argTypes := #[dT, sT] }) (hgd : o.guard = none) (elem : TypeId) (hu : P.underlying dT = some (.slice elem)) (hsz : (P.info? elem).map (·.size) = some 1)
    (g off dLen dCap : Nat) (ad : Addr) (sLen sCap : Nat) (hd : a.eval d = .slice (some ⟨g, off, none⟩) dLen dCap) (hs : a.eval s = .slice (some ad) sLen sCap)
    (n n' : Nd) (va va' : Value) (hN : NB w g n va) (cs : List Value) (hn : cs.length = Nat.min sLen dLen)
    (hsrc : ∀ (j : Nat) (v : Value), cs[j]? = some v → w.cell? (ad.add j) = some v) (hfit : off + cs.length ≤ 74) (h1 : ∀ v ∈ cs, v.oneCell' = true)
    (he : ∀ i, i < 74 → n'.c va' i = if off ≤ i ∧ i < off + cs.length then cs.getD (i - off) undef else n.c va i)
    (h : ∀ w', NB w' g n' va' → w.grownBy w' (some g) → wpList P ops Q rest (a.put o.dst (goInt cs.length)) w') : wpList P ops Q (o :: rest) a w := by
  refine wpList_copy_own hgd d s dT sT ho elem hu hsz g off dLen dCap ad sLen sCap hd hs (NA n va) _ hN cs hn hsrc (by rw [NA_size]; exact hfit) h1 (h _ ?_ ?_)
  · unfold NB NA
    rw [row_AN hfit, AN_congr (fun i hi => (he i hi).symm)]
    exact setRow_blk hN _
  · exact ⟨rfl, rfl, rfl, by simp [World.setRow], fun k hk hne => setRow_other w g k _ (fun e => hne (by rw [e]))⟩
end
theorem results_two {P : Program} {fn : Func} {p q : Tmp} {ty ty' : TypeId} (h : fn.results = #[.cell p ty, .cell q ty']) (tmps : Array Value) (w : World) (g g' : Nat) (t t' : TypeId) (cs cs' : Array Value) (d d' : TypeDesc)
    (hp : tmps.getD p undef = .pointer (some ⟨g, 0, none⟩)) (hq : tmps.getD q undef = .pointer (some ⟨g', 0, none⟩)) (hg : Blk w g t cs) (hg' : Blk w g' t' cs')
    (hu : P.underlying ty = some d) (hd : (match d with | .struct _ | .array _ _ => true | _ => false) = true) (hi : (P.info? ty).map (·.size) = some cs.size)
    (hu' : P.underlying ty' = some d') (hd' : (match d' with | .struct _ | .array _ _ => true | _ => false) = true) (hi' : (P.info? ty').map (·.size) = some cs'.size) :
    (results fn tmps).run P w = .ok (.tuple #[.agg cs, .agg cs']) w := by
  have hp' : tmps[p]?.getD undef = .pointer (some ⟨g, 0, none⟩) := by simpa using hp
  have hq' : tmps[q]?.getD undef = .pointer (some ⟨g', 0, none⟩) := by simpa using hq
  simp [results, h, hp', hq', asAddr, run_loadVar_row w g t ty cs (0, 0) d hg hu hd hi, run_loadVar_row w g' t' ty' cs' (0, 0) d' hg' hu' hd' hi']
end Go.Proofs.Ytofeoeknmlkjgaa.Nk
end
section
/- node.Sense. -/
set_option linter.unusedVariables false
namespace Go.Proofs.Ytofeoeknmlkjgaa.Nk
open Go.RowKit Go.Proofs.Ytofeoeknmlkjgaa Mb Fi Sm

def senseN (n : Nd) (d : Nat) (fr r0 r1 r2 : Int) : Nd := { n with fr := fr, di := fun k => if k / 3 = d then (if k % 3 = 0 then r0 else if k % 3 = 1 then r1 else r2) else 0, he := fun _ => 0 }
def OwnI (w : World) (base : Nat) (A : Option Addr) (m c : Nat) (vs : List Int) : Prop := Ints w .i64 A m vs ∧ (A = none → m = 0 ∧ c = 0) ∧ m ≤ c ∧ ∀ ad, A = some ad → ad.spot = none ∧ base ≤ ad.block ∧ ad.block < w.heap.size ∧ w.there ad.block ad.off m ∧ (c = m ∨ (ad.off = 0 ∧ ∃ cur, Blk w ad.block 3 cur ∧ c = cur.size ∧ c ≤ maxLen)) ∧ ∃ t cur, Blk w ad.block t cur ∧ t ≠ 4
def PhPost (n' : Nd) (bs : List Value) (k f r : Int) (vs : List Int) (w : World) (e : Ending) (w' : World) : Prop :=
  ∃ A' c' Am cm, e = .returned (.tuple #[.agg (NA n' (.slice A' bs.length c')), .agg #[.int .i64 k, .int .i64 f, .int .i64 r, .slice Am vs.length cm]]) ∧
    w'.ownsRow w.heap.size 4 1 (.slice A' bs.length c') bs.length bs ∧ OwnI w' w.heap.size Am vs.length cm vs ∧ Below w.heap.size w w'

set_option maxRecDepth 100000 in
set_option maxHeartbeats 4000000 in
theorem Sense_any (n : Nd) (A : Option Addr) (m c : Nat) (bs : List Value) (fr r0 r1 r2 : Int) (d : Nat) (hd : n.id = (d : Int)) (hd4 : d < 4) (w : World) (hb : VR w 1 A m c bs) (h1 : ∀ u ∈ bs, u.oneCell' = true) (hm : m ≤ 140737488355328) :
    Calls Try.prog 52 #[.agg (NA n (.slice A m c)), .int .i64 fr, .agg #[.int .i64 r0, .int .i64 r1, .int .i64 r2]] w (PhPost (senseN n d fr r0 r1 r2) bs 1 d fr [r0, r1, r2] w) := by
  obtain rfl : m = bs.length := by have := hb.1; omega
  have HVB := Lib.hid hb
  have H1 := Lib.hid h1
  have HD := Lib.hid hd
  clear hb h1 hd
  go_enter Try.func52, Try.ntmps52
  go_upto_region 1 with fail
  have hN : NB ((((w.alloc (.cells (NA n (.slice A bs.length c)) 45)).alloc (.cells #[.int .i64 r0, .int .i64 r1, .int .i64 r2] 39)).alloc (.cells Try.zeroCells45 45)).alloc (.cells #[.int .i64 0, .int .i64 0, .int .i64 0, .slice none 0 0] 64)) w.heap.size n (.slice A bs.length c) := (((Blk.new _ _ _).alloc _).alloc _).alloc _
  have hR : Blk ((((w.alloc (.cells (NA n (.slice A bs.length c)) 45)).alloc (.cells #[.int .i64 r0, .int .i64 r1, .int .i64 r2] 39)).alloc (.cells Try.zeroCells45 45)).alloc (.cells #[.int .i64 0, .int .i64 0, .int .i64 0, .slice none 0 0] 64)) (w.heap.size + 1) 39 #[.int .i64 r0, .int .i64 r1, .int .i64 r2] := ((Blk.at_ _ _ _ _ (by simp)).alloc _).alloc _
  have hZ : Blk ((((w.alloc (.cells (NA n (.slice A bs.length c)) 45)).alloc (.cells #[.int .i64 r0, .int .i64 r1, .int .i64 r2] 39)).alloc (.cells Try.zeroCells45 45)).alloc (.cells #[.int .i64 0, .int .i64 0, .int .i64 0, .slice none 0 0] 64)) (w.heap.size + 1 + 1) 45 Try.zeroCells45 := (Blk.at_ _ _ _ _ (by simp)).alloc _
  have hM : Blk ((((w.alloc (.cells (NA n (.slice A bs.length c)) 45)).alloc (.cells #[.int .i64 r0, .int .i64 r1, .int .i64 r2] 39)).alloc (.cells Try.zeroCells45 45)).alloc (.cells #[.int .i64 0, .int .i64 0, .int .i64 0, .slice none 0 0] 64)) (w.heap.size + 1 + 1 + 1) 64 #[.int .i64 0, .int .i64 0, .int .i64 0, .slice none 0 0] := Blk.at_ _ _ _ _ (by simp)
  have hB : Below w.heap.size w ((((w.alloc (.cells (NA n (.slice A bs.length c)) 45)).alloc (.cells #[.int .i64 r0, .int .i64 r1, .int .i64 r2] 39)).alloc (.cells Try.zeroCells45 45)).alloc (.cells #[.int .i64 0, .int .i64 0, .int .i64 0, .slice none 0 0] 64)) := ((((Below.refl _ _).alloc (Nat.le_refl _) _).alloc (by simp) _).alloc (by simp; omega) _).alloc (by simp; omega) _
  have hzs : (Try.zeroCells45).size = 74 := by kernel_rfl
  generalize Try.zeroCells45 = zc at *
  generalize (((w.alloc (.cells (NA n (.slice A bs.length c)) 45)).alloc (.cells #[.int .i64 r0, .int .i64 r1, .int .i64 r2] 39)).alloc (.cells zc 45)).alloc (.cells #[.int .i64 0, .int .i64 0, .int .i64 0, .slice none 0 0] 64) = W0 at *
  have hg : w.heap.size + 1 + 1 + 1 < W0.heap.size := hM.lt
  have HZS := Lib.hid hzs
  have HN := Lib.hid hN
  have HR := Lib.hid hR
  have HZ := Lib.hid hZ
  have HM := Lib.hid hM
  have HB := Lib.hid hB
  have KC := Lib.hid (copied_any n A bs.length c bs W0 (HVB.out.next hB) H1.out hm)
  unfold CopyPost at KC
  clear hN hR hZ hM hB hzs
  go_upto_region 4 with (first
    | (refine wpList_load_at 45 (.tmp 3) rfl rfl w.heap.size rfl _ (NA n (.slice A bs.length c)) _ HN.out Try.underlying45 rfl (by rw [NA_size]; exact infoNode) ?_)
    | (go_at_call 35; (with_reducible refine KC.out.mono ?_); rintro e w1 ⟨A', c', rfl, hO1, hB1⟩; have HN1 := Lib.hid (NB.next HN.out hB1); have HR1 := Lib.hid (HR.out.next hB1); have HZ1 := Lib.hid (HZ.out.next hB1); have HM1 := Lib.hid (HM.out.next hB1); have HB1 := Lib.hid (HB.out.trans (hB1.mono HB.out.size)); have HO1 := Lib.hid hO1; clear hO1 hB1)
    | (refine wpList_store_at 45 (.tmp 3) (.tmp 9) rfl rfl w.heap.size _ _ (NA n (.slice A' bs.length c')) rfl rfl HN1.out (by rw [NA_size, NA_size]) (by rw [NA_size]; exact infoNode) (NA_one _ _ _ _) ?_; intro w2 hN2 hg2; have HN2 := Lib.hid hN2; have HG2 := Lib.hid hg2; clear hN2 hg2)
    | (refine wpList_load_at 45 (.tmp 3) rfl rfl w.heap.size rfl _ (NA n (.slice A' bs.length c')) _ HN2.out Try.underlying45 rfl (by rw [NA_size]; exact infoNode) ?_)
    | (go_at_call 36; (with_reducible refine (strange_no n (.slice A' bs.length c') w2 (by rw [HD.out]; omega) (by rw [HD.out]; omega)).mono ?_); rintro e w3 ⟨rfl, hb3⟩; have HN3 := Lib.hid (NB.next HN2.out hb3); have HB3 := Lib.hid hb3; clear hb3))
  have c1 := NB.fr HN3.out
  have f1 := Blk.frozen HN3.out 1
  have HN4 := Lib.hid (NB.set (n' := { n with fr := fr }) HN3.out (k := 1) (u := .int .i64 fr) (fun i hi => by
    by_cases e : i = 1
    · subst e; rfl
    · rw [if_neg e]; exact c_fr_out n fr _ i (by omega)))
  go_upto_region 5 with fail
  clear c1 f1
  have qd : (0 : Int) ≤ (d : Int) := by omega
  have qd4 : (d : Int) < 4 := by omega
  have hB4 : Below w.heap.size w (w3.setCell ⟨w.heap.size, 1, none⟩ (.int .i64 fr)) := (((HB1.out.grown HG2.out HB1.out.size (fun j hj => by cases hj; exact Nat.le_refl _)).trans (HB3.out.mono (by have := HG2.out.size; have := HB1.out.size; omega)))).setCell (p := ⟨w.heap.size, 1, none⟩) (Nat.le_refl _) _
  have hx : ∀ (q : Nat) (t : TypeId) (cs : Array Value), q ≠ w.heap.size → Blk w1 q t cs → Blk (w3.setCell ⟨w.heap.size, 1, none⟩ (.int .i64 fr)) q t cs := fun q t cs hq h => ((h.grown HG2.out (by intro e; exact hq (Option.some.inj e))).next HB3.out).grown (grown_set _ _ _ _) (by intro e; exact hq (Option.some.inj e))
  have hR4 := hx _ _ _ (by omega) HR1.out
  have hZ4 := hx _ _ _ (by omega) HZ1.out
  have hM4 := hx _ _ _ (by omega) HM1.out
  have hO4 : (w3.setCell ⟨w.heap.size, 1, none⟩ (.int .i64 fr)).ownsRow W0.heap.size 4 1 (.slice A' bs.length c') bs.length bs :=
    own_kept_t (own_below (own_kept_t HO1.out HG2.out HN1.out (by decide)) HB3.out (fun x hx => ((own_kept_t HO1.out HG2.out HN1.out (by decide)).lt x hx).2)) (grown_set _ _ _ _) HN3.out (by decide)
  generalize w3.setCell ⟨w.heap.size, 1, none⟩ (.int .i64 fr) = W4 at *
  have HR4 := Lib.hid hR4
  have HZ4 := Lib.hid hZ4
  have HM4 := Lib.hid hM4
  have HO4 := Lib.hid hO4
  have HB4 := Lib.hid hB4
  clear hR4 hZ4 hM4 hO4 hB4 hx HN HR HZ HM HB KC HN1 HR1 HZ1 HM1 HB1 HO1 HN2 HG2 HN3 HB3
  have k0 := HR4.out.cell 0
  have k1 := HR4.out.cell 1
  have k2 := HR4.out.cell 2
  (simp only [List.getElem?_toArray, List.getElem?_cons_zero, List.getElem?_cons_succ] at k0 k1 k2)
  go_upto_region 7 with (first
    | (refine wpList_store_nb 40 (.tmp 17) (.tmp 16) rfl rfl w.heap.size 39 #[Value.int .i64 0, Value.int .i64 0, Value.int .i64 0, Value.int .i64 0, Value.int .i64 0, Value.int .i64 0, Value.int .i64 0, Value.int .i64 0, Value.int .i64 0, Value.int .i64 0, Value.int .i64 0, Value.int .i64 0] { n with fr := fr } { n with fr := fr, di := fun _ => 0 } _ _ rfl rfl HN4.out (by decide) (by kernel_rfl) (by kernel_rfl) (he_di0 { n with fr := fr } (.slice A' bs.length c')) ?_; intro w5 hN5 hg5; have HN5 := Lib.hid hN5; have HG5 := Lib.hid hg5; clear hN5 hg5)
    | (refine wpList_store_nb 36 (.tmp 19) (.tmp 18) rfl rfl w.heap.size 51 #[Value.int .i64 0, Value.int .i64 0, Value.int .i64 0, Value.int .i64 0] { n with fr := fr, di := fun _ => 0 } { n with fr := fr, di := fun _ => 0, he := fun _ => 0 } _ _ rfl rfl HN5.out (by decide) (by kernel_rfl) (by kernel_rfl) (he_he0 { n with fr := fr, di := fun _ => 0 } (.slice A' bs.length c')) ?_; intro w6 hN6 hg6; have HN6 := Lib.hid hN6; have HG6 := Lib.hid hg6; clear hN6 hg6))
  have g34 : w.heap.size + 1 ≠ w.heap.size := by omega
  have hR6 := (HR4.out.grown HG5.out (by intro e; exact g34 (Option.some.inj e))).grown HG6.out (by intro e; exact g34 (Option.some.inj e))
  have HR6 := Lib.hid hR6
  have c0 : w6.cell? ⟨w.heap.size, 0, none⟩ = some (.int .i64 d) := by rw [← HD.out]; exact HN6.out.id
  clear k0 k1 k2 hR6
  go_upto_region 8 with (first
    | (refine wpList_load_at 39 (.tmp 5) rfl rfl (w.heap.size + 1) rfl _ #[.int .i64 r0, .int .i64 r1, .int .i64 r2] _ HR6.out Try.underlying39 rfl (by kernel_rfl) ?_)
    | (refine wpList_store_nb 39 (.tmp 24) (.tmp 22) rfl rfl w.heap.size (39 + d * 3) #[.int .i64 r0, .int .i64 r1, .int .i64 r2] { n with fr := fr, di := fun _ => 0, he := fun _ => 0 } (senseN n d fr r0 r1 r2) _ _ rfl rfl HN6.out (by simp; omega) (by kernel_rfl) (by simp [Value.oneCell']) (he_di3 { n with fr := fr, di := fun _ => 0, he := fun _ => 0 } (.slice A' bs.length c') d r0 r1 r2 hd4) ?_; intro w7 hN7 hg7; have HN7 := Lib.hid hN7; have HG7 := Lib.hid hg7; clear hN7 hg7))
  have g36 : w.heap.size + 1 + 1 ≠ w.heap.size := by omega
  have g37 : w.heap.size + 1 + 1 + 1 ≠ w.heap.size := by omega
  have hx : ∀ (q : Nat) (t : TypeId) (cs : Array Value), q ≠ w.heap.size → Blk W4 q t cs → Blk w7 q t cs := fun q t cs hq h => ((h.grown HG5.out (by intro e; exact hq (Option.some.inj e))).grown HG6.out (by intro e; exact hq (Option.some.inj e))).grown HG7.out (by intro e; exact hq (Option.some.inj e))
  have HR7 := Lib.hid (hx _ _ _ g34 HR4.out)
  have HZ7 := Lib.hid (hx _ _ _ g36 HZ4.out)
  have HM7 := Lib.hid (hx _ _ _ g37 HM4.out)
  have HO7 := Lib.hid (own_kept_t (own_kept_t (own_kept_t HO4.out HG5.out HN4.out (by decide)) HG6.out HN5.out (by decide)) HG7.out HN6.out (by decide))
  have HB7 := Lib.hid (((HB4.out.grown HG5.out HB4.out.size (fun j hj => by cases hj; exact Nat.le_refl _)).grown HG6.out (by have := HB4.out.size; have := HG5.out.size; omega) (fun j hj => by cases hj; exact Nat.le_refl _)).grown HG7.out (by have := HB4.out.size; have := HG5.out.size; have := HG6.out.size; omega) (fun j hj => by cases hj; exact Nat.le_refl _))
  clear hx HR4 HZ4 HM4 HO4 HN4 HN5 HN6 HG5 HG6 HG7 HR6 HB4 c0
  have hid : (senseN n d fr r0 r1 r2).id = (d : Int) := HD.out
  have hfr : (senseN n d fr r0 r1 r2).fr = fr := rfl
  have KS := Lib.hid (fun W => say_any (senseN n d fr r0 r1 r2) (.slice A' bs.length c') 1 (some ⟨w.heap.size + 1, 0, none⟩) 3 3 W)
  rw [hid, hfr] at KS
  have SK := Lib.hid (fun W (h : Below w7.heap.size w7 W) => NB.next HN7.out h)
  unfold NB at SK
  clear hid hfr
  generalize hn7 : senseN n d fr r0 r1 r2 = n7 at *
  have HN7' := Lib.hid hn7
  clear hn7
  try simp only [pts]
  refine wp_region_F 5 (fun w' => Blk w' w.heap.size 45 (NA n7 (.slice A' bs.length c'))) (by kernel_rfl) (SK.out _ (Below.refl _ _).drew) (fun hS => ?_)
  refine wpF 0 (.agg (NA n7 (.slice A' bs.length c'))) rfl (by kernel_rfl) (fun _ _ _ h => h) (Or.inl ⟨by rfl, fun wx hSw => exec_load_row 45 (.tmp 3) rfl w.heap.size rfl _ (NA n7 (.slice A' bs.length c')) _ hSw Try.underlying45 rfl (by rw [NA_size]; exact infoNode)⟩) hS ?_
  try simp only [pts]
  refine wpF 1 (.agg (NA n7 (.slice A' bs.length c'))) rfl (by kernel_rfl) (fun _ _ _ h => h) (Or.inl ⟨by rfl, fun wx hSw => exec_load_row 45 (.tmp 3) rfl w.heap.size rfl _ (NA n7 (.slice A' bs.length c')) _ hSw Try.underlying45 rfl (by rw [NA_size]; exact infoNode)⟩) hS ?_
  try simp only [pts]
  refine wpF 2 ?_ rfl (by kernel_rfl) (fun _ _ _ h => h) (Or.inl ⟨by rfl, fun wx hSw => ?_⟩) hS ?_
  rotate_left
  · (try dsimp only at hSw); go_simp; (try with_reducible rfl)
  try simp only [pts]
  refine wpAnyF_one (i := 3) rfl (by kernel_rfl) (fun K hK => ?_)
  go_simp
  (with_reducible refine (KS.out _).mono ?_)
  rintro e w8 ⟨rfl, hb8⟩
  have hb8' : Below w7.heap.size w7 w8 := ((Below.refl _ _).drew).trans (hb8.mono (Nat.le_refl _))
  clear hS
  have hS := SK.out _ hb8'
  have HB8 := Lib.hid hb8'
  clear hb8 hb8'
  refine hK.out _ _ hS ?_
  clear hK K
  try simp only [pts]
  refine wpAnyF_one (i := 4) rfl (by kernel_rfl) (fun K hK => ?_)
  rw [if_pos (by rfl)]
  refine wp_store_row 45 (.tmp 6) (.tmp 25) rfl (w.heap.size + 1 + 1) _ zc (NA n7 (.slice A' bs.length c')) rfl rfl (HZ7.out.next HB8.out) (by rw [NA_size, HZS.out]) (by rw [NA_size]; exact infoNode) (NA_one _ _ _ _) (fun w9 hN9 hg9 => ?_)
  have hS9 := hS.grown hg9 (by intro e; exact g36 (Option.some.inj e).symm)
  refine hK.out _ _ hS9 ?_
  clear hK K hS
  try simp only [pts]
  refine wpAnyF_last rfl (by kernel_rfl) (by kernel_rfl) (fun K hK => ?_)
  rw [if_pos (by rfl)]
  refine wp_store_row 64 (.tmp 7) (.tmp 28) rfl (w.heap.size + 1 + 1 + 1) _ _ #[.int .i64 1, .int .i64 d, .int .i64 fr, .slice (some ⟨w.heap.size + 1, 0, none⟩) 3 3] rfl rfl ((HM7.out.next HB8.out).grown hg9 (by intro e; have := Option.some.inj e; omega)) rfl (by kernel_rfl) (by simp [Value.oneCell']) (fun w10 hM10 hg10 => ?_)
  refine hK.out _ _ ?_
  clear hK K
  try simp only [pts]
  go_wp2_with fail
  have hN10 := hN9.grown hg10 (by intro e; have := Option.some.inj e; omega)
  refine bodyPost_ret (results_two Try.results52 _ _ (w.heap.size + 1 + 1) (w.heap.size + 1 + 1 + 1) _ _ _ _ _ _ rfl rfl hN10 hM10 Try.underlying45 rfl (by rw [NA_size]; exact infoNode) Try.underlying64 rfl (by kernel_rfl)) rfl ?_
  have hzz := HZ7.out.next HB8.out
  have hmm := (HM7.out.next HB8.out).grown hg9 (by intro e; have := Option.some.inj e; omega)
  have ho8 := own_below HO7.out HB8.out (fun x hx => (HO7.out.lt x hx).2)
  have ho10 := own_kept_t (own_kept_t ho8 hg9 hzz (by decide)) hg10 hmm (by decide)
  have hr10 := ((HR7.out.next HB8.out).grown hg9 (by intro e; have := Option.some.inj e; omega)).grown hg10 (by intro e; have := Option.some.inj e; omega)
  have s7 := HB7.out.size
  have s8 := HB8.out.size
  have b8 := HB7.out.trans (HB8.out.mono s7)
  have b9 := b8.grown hg9 b8.size (fun j hj => by cases hj; omega)
  have b10 := b9.grown hg10 b9.size (fun j hj => by cases hj; omega)
  rw [← HN7'.out]
  exact ⟨A', c', some ⟨w.heap.size + 1, 0, none⟩, 3, rfl, own_le ho10 (by omega), ⟨ints_blk (zs := [r0, r1, r2]) hr10, (fun e => by cases e), Nat.le_refl _, fun ad e => by
    cases e
    refine ⟨rfl, by show _ ≤ w.heap.size + 1; omega, hr10.lt, fun j hj => ?_, .inl rfl, _, _, hr10, by decide⟩
    rw [Nat.zero_add, hr10.cell j]
    have hj3 : j < 3 := hj
    exact ⟨by rw [Array.getElem?_eq_getElem (by simpa using hj3)]; rfl, hr10.frozen j⟩⟩, b10⟩
theorem OwnI.grown {w w' : World} {B q m c : Nat} {A : Option Addr} {vs : List Int} (h : OwnI w B A m c vs) (hg : w.grownBy w' (some q)) (hne : ∀ ad, A = some ad → ad.block ≠ q) : OwnI w' B A m c vs := by
  obtain ⟨h1, h2, h3, h4⟩ := h
  refine ⟨⟨h1.1, fun hn => ?_⟩, h2, h3, fun ad e => ?_⟩
  · obtain ⟨b, off, e, hlt, hc⟩ := h1.2 hn
    refine ⟨b, off, e, Nat.lt_of_lt_of_le hlt hg.size, fun j hj => ?_⟩
    rw [← hc j hj]
    exact World.cell?_of_block (hg.block b hlt (by intro e2; exact hne _ e (Option.some.inj e2)))
  · obtain ⟨k1, k2, k3, k4, k5, t6, cur6, k6, k7⟩ := h4 ad e
    have hb := hg.block ad.block k3 (by intro e2; exact hne _ e (Option.some.inj e2))
    refine ⟨k1, k2, Nat.lt_of_lt_of_le k3 hg.size, fun j hj => ?_, k5.imp id fun ⟨a, cur, hbl, r⟩ => ⟨a, cur, Blk.grown hbl hg (by intro e2; exact hne _ e (Option.some.inj e2)), r⟩, t6, cur6, Blk.grown k6 hg (by intro e2; exact hne _ e (Option.some.inj e2)), k7⟩
    rw [World.cell?_of_block (a := ⟨ad.block, ad.off + j, none⟩) hb, World.frozen?_of_block (a := ⟨ad.block, ad.off + j, none⟩) hb]
    exact k4 j hj
theorem OwnI.next {w w' : World} {B m c : Nat} {A : Option Addr} {vs : List Int} (h : OwnI w B A m c vs) (hb : Below w.heap.size w w') : OwnI w' B A m c vs :=
  h.grown (q := w.heap.size) (grown_below hb) (fun ad e => by have := (h.2.2.2 ad e).2.2.1; omega)
theorem OwnI.down {w : World} {B B' m c : Nat} {A : Option Addr} {vs : List Int} (h : OwnI w B A m c vs) (hb : B' ≤ B) : OwnI w B' A m c vs :=
  ⟨h.1, h.2.1, h.2.2.1, fun ad e => by obtain ⟨k1, k2, k3, k4⟩ := h.2.2.2 ad e; exact ⟨k1, Nat.le_trans hb k2, k3, k4⟩⟩
theorem ph_end {w w7 w8 w9 w10 : World} {n7 : Nd} {A' Am : Option Addr} {c' cm b0 g1 g2 : Nat} {bs : List Value} {k f r : Int} {vs : List Int} {zc ms : Array Value} (hg1 : w.heap.size ≤ g1) (hg2 : w.heap.size ≤ g2) (h12 : g2 ≠ g1)
    (hZ : Blk w7 g1 45 zc) (hM : Blk w7 g2 64 ms) (hO : w7.ownsRow b0 4 1 (.slice A' bs.length c') bs.length bs) (hb0 : w.heap.size ≤ b0) (hB : Below w.heap.size w w7) (hb8 : Below w7.heap.size w7 w8)
    (hg9 : w8.grownBy w9 (some g1)) (hg10 : w9.grownBy w10 (some g2)) (hI : OwnI w8 w.heap.size Am vs.length cm vs) (hne : ∀ ad, Am = some ad → ad.block ≠ g1 ∧ ad.block ≠ g2) :
    PhPost n7 bs k f r vs w (.returned (.tuple #[.agg (NA n7 (.slice A' bs.length c')), .agg #[.int .i64 k, .int .i64 f, .int .i64 r, .slice Am vs.length cm]])) w10 := by
  have hzz := hZ.next hb8
  have hmm := (hM.next hb8).grown hg9 (by intro e; exact h12 (Option.some.inj e))
  have ho8 := own_below hO hb8 (fun x hx => (hO.lt x hx).2)
  have ho10 := own_kept_t (own_kept_t ho8 hg9 hzz (by decide)) hg10 hmm (by decide)
  have s7 := hB.size
  have b8 := hB.trans (hb8.mono s7)
  have b9 := b8.grown hg9 b8.size (fun j hj => by cases hj; exact hg1)
  have b10 := b9.grown hg10 b9.size (fun j hj => by cases hj; exact hg2)
  exact ⟨A', c', Am, cm, rfl, own_le ho10 hb0, (hI.grown hg9 (fun ad e => (hne ad e).1)).grown hg10 (fun ad e => (hne ad e).2), b10⟩
end Go.Proofs.Ytofeoeknmlkjgaa.Nk
end
section
/- node.Relay. -/
set_option linter.unusedVariables false
namespace Go.Proofs.Ytofeoeknmlkjgaa.Nk
open Go.RowKit Go.Proofs.Ytofeoeknmlkjgaa Mb Fi Sm

def relTo (n : Nd) (h : Hd) (i : Nat) : Nd := { n with di := fun k => if k / 3 < i then (match h (k / 3) with | some l => l.getD (k % 3) 0 | none => n.di k) else n.di k }
def relayH (n : Nd) (Ms : List Pm) : Hd := hearF n.id n.fr 1 3 Ms
def relayN (n : Nd) (Ms : List Pm) : Nd := relTo n (relayH n Ms) 4
def dirL (f : Nat → Int) (k : Nat) : List Int := (List.range k).map f
theorem relTo_zero (n : Nd) (h : Hd) : relTo n h 0 = n := by unfold relTo; simp
theorem relTo_none (n : Nd) (h : Hd) (i : Nat) (hh : h i = none) : relTo n h (i + 1) = relTo n h i := by
  unfold relTo
  congr 1
  funext k
  rcases Nat.lt_trichotomy (k / 3) i with c | c | c
  · rw [if_pos (by omega), if_pos c]
  · rw [if_pos (by omega), if_neg (by omega), c, hh]
  · rw [if_neg (by omega), if_neg (by omega)]
theorem relTo_some (n : Nd) (h : Hd) (i : Nat) (l : List Int) (hi : i < 4) (hh : h i = some l) (hl : l.length = 3) (va : Value) : ∀ j, j < 74 → (relTo n h (i + 1)).c va j = if 39 + i * 3 ≤ j ∧ j < 39 + i * 3 + (l.map (Value.int .i64)).length then (l.map (Value.int .i64)).getD (j - (39 + i * 3)) undef else (relTo n h i).c va j := by
  intro j hj
  rw [List.length_map, hl]
  by_cases c : 39 + i * 3 ≤ j ∧ j < 39 + i * 3 + 3
  · rw [if_pos c, c_di (by omega) (by omega)]
    unfold relTo
    simp only
    have e1 : (j - 39) / 3 = i := by omega
    have e2 : (j - 39) % 3 = j - (39 + i * 3) := by omega
    rw [e1, e2, if_pos (by omega), hh]
    have hlt : j - (39 + i * 3) < l.length := by omega
    simp [List.getD, List.getElem?_eq_getElem hlt]
  · rw [if_neg c]
    by_cases c2 : 39 ≤ j ∧ j < 51
    · rw [c_di c2.1 c2.2, c_di c2.1 c2.2]
      unfold relTo
      simp only
      rcases Nat.lt_trichotomy ((j - 39) / 3) i with c3 | c3 | c3
      · rw [if_pos (by omega), if_pos c3]
      · omega
      · rw [if_neg (by omega), if_neg (by omega)]
    · unfold relTo
      exact (c_di_out n _ va j (by omega)).trans (c_di_out n _ va j (by omega)).symm

def RlRel (w w4 : World) (n : Nd) (va : Value) (h : Hd) (iv : Value) (wr : World) : Prop :=
  ∃ i : Nat, iv = .int .i64 i ∧ i ≤ 4 ∧ NB wr w.heap.size (relTo n h i) va ∧ w4.grownBy wr (some w.heap.size)

def dirS (f : Nat → Int) : Nat → List Int
  | 0 => []
  | i + 1 => dirS f i ++ [f (3 * i), f (3 * i + 1), f (3 * i + 2)]
def RvRel (w6 : World) (f : Nat → Int) (lv iv : Value) (wr : World) : Prop :=
  ∃ (i : Nat) (v : Value), iv = .int .i64 i ∧ i ≤ 4 ∧ lv = v ∧ wr.ownsRow w6.heap.size 3 1 v (3 * i) ((dirS f i).map (Value.int .i64)) ∧ Below w6.heap.size w6 wr
theorem own_n3 {w : World} {b i : Nat} {e : TypeId} {v : Value} {xs : List Value} (h : w.ownsRow b e 1 v (3 * i + 3) xs) : w.ownsRow b e 1 v (3 * (i + 1)) xs := by rw [Nat.mul_add]; exact h
theorem own_ownI {w : World} {base m c : Nat} {A : Option Addr} {vs : List Int} (h : w.ownsRow base 3 1 (.slice A m c) m (vs.map (Value.int .i64))) : OwnI w base A m c vs := by
  have hv := VR.own h
  refine ⟨Bs_ints_own h, hv.2.1, ?_, fun ad e => ?_⟩
  · rcases h.2 with ⟨h1, h2⟩ | ⟨g, cap, cur, h1, hb, hh, hc, _⟩
    · omega
    · injection h1 with _ _ h3; omega
  · subst e
    rcases h.2 with ⟨h1, h2⟩ | ⟨g, cap, cur, h1, hb, hh, hc, hm, hs, ht⟩
    · cases h1
    · injection h1 with h1 _ h3
      injection h1 with h1
      subst h1 h3
      refine ⟨rfl, hb, (Array.getElem?_eq_some_iff.1 hh).1, fun j hj => ?_, .inr ⟨rfl, cur, hh, by omega, hm⟩, _, cur, hh, by decide⟩
      have hB : Blk w g _ cur := hh
      rw [Nat.zero_add, hB.cell j, Array.getElem?_eq_getElem (by omega)]
      exact ⟨rfl, hB.frozen j⟩

set_option maxRecDepth 100000 in
set_option maxHeartbeats 8000000 in
theorem Relay_any (n : Nd) (A : Option Addr) (m c : Nat) (bs : List Value) (Am : Option Addr) (mm cm : Nat) (Ms : List Mg) (h0 : 0 ≤ n.id) (h4 : n.id < 4) (w : World) (hb : VR w 1 A m c bs) (h1 : ∀ u ∈ bs, u.oneCell' = true) (hm : m ≤ 140737488355328) (hM : MR w Am mm cm Ms) (hmm : mm ≤ 17592186044416) :
    Calls Try.prog 17 #[.agg (NA n (.slice A m c)), .slice Am mm cm] w (PhPost (relayN n (Ms.map Mg.pm)) bs 2 n.id n.fr (dirL (relayN n (Ms.map Mg.pm)).di 12) w) := by
  obtain rfl : m = bs.length := by have := hb.1; omega
  have HVB := Lib.hid hb
  have H1 := Lib.hid h1
  have HMR := Lib.hid hM
  clear hb h1 hM
  --PRE Relay 11 4
  go_enter Try.func17, Try.ntmps17
  go_upto_region 1 with fail
  have hN : NB (((w.alloc (.cells (NA n (.slice A bs.length c)) 45)).alloc (.cells Try.zeroCells45 45)).alloc (.cells #[.int .i64 0, .int .i64 0, .int .i64 0, .slice none 0 0] 64)) w.heap.size n (.slice A bs.length c) := ((Blk.new _ _ _).alloc _).alloc _
  have hZ : Blk (((w.alloc (.cells (NA n (.slice A bs.length c)) 45)).alloc (.cells Try.zeroCells45 45)).alloc (.cells #[.int .i64 0, .int .i64 0, .int .i64 0, .slice none 0 0] 64)) (w.heap.size + 1) 45 Try.zeroCells45 := (Blk.at_ _ _ _ _ (by simp)).alloc _
  have hM : Blk (((w.alloc (.cells (NA n (.slice A bs.length c)) 45)).alloc (.cells Try.zeroCells45 45)).alloc (.cells #[.int .i64 0, .int .i64 0, .int .i64 0, .slice none 0 0] 64)) (w.heap.size + 1 + 1) 64 #[.int .i64 0, .int .i64 0, .int .i64 0, .slice none 0 0] := Blk.at_ _ _ _ _ (by simp)
  have hB : Below w.heap.size w (((w.alloc (.cells (NA n (.slice A bs.length c)) 45)).alloc (.cells Try.zeroCells45 45)).alloc (.cells #[.int .i64 0, .int .i64 0, .int .i64 0, .slice none 0 0] 64)) := (((Below.refl _ _).alloc (Nat.le_refl _) _).alloc (by simp) _).alloc (by simp; omega) _
  have hzs : (Try.zeroCells45).size = 74 := by kernel_rfl
  generalize Try.zeroCells45 = zc at *
  generalize ((w.alloc (.cells (NA n (.slice A bs.length c)) 45)).alloc (.cells zc 45)).alloc (.cells #[.int .i64 0, .int .i64 0, .int .i64 0, .slice none 0 0] 64) = W0 at *
  have hW0 : w.heap.size + 1 + 1 < W0.heap.size := hM.lt
  have HZS := Lib.hid hzs
  have HN := Lib.hid hN
  have HZ := Lib.hid hZ
  have HM := Lib.hid hM
  have HB := Lib.hid hB
  have KC := Lib.hid (copied_any n A bs.length c bs W0 (HVB.out.next hB) H1.out hm)
  unfold CopyPost at KC
  clear hN hZ hM hB hzs
  go_upto_region 4 with (first
    | (refine wpList_load_at 45 (.tmp 2) rfl rfl w.heap.size rfl _ (NA n (.slice A bs.length c)) _ HN.out Try.underlying45 rfl (by rw [NA_size]; exact infoNode) ?_)
    | (go_at_call 35; (with_reducible refine KC.out.mono ?_); rintro e w1 ⟨A', c', rfl, hO1, hB1⟩; have hw1 : W0.heap.size ≤ w1.heap.size := hB1.size; have HN1 := Lib.hid (NB.next HN.out hB1); have HZ1 := Lib.hid (HZ.out.next hB1); have HM1 := Lib.hid (HM.out.next hB1); have HB1 := Lib.hid (HB.out.trans (hB1.mono HB.out.size)); have HO1 := Lib.hid hO1; clear hO1 hB1)
    | (refine wpList_store_at 45 (.tmp 2) (.tmp 12) rfl rfl w.heap.size _ _ (NA n (.slice A' bs.length c')) rfl rfl HN1.out (by rw [NA_size, NA_size]) (by rw [NA_size]; exact infoNode) (NA_one _ _ _ _) ?_; intro w2 hN2 hg2; have HN2 := Lib.hid hN2; have HG2 := Lib.hid hg2; clear hN2 hg2)
    | (refine wpList_load_at 45 (.tmp 2) rfl rfl w.heap.size rfl _ (NA n (.slice A' bs.length c')) _ HN2.out Try.underlying45 rfl (by rw [NA_size]; exact infoNode) ?_)
    | (go_at_call 36; (with_reducible refine (strange_no n (.slice A' bs.length c') w2 h0 h4).mono ?_); rintro e w3 ⟨rfl, hb3⟩; have HN3 := Lib.hid (NB.next HN2.out hb3); have HBs := Lib.hid hb3; clear hb3))
  have HZ3 := Lib.hid ((HZ1.out.grown HG2.out (by intro e; have := Option.some.inj e; omega)).next HBs.out)
  have HM3 := Lib.hid ((HM1.out.grown HG2.out (by intro e; have := Option.some.inj e; omega)).next HBs.out)
  have HO3 := Lib.hid (own_below (own_kept_t HO1.out HG2.out HN1.out (by decide)) HBs.out (fun x hx => ((own_kept_t HO1.out HG2.out HN1.out (by decide)).lt x hx).2))
  have HB3 := Lib.hid ((HB1.out.grown HG2.out HB1.out.size (fun j hj => by cases hj; exact Nat.le_refl _)).trans (HBs.out.mono (by have := HG2.out.size; have := HB1.out.size; omega)))
  have hw3 : W0.heap.size ≤ w3.heap.size := by have := HG2.out.size; have := HBs.out.size; omega
  clear HN HZ HM HB KC HN1 HZ1 HM1 HB1 HO1 HN2 HG2 HBs
  --END
  have HMR3 := Lib.hid (HMR.out.next HB3.out)
  have KH := Lib.hid (hear_any n (.slice A' bs.length c') Am mm cm Ms 1 3 3 rfl (by decide) (by decide) h0 h4 w3 HMR3.out hmm)
  unfold HearPost at KH
  go_wp2_with (first
    | (refine wpList_load_at 45 (.tmp 2) rfl rfl w.heap.size rfl _ (NA n (.slice A' bs.length c')) _ HN3.out Try.underlying45 rfl (by rw [NA_size]; exact infoNode) ?_)
    | (go_at_call 37; (with_reducible refine KH.out.mono ?_); rintro e w4 ⟨sv, rfl, hS4, hb4⟩; have HN4 := Lib.hid (NB.next HN3.out hb4); have HSL := Lib.hid hS4; have HB34 := Lib.hid hb4; clear hS4 hb4))
  obtain ⟨va7, hva⟩ : ∃ v, v = Value.slice A' bs.length c' := ⟨_, rfl⟩
  have HVA := Lib.hid hva
  have HO4 := Lib.hid (own_below HO3.out HB34.out (fun x hx => (HO3.out.lt x hx).2))
  have HZ4 := Lib.hid (HZ3.out.next HB34.out)
  have HM4 := Lib.hid (HM3.out.next HB34.out)
  have HB4 := Lib.hid (HB3.out.trans (HB34.out.mono HB3.out.size))
  have hB3 := HB3.out.size
  clear HN3 HZ3 HM3 HO3 HB3 KH HMR3
  generalize hh : hearF n.id n.fr 1 3 (Ms.map Mg.pm) = h at *
  have HL := Lib.hid (fun i l (e : h i = some l) => hearF_len (id := n.id) (fr := n.fr) (kind := 1) (many := 3) (Ms.map Mg.pm) (fun _ => none) (fun i l e => by cases e) i l (show hearF n.id n.fr 1 3 (Ms.map Mg.pm) i = some l by rw [hh]; exact e))
  have HH := Lib.hid hh
  clear hh hva
  rw [← HVA.out] at HN4
  go_loopw [20] (fun iv wr => RlRel w w4 n va7 h iv wr) (fun iv _ => 4 - (intOf iv).toNat)
  case atStart => exact ⟨0, rfl, by omega, by rw [relTo_zero]; exact HN4.out, grown_refl _ _⟩
  case round =>
    obtain ⟨i, rfl, hi4, hN, hG⟩ := hrel
    by_cases hi : i < 4
    · have q0 : (i : Int) < 4 := by omega
      have qq : (0 : Int) ≤ (i : Int) := by omega
      have ix := fun W => idx4s sv i hi W
      have hsl := HSL.out.grown hG (by omega)
      have HN := Lib.hid hN
      have HG := Lib.hid hG
      clear hN hG
      rcases hsl i hi with ⟨h1, h2⟩ | ⟨l, ad, cl, h1, h2, h3, _⟩
      · simp only [h2] at ix
        have H1 := Lib.hid h1
        clear h1 h2 hsl
        go_wp2_with (first
          | (refine wpList_copy_nothing rfl (.tmp 27) (.tmp 28) 58 58 rfl 3 Try.underlying58 (by kernel_rfl) (some ⟨w.heap.size, 39 + i * 3, none⟩) none 3 3 0 0 rfl rfl rfl ?_))
        go_roundw
        case rel => exact ⟨i + 1, by go_num, by omega, by rw [relTo_none _ _ _ H1.out]; exact HN.out, HG.out⟩
        case measure => simp [intOf]; omega
      · simp only [h2] at ix
        have hl3 : l.length = 3 := HL.out i l h1
        rw [hl3] at ix
        have H1 := Lib.hid h1
        have HL3 := Lib.hid hl3
        have H3 := Lib.hid (ints_news h3)
        clear h1 h2 h3 hsl hl3
        go_wp2_with (first
          | (refine wpList_copy_nb (.tmp 27) (.tmp 28) 58 58 rfl rfl 3 Try.underlying58 (by kernel_rfl) w.heap.size (39 + i * 3) 3 3 ad 3 cl rfl rfl (relTo n h i) (relTo n h (i + 1)) va7 va7 HN.out (l.map (Value.int .i64)) (by rw [List.length_map, HL3.out]; rfl) (H3.out ad rfl) (by rw [List.length_map, HL3.out]; omega) (by intro v hv; obtain ⟨q, _, rfl⟩ := List.mem_map.1 hv; rfl) (relTo_some n h i l hi H1.out HL3.out va7) ?_; intro w5 hN5 hg5; have HN5 := Lib.hid hN5; have HG5 := Lib.hid hg5; clear hN5 hg5))
        go_roundw
        case rel => exact ⟨i + 1, by go_num, by omega, HN5.out, grown_trans HG.out HG5.out⟩
        case measure => simp [intOf]; omega
    · obtain rfl : i = 4 := by omega
      have hB3' := HB4.out.grown hG HB4.out.size (fun j hj => by cases hj; exact Nat.le_refl _)
      have HZ6 := Lib.hid (HZ4.out.grown hG (by intro e; have := Option.some.inj e; omega))
      have HM6 := Lib.hid (HM4.out.grown hG (by intro e; have := Option.some.inj e; omega))
      have HO6 := Lib.hid (own_kept_t HO4.out hG HN4.out (by decide))
      have HB6 := Lib.hid hB3'
      have HN6 := Lib.hid hN
      have hdi : relTo n h 4 = relayN n (Ms.map Mg.pm) := by unfold relayN relayH; rw [HH.out]
      have HDI := Lib.hid hdi
      have hid : (relTo n h 4).id = n.id := rfl
      have hfr : (relTo n h 4).fr = n.fr := rfl
      have HID := Lib.hid (And.intro hid hfr)
      clear hN hG hB3' HZ4 HM4 HO4 HB4 HN4 HSL HL HH hdi hid hfr HB34
      generalize relTo n h 4 = n7 at *
      obtain ⟨i0, hi, hz0, hz1, hz2⟩ := info_parts infoInt4
      have hs6 := HB6.out.size
      have hm6 := HM6.out.lt
      obtain ⟨w6, rfl⟩ : ∃ w6 : World, w6 = wr := ⟨_, rfl⟩
      go_wp2_with (first
        | (refine wpList_load_mid rfl 40 (.tmp 31) rfl w.heap.size 39 rfl (diC n7.di) _ HN6.out.diR Try.underlying40 rfl info12 ?_))
      go_loopw [8, 33] (fun lv iv wr => RvRel w6 n7.di lv iv wr) (fun _ iv _ => 4 - (intOf iv).toNat)
      case atStart => exact ⟨0, _, rfl, by omega, rfl, World.ownsRow_nil _ _ _ _, Below.refl _ _⟩
      case round =>
        obtain ⟨i, v, rfl, hi4', hv, hO, hB⟩ := hrel
        have hv2 := hv.symm
        clear hv
        subst hv2
        obtain ⟨Av, cv, rfl⟩ := own_shape hO
        by_cases hi' : i < 4
        · have q0 : (i : Int) < 4 := by omega
          have qq : (0 : Int) ≤ (i : Int) := by omega
          have ix := fun W => ixD n7.di i hi' W
          have hsn : dirS n7.di (i + 1) = dirS n7.di i ++ [n7.di (3 * i), n7.di (3 * i + 1), n7.di (3 * i + 2)] := rfl
          have HSN := Lib.hid hsn
          have HO := Lib.hid hO
          have HB := Lib.hid hB
          have hwr := hB.size
          clear hO hB hsn
          generalize n7.di (3 * i) = x0 at *
          generalize n7.di (3 * i + 1) = x1 at *
          generalize n7.di (3 * i + 2) = x2 at *
          have HO2 := fun o1 => Lib.hid (own_below HO.out ((Below.refl wr.heap.size wr).alloc (Nat.le_refl _) o1) (fun x hx => (HO.out.lt x hx).2))
          go_wp2_with (first
            | (at_builtin; go_loud (refine wpList_append_ints rfl _ _ 58 rfl w6.heap.size 3 i0 (.int .i64 0) .i64 8 Try.underlying58 hi hz0 hz1 hz2 rfl (.slice Av (3 * i) cv) _ _ rfl (Hid.out (HO2 _)) (some ⟨wr.heap.size, 0, none⟩) 3 3 [x0, x1, x2] rfl (fun e => by cases e) (ints_blk (zs := [x0, x1, x2]) (Blk.new _ _ _)) (by unfold maxLen; omega) (by omega) (by simp; omega) ?_); intro v3 w3 hown3 hg3))
          go_roundw
          case rel => exact ⟨i + 1, v3, by go_num, by omega, rfl, own_n3 (by rw [HSN.out, List.map_append]; exact hown3), (HB.out.alloc hwr _).grown hg3 (by simp; omega) (fun j hj => (HO.out.lt j hj).1)⟩
          case measure => simp [intOf]; omega
        · obtain rfl : i = 4 := by omega
          have HN7 := Lib.hid (NB.next HN6.out hB)
          have HZ7 := Lib.hid (HZ6.out.next hB)
          have HM7 := Lib.hid (HM6.out.next hB)
          have HO7 := Lib.hid (own_below HO6.out hB (fun x hx => (HO6.out.lt x hx).2))
          have HB7 := Lib.hid (HB6.out.trans (hB.mono hs6))
          have HOV := Lib.hid hO
          have HV7 : Hid ((NA n7 va7).all (·.oneCell') = true) := by rw [HVA.out]; exact NA_one _ _ _ _
          have KS := Lib.hid (fun W => say_any n7 va7 2 Av (3 * 4) cv W)
          rw [HID.out.1, HID.out.2] at KS
          have h12 := hW0
          clear hO hB HN6 HZ6 HM6 HO6 HB6
          obtain ⟨w7, rfl⟩ : ∃ w7 : World, w7 = wr := ⟨_, rfl⟩
          go_upto_region 15 with fail
          --TAIL n7 || 4 || 40 || 5 || 43 || L;;L;;M;;C:KS.out _@@w8@@⟨rfl, hbb⟩ || #[.int .i64 2, .int .i64 n.id, .int .i64 n.fr, .slice Av (3 * 4) cv] || w7
          try simp only [pts]
          have SK := Lib.hid (fun W (h : Below w7.heap.size w7 W) => (NB.next HN7.out h : NB W w.heap.size n7 va7))
          unfold NB at SK
          refine wp_region_F 5 (fun w' => Blk w' w.heap.size 45 (NA n7 va7)) (by kernel_rfl) (SK.out _ (Below.refl _ _).drew) (fun hS => ?_)
          refine wpF 0 (.agg (NA n7 va7)) rfl (by kernel_rfl) (fun _ _ _ h => h) (Or.inl ⟨by rfl, fun wx hSw => exec_load_row 45 (.tmp 2) rfl w.heap.size rfl _ (NA n7 va7) _ hSw Try.underlying45 rfl (by rw [NA_size]; exact infoNode)⟩) hS ?_
          try simp only [pts]
          refine wpF 1 (.agg (NA n7 va7)) rfl (by kernel_rfl) (fun _ _ _ h => h) (Or.inl ⟨by rfl, fun wx hSw => exec_load_row 45 (.tmp 2) rfl w.heap.size rfl _ (NA n7 va7) _ hSw Try.underlying45 rfl (by rw [NA_size]; exact infoNode)⟩) hS ?_
          try simp only [pts]
          refine wpF 2 ?_ rfl (by kernel_rfl) (fun _ _ _ h => h) (Or.inl ⟨by rfl, fun wx hSw => ?_⟩) hS ?_
          rotate_left
          · (try dsimp only at hSw); go_simp; (try with_reducible rfl)
          try simp only [pts]
          refine wpAnyF_one (i := 3) rfl (by kernel_rfl) (fun K hK => ?_)
          go_simp
          (with_reducible refine (KS.out _).mono ?_)
          rintro e w8 ⟨rfl, hbb⟩
          have hb_w8 := (((Below.refl w7.heap.size w7).drew)).trans (hbb.mono (Nat.le_refl _))
          have H_prev := Lib.hid hb_w8
          clear hS
          have hS := SK.out _ hb_w8
          clear hbb hb_w8
          refine hK.out _ _ hS ?_
          clear hK K
          try simp only [pts]
          refine wpAnyF_one (i := 4) rfl (by kernel_rfl) (fun K hK => ?_)
          rw [if_pos (by rfl)]
          refine wp_store_row 45 (.tmp 4) (.tmp 40) rfl (w.heap.size + 1) _ zc (NA n7 va7) rfl rfl (HZ7.out.next H_prev.out) (by rw [NA_size, HZS.out]) (by rw [NA_size]; exact infoNode) HV7.out (fun w9 hN9 hg9 => ?_)
          have hS9 := hS.grown hg9 (by intro e; have := Option.some.inj e; omega)
          refine hK.out _ _ hS9 ?_
          clear hK K hS
          try simp only [pts]
          refine wpAnyF_last rfl (by kernel_rfl) (by kernel_rfl) (fun K hK => ?_)
          rw [if_pos (by rfl)]
          refine wp_store_row 64 (.tmp 5) (.tmp 43) rfl (w.heap.size + 1 + 1) _ _ #[.int .i64 2, .int .i64 n.id, .int .i64 n.fr, .slice Av (3 * 4) cv] rfl rfl ((HM7.out.next H_prev.out).grown hg9 (by intro e; have := Option.some.inj e; omega)) rfl (by kernel_rfl) (by simp [Value.oneCell']) (fun w10 hM10 hg10 => ?_)
          refine hK.out _ _ ?_
          clear hK K
          try simp only [pts]
          go_wp2_with fail
          have hN10 := hN9.grown hg10 (by intro e; have := Option.some.inj e; omega)
          --END
          refine bodyPost_ret (results_two Try.results17 _ _ (w.heap.size + 1) (w.heap.size + 1 + 1) _ _ _ _ _ _ rfl rfl hN10 hM10 Try.underlying45 rfl (by rw [NA_size]; exact infoNode) Try.underlying64 rfl (by kernel_rfl)) rfl ?_
          have hov := own_ownI (m := 3 * 4) HOV.out
          have h6 := hs6
          have h7 := HB7.out.size
          rw [HVA.out, ← HDI.out]
          exact ph_end (vs := dirL n7.di 12) (by omega) (by omega) (by omega) HZ7.out HM7.out HO7.out (by omega) HB7.out H_prev.out hg9 hg10 ((hov.down hs6).next H_prev.out) (fun ad e => by have := (hov.2.2.2 ad e).2.1; omega)
end Go.Proofs.Ytofeoeknmlkjgaa.Nk
end
section
/- node.Pass. -/
set_option linter.unusedVariables false
namespace Go.Proofs.Ytofeoeknmlkjgaa.Nk
open Go.RowKit Go.Proofs.Ytofeoeknmlkjgaa Mb Fi Sm

def pasTo (n : Nd) (h : Hd) (i : Nat) : Nd := { n with he := fun k => if k < i then (match h k with | some l => l.getD 0 0 | none => n.he k) else n.he k }
def passH (n : Nd) (Ms : List Pm) : Hd := hearF n.id n.fr 3 1 Ms
def passN (n : Nd) (Ms : List Pm) : Nd := pasTo n (passH n Ms) 4
def heL (f : Nat → Int) : List Int := [f 0, f 1, f 2, f 3]
theorem pasTo_zero (n : Nd) (h : Hd) : pasTo n h 0 = n := by unfold pasTo; simp
theorem pasTo_none (n : Nd) (h : Hd) (i : Nat) (hh : h i = none) : pasTo n h (i + 1) = pasTo n h i := by
  unfold pasTo
  congr 1
  funext k
  rcases Nat.lt_trichotomy k i with c | c | c
  · rw [if_pos (by omega), if_pos c]
  · rw [if_pos (by omega), if_neg (by omega), c, hh]
  · rw [if_neg (by omega), if_neg (by omega)]
theorem pasTo_some (n : Nd) (h : Hd) (i : Nat) (l : List Int) (hi : i < 4) (hh : h i = some l) (va : Value) : ∀ j, j < 74 → (pasTo n h (i + 1)).c va j = if j = 51 + i then .int .i64 (l.getD 0 0) else (pasTo n h i).c va j := by
  intro j hj
  by_cases c : j = 51 + i
  · rw [if_pos c, c_he (by omega) (by omega)]
    unfold pasTo
    simp only
    rw [show j - 51 = i by omega, if_pos (by omega), hh]
  · rw [if_neg c]
    by_cases c2 : 51 ≤ j ∧ j < 55
    · rw [c_he c2.1 c2.2, c_he c2.1 c2.2]
      unfold pasTo
      simp only
      rcases Nat.lt_trichotomy (j - 51) i with c3 | c3 | c3
      · rw [if_pos (by omega), if_pos c3]
      · omega
      · rw [if_neg (by omega), if_neg (by omega)]
    · unfold pasTo
      exact (c_he_out n _ va j (by omega)).trans (c_he_out n _ va j (by omega)).symm
def PsRel (w w4 : World) (n : Nd) (va : Value) (h : Hd) (iv : Value) (wr : World) : Prop :=
  ∃ i : Nat, iv = .int .i64 i ∧ i ≤ 4 ∧ NB wr w.heap.size (pasTo n h i) va ∧ w4.grownBy wr (some w.heap.size)
theorem heI {w : World} {g : Nat} {n : Nd} {va : Value} (h : NB w g n va) (B : Nat) (hB : B ≤ g) : OwnI w B (some ⟨g, 51, none⟩) 4 4 (heL n.he) := by
  refine ⟨⟨rfl, fun _ => ⟨g, 51, rfl, Blk.lt h, fun j hj => ?_⟩⟩, (fun e => by cases e), Nat.le_refl _, fun ad e => ?_⟩
  · rw [h.he hj]
    match j, hj with
    | 0, _ => rfl
    | 1, _ => rfl
    | 2, _ => rfl
    | 3, _ => rfl
  · cases e
    exact ⟨rfl, hB, Blk.lt h, h.thereR (by show 51 + 4 ≤ 74; omega), .inl rfl, _, _, h, by decide⟩

set_option maxRecDepth 100000 in
set_option maxHeartbeats 8000000 in
theorem Pass_any (n : Nd) (A : Option Addr) (m c : Nat) (bs : List Value) (Am : Option Addr) (mm cm : Nat) (Ms : List Mg) (h0 : 0 ≤ n.id) (h4 : n.id < 4) (w : World) (hb : VR w 1 A m c bs) (h1 : ∀ u ∈ bs, u.oneCell' = true) (hm : m ≤ 140737488355328) (hM : MR w Am mm cm Ms) (hmm : mm ≤ 17592186044416) :
    Calls Try.prog 19 #[.agg (NA n (.slice A m c)), .slice Am mm cm] w (PhPost (passN n (Ms.map Mg.pm)) bs 2 n.id n.fr (heL (passN n (Ms.map Mg.pm)).he) w) := by
  obtain rfl : m = bs.length := by have := hb.1; omega
  have HVB := Lib.hid hb
  have H1 := Lib.hid h1
  have HMR := Lib.hid hM
  clear hb h1 hM
  --PRE Pass 8 4
  go_enter Try.func19, Try.ntmps19
  go_upto_region 1 with fail
  have hN : NB (((w.alloc (.cells (NA n (.slice A bs.length c)) 45)).alloc (.cells Try.zeroCells45 45)).alloc (.cells #[.int .i64 0, .int .i64 0, .int .i64 0, .slice none 0 0] 64)) w.heap.size n (.slice A bs.length c) := ((Blk.new _ _ _).alloc _).alloc _
  have hZ : Blk (((w.alloc (.cells (NA n (.slice A bs.length c)) 45)).alloc (.cells Try.zeroCells45 45)).alloc (.cells #[.int .i64 0, .int .i64 0, .int .i64 0, .slice none 0 0] 64)) (w.heap.size + 1) 45 Try.zeroCells45 := (Blk.at_ _ _ _ _ (by simp)).alloc _
  have hM : Blk (((w.alloc (.cells (NA n (.slice A bs.length c)) 45)).alloc (.cells Try.zeroCells45 45)).alloc (.cells #[.int .i64 0, .int .i64 0, .int .i64 0, .slice none 0 0] 64)) (w.heap.size + 1 + 1) 64 #[.int .i64 0, .int .i64 0, .int .i64 0, .slice none 0 0] := Blk.at_ _ _ _ _ (by simp)
  have hB : Below w.heap.size w (((w.alloc (.cells (NA n (.slice A bs.length c)) 45)).alloc (.cells Try.zeroCells45 45)).alloc (.cells #[.int .i64 0, .int .i64 0, .int .i64 0, .slice none 0 0] 64)) := (((Below.refl _ _).alloc (Nat.le_refl _) _).alloc (by simp) _).alloc (by simp; omega) _
  have hzs : (Try.zeroCells45).size = 74 := by kernel_rfl
  generalize Try.zeroCells45 = zc at *
  generalize ((w.alloc (.cells (NA n (.slice A bs.length c)) 45)).alloc (.cells zc 45)).alloc (.cells #[.int .i64 0, .int .i64 0, .int .i64 0, .slice none 0 0] 64) = W0 at *
  have hW0 : w.heap.size + 1 + 1 < W0.heap.size := hM.lt
  have HZS := Lib.hid hzs
  have HN := Lib.hid hN
  have HZ := Lib.hid hZ
  have HM := Lib.hid hM
  have HB := Lib.hid hB
  have KC := Lib.hid (copied_any n A bs.length c bs W0 (HVB.out.next hB) H1.out hm)
  unfold CopyPost at KC
  clear hN hZ hM hB hzs
  go_upto_region 4 with (first
    | (refine wpList_load_at 45 (.tmp 2) rfl rfl w.heap.size rfl _ (NA n (.slice A bs.length c)) _ HN.out Try.underlying45 rfl (by rw [NA_size]; exact infoNode) ?_)
    | (go_at_call 35; (with_reducible refine KC.out.mono ?_); rintro e w1 ⟨A', c', rfl, hO1, hB1⟩; have hw1 : W0.heap.size ≤ w1.heap.size := hB1.size; have HN1 := Lib.hid (NB.next HN.out hB1); have HZ1 := Lib.hid (HZ.out.next hB1); have HM1 := Lib.hid (HM.out.next hB1); have HB1 := Lib.hid (HB.out.trans (hB1.mono HB.out.size)); have HO1 := Lib.hid hO1; clear hO1 hB1)
    | (refine wpList_store_at 45 (.tmp 2) (.tmp 9) rfl rfl w.heap.size _ _ (NA n (.slice A' bs.length c')) rfl rfl HN1.out (by rw [NA_size, NA_size]) (by rw [NA_size]; exact infoNode) (NA_one _ _ _ _) ?_; intro w2 hN2 hg2; have HN2 := Lib.hid hN2; have HG2 := Lib.hid hg2; clear hN2 hg2)
    | (refine wpList_load_at 45 (.tmp 2) rfl rfl w.heap.size rfl _ (NA n (.slice A' bs.length c')) _ HN2.out Try.underlying45 rfl (by rw [NA_size]; exact infoNode) ?_)
    | (go_at_call 36; (with_reducible refine (strange_no n (.slice A' bs.length c') w2 h0 h4).mono ?_); rintro e w3 ⟨rfl, hb3⟩; have HN3 := Lib.hid (NB.next HN2.out hb3); have HBs := Lib.hid hb3; clear hb3))
  have HZ3 := Lib.hid ((HZ1.out.grown HG2.out (by intro e; have := Option.some.inj e; omega)).next HBs.out)
  have HM3 := Lib.hid ((HM1.out.grown HG2.out (by intro e; have := Option.some.inj e; omega)).next HBs.out)
  have HO3 := Lib.hid (own_below (own_kept_t HO1.out HG2.out HN1.out (by decide)) HBs.out (fun x hx => ((own_kept_t HO1.out HG2.out HN1.out (by decide)).lt x hx).2))
  have HB3 := Lib.hid ((HB1.out.grown HG2.out HB1.out.size (fun j hj => by cases hj; exact Nat.le_refl _)).trans (HBs.out.mono (by have := HG2.out.size; have := HB1.out.size; omega)))
  have hw3 : W0.heap.size ≤ w3.heap.size := by have := HG2.out.size; have := HBs.out.size; omega
  clear HN HZ HM HB KC HN1 HZ1 HM1 HB1 HO1 HN2 HG2 HBs
  --END
  have HMR3 := Lib.hid (HMR.out.next HB3.out)
  have KH := Lib.hid (hear_any n (.slice A' bs.length c') Am mm cm Ms 3 1 1 rfl (by decide) (by decide) h0 h4 w3 HMR3.out hmm)
  unfold HearPost at KH
  go_wp2_with (first
    | (refine wpList_load_at 45 (.tmp 2) rfl rfl w.heap.size rfl _ (NA n (.slice A' bs.length c')) _ HN3.out Try.underlying45 rfl (by rw [NA_size]; exact infoNode) ?_)
    | (go_at_call 37; (with_reducible refine KH.out.mono ?_); rintro e w4 ⟨sv, rfl, hS4, hb4⟩; have HN4 := Lib.hid (NB.next HN3.out hb4); have HSL := Lib.hid hS4; have HB34 := Lib.hid hb4; clear hS4 hb4))
  obtain ⟨va7, hva⟩ : ∃ v, v = Value.slice A' bs.length c' := ⟨_, rfl⟩
  have HVA := Lib.hid hva
  have HO4 := Lib.hid (own_below HO3.out HB34.out (fun x hx => (HO3.out.lt x hx).2))
  have HZ4 := Lib.hid (HZ3.out.next HB34.out)
  have HM4 := Lib.hid (HM3.out.next HB34.out)
  have HB4 := Lib.hid (HB3.out.trans (HB34.out.mono HB3.out.size))
  have hB3 := HB3.out.size
  clear HN3 HZ3 HM3 HO3 HB3 KH HMR3
  generalize hh : hearF n.id n.fr 3 1 (Ms.map Mg.pm) = h at *
  have HL := Lib.hid (fun i l (e : h i = some l) => hearF_len (id := n.id) (fr := n.fr) (kind := 3) (many := 1) (Ms.map Mg.pm) (fun _ => none) (fun i l e => by cases e) i l (show hearF n.id n.fr 3 1 (Ms.map Mg.pm) i = some l by rw [hh]; exact e))
  have HH := Lib.hid hh
  clear hh hva
  rw [← HVA.out] at HN4
  go_loopw [17] (fun iv wr => PsRel w w4 n va7 h iv wr) (fun iv _ => 4 - (intOf iv).toNat)
  case atStart => exact ⟨0, rfl, by omega, by rw [pasTo_zero]; exact HN4.out, grown_refl _ _⟩
  case round =>
    obtain ⟨i, rfl, hi4, hN, hG⟩ := hrel
    by_cases hi : i < 4
    · have q0 : (i : Int) < 4 := by omega
      have qq : (0 : Int) ≤ (i : Int) := by omega
      have ix := fun W => idx4s sv i hi W
      have hsl := HSL.out.grown hG (by omega)
      have q22 : ∀ (w : World) (a : Option Addr) (n c : Nat), (binOp .neq 58 (.slice a n c) (.slice none 0 0)).run Try.prog w = .ok (.bool (!a.isNone)) w := fun w a n c => run_neq_slice_nil_w w _ _ a n c Try.underlying58
      have k1 := hN.he hi
      have k2 := Blk.frozen hN (51 + i)
      have HN := Lib.hid hN
      have HG := Lib.hid hG
      clear hN hG
      rcases hsl i hi with ⟨h1, h2⟩ | ⟨l, ad, cl, h1, h2, h3, _⟩
      · simp only [h2] at ix
        have H1 := Lib.hid h1
        clear h1 h2 hsl
        go_wp2_with (first | go_big_skip)
        go_roundw
        case rel => exact ⟨i + 1, by go_num, by omega, by rw [pasTo_none _ _ _ H1.out]; exact HN.out, HG.out⟩
        case measure => simp [intOf]; omega
      · simp only [h2] at ix
        have hl3 : l.length = 1 := HL.out i l h1
        rw [hl3] at ix
        obtain ⟨b, off, e, hlt, hc⟩ := h3.2 (by omega)
        have ck := hc 0 (by omega)
        rw [Nat.add_zero] at ck
        injection e with e
        subst e
        have H1 := Lib.hid h1
        have HNS := Lib.hid (NB.set (n' := pasTo n h (i + 1)) HN.out (k := 51 + i) (u := .int .i64 (l.getD 0 0)) (pasTo_some n h i l hi H1.out va7))
        generalize l.getD 0 0 = z at *
        clear h1 h2 h3 hsl hl3 hc
        go_wp2_with (first | go_big_skip)
        go_roundw
        case rel => exact ⟨i + 1, by go_num, by omega, HNS.out, grown_trans HG.out (grown_set _ _ _ _)⟩
        case measure => simp [intOf]; omega
    · obtain rfl : i = 4 := by omega
      have hB3' := HB4.out.grown hG HB4.out.size (fun j hj => by cases hj; exact Nat.le_refl _)
      have HZ7 := Lib.hid (HZ4.out.grown hG (by intro e; have := Option.some.inj e; omega))
      have HM7 := Lib.hid (HM4.out.grown hG (by intro e; have := Option.some.inj e; omega))
      have HO7 := Lib.hid (own_kept_t HO4.out hG HN4.out (by decide))
      have HB7 := Lib.hid hB3'
      have HN7 := Lib.hid hN
      have hdi : pasTo n h 4 = passN n (Ms.map Mg.pm) := by unfold passN passH; rw [HH.out]
      have HDI := Lib.hid hdi
      have hid : (pasTo n h 4).id = n.id := rfl
      have hfr : (pasTo n h 4).fr = n.fr := rfl
      have HID := Lib.hid (And.intro hid hfr)
      clear hN hG hB3' HZ4 HM4 HO4 HB4 HN4 HSL HL HH hdi hid hfr HB34
      generalize pasTo n h 4 = n7 at *
      have hm6 := HM7.out.lt
      have HV7 : Hid ((NA n7 va7).all (·.oneCell') = true) := by rw [HVA.out]; exact NA_one _ _ _ _
      have KS := Lib.hid (fun W => say_any n7 va7 2 (some ⟨w.heap.size, 51, none⟩) 4 4 W)
      rw [HID.out.1, HID.out.2] at KS
      obtain ⟨w7, rfl⟩ : ∃ w7 : World, w7 = wr := ⟨_, rfl⟩
      go_upto_region 10 with fail
      --TAIL n7 || 4 || 30 || 5 || 34 || L;;L;;M;;M;;C:KS.out _@@w8@@⟨rfl, hbb⟩ || #[.int .i64 2, .int .i64 n.id, .int .i64 n.fr, .slice (some ⟨w.heap.size, 51, none⟩) 4 4] || w7
      try simp only [pts]
      have SK := Lib.hid (fun W (h : Below w7.heap.size w7 W) => (NB.next HN7.out h : NB W w.heap.size n7 va7))
      unfold NB at SK
      refine wp_region_F 6 (fun w' => Blk w' w.heap.size 45 (NA n7 va7)) (by kernel_rfl) (SK.out _ (Below.refl _ _).drew) (fun hS => ?_)
      refine wpF 0 (.agg (NA n7 va7)) rfl (by kernel_rfl) (fun _ _ _ h => h) (Or.inl ⟨by rfl, fun wx hSw => exec_load_row 45 (.tmp 2) rfl w.heap.size rfl _ (NA n7 va7) _ hSw Try.underlying45 rfl (by rw [NA_size]; exact infoNode)⟩) hS ?_
      try simp only [pts]
      refine wpF 1 (.agg (NA n7 va7)) rfl (by kernel_rfl) (fun _ _ _ h => h) (Or.inl ⟨by rfl, fun wx hSw => exec_load_row 45 (.tmp 2) rfl w.heap.size rfl _ (NA n7 va7) _ hSw Try.underlying45 rfl (by rw [NA_size]; exact infoNode)⟩) hS ?_
      try simp only [pts]
      refine wpF 2 ?_ rfl (by kernel_rfl) (fun _ _ _ h => h) (Or.inl ⟨by rfl, fun wx hSw => ?_⟩) hS ?_
      rotate_left
      · (try dsimp only at hSw); go_simp; (try with_reducible rfl)
      try simp only [pts]
      refine wpF 3 ?_ rfl (by kernel_rfl) (fun _ _ _ h => h) (Or.inl ⟨by rfl, fun wx hSw => ?_⟩) hS ?_
      rotate_left
      · (try dsimp only at hSw); go_simp; (try with_reducible rfl)
      try simp only [pts]
      refine wpAnyF_one (i := 4) rfl (by kernel_rfl) (fun K hK => ?_)
      go_simp
      (with_reducible refine (KS.out _).mono ?_)
      rintro e w8 ⟨rfl, hbb⟩
      have hb_w8 := (((Below.refl w7.heap.size w7).drew)).trans (hbb.mono (Nat.le_refl _))
      have H_prev := Lib.hid hb_w8
      clear hS
      have hS := SK.out _ hb_w8
      clear hbb hb_w8
      refine hK.out _ _ hS ?_
      clear hK K
      try simp only [pts]
      refine wpAnyF_one (i := 5) rfl (by kernel_rfl) (fun K hK => ?_)
      rw [if_pos (by rfl)]
      refine wp_store_row 45 (.tmp 4) (.tmp 30) rfl (w.heap.size + 1) _ zc (NA n7 va7) rfl rfl (HZ7.out.next H_prev.out) (by rw [NA_size, HZS.out]) (by rw [NA_size]; exact infoNode) HV7.out (fun w9 hN9 hg9 => ?_)
      have hS9 := hS.grown hg9 (by intro e; have := Option.some.inj e; omega)
      refine hK.out _ _ hS9 ?_
      clear hK K hS
      try simp only [pts]
      refine wpAnyF_last rfl (by kernel_rfl) (by kernel_rfl) (fun K hK => ?_)
      rw [if_pos (by rfl)]
      refine wp_store_row 64 (.tmp 5) (.tmp 34) rfl (w.heap.size + 1 + 1) _ _ #[.int .i64 2, .int .i64 n.id, .int .i64 n.fr, .slice (some ⟨w.heap.size, 51, none⟩) 4 4] rfl rfl ((HM7.out.next H_prev.out).grown hg9 (by intro e; have := Option.some.inj e; omega)) rfl (by kernel_rfl) (by simp [Value.oneCell']) (fun w10 hM10 hg10 => ?_)
      refine hK.out _ _ ?_
      clear hK K
      try simp only [pts]
      go_wp2_with fail
      have hN10 := hN9.grown hg10 (by intro e; have := Option.some.inj e; omega)
      --END
      refine bodyPost_ret (results_two Try.results19 _ _ (w.heap.size + 1) (w.heap.size + 1 + 1) _ _ _ _ _ _ rfl rfl hN10 hM10 Try.underlying45 rfl (by rw [NA_size]; exact infoNode) Try.underlying64 rfl (by kernel_rfl)) rfl ?_
      rw [HVA.out, ← HDI.out]
      exact ph_end (vs := heL n7.he) (by omega) (by omega) (by omega) HZ7.out HM7.out HO7.out (by omega) HB7.out H_prev.out hg9 hg10 (heI (HN7.out.next H_prev.out) _ (Nat.le_refl _)) (fun ad e => by cases e; exact ⟨by show w.heap.size ≠ _; omega, by show w.heap.size ≠ _; omega⟩)
end Go.Proofs.Ytofeoeknmlkjgaa.Nk
end
section
/- Numbers of 64 bits stay so; parts of a node written whole. -/
set_option linter.unusedVariables false
namespace Go.Proofs.Ytofeoeknmlkjgaa.Nk
open Go.RowKit Go.Proofs.Ytofeoeknmlkjgaa Mb Fi Sm

theorem maj3_in {P : Int → Prop} {x y z : Int} (hx : P x) (hy : P y) (hz : P z) (h0 : P 0) : P (Mj.maj [x, y, z] 0) := by
  by_cases a : x = y
  · rw [Ag.maj3 (v := x) (.inl ⟨rfl, a.symm⟩)]; exact hx
  · by_cases b : x = z
    · rw [Ag.maj3 (v := x) (.inr (.inl ⟨rfl, b.symm⟩))]; exact hx
    · by_cases c : y = z
      · rw [Ag.maj3 (v := y) (.inr (.inr ⟨rfl, c.symm⟩))]; exact hy
      · rw [Mj.maj_no]
        · exact h0
        · intro v
          rw [Ag.cn3]
          unfold Ag.ind
          show 2 * _ ≤ 3
          split <;> split <;> split <;> omega
theorem hearF_in {P : Int → Prop} {id fr kind : Int} {many : Nat} : ∀ (L : List Pm) (h : Hd), (∀ x ∈ L, ∀ v ∈ x.vs, P v) → (∀ i l, h i = some l → ∀ v ∈ l, P v) → ∀ i l, L.foldl (hear1 id fr kind many) h i = some l → ∀ v ∈ l, P v
  | [], h, _, hh, i, l, e => hh i l e
  | x :: L, h, hx, hh, i, l, e => by
    refine hearF_in L _ (fun y hy => hx y (List.mem_cons_of_mem _ hy)) (fun i l e => ?_) i l e
    unfold hear1 at e
    split at e
    · unfold upd at e
      split at e
      · injection e with e
        subst e
        exact hx x (List.mem_cons_self)
      · exact hh i l e
    · exact hh i l e
theorem getD_in {P : Int → Prop} {l : List Int} (h0 : P 0) (h : ∀ v ∈ l, P v) (k : Nat) : P (l.getD k 0) := by
  by_cases hk : k < l.length
  · simp only [List.getD, List.getElem?_eq_getElem hk]
    exact h _ (List.getElem_mem _)
  · simp only [List.getD, List.getElem?_eq_none (Nat.le_of_not_lt hk)]
    exact h0
theorem outO_in {P : Int → Prop} {h : Hd} {k d b : Nat} (h0 : P 0) (hh : ∀ i l, h i = some l → ∀ v ∈ l, P v) : ∀ i j, P (outO h k d b i j)
  | 0, j => h0
  | i + 1, j => by
    unfold outO
    split
    · cases e : h i with
      | some l =>
        show P (upd (outO h k d b i) (cntO d b i) (l.getD k 0) j)
        unfold upd
        split
        · exact getD_in h0 (hh i l e) k
        · exact outO_in h0 hh i j
      | none => exact outO_in h0 hh i j
    · exact outO_in h0 hh i j
theorem zero64 : In64 0 := ⟨by decide, by decide⟩
theorem has_of {z : Int} (h : In64 z) : IntKind.i64.has z := by
  unfold In64 at h
  simp [IntKind.has, IntKind.min, IntKind.max, IntKind.signed, IntKind.bits]
  omega
theorem he_verd (n : Nd) (va v : Value) (x : Int) (b : Bool) : ∀ i, i < 74 → ({ n with vv := x, vs := b } : Nd).c v i = if 71 ≤ i ∧ i < 71 + (#[Value.int .i64 x, Value.bool b, v] : Array Value).toList.length then (#[Value.int .i64 x, Value.bool b, v] : Array Value).toList.getD (i - 71) undef else n.c va i := by
  intro i hi
  have el : (#[Value.int .i64 x, Value.bool b, v] : Array Value).toList.length = 3 := rfl
  rw [el]
  by_cases h : 71 ≤ i ∧ i < 71 + 3
  · rw [if_pos h]
    rcases (show i = 71 ∨ i = 72 ∨ i = 73 by omega) with e | e | e <;> subst e <;> rfl
  · rw [if_neg h]
    have h71 : i < 71 := by omega
    unfold Nd.c
    simp only [if_pos h71]
theorem rollC_list (R : Rl) (k : Nat) (hk : k < 12) : (rollC R).toList.getD k undef = rcell R k := by
  rw [← rollC_eq]
  simp only [List.getD, Array.getElem?_toList]
  rw [AN_get hk]; rfl
theorem he_roll (n : Nd) (va : Value) (R : Rl) : ∀ i, i < 74 → ({ n with ro := R } : Nd).c va i = if 27 ≤ i ∧ i < 27 + (rollC R).toList.length then (rollC R).toList.getD (i - 27) undef else n.c va i := by
  intro i hi
  have el : (rollC R).toList.length = 12 := rfl
  rw [el]
  by_cases h : 27 ≤ i ∧ i < 27 + 12
  · rw [if_pos h, rollC_list _ _ (by omega), c_ro h.1 (by omega)]
  · rw [if_neg h]; exact c_ro_out n R va i (by omega)
theorem NB.roR {W : World} {g : Nat} {n : Nd} {va : Value} (h : NB W g n va) : W.rangeAt g 27 (rollC n.ro).toList := by
  intro j v hj
  have hlt : j < 12 := (List.getElem?_eq_some_iff.1 hj).1
  have h2 := rollC_list n.ro j hlt
  rw [List.getD, hj] at h2
  simp only [Option.getD_some] at h2
  rw [h2, h.at_ (by omega), c_ro (by omega) (by omega), show 27 + j - 27 = j by omega]
theorem info12r : (Try.prog.info? 38).map (·.size) = some 12 := by kernel_rfl
end Go.Proofs.Ytofeoeknmlkjgaa.Nk
end
section
/- fourwatchkeep.scribble of a list of numbers that a phase of a node has answered: its block alone changes. -/
set_option linter.unusedVariables false
namespace Go.Proofs.Ytofeoeknmlkjgaa.Sc
open Go.RowKit Go.Proofs.Ytofeoeknmlkjgaa

section
variable {P : Program} {e : TypeId} {w w' : World} {b off n : Nat}
end
section
variable {P : Program} {w : World} {ops : Array Oper} {rest : List Oper} {o : Oper} {a : Act} {Q : Exit → Act → World → Prop}
end
def RelF (w0 : World) (b off n : Nat) (iv : Value) (W : World) : Prop := ∃ i : Nat, i ≤ n ∧ iv = .int .i64 i ∧ W.there b off n ∧ w0.grownBy W (some b)

end Go.Proofs.Ytofeoeknmlkjgaa.Sc
end
