/- Merged: NodeLaw NodeSense. -/
import Derived.Laws.CopyOwn
import Derived.Test.YtofeoeknmlkjgaaZ09
import Derived.Test.YtofeoeknmlkjgaaZ35
set_option linter.unusedVariables false
set_option linter.unusedSimpArgs false
section
/- Laws on a node in a block: stores of parts, the load of the whole in a region that draws its order. -/
set_option linter.unusedVariables false
namespace Go.Proofs.Ytofeoeknmlkjgaa.Nk
open Go.RowKit Go.Proofs.Ytofeoeknmlkjgaa Mb Fi Sm

theorem blk_setCells_AN {w : World} {g o m : Nat} {t : TypeId} {f : Nat → Value} {vs : List Value} (h : Blk w g t (AN m f)) : Blk (w.setCells g o vs) g t (AN m fun i => if o ≤ i ∧ i < o + vs.length then vs.getD (i - o) undef else f i) := by
  obtain ⟨cs', h1, h2, h3⟩ := blk_setCells_at vs o w _ h
  rw [AN_size] at h2 h3
  have e : cs' = AN m fun i => if o ≤ i ∧ i < o + vs.length then vs.getD (i - o) undef else f i := by
    apply Array.ext (by rw [h2, AN_size])
    intro i a b
    have h4 := h3 i (by omega)
    rw [Array.getElem?_eq_getElem a, AN_get (by omega)] at h4
    have h5 : (AN m fun i => if o ≤ i ∧ i < o + vs.length then vs.getD (i - o) undef else f i)[i]? = some (if o ≤ i ∧ i < o + vs.length then vs.getD (i - o) undef else f i) := AN_get (by omega)
    rw [Array.getElem?_eq_getElem b] at h5
    rw [Option.some.inj h5]
    split at h4
    · rename_i hc
      rw [if_pos hc]
      rw [List.getElem?_eq_getElem (by omega)] at h4
      rw [Option.some.inj h4]
      simp [List.getD, List.getElem?_eq_getElem (show i - o < vs.length by omega)]
    · rename_i hc
      rw [if_neg hc]
      exact Option.some.inj h4
  rw [e] at h1
  exact h1
theorem NB.setR {W : World} {g o : Nat} {n n' : Nd} {va va' : Value} {vs : List Value} (h : NB W g n va) (he : ∀ i, i < 74 → n'.c va' i = if o ≤ i ∧ i < o + vs.length then vs.getD (i - o) undef else n.c va i) : NB (W.setCells g o vs) g n' va' := by
  have := blk_setCells_AN (o := o) (vs := vs) h
  unfold NB NA
  rw [AN_congr he]
  exact this
theorem NB.thereR {W : World} {g o k : Nat} {n : Nd} {va : Value} (h : NB W g n va) (hk : o + k ≤ 74) : W.there g o k := fun j hj => by
  rw [h.at_ (by omega)]
  exact ⟨rfl, Blk.frozen h _⟩
theorem c_di_out (n : Nd) (x : Nat → Int) (va : Value) (i : Nat) (h : i < 39 ∨ 51 ≤ i) : ({ n with di := x } : Nd).c va i = n.c va i := by
  unfold Nd.c
  rcases h with h | h
  · simp only [if_pos h]
  · simp only [if_neg (show ¬ i < 51 by omega)]
theorem c_he_out (n : Nd) (x : Nat → Int) (va : Value) (i : Nat) (h : i < 51 ∨ 55 ≤ i) : ({ n with he := x } : Nd).c va i = n.c va i := by
  unfold Nd.c
  rcases h with h | h
  · simp only [if_pos h]
  · simp only [if_neg (show ¬ i < 55 by omega)]
theorem c_ag_out (n : Nd) (x : Nat → Int) (va : Value) (i : Nat) (h : i < 55 ∨ 67 ≤ i) : ({ n with ag := x } : Nd).c va i = n.c va i := by
  unfold Nd.c
  rcases h with h | h
  · simp only [if_pos h]
  · simp only [if_neg (show ¬ i < 67 by omega)]
theorem c_us_out (n : Nd) (x : Nat → Int) (va : Value) (i : Nat) (h : i < 67 ∨ 70 ≤ i) : ({ n with us := x } : Nd).c va i = n.c va i := by
  unfold Nd.c
  rcases h with h | h
  · simp only [if_pos h]
  · simp only [if_neg (show ¬ i < 70 by omega)]
theorem c_dg_out (n : Nd) (x : Int) (va : Value) (i : Nat) (h : i < 70 ∨ 71 ≤ i) : ({ n with dg := x } : Nd).c va i = n.c va i := by
  unfold Nd.c
  rcases h with h | h
  · simp only [if_pos h]
  · simp only [if_neg (show ¬ i < 71 by omega)]
theorem c_ax_out (n : Nd) (x : Nat → St) (va : Value) (i : Nat) (h : i < 6 ∨ 27 ≤ i) : ({ n with ax := x } : Nd).c va i = n.c va i := by
  unfold Nd.c
  rcases h with h | h
  · simp only [if_pos h]
  · simp only [if_neg (show ¬ i < 27 by omega)]
theorem c_ro_out (n : Nd) (x : Rl) (va : Value) (i : Nat) (h : i < 27 ∨ 39 ≤ i) : ({ n with ro := x } : Nd).c va i = n.c va i := by
  unfold Nd.c
  rcases h with h | h
  · simp only [if_pos h]
  · simp only [if_neg (show ¬ i < 39 by omega)]
section
variable {P : Program} {w : World} {ops : Array Oper} {rest : List Oper} {o : Oper} {a : Act} {Q : Exit → Act → World → Prop}
theorem wpList_store_nb (ty : TypeId) (x y : Operand) (ho : o.op = .store ty x y) (hgd : o.guard = none)
    (g off : Nat) (cells : Array Value) (n n' : Nd) (va va' : Value) (hx : a.eval x = .pointer (some ⟨g, off, none⟩)) (hy : a.eval y = .agg cells)
    (hN : NB w g n va) (hoff : off + cells.size ≤ 74) (hi : (P.info? ty).map (·.size) = some cells.size) (h1 : cells.all (·.oneCell') = true)
    (he : ∀ i, i < 74 → n'.c va' i = if off ≤ i ∧ i < off + cells.toList.length then cells.toList.getD (i - off) undef else n.c va i)
    (h : ∀ w', NB w' g n' va' → w.grownBy w' (some g) → wpList P ops Q rest (a.put o.dst undef) w') : wpList P ops Q (o :: rest) a w :=
  wpList_store_mid hgd ty x y ho g off cells hx hy (hN.thereR hoff) hi h1 (h _ (hN.setR he) (grown_setCells _ _ _ _))
end
theorem exec_load_row {P : Program} {o : Oper} {ρ : Operand → Value} {w : World} (ty : TypeId) (x : Operand) (ho : o.op = .load ty x) (g : Nat) (hx : ρ x = .pointer (some ⟨g, 0, none⟩)) (t : TypeId) (cs : Array Value) (d : TypeDesc) (hb : Blk w g t cs)
    (hu : P.underlying ty = some d) (hd : (match d with | .struct _ | .array _ _ => true | _ => false) = true) (hi : (P.info? ty).map (·.size) = some cs.size) : (execOp ρ o).run P w = .ok (.value (.agg cs)) w := by
  unfold execOp
  simp only [ho, hx, Instr.loadAt, Instr.sureAddr, Sem.run_bind, Sem.run_pure, Result.andThen_ok, run_loadVar_row w g t ty cs (0, 0) d hb hu hd hi]
theorem wp_store_row {P : Program} {o : Oper} {a : Act} {w : World} {K : Act → World → Prop} {Q : Exit → Act → World → Prop} (ty : TypeId) (x y : Operand) (ho : o.op = .store ty x y) (g : Nat) (t : TypeId) (cs cells : Array Value) (hx : a.eval x = .pointer (some ⟨g, 0, none⟩)) (hy : a.eval y = .agg cells)
    (hb : Blk w g t cs) (hl : cells.size = cs.size) (hi : (P.info? ty).map (·.size) = some cells.size) (h1 : cells.all (·.oneCell') = true)
    (h : ∀ w', Blk w' g t cells → w.grownBy w' (some g) → K (a.put o.dst undef) w') : o.wp P a w K Q := by
  refine wp_store_mid ty x y ho g 0 cells hx hy (fun j hj => ?_) hi h1 (h _ (hb.over hl) (grown_setCells g _ _ _))
  rw [Nat.zero_add]
  refine ⟨?_, hb.frozen j⟩
  rw [hb.cell j, Array.getElem?_eq_getElem (by omega)]
  rfl
theorem setRow_blk {w : World} {g : Nat} {t : TypeId} {cs : Array Value} (h : Blk w g t cs) (cs' : Array Value) : Blk (w.setRow g cs') g t cs' := by
  show (w.heap.modify g _)[g]? = _
  rw [Array.getElem?_modify, if_pos rfl, show w.heap[g]? = some (.cells cs t (0, 0)) from h]
  rfl
def diC (f : Nat → Int) : List Value := [.int .i64 (f 0), .int .i64 (f 1), .int .i64 (f 2), .int .i64 (f 3), .int .i64 (f 4), .int .i64 (f 5), .int .i64 (f 6), .int .i64 (f 7), .int .i64 (f 8), .int .i64 (f 9), .int .i64 (f 10), .int .i64 (f 11)]
theorem diC_get (f : Nat → Int) (j : Nat) (hj : j < 12) : (diC f)[j]? = some (.int .i64 (f j)) := by
  have e : diC f = (List.range 12).map (fun j => Value.int .i64 (f j)) := rfl
  rw [e, List.getElem?_map, List.getElem?_range hj]; rfl
theorem NB.diR {W : World} {g : Nat} {n : Nd} {va : Value} (h : NB W g n va) : W.rangeAt g 39 (diC n.di) := by
  intro j v hj
  have hlt : j < 12 := (List.getElem?_eq_some_iff.1 hj).1
  rw [diC_get _ j hlt] at hj
  injection hj with hj
  rw [← hj, h.at_ (by omega), c_di (by omega) (by omega), show 39 + j - 39 = j by omega]
theorem info12 : (Try.prog.info? 40).map (·.size) = some 12 := by kernel_rfl
theorem ixD0 (f : Nat → Int) (w : World) : (Instr.index 40 (.agg (diC f).toArray) (.int .i64 0)).run Try.prog w = .ok (.agg #[.int .i64 (f 0), .int .i64 (f 1), .int .i64 (f 2)]) w := by kernel_rfl
theorem ixD1 (f : Nat → Int) (w : World) : (Instr.index 40 (.agg (diC f).toArray) (.int .i64 1)).run Try.prog w = .ok (.agg #[.int .i64 (f 3), .int .i64 (f 4), .int .i64 (f 5)]) w := by kernel_rfl
theorem ixD2 (f : Nat → Int) (w : World) : (Instr.index 40 (.agg (diC f).toArray) (.int .i64 2)).run Try.prog w = .ok (.agg #[.int .i64 (f 6), .int .i64 (f 7), .int .i64 (f 8)]) w := by kernel_rfl
theorem ixD3 (f : Nat → Int) (w : World) : (Instr.index 40 (.agg (diC f).toArray) (.int .i64 3)).run Try.prog w = .ok (.agg #[.int .i64 (f 9), .int .i64 (f 10), .int .i64 (f 11)]) w := by kernel_rfl
theorem ixD (f : Nat → Int) (k : Nat) (hk : k < 4) (w : World) : (Instr.index 40 (.agg (diC f).toArray) (.int .i64 (k : Int))).run Try.prog w = .ok (.agg #[.int .i64 (f (3 * k)), .int .i64 (f (3 * k + 1)), .int .i64 (f (3 * k + 2))]) w := by
  match k, hk with
  | 0, _ => exact ixD0 f w
  | 1, _ => exact ixD1 f w
  | 2, _ => exact ixD2 f w
  | 3, _ => exact ixD3 f w
theorem row_AN {m off : Nat} {f : Nat → Value} {cs : List Value} (h : off + cs.length ≤ m) : ((AN m f).toList.take off ++ (cs ++ (AN m f).toList.drop (off + cs.length))).toArray = AN m fun i => if off ≤ i ∧ i < off + cs.length then cs.getD (i - off) undef else f i := by
  have hl : (AN m f).toList.length = m := by rw [Array.length_toList, AN_size]
  apply Array.ext_getElem?
  intro i
  rw [List.getElem?_toArray]
  by_cases hi : i < m
  · rw [AN_get hi]
    rcases (show i < off ∨ (off ≤ i ∧ i < off + cs.length) ∨ off + cs.length ≤ i by omega) with c | c | c
    · rw [if_neg (by omega), List.getElem?_append_left (by rw [List.length_take]; omega), List.getElem?_take, if_pos c, Array.getElem?_toList, AN_get hi]
    · rw [if_pos c, List.getElem?_append_right (by rw [List.length_take]; omega), List.length_take, hl, Nat.min_eq_left (by omega), List.getElem?_append_left (by omega), List.getElem?_eq_getElem (by omega)]
      simp [List.getD, List.getElem?_eq_getElem (show i - off < cs.length by omega)]
    · rw [if_neg (by omega), List.getElem?_append_right (by rw [List.length_take]; omega), List.length_take, hl, Nat.min_eq_left (by omega), List.getElem?_append_right (by omega), List.getElem?_drop, Array.getElem?_toList, show off + cs.length + (i - off - cs.length) = i by omega, AN_get hi]
  · rw [Array.getElem?_eq_none (by rw [AN_size]; omega), List.getElem?_eq_none]
    simp only [List.length_append, List.length_take, List.length_drop, hl]
    omega
section
variable {w : World} {ops : Array Oper} {rest : List Oper} {o : Oper} {a : Act} {Q : Exit → Act → World → Prop} {P : Program}
theorem wpList_copy_nb (d s : Operand) (dT sT : TypeId) (ho : o.op = .call { callee := .builtin .copy, args := #[d, s], argTypes := #[dT, sT] }) (hgd : o.guard = none) (elem : TypeId) (hu : P.underlying dT = some (.slice elem)) (hsz : (P.info? elem).map (·.size) = some 1)
    (g off dLen dCap : Nat) (ad : Addr) (sLen sCap : Nat) (hd : a.eval d = .slice (some ⟨g, off, none⟩) dLen dCap) (hs : a.eval s = .slice (some ad) sLen sCap)
    (n n' : Nd) (va va' : Value) (hN : NB w g n va) (cs : List Value) (hn : cs.length = Nat.min sLen dLen)
    (hsrc : ∀ (j : Nat) (v : Value), cs[j]? = some v → w.cell? (ad.add j) = some v) (hfit : off + cs.length ≤ 74) (h1 : ∀ v ∈ cs, v.oneCell' = true)
    (he : ∀ i, i < 74 → n'.c va' i = if off ≤ i ∧ i < off + cs.length then cs.getD (i - off) undef else n.c va i)
    (h : ∀ w', NB w' g n' va' → w.grownBy w' (some g) → wpList P ops Q rest (a.put o.dst (goInt cs.length)) w') : wpList P ops Q (o :: rest) a w := by
  refine wpList_copy_own hgd d s dT sT ho elem hu hsz g off dLen dCap ad sLen sCap hd hs (NA n va) _ hN cs hn hsrc (by rw [NA_size]; exact hfit) h1 (h _ ?_ ?_)
  · unfold NB NA
    rw [row_AN hfit, AN_congr (fun i hi => (he i hi).symm)]
    exact setRow_blk hN _
  · exact ⟨rfl, rfl, rfl, by simp [World.setRow], fun k hk hne => setRow_other w g k _ (fun e => hne (by rw [e]))⟩
end
theorem results_two {P : Program} {fn : Func} {p q : Tmp} {ty ty' : TypeId} (h : fn.results = #[.cell p ty, .cell q ty']) (tmps : Array Value) (w : World) (g g' : Nat) (t t' : TypeId) (cs cs' : Array Value) (d d' : TypeDesc)
    (hp : tmps.getD p undef = .pointer (some ⟨g, 0, none⟩)) (hq : tmps.getD q undef = .pointer (some ⟨g', 0, none⟩)) (hg : Blk w g t cs) (hg' : Blk w g' t' cs')
    (hu : P.underlying ty = some d) (hd : (match d with | .struct _ | .array _ _ => true | _ => false) = true) (hi : (P.info? ty).map (·.size) = some cs.size)
    (hu' : P.underlying ty' = some d') (hd' : (match d' with | .struct _ | .array _ _ => true | _ => false) = true) (hi' : (P.info? ty').map (·.size) = some cs'.size) :
    (results fn tmps).run P w = .ok (.tuple #[.agg cs, .agg cs']) w := by
  have hp' : tmps[p]?.getD undef = .pointer (some ⟨g, 0, none⟩) := by simpa using hp
  have hq' : tmps[q]?.getD undef = .pointer (some ⟨g', 0, none⟩) := by simpa using hq
  simp [results, h, hp', hq', asAddr, run_loadVar_row w g t ty cs (0, 0) d hg hu hd hi, run_loadVar_row w g' t' ty' cs' (0, 0) d' hg' hu' hd' hi']
end Go.Proofs.Ytofeoeknmlkjgaa.Nk
end
section
/- node.Sense. -/
set_option linter.unusedVariables false
namespace Go.Proofs.Ytofeoeknmlkjgaa.Nk
open Go.RowKit Go.Proofs.Ytofeoeknmlkjgaa Mb Fi Sm

def senseN (n : Nd) (d : Nat) (fr r0 r1 r2 : Int) : Nd := { n with fr := fr, di := fun k => if k / 3 = d then (if k % 3 = 0 then r0 else if k % 3 = 1 then r1 else r2) else 0, he := fun _ => 0 }
def OwnI (w : World) (base : Nat) (A : Option Addr) (m c : Nat) (vs : List Int) : Prop := Ints w .i64 A m vs ∧ (A = none → m = 0 ∧ c = 0) ∧ m ≤ c ∧ ∀ ad, A = some ad → ad.spot = none ∧ base ≤ ad.block ∧ ad.block < w.heap.size ∧ w.there ad.block ad.off m ∧ (c = m ∨ (ad.off = 0 ∧ ∃ cur, Blk w ad.block 3 cur ∧ c = cur.size ∧ c ≤ maxLen)) ∧ ∃ t cur, Blk w ad.block t cur ∧ t ≠ 4
def PhPost (n' : Nd) (bs : List Value) (k f r : Int) (vs : List Int) (w : World) (e : Ending) (w' : World) : Prop :=
  ∃ A' c' Am cm, e = .returned (.tuple #[.agg (NA n' (.slice A' bs.length c')), .agg #[.int .i64 k, .int .i64 f, .int .i64 r, .slice Am vs.length cm]]) ∧
    w'.ownsRow w.heap.size 4 1 (.slice A' bs.length c') bs.length bs ∧ OwnI w' w.heap.size Am vs.length cm vs ∧ Below w.heap.size w w'

theorem OwnI.grown {w w' : World} {B q m c : Nat} {A : Option Addr} {vs : List Int} (h : OwnI w B A m c vs) (hg : w.grownBy w' (some q)) (hne : ∀ ad, A = some ad → ad.block ≠ q) : OwnI w' B A m c vs := by
  obtain ⟨h1, h2, h3, h4⟩ := h
  refine ⟨⟨h1.1, fun hn => ?_⟩, h2, h3, fun ad e => ?_⟩
  · obtain ⟨b, off, e, hlt, hc⟩ := h1.2 hn
    refine ⟨b, off, e, Nat.lt_of_lt_of_le hlt hg.size, fun j hj => ?_⟩
    rw [← hc j hj]
    exact World.cell?_of_block (hg.block b hlt (by intro e2; exact hne _ e (Option.some.inj e2)))
  · obtain ⟨k1, k2, k3, k4, k5, t6, cur6, k6, k7⟩ := h4 ad e
    have hb := hg.block ad.block k3 (by intro e2; exact hne _ e (Option.some.inj e2))
    refine ⟨k1, k2, Nat.lt_of_lt_of_le k3 hg.size, fun j hj => ?_, k5.imp id fun ⟨a, cur, hbl, r⟩ => ⟨a, cur, Blk.grown hbl hg (by intro e2; exact hne _ e (Option.some.inj e2)), r⟩, t6, cur6, Blk.grown k6 hg (by intro e2; exact hne _ e (Option.some.inj e2)), k7⟩
    rw [World.cell?_of_block (a := ⟨ad.block, ad.off + j, none⟩) hb, World.frozen?_of_block (a := ⟨ad.block, ad.off + j, none⟩) hb]
    exact k4 j hj
theorem OwnI.next {w w' : World} {B m c : Nat} {A : Option Addr} {vs : List Int} (h : OwnI w B A m c vs) (hb : Below w.heap.size w w') : OwnI w' B A m c vs :=
  h.grown (q := w.heap.size) (grown_below hb) (fun ad e => by have := (h.2.2.2 ad e).2.2.1; omega)
theorem OwnI.down {w : World} {B B' m c : Nat} {A : Option Addr} {vs : List Int} (h : OwnI w B A m c vs) (hb : B' ≤ B) : OwnI w B' A m c vs :=
  ⟨h.1, h.2.1, h.2.2.1, fun ad e => by obtain ⟨k1, k2, k3, k4⟩ := h.2.2.2 ad e; exact ⟨k1, Nat.le_trans hb k2, k3, k4⟩⟩
theorem ph_end {w w7 w8 w9 w10 : World} {n7 : Nd} {A' Am : Option Addr} {c' cm b0 g1 g2 : Nat} {bs : List Value} {k f r : Int} {vs : List Int} {zc ms : Array Value} (hg1 : w.heap.size ≤ g1) (hg2 : w.heap.size ≤ g2) (h12 : g2 ≠ g1)
    (hZ : Blk w7 g1 45 zc) (hM : Blk w7 g2 64 ms) (hO : w7.ownsRow b0 4 1 (.slice A' bs.length c') bs.length bs) (hb0 : w.heap.size ≤ b0) (hB : Below w.heap.size w w7) (hb8 : Below w7.heap.size w7 w8)
    (hg9 : w8.grownBy w9 (some g1)) (hg10 : w9.grownBy w10 (some g2)) (hI : OwnI w8 w.heap.size Am vs.length cm vs) (hne : ∀ ad, Am = some ad → ad.block ≠ g1 ∧ ad.block ≠ g2) :
    PhPost n7 bs k f r vs w (.returned (.tuple #[.agg (NA n7 (.slice A' bs.length c')), .agg #[.int .i64 k, .int .i64 f, .int .i64 r, .slice Am vs.length cm]])) w10 := by
  have hzz := hZ.next hb8
  have hmm := (hM.next hb8).grown hg9 (by intro e; exact h12 (Option.some.inj e))
  have ho8 := own_below hO hb8 (fun x hx => (hO.lt x hx).2)
  have ho10 := own_kept_t (own_kept_t ho8 hg9 hzz (by decide)) hg10 hmm (by decide)
  have s7 := hB.size
  have b8 := hB.trans (hb8.mono s7)
  have b9 := b8.grown hg9 b8.size (fun j hj => by cases hj; exact hg1)
  have b10 := b9.grown hg10 b9.size (fun j hj => by cases hj; exact hg2)
  exact ⟨A', c', Am, cm, rfl, own_le ho10 hb0, (hI.grown hg9 (fun ad e => (hne ad e).1)).grown hg10 (fun ad e => (hne ad e).2), b10⟩
end Go.Proofs.Ytofeoeknmlkjgaa.Nk
end
