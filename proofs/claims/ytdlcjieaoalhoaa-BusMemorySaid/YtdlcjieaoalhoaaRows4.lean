/- Rows of cells as functions; a block of slices, each of which owns a row of numbers. Over any program. -/
import Derived.Test.YtdlcjieaoalhoaaKit
import Derived.Maps.AppendAt
import Derived.Deep.AppendLies
import Derived.Deep.MidRow
import Derived.Laws.Rows
set_option linter.unusedVariables false
namespace Go.Proofs.Ytdlcjieaoalhoaa
open Go.RowKit

/-- n cells, said by a function -/
def AN (n : Nat) (f : Nat → Value) : Array Value := ((List.range n).map f).toArray
theorem AN_get {n k : Nat} {f : Nat → Value} (h : k < n) : (AN n f)[k]? = some (f k) := by simp [AN, h]
theorem AN_size (n : Nat) (f : Nat → Value) : (AN n f).size = n := by simp [AN]
theorem AN_set {n k : Nat} {f : Nat → Value} {u : Value} : (AN n f).setIfInBounds k u = AN n (fun i => if i = k then u else f i) := by
  apply Array.ext
  · simp [AN]
  · intro i h1 h2
    rw [Array.getElem_setIfInBounds (by simpa [AN] using h2)]
    simp only [AN, List.getElem_toArray, List.getElem_map, List.getElem_range]
    by_cases h : k = i
    · simp [h]
    · rw [if_neg h, if_neg (fun e => h e.symm)]
theorem AN_congr {n : Nat} {f g : Nat → Value} (h : ∀ i, i < n → f i = g i) : AN n f = AN n g := by
  unfold AN
  congr 1
  apply List.map_congr_left
  intro i hi
  exact h i (by simpa using hi)

theorem cell_same {w w' : World} {b : Nat} (h : w'.heap[b]? = w.heap[b]?) (o : Nat) : w'.cell? ⟨b, o, none⟩ = w.cell? ⟨b, o, none⟩ := by unfold World.cell?; simp only; rw [h]
theorem grown_set (w : World) (g i : Nat) (u : Value) : w.grownBy (w.setCell ⟨g, i, none⟩ u) (some g) := ⟨rfl, rfl, rfl, by simp [World.setCell], fun k _ hne => Below.heap_setCell _ _ _ _ (by simpa using hne)⟩
theorem grown_trans {w w1 w2 : World} {row : Option Nat} (h : w.grownBy w1 row) (k : w1.grownBy w2 row) : w.grownBy w2 row :=
  ⟨k.os.trans h.os, k.tape.trans h.tape, k.output.trans h.output, Nat.le_trans h.size k.size, fun j hj hne => (k.block j (Nat.lt_of_lt_of_le hj h.size) hne).trans (h.block j hj hne)⟩
theorem grown_below {w w' : World} {row : Option Nat} (h : Below w.heap.size w w') : w.grownBy w' row := ⟨h.os, h.tape, h.output, h.size, fun j hj _ => h.block j hj⟩

theorem own_below {w w' : World} {B base size n : Nat} {e : TypeId} {v : Value} {xs : List Value} (h : w.ownsRow base e size v n xs) (hb : Below B w w') (hl : ∀ g, v.ownBlock = some g → g < B) : w'.ownsRow base e size v n xs := by
  refine ⟨h.1, ?_⟩
  rcases h.2 with h2 | ⟨g, cap, cur, hv, hg, hh, r⟩
  · exact .inl h2
  · exact .inr ⟨g, cap, cur, hv, hg, (hb.block g (hl g (by rw [hv]; rfl))).trans hh, r⟩

/-- block g (of type T) holds n slices; the i-th owns a row of elements (of type E) that read L i -/
def Rows (w : World) (base : Nat) (T E : TypeId) (n g : Nat) (L : Nat → List Value) (v : Nat → Value) : Prop :=
  Blk w g T (AN n v) ∧ (∀ i, i < n → w.ownsRow base E 1 (v i) (L i).length (L i)) ∧ (∀ i j, i < n → j < n → i ≠ j → ∀ x, (v i).ownBlock = some x → (v j).ownBlock ≠ some x)

section
variable {w w' : World} {base : Nat} {T E : TypeId} {n g : Nat} {L : Nat → List Value} {v : Nat → Value}

theorem Rows.start (w : World) (base : Nat) (T E : TypeId) (n g : Nat) (h : Blk w g T (AN n fun _ => .slice none 0 0)) : Rows w base T E n g (fun _ => []) (fun _ => .slice none 0 0) :=
  ⟨h, fun i hi => World.ownsRow_nil _ _ _ _, fun i j _ _ _ x hx => by cases hx⟩
theorem Rows.lt (h : Rows w base T E n g L v) {i : Nat} (hi : i < n) {x : Nat} (hx : (v i).ownBlock = some x) : x < w.heap.size ∧ base ≤ x := by
  have := (h.2.1 i hi).lt x hx
  exact ⟨this.2, this.1⟩
/-- another block was written, or new ones made -/
theorem Rows.grown {q : Nat} {t : TypeId} {cs : Array Value} (h : Rows w base T E n g L v) (hg : w.grownBy w' (some q)) (hq : Blk w q t cs) (ht : E ≠ t) (hne : g ≠ q) : Rows w' base T E n g L v :=
  ⟨h.1.grown hg (by simpa using hne), fun i hi => (h.2.1 i hi).kept hg (.inr fun e => own_blk_ne (h.2.1 i hi) hq ht e.symm), h.2.2⟩
theorem Rows.next (h : Rows w base T E n g L v) (hb : Below w.heap.size w w') : Rows w' base T E n g L v :=
  ⟨h.1.next hb, fun i hi => own_below (h.2.1 i hi) hb (fun x hx => (h.lt hi hx).1), h.2.2⟩
theorem Rows.alloc (h : Rows w base T E n g L v) (o : Obj) : Rows (w.alloc o) base T E n g L v := h.next ((Below.refl _ _).alloc (Nat.le_refl _) _)
theorem Rows.drewN (h : Rows w base T E n g L v) (m : Nat) : Rows (w.drewN m) base T E n g L v := h.next (below_drewN _ _ _)
theorem Rows.set_far (h : Rows w base T E n g L v) {q i : Nat} {t : TypeId} {cs : Array Value} {u : Value} (hq : Blk w q t cs) (ht : E ≠ t) (hne : g ≠ q) : Rows (w.setCell ⟨q, i, none⟩ u) base T E n g L v :=
  h.grown (grown_set _ _ _ _) hq ht hne
/-- the k-th row was appended to, and its slice stored back -/
theorem Rows.append {k : Nat} {u : Value} {xs : List Value} (h : Rows w base T E n g L v) (hk : k < n) (hT : E ≠ T) (hown : w'.ownsRow base E 1 u xs.length xs) (hg : w.grownBy w' (v k).ownBlock)
    (hu : ∀ x, u.ownBlock = some x → (v k).ownBlock = some x ∨ w.heap.size ≤ x) : Rows (w'.setCell ⟨g, k, none⟩ u) base T E n g (fun i => if i = k then xs else L i) (fun i => if i = k then u else v i) := by
  have hgk : some g ≠ (v k).ownBlock := own_blk_ne (h.2.1 k hk) h.1 hT
  have hb := h.1.grown hg hgk
  have hbs := hb.set_ k u
  rw [AN_set] at hbs
  refine ⟨hbs, fun i hi => ?_, fun i j hi hj hne x hx => ?_⟩
  · by_cases e : i = k
    · simp only [e, if_true]
      exact own_set hown (own_blk_ne hown hb hT) _
    · simp only [e, if_false]
      have ho : w'.ownsRow base E 1 (v i) (L i).length (L i) := by
        refine (h.2.1 i hi).kept hg ?_
        cases hv : (v i).ownBlock with
        | none => exact .inl rfl
        | some x => exact .inr fun hh => h.2.2 i k hi hk e x hv hh.symm
      exact own_set ho (own_blk_ne ho hb hT) _
  · by_cases e : i = k
    · simp only [e, if_true] at hx
      have e2 : j ≠ k := fun e2 => hne (e.trans e2.symm)
      simp only [e2, if_false]
      rcases hu x hx with hh | hh
      · exact fun hj2 => h.2.2 j k hj hk e2 x hj2 hh
      · exact fun hj2 => by have := (h.lt hj hj2).1; omega
    · simp only [e, if_false] at hx
      by_cases e2 : j = k
      · simp only [e2, if_true]
        intro hh
        rcases hu x hh with h1 | h1
        · exact h.2.2 i k hi hk e x hx h1
        · have := (h.lt hi hx).1; omega
      · simp only [e2, if_false]
        exact h.2.2 i j hi hj hne x hx
end

theorem grown_setCells (g : Nat) : ∀ (vs : List Value) (o : Nat) (w : World), w.grownBy (w.setCells g o vs) (some g)
  | [], o, w => ⟨rfl, rfl, rfl, Nat.le_refl _, fun _ _ _ => rfl⟩
  | v :: vs, o, w => by
    rw [World.setCells]
    exact grown_trans (grown_set w g o v) (grown_setCells g vs (o + 1) _)
theorem blk_setCells_at {g : Nat} {t : TypeId} : ∀ (vs : List Value) (o : Nat) (w : World) (cs : Array Value), Blk w g t cs → ∃ cs', Blk (w.setCells g o vs) g t cs' ∧ cs'.size = cs.size ∧ ∀ j, j < cs.size → cs'[j]? = if o ≤ j ∧ j < o + vs.length then vs[j - o]? else cs[j]?
  | [], o, w, cs, h => ⟨cs, h, rfl, fun j _ => by rw [if_neg (by simp)]⟩
  | v :: vs, o, w, cs, h => by
    rw [World.setCells]
    obtain ⟨cs', h1, h2, h3⟩ := blk_setCells_at vs (o + 1) _ _ (h.set_ o v)
    refine ⟨cs', h1, by rw [h2, Array.size_setIfInBounds], fun j hj => ?_⟩
    rw [h3 j (by rw [Array.size_setIfInBounds]; exact hj)]
    simp only [List.length_cons]
    by_cases e : j = o
    · subst e
      rw [if_neg (by omega), if_pos (by omega), Nat.sub_self]
      simp [hj]
    · by_cases e2 : o + 1 ≤ j ∧ j < o + 1 + vs.length
      · rw [if_pos e2, if_pos (by omega), show j - o = (j - (o + 1)) + 1 by omega, List.getElem?_cons_succ]
      · rw [if_neg e2, if_neg (by omega), Array.getElem?_setIfInBounds, if_neg (fun h => e h.symm)]
/-- a whole block is written over -/
theorem Blk.over {w : World} {g : Nat} {t : TypeId} {cs vs : Array Value} (h : Blk w g t cs) (hl : vs.size = cs.size) : Blk (w.setCells g 0 vs.toList) g t vs := by
  obtain ⟨cs', h1, h2, h3⟩ := blk_setCells_at vs.toList 0 w cs h
  have e : cs' = vs := by
    apply Array.ext (by omega)
    intro i a b
    have := h3 i (by omega)
    rw [if_pos (by simp; omega), Array.getElem?_eq_getElem a] at this
    simp at this
    rw [Array.getElem?_eq_getElem b] at this
    exact Option.some.inj this
  rw [e] at h1
  exact h1

theorem run_storeCells_blk {P : Program} {w : World} {g : Nat} {t : TypeId} {cs vs : Array Value} (h : Blk w g t cs) (hl : vs.size = cs.size) (h1 : vs.all (·.oneCell') = true) :
    (storeCells ⟨g, 0, none⟩ vs.toList).run P w = .ok () (w.setCells g 0 vs.toList) := by
  have := run_storeCells_cells (P := P) g 0 vs.toList 0 w (fun j hj => by
      rw [Nat.zero_add, h.cell j, Array.getElem?_eq_getElem (by simp at hj; omega)]; rfl) (fun j hj => by rw [Nat.zero_add]; exact h.frozen j)
    (fun v hv => (Array.all_eq_true_iff_forall_mem.1 h1) v (by simpa using hv))
  exact this

section
variable {P : Program} {w : World} {ops : Array Oper} {rest : List Oper} {o : Oper} {a : Act} {Q : Exit → Act → World → Prop}
/-- a whole struct or array goes into a block that is known whole -/
theorem wpList_store_blk (hgd : o.guard = none) (ty : TypeId) (x y : Operand) (ho : o.op = .store ty x y)
    (g : Nat) (t : TypeId) (cs cells : Array Value) (hx : a.eval x = .pointer (some ⟨g, 0, none⟩)) (hy : a.eval y = .agg cells)
    (hb : Blk w g t cs) (hl : cells.size = cs.size) (hi : (P.info? ty).map (·.size) = some cells.size) (h1 : cells.all (·.oneCell') = true)
    (h : ∀ w', Blk w' g t cells → w.grownBy w' (some g) → wpList P ops Q rest (a.put o.dst undef) w') : wpList P ops Q (o :: rest) a w := by
  refine wpList_store_mid hgd ty x y ho g 0 cells hx hy (fun j hj => ?_) hi h1 (h _ (hb.over hl) (grown_setCells g _ _ _))
  rw [Nat.zero_add]
  refine ⟨?_, hb.frozen j⟩
  rw [hb.cell j, Array.getElem?_eq_getElem (by omega)]
  rfl
/-- a whole struct or array out of a block that is known whole, guarded or not -/
theorem wpList_load_roww (hgd : Region.wanted o (yielded ops a.tmps) = true) (ty : TypeId) (x : Operand) (ho : o.op = .load ty x)
    (g : Nat) (hx : a.eval x = .pointer (some ⟨g, 0, none⟩)) (t : TypeId) (cs : Array Value) (d : TypeDesc) (hb : Blk w g t cs)
    (hu : P.underlying ty = some d) (hd : (match d with | .struct _ | .array _ _ => true | _ => false) = true) (hi : (P.info? ty).map (·.size) = some cs.size)
    (h : wpList P ops Q rest (a.put o.dst (.agg cs)) w) : wpList P ops Q (o :: rest) a w := by
  refine wpList_step fun K hK => ?_
  rw [if_pos hgd]
  exact wp_load_row ty x ho g hx t cs (0, 0) d hb hu hd hi (hK _ _ h)
end
end Go.Proofs.Ytdlcjieaoalhoaa
