/- Merged: Rows4 Build1 Same. -/
import Derived.Deep.AppendLies
import Derived.Deep.MidRow
import Derived.Laws.Rows
import Derived.Lib.SliceRun
import Derived.Maps.AppendAt
import Derived.Test.YtofeoeknmlkjgaaZ02
set_option linter.unusedVariables false
set_option linter.unusedSimpArgs false
section
/- Rows of cells as functions; a block of slices, each of which owns a row of numbers. Over any program. -/
set_option linter.unusedVariables false
namespace Go.Proofs.Ytofeoeknmlkjgaa
open Go.RowKit

def AN (n : Nat) (f : Nat → Value) : Array Value := ((List.range n).map f).toArray
theorem AN_get {n k : Nat} {f : Nat → Value} (h : k < n) : (AN n f)[k]? = some (f k) := by simp [AN, h]
theorem AN_size (n : Nat) (f : Nat → Value) : (AN n f).size = n := by simp [AN]
theorem AN_set {n k : Nat} {f : Nat → Value} {u : Value} : (AN n f).setIfInBounds k u = AN n (fun i => if i = k then u else f i) := by
  apply Array.ext
  · simp [AN]
  · intro i h1 h2
    rw [Array.getElem_setIfInBounds (by simpa [AN] using h2)]
    simp only [AN, List.getElem_toArray, List.getElem_map, List.getElem_range]
    by_cases h : k = i
    · simp [h]
    · rw [if_neg h, if_neg (fun e => h e.symm)]
theorem AN_congr {n : Nat} {f g : Nat → Value} (h : ∀ i, i < n → f i = g i) : AN n f = AN n g := by
  unfold AN
  congr 1
  apply List.map_congr_left
  intro i hi
  exact h i (by simpa using hi)

theorem cell_same {w w' : World} {b : Nat} (h : w'.heap[b]? = w.heap[b]?) (o : Nat) : w'.cell? ⟨b, o, none⟩ = w.cell? ⟨b, o, none⟩ := by unfold World.cell?; simp only; rw [h]
theorem grown_set (w : World) (g i : Nat) (u : Value) : w.grownBy (w.setCell ⟨g, i, none⟩ u) (some g) := ⟨rfl, rfl, rfl, by simp [World.setCell], fun k _ hne => Below.heap_setCell _ _ _ _ (by simpa using hne)⟩
theorem grown_trans {w w1 w2 : World} {row : Option Nat} (h : w.grownBy w1 row) (k : w1.grownBy w2 row) : w.grownBy w2 row :=
  ⟨k.os.trans h.os, k.tape.trans h.tape, k.output.trans h.output, Nat.le_trans h.size k.size, fun j hj hne => (k.block j (Nat.lt_of_lt_of_le hj h.size) hne).trans (h.block j hj hne)⟩
theorem grown_below {w w' : World} {row : Option Nat} (h : Below w.heap.size w w') : w.grownBy w' row := ⟨h.os, h.tape, h.output, h.size, fun j hj _ => h.block j hj⟩

theorem own_below {w w' : World} {B base size n : Nat} {e : TypeId} {v : Value} {xs : List Value} (h : w.ownsRow base e size v n xs) (hb : Below B w w') (hl : ∀ g, v.ownBlock = some g → g < B) : w'.ownsRow base e size v n xs := by
  refine ⟨h.1, ?_⟩
  rcases h.2 with h2 | ⟨g, cap, cur, hv, hg, hh, r⟩
  · exact .inl h2
  · exact .inr ⟨g, cap, cur, hv, hg, (hb.block g (hl g (by rw [hv]; rfl))).trans hh, r⟩

def Rows (w : World) (base : Nat) (T E : TypeId) (n g : Nat) (L : Nat → List Value) (v : Nat → Value) : Prop :=
  Blk w g T (AN n v) ∧ (∀ i, i < n → w.ownsRow base E 1 (v i) (L i).length (L i)) ∧ (∀ i j, i < n → j < n → i ≠ j → ∀ x, (v i).ownBlock = some x → (v j).ownBlock ≠ some x)

section
variable {w w' : World} {base : Nat} {T E : TypeId} {n g : Nat} {L : Nat → List Value} {v : Nat → Value}

theorem Rows.start (w : World) (base : Nat) (T E : TypeId) (n g : Nat) (h : Blk w g T (AN n fun _ => .slice none 0 0)) : Rows w base T E n g (fun _ => []) (fun _ => .slice none 0 0) :=
  ⟨h, fun i hi => World.ownsRow_nil _ _ _ _, fun i j _ _ _ x hx => by cases hx⟩
theorem Rows.lt (h : Rows w base T E n g L v) {i : Nat} (hi : i < n) {x : Nat} (hx : (v i).ownBlock = some x) : x < w.heap.size ∧ base ≤ x := by
  have := (h.2.1 i hi).lt x hx
  exact ⟨this.2, this.1⟩
theorem Rows.grown {q : Nat} {t : TypeId} {cs : Array Value} (h : Rows w base T E n g L v) (hg : w.grownBy w' (some q)) (hq : Blk w q t cs) (ht : E ≠ t) (hne : g ≠ q) : Rows w' base T E n g L v :=
  ⟨h.1.grown hg (by simpa using hne), fun i hi => (h.2.1 i hi).kept hg (.inr fun e => own_blk_ne (h.2.1 i hi) hq ht e.symm), h.2.2⟩
theorem Rows.next (h : Rows w base T E n g L v) (hb : Below w.heap.size w w') : Rows w' base T E n g L v :=
  ⟨h.1.next hb, fun i hi => own_below (h.2.1 i hi) hb (fun x hx => (h.lt hi hx).1), h.2.2⟩
theorem Rows.alloc (h : Rows w base T E n g L v) (o : Obj) : Rows (w.alloc o) base T E n g L v := h.next ((Below.refl _ _).alloc (Nat.le_refl _) _)
theorem Rows.drewN (h : Rows w base T E n g L v) (m : Nat) : Rows (w.drewN m) base T E n g L v := h.next (below_drewN _ _ _)
theorem Rows.append {k : Nat} {u : Value} {xs : List Value} (h : Rows w base T E n g L v) (hk : k < n) (hT : E ≠ T) (hown : w'.ownsRow base E 1 u xs.length xs) (hg : w.grownBy w' (v k).ownBlock)
    (hu : ∀ x, u.ownBlock = some x → (v k).ownBlock = some x ∨ w.heap.size ≤ x) : Rows (w'.setCell ⟨g, k, none⟩ u) base T E n g (fun i => if i = k then xs else L i) (fun i => if i = k then u else v i) := by
  have hgk : some g ≠ (v k).ownBlock := own_blk_ne (h.2.1 k hk) h.1 hT
  have hb := h.1.grown hg hgk
  have hbs := hb.set_ k u
  rw [AN_set] at hbs
  refine ⟨hbs, fun i hi => ?_, fun i j hi hj hne x hx => ?_⟩
  · by_cases e : i = k
    · simp only [e, if_true]
      exact own_set hown (own_blk_ne hown hb hT) _
    · simp only [e, if_false]
      have ho : w'.ownsRow base E 1 (v i) (L i).length (L i) := by
        refine (h.2.1 i hi).kept hg ?_
        cases hv : (v i).ownBlock with
        | none => exact .inl rfl
        | some x => exact .inr fun hh => h.2.2 i k hi hk e x hv hh.symm
      exact own_set ho (own_blk_ne ho hb hT) _
  · by_cases e : i = k
    · simp only [e, if_true] at hx
      have e2 : j ≠ k := fun e2 => hne (e.trans e2.symm)
      simp only [e2, if_false]
      rcases hu x hx with hh | hh
      · exact fun hj2 => h.2.2 j k hj hk e2 x hj2 hh
      · exact fun hj2 => by have := (h.lt hj hj2).1; omega
    · simp only [e, if_false] at hx
      by_cases e2 : j = k
      · simp only [e2, if_true]
        intro hh
        rcases hu x hh with h1 | h1
        · exact h.2.2 i k hi hk e x hx h1
        · have := (h.lt hi hx).1; omega
      · simp only [e2, if_false]
        exact h.2.2 i j hi hj hne x hx
end

theorem grown_setCells (g : Nat) : ∀ (vs : List Value) (o : Nat) (w : World), w.grownBy (w.setCells g o vs) (some g)
  | [], o, w => ⟨rfl, rfl, rfl, Nat.le_refl _, fun _ _ _ => rfl⟩
  | v :: vs, o, w => by
    rw [World.setCells]
    exact grown_trans (grown_set w g o v) (grown_setCells g vs (o + 1) _)
theorem blk_setCells_at {g : Nat} {t : TypeId} : ∀ (vs : List Value) (o : Nat) (w : World) (cs : Array Value), Blk w g t cs → ∃ cs', Blk (w.setCells g o vs) g t cs' ∧ cs'.size = cs.size ∧ ∀ j, j < cs.size → cs'[j]? = if o ≤ j ∧ j < o + vs.length then vs[j - o]? else cs[j]?
  | [], o, w, cs, h => ⟨cs, h, rfl, fun j _ => by rw [if_neg (by simp)]⟩
  | v :: vs, o, w, cs, h => by
    rw [World.setCells]
    obtain ⟨cs', h1, h2, h3⟩ := blk_setCells_at vs (o + 1) _ _ (h.set_ o v)
    refine ⟨cs', h1, by rw [h2, Array.size_setIfInBounds], fun j hj => ?_⟩
    rw [h3 j (by rw [Array.size_setIfInBounds]; exact hj)]
    simp only [List.length_cons]
    by_cases e : j = o
    · subst e
      rw [if_neg (by omega), if_pos (by omega), Nat.sub_self]
      simp [hj]
    · by_cases e2 : o + 1 ≤ j ∧ j < o + 1 + vs.length
      · rw [if_pos e2, if_pos (by omega), show j - o = (j - (o + 1)) + 1 by omega, List.getElem?_cons_succ]
      · rw [if_neg e2, if_neg (by omega), Array.getElem?_setIfInBounds, if_neg (fun h => e h.symm)]
theorem Blk.over {w : World} {g : Nat} {t : TypeId} {cs vs : Array Value} (h : Blk w g t cs) (hl : vs.size = cs.size) : Blk (w.setCells g 0 vs.toList) g t vs := by
  obtain ⟨cs', h1, h2, h3⟩ := blk_setCells_at vs.toList 0 w cs h
  have e : cs' = vs := by
    apply Array.ext (by omega)
    intro i a b
    have := h3 i (by omega)
    rw [if_pos (by simp; omega), Array.getElem?_eq_getElem a] at this
    simp at this
    rw [Array.getElem?_eq_getElem b] at this
    exact Option.some.inj this
  rw [e] at h1
  exact h1

section
variable {P : Program} {w : World} {ops : Array Oper} {rest : List Oper} {o : Oper} {a : Act} {Q : Exit → Act → World → Prop}
theorem wpList_store_blk (hgd : o.guard = none) (ty : TypeId) (x y : Operand) (ho : o.op = .store ty x y)
    (g : Nat) (t : TypeId) (cs cells : Array Value) (hx : a.eval x = .pointer (some ⟨g, 0, none⟩)) (hy : a.eval y = .agg cells)
    (hb : Blk w g t cs) (hl : cells.size = cs.size) (hi : (P.info? ty).map (·.size) = some cells.size) (h1 : cells.all (·.oneCell') = true)
    (h : ∀ w', Blk w' g t cells → w.grownBy w' (some g) → wpList P ops Q rest (a.put o.dst undef) w') : wpList P ops Q (o :: rest) a w := by
  refine wpList_store_mid hgd ty x y ho g 0 cells hx hy (fun j hj => ?_) hi h1 (h _ (hb.over hl) (grown_setCells g _ _ _))
  rw [Nat.zero_add]
  refine ⟨?_, hb.frozen j⟩
  rw [hb.cell j, Array.getElem?_eq_getElem (by omega)]
  rfl
theorem wpList_load_roww (hgd : Region.wanted o (yielded ops a.tmps) = true) (ty : TypeId) (x : Operand) (ho : o.op = .load ty x)
    (g : Nat) (hx : a.eval x = .pointer (some ⟨g, 0, none⟩)) (t : TypeId) (cs : Array Value) (d : TypeDesc) (hb : Blk w g t cs)
    (hu : P.underlying ty = some d) (hd : (match d with | .struct _ | .array _ _ => true | _ => false) = true) (hi : (P.info? ty).map (·.size) = some cs.size)
    (h : wpList P ops Q rest (a.put o.dst (.agg cs)) w) : wpList P ops Q (o :: rest) a w := by
  refine wpList_step fun K hK => ?_
  rw [if_pos hgd]
  exact wp_load_row ty x ho g hx t cs (0, 0) d hb hu hd hi (hK _ _ h)
end
end Go.Proofs.Ytofeoeknmlkjgaa
end
section
/- A slice literal of one large struct. Over any program. -/
set_option linter.unusedVariables false
namespace Go.Proofs.Ytofeoeknmlkjgaa
open Go.RowKit

theorem fold_list : ∀ (l : List Value) (k : Nat) (zs : Array Value), ((l.zipIdx k).foldl (fun a (p : Value × Nat) => a.setIfInBounds (0 + p.2) p.1) zs).size = zs.size ∧
    ∀ j, j < zs.size → ((l.zipIdx k).foldl (fun a (p : Value × Nat) => a.setIfInBounds (0 + p.2) p.1) zs)[j]? = if k ≤ j ∧ j < k + l.length then l[j - k]? else zs[j]?
  | [], k, zs => ⟨rfl, fun j hj => by rw [if_neg (by simp)]; rfl⟩
  | v :: l, k, zs => by
    rw [List.zipIdx_cons, List.foldl_cons]
    obtain ⟨h1, h2⟩ := fold_list l (k + 1) (zs.setIfInBounds (0 + k) v)
    rw [Array.size_setIfInBounds] at h1
    refine ⟨h1, fun j hj => ?_⟩
    rw [h2 j (by rw [Array.size_setIfInBounds]; exact hj)]
    simp only [List.length_cons, Nat.zero_add]
    by_cases e : j = k
    · subst e
      rw [if_neg (by omega), if_pos (by omega), Nat.sub_self]
      simp [hj]
    · by_cases e2 : k + 1 ≤ j ∧ j < k + 1 + l.length
      · rw [if_pos e2, if_pos (by omega), show j - k = (j - (k + 1)) + 1 by omega, List.getElem?_cons_succ]
      · rw [if_neg e2, if_neg (by omega), Array.getElem?_setIfInBounds, if_neg (fun h => e h.symm)]
theorem fold_all (cs zs : Array Value) (h : zs.size = cs.size) : cs.zipIdx.foldl (fun a (p : Value × Nat) => a.setIfInBounds (0 + p.2) p.1) zs = cs := by
  have e : cs.zipIdx.foldl (fun a (p : Value × Nat) => a.setIfInBounds (0 + p.2) p.1) zs = (cs.toList.zipIdx 0).foldl (fun a (p : Value × Nat) => a.setIfInBounds (0 + p.2) p.1) zs := by
    rw [← Array.foldl_toList, Array.toList_zipIdx]
  rw [e]
  obtain ⟨h1, h2⟩ := fold_list cs.toList 0 zs
  apply Array.ext_getElem?
  intro j
  by_cases hj : j < zs.size
  · rw [h2 j hj, if_pos (by simp; omega)]
    simp
  · rw [Array.getElem?_eq_none (by omega), Array.getElem?_eq_none (by omega)]
theorem fold_all' (cs zs : Array Value) (h : zs.size = cs.size) : Array.foldl (fun a (p : Value × Nat) => a.setIfInBounds p.2 p.1) zs cs.zipIdx 0 cs.size = cs := by
  have h2 := fold_all cs zs h
  simpa using h2
theorem run_buildSlice1 {P : Program} {w : World} {t e : TypeId} {i : TypeInfo} {z : Value} {cs : Array Value} (hu : P.underlying t = some (.slice e)) (hi : P.info? e = some i) (hs : i.size = cs.size) (hz : i.zero = some z) (hzs : z.cells.size = cs.size) (h0 : 0 < cs.size) (h24 : cs.size ≤ 16777216) :
    (Instr.buildSlice t 1 #[(0, .agg cs)]).run P w = .ok (.slice (some ⟨w.heap.size, 0, none⟩) 1 1) (w.alloc (.cells cs e)) := by
  have hf : ∀ zs : Array Value, zs.size = cs.size → Instr.fill (fun i => some (i * cs.size, cs.size)) zs [(0, .agg cs)] = some cs := fun zs h => by
    have := fold_all cs zs h
    simp only [Instr.fill, Value.cells, Nat.zero_mul]
    rw [if_neg (by simp; omega)]
    exact congrArg some this
  have hn : ¬ (16777216 < cs.size) := by omega
  have h1 : ¬ (cs.size = 0) := by omega
  have hf3 := hf ((Array.range cs.size).map fun x => z.cells[x % z.cells.size]!) (by simp)
  simp [Instr.buildSlice, run_underlying hu, sizeOf, typeInfo, hi, hs, zeroValue, hz, hn, h1, hf3, newRow, go_sem]
  exact congrArg (fun a => w.alloc (.cells a e)) (fold_all' cs _ (by simp))
section
variable {P : Program} {w : World} {ops : Array Oper} {rest : List Oper} {o : Oper} {a : Act} {Q : Exit → Act → World → Prop}
theorem wpList_buildSlice1 (t : TypeId) (x : Operand) (ho : o.op = .buildSlice t 1 #[(0, x)]) (hgd : o.guard = none) (e : TypeId) (i : TypeInfo) (z : Value) (cs : Array Value) (hu : P.underlying t = some (.slice e)) (hi : P.info? e = some i) (hs : i.size = cs.size) (hz : i.zero = some z) (hzs : z.cells.size = cs.size) (h0 : 0 < cs.size) (h24 : cs.size ≤ 16777216) (hx : a.eval x = .agg cs)
    (h : wpList P ops Q rest (a.put o.dst (.slice (some ⟨w.heap.size, 0, none⟩) 1 1)) (w.alloc (.cells cs e))) : wpList P ops Q (o :: rest) a w :=
  wpList_plain hgd fun K hK => by
    have k := run_buildSlice1 (w := w) hu hi hs hz hzs h0 h24
    unfold Oper.wp execOp
    simp only [ho, List.map_toArray, List.map_cons, List.map_nil, hx, Sem.run_bind, Sem.run_pure, Result.andThen_ok, k]
    exact hK _ _ h
end
end Go.Proofs.Ytofeoeknmlkjgaa
end
section
/- Worlds that are as they were but for some blocks; rows of the call's own that are written into. Over any program. -/
set_option linter.unusedVariables false
namespace Go.Proofs.Ytofeoeknmlkjgaa.Sm
open Go.RowKit Go.Proofs.Ytofeoeknmlkjgaa

def InOwn : List Value → Nat → Prop
  | [], _ => False
  | v :: vs, k => v.ownBlock = some k ∨ InOwn vs k
def Same (W0 : World) (S : Nat → Prop) (W : World) : Prop := W.os = W0.os ∧ W.tape = W0.tape ∧ W.output = W0.output ∧ W0.heap.size ≤ W.heap.size ∧ ∀ k, k < W0.heap.size → ¬ S k → W.heap[k]? = W0.heap[k]?
section
variable {W0 W W' : World} {S S' : Nat → Prop}
theorem Same.refl (W0 : World) (S : Nat → Prop) : Same W0 S W0 := ⟨rfl, rfl, rfl, Nat.le_refl _, fun _ _ _ => rfl⟩
theorem Same.grown {row : Option Nat} (h : Same W0 S W) (hg : W.grownBy W' row) (hr : ∀ k, row = some k → k < W0.heap.size → S k) : Same W0 S W' :=
  ⟨hg.os.trans h.1, hg.tape.trans h.2.1, hg.output.trans h.2.2.1, Nat.le_trans h.2.2.2.1 hg.size, fun k hk hS => (hg.block k (Nat.lt_of_lt_of_le hk h.2.2.2.1) (fun e => hS (hr k e.symm hk))).trans (h.2.2.2.2 k hk hS)⟩
theorem Same.mono (h : Same W0 S W) (hS : ∀ k, S k → S' k) : Same W0 S' W := ⟨h.1, h.2.1, h.2.2.1, h.2.2.2.1, fun k hk hn => h.2.2.2.2 k hk (fun hs => hn (hS k hs))⟩
theorem Same.next (h : Same W0 S W) (hb : Below W.heap.size W W') : Same W0 S W' := h.grown (row := none) (grown_below hb) (fun k e => by cases e)
theorem Same.alloc (h : Same W0 S W) (o : Obj) : Same W0 S (W.alloc o) := h.next ((Below.refl _ _).alloc (Nat.le_refl _) _)
theorem Same.blk {g : Nat} {t : TypeId} {cs : Array Value} (h : Same W0 S W) (hb : Blk W0 g t cs) (hg : ¬ S g) : Blk W g t cs := (h.2.2.2.2 g hb.lt hg).trans hb
theorem Same.ints {A : Option Addr} {n : Nat} {zs : List Int} {q : IntKind} (h : Same W0 S W) (hi : Ints W0 q A n zs) (hg : ∀ ad, A = some ad → 0 < n → ¬ S ad.block) : Ints W q A n zs := by
  refine ⟨hi.1, fun hn => ?_⟩
  obtain ⟨b, off, rfl, hlt, hc⟩ := hi.2 hn
  have hh := h.2.2.2.2 b hlt (hg _ rfl hn)
  refine ⟨b, off, rfl, Nat.lt_of_lt_of_le hlt h.2.2.2.1, fun j hj => ?_⟩
  rw [← hc j hj]
  unfold World.cell?
  simp only
  rw [hh]
theorem Same.own {base size n : Nat} {e : TypeId} {v : Value} {xs : List Value} (h : Same W0 S W) (ho : W0.ownsRow base e size v n xs) (hg : ∀ k, v.ownBlock = some k → ¬ S k) : W.ownsRow base e size v n xs := by
  refine ⟨ho.1, ?_⟩
  rcases ho.2 with h2 | ⟨g, cap, cur, hv, hb, hh, r⟩
  · exact .inl h2
  · exact .inr ⟨g, cap, cur, hv, hb, (h.2.2.2.2 g (Array.getElem?_eq_some_iff.1 hh).1 (hg g (by rw [hv]; rfl))).trans hh, r⟩
theorem Same.below {B : Nat} {w : World} (h : Same W0 S W) (hb : Below B w W0) (hB : B ≤ W0.heap.size) (hS : ∀ k, S k → B ≤ k) : Below B w W :=
  ⟨h.1.trans hb.os, h.2.1.trans hb.tape, h.2.2.1.trans hb.output, Nat.le_trans hb.size h.2.2.2.1, fun k hk => (h.2.2.2.2 k (by omega) (fun hs => by have := hS k hs; omega)).trans (hb.block k hk)⟩
end
theorem own_parts {w : World} {base n m c : Nat} {e : TypeId} {A : Option Addr} {xs : List Value} (h : w.ownsRow base e 1 (.slice A m c) n xs) : m = n ∧ n ≤ c ∧ (0 < n → ∃ g, A = some ⟨g, 0, none⟩ ∧ base ≤ g ∧ g < w.heap.size) := by
  rcases h.2 with ⟨h1, h2⟩ | ⟨g, cap, cur, h1, hb, hh, h2, _⟩
  · injection h1 with a b c
    subst a b c
    exact ⟨h2.symm, by omega, fun h => by omega⟩
  · injection h1 with a b c
    subst a b c
    exact ⟨rfl, h2, fun _ => ⟨g, rfl, hb, (Array.getElem?_eq_some_iff.1 hh).1⟩⟩
theorem own_blk {w : World} {base g n cap : Nat} {e : TypeId} {xs : List Value} (h : w.ownsRow base e 1 (.slice (some ⟨g, 0, none⟩) n cap) n xs) : ∃ cur, Blk w g e cur ∧ n ≤ cur.size := by
  rcases h.2 with ⟨h1, _⟩ | ⟨g', cap', cur, hv, hb, hh, hc, hm, hs, ht⟩
  · cases h1
  · injection hv with h1 h2 h3
    injection h1 with h1
    injection h1 with h1
    subst h1
    exact ⟨cur, hh, by omega⟩
theorem own_frozen {w : World} {base g n cap : Nat} {e : TypeId} {xs : List Value} (h : w.ownsRow base e 1 (.slice (some ⟨g, 0, none⟩) n cap) n xs) (i : Nat) : w.frozen? ⟨g, i, none⟩ = false := by
  obtain ⟨cur, hb, hs⟩ := own_blk h
  exact hb.frozen i
def WrRel (w0 : World) (e : TypeId) (base n : Nat) (v iv : Value) (W : World) : Prop := ∃ i : Nat, i ≤ n ∧ iv = .int .i64 i ∧ (∃ xs, W.ownsRow base e 1 v n xs) ∧ w0.grownBy W v.ownBlock
theorem grown_refl (w : World) (row : Option Nat) : w.grownBy w row := ⟨rfl, rfl, rfl, Nat.le_refl _, fun _ _ _ => rfl⟩
theorem WrRel.start {w0 : World} {e : TypeId} {base n : Nat} {v : Value} {xs : List Value} (h : w0.ownsRow base e 1 v n xs) : WrRel w0 e base n v (.int .i64 0) w0 := ⟨0, Nat.zero_le _, rfl, ⟨xs, h⟩, grown_refl _ _⟩
end Go.Proofs.Ytofeoeknmlkjgaa.Sm
end
