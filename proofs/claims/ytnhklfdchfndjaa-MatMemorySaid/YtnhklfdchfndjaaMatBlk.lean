/- A block of numbers by index, and 'make' of one. -/
import Derived.Test.YtnhklfdchfndjaaMatSame
import Derived.Laws.MakeOwn
set_option linter.unusedVariables false
namespace Go.Proofs.Ytnhklfdchfndjaa.Mt
open Go.RowKit Go.Proofs.Ytnhklfdchfndjaa Fx

/-- the numbers f 0, f 1, .. as cells -/
def tabN (n : Nat) (f : Nat → Int) : Array Value := ((List.range n).map fun i => Value.int .i64 (f i)).toArray
/-- one number exchanged -/
def updI (f : Nat → Int) (i : Nat) (v : Int) : Nat → Int := fun j => if j = i then v else f j
theorem updI_same (f : Nat → Int) (i : Nat) (v : Int) : updI f i v i = v := by simp [updI]
theorem updI_far (f : Nat → Int) {i j : Nat} (v : Int) (h : j ≠ i) : updI f i v j = f j := by simp [updI, h]
theorem tabN_size (n : Nat) (f : Nat → Int) : (tabN n f).size = n := by simp [tabN]
theorem tabN_get {n i : Nat} (f : Nat → Int) (h : i < n) : (tabN n f)[i]? = some (.int .i64 (f i)) := by
  simp [tabN, h]
theorem tabN_set {n i : Nat} (f : Nat → Int) (h : i < n) (v : Int) : (tabN n f).setIfInBounds i (.int .i64 v) = tabN n (updI f i v) := by
  apply Array.ext
  · simp [tabN]
  · intro j h1 h2
    have hj : j < n := by simpa [tabN] using h2
    simp only [tabN, List.setIfInBounds_toArray, List.getElem_toArray, List.getElem_set, List.getElem_map, List.getElem_range, updI]
    by_cases e : i = j
    · subst e; simp
    · rw [if_neg e, if_neg (fun h => e h.symm)]
theorem made_tabN (n : Nat) : madeCells #[Value.int .i64 0] n = tabN n (fun _ => 0) := by
  apply Array.ext
  · simp [tabN, madeCells]
  · intro j h1 h2
    simp [tabN, madeCells, Nat.mod_one]
/-- a block of numbers, read as a slice -/
theorem ints_blk {w : World} {g : Nat} {t : TypeId} {n : Nat} {f : Nat → Int} (h : Blk w g t (tabN n f)) : Ints w .i64 (some ⟨g, 0, none⟩) n ((List.range n).map f) := by
  refine ⟨by simp, fun _ => ⟨g, 0, rfl, h.lt, fun j hj => ?_⟩⟩
  rw [Nat.zero_add, h.cell j, tabN_get f hj]
  simp [List.getD, hj]

section
variable {P : Program} {w : World} {ops : Array Oper} {rest : List Oper} {o : Oper} {a : Act} {Q : Exit → Act → World → Prop}
theorem wpList_make_ints (hg : o.guard = none) (l c : Operand) (t : TypeId) (hop : o.op = Op.makeSlice t l c)
    (e : TypeId) (i : TypeInfo) (h1 : P.underlying t = some (.slice e)) (h2 : P.info? e = some i) (h3 : i.zero = some (.int .i64 0)) (h4 : i.size = 1) (h5 : i.bytes = 8)
    (L : Int) (n : Nat) (hl : a.eval l = .int .i64 L) (hc : a.eval c = .int .i64 L) (hL : L = (n : Int)) (hn : n ≤ 1000)
    (hK : wpList P ops Q rest (a.put o.dst (.slice (some ⟨w.heap.size, 0, none⟩) n n)) (w.alloc (.cells (tabN n fun _ => 0) e))) : wpList P ops Q (o :: rest) a w := by
  refine wpList_plain hg fun K hK' => ?_
  subst hL
  have hr := run_make (P := P) w t e i _ h1 h2 h3 .i64 .i64 n n (by omega) (Int.le_refl _) (by rw [h5]; omega) (by omega)
  have ez : (Value.int .i64 0).cells = #[Value.int .i64 0] := rfl
  rw [h4, Nat.mul_one, ez, Int.toNat_natCast, made_tabN] at hr
  unfold Oper.wp
  simp [execOp, hop, hl, hc, hr, Result.andThen]
  exact hK' _ _ hK
end
end Go.Proofs.Ytnhklfdchfndjaa.Mt
