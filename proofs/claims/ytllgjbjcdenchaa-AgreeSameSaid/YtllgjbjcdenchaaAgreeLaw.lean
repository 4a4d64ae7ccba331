/- What AgreeSame and AgreeTrue share. -/
import Derived.Test.YtllgjbjcdenchaaAgreeVec
import Derived.Test.YtllgjbjcdenchaaEql
import Derived.Test.YtllgjbjcdenchaaAppend
import Derived.Test.YtllgjbjcdenchaaOpen
import Derived.Deep.RegionHeld3
import Derived.Deep.DrawnRows
import Derived.Deep.CutRange
import Derived.Deep.DeepCutAuto
set_option linter.unusedVariables false
namespace Go.Proofs.Ytllgjbjcdenchaa
open Go.RowKit Mj Ag

theorem tab_ones (M : Nat → Nat → Int) : ∀ v ∈ [Value.int .i64 (M 0 0), .int .i64 (M 0 1), .int .i64 (M 0 2), .int .i64 (M 0 3), .int .i64 (M 1 0), .int .i64 (M 1 1), .int .i64 (M 1 2), .int .i64 (M 1 3),
  .int .i64 (M 2 0), .int .i64 (M 2 1), .int .i64 (M 2 2), .int .i64 (M 2 3), .int .i64 (M 3 0), .int .i64 (M 3 1), .int .i64 (M 3 2), .int .i64 (M 3 3)], v.oneCell' = true := by simp [Value.oneCell']
theorem Blk.there {w : World} {g : Nat} {t : TypeId} {cs : Array Value} (h : Blk w g t cs) (n : Nat) (hn : n = cs.size) : w.there g 0 n := by
  intro j hj
  rw [Nat.zero_add]
  refine ⟨?_, h.frozen j⟩
  rw [h.cell j, Array.getElem?_eq_getElem (by omega)]
  rfl
theorem own_addr_lt {w : World} {base size n m c : Nat} {e : TypeId} {A : Option Addr} {xs : List Value} (h : w.ownsRow base e size (.slice A m c) n xs) : ∀ ad, A = some ad → ad.block < w.heap.size := by
  intro ad e
  subst e
  exact (h.lt ad.block rfl).2
/-- the table's cells, written out -/
theorem tab_lit (M : Nat → Nat → Int) : tab M = #[.int .i64 (M 0 0), .int .i64 (M 0 1), .int .i64 (M 0 2), .int .i64 (M 0 3), .int .i64 (M 1 0), .int .i64 (M 1 1), .int .i64 (M 1 2), .int .i64 (M 1 3), .int .i64 (M 2 0), .int .i64 (M 2 1), .int .i64 (M 2 2), .int .i64 (M 2 3), .int .i64 (M 3 0), .int .i64 (M 3 1), .int .i64 (M 3 2), .int .i64 (M 3 3)] := rfl
theorem below_sz {w w' : World} {o : Obj} (hb : Below (w.heap.size + 1) (w.alloc o) w') : w.heap.size + 1 ≤ w'.heap.size := by have := hb.size; simpa using this
theorem run_storeCells_blk {P : Program} {w : World} {g : Nat} {t : TypeId} {cs vs : Array Value} (h : Blk w g t cs) (hl : vs.size = cs.size) (h1 : vs.all (·.oneCell') = true) :
    (storeCells ⟨g, 0, none⟩ vs.toList).run P w = .ok () (w.setCells g 0 vs.toList) := by
  have := run_storeCells_cells (P := P) g 0 vs.toList 0 w (fun j hj => by
      rw [Nat.zero_add, h.cell j, Array.getElem?_eq_getElem (by simp at hj; omega)]; rfl) (fun j hj => by rw [Nat.zero_add]; exact h.frozen j)
    (fun v hv => (Array.all_eq_true_iff_forall_mem.1 h1) v (by simpa using hv))
  exact this
theorem gz_of {w : World} {g b : Nat} {t : TypeId} {cs : Array Value} (h : Blk w g t cs) (hb : b ≤ g) : b ≤ g := hb
section
variable {w w' : World} {o o' : Obj} (h : Below (w.heap.size + 1) (w.alloc o) w')
include h
theorem b1_alloc : Below (w.heap.size + 1) (w.alloc o) (w'.alloc o') := h.alloc (below_sz h) _
theorem b1_drew : Below (w.heap.size + 1) (w.alloc o) w'.drew := h.drew
theorem b1_set {g i : Nat} {vs : List Value} (hg : w.heap.size + 1 ≤ g) : Below (w.heap.size + 1) (w.alloc o) (w'.setCells g i vs) := h.grown (grown_setCells _ _ _ _) (below_sz h) (fun j hj => by cases hj; exact hg)
end
theorem tab_get (M : Nat → Nat → Int) {q s : Nat} (hq : q < 4) (hs : s < 4) : (tab M)[q * 4 + s]? = some (.int .i64 (M q s)) := by
  rw [← tab_eq, AN_get (by omega), show (q * 4 + s) / 4 = q by omega, show (q * 4 + s) % 4 = s by omega]
theorem vals_get {w w' : World} {x0 x1 x2 x3 : Int} (hb : Below (w.heap.size + 1) (w.alloc (.cells #[.int .i64 x0, .int .i64 x1, .int .i64 x2, .int .i64 x3] 30)) w') {s : Nat} (hs : s < 4) :
    w'.cell? ⟨w.heap.size, s, none⟩ = some (.int .i64 (x4 x0 x1 x2 x3 s)) := by
  have h := (Blk.new w 30 #[.int .i64 x0, .int .i64 x1, .int .i64 x2, .int .i64 x3]).below hb (by omega)
  rw [h.cell s]
  match s, hs with
  | 0, _ => rfl
  | 1, _ => rfl
  | 2, _ => rfl
  | 3, _ => rfl
theorem tab5 (M : Nat → Nat → Int) (h : ∀ q s, q < 4 → s < 4 → M q s = x4 5 6 7 8 s) : tab M = #[.int .i64 5, .int .i64 6, .int .i64 7, .int .i64 8, .int .i64 5, .int .i64 6, .int .i64 7, .int .i64 8, .int .i64 5, .int .i64 6, .int .i64 7, .int .i64 8, .int .i64 5, .int .i64 6, .int .i64 7, .int .i64 8] := by
  rw [← tab_eq, AN_congr (g := fun i => .int .i64 (x4 5 6 7 8 (i % 4))) (fun i hi => by rw [h _ _ (by omega) (by omega)])]
  rfl
theorem eq16 (w : World) : (Op.equalIn 10000 51 (.agg #[.int .i64 5, .int .i64 6, .int .i64 7, .int .i64 8, .int .i64 5, .int .i64 6, .int .i64 7, .int .i64 8, .int .i64 5, .int .i64 6, .int .i64 7, .int .i64 8, .int .i64 5, .int .i64 6, .int .i64 7, .int .i64 8]) (.agg #[.int .i64 5, .int .i64 6, .int .i64 7, .int .i64 8, .int .i64 5, .int .i64 6, .int .i64 7, .int .i64 8, .int .i64 5, .int .i64 6, .int .i64 7, .int .i64 8, .int .i64 5, .int .i64 6, .int .i64 7, .int .i64 8])).run Try.prog w = .ok true w := eql_self (by kernel_rfl) (by kernel_rfl) w
theorem eq4 (a b c d : Int) (w : World) : (Op.equalIn 10000 30 (.agg #[.int .i64 a, .int .i64 b, .int .i64 c, .int .i64 d]) (.agg #[.int .i64 a, .int .i64 b, .int .i64 c, .int .i64 d])).run Try.prog w = .ok true w := eql_self (by kernel_rfl) (by kernel_rfl) w
theorem size16 : (Try.prog.info? 51).map (·.size) = some 16 := by kernel_rfl
/-- four values that came in lie in a block of the call's own -/
def Vals (w : World) (g : Nat) (x0 x1 x2 x3 : Int) : Prop := w.cell? ⟨g, 0, none⟩ = some (.int .i64 x0) ∧ w.cell? ⟨g, 1, none⟩ = some (.int .i64 x1) ∧ w.cell? ⟨g, 2, none⟩ = some (.int .i64 x2) ∧ w.cell? ⟨g, 3, none⟩ = some (.int .i64 x3)
theorem vals_of {w w' : World} {x0 x1 x2 x3 : Int} (hb : Below (w.heap.size + 1) (w.alloc (.cells #[.int .i64 x0, .int .i64 x1, .int .i64 x2, .int .i64 x3] 30)) w') :
    w'.cell? ⟨w.heap.size, 0, none⟩ = some (.int .i64 x0) ∧ w'.cell? ⟨w.heap.size, 1, none⟩ = some (.int .i64 x1) ∧ w'.cell? ⟨w.heap.size, 2, none⟩ = some (.int .i64 x2) ∧ w'.cell? ⟨w.heap.size, 3, none⟩ = some (.int .i64 x3) := by
  have h := (Blk.new w 30 #[.int .i64 x0, .int .i64 x1, .int .i64 x2, .int .i64 x3]).below hb (by omega)
  exact ⟨h.cell 0, h.cell 1, h.cell 2, h.cell 3⟩
/-- the test call -/
theorem agr5 (M : Nat → Nat → Int) (h : ∀ s, s < 4 → Agr s (x4 5 6 7 8 s) (-1) (fun q => M q s)) : ∀ q s, q < 4 → s < 4 → M q s = x4 5 6 7 8 s := by
  intro q s hq hs
  exact (h s hs).1 (by omega) q hq (by omega)
/-- what is behind the first statement -/
def Cut1 (w : World) (x0 x1 x2 x3 bad : Int) (s7 : Value) (wx : World) : Prop :=
  ∃ g M, s7 = .pointer (some ⟨g, 0, none⟩) ∧ w.heap.size < g ∧ Blk wx g 51 (tab M) ∧ (∀ s, s < 4 → Agr s (x4 x0 x1 x2 x3 s) bad (fun q => M q s)) ∧ Below (w.heap.size + 1) (w.alloc (.cells #[.int .i64 x0, .int .i64 x1, .int .i64 x2, .int .i64 x3] 30)) wx
end Go.Proofs.Ytllgjbjcdenchaa
