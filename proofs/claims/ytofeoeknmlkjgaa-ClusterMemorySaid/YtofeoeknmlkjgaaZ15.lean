/- Merged: MemLaw. -/
import Derived.Deep.CutRange
import Derived.Deep.DeepCutAuto
import Derived.Deep.DrawnRows
import Derived.Deep.RegionHeld3
import Derived.Deep.Slices
import Derived.Test.YtofeoeknmlkjgaaZ02
import Derived.Test.YtofeoeknmlkjgaaZ03
import Derived.Test.YtofeoeknmlkjgaaZ14
set_option linter.unusedVariables false
set_option linter.unusedSimpArgs false
section
/- What the statements on the roll share. -/
set_option linter.unusedVariables false
namespace Go.Proofs.Ytofeoeknmlkjgaa
open Go.RowKit Mb

def FrS (gr ga : Nat) (R : Rl) (A : Nat → Bool) (W : World) : Prop := RB W gr R ∧ Blk W ga 35 #[.bool (A 0), .bool (A 1), .bool (A 2), .bool (A 3)]
section
variable {gr ga : Nat} {R : Rl} {A : Nat → Bool} {W W' : World}
theorem FrS.drew (h : FrS gr ga R A W) : FrS gr ga R A W.drew := ⟨Blk.drew h.1, h.2.drew⟩
theorem FrS.next (h : FrS gr ga R A W) (hb : Below W.heap.size W W') : FrS gr ga R A W' := ⟨Blk.next h.1 hb, h.2.next hb⟩
theorem FrS.alloc (h : FrS gr ga R A W) (o : Obj) : FrS gr ga R A (W.alloc o) := ⟨Blk.alloc h.1 o, h.2.alloc o⟩
theorem FrS.over (h : FrS gr ga R A W) {n i : Nat} {vs : List Value} (h1 : gr ≠ n) (h2 : ga ≠ n) : FrS gr ga R A (W.setCells n i vs) := ⟨Blk.grown h.1 (grown_setCells _ _ _ _) (by simpa using h1), h.2.grown (grown_setCells _ _ _ _) (by simpa using h2)⟩
theorem FrS.cells (h : FrS gr ga R A W) : W.cell? ⟨gr, 0, none⟩ = some (.bool (R.inn 0)) ∧ W.cell? ⟨gr, 1, none⟩ = some (.bool (R.inn 1)) ∧ W.cell? ⟨gr, 2, none⟩ = some (.bool (R.inn 2)) ∧ W.cell? ⟨gr, 3, none⟩ = some (.bool (R.inn 3)) ∧
    W.cell? ⟨gr, 4, none⟩ = some (.int .i64 (R.miss 0)) ∧ W.cell? ⟨gr, 5, none⟩ = some (.int .i64 (R.miss 1)) ∧ W.cell? ⟨gr, 6, none⟩ = some (.int .i64 (R.miss 2)) ∧ W.cell? ⟨gr, 7, none⟩ = some (.int .i64 (R.miss 3)) ∧
    W.cell? ⟨gr, 8, none⟩ = some (.int .i64 (R.join 0)) ∧ W.cell? ⟨gr, 9, none⟩ = some (.int .i64 (R.join 1)) ∧ W.cell? ⟨gr, 10, none⟩ = some (.int .i64 (R.join 2)) ∧ W.cell? ⟨gr, 11, none⟩ = some (.int .i64 (R.join 3)) ∧
    W.cell? ⟨ga, 0, none⟩ = some (.bool (A 0)) ∧ W.cell? ⟨ga, 1, none⟩ = some (.bool (A 1)) ∧ W.cell? ⟨ga, 2, none⟩ = some (.bool (A 2)) ∧ W.cell? ⟨ga, 3, none⟩ = some (.bool (A 3)) :=
  ⟨Blk.cell h.1 0, Blk.cell h.1 1, Blk.cell h.1 2, Blk.cell h.1 3, Blk.cell h.1 4, Blk.cell h.1 5, Blk.cell h.1 6, Blk.cell h.1 7, Blk.cell h.1 8, Blk.cell h.1 9, Blk.cell h.1 10, Blk.cell h.1 11, h.2.cell 0, h.2.cell 1, h.2.cell 2, h.2.cell 3⟩
end
def CutM (gr ga : Nat) (R X : Rl) (A : Nat → Bool) (L : List (Int × Int)) (W0 : World) (s8 s9 s10 : Value) (wx : World) : Prop :=
  ∃ n v, s8 = .pointer (some ⟨n, 0, none⟩) ∧ s9 = v ∧ s10 = .int .i64 0 ∧ W0.heap.size ≤ n ∧ RB wx n X ∧ wx.ownsRow W0.heap.size 128 2 v L.length (chC L) ∧ FrS gr ga R A wx ∧ Below W0.heap.size W0 wx
theorem CutM.mk {gr ga n : Nat} {R X : Rl} {A : Nat → Bool} {L : List (Int × Int)} {W0 W : World} {v : Value} (hF : FrS gr ga R A W) (hgr : gr < W0.heap.size) (hga : ga < W0.heap.size) (hn : W0.heap.size ≤ n) (hV : RB W n R0)
    (hO : W.ownsRow W0.heap.size 128 2 v L.length (chC L)) (hB : Below W0.heap.size W0 W) : CutM gr ga R X A L W0 (.pointer (some ⟨n, 0, none⟩)) v (.int .i64 0) (W.setCells n 0 (rollC X).toList) :=
  ⟨n, v, rfl, rfl, rfl, hn, Blk.over hV rfl, hO.kept (grown_setCells _ _ _ _) (.inr (fun e => own_blk_ne hO hV (by decide) e.symm)), hF.over (by omega) (by omega), hB.grown (grown_setCells _ _ _ _) hB.size (fun j hj => by cases hj; exact hn)⟩

def Rows4 (W : World) (A : Option Addr) (n : Nat) (M : Nat → Nat → Bool) : Prop :=
  0 < n → ∃ b off, A = some ⟨b, off, none⟩ ∧ b < W.heap.size ∧ ∀ j, j < n → ∀ i, i < 4 → W.cell? ⟨b, off + j * 4 + i, none⟩ = some (.bool (M j i))
theorem Rows4.below {W W' : World} {A : Option Addr} {n : Nat} {M : Nat → Nat → Bool} (h : Rows4 W A n M) (hb : Below W.heap.size W W') : Rows4 W' A n M := fun hn => by
  obtain ⟨b, off, e, hlt, hc⟩ := h hn
  exact ⟨b, off, e, Nat.lt_of_lt_of_le hlt hb.size, fun j hj i hi => (hb.cell (p := ⟨b, off + j * 4 + i, none⟩) hlt).trans (hc j hj i hi)⟩

section
variable {P : Program} {w : World} {ops : Array Oper} {rest : List Oper} {o : Oper} {a : Act} {Q : Exit → Act → World → Prop}
theorem wpList_load_at (ty : TypeId) (x : Operand) (ho : o.op = .load ty x) (hgd : Region.wanted o (yielded ops a.tmps) = true)
    (g : Nat) (hx : a.eval x = .pointer (some ⟨g, 0, none⟩)) (t : TypeId) (cs : Array Value) (d : TypeDesc) (hb : Blk w g t cs)
    (hu : P.underlying ty = some d) (hd : (match d with | .struct _ | .array _ _ => true | _ => false) = true) (hi : (P.info? ty).map (·.size) = some cs.size)
    (h : wpList P ops Q rest (a.put o.dst (.agg cs)) w) : wpList P ops Q (o :: rest) a w := by
  refine wpList_step fun K hK => ?_
  rw [if_pos hgd]
  exact wp_load_row ty x ho g hx t cs (0, 0) d hb hu hd hi (hK _ _ h)
theorem wpList_store_at (ty : TypeId) (x y : Operand) (ho : o.op = .store ty x y) (hgd : o.guard = none)
    (g : Nat) (t : TypeId) (cs cells : Array Value) (hx : a.eval x = .pointer (some ⟨g, 0, none⟩)) (hy : a.eval y = .agg cells)
    (hb : Blk w g t cs) (hl : cells.size = cs.size) (hi : (P.info? ty).map (·.size) = some cells.size) (h1 : cells.all (·.oneCell') = true)
    (h : ∀ w', Blk w' g t cells → w.grownBy w' (some g) → wpList P ops Q rest (a.put o.dst undef) w') : wpList P ops Q (o :: rest) a w :=
  wpList_store_blk hgd ty x y ho g t cs cells hx hy hb hl hi h1 h
end
end Go.Proofs.Ytofeoeknmlkjgaa
end
