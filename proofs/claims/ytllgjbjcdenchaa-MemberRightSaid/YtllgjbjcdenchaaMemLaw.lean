/- What the statements on the roll share. -/
import Derived.Test.YtllgjbjcdenchaaMemBegin
import Derived.Test.YtllgjbjcdenchaaSpot
import Derived.Test.YtllgjbjcdenchaaEql
import Derived.Deep.RegionHeld3
import Derived.Deep.Slices
import Derived.Deep.DrawnRows
import Derived.Deep.CutRange
import Derived.Deep.DeepCutAuto
set_option linter.unusedVariables false
namespace Go.Proofs.Ytllgjbjcdenchaa
open Go.RowKit Mb

/-- the roll in block gr, the nodes' assents in block ga -/
def FrS (gr ga : Nat) (R : Rl) (A : Nat → Bool) (W : World) : Prop := RB W gr R ∧ Blk W ga 28 #[.bool (A 0), .bool (A 1), .bool (A 2), .bool (A 3)]
section
variable {gr ga : Nat} {R : Rl} {A : Nat → Bool} {W W' : World}
theorem FrS.drew (h : FrS gr ga R A W) : FrS gr ga R A W.drew := ⟨Blk.drew h.1, h.2.drew⟩
theorem FrS.next (h : FrS gr ga R A W) (hb : Below W.heap.size W W') : FrS gr ga R A W' := ⟨Blk.next h.1 hb, h.2.next hb⟩
theorem FrS.alloc (h : FrS gr ga R A W) (o : Obj) : FrS gr ga R A (W.alloc o) := ⟨Blk.alloc h.1 o, h.2.alloc o⟩
theorem FrS.over (h : FrS gr ga R A W) {n i : Nat} {vs : List Value} (h1 : gr ≠ n) (h2 : ga ≠ n) : FrS gr ga R A (W.setCells n i vs) := ⟨Blk.grown h.1 (grown_setCells _ _ _ _) (by simpa using h1), h.2.grown (grown_setCells _ _ _ _) (by simpa using h2)⟩
theorem FrS.cells (h : FrS gr ga R A W) : W.cell? ⟨gr, 0, none⟩ = some (.bool (R.inn 0)) ∧ W.cell? ⟨gr, 1, none⟩ = some (.bool (R.inn 1)) ∧ W.cell? ⟨gr, 2, none⟩ = some (.bool (R.inn 2)) ∧ W.cell? ⟨gr, 3, none⟩ = some (.bool (R.inn 3)) ∧
    W.cell? ⟨gr, 4, none⟩ = some (.int .i64 (R.miss 0)) ∧ W.cell? ⟨gr, 5, none⟩ = some (.int .i64 (R.miss 1)) ∧ W.cell? ⟨gr, 6, none⟩ = some (.int .i64 (R.miss 2)) ∧ W.cell? ⟨gr, 7, none⟩ = some (.int .i64 (R.miss 3)) ∧
    W.cell? ⟨gr, 8, none⟩ = some (.int .i64 (R.join 0)) ∧ W.cell? ⟨gr, 9, none⟩ = some (.int .i64 (R.join 1)) ∧ W.cell? ⟨gr, 10, none⟩ = some (.int .i64 (R.join 2)) ∧ W.cell? ⟨gr, 11, none⟩ = some (.int .i64 (R.join 3)) ∧
    W.cell? ⟨ga, 0, none⟩ = some (.bool (A 0)) ∧ W.cell? ⟨ga, 1, none⟩ = some (.bool (A 1)) ∧ W.cell? ⟨ga, 2, none⟩ = some (.bool (A 2)) ∧ W.cell? ⟨ga, 3, none⟩ = some (.bool (A 3)) :=
  ⟨Blk.cell h.1 0, Blk.cell h.1 1, Blk.cell h.1 2, Blk.cell h.1 3, Blk.cell h.1 4, Blk.cell h.1 5, Blk.cell h.1 6, Blk.cell h.1 7, Blk.cell h.1 8, Blk.cell h.1 9, Blk.cell h.1 10, Blk.cell h.1 11, h.2.cell 0, h.2.cell 1, h.2.cell 2, h.2.cell 3⟩
end
/-- behind 's, l, e := member.Step(r, verdict(a))' in the world W0 -/
def CutM (gr ga : Nat) (R X : Rl) (A : Nat → Bool) (L : List (Int × Int)) (W0 : World) (s8 s9 s10 : Value) (wx : World) : Prop :=
  ∃ n v, s8 = .pointer (some ⟨n, 0, none⟩) ∧ s9 = v ∧ s10 = .int .i64 0 ∧ W0.heap.size ≤ n ∧ RB wx n X ∧ wx.ownsRow W0.heap.size 63 2 v L.length (chC L) ∧ FrS gr ga R A wx ∧ Below W0.heap.size W0 wx
/-- the zeros of a new roll, written out -/
theorem roll_store {W : World} {n : Nat} (h : RB W n R0) (X : Rl) : (storeCells ⟨n, 0, none⟩ (rollC X).toList).run Try.prog W = .ok () (W.setCells n 0 (rollC X).toList) := run_storeCells_blk h rfl (rollC_one X)
theorem CutM.mk {gr ga n : Nat} {R X : Rl} {A : Nat → Bool} {L : List (Int × Int)} {W0 W : World} {v : Value} (hF : FrS gr ga R A W) (hgr : gr < W0.heap.size) (hga : ga < W0.heap.size) (hn : W0.heap.size ≤ n) (hV : RB W n R0)
    (hO : W.ownsRow W0.heap.size 63 2 v L.length (chC L)) (hB : Below W0.heap.size W0 W) : CutM gr ga R X A L W0 (.pointer (some ⟨n, 0, none⟩)) v (.int .i64 0) (W.setCells n 0 (rollC X).toList) :=
  ⟨n, v, rfl, rfl, rfl, hn, Blk.over hV rfl, hO.kept (grown_setCells _ _ _ _) (.inr (fun e => own_blk_ne hO hV (by decide) e.symm)), hF.over (by omega) (by omega), hB.grown (grown_setCells _ _ _ _) hB.size (fun j hj => by cases hj; exact hn)⟩

/-- a slice of four bools each that came in -/
def Rows4 (W : World) (A : Option Addr) (n : Nat) (M : Nat → Nat → Bool) : Prop :=
  0 < n → ∃ b off, A = some ⟨b, off, none⟩ ∧ b < W.heap.size ∧ ∀ j, j < n → ∀ i, i < 4 → W.cell? ⟨b, off + j * 4 + i, none⟩ = some (.bool (M j i))
theorem rows4_in {P : Program} {W : World} {H : Type} {enc : TypeId × Value → H} {t e u : TypeId} {A : Option Addr} {n c : Nat} {d : DataW H} {p : List MemPlace} (ht : P.underlying t = some (.slice e)) (he : P.underlying e = some (.array 4 u)) (hu : P.underlying u = some .bool) (ce : P.cellsOf e = 4) (cu : P.cellsOf u = 1)
    (h : DataW.Trod enc P W 0 (fun _ => true) true t (.slice A n c) d p) : ∃ M, Rows4 W A n M := by
  obtain ⟨fuel, hf⟩ := h
  rcases Go.Deep.open_slice ht hf with ⟨hcs, _⟩ | ⟨a, len, cap, m, q, D, Pl, hcs, _, hl, _, hm, _, hx⟩
  · simp [Value.cells] at hcs
    obtain ⟨rfl, rfl, rfl⟩ := hcs
    exact ⟨fun _ _ => false, fun h => absurd h (Nat.lt_irrefl 0)⟩
  · simp [Value.cells] at hcs
    obtain ⟨rfl, rfl, rfl⟩ := hcs
    have each : ∀ j, j < n → ∃ F : Nat → Bool, ∀ i, i < 4 → W.cell? (a.add (j * 4 + i)) = some (.bool (F i)) := by
      intro j hj
      obtain ⟨cs, h1, h2⟩ := hx j (by rw [hm]; simp; omega)
      rw [ce] at h1
      obtain ⟨_, hlen, hcell⟩ := World.cells?_some h1
      obtain ⟨xs, k, _, _, _, hxl, hel⟩ := DataW.trod_array he h2
      obtain ⟨F, hF⟩ := Go.Deep.choose_lt (α := Bool) (n := 4) (p := fun i v => cs[i]? = some (.bool v)) (fun i hi => by
        have h3 := hel i hi
        rw [cu, Nat.mul_one, List.getElem?_eq_getElem (by omega)] at h3
        obtain ⟨b, hb, _⟩ := DataW.trod_bool hu h3
        refine ⟨b, ?_⟩
        have h4 := congrArg (fun l => l[0]?) hb
        simpa [List.getElem?_take, List.getElem?_drop] using h4)
      refine ⟨F, fun i hi => ?_⟩
      have := hcell i hi
      rw [Go.Deep.add_add] at this
      rw [this]
      exact hF i hi
    obtain ⟨M, hM⟩ := Go.Deep.choose_lt (α := Nat → Bool) each
    refine ⟨M, fun hn => ?_⟩
    have h0 := hM 0 hn 0 (by omega)
    have hsp : a.spot = none := by
      have := World.cell?_spot h0
      simpa [Addr.add] using this
    obtain ⟨b, off, sp⟩ := a
    simp only at hsp
    subst hsp
    refine ⟨b, off, rfl, ?_, fun j hj i hi => ?_⟩
    · have := World.block_lt_of_cell? _ _ h0
      simpa [Addr.add] using this
    · have := hM j hj i hi
      rw [show (⟨b, off, none⟩ : Addr).add (j * 4 + i) = ⟨b, off + j * 4 + i, none⟩ by unfold Addr.add; split <;> simp_all [Nat.add_assoc]] at this
      exact this
theorem Rows4.below {W W' : World} {A : Option Addr} {n : Nat} {M : Nat → Nat → Bool} (h : Rows4 W A n M) (hb : Below W.heap.size W W') : Rows4 W' A n M := fun hn => by
  obtain ⟨b, off, e, hlt, hc⟩ := h hn
  exact ⟨b, off, e, Nat.lt_of_lt_of_le hlt hb.size, fun j hj i hi => (hb.cell (p := ⟨b, off + j * 4 + i, none⟩) hlt).trans (hc j hj i hi)⟩

section
variable {P : Program} {w : World} {ops : Array Oper} {rest : List Oper} {o : Oper} {a : Act} {Q : Exit → Act → World → Prop}
/-- 'wpList_load_roww', the operation held first -/
theorem wpList_load_at (ty : TypeId) (x : Operand) (ho : o.op = .load ty x) (hgd : Region.wanted o (yielded ops a.tmps) = true)
    (g : Nat) (hx : a.eval x = .pointer (some ⟨g, 0, none⟩)) (t : TypeId) (cs : Array Value) (d : TypeDesc) (hb : Blk w g t cs)
    (hu : P.underlying ty = some d) (hd : (match d with | .struct _ | .array _ _ => true | _ => false) = true) (hi : (P.info? ty).map (·.size) = some cs.size)
    (h : wpList P ops Q rest (a.put o.dst (.agg cs)) w) : wpList P ops Q (o :: rest) a w := by
  refine wpList_step fun K hK => ?_
  rw [if_pos hgd]
  exact wp_load_row ty x ho g hx t cs (0, 0) d hb hu hd hi (hK _ _ h)
/-- 'wpList_store_blk', the operation held first -/
theorem wpList_store_at (ty : TypeId) (x y : Operand) (ho : o.op = .store ty x y) (hgd : o.guard = none)
    (g : Nat) (t : TypeId) (cs cells : Array Value) (hx : a.eval x = .pointer (some ⟨g, 0, none⟩)) (hy : a.eval y = .agg cells)
    (hb : Blk w g t cs) (hl : cells.size = cs.size) (hi : (P.info? ty).map (·.size) = some cells.size) (h1 : cells.all (·.oneCell') = true)
    (h : ∀ w', Blk w' g t cells → w.grownBy w' (some g) → wpList P ops Q rest (a.put o.dst undef) w') : wpList P ops Q (o :: rest) a w :=
  wpList_store_blk hgd ty x y ho g t cs cells hx hy hb hl hi h1 h
end
end Go.Proofs.Ytllgjbjcdenchaa
