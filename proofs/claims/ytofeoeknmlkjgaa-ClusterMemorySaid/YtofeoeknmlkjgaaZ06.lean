/- Merged: Open. -/
import Derived.OpenShut
import Derived.ProofKit
import Derived.SizedLaws
import Derived.WalkKit
import Derived.Test.YtofeoeknmlkjgaaZ02
set_option linter.unusedVariables false
set_option linter.unusedSimpArgs false
section
/- What a value that came in looks like, from the form's own word on it. Over any program. -/
set_option linter.unusedVariables false
namespace Go.Proofs.Ytofeoeknmlkjgaa
open Go.RowKit Go.ChangeShapes Go.WideShapes

section
variable {P : Program} {W : World} {r : Reach} {base : Nat}

theorem in_i64 {x : Int} (h : IntKind.i64.has x) : -9223372036854775808 ≤ x ∧ x ≤ 9223372036854775807 := by
  simpa [IntKind.has, IntKind.min, IntKind.max, IntKind.signed, IntKind.bits] using h
theorem okCell_int {t : TypeId} {v : Value} {k : IntKind} (ht : P.underlying t = some (.int k)) (h : Cell.okWide P W r base t v) : ∃ x, v = .int k x ∧ k.has x := by
  unfold Cell.okWide at h
  simp only [ht] at h
  unfold Cell.ok at h
  simp only [ht] at h
  cases v <;> simp at h
  obtain ⟨rfl, h⟩ := h
  exact ⟨_, rfl, h⟩
theorem okCell_slice {t e : TypeId} {v : Value} (ht : P.underlying t = some (.slice e)) (h : Cell.okWide P W r base t v) :
    ∃ a n c, v = .slice a n c ∧ n ≤ c ∧ c ≤ 9223372036854775807 ∧ (a = none → n = 0 ∧ c = 0) ∧ (∀ x, a = some x → x.spot = none ∧ W.has P r base x e c) := by
  unfold Cell.okWide at h
  simp only [ht] at h
  unfold Cell.ok at h
  simp only [ht] at h
  cases v <;> simp at h
  rename_i a n c
  refine ⟨a, n, c, rfl, ?_⟩
  cases a with
  | none =>
    cases n <;> cases c <;> simp at h
    simp
  | some a =>
    simp at h
    obtain ⟨h1, h2, h3⟩ := h
    refine ⟨h1, ?_, by simp, fun x e => ?_⟩
    · have : IntKind.i64.max = 9223372036854775807 := by decide
      omega
    · cases e; exact ⟨h3.2.1, h3⟩

theorem ok_slice {t e : TypeId} {v : Value} (ht : P.underlying t = some (.slice e)) (h : Value.okWide P W r base t v) :
    ∃ a n c, v = .slice a n c ∧ n ≤ c ∧ c ≤ 9223372036854775807 ∧ (a = none → n = 0 ∧ c = 0) ∧ (∀ x, a = some x → x.spot = none ∧ W.has P r base x e c) := by
  unfold Value.okWide at h
  simp only [ht] at h
  exact okCell_slice ht h

theorem ok_agg {t : TypeId} {v : Value} {ts : List TypeId} (hu : (∃ fs, P.underlying t = some (.struct fs)) ∨ ∃ n e, P.underlying t = some (.array n e)) (hts : P.cellTypes P.depth t = some ts)
    (hc : P.cellsOf t = ts.length) (h : Value.okWide P W r base t v) :
    ∃ l : List Value, v = .agg l.toArray ∧ l.length = ts.length ∧ ∀ (i : Nat) (v : Value) (u : TypeId), l[i]? = some v → ts[i]? = some u → Cell.okWide P W r base u v := by
  have h2 : ∃ cs, v = .agg cs ∧ cs.size = P.cellsOf t ∧ Row.okWide P W r base t cs := by
    unfold Value.okWide at h
    rcases hu with ⟨fs, hu⟩ | ⟨n, e, hu⟩ <;> simpa only [hu] using h
  obtain ⟨cs, rfl, hsz, ts', hts', _, hcell⟩ := h2
  rw [hts] at hts'
  cases hts'
  refine ⟨cs.toList, by simp, by simp [hsz, hc], fun i v u hv hu => ?_⟩
  obtain ⟨u', hu', hok⟩ := hcell i v (by simpa using hv)
  have hi : i < ts.length := (List.getElem?_eq_some_iff.1 hu).1
  rw [Nat.mod_eq_of_lt hi, hu] at hu'
  cases hu'
  exact hok

theorem ints_in {H : Type} {enc : TypeId × Value → H} {t e : TypeId} {k : IntKind} {A : Option Addr} {n c : Nat} {d : DataW H} {p : List MemPlace} (ht : P.underlying t = some (.slice e)) (he : P.underlying e = some (.int k)) (hc : P.cellsOf e = 1)
    (h : DataW.Trod enc P W 0 (fun _ => true) true t (.slice A n c) d p) (hs : ∀ es sp, d = .slice es sp → (es.length + sp.length) * P.bytesOf e ≤ reachBytes) :
    ∃ zs, Ints W k A n zs ∧ (∀ z ∈ zs, (Lit.int k z).wf = true) ∧ n ≤ c ∧ c * P.bytesOf e ≤ reachBytes := by
  obtain ⟨fuel, hf⟩ := h
  rcases open_ints ht he hc hf with ⟨hcs, _⟩ | ⟨x, l, c', zs, hcs, _, hl, hm, hz, hx, hcell, hwz⟩
  · simp [Value.cells] at hcs
    obtain ⟨rfl, rfl, rfl⟩ := hcs
    exact ⟨[], Ints.nil _ _ _, by simp, Nat.le_refl _, by simp⟩
  · simp [Value.cells] at hcs
    obtain ⟨rfl, rfl, rfl⟩ := hcs
    have hz' : zs.length = c := by simpa using hz
    refine ⟨zs.take n, ⟨by simp; omega, fun hn => ?_⟩, fun z hz => hwz z (List.mem_of_mem_take hz), hl, ?_⟩
    · have h0 := hcell 0 (by omega)
      have hsp : x.spot = none := by
        have := World.cell?_spot h0
        simpa [Addr.add] using this
      obtain ⟨b, off, sp⟩ := x
      simp only at hsp
      subst hsp
      refine ⟨b, off, rfl, ?_, fun j hj => ?_⟩
      · have := World.block_lt_of_cell? _ _ h0
        simpa [Addr.add] using this
      · have := hcell j (by omega)
        rw [show (⟨b, off, none⟩ : Addr).add j = ⟨b, off + j, none⟩ by unfold Addr.add; split <;> simp_all] at this
        rw [this]
        simp [List.getD, hj]
    · have hxx := (Prod.mk.inj hx).1
      have := hs _ _ hxx
      simp only [lits, List.length_map, List.length_take, List.length_drop] at this
      rw [show min n zs.length + (zs.length - n) = c by omega] at this
      exact this

theorem list4 {α : Type} {l : List α} (h : l.length = 4) : ∃ a b c d, l = [a, b, c, d] := by
  match l, h with
  | [a, b, c, d], _ => exact ⟨a, b, c, d, rfl⟩
theorem ok_ints4 {t u : TypeId} {v : Value} (hu : (∃ fs, P.underlying t = some (.struct fs)) ∨ ∃ n e, P.underlying t = some (.array n e)) (hts : P.cellTypes P.depth t = some [u, u, u, u])
    (hc : P.cellsOf t = 4) (hi : P.underlying u = some (.int .i64)) (h : Value.okWide P W r base t v) :
    ∃ x y z q, v = .agg #[.int .i64 x, .int .i64 y, .int .i64 z, .int .i64 q] ∧ IntKind.i64.has x ∧ IntKind.i64.has y ∧ IntKind.i64.has z ∧ IntKind.i64.has q := by
  obtain ⟨l, rfl, hl, hx⟩ := ok_agg hu hts hc h
  obtain ⟨a, b, c, d, rfl⟩ := list4 hl
  obtain ⟨x, rfl, hx0⟩ := okCell_int hi (hx 0 _ u rfl rfl)
  obtain ⟨y, rfl, hy0⟩ := okCell_int hi (hx 1 _ u rfl rfl)
  obtain ⟨z, rfl, hz0⟩ := okCell_int hi (hx 2 _ u rfl rfl)
  obtain ⟨q, rfl, hq0⟩ := okCell_int hi (hx 3 _ u rfl rfl)
  exact ⟨x, y, z, q, rfl, hx0, hy0, hz0, hq0⟩
end
end Go.Proofs.Ytofeoeknmlkjgaa
end
