/- A slice that came in, of a bulk that is bounded. -/
import Derived.Test.YtdlcjieaoalhoaaOpen
set_option linter.unusedVariables false
namespace Go.Proofs.Ytdlcjieaoalhoaa
open Go.RowKit Go.ChangeShapes Go.WideShapes

section
variable {P : Program} {W : World} {r : Reach} {base : Nat}

/-- a slice of numbers that came in -/
theorem ints_upto {L : Nat} {H : Type} {enc : TypeId × Value → H} {t e : TypeId} {k : IntKind} {A : Option Addr} {n c : Nat} {d : DataW H} {p : List MemPlace} (ht : P.underlying t = some (.slice e)) (he : P.underlying e = some (.int k)) (hc : P.cellsOf e = 1)
    (h : DataW.Trod enc P W 0 (fun _ => true) true t (.slice A n c) d p) (hs : ∀ es sp, d = .slice es sp → es.length + sp.length ≤ L) :
    ∃ zs, Ints W k A n zs ∧ (∀ z ∈ zs, (Lit.int k z).wf = true) ∧ n ≤ c ∧ c ≤ L := by
  obtain ⟨fuel, hf⟩ := h
  rcases open_ints ht he hc hf with ⟨hcs, _⟩ | ⟨x, l, c', zs, hcs, _, hl, hm, hz, hx, hcell, hwz⟩
  · simp [Value.cells] at hcs
    obtain ⟨rfl, rfl, rfl⟩ := hcs
    exact ⟨[], Ints.nil _ _ _, by simp, Nat.le_refl _, Nat.zero_le _⟩
  · simp [Value.cells] at hcs
    obtain ⟨rfl, rfl, rfl⟩ := hcs
    have hz' : zs.length = c := by simpa using hz
    refine ⟨zs.take n, ⟨by simp; omega, fun hn => ?_⟩, fun z hz => hwz z (List.mem_of_mem_take hz), hl, ?_⟩
    · have h0 := hcell 0 (by omega)
      have hsp : x.spot = none := by
        have := World.cell?_spot h0
        simpa [Addr.add] using this
      obtain ⟨b, off, sp⟩ := x
      simp only at hsp
      subst hsp
      refine ⟨b, off, rfl, ?_, fun j hj => ?_⟩
      · have := World.block_lt_of_cell? _ _ h0
        simpa [Addr.add] using this
      · have := hcell j (by omega)
        rw [show (⟨b, off, none⟩ : Addr).add j = ⟨b, off + j, none⟩ by unfold Addr.add; split <;> simp_all] at this
        rw [this]
        simp [List.getD, hj]
    · have hxx := (Prod.mk.inj hx).1
      have := hs _ _ hxx
      simp only [lits, List.length_map, List.length_take, List.length_drop] at this
      rw [show min n zs.length + (zs.length - n) = c by omega] at this
      exact this
end
end Go.Proofs.Ytdlcjieaoalhoaa
