/- Merged: WireLaw. -/
import Derived.Lib.SmallJoins
import Derived.Test.YtofeoeknmlkjgaaZ06
import Derived.Test.YtofeoeknmlkjgaaZ31
import Derived.Test.YtofeoeknmlkjgaaZ33
import Derived.Test.YtofeoeknmlkjgaaZ35
set_option linter.unusedVariables false
set_option linter.unusedSimpArgs false
section
/- The contract of wire.Decode for all bytes; of the helpers message, sameMessage, tells; a message that came in. -/
set_option linter.unusedVariables false
namespace Go.Proofs.Ytofeoeknmlkjgaa.Wr
open Go.RowKit Go.Proofs.Ytofeoeknmlkjgaa Crc Ro Go.ChangeShapes Go.WideShapes Go.Joins

theorem Decode_any (A : Option Addr) (n c : Nat) (zs : List Int) (w : World) (h : Ints w .u8 A n zs) (hnc : n ≤ c) (hn : n ≤ 9223372036854775807) (hz : Byts zs) :
    Calls Try.prog 94 #[.slice A n c] w (DecPost zs w) := by
  have hl := h.1
  by_cases h1 : 220 < n
  · exact (dec_long A n c zs w hl h1 hn).mono fun _ _ => .inr
  by_cases h2 : n < 12
  · exact (dec_short A n c zs w hl h2).mono fun _ _ => .inr
  obtain ⟨b, off, rfl, -, -⟩ := h.2 (by omega)
  by_cases h3 : zs.getD 0 0 = 87
  · have hy : 0 ≤ (zs.take (zs.length - 4)).getD 7 0 := by
      have hlt : 7 < (zs.take (zs.length - 4)).length := by simp; omega
      simp only [List.getD, List.getElem?_eq_getElem hlt]
      exact (hz _ (List.mem_of_mem_take (List.getElem_mem _))).1
    by_cases h4 : tailTo zs (zs.length - 4) 4 = (sumFrom 0#32 (zs.take (zs.length - 4))).toNat ∧ (zs.take (zs.length - 4)).getD 7 0 ≤ 24 ∧ ((zs.length - 4 : Nat) : Int) = 8 + 8 * (zs.take (zs.length - 4)).getD 7 0
    · obtain ⟨h5, h6, h7⟩ := h4
      exact dec_nums b off n c zs w h hnc (by omega) (by omega) h3 hz h5 ((zs.take (zs.length - 4)).getD 7 0).toNat (by omega) (by omega) (by omega)
    · refine (dec_head2 b off n c zs w h hnc (by omega) (by omega) h3 hz (fun h5 => ?_)).mono fun _ _ => .inr
      by_cases h6 : 24 < (zs.take (zs.length - 4)).getD 7 0
      · exact .inl h6
      · exact .inr (fun h7 => h4 ⟨h5, by omega, h7⟩)
  · exact (dec_head b off n c zs w h (by omega) (by omega) h3 hz).mono fun _ _ => .inr

theorem DecPost.ok {zs : List Int} {k f r : Int} {vs : List Int} {w w' : World} {e : Ending} (h : DecPost zs w e w') (hm : IsMsg zs k f r vs) : ∃ A c, e = .returned (.tuple #[.agg #[.int .i64 k, .int .i64 f, .int .i64 r, .slice A vs.length c], .int .i64 0]) ∧
    w'.ownsRow w.heap.size 3 1 (.slice A vs.length c) vs.length (vs.map (Value.int .i64)) ∧ Below w.heap.size w w' := by
  rcases h with ⟨k', f', r', vs', A, c, hm', rfl, ho, hB⟩ | ⟨er, _, hno, _, _⟩
  · obtain ⟨rfl, rfl, rfl, rfl⟩ := hm.same hm'
    exact ⟨A, c, rfl, ho, hB⟩
  · exact absurd hm (hno _ _ _ _)
theorem DecPost.bad {zs : List Int} {w w' : World} {e : Ending} (h : DecPost zs w e w') (hm : ∀ k f r vs, ¬ IsMsg zs k f r vs) : ∃ er : Int, er ≠ 0 ∧ e = .returned (.tuple #[zMsg, .int .i64 er]) ∧ Below w.heap.size w w' := by
  rcases h with ⟨k', f', r', vs', A, c, hm', rfl, ho, hB⟩ | ⟨er, h0, hno, he, hB⟩
  · exact absurd hm' (hm _ _ _ _)
  · exact ⟨er, h0, he, hB⟩

theorem enc_ok (k f r : Int) (A : Option Addr) (n c : Nat) (vs : List Int) (w : World) (h : Ints w .i64 A n vs) (hv : ∀ v ∈ vs, In64 v) (hr : rightE k f r n = 0) :
    Calls Try.prog 76 #[.agg #[.int .i64 k, .int .i64 f, .int .i64 r, .slice A n c]] w fun e w' => ∃ A' c', e = .returned (.tuple #[.slice A' (8 + 8 * n + 4) c', .int .i64 0]) ∧ NewBytes w w' A' (8 + 8 * n + 4) c' (sealed (encB k f r vs)) := by
  have h24 := (right0.1 hr).2.2.2.2.2.2
  refine (Encode_any k f r A n c vs w h hv (by omega)).mono ?_
  rintro e w' (⟨_, h1⟩ | ⟨h1, _⟩)
  · exact h1
  · exact absurd hr h1
end Go.Proofs.Ytofeoeknmlkjgaa.Wr
end
