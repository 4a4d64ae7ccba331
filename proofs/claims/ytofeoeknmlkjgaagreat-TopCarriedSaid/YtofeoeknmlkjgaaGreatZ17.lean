/- Merged: Carry. -/
import Derived.Test.YtofeoeknmlkjgaaGreatZ04
import Derived.Test.YtofeoeknmlkjgaaGreatZ11
import Derived.Test.YtofeoeknmlkjgaaGreatZ12
import Derived.Test.YtofeoeknmlkjgaaGreatZ16
set_option linter.unusedVariables false
set_option linter.unusedSimpArgs false
section
/- TopCarried: what its walk stands on: steps of a bus with one parcel or none; a turned byte is refused. -/
set_option linter.unusedVariables false
namespace Go.Proofs.YtofeoeknmlkjgaaGreat.Bs
open Go.RowKit Go.Proofs.YtofeoeknmlkjgaaGreat Crc Sm

theorem step_none (now ser t : Int) (A : Option Addr) (c : Nat) (L : List Pc) (w : World) (h : QR w A 1 c L) (ht : now ≤ t) (ht2 : t ≤ 1099511627776) (p : Pc) (hp : L = [p]) (hd : t < p.du) :
    Calls Tryz.prog 8 #[.agg #[.int .i64 now, .int .i64 ser, .slice A 1 c], .int .i64 t] w fun e w' =>
      ∃ (A2 : Option Addr) (c2 : Nat) (A3 : Option Addr) (c3 : Nat) (q : Pc), e = .returned (.tuple #[.agg #[.int .i64 t, .int .i64 ser, .slice A2 1 c2], .slice A3 0 c3, .int .i64 0]) ∧ q.key = p.key ∧
        QO w' w.heap.size (.slice A2 1 c2) [q] ∧ QO w' w.heap.size (.slice A3 0 c3) [] ∧ Below w.heap.size w w' := by
  refine (Step_any (fun M M' => M' = M) now ser t A 1 c L w h (by decide) ht ht2 (fun M hM => sorts1 M hM)).mono ?_
  rintro e w' ⟨A2, n2, c2, A3, n3, c3, L', M, rfl, hk, hq2, hn2, hq3, hn3, hpm, hR, hB⟩
  have hl : L'.length = 1 := by have := congrArg List.length hk; rw [hp] at this; simpa using this
  match L', hl with
  | [q], _ =>
    rw [hp] at hk
    have hqk : q.key = p.key := by simpa using hk
    have hqd : q.du = p.du := congrArg (fun k => k.2.2.1) hqk
    have hdb : dueBy t q = false := by unfold dueBy; rw [hqd]; simpa using hd
    simp only [List.filter_cons, hdb, if_true, List.filter_nil, Bool.not_false, Bool.false_eq_true, if_false, List.length_singleton] at hq2 hn2 hR
    subst hn2
    rw [hR] at hq3 hn3
    simp only [List.length_nil] at hn3
    subst hn3
    exact ⟨A2, c2, A3, c3, q, rfl, hqk, hq2, hq3, hB⟩
theorem step_nil (now ser t : Int) (A : Option Addr) (c : Nat) (w : World) (h : QR w A 0 c []) (ht : now ≤ t) (ht2 : t ≤ 1099511627776) :
    Calls Tryz.prog 8 #[.agg #[.int .i64 now, .int .i64 ser, .slice A 0 c], .int .i64 t] w fun e w' =>
      ∃ (A2 : Option Addr) (c2 : Nat) (A3 : Option Addr) (c3 : Nat), e = .returned (.tuple #[.agg #[.int .i64 t, .int .i64 ser, .slice A2 0 c2], .slice A3 0 c3, .int .i64 0]) ∧
        QO w' w.heap.size (.slice A3 0 c3) [] ∧ Below w.heap.size w w' := by
  refine (Step_any (fun M M' => M' = M) now ser t A 0 c [] w h (by decide) ht ht2 (fun M hM => sorts1 M (by omega))).mono ?_
  rintro e w' ⟨A2, n2, c2, A3, n3, c3, L', M, rfl, hk, hq2, hn2, hq3, hn3, hpm, hR, hB⟩
  have hl : L' = [] := by simpa using hk
  subst hl
  simp only [List.filter_nil, List.length_nil] at hn2 hR
  rw [hR] at hq3 hn3
  simp only [List.length_nil] at hn3
  subst hn2 hn3
  exact ⟨A2, c2, A3, c3, rfl, hq3, hB⟩
theorem xr_ne (z m : Int) (hz : 0 ≤ z ∧ z ≤ 255) (hm : 1 ≤ m ∧ m ≤ 255) : bits .xor .u8 z m ≠ z := by
  rw [u8_xor z m hz.1 (by omega) (by omega) (by omega)]
  intro h
  have h1 : z.toNat ^^^ m.toNat = z.toNat := by omega
  have h2 : z.toNat ^^^ (z.toNat ^^^ m.toNat) = z.toNat ^^^ z.toNat := by rw [h1]
  rw [← Nat.xor_assoc, Nat.xor_self, Nat.zero_xor] at h2
  omega
theorem turned_no {k f r : Int} {vs : List Int} (hr : Wr.rightE k f r vs.length = 0) {a : Nat} (ha : a < 8 + 8 * vs.length + 4) {m : Int} (hm : 1 ≤ m ∧ m ≤ 255) :
    (∀ z ∈ (sealed (Wr.encB k f r vs)).set a (bits .xor .u8 ((sealed (Wr.encB k f r vs)).getD a 0) m), 0 ≤ z ∧ z ≤ 255) ∧ ∀ k' f' r' vs', ¬ Wr.IsMsg ((sealed (Wr.encB k f r vs)).set a (bits .xor .u8 ((sealed (Wr.encB k f r vs)).getD a 0) m)) k' f' r' vs' := by
  have hin := sealed_in _ (Wr.encB_in k f r vs hr)
  have hlen : (sealed (Wr.encB k f r vs)).length = (8 + 8 * vs.length) + 4 := by rw [sealed_len, Wr.encB_len]
  have ha' : a < (sealed (Wr.encB k f r vs)).length := by rw [hlen]; exact ha
  have hz : 0 ≤ (sealed (Wr.encB k f r vs)).getD a 0 ∧ (sealed (Wr.encB k f r vs)).getD a 0 ≤ 255 := by
    rw [List.getD, List.getElem?_eq_getElem ha']; exact hin _ (List.getElem_mem ha')
  have hx := xr_in _ m hz ⟨by omega, hm.2⟩
  obtain ⟨N, q, hq, hst⟩ := byte_bst hin ha' hx (xr_ne _ m hz hm)
  have hl2 : ((sealed (Wr.encB k f r vs)).set a (bits .xor .u8 ((sealed (Wr.encB k f r vs)).getD a 0) m)).length = (8 + 8 * vs.length) + 4 := by rw [List.length_set, hlen]
  refine ⟨hst.2.1, fun k' f' r' vs' hm' => ?_⟩
  have ht := hm'.tail
  rw [hl2, Nat.add_sub_cancel] at ht
  exact turned _ _ N q hst hq (8 + 8 * vs.length) hl2 ht
end Go.Proofs.YtofeoeknmlkjgaaGreat.Bs
end
