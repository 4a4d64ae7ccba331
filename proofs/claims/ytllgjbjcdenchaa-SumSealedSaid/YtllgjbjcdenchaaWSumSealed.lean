/- The walk of SumSealed: what is sealed is opened as it was. -/
import Derived.Test.YtllgjbjcdenchaaSealPlain
import Derived.Test.YtllgjbjcdenchaaOpen
import Derived.Test.YtllgjbjcdenchaaKit2
set_option linter.unusedVariables false
namespace Go.Proofs.Ytllgjbjcdenchaa.lawSumSealed
open Go.RowKit Go.Proofs.Ytllgjbjcdenchaa Crc

theorem open_sealed (A : Option Addr) (n c : Nat) (zs : List Int) (w : World) (hn : zs.length = n) (h : Ints w .u8 A (n + 4) (sealed zs)) (hnc : n + 4 ≤ c) (hl : n + 4 ≤ 140737488355328) (hz : ∀ z ∈ zs, 0 ≤ z ∧ z ≤ 255) :
    Calls Try.prog 32 #[.slice A (n + 4) c] w fun e w' => ∃ A' c', e = .returned (.tuple #[.slice A' n c', .bool true]) ∧ NewBytes w w' A' n c' zs := by
  subst hn
  refine (open_any A (zs.length + 4) c (sealed zs) w h ?_ hnc hl (sealed_in zs hz)).mono ?_
  · rintro rfl
    obtain ⟨b, off, h1, _⟩ := h.2 (by omega)
    cases h1
  · intro e w' ho
    unfold Opened at ho
    rw [sealed_len, Nat.add_sub_cancel, sealed_take, sealed_tail] at ho
    rcases ho with ⟨_, _, h1⟩ | ⟨h1, _⟩
    · exact h1
    · exact absurd rfl (h1 (by omega))

set_option maxRecDepth 100000 in
set_option maxHeartbeats 1000000 in
theorem walk1 (A : Option Addr) (n c : Nat) (zs : List Int) (w : World) (h : Ints w .u8 A n zs) (hA : A = none → n = 0 ∧ c = 0) (hn : n ≤ 140737488351232) (hz : ∀ z ∈ zs, 0 ≤ z ∧ z ≤ 255) :
    Calls Try.prog 10 #[.slice A n c] w fun e w' => e = .returned (.bool true) ∧ Below w.heap.size w w' := by
  have H := Lib.hid h
  have HA := Lib.hid hA
  have HZ := Lib.hid hz
  have HL := Lib.hid h.1
  clear h hA hz
  go_enter Try.func10, Try.ntmps10
  go_wp2_with fail
  refine (bytes_any A n c zs _ H.out HA.out (by omega)).mono ?_
  rintro e w1 ⟨A1, c1, rfl, hown1, hB1⟩
  go_wp2_with fail
  refine (seal_any A1 n c1 zs _ (Ints.own hown1) (own_none hown1).1 (by omega) HZ.out).mono ?_
  rintro e w2 ⟨A2, c2, rfl, hown2, hB2⟩
  have B2 := below_next hB1 hB2
  go_wp2_with fail
  refine (open_sealed A2 n c2 zs _ HL.out (Ints.own hown2) (own_none hown2).2.2 (by omega) HZ.out).mono ?_
  rintro e w3 ⟨A3, c3, rfl, hown3, hB3⟩
  have B3 := below_next B2 hB3
  go_wp2_with fail
  refine (sums_any _).mono ?_
  rintro e w4 ⟨rfl, hB4⟩
  have B4 := below_next B3 hB4
  have c1 := conv_ints (P := Try.prog) (dst := 9) Try.underlying41 Try.underlying5 Try.underlying9 ((Ints.own hown3).next hB4) (own_none hown3).1
  have c2 := conv_ints (P := Try.prog) (dst := 9) Try.underlying41 Try.underlying5 Try.underlying9 (H.out.next B4) HA.out
  generalize strOfNums zs = str at c1 c2
  go_wp2_with fail
  go_ret
  exact ⟨rfl, B4⟩

theorem walk {H : Type} {enc : TypeId × Value → H} {d0 : DataW H} {p0 : List MemPlace} (v0 : Value) (W : World) (base : Nat)
    (h0 : Value.okWide Try.prog W .any base 41 v0) (k0 : DataW.Trod enc Try.prog W 0 (fun _ => true) true 41 v0 d0 p0)
    (s0 : ∀ es sp, d0 = .slice es sp → (es.length + sp.length) * Try.prog.bytesOf 5 ≤ reachBytes) :
    Calls Try.prog 10 #[v0] W fun e w' => e = .returned (.bool true) ∧ Below W.heap.size W w' := by
  obtain ⟨A, n, c, rfl, hnc, _, hA, _⟩ := ok_slice Try.underlying41 h0
  obtain ⟨zs, hI, hw, _, hr⟩ := ints_in Try.underlying41 Try.underlying5 (by kernel_rfl) k0 s0
  have hb : Try.prog.bytesOf 5 = 1 := by kernel_rfl
  rw [hb] at hr
  exact walk1 A n c zs W hI hA (by unfold reachBytes at hr; omega) (fun z hz => bounds_u8 (hw z hz))
end Go.Proofs.Ytllgjbjcdenchaa.lawSumSealed
