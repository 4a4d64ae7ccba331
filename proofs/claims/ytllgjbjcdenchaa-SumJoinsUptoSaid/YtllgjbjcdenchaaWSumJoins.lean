/- The walk of SumJoins: the sum of the first, gone on over the second, is the sum of both together. -/
import Derived.Test.YtllgjbjcdenchaaBytes
import Derived.Test.YtllgjbjcdenchaaOpen2
import Derived.Test.YtllgjbjcdenchaaKit2
set_option linter.unusedVariables false
namespace Go.Proofs.Ytllgjbjcdenchaa.lawSumJoins
open Go.RowKit Go.Proofs.Ytllgjbjcdenchaa Crc

theorem ofInt_toNat (c : BitVec 32) : BitVec.ofInt 32 ((c.toNat : Nat) : Int) = c := by
  apply BitVec.eq_of_toNat_eq
  have := c.isLt
  rw [BitVec.toNat_ofInt]
  omega

set_option maxRecDepth 100000 in
set_option maxHeartbeats 1000000 in
theorem walk1 (A B : Option Addr) (n m c d : Nat) (xs ys : List Int) (w : World) (h : Ints w .u8 A n xs) (hB : Ints w .u8 B m ys) (hA : A = none → n = 0 ∧ c = 0) (hBn : B = none → m = 0 ∧ d = 0) (hn : n ≤ 1048576) (hm : m ≤ 1048576) (hx : ∀ z ∈ xs, 0 ≤ z ∧ z ≤ 255) (hy : ∀ z ∈ ys, 0 ≤ z ∧ z ≤ 255) :
    Calls Try.prog 7 #[.slice A n c, .slice B m d] w fun e w' => e = .returned (.bool true) ∧ Below w.heap.size w w' := by
  obtain ⟨i0, hi, hz0, hz1, hz2⟩ := info_parts infoByte
  have H := Lib.hid h
  have HB := Lib.hid hB
  have HA := Lib.hid hA
  have HBn := Lib.hid hBn
  have HX := Lib.hid hx
  have HY := Lib.hid hy
  have HXY := Lib.hid (show ∀ z ∈ xs ++ ys, 0 ≤ z ∧ z ≤ 255 from fun z hz => (List.mem_append.1 hz).elim (hx z) (hy z))
  have hs := sum_joins 0#32 xs ys
  have HS := Lib.hid hs
  clear h hB hA hBn hx hy hs
  go_enter Try.func7, Try.ntmps7
  go_wp2_with fail
  refine (sums_any _).mono ?_
  rintro e w1 ⟨rfl, hB1⟩
  go_wp2_with fail
  refine (bytes_any A n c xs _ (H.out.next hB1) HA.out (by omega)).mono ?_
  rintro e w2 ⟨A2, c2, rfl, hown2, hB2⟩
  have B2 := below_next hB1 hB2
  go_wp2_with fail
  refine (sum_any A2 n c2 xs _ (Ints.own hown2) HX.out (by omega)).mono ?_
  rintro e w3 ⟨rfl, hB3⟩
  have B3 := below_next B2 hB3
  go_wp2_with fail
  refine (bytes_any B m d ys _ (HB.out.next B3) HBn.out (by omega)).mono ?_
  rintro e w4 ⟨A4, c4, rfl, hown4, hB4⟩
  have B4 := below_next B3 hB4
  go_wp2_with fail
  refine (more_any _ A4 m c4 ys _ (Ints.own hown4) HY.out (by omega)).mono ?_
  rintro e w5 ⟨rfl, hB5⟩
  have B5 := below_next B4 hB5
  rw [ofInt_toNat, HS.out]
  go_wp2_with fail
  refine (bytes_any A n c xs _ (H.out.next B5) HA.out (by omega)).mono ?_
  rintro e w6 ⟨A6, c6, rfl, hown6, hB6⟩
  have B6 := below_next B5 hB6
  have hle6 := B6.size
  have hle5 := hB6.size
  go_wp2_with (at_builtin; refine wpList_append_ints rfl (.tmp 14) (.tmp 15) 41 rfl w5.heap.size 5 i0 (.int .u8 0) .u8 1 Try.underlying41 hi hz0 hz1 hz2 rfl _ n _ rfl hown6 B m d ys rfl HBn.out (HB.out.next B6) (by unfold maxLen; omega) (by omega) (by omega) ?_; intro v7 w7 hown7 hg7)
  rw [← List.map_append] at hown7
  obtain ⟨A7, c7, rfl⟩ := own_shape hown7
  have B7 : Below w.heap.size w w7 := B6.grown hg7 hle6 (fun j hj => Nat.le_trans B5.size (hown6.lt j hj).1)
  go_wp2_with fail
  refine (sum_any A7 (n + m) c7 (xs ++ ys) _ (Ints.own hown7) HXY.out (by omega)).mono ?_
  rintro e w8 ⟨rfl, hB8⟩
  have B8 := below_next B7 hB8
  go_wp2_with fail
  go_ret
  exact ⟨rfl, B8⟩

theorem walk {H : Type} {enc : TypeId × Value → H} {d0 d1 : DataW H} {p0 p1 : List MemPlace} (v0 v1 : Value) (W : World) (base : Nat)
    (h0 : Value.okWide Try.prog W .any base 41 v0) (k0 : DataW.Trod enc Try.prog W 0 (fun _ => true) true 41 v0 d0 p0)
    (h1 : Value.okWide Try.prog W .any base 41 v1) (k1 : DataW.Trod enc Try.prog W 0 (fun _ => true) true 41 v1 d1 p1)
    (s0 : ∀ es sp, d0 = .slice es sp → es.length + sp.length ≤ 1048576)
    (s1 : ∀ es sp, d1 = .slice es sp → es.length + sp.length ≤ 1048576) :
    Calls Try.prog 7 #[v0, v1] W fun e w' => e = .returned (.bool true) ∧ Below W.heap.size W w' := by
  obtain ⟨A, n, c, rfl, hnc, _, hA, _⟩ := ok_slice Try.underlying41 h0
  obtain ⟨zs, hI, hw, hl, hL⟩ := ints_upto Try.underlying41 Try.underlying5 (by kernel_rfl) k0 s0
  obtain ⟨B, m, d, rfl, hmd, _, hB, _⟩ := ok_slice Try.underlying41 h1
  obtain ⟨ys, hJ, hv, hk, hK⟩ := ints_upto Try.underlying41 Try.underlying5 (by kernel_rfl) k1 s1
  exact walk1 A B n m c d zs ys W hI hJ hA hB (by omega) (by omega) (fun z hz => bounds_u8 (hw z hz)) (fun z hz => bounds_u8 (hv z hz))
end Go.Proofs.Ytllgjbjcdenchaa.lawSumJoins
