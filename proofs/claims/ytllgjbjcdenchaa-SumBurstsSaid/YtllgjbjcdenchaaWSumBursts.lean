/- The walk of SumBursts: turning up to 32 bits in a row, at least the first of them, changes the sum. -/
import Derived.Test.YtllgjbjcdenchaaBurst
import Derived.Test.YtllgjbjcdenchaaOpen
set_option linter.unusedVariables false
namespace Go.Proofs.Ytllgjbjcdenchaa.lawSumBursts
open Go.RowKit Go.Proofs.Ytllgjbjcdenchaa Crc

theorem sum_ne {zs zs' : List Int} {N k : Nat} (h : Bst zs zs' N k) (hk : 0 < k) : (sumFrom 0#32 zs').toNat ≠ (sumFrom 0#32 zs).toNat := by
  intro e
  have e2 := BitVec.eq_of_toNat_eq e
  unfold sumFrom at e2
  have e3 := congrArg (~~~ ·) e2
  simp only [BitVec.not_not] at e3
  exact h.differs hk _ e3

set_option maxRecDepth 100000 in
set_option maxHeartbeats 1000000 in
theorem walk1 (A : Option Addr) (n c : Nat) (zs : List Int) (x mask : Int) (w : World) (h : Ints w .u8 A n zs) (hA : A = none → n = 0 ∧ c = 0) (hn : n ≤ 140737488351232) (hn0 : 0 < n) (hz : ∀ z ∈ zs, 0 ≤ z ∧ z ≤ 255) :
    Calls Try.prog 9 #[.slice A n c, .int .i64 x, .int .i64 mask] w fun e w' => e = .returned (.bool true) ∧ Below w.heap.size w w' := by
  have hne : ((n : Int) == 0) = false := by simp; omega
  have H := Lib.hid h
  have HA := Lib.hid hA
  have HZ := Lib.hid hz
  clear h hA hz
  go_enter Try.func9, Try.ntmps9
  go_wp2_with fail
  refine (sums_any _).mono ?_
  rintro e w1 ⟨rfl, hB1⟩
  go_wp2_with fail
  refine (burst_any A n c zs x mask _ (H.out.next hB1) HA.out (by omega) hn0 HZ.out).mono ?_
  rintro e w2 ⟨A', c', zs', N, k, rfl, ⟨hown, hB2⟩, hst, hk⟩
  have HS := Lib.hid (sum_ne hst hk)
  have HZ' := Lib.hid hst.2.1
  clear hst hk
  have B2 := below_next hB1 hB2
  go_wp2_with fail
  refine (sum_any A' n c' zs' _ (Ints.own hown) HZ'.out (by omega)).mono ?_
  rintro e w3 ⟨rfl, hB3⟩
  have B3 := below_next B2 hB3
  go_wp2_with fail
  refine (bytes_any A n c zs _ (H.out.next B3) HA.out (by omega)).mono ?_
  rintro e w4 ⟨A'', c'', rfl, hown4, hB4⟩
  have B4 := below_next B3 hB4
  go_wp2_with fail
  refine (sum_any A'' n c'' zs _ (Ints.own hown4) HZ.out (by omega)).mono ?_
  rintro e w5 ⟨rfl, hB5⟩
  have B5 := below_next B4 hB5
  have hS := HS.out
  generalize (sumFrom 0#32 zs').toNat = s1 at *
  generalize (sumFrom 0#32 zs).toNat = s2 at *
  have hb : (((s1 : Nat) : Int) != ((s2 : Nat) : Int)) = true := by rw [bne_iff_ne]; intro e; exact hS (by omega)
  clear hS HS
  go_wp2_with fail
  go_ret
  exact ⟨rfl, B5⟩

set_option maxRecDepth 100000 in
theorem walk0 (A : Option Addr) (c : Nat) (x mask : Int) (w : World) :
    Calls Try.prog 9 #[.slice A 0 c, .int .i64 x, .int .i64 mask] w fun e w' => e = .returned (.bool true) ∧ Below w.heap.size w w' := by
  go_enter Try.func9, Try.ntmps9
  go_wp2_with fail
  refine (sums_any _).mono ?_
  rintro e w1 ⟨rfl, hB1⟩
  go_wp2_with fail
  go_ret
  exact ⟨rfl, hB1⟩

theorem walk {H : Type} {enc : TypeId × Value → H} {d0 d1 d2 : DataW H} {p0 p1 p2 : List MemPlace} (v0 v1 v2 : Value) (W : World) (base : Nat)
    (h0 : Value.okWide Try.prog W .any base 41 v0) (k0 : DataW.Trod enc Try.prog W 0 (fun _ => true) true 41 v0 d0 p0)
    (h1 : Value.okWide Try.prog W .any base 3 v1) (_ : DataW.Trod enc Try.prog W 0 (fun _ => true) true 3 v1 d1 p1)
    (h2 : Value.okWide Try.prog W .any base 3 v2) (_ : DataW.Trod enc Try.prog W 0 (fun _ => true) true 3 v2 d2 p2)
    (s0 : ∀ es sp, d0 = .slice es sp → (es.length + sp.length) * Try.prog.bytesOf 5 ≤ reachBytes) :
    Calls Try.prog 9 #[v0, v1, v2] W fun e w' => e = .returned (.bool true) ∧ Below W.heap.size W w' := by
  obtain ⟨A, n, c, rfl, hnc, _, hA, _⟩ := ok_slice Try.underlying41 h0
  obtain ⟨zs, hI, hw, _, hr⟩ := ints_in Try.underlying41 Try.underlying5 (by kernel_rfl) k0 s0
  have hb : Try.prog.bytesOf 5 = 1 := by kernel_rfl
  rw [hb] at hr
  obtain ⟨x, rfl, _⟩ := ok_int Try.underlying3 h1
  obtain ⟨y, rfl, _⟩ := ok_int Try.underlying3 h2
  by_cases hn : n = 0
  · subst hn; exact walk0 A c x y W
  · exact walk1 A n c zs x y W hI hA (by unfold reachBytes at hr; omega) (by omega) (fun z hz => bounds_u8 (hw z hz))
end Go.Proofs.Ytllgjbjcdenchaa.lawSumBursts
