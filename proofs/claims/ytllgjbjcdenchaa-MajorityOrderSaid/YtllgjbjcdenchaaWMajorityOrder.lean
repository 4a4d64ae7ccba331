/- The walk of MajorityOrder: turning a list round anywhere leaves the majority. -/
import Derived.Test.YtllgjbjcdenchaaMaj
import Derived.Test.YtllgjbjcdenchaaSpot
import Derived.Test.YtllgjbjcdenchaaAppend
import Derived.Test.YtllgjbjcdenchaaOpen
import Derived.Deep.RegionLaw
set_option linter.unusedVariables false
namespace Go.Proofs.Ytllgjbjcdenchaa.lawMajorityOrder
open Go.RowKit Go.Proofs.Ytllgjbjcdenchaa Mj

theorem infoInt : (Try.prog.info? 3).map (fun i => (i.zero, i.size, i.bytes)) = some (some (.int .i64 0), 1, 8) := by kernel_rfl

/-- the test call at one number -/
theorem maj5 (w : World) (g : Nat) (hg : Blk w g 3 #[.int .i64 5]) : Ints w .i64 (some ⟨g, 0, none⟩) 1 [5] :=
  ⟨rfl, fun _ => ⟨g, 0, rfl, hg.lt, fun j hj => by
    obtain rfl : j = 0 := by omega
    exact hg.cell 0⟩⟩

theorem call5 (w : World) : Calls Try.prog 25 #[.slice (some ⟨w.heap.size, 0, none⟩) 1 1, .int .i64 0] (w.alloc (.cells #[.int .i64 5] 3)) fun e w' => e = .returned (.int .i64 5) ∧ w.alloc (.cells #[.int .i64 5] 3) = w' :=
  maj_any _ 1 1 [5] 0 _ (maj5 _ _ (Blk.new _ _ _)) (by decide)

set_option maxRecDepth 100000 in
set_option maxHeartbeats 1000000 in
theorem walk0 (A : Option Addr) (c : Nat) (other x : Int) (w : World) (hA : A = none → c = 0) :
    Calls Try.prog 6 #[.slice A 0 c, .int .i64 other, .int .i64 x] w fun e w' => e = .returned (.bool true) ∧ Below w.heap.size w w' := by
  obtain ⟨i0, hi, hz0, hz1, hz2⟩ := info_parts infoInt
  have HA := Lib.hid (fun e => (⟨rfl, hA e⟩ : 0 = 0 ∧ c = 0))
  clear hA
  go_enter Try.func6, Try.ntmps6
  go_wp2_with (at_builtin; refine wpList_append_ints rfl _ _ 38 rfl w.heap.size 3 i0 (.int .i64 0) .i64 8 Try.underlying38 hi hz0 hz1 hz2 rfl _ 0 [] rfl (World.ownsRow_nil _ _ _ _) A 0 c [] rfl HA.out (Ints.nil _ _ _) (by unfold maxLen; omega) (by omega) (Nat.le_refl _) ?_; intro v1 w1 hown1 hg1)
  obtain ⟨A1, c1, rfl⟩ := own_shape hown1
  refine (maj_any _ 0 _ [] other _ (Ints.nil _ _ _) (by omega)).mono ?_
  rintro e w' ⟨rfl, rfl⟩
  go_wp2_with fail
  refine (call5 _).mono ?_
  rintro e w' ⟨rfl, rfl⟩
  have hm : maj [] other = other := rfl
  rw [hm]
  clear hm
  go_wp2_with fail
  go_ret
  exact ⟨rfl, ((Below.refl _ _).grown hg1 (Nat.le_refl _) (fun j hj => by cases hj)).alloc (by have := hg1.size; exact this) _⟩

set_option maxRecDepth 100000 in
set_option maxHeartbeats 1000000 in
theorem walk1 (A : Option Addr) (n c : Nat) (zs : List Int) (other x : Int) (w : World) (h : Ints w .i64 A n zs) (hA : A = none → n = 0 ∧ c = 0) (hnc : n ≤ c) (hc : c * 8 ≤ 140737488351232) (hn : 0 < n) :
    Calls Try.prog 6 #[.slice A n c, .int .i64 other, .int .i64 x] w fun e w' => e = .returned (.bool true) ∧ Below w.heap.size w w' := by
  obtain ⟨i0, hi, hz0, hz1, hz2⟩ := info_parts infoInt
  have hne : ((n : Int) == 0) = false := by simp; omega
  have hq := Int.emod_nonneg x (b := (n : Int)) (by omega)
  have hq2 := Int.emod_lt_of_pos x (b := (n : Int)) (by omega)
  obtain ⟨k, hk⟩ : ∃ k : Nat, x % (n : Int) = (k : Int) := ⟨(x % (n : Int)).toNat, by omega⟩
  have hkn : k < n := by omega
  have ks := fun (W : World) => spot_any x n W (by omega) (by omega)
  rw [hk] at ks
  have Ks := Lib.hid ks
  clear ks hk hq hq2
  obtain ⟨A', r1, hA', s1⟩ := cut_from (P := Try.prog) (kd := .i64) Try.underlying38 hi hz1 h hA (Nat.le_of_lt hkn) hnc
  obtain ⟨r2, s2⟩ := cut_to (P := Try.prog) (kd := .i64) Try.underlying38 hi h (Nat.le_of_lt hkn) hnc
  have H0 := Lib.hid h
  have S1 := Lib.hid s1
  have S2 := Lib.hid s2
  have HA := Lib.hid hA
  have HA' := Lib.hid hA'
  clear h s1 s2 hA hA'
  go_enter Try.func6, Try.ntmps6
  go_wp2_with (at_builtin; refine wpList_append_ints rfl _ _ 38 rfl w.heap.size 3 i0 (.int .i64 0) .i64 8 Try.underlying38 hi hz0 hz1 hz2 rfl _ 0 [] rfl (World.ownsRow_nil _ _ _ _) A n c zs rfl HA.out H0.out (by unfold maxLen; omega) (by omega) (Nat.le_refl _) ?_; intro v1 w1 hown1 hg1)
  simp only [Nat.zero_add, List.nil_append] at hown1
  obtain ⟨g1, cap1, rfl, _, _, _⟩ := own_form hown1 hn
  refine (maj_any _ n _ zs other _ (Ints.own hown1) (by omega)).mono ?_
  rintro e w' ⟨rfl, rfl⟩
  go_wp2_with fail
  refine (Ks.out _).mono ?_
  rintro e w' ⟨rfl, rfl⟩
  go_wp2_with fail
  have hb1 : Below w.heap.size w w1 := (Below.refl _ _).grown hg1 (Nat.le_refl _) (fun j hj => by cases hj)
  have HB1 := Lib.hid hb1
  have hz1' := hb1.size
  have S1' := Lib.hid (S1.out.next hb1)
  have S2' := Lib.hid (S2.out.next hb1)
  clear hb1 hg1 hown1
  have kt : ∀ (B : Option Addr) (d : Nat) (W : World), Ints W .i64 B n (zs.drop k ++ zs.take k) → Calls Try.prog 25 #[.slice B n d, .int .i64 other] W fun e w' => e = .returned (.int .i64 (maj zs other)) ∧ W = w' := by
    intro B d W hI
    rw [← maj_turn zs k other]
    exact maj_any B n d _ other W hI (by omega)
  have KT := Lib.hid kt
  clear kt
  have HA2 := Lib.hid (fun e => (⟨by have := (HA.out e).1; omega, (HA.out e).2⟩ : k = 0 ∧ c = 0))
  have e0 : 0 + (n - k) + k = n := by omega
  have E0 := Lib.hid e0
  clear e0
  go_region_law (first | (refine step_append_ints rfl (.const (.slice none 0 0)) (.tmp 31) 38 rfl w1.heap.size 3 i0 (.int .i64 0) .i64 8 Try.underlying38 hi hz0 hz1 hz2 rfl (.slice none 0 0) 0 [] (by simp [Act.eval]) (World.ownsRow_nil _ _ _ _) A' (n - k) (c - k) (zs.drop k) (by simp [Act.eval, Act.put]) HA'.out S1'.out (by unfold maxLen; omega) (by omega) (by exact Nat.le_refl _) ?_; intro v2 w2 hown2 hg2) | (refine step_append_ints rfl (.tmp 32) (.tmp 35) 38 rfl w1.heap.size 3 i0 (.int .i64 0) .i64 8 Try.underlying38 hi hz0 hz1 hz2 rfl v2 _ _ (by simp [Act.eval]) hown2 A k c (zs.take k) (by simp [Act.eval]) HA2.out (S2'.out.drew.next ((Below.refl w1.heap.size _).grown hg2 (by exact Nat.le_refl _) (fun j hj => by cases hj))) (by unfold maxLen; omega) (by omega) (by have := hg2.size; simpa using this) ?_; intro v3 w3 hown3 hg3; rw [E0.out, List.nil_append, ← List.map_append] at hown3; obtain ⟨g3, cap3, rfl, hg3a, _, _⟩ := own_form hown3 hn) | (go_simp; go_at_call 25; refine (KT.out _ _ _ (Ints.own hown3)).mono ?_; rintro e w' ⟨rfl, rfl⟩))
  go_wp2_with fail
  refine (call5 _).mono ?_
  rintro e w' ⟨rfl, rfl⟩
  go_wp2_with fail
  go_ret
  refine ⟨rfl, ?_⟩
  have hb2 := (((HB1.out.drew).grown hg2 hz1' (fun j hj => by cases hj)).grown hg3 (by have := hg2.size; simp at this; omega) (fun j hj => by have := (hown2.lt j hj).1; omega))
  exact hb2.alloc hb2.size _

theorem walk {H : Type} {enc : TypeId × Value → H} {d0 d1 d2 : DataW H} {p0 p1 p2 : List MemPlace} (v0 v1 v2 : Value) (W : World) (base : Nat)
    (h0 : Value.okWide Try.prog W .any base 38 v0) (k0 : DataW.Trod enc Try.prog W 0 (fun _ => true) true 38 v0 d0 p0)
    (h1 : Value.okWide Try.prog W .any base 3 v1) (_ : DataW.Trod enc Try.prog W 0 (fun _ => true) true 3 v1 d1 p1)
    (h2 : Value.okWide Try.prog W .any base 3 v2) (_ : DataW.Trod enc Try.prog W 0 (fun _ => true) true 3 v2 d2 p2)
    (s0 : ∀ es sp, d0 = .slice es sp → (es.length + sp.length) * Try.prog.bytesOf 3 ≤ reachBytes) :
    Calls Try.prog 6 #[v0, v1, v2] W fun e w' => e = .returned (.bool true) ∧ Below W.heap.size W w' := by
  obtain ⟨A, n, c, rfl, hnc, _, hA, _⟩ := ok_slice Try.underlying38 h0
  obtain ⟨zs, hI, _, _, hr⟩ := ints_in Try.underlying38 Try.underlying3 (by kernel_rfl) k0 s0
  have hb : Try.prog.bytesOf 3 = 8 := by kernel_rfl
  rw [hb] at hr
  obtain ⟨x, rfl, _⟩ := ok_int Try.underlying3 h1
  obtain ⟨y, rfl, _⟩ := ok_int Try.underlying3 h2
  by_cases hn : n = 0
  · subst hn; exact walk0 A c x y W (fun e => (hA e).2)
  · exact walk1 A n c zs x y W hI hA hnc (by unfold reachBytes at hr; omega) (by omega)
end Go.Proofs.Ytllgjbjcdenchaa.lawMajorityOrder
