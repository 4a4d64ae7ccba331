/- The walk of MiddleOrder: turning a list round anywhere leaves the middle. -/
import Derived.Test.YtaobnddnefabeaaMidLaw
import Derived.Test.YtaobnddnefabeaaSpot
import Derived.Test.YtaobnddnefabeaaAppend
import Derived.Test.YtaobnddnefabeaaOpen
import Derived.Deep.RegionLaw
set_option linter.unusedVariables false
namespace Go.Proofs.Ytaobnddnefabeaa.lawMiddleOrder
open Go.RowKit Go.Proofs.Ytaobnddnefabeaa Md

theorem infoInt : (Try.prog.info? 3).map (fun i => (i.zero, i.size, i.bytes)) = some (some (.int .i64 0), 1, 8) := by kernel_rfl

set_option maxRecDepth 100000 in
set_option maxHeartbeats 1000000 in
theorem walk0 (A : Option Addr) (c : Nat) (x : Int) (w : World) (hA : A = none → c = 0) :
    Calls Try.prog 9 #[.slice A 0 c, .int .i64 x] w fun e w' => e = .returned (.bool true) ∧ Below w.heap.size w w' := by
  obtain ⟨i0, hi, hz0, hz1, hz2⟩ := info_parts infoInt
  have HA := Lib.hid (fun e => (⟨rfl, hA e⟩ : 0 = 0 ∧ c = 0))
  clear hA
  have km := fun B d W => Middle_bad B 0 d (.inl rfl) (by omega) W
  have KM := Lib.hid km
  clear km
  go_enter Try.func9, Try.ntmps9
  go_wp2_with (at_builtin; refine wpList_append_ints rfl _ _ 51 rfl w.heap.size 3 i0 (.int .i64 0) .i64 8 Try.underlying51 hi hz0 hz1 hz2 rfl _ 0 [] rfl (World.ownsRow_nil _ _ _ _) A 0 c [] rfl HA.out (Ints.nil _ _ _) (by unfold maxLen; omega) (by omega) (Nat.le_refl _) ?_; intro v1 w1 hown1 hg1)
  obtain ⟨A1, c1, rfl⟩ := own_shape hown1
  refine (KM.out A1 c1 _).mono ?_
  rintro e w' ⟨rfl, rfl⟩
  have HB := Lib.hid ((Below.refl w.heap.size w).grown hg1 (Nat.le_refl _) (fun j hj => by cases hj))
  clear hg1 hown1
  go_wp2_with fail
  refine (middles_any _).mono ?_
  rintro e w' ⟨rfl, hB2⟩
  have HB2 := Lib.hid (below_next HB.out hB2)
  clear hB2
  go_wp2_with fail
  go_ret
  exact ⟨rfl, HB2.out⟩

set_option maxRecDepth 100000 in
set_option maxHeartbeats 1000000 in
theorem walk1 (A : Option Addr) (n c : Nat) (zs : List Int) (x : Int) (w : World) (h : Ints w .i64 A n zs) (hz : ∀ z ∈ zs, In64 z) (hA : A = none → n = 0 ∧ c = 0) (hnc : n ≤ c) (hc : c * 8 ≤ 140737488351232) (hn : 0 < n) :
    Calls Try.prog 9 #[.slice A n c, .int .i64 x] w fun e w' => e = .returned (.bool true) ∧ Below w.heap.size w w' := by
  obtain ⟨i0, hi, hz0, hz1, hz2⟩ := info_parts infoInt
  have hne : ((n : Int) == 0) = false := by simp; omega
  have hq := Int.emod_nonneg x (b := (n : Int)) (by omega)
  have hq2 := Int.emod_lt_of_pos x (b := (n : Int)) (by omega)
  obtain ⟨k, hk⟩ : ∃ k : Nat, x % (n : Int) = (k : Int) := ⟨(x % (n : Int)).toNat, by omega⟩
  have hkn : k < n := by omega
  have ks := fun (W : World) => spot_any x n W (by omega) (by omega)
  rw [hk] at ks
  have Ks := Lib.hid ks
  clear ks hk hq hq2
  obtain ⟨A', r1, hA', s1⟩ := cut_from (P := Try.prog) (kd := .i64) Try.underlying51 hi hz1 h hA (Nat.le_of_lt hkn) hnc
  obtain ⟨r2, s2⟩ := cut_to (P := Try.prog) (kd := .i64) Try.underlying51 hi h (Nat.le_of_lt hkn) hnc
  have hperm : (zs.drop k ++ zs.take k).Perm zs := by
    have h := List.perm_append_comm (l₁ := zs.drop k) (l₂ := zs.take k)
    rwa [List.take_append_drop] at h
  have km1 := fun B d W (hI : Ints W .i64 B n zs) => Middle_any B n d zs W hI hz (by omega)
  have km2 := fun B d W (hI : Ints W .i64 B n (zs.drop k ++ zs.take k)) => Middle_any B n d _ W hI (fun z hm => hz z (hperm.mem_iff.1 hm)) (by omega)
  rw [midV_perm hperm] at km2
  generalize midV zs = mv at km1 km2
  generalize midE n = me at km1 km2
  have KM1 := Lib.hid km1
  have KM2 := Lib.hid km2
  have H0 := Lib.hid h
  have S1 := Lib.hid s1
  have S2 := Lib.hid s2
  have HA := Lib.hid hA
  have HA' := Lib.hid hA'
  have tv : (mv == mv) = true := by simp
  have te : (me == me) = true := by simp
  clear h s1 s2 hA hA' km1 km2 hperm hz
  go_enter Try.func9, Try.ntmps9
  go_wp2_with (at_builtin; refine wpList_append_ints rfl _ _ 51 rfl w.heap.size 3 i0 (.int .i64 0) .i64 8 Try.underlying51 hi hz0 hz1 hz2 rfl _ 0 [] rfl (World.ownsRow_nil _ _ _ _) A n c zs rfl HA.out H0.out (by unfold maxLen; omega) (by omega) (Nat.le_refl _) ?_; intro v1 w1 hown1 hg1)
  simp only [Nat.zero_add, List.nil_append] at hown1
  obtain ⟨g1, cap1, rfl, _, _, _⟩ := own_form hown1 hn
  refine (KM1.out _ _ _ (Ints.own hown1)).mono ?_
  rintro e w2 ⟨rfl, hB2⟩
  have hb1 : Below w.heap.size w w2 := below_next ((Below.refl _ _).grown hg1 (Nat.le_refl _) (fun j hj => by cases hj)) hB2
  have HB1 := Lib.hid hb1
  have hsz2 := hb1.size
  have S1' := Lib.hid (S1.out.next hb1)
  have S2' := Lib.hid (S2.out.next hb1)
  clear hb1 hg1 hown1 hB2
  go_wp2_with fail
  refine (Ks.out _).mono ?_
  rintro e w' ⟨rfl, rfl⟩
  go_wp2_with fail
  have HA2 := Lib.hid (fun e => (⟨by have := (HA.out e).1; omega, (HA.out e).2⟩ : k = 0 ∧ c = 0))
  have e0 : 0 + (n - k) + k = n := by omega
  have E0 := Lib.hid e0
  clear e0
  go_region_law (first | (refine step_append_ints rfl (.const (.slice none 0 0)) (.tmp 31) 51 rfl w2.heap.size 3 i0 (.int .i64 0) .i64 8 Try.underlying51 hi hz0 hz1 hz2 rfl (.slice none 0 0) 0 [] (by simp [Act.eval]) (World.ownsRow_nil _ _ _ _) A' (n - k) (c - k) (zs.drop k) (by simp [Act.eval, Act.put]) HA'.out S1'.out (by unfold maxLen; omega) (by omega) (by exact Nat.le_refl _) ?_; intro v2 w3 hown2 hg2) | (refine step_append_ints rfl (.tmp 32) (.tmp 35) 51 rfl w2.heap.size 3 i0 (.int .i64 0) .i64 8 Try.underlying51 hi hz0 hz1 hz2 rfl v2 _ _ (by simp [Act.eval]) hown2 A k c (zs.take k) (by simp [Act.eval]) HA2.out (S2'.out.drew.next ((Below.refl w2.heap.size _).grown hg2 (by exact Nat.le_refl _) (fun j hj => by cases hj))) (by unfold maxLen; omega) (by omega) (by have := hg2.size; simpa using this) ?_; intro v3 w4 hown3 hg3; rw [E0.out, List.nil_append, ← List.map_append] at hown3; obtain ⟨g3, cap3, rfl, hg3a, _, _⟩ := own_form hown3 hn) | (go_simp; go_at_call 26; refine (KM2.out _ _ _ (Ints.own hown3)).mono ?_; rintro e w5 ⟨rfl, hB5⟩))
  have hb2 := below_next (((HB1.out.drew).grown hg2 hsz2 (fun j hj => by cases hj)).grown hg3 (by have := hg2.size; simp at this; omega) (fun j hj => by have := (hown2.lt j hj).1; omega)) hB5
  have HB2 := Lib.hid hb2
  clear hb2 hB5 hown3 hg3 hown2 hg2
  go_wp2_with fail
  refine (middles_any _).mono ?_
  rintro e w6 ⟨rfl, hB6⟩
  have HB3 := Lib.hid (below_next HB2.out hB6)
  clear hB6
  go_wp2_with fail
  go_ret
  exact ⟨rfl, HB3.out⟩

set_option maxRecDepth 100000 in
theorem walk {H : Type} {enc : TypeId × Value → H} {d0 d1 : DataW H} {p0 p1 : List MemPlace} (v0 v1 : Value) (W : World) (base : Nat)
    (h0 : Value.okWide Try.prog W .any base 51 v0) (k0 : DataW.Trod enc Try.prog W 0 (fun _ => true) true 51 v0 d0 p0)
    (h1 : Value.okWide Try.prog W .any base 3 v1) (_ : DataW.Trod enc Try.prog W 0 (fun _ => true) true 3 v1 d1 p1)
    (s0 : ∀ es sp, d0 = .slice es sp → (es.length + sp.length) * Try.prog.bytesOf 3 ≤ reachBytes) :
    Calls Try.prog 9 #[v0, v1] W fun e w' => e = .returned (.bool true) ∧ Below W.heap.size W w' := by
  obtain ⟨A, n, c, zs, rfl, hI, hz, hA, hnc, hc⟩ := list_in h0 k0 s0
  obtain ⟨x, rfl, _⟩ := ok_int Try.underlying3 h1
  by_cases hn : n = 0
  · subst hn; exact walk0 A c x W (fun e => (hA e).2)
  · exact walk1 A n c zs x W hI hz hA hnc hc (by omega)
end Go.Proofs.Ytaobnddnefabeaa.lawMiddleOrder
