/- What a step of the roll keeps, in plain Lean: at least two are in, changes are just those told. -/
import Derived.Test.YtllgjbjcdenchaaMemLaw
set_option linter.unusedVariables false
namespace Go.Proofs.Ytllgjbjcdenchaa.Mb
open Go.RowKit

theorem cnt4 (R : Rl) : cntIn R 4 = (if R.inn 0 = true then 1 else 0) + (if R.inn 1 = true then 1 else 0) + (if R.inn 2 = true then 1 else 0) + (if R.inn 3 = true then 1 else 0) := by
  simp [cntIn]
theorem cnt_congr {R R' : Rl} (h : ∀ j, R'.inn j = R.inn j) : cntIn R' 4 = cntIn R 4 := by rw [cnt4, cnt4, h, h, h, h]
theorem cnt_off {R R' : Rl} {k : Nat} (hk : k < 4) (h : R'.inn = upd R.inn k false) (hi : R.inn k = true) : cntIn R' 4 + 1 = cntIn R 4 := by
  rw [cnt4, cnt4, h]
  have hk' : k = 0 ∨ k = 1 ∨ k = 2 ∨ k = 3 := by omega
  rcases hk' with rfl | rfl | rfl | rfl <;> simp [upd, hi] <;> omega
theorem cnt_on {R R' : Rl} {k : Nat} (hk : k < 4) (h : R'.inn = upd R.inn k true) (hi : R.inn k = false) : cntIn R' 4 = cntIn R 4 + 1 := by
  rw [cnt4, cnt4, h]
  have hk' : k = 0 ∨ k = 1 ∨ k = 2 ∨ k = 3 := by omega
  rcases hk' with rfl | rfl | rfl | rfl <;> simp [upd, hi] <;> omega
/-- in less out -/
def sumz (l : List (Int × Int)) : Int := (l.map fun p => if p.1 == 2 then (1 : Int) else -1).sum
theorem sumz_snoc (l : List (Int × Int)) (p : Int × Int) : sumz (l ++ [p]) = sumz l + if p.1 == 2 then (1 : Int) else -1 := by
  unfold sumz; rw [List.map_append, List.sum_append]; simp
theorem sumz_take {l : List (Int × Int)} {j : Nat} (h : j < l.length) : sumz (l.take (j + 1)) = sumz (l.take j) + if (l[j]).1 == 2 then (1 : Int) else -1 := by
  rw [List.take_succ_eq_append_getElem h, sumz_snoc]
theorem sumz_bd (l : List (Int × Int)) : -(l.length : Int) ≤ sumz l ∧ sumz l ≤ l.length := by
  unfold sumz
  induction l with
  | nil => simp
  | cons p l ih =>
    simp only [List.map_cons, List.sum_cons, List.length_cons]
    split <;> omega
/-- what is told is what is turned -/
def Told_ (R P : Rl) (k : Nat) (l : List (Int × Int)) : Prop := ∀ p ∈ l, ∃ j : Nat, j < k ∧ p.2 = (j : Int) ∧ P.inn j = !R.inn j ∧ P.inn j = (p.1 == 2)
theorem Told_.keep {R P P' : Rl} {k : Nat} {l : List (Int × Int)} (h : Told_ R P k l) (hp : ∀ j, j < k → P'.inn j = P.inn j) : Told_ R P' (k + 1) l := by
  intro p hp'
  obtain ⟨j, h1, h2, h3, h4⟩ := h p hp'
  exact ⟨j, by omega, h2, by rw [hp j h1]; exact h3, by rw [hp j h1]; exact h4⟩
theorem Told_.more {R P P' : Rl} {k : Nat} {l : List (Int × Int)} {z : Int} (h : Told_ R P k l) (hp : ∀ j, j < k → P'.inn j = P.inn j) (h1 : P'.inn k = !R.inn k) (h2 : P'.inn k = (z == 2)) : Told_ R P' (k + 1) (l ++ [(z, (k : Int))]) := by
  intro p hp'
  rcases List.mem_append.1 hp' with h3 | h3
  · exact h.keep hp p h3
  · rw [List.mem_singleton] at h3
    subst h3
    exact ⟨k, by omega, rfl, h1, h2⟩
theorem right_to {R : Rl} {A : Nat → Bool} (h2 : 2 ≤ cntIn R 4) : ∀ k, k ≤ 4 → 2 ≤ cntIn (stepTo R A k).1 4 ∧ (∀ j, k ≤ j → (stepTo R A k).1.inn j = R.inn j) ∧ Told_ R (stepTo R A k).1 k (stepTo R A k).2 ∧
    (cntIn R 4 : Int) + sumz (stepTo R A k).2 = cntIn (stepTo R A k).1 4
  | 0, _ => ⟨h2, fun _ _ => rfl, (fun p hp => by cases hp), by simp [stepTo, sumz]⟩
  | k + 1, hk => by
    obtain ⟨q1, q2, q3, q4⟩ := right_to (A := A) h2 k (by omega)
    have e := q2 k (Nat.le_refl _)
    unfold stepTo
    generalize (stepTo R A k).1 = P at *
    generalize (stepTo R A k).2 = l at *
    by_cases hi : P.inn k = true
    · rw [if_pos hi]
      by_cases ho : (stay1 P k (A k)).2 = true
      · have hs : stay1 P k (A k) = (⟨upd P.inn k false, upd P.miss k 0, upd P.join k 0⟩, true) ∧ ¬ cntIn P 4 ≤ 2 := by
          unfold stay1 at ho ⊢
          split at ho
          · cases ho
          · split at ho
            · cases ho
            · rename_i c1 c2
              rw [if_neg c1, if_neg c2]
              exact ⟨rfl, fun h => c2 (.inr h)⟩
        have hc := cnt_off (R := P) (R' := (stay1 P k (A k)).1) (by omega) (by rw [hs.1]) hi
        rw [ho]
        simp only [if_true]
        refine ⟨by omega, fun j hj => ?_, q3.more (fun j hj => ?_) ?_ ?_, ?_⟩
        · rw [hs.1]; simp only []; rw [upd_far _ _ (by omega)]; exact q2 j (by omega)
        · rw [hs.1]; simp only []; rw [upd_far _ _ (by omega)]
        · rw [hs.1]; simp only [upd_same]; rw [← e, hi]; rfl
        · rw [hs.1]; simp only [upd_same]; rfl
        · rw [sumz_snoc]; simp only [show ((1 : Int) == 2) = false from rfl, Bool.false_eq_true, if_false]; omega
      · have hs : ∀ j, (stay1 P k (A k)).1.inn j = P.inn j := by
          intro j
          unfold stay1 at ho ⊢
          split at ho
          · rename_i c1; rw [if_pos c1]
          · split at ho
            · rename_i c1 c2; rw [if_neg c1, if_pos c2]
            · exact absurd rfl ho
        have hc := cnt_congr hs
        simp only [ho, if_false, Bool.false_eq_true]
        exact ⟨by omega, fun j hj => by rw [hs]; exact q2 j (by omega), q3.keep (fun j _ => hs j), by omega⟩
    · rw [if_neg hi]
      have hif : P.inn k = false := by simpa using hi
      by_cases ho : (wait1 P k (A k)).2 = true
      · have hs : wait1 P k (A k) = (⟨upd P.inn k true, upd P.miss k 0, upd P.join k 0⟩, true) := by
          unfold wait1 at ho ⊢
          split at ho
          · cases ho
          · split at ho
            · cases ho
            · rename_i c1 c2
              rw [if_neg c1, if_neg c2]
        have hc := cnt_on (R := P) (R' := (wait1 P k (A k)).1) (by omega) (by rw [hs]) hif
        rw [ho]
        simp only [if_true]
        refine ⟨by omega, fun j hj => ?_, q3.more (fun j hj => ?_) ?_ ?_, ?_⟩
        · rw [hs]; simp only []; rw [upd_far _ _ (by omega)]; exact q2 j (by omega)
        · rw [hs]; simp only []; rw [upd_far _ _ (by omega)]
        · rw [hs]; simp only [upd_same]; rw [← e, hif]; rfl
        · rw [hs]; simp only [upd_same]; rfl
        · rw [sumz_snoc]; simp only [show ((2 : Int) == 2) = true from rfl, if_true]; omega
      · have hs : ∀ j, (wait1 P k (A k)).1.inn j = P.inn j := by
          intro j
          unfold wait1 at ho ⊢
          split at ho
          · rename_i c1; rw [if_pos c1]
          · split at ho
            · rename_i c1 c2; rw [if_neg c1, if_pos c2]
            · exact absurd rfl ho
        have hc := cnt_congr hs
        simp only [ho, if_false, Bool.false_eq_true]
        exact ⟨by omega, fun j hj => by rw [hs]; exact q2 j (by omega), q3.keep (fun j _ => hs j), by omega⟩
theorem right_all {R : Rl} {A : Nat → Bool} (st : Bool) (hG : Good R) (h2 : 2 ≤ cntIn R 4) : Good (stepAll R A st).1 ∧ 2 ≤ cntIn (stepAll R A st).1 4 ∧ Told_ R (stepAll R A st).1 4 (stepAll R A st).2 ∧
    (cntIn R 4 : Int) + sumz (stepAll R A st).2 = cntIn (stepAll R A st).1 4 ∧ (stepAll R A st).2.length ≤ 4 ∧ (st = false → stepAll R A st = (R, [])) := by
  unfold stepAll
  cases st
  · simp only [Bool.false_eq_true, if_false]
    exact ⟨hG, h2, (fun p hp => by cases hp), by simp [sumz], by simp, fun _ => by trivial⟩
  · simp only [if_true]
    obtain ⟨q1, _, q3, q4⟩ := right_to (A := A) h2 4 (Nat.le_refl _)
    exact ⟨step_good hG 4 (Nat.le_refl _), q1, q3, q4, step_len 4, fun h => by cases h⟩
end Go.Proofs.Ytllgjbjcdenchaa.Mb
