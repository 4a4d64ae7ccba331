/- What four nodes take for said, in plain Lean: with one bad node the good ones agree. -/
import Derived.Test.YtllgjbjcdenchaaMajPlain
set_option linter.unusedVariables false
namespace Go.Proofs.Ytllgjbjcdenchaa.Ag
open Go.Proofs.Ytllgjbjcdenchaa.Mj

/-- the two that relay what s said to q, of the first k -/
def from_ (s q k : Nat) : List Nat := (List.range k).filter (fun r => decide (r ≠ s) && decide (r ≠ q))
/-- what q was told by them: what they heard themselves, but for the bad one -/
def Told (D : Nat → Int) (bad : Int) : List Nat → List Int → Prop
  | [], l => l = []
  | r :: rs, l => ∃ v m, l = v :: m ∧ (¬ (r : Int) = bad → v = D r) ∧ Told D bad rs m
theorem Told.snoc {D : Nat → Int} {bad : Int} {r : Nat} {v : Int} : ∀ {rs : List Nat} {l : List Int}, Told D bad rs l → (¬ (r : Int) = bad → v = D r) → Told D bad (rs ++ [r]) (l ++ [v])
  | [], l, h, hv => by
    simp only [Told] at h
    subst h
    exact ⟨v, [], rfl, hv, rfl⟩
  | x :: rs, l, h, hv => by
    obtain ⟨u, m, rfl, hu, hm⟩ := h
    exact ⟨u, m ++ [v], rfl, hu, hm.snoc hv⟩
theorem from_succ (s q k : Nat) : from_ s q (k + 1) = if k ≠ s ∧ k ≠ q then from_ s q k ++ [k] else from_ s q k := by
  unfold from_
  rw [List.range_succ, List.filter_append]
  by_cases h1 : k = s
  · simp [h1]
  · by_cases h2 : k = q
    · simp [h2]
    · simp [h1, h2]
theorem told_len {D : Nat → Int} {bad : Int} : ∀ {rs : List Nat} {l : List Int}, Told D bad rs l → l.length = rs.length
  | [], l, h => by simp only [Told] at h; subst h; rfl
  | x :: rs, l, h => by
    obtain ⟨u, m, rfl, hu, hm⟩ := h
    simp [told_len hm]

/-- what is promised of what all take for said by s -/
def Agr (s : Nat) (value bad : Int) (O : Nat → Int) : Prop :=
  (¬ (s : Int) = bad → ∀ q : Nat, q < 4 → ¬ (q : Int) = bad → O q = value) ∧ (∀ p q : Nat, p < 4 → q < 4 → ¬ (p : Int) = bad → ¬ (q : Int) = bad → O p = O q)

theorem maj3 {x y z v : Int} (h : (x = v ∧ y = v) ∨ (x = v ∧ z = v) ∨ (y = v ∧ z = v)) : maj [x, y, z] 0 = v := by
  refine maj_of ?_
  unfold cn
  rcases h with ⟨rfl, rfl⟩ | ⟨rfl, rfl⟩ | ⟨rfl, rfl⟩ <;> simp [List.filter_cons] <;> (try split) <;> simp
theorem maj3_congr {x y z a b c : Int} (h : ∀ v, cn v [x, y, z] = cn v [a, b, c]) : maj [x, y, z] 0 = maj [a, b, c] 0 := maj_congr (l := [x, y, z]) (m := [a, b, c]) rfl h 0
def ind (x v : Int) : Nat := if x = v then 1 else 0
theorem cn3 (v x y z : Int) : cn v [x, y, z] = ind x v + ind y v + ind z v := by
  unfold cn ind
  by_cases h1 : x = v <;> by_cases h2 : y = v <;> by_cases h3 : z = v <;> simp [h1, h2, h3]

theorem told2 {D : Nat → Int} {bad : Int} {r1 r2 : Nat} {l : List Int} (h : Told D bad [r1, r2] l) : (¬ (r1 : Int) = bad → l.getD 0 0 = D r1) ∧ (¬ (r2 : Int) = bad → l.getD 1 0 = D r2) := by
  obtain ⟨u, m, rfl, hu, v, m2, rfl, hv, h3⟩ := h
  exact ⟨hu, hv⟩

/-- the two others -/
theorem from_two {s q : Nat} (hs : s < 4) (hq : q < 4) (hn : q ≠ s) : ∃ r1 r2, from_ s q 4 = [r1, r2] ∧ r1 < 4 ∧ r2 < 4 ∧ r1 ≠ r2 ∧ r1 ≠ s ∧ r2 ≠ s ∧ r1 + r2 + s + q = 6 ∧ (∀ x, x < 4 → x ≠ s → x ≠ q → x = r1 ∨ x = r2) := by
  have hs' : s = 0 ∨ s = 1 ∨ s = 2 ∨ s = 3 := by omega
  have hq' : q = 0 ∨ q = 1 ∨ q = 2 ∨ q = 3 := by omega
  rcases hs' with rfl | rfl | rfl | rfl <;> rcases hq' with rfl | rfl | rfl | rfl <;>
    first | exact absurd rfl hn | exact ⟨_, _, rfl, by decide, by decide, by decide, by decide, by decide, by decide, by decide⟩

theorem agr_of {s : Nat} {value bad : Int} {D : Nat → Int} {T : Nat → List Int} {O : Nat → Int} (hs : s < 4)
    (hD : ∀ r : Nat, r < 4 → (¬ (s : Int) = bad ∨ r = s) → D r = value) (hT : ∀ q : Nat, q < 4 → q ≠ s → Told D bad (from_ s q 4) (T q))
    (hO : ∀ q : Nat, q < 4 → O q = if q = s then value else maj [D q, (T q).getD 0 0, (T q).getD 1 0] 0) : Agr s value bad O := by
  have good : ¬ (s : Int) = bad → ∀ q : Nat, q < 4 → ¬ (q : Int) = bad → O q = value := by
    intro hsb q hq hqb
    rw [hO q hq]
    by_cases e : q = s
    · rw [if_pos e]
    · rw [if_neg e]
      obtain ⟨r1, r2, ef, h1, h2, hne, n1, n2, m1, m2⟩ := from_two hs hq e
      have ht := hT q hq e
      rw [ef] at ht
      obtain ⟨t1, t2⟩ := told2 ht
      have d0 := hD q hq (.inl hsb)
      by_cases b1 : (r1 : Int) = bad
      · have b2 : ¬ (r2 : Int) = bad := by omega
        exact maj3 (.inr (.inl ⟨d0, by rw [t2 b2]; exact hD r2 h2 (.inl hsb)⟩))
      · exact maj3 (.inl ⟨d0, by rw [t1 b1]; exact hD r1 h1 (.inl hsb)⟩)
  refine ⟨good, fun p q hp hq hpb hqb => ?_⟩
  by_cases hsb : (s : Int) = bad
  · have ep : p ≠ s := by omega
    have eq : q ≠ s := by omega
    rw [hO p hp, hO q hq, if_neg ep, if_neg eq]
    by_cases epq : p = q
    · rw [epq]
    obtain ⟨r1, r2, ef, h1, h2, hne, n1, n2, m1, m2⟩ := from_two hs hp ep
    have ht := hT p hp ep
    rw [ef] at ht
    obtain ⟨t1, t2⟩ := told2 ht
    obtain ⟨u1, u2, eg, g1, g2, gne, k1, k2, l1, l2⟩ := from_two hs hq eq
    have ht' := hT q hq eq
    rw [eg] at ht'
    obtain ⟨v1, v2⟩ := told2 ht'
    clear hD hT hO good ht ht' ef eg
    rw [t1 (by omega), t2 (by omega), v1 (by omega), v2 (by omega)]
    clear t1 t2 v1 v2
    refine maj3_congr fun v => ?_
    rw [cn3, cn3]
    rcases m2 q hq eq (fun e => epq e.symm) with a | a <;> rcases l2 p hp ep epq with b | b
    · rw [a, b, show r2 = u2 by omega]; omega
    · rw [a, b, show r2 = u1 by omega]; omega
    · rw [a, b, show r1 = u2 by omega]; omega
    · rw [a, b, show r1 = u1 by omega]; omega
  · rw [good hsb p hp hpb, good hsb q hq hqb]
end Go.Proofs.Ytllgjbjcdenchaa.Ag
