/- Merged: MajPlain AgreePlain Crc VotePlain. -/
set_option linter.unusedVariables false
set_option linter.unusedSimpArgs false
section
/- The majority of a list, in plain Lean: whoever is left over may be it. -/
set_option linter.unusedVariables false
namespace Go.Proofs.Ytofeoeknmlkjgaa.Mj

def st (s : Nat × Int) (v : Int) : Nat × Int := if s.1 = 0 then (1, v) else if v = s.2 then (s.1 + 1, s.2) else (s.1 - 1, s.2)
def bm (l : List Int) : Nat × Int := l.foldl st (0, 0)
def cn (v : Int) (l : List Int) : Nat := (l.filter (· == v)).length
def maj (l : List Int) (other : Int) : Int := if l.length < 2 * cn (bm l).2 l then (bm l).2 else other

theorem take_snoc (l : List Int) (k : Nat) (h : k < l.length) : l.take (k + 1) = l.take k ++ [l.getD k 0] := by
  rw [List.take_succ_eq_append_getElem h]; simp [List.getD, List.getElem?_eq_getElem h]
theorem bm_snoc (l : List Int) (k : Nat) (h : k < l.length) : bm (l.take (k + 1)) = st (bm (l.take k)) (l.getD k 0) := by
  rw [take_snoc l k h]; unfold bm; rw [List.foldl_append]; rfl
theorem cn_snoc (v : Int) (l : List Int) (k : Nat) (h : k < l.length) : cn v (l.take (k + 1)) = if l.getD k 0 = v then cn v (l.take k) + 1 else cn v (l.take k) := by
  rw [take_snoc l k h]
  generalize l.getD k 0 = x
  unfold cn
  rw [List.filter_append]
  by_cases e : x = v
  · simp [e]
  · simp [e]
theorem cn_le (v : Int) (l : List Int) : cn v l ≤ l.length := List.length_filter_le _ _
theorem cn_append (v : Int) (l m : List Int) : cn v (l ++ m) = cn v l + cn v m := by unfold cn; rw [List.filter_append, List.length_append]

theorem bm_inv (l : List Int) : (∀ v, v ≠ (bm l).2 → 2 * cn v l + (bm l).1 ≤ l.length) ∧ 2 * cn (bm l).2 l ≤ l.length + (bm l).1 := by
  have key : ∀ (m : List Int) (p : List Int), ((∀ v, v ≠ (bm p).2 → 2 * cn v p + (bm p).1 ≤ p.length) ∧ 2 * cn (bm p).2 p ≤ p.length + (bm p).1) →
      ((∀ v, v ≠ (bm (p ++ m)).2 → 2 * cn v (p ++ m) + (bm (p ++ m)).1 ≤ (p ++ m).length) ∧ 2 * cn (bm (p ++ m)).2 (p ++ m) ≤ (p ++ m).length + (bm (p ++ m)).1) := by
    intro m
    induction m with
    | nil => intro p h; simpa using h
    | cons x m ih =>
      intro p h
      have e : p ++ x :: m = (p ++ [x]) ++ m := by simp
      rw [e]
      apply ih
      have eb : bm (p ++ [x]) = st (bm p) x := by unfold bm; rw [List.foldl_append]; rfl
      have ec : ∀ v, cn v (p ++ [x]) = if x = v then cn v p + 1 else cn v p := by
        intro v
        rw [cn_append]
        unfold cn
        by_cases e : x = v <;> simp [e]
      have el : (p ++ [x]).length = p.length + 1 := by simp
      obtain ⟨h1, h2⟩ := h
      rw [eb, el]
      unfold st
      generalize bm p = s at *
      obtain ⟨n, a⟩ := s
      simp only at h1 h2 ⊢
      by_cases hn : n = 0
      · subst hn
        rw [if_pos rfl]
        simp only
        refine ⟨fun v hv => ?_, ?_⟩
        · rw [ec, if_neg (fun e => hv e.symm)]
          by_cases e : v = a
          · subst e; omega
          · have := h1 v e; omega
        · rw [ec, if_pos rfl]
          by_cases e : x = a
          · subst e; omega
          · have := h1 x e; omega
      · rw [if_neg hn]
        by_cases hx : x = a
        · subst hx
          rw [if_pos rfl]
          simp only
          refine ⟨fun v hv => ?_, ?_⟩
          · rw [ec, if_neg (fun e => hv e.symm)]; have := h1 v hv; omega
          · rw [ec, if_pos rfl]; omega
        · rw [if_neg hx]
          simp only
          refine ⟨fun v hv => ?_, ?_⟩
          · have := h1 v hv
            rw [ec]
            split <;> omega
          · rw [ec, if_neg hx]; omega
  have := key l [] ⟨fun v _ => by simp [cn, bm], by simp [cn, bm]⟩
  simpa using this

theorem maj_of {l : List Int} {other v : Int} (h : l.length < 2 * cn v l) : maj l other = v := by
  have hv : v = (bm l).2 := by
    by_cases e : v = (bm l).2
    · exact e
    · have := (bm_inv l).1 v e; omega
  unfold maj
  rw [← hv, if_pos h]
theorem maj_no {l : List Int} {other : Int} (h : ∀ v, 2 * cn v l ≤ l.length) : maj l other = other := by
  unfold maj
  rw [if_neg (by have := h (bm l).2; omega)]
theorem maj_congr {l m : List Int} (hl : l.length = m.length) (h : ∀ v, cn v l = cn v m) (other : Int) : maj l other = maj m other := by
  by_cases e : ∃ v, l.length < 2 * cn v l
  · obtain ⟨v, hv⟩ := e
    rw [maj_of hv, maj_of (l := m) (v := v) (by rw [← hl, ← h]; exact hv)]
  · have hn : ∀ v, 2 * cn v l ≤ l.length := fun v => Nat.le_of_not_lt (fun hc => e ⟨v, hc⟩)
    rw [maj_no hn, maj_no (l := m) (fun v => by rw [← hl, ← h]; exact hn v)]
end Go.Proofs.Ytofeoeknmlkjgaa.Mj
end
section
/- What four nodes take for said, in plain Lean: with one bad node the good ones agree. -/
set_option linter.unusedVariables false
namespace Go.Proofs.Ytofeoeknmlkjgaa.Ag
open Go.Proofs.Ytofeoeknmlkjgaa.Mj

def from_ (s q k : Nat) : List Nat := (List.range k).filter (fun r => decide (r ≠ s) && decide (r ≠ q))
def Told (D : Nat → Int) (bad : Int) : List Nat → List Int → Prop
  | [], l => l = []
  | r :: rs, l => ∃ v m, l = v :: m ∧ (¬ (r : Int) = bad → v = D r) ∧ Told D bad rs m
def Agr (s : Nat) (value bad : Int) (O : Nat → Int) : Prop :=
  (¬ (s : Int) = bad → ∀ q : Nat, q < 4 → ¬ (q : Int) = bad → O q = value) ∧ (∀ p q : Nat, p < 4 → q < 4 → ¬ (p : Int) = bad → ¬ (q : Int) = bad → O p = O q)

theorem maj3 {x y z v : Int} (h : (x = v ∧ y = v) ∨ (x = v ∧ z = v) ∨ (y = v ∧ z = v)) : maj [x, y, z] 0 = v := by
  refine maj_of ?_
  unfold cn
  rcases h with ⟨rfl, rfl⟩ | ⟨rfl, rfl⟩ | ⟨rfl, rfl⟩ <;> simp [List.filter_cons] <;> (try split) <;> simp
theorem maj3_congr {x y z a b c : Int} (h : ∀ v, cn v [x, y, z] = cn v [a, b, c]) : maj [x, y, z] 0 = maj [a, b, c] 0 := maj_congr (l := [x, y, z]) (m := [a, b, c]) rfl h 0
def ind (x v : Int) : Nat := if x = v then 1 else 0
theorem cn3 (v x y z : Int) : cn v [x, y, z] = ind x v + ind y v + ind z v := by
  unfold cn ind
  by_cases h1 : x = v <;> by_cases h2 : y = v <;> by_cases h3 : z = v <;> simp [h1, h2, h3]

theorem told2 {D : Nat → Int} {bad : Int} {r1 r2 : Nat} {l : List Int} (h : Told D bad [r1, r2] l) : (¬ (r1 : Int) = bad → l.getD 0 0 = D r1) ∧ (¬ (r2 : Int) = bad → l.getD 1 0 = D r2) := by
  obtain ⟨u, m, rfl, hu, v, m2, rfl, hv, h3⟩ := h
  exact ⟨hu, hv⟩

theorem from_two {s q : Nat} (hs : s < 4) (hq : q < 4) (hn : q ≠ s) : ∃ r1 r2, from_ s q 4 = [r1, r2] ∧ r1 < 4 ∧ r2 < 4 ∧ r1 ≠ r2 ∧ r1 ≠ s ∧ r2 ≠ s ∧ r1 + r2 + s + q = 6 ∧ (∀ x, x < 4 → x ≠ s → x ≠ q → x = r1 ∨ x = r2) := by
  have hs' : s = 0 ∨ s = 1 ∨ s = 2 ∨ s = 3 := by omega
  have hq' : q = 0 ∨ q = 1 ∨ q = 2 ∨ q = 3 := by omega
  rcases hs' with rfl | rfl | rfl | rfl <;> rcases hq' with rfl | rfl | rfl | rfl <;>
    first | exact absurd rfl hn | exact ⟨_, _, rfl, by decide, by decide, by decide, by decide, by decide, by decide, by decide⟩

theorem agr_of {s : Nat} {value bad : Int} {D : Nat → Int} {T : Nat → List Int} {O : Nat → Int} (hs : s < 4)
    (hD : ∀ r : Nat, r < 4 → (¬ (s : Int) = bad ∨ r = s) → D r = value) (hT : ∀ q : Nat, q < 4 → q ≠ s → Told D bad (from_ s q 4) (T q))
    (hO : ∀ q : Nat, q < 4 → O q = if q = s then value else maj [D q, (T q).getD 0 0, (T q).getD 1 0] 0) : Agr s value bad O := by
  have good : ¬ (s : Int) = bad → ∀ q : Nat, q < 4 → ¬ (q : Int) = bad → O q = value := by
    intro hsb q hq hqb
    rw [hO q hq]
    by_cases e : q = s
    · rw [if_pos e]
    · rw [if_neg e]
      obtain ⟨r1, r2, ef, h1, h2, hne, n1, n2, m1, m2⟩ := from_two hs hq e
      have ht := hT q hq e
      rw [ef] at ht
      obtain ⟨t1, t2⟩ := told2 ht
      have d0 := hD q hq (.inl hsb)
      by_cases b1 : (r1 : Int) = bad
      · have b2 : ¬ (r2 : Int) = bad := by omega
        exact maj3 (.inr (.inl ⟨d0, by rw [t2 b2]; exact hD r2 h2 (.inl hsb)⟩))
      · exact maj3 (.inl ⟨d0, by rw [t1 b1]; exact hD r1 h1 (.inl hsb)⟩)
  refine ⟨good, fun p q hp hq hpb hqb => ?_⟩
  by_cases hsb : (s : Int) = bad
  · have ep : p ≠ s := by omega
    have eq : q ≠ s := by omega
    rw [hO p hp, hO q hq, if_neg ep, if_neg eq]
    by_cases epq : p = q
    · rw [epq]
    obtain ⟨r1, r2, ef, h1, h2, hne, n1, n2, m1, m2⟩ := from_two hs hp ep
    have ht := hT p hp ep
    rw [ef] at ht
    obtain ⟨t1, t2⟩ := told2 ht
    obtain ⟨u1, u2, eg, g1, g2, gne, k1, k2, l1, l2⟩ := from_two hs hq eq
    have ht' := hT q hq eq
    rw [eg] at ht'
    obtain ⟨v1, v2⟩ := told2 ht'
    clear hD hT hO good ht ht' ef eg
    rw [t1 (by omega), t2 (by omega), v1 (by omega), v2 (by omega)]
    clear t1 t2 v1 v2
    refine maj3_congr fun v => ?_
    rw [cn3, cn3]
    rcases m2 q hq eq (fun e => epq e.symm) with a | a <;> rcases l2 p hp ep epq with b | b
    · rw [a, b, show r2 = u2 by omega]; omega
    · rw [a, b, show r2 = u1 by omega]; omega
    · rw [a, b, show r1 = u2 by omega]; omega
    · rw [a, b, show r1 = u1 by omega]; omega
  · rw [good hsb p hp hpb, good hsb q hq hqb]
end Go.Proofs.Ytofeoeknmlkjgaa.Ag
end
section
/- The plain law of the cyclic sum of 32 bits: what eight bits do is linear and loses nothing. No program in sight. -/
set_option linter.unusedVariables false
namespace Go.Proofs.Ytofeoeknmlkjgaa.Crc

def s1 (c : BitVec 32) : BitVec 32 := (c >>> 1) ^^^ (if c.getLsbD 0 then 0xEDB88320#32 else 0#32)

def it : Nat → BitVec 32 → BitVec 32
  | 0, c => c
  | n + 1, c => it n (s1 c)

theorem it_add (a b : Nat) (c : BitVec 32) : it (a + b) c = it b (it a c) := by
  induction a generalizing c with
  | zero => simp [it]
  | succ a ih => rw [Nat.succ_add]; exact ih (s1 c)

theorem s1_zero : s1 0#32 = 0#32 := by decide

theorem s1_xor (a b : BitVec 32) : s1 (a ^^^ b) = s1 a ^^^ s1 b := by
  have h : (a ^^^ b) >>> 1 = (a >>> 1) ^^^ (b >>> 1) := BitVec.ushiftRight_xor_distrib a b 1
  unfold s1
  rw [h, BitVec.getLsbD_xor]
  cases a.getLsbD 0 <;> cases b.getLsbD 0 <;> simp
  · ac_rfl
  · ac_rfl
  · have e : a >>> 1 ^^^ 0xEDB88320#32 ^^^ (b >>> 1 ^^^ 0xEDB88320#32) = (a >>> 1 ^^^ b >>> 1) ^^^ (0xEDB88320#32 ^^^ 0xEDB88320#32) := by ac_rfl
    rw [e]; simp

theorem it_zero (n : Nat) : it n 0#32 = 0#32 := by
  induction n with
  | zero => rfl
  | succ n ih => unfold it; rw [s1_zero]; exact ih

theorem it_xor (n : Nat) (a b : BitVec 32) : it n (a ^^^ b) = it n a ^^^ it n b := by
  induction n generalizing a b with
  | zero => rfl
  | succ n ih => unfold it; rw [s1_xor]; exact ih _ _

theorem s1_ker (a : BitVec 32) (h : s1 a = 0#32) : a = 0#32 := by
  have top : (s1 a).getLsbD 31 = a.getLsbD 0 := by
    unfold s1
    rw [BitVec.getLsbD_xor]
    have e : (a >>> 1).getLsbD 31 = false := by simp
    rw [e]
    cases a.getLsbD 0 <;> simp
  rw [h] at top
  have z0 : a.getLsbD 0 = false := by simpa using top.symm
  unfold s1 at h
  rw [z0] at h
  simp only [Bool.false_eq_true, if_false, BitVec.xor_zero] at h
  apply BitVec.eq_of_getLsbD_eq
  intro i hi
  simp only [BitVec.getLsbD_zero]
  cases i with
  | zero => exact z0
  | succ i =>
    have := congrArg (fun v : BitVec 32 => v.getLsbD i) h
    simp only [BitVec.getLsbD_ushiftRight, BitVec.getLsbD_zero] at this
    rw [Nat.add_comm]
    exact this

theorem it_ker (n : Nat) (a : BitVec 32) (h : it n a = 0#32) : a = 0#32 := by
  induction n generalizing a with
  | zero => exact h
  | succ n ih => exact s1_ker a (ih _ h)

def by1 (c : BitVec 32) (x : Int) : BitVec 32 := it 8 (c ^^^ BitVec.ofInt 32 x)

def go (c : BitVec 32) (l : List Int) : BitVec 32 := l.foldl by1 c

theorem go_nil (c : BitVec 32) : go c [] = c := rfl
theorem go_cons (c : BitVec 32) (x : Int) (l : List Int) : go c (x :: l) = go (by1 c x) l := rfl
theorem go_append (c : BitVec 32) (l m : List Int) : go c (l ++ m) = go (go c l) m := List.foldl_append

def sumFrom (s : BitVec 32) (l : List Int) : BitVec 32 := ~~~ (go (~~~ s) l)

theorem s1_odd (c : BitVec 32) (h : c.getLsbD 0 = true) : s1 c = (c >>> 1) ^^^ 0xEDB88320#32 := by unfold s1; rw [h]; simp
theorem s1_even (c : BitVec 32) (h : c.getLsbD 0 = false) : s1 c = c >>> 1 := by unfold s1; rw [h]; simp
theorem it_succ' (n : Nat) (c : BitVec 32) : it (n + 1) c = s1 (it n c) := by rw [it_add n 1]; rfl

theorem s1_shl (x : BitVec 32) (h : x.getLsbD 31 = false) : s1 (x <<< 1) = x := by
  unfold s1
  have z : (x <<< 1).getLsbD 0 = false := by simp
  rw [z]
  simp only [Bool.false_eq_true, if_false, BitVec.xor_zero]
  apply BitVec.eq_of_getLsbD_eq
  intro i hi
  simp only [BitVec.getLsbD_ushiftRight, BitVec.getLsbD_shiftLeft]
  by_cases h31 : i = 31
  · subst h31; simp; simpa using h
  · have h1 : 1 + i < 32 := by omega
    simp [h1]

theorem it_shl (n : Nat) (x : BitVec 32) (h : ∀ i, 32 - n ≤ i → i < 32 → x.getLsbD i = false) (hn : n ≤ 32) : it n (x <<< n) = x := by
  induction n with
  | zero => simp [it]
  | succ n ih =>
    have e : x <<< (n + 1) = (x <<< n) <<< 1 := by rw [BitVec.shiftLeft_add]
    rw [it, e, s1_shl]
    · exact ih (fun i h1 h2 => h i (by omega) h2) (by omega)
    · simp only [BitVec.getLsbD_shiftLeft]
      have := h (31 - n) (by omega) (by omega)
      simp [this]

def tab (i : Nat) : BitVec 32 := it 8 (BitVec.ofNat 32 i)

theorem split8 (c : BitVec 32) : c = (c &&& 0xFF#32) ^^^ ((c >>> 8) <<< 8) := by
  apply BitVec.eq_of_getLsbD_eq
  intro i hi
  simp only [BitVec.getLsbD_xor, BitVec.getLsbD_and, BitVec.getLsbD_shiftLeft, BitVec.getLsbD_ushiftRight]
  by_cases h : i < 8
  · have : i = 0 ∨ i = 1 ∨ i = 2 ∨ i = 3 ∨ i = 4 ∨ i = 5 ∨ i = 6 ∨ i = 7 := by omega
    rcases this with rfl | rfl | rfl | rfl | rfl | rfl | rfl | rfl <;> simp
  · have e : (0xFF#32).getLsbD i = false := by
      have : i = 8 + (i - 8) := by omega
      simp only [BitVec.getLsbD_ofNat]
      have hp : 255 < 2 ^ i := by
        have : 2 ^ 8 ≤ 2 ^ i := Nat.pow_le_pow_right (by decide) (by omega)
        omega
      rw [Nat.testBit_lt_two_pow hp]; simp
    rw [e]
    have : 8 + (i - 8) = i := by omega
    simp [h, hi, this]

theorem it8_tab (c : BitVec 32) : it 8 c = tab (c.toNat % 256) ^^^ (c >>> 8) := by
  have h := split8 c
  have e : (c &&& 0xFF#32) = BitVec.ofNat 32 (c.toNat % 256) := by
    apply BitVec.eq_of_toNat_eq
    simp only [BitVec.toNat_and, BitVec.toNat_ofNat]
    have := Nat.and_two_pow_sub_one_eq_mod c.toNat 8
    have h2 : c.toNat % 256 % 2 ^ 32 = c.toNat % 256 := Nat.mod_eq_of_lt (by omega)
    rw [h2]; exact this
  conv => lhs; rw [h]
  rw [it_xor, e, it_shl 8 (c >>> 8) _ (by decide)]
  · rfl
  · intro i h1 h2
    simp only [BitVec.getLsbD_ushiftRight]
    exact BitVec.getLsbD_of_ge _ _ (by omega)

def Bst (zs zs' : List Int) (N k : Nat) : Prop :=
  zs'.length = zs.length ∧ (∀ z ∈ zs', 0 ≤ z ∧ z ≤ 255) ∧ ∃ m : BitVec 32, (∀ I, go I zs' = go I zs ^^^ it N m) ∧ (∀ i, k ≤ i → m.getLsbD i = false) ∧ (0 < k → m.getLsbD 0 = true)

theorem Bst.start (zs : List Int) (N : Nat) (hz : ∀ z ∈ zs, 0 ≤ z ∧ z ≤ 255) : Bst zs zs N 0 :=
  ⟨rfl, hz, 0#32, fun I => by rw [it_zero]; simp, fun i _ => by simp, fun h => by omega⟩
theorem Bst.skip {zs zs' : List Int} {N k : Nat} (h : Bst zs zs' N k) (hk : 0 < k) : Bst zs zs' N (k + 1) := by
  obtain ⟨h1, h2, m, h3, h4, h5⟩ := h
  exact ⟨h1, h2, m, h3, fun i hi => h4 i (by omega), fun _ => h5 hk⟩
theorem Bst.differs {zs zs' : List Int} {N k : Nat} (h : Bst zs zs' N k) (hk : 0 < k) (I : BitVec 32) : go I zs' ≠ go I zs := by
  obtain ⟨h1, h2, m, h3, h4, h5⟩ := h
  intro e
  rw [h3 I] at e
  have e2 : it N m = 0#32 := by
    have h : go I zs ^^^ (go I zs ^^^ it N m) = go I zs ^^^ go I zs := by rw [e]
    rw [← BitVec.xor_assoc] at h
    simpa using h
  have := it_ker N m e2
  rw [this] at h5
  simp at h5
  omega
end Go.Proofs.Ytofeoeknmlkjgaa.Crc
end
section
/- What a vote comes to, in plain Lean. -/
set_option linter.unusedVariables false
namespace Go.Proofs.Ytofeoeknmlkjgaa.Vt

abbrev Vs := List (Int × Bool)
def cnt (L : Vs) (k : Nat) (v : Int) : Nat := ((L.take k).filter fun p => p.2 && p.1 == v).length
def tot (L : Vs) (k : Nat) : Nat := ((L.take k).filter fun p => p.2).length
def bst (L : Vs) : Nat → Nat × Int
  | 0 => (0, 0)
  | k + 1 => if (L.getD k (0, false)).2 = true ∧ (bst L k).1 < cnt L L.length (L.getD k (0, false)).1 then (cnt L L.length (L.getD k (0, false)).1, (L.getD k (0, false)).1) else bst L k
def val (L : Vs) : Int := (bst L L.length).2
def best (L : Vs) : Nat := (bst L L.length).1
def strong (L : Vs) : Bool := decide (tot L L.length < 2 * best L)
def agree (L : Vs) (v : Int) : Bool := decide (0 < tot L L.length) && (v == val L)

theorem take_snoc (L : Vs) (k : Nat) (h : k < L.length) : L.take (k + 1) = L.take k ++ [L.getD k (0, false)] := by
  rw [List.take_succ_eq_append_getElem h]; simp [List.getD, List.getElem?_eq_getElem h]
theorem cnt_yes (L : Vs) (k : Nat) (v : Int) (h : k < L.length) (hb : (L.getD k (0, false)).2 = true) : cnt L (k + 1) v = if (L.getD k (0, false)).1 = v then cnt L k v + 1 else cnt L k v := by
  unfold cnt
  rw [take_snoc L k h, List.filter_append]
  generalize L.getD k (0, false) = p at *
  by_cases e : p.1 = v
  · simp [hb, e]
  · simp [e]
theorem cnt_no (L : Vs) (k : Nat) (v : Int) (h : k < L.length) (hb : (L.getD k (0, false)).2 = false) : cnt L (k + 1) v = cnt L k v := by
  unfold cnt
  rw [take_snoc L k h, List.filter_append]
  generalize L.getD k (0, false) = p at *
  simp [hb]
theorem tot_yes (L : Vs) (k : Nat) (h : k < L.length) (hb : (L.getD k (0, false)).2 = true) : tot L (k + 1) = tot L k + 1 := by
  unfold tot
  rw [take_snoc L k h, List.filter_append]
  generalize L.getD k (0, false) = p at *
  simp [hb]
theorem tot_no (L : Vs) (k : Nat) (h : k < L.length) (hb : (L.getD k (0, false)).2 = false) : tot L (k + 1) = tot L k := by
  unfold tot
  rw [take_snoc L k h, List.filter_append]
  generalize L.getD k (0, false) = p at *
  simp [hb]
theorem cnt_le (L : Vs) (k : Nat) (v : Int) : cnt L k v ≤ k := by
  unfold cnt
  exact Nat.le_trans (List.length_filter_le _ _) (List.length_take_le _ _)
theorem tot_le (L : Vs) (k : Nat) : tot L k ≤ k := by
  unfold tot
  exact Nat.le_trans (List.length_filter_le _ _) (List.length_take_le _ _)
theorem bst_yes (L : Vs) (k : Nat) (hb : (L.getD k (0, false)).2 = true) (h : (bst L k).1 < cnt L L.length (L.getD k (0, false)).1) :
    bst L (k + 1) = (cnt L L.length (L.getD k (0, false)).1, (L.getD k (0, false)).1) := by
  unfold bst; rw [if_pos ⟨hb, h⟩]
theorem bst_no (L : Vs) (k : Nat) (h : (L.getD k (0, false)).2 = false ∨ ¬ (bst L k).1 < cnt L L.length (L.getD k (0, false)).1) :
    bst L (k + 1) = bst L k := by
  conv => lhs; unfold bst
  rw [if_neg]
  rintro ⟨h1, h2⟩
  rcases h with h | h
  · rw [h1] at h; cases h
  · exact h h2
theorem bst_le (L : Vs) (k : Nat) : (bst L k).1 ≤ L.length := by
  induction k with
  | zero => simp [bst]
  | succ k ih =>
    by_cases h : (L.getD k (0, false)).2 = true ∧ (bst L k).1 < cnt L L.length (L.getD k (0, false)).1
    · rw [bst_yes L k h.1 h.2]; exact cnt_le _ _ _
    · rw [bst_no L k (by
        by_cases h2 : (L.getD k (0, false)).2 = true
        · exact .inr fun h3 => h ⟨h2, h3⟩
        · exact .inl (by simpa using h2))]; exact ih

def agc (L : Vs) (k : Nat) : Nat := ((L.take k).filter fun p => p.2 && agree L p.1).length
end Go.Proofs.Ytofeoeknmlkjgaa.Vt
end
