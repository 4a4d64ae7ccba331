/- The plain law of SymMerge: rotations, merges, blocks. -/
import Derived.Sort.LotA
set_option linter.unusedVariables false
namespace Go.Proofs.Ytdlcjieaoalhoaa.Sy
open Go.Sort
variable {α : Type} {lt : α → α → Bool}

theorem le_refl (hS : SWO lt) (x : α) : lt x x = false := hS.irrefl x
/-- x ≤ y ≤ z -/
theorem le_trans (hS : SWO lt) {x y z : α} (h1 : lt y x = false) (h2 : lt z y = false) : lt z x = false := hS.ntrans _ _ _ h2 h1
theorem le_of_lt (hS : SWO lt) {x y : α} (h : lt x y = true) : lt y x = false := by
  by_cases e : lt y x = true
  · have := hS.trans _ _ _ h e
    rw [hS.irrefl] at this; cases this
  · simpa using e

variable [Inhabited α]
/-- the places a.. b-m.. behind a rotation -/
def Rot (d d' : Array α) (a m b : Nat) : Prop :=
  PermIn a b d d' ∧ (∀ k, k < b - m → d'[a + k]! = d[m + k]!) ∧ (∀ k, k < m - a → d'[a + (b - m) + k]! = d[a + k]!)
/-- n places exchanged, from a and from b on -/
def sw (d : Array α) (a b : Nat) : Nat → Array α
  | 0 => d
  | n + 1 => swp (sw d a b n) (a + n) (b + n)
theorem size_sw (d : Array α) (a b : Nat) : ∀ n, (sw d a b n).size = d.size
  | 0 => rfl
  | n + 1 => by rw [sw, size_swp, size_sw d a b n]
theorem sw_get (d : Array α) (a b : Nat) : ∀ n, a + n ≤ b → b + n ≤ d.size → (∀ k, k < n → (sw d a b n)[a + k]! = d[b + k]!) ∧ (∀ k, k < n → (sw d a b n)[b + k]! = d[a + k]!) ∧ ∀ k, (k < a ∨ a + n ≤ k) → (k < b ∨ b + n ≤ k) → (sw d a b n)[k]! = d[k]!
  | 0, _, _ => ⟨fun k hk => absurd hk (Nat.not_lt_zero k), fun k hk => absurd hk (Nat.not_lt_zero k), fun k _ _ => rfl⟩
  | n + 1, h1, h2 => by
    obtain ⟨i1, i2, i3⟩ := sw_get d a b n (by omega) (by omega)
    have hs := size_sw d a b n
    refine ⟨fun k hk => ?_, fun k hk => ?_, fun k hk1 hk2 => ?_⟩
    · rw [sw]
      by_cases e : k = n
      · subst e
        rw [swp_left _ _ _ (by omega) (by omega), i3 (b + k) (.inr (by omega)) (.inr (by omega))]
      · rw [swp_other _ _ _ _ (by omega) (by omega), i1 k (by omega)]
    · rw [sw]
      by_cases e : k = n
      · subst e
        rw [swp_right _ _ _ (by omega), i3 (a + k) (.inr (by omega)) (.inl (by omega))]
      · rw [swp_other _ _ _ _ (by omega) (by omega), i2 k (by omega)]
    · rw [sw, swp_other _ _ _ _ (by omega) (by omega), i3 k (by omega) (by omega)]
theorem sw_perm (d : Array α) (a b A B : Nat) : ∀ n, a + n ≤ b → b + n ≤ B → A ≤ a → B ≤ d.size → PermIn A B d (sw d a b n)
  | 0, _, _, _, _ => permIn_refl _ _ _
  | n + 1, h1, h2, h3, h4 => by
    refine permIn_trans _ _ _ _ _ (sw_perm d a b A B n (by omega) (by omega) h3 h4) (swp_permIn _ _ _ _ _ (by omega) (by omega) (by omega) (by omega) (by rw [size_sw]; exact h4))

/-- a round of rotate where the left part is the longer one -/
theorem rot_left {d d'' : Array α} {m i j : Nat} (h1 : j < i) (h2 : i ≤ m) (h3 : m + j ≤ d.size) (h0 : 0 < j) (h : Rot (sw d (m - i) m j) d'' (m - (i - j)) m (m + j)) : Rot d d'' (m - i) m (m + j) := by
  obtain ⟨g1, g2, g3⟩ := sw_get d (m - i) m j (by omega) (by omega)
  obtain ⟨hp, k1, k2⟩ := h
  have hp1 : PermIn (m - i) (m + j) d (sw d (m - i) m j) := sw_perm d _ _ _ _ j (by omega) (Nat.le_refl _) (Nat.le_refl _) h3
  have hp2 : PermIn (m - i) (m + j) (sw d (m - i) m j) d'' := permIn_mono _ _ _ _ _ _ (by omega) (Nat.le_refl _) (by rw [size_sw]; exact h3) hp
  have ho := hp.2.1
  refine ⟨permIn_trans _ _ _ _ _ hp1 hp2, fun k hk => ?_, fun k hk => ?_⟩
  · rw [ho _ (.inl (by omega)), g1 k (by omega)]
  · by_cases e : k < i - j
    · have e1 := k2 k (by omega)
      have e2 : m - (i - j) + (m + j - m) + k = m - i + (m + j - m) + k + j := by omega
      have e3 : m - (i - j) + k = m - i + j + k := by omega
      -- place m-i+j+k
      have e4 : m - i + (m + j - m) + k = m - (i - j) + k := by omega
      rw [e4]
      by_cases c : k < j
      · have f1 := k1 k (by omega)
        rw [f1, g2 k c]
      · have f1 := k2 (k - j) (by omega)
        rw [show m - (i - j) + (m + j - m) + (k - j) = m - (i - j) + k by omega] at f1
        rw [f1, g3 _ (by omega) (by omega), show m - (i - j) + (k - j) = m - i + k by omega]
    · by_cases c : k < j
      · have f1 := k1 k (by omega)
        rw [show m - i + (m + j - m) + k = m - (i - j) + k by omega, f1, g2 k c]
      · have f1 := k2 (k - j) (by omega)
        rw [show m - i + (m + j - m) + k = m - (i - j) + (m + j - m) + (k - j) by omega, f1, g3 _ (by omega) (by omega), show m - (i - j) + (k - j) = m - i + k by omega]

/-- a round of rotate where the right part is the longer one -/
theorem rot_right {d d'' : Array α} {m i j : Nat} (h1 : i < j) (h2 : i ≤ m) (h3 : m + j ≤ d.size) (h0 : 0 < i) (h : Rot (sw d (m - i) (m + j - i) i) d'' (m - i) m (m + (j - i))) : Rot d d'' (m - i) m (m + j) := by
  obtain ⟨g1, g2, g3⟩ := sw_get d (m - i) (m + j - i) i (by omega) (by omega)
  obtain ⟨hp, k1, k2⟩ := h
  have hp1 : PermIn (m - i) (m + j) d (sw d (m - i) (m + j - i) i) := sw_perm d _ _ _ _ i (by omega) (by omega) (Nat.le_refl _) h3
  have hp2 : PermIn (m - i) (m + j) (sw d (m - i) (m + j - i) i) d'' := permIn_mono _ _ _ _ _ _ (Nat.le_refl _) (by omega) (by rw [size_sw]; exact h3) hp
  have ho := hp.2.1
  refine ⟨permIn_trans _ _ _ _ _ hp1 hp2, fun k hk => ?_, fun k hk => ?_⟩
  · by_cases c : k < j - i
    · rw [k1 k (by omega)]
      by_cases e : m + k < m + j - i
      · rw [g3 _ (by omega) (by omega)]
      · omega
    · have f1 := k2 (k - (j - i)) (by omega)
      rw [show m - i + (m + (j - i) - m) + (k - (j - i)) = m - i + k by omega] at f1
      rw [f1, g1 _ (by omega), show m + j - i + (k - (j - i)) = m + k by omega]
  · rw [ho _ (.inr (by omega)), show m - i + (m + j - m) + k = m + j - i + k by omega, g2 k (by omega)]

/-- the last exchange of rotate -/
theorem rot_end {d : Array α} {m i : Nat} (h2 : i ≤ m) (h3 : m + i ≤ d.size) : Rot d (sw d (m - i) m i) (m - i) m (m + i) := by
  obtain ⟨g1, g2, g3⟩ := sw_get d (m - i) m i (by omega) h3
  refine ⟨sw_perm d _ _ _ _ i (by omega) (Nat.le_refl _) (Nat.le_refl _) h3, fun k hk => g1 k (by omega), fun k hk => ?_⟩
  rw [show m - i + (m + i - m) + k = m + k by omega, g2 k (by omega)]

/-- what a merge makes -/
def Mg (lt : α → α → Bool) (d d' : Array α) (a m b : Nat) : Prop :=
  PermIn a b d d' ∧ (SortedIn lt a m d → SortedIn lt m b d → SortedIn lt a b d')

/-- one element is moved up to its place -/
def Up (d d' : Array α) (a k : Nat) : Prop := (∀ t, a ≤ t → t < k → d'[t]! = d[t + 1]!) ∧ d'[k]! = d[a]! ∧ ∀ t, t < a ∨ k < t → d'[t]! = d[t]!
theorem Up.next {d d' : Array α} {a k : Nat} (h : Up d d' a k) (hak : a ≤ k) (hs : d'.size = d.size) (hk : k + 1 < d.size) : Up d (swp d' k (k + 1)) a (k + 1) := by
  obtain ⟨h1, h2, h3⟩ := h
  refine ⟨fun t ht1 ht2 => ?_, ?_, fun t ht => ?_⟩
  · by_cases e : t = k
    · subst e
      rw [swp_left _ _ _ (by omega) (by omega), h3 _ (.inr (by omega))]
    · rw [swp_other _ _ _ _ (by omega) (by omega), h1 t ht1 (by omega)]
  · rw [swp_right _ _ _ (by omega), h2]
  · rw [swp_other _ _ _ _ (by omega) (by omega), h3 t (by omega)]
theorem mg_up (hS : SWO lt) {d d' : Array α} {a b i : Nat} (h : Up d d' a (i - 1)) (hp : PermIn a b d d') (h1 : a + 1 ≤ i) (h2 : i ≤ b) (hl : i = a + 1 ∨ lt d[i - 1]! d[a]! = true) (hr : i = b ∨ lt d[i]! d[a]! = false) : Mg lt d d' a (a + 1) b := by
  refine ⟨hp, fun _ hs p q hp1 hpq hq => ?_⟩
  obtain ⟨u1, u2, u3⟩ := h
  by_cases c1 : q < i - 1
  · rw [u1 p hp1 (by omega), u1 q (by omega) c1]; exact hs _ _ (by omega) (by omega) (by omega)
  · by_cases c2 : q = i - 1
    · subst c2
      rw [u1 p hp1 hpq, u2]
      rcases hl with e | e
      · omega
      · by_cases c3 : p + 1 = i - 1
        · rw [c3]; exact le_of_lt hS e
        · exact le_trans hS (hs (p + 1) (i - 1) (by omega) (by omega) (by omega)) (le_of_lt hS e)
    · rw [u3 q (.inr (by omega))]
      by_cases c3 : p < i - 1
      · rw [u1 p hp1 c3]; exact hs _ _ (by omega) (by omega) (by omega)
      · by_cases c4 : p = i - 1
        · subst c4
          rw [u2]
          rcases hr with e | e
          · omega
          · by_cases c5 : q = i
            · rw [c5]; exact e
            · exact le_trans hS e (hs i q (by omega) (by omega) (by omega))
        · rw [u3 p (.inr (by omega))]; exact hs _ _ (by omega) (by omega) (by omega)

/-- one element is moved down to its place -/
def Dn (d d' : Array α) (m k : Nat) : Prop := (∀ t, k < t → t ≤ m → d'[t]! = d[t - 1]!) ∧ d'[k]! = d[m]! ∧ ∀ t, t < k ∨ m < t → d'[t]! = d[t]!
theorem Dn.next {d d' : Array α} {m k : Nat} (h : Dn d d' m (k + 1)) (hak : k + 1 ≤ m) (hs : d'.size = d.size) (hk : m < d.size) : Dn d (swp d' (k + 1) k) m k := by
  obtain ⟨h1, h2, h3⟩ := h
  refine ⟨fun t ht1 ht2 => ?_, ?_, fun t ht => ?_⟩
  · by_cases e : t = k + 1
    · subst e
      rw [swp_left _ _ _ (by omega) (by omega), h3 _ (.inl (by omega))]
      congr 1
    · rw [swp_other _ _ _ _ (by omega) (by omega), h1 t (by omega) ht2]
  · rw [swp_right _ _ _ (by omega), h2]
  · rw [swp_other _ _ _ _ (by omega) (by omega), h3 t (by omega)]
theorem mg_dn (hS : SWO lt) {d d' : Array α} {a m i : Nat} (h : Dn d d' m i) (hp : PermIn a (m + 1) d d') (h1 : a ≤ i) (h2 : i ≤ m) (hl : i = a ∨ lt d[m]! d[i - 1]! = false) (hr : i = m ∨ lt d[m]! d[i]! = true) : Mg lt d d' a m (m + 1) := by
  refine ⟨hp, fun hs _ p q hp1 hpq hq => ?_⟩
  obtain ⟨u1, u2, u3⟩ := h
  by_cases c1 : q < i
  · rw [u3 p (by omega), u3 q (by omega)]; exact hs _ _ (by omega) (by omega) (by omega)
  · by_cases c2 : q = i
    · subst c2
      rw [u2, u3 p (by omega)]
      rcases hl with e | e
      · omega
      · by_cases c3 : p = q - 1
        · rw [c3]; exact e
        · exact le_trans hS (hs p (q - 1) (by omega) (by omega) (by omega)) e
    · rw [u1 q (by omega) (by omega)]
      by_cases c3 : p < i
      · rw [u3 p (by omega)]; exact hs _ _ (by omega) (by omega) (by omega)
      · by_cases c4 : p = i
        · subst c4
          rw [u2]
          rcases hr with e | e
          · omega
          · by_cases c5 : q - 1 = p
            · rw [c5]; exact le_of_lt hS e
            · exact le_trans hS (le_of_lt hS e) (hs p (q - 1) (by omega) (by omega) (by omega))
        · rw [u1 p (by omega) (by omega)]; exact hs _ _ (by omega) (by omega) (by omega)

/-- what the search in the general case finds -/
def Cut (lt : α → α → Bool) (d : Array α) (a m b s : Nat) : Prop :=
  a ≤ s ∧ s ≤ m ∧ s ≤ (a + b) / 2 ∧ (a + b) / 2 + m - s ≤ b ∧ m ≤ (a + b) / 2 + m - s ∧ (s = m ∨ (a + b) / 2 + m - s = m ∨ lt d[(a + b) / 2 + m - s - 1]! d[s]! = true) ∧ (s = a ∨ (a + b) / 2 + m - s = b ∨ lt d[(a + b) / 2 + m - s]! d[s - 1]! = false)

/-- the parts behind the rotation -/
theorem cut_parts (hS : SWO lt) {d d1 : Array α} {a m b s : Nat} (hb : b ≤ d.size) (hc : Cut lt d a m b s) (hR : Rot d d1 s m ((a + b) / 2 + m - s)) (h1 : SortedIn lt a m d) (h2 : SortedIn lt m b d) :
    SortedIn lt a s d1 ∧ SortedIn lt s ((a + b) / 2) d1 ∧ SortedIn lt ((a + b) / 2) ((a + b) / 2 + m - s) d1 ∧ SortedIn lt ((a + b) / 2 + m - s) b d1 ∧
      ∀ p q, a ≤ p → p < (a + b) / 2 → (a + b) / 2 ≤ q → q < b → lt d1[q]! d1[p]! = false := by
  obtain ⟨c1, c2, c3, c4, c5, c6, c7⟩ := hc
  generalize hM : (a + b) / 2 = M at *
  obtain ⟨hp, r1, r2⟩ := hR
  have ho := hp.2.1
  have l1 : ∀ t, s ≤ t → t < M → d1[t]! = d[t + (m - s)]! := fun t ht1 ht2 => by
    have := r1 (t - s) (by omega)
    rw [show s + (t - s) = t by omega, show m + (t - s) = t + (m - s) by omega] at this
    exact this
  have l2 : ∀ t, M ≤ t → t < M + m - s → d1[t]! = d[t - (M - s)]! := fun t ht1 ht2 => by
    have := r2 (t - M) (by omega)
    rw [show s + (M + m - s - m) + (t - M) = t by omega, show s + (t - M) = t - (M - s) by omega] at this
    exact this
  refine ⟨fun p q hp1 hpq hq => ?_, fun p q hp1 hpq hq => ?_, fun p q hp1 hpq hq => ?_, fun p q hp1 hpq hq => ?_, fun p q hp1 hp2 hq1 hq2 => ?_⟩
  · rw [ho p (.inl (by omega)), ho q (.inl (by omega))]; exact h1 _ _ hp1 hpq (by omega)
  · rw [l1 p hp1 (by omega), l1 q (by omega) hq]; exact h2 _ _ (by omega) (by omega) (by omega)
  · rw [l2 p hp1 (by omega), l2 q (by omega) hq]; exact h1 _ _ (by omega) (by omega) (by omega)
  · rw [ho p (.inr (by omega)), ho q (.inr (by omega))]; exact h2 _ _ (by omega) hpq hq
  · by_cases e1 : p < s
    · rw [ho p (.inl (by omega))]
      by_cases e2 : q < M + m - s
      · rw [l2 q hq1 e2]
        exact h1 _ _ hp1 (by omega) (by omega)
      · rw [ho q (.inr (by omega))]
        rcases c7 with e | e | e
        · omega
        · omega
        · have f1 : lt d[s - 1]! d[p]! = false := by
            by_cases e3 : p = s - 1
            · rw [e3]; exact le_refl hS _
            · exact h1 _ _ hp1 (by omega) (by omega)
          have f2 : lt d[q]! d[M + m - s]! = false := by
            by_cases e3 : q = M + m - s
            · rw [e3]; exact le_refl hS _
            · exact h2 _ _ (by omega) (by omega) (by omega)
          exact le_trans hS (le_trans hS f1 e) f2
    · rw [l1 p (by omega) hp2]
      by_cases e2 : q < M + m - s
      · rw [l2 q hq1 e2]
        rcases c6 with e | e | e
        · omega
        · omega
        · have f1 : lt d[M + m - s - 1]! d[p + (m - s)]! = false := by
            by_cases e3 : p + (m - s) = M + m - s - 1
            · rw [e3]; exact le_refl hS _
            · exact h2 _ _ (by omega) (by omega) (by omega)
          have f2 : lt d[q - (M - s)]! d[s]! = false := by
            by_cases e3 : q - (M - s) = s
            · rw [e3]; exact le_refl hS _
            · exact h1 _ _ (by omega) (by omega) (by omega)
          exact le_trans hS (le_trans hS f1 (le_of_lt hS e)) f2
      · rw [ho q (.inr (by omega))]
        exact h2 _ _ (by omega) (by omega) hq2

/-- what is asked of a recursive call: it is made, or its part is one run already -/
def Part (lt : α → α → Bool) (d d' : Array α) (a s b : Nat) : Prop := (a < s ∧ s < b ∧ Mg lt d d' a s b) ∨ ((s = a ∨ s = b) ∧ d' = d)
theorem Part.mg {d d' : Array α} {a s b : Nat} (h : Part lt d d' a s b) : Mg lt d d' a s b := by
  rcases h with ⟨_, _, h⟩ | ⟨h, rfl⟩
  · exact h
  · refine ⟨permIn_refl _ _ _, fun h1 h2 => ?_⟩
    rcases h with rfl | rfl
    · exact h2
    · exact h1
theorem sortedIn_out {d d' : Array α} {a b x y : Nat} (hp : PermIn a b d d') (h : SortedIn lt x y d) (ho : y ≤ a ∨ b ≤ x) : SortedIn lt x y d' := fun p q h1 h2 h3 => by
  rw [hp.2.1 p (by omega), hp.2.1 q (by omega)]
  exact h p q h1 h2 h3
/-- the general case -/
theorem mg_cut (hS : SWO lt) {d d1 d2 d3 : Array α} {a m b s : Nat} (hb : b ≤ d.size) (ham : a < m) (hmb : m < b) (hc : Cut lt d a m b s) (hR : Rot d d1 s m ((a + b) / 2 + m - s))
    (h2 : Part lt d1 d2 a s ((a + b) / 2)) (h3 : Part lt d2 d3 ((a + b) / 2) ((a + b) / 2 + m - s) b) : Mg lt d d3 a m b := by
  have hc' := hc
  obtain ⟨c1, c2, c3, c4, c5, c6, c7⟩ := hc'
  have m2 := h2.mg
  have m3 := h3.mg
  have hs1 : d1.size = d.size := hR.1.1
  have hs2 : d2.size = d.size := m2.1.1.trans hs1
  have p1 : PermIn a b d d1 := permIn_mono _ _ _ _ _ _ c1 c4 hb hR.1
  have p2 : PermIn a b d1 d2 := permIn_mono _ _ _ _ _ _ (Nat.le_refl _) (by omega) (by omega) m2.1
  have p3 : PermIn a b d2 d3 := permIn_mono _ _ _ _ _ _ (by omega) (Nat.le_refl _) (by omega) m3.1
  refine ⟨permIn_trans _ _ _ _ _ (permIn_trans _ _ _ _ _ p1 p2) p3, fun g1 g2 => ?_⟩
  obtain ⟨q1, q2, q3, q4, q5⟩ := cut_parts hS hb hc hR g1 g2
  generalize hM : (a + b) / 2 = M at *
  have s2 : SortedIn lt a M d2 := m2.2 q1 q2
  have s3 : SortedIn lt M b d3 := m3.2 (sortedIn_out m2.1 q3 (.inr (Nat.le_refl _))) (sortedIn_out m2.1 q4 (.inr (by omega)))
  have s2' : SortedIn lt a M d3 := sortedIn_out m3.1 s2 (.inl (Nat.le_refl _))
  -- across
  have x2 : ∀ p q, a ≤ p → p < M → M ≤ q → q < b → lt d2[q]! d2[p]! = false := fun p q h1 h2 h3 h4 => by
    have : ∀ p, a ≤ p → p < M → lt d2[q]! d2[p]! = false := by
      refine permIn_all d1 d2 a M (fun x => lt d2[q]! x = false) (by omega) m2.1 (fun i hi1 hi2 => ?_)
      rw [m2.1.2.1 q (.inr h3)]
      exact q5 i q hi1 hi2 h3 h4
    exact this p h1 h2
  have x3 : ∀ p q, a ≤ p → p < M → M ≤ q → q < b → lt d3[q]! d3[p]! = false := fun p q h1 h2 h3 h4 => by
    have : ∀ q, M ≤ q → q < b → lt d3[q]! d3[p]! = false := by
      refine permIn_all d2 d3 M b (fun x => lt x d3[p]! = false) (by omega) m3.1 (fun i hi1 hi2 => ?_)
      rw [m3.1.2.1 p (.inl h2)]
      exact x2 p i h1 h2 hi1 hi2
    exact this q h3 h4
  intro p q hp1 hpq hq
  by_cases e1 : q < M
  · exact s2' p q hp1 hpq e1
  · by_cases e2 : p < M
    · exact x3 p q hp1 e2 (by omega) hq
    · exact s3 p q (by omega) hpq hq

/-- runs of bs, up to t -/
def Runs (lt : α → α → Bool) (bs lo t : Nat) (d : Array α) : Prop := ∀ k, lo ≤ k * bs → ∀ p q, k * bs ≤ p → p < q → q < (k + 1) * bs → q < t → lt d[q]! d[p]! = false
theorem Runs.all {bs t : Nat} {d : Array α} (h : Runs lt bs 0 t d) (hb : t ≤ bs) : SortedIn lt 0 t d := fun p q h1 h2 h3 => h 0 (by omega) p q (by omega) h2 (by omega) h3
theorem Runs.at_ {bs lo t k : Nat} {d : Array α} (h : Runs lt bs lo t d) (hk : lo ≤ k * bs) {a b : Nat} (ha : k * bs ≤ a) (hb : b ≤ (k + 1) * bs) (hbt : b ≤ t) : SortedIn lt a b d := fun p q h1 h2 h3 => h k hk p q (by omega) h2 (by omega) (by omega)
/-- a run more is made, to its end (or to the row's end) -/
theorem Runs.more {bs k b t : Nat} {d d' : Array α} (h : Runs lt bs 0 (k * bs) d) (hp : PermIn (k * bs) b d d') (hs : SortedIn lt (k * bs) b d') (hb : b = (k + 1) * bs ∨ b ≤ (k + 1) * bs ∧ b = t) : Runs lt bs 0 b d' := fun k' _ p q h1 h2 h3 h4 => by
  by_cases e : q < k * bs
  · rw [hp.2.1 p (.inl (by omega)), hp.2.1 q (.inl e)]
    exact h k' (Nat.zero_le _) p q h1 h2 h3 e
  · have : k ≤ k' := by
      rcases Nat.lt_or_ge k' k with c | c
      · have := Nat.mul_le_mul_right bs (show k' + 1 ≤ k from c); omega
      · exact c
    have h5 := Nat.mul_le_mul_right bs this
    exact hs p q (by omega) h2 (by omega)
theorem Runs.keep {bs lo t a b : Nat} {d d' : Array α} (h : Runs lt bs lo t d) (hp : PermIn a b d d') (hb : b ≤ lo) : Runs lt bs lo t d' := fun k hk p q h1 h2 h3 h4 => by
  rw [hp.2.1 p (.inr (by omega)), hp.2.1 q (.inr (by omega))]
  exact h k hk p q h1 h2 h3 h4
theorem Runs.mono {bs lo lo' t : Nat} {d : Array α} (h : Runs lt bs lo t d) (hl : lo ≤ lo') : Runs lt bs lo' t d := fun k hk => h k (Nat.le_trans hl hk)
end Go.Proofs.Ytdlcjieaoalhoaa.Sy
