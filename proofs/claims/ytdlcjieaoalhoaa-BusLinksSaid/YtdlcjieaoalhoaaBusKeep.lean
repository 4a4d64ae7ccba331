/- Two steps bring the same as one: the plain law. -/
import Derived.Test.YtdlcjieaoalhoaaBusSortN
set_option linter.unusedVariables false
namespace Go.Proofs.Ytdlcjieaoalhoaa.Bs
open Go.RowKit Go.Sort Go.Proofs.Ytdlcjieaoalhoaa Crc Sm Sy

abbrev Ky := Int × Int × Int × Int × List Int
def kdue (t : Int) (k : Ky) : Bool := decide (k.2.2.1 ≤ t)
def kle (a b : Ky) : Prop := ¬ (b.2.2.1 < a.2.2.1 ∨ (b.2.2.1 = a.2.2.1 ∧ b.2.2.2.1 < a.2.2.2.1))
theorem map_filter_due (t : Int) : ∀ L : List Pc, (L.filter (dueBy t)).map Pc.key = (L.map Pc.key).filter (kdue t)
  | [] => rfl
  | p :: L => by
    have e : dueBy t p = kdue t p.key := rfl
    rw [List.map_cons, List.filter_cons, List.filter_cons, ← e]
    cases h : dueBy t p
    · simpa using map_filter_due t L
    · simpa using map_filter_due t L
theorem map_filter_not (t : Int) : ∀ L : List Pc, (L.filter (fun p => !dueBy t p)).map Pc.key = (L.map Pc.key).filter (fun k => !kdue t k)
  | [] => rfl
  | p :: L => by
    have e : dueBy t p = kdue t p.key := rfl
    rw [List.map_cons, List.filter_cons, List.filter_cons, ← e]
    cases h : dueBy t p
    · simpa using map_filter_not t L
    · simpa using map_filter_not t L
theorem order_map {M : List Pc} (h : InOrder M) : (M.map Pc.key).Pairwise kle := by
  rw [List.pairwise_map]
  exact h.imp fun {p q} hpq => (lp_no q p).1 hpq
/-- serials by the index -/
theorem ser_nodup {f : Nat → Ky} (hf : ∀ i, (f i).2.2.2.1 = (i : Int)) (n : Nat) : ((List.range n).map f).Pairwise (fun a b => a.2.2.2.1 ≠ b.2.2.2.1) := by
  rw [List.pairwise_map, List.pairwise_iff_getElem]
  intro i j hi hj hij
  rw [hf, hf]
  simp only [List.getElem_range]
  omega

structure Keeps (u : Int) (P Q R : List Pc) : Prop where
  len : P.length + Q.length = R.length
  due : ∀ (i : Nat) (x : Pc), R[i]? = some x → x.du ≤ u
  fst : ∀ (i : Nat) (x : Pc), R[i]? = some x → i < P.length → ∃ y, P[i]? = some y ∧ y.se = x.se
  snd : ∀ (i : Nat) (x : Pc), R[i]? = some x → P.length ≤ i → ∃ y, Q[i - P.length]? = some y ∧ y.se = x.se
  ord : ∀ (i : Nat) (x y : Pc), R[i]? = some x → R[i + 1]? = some y → x.du < y.du ∨ (x.du = y.du ∧ x.se < y.se)

theorem keeps_of {K : List Ky} {t u : Int} {L1 L2 L3 P Q R : List Pc} (htu : t ≤ u) (hK : K.Pairwise (fun a b => a.2.2.2.1 ≠ b.2.2.2.1))
    (h1 : L1.map Pc.key = K) (hP : P.Perm (L1.filter (dueBy t))) (oP : InOrder P)
    (h2 : L2.map Pc.key = (L1.filter (fun p => !dueBy t p)).map Pc.key) (hQ : Q.Perm (L2.filter (dueBy u))) (oQ : InOrder Q)
    (h3 : L3.map Pc.key = K) (hR : R.Perm (L3.filter (dueBy u))) (oR : InOrder R) : Keeps u P Q R := by
  have kP : (P.map Pc.key).Perm (K.filter (kdue t)) := by have := hP.map Pc.key; rwa [map_filter_due, h1] at this
  have kQ : (Q.map Pc.key).Perm ((K.filter (fun k => !kdue t k)).filter (kdue u)) := by have := hQ.map Pc.key; rwa [map_filter_due, h2, map_filter_not, h1] at this
  have kR : (R.map Pc.key).Perm (K.filter (kdue u)) := by have := hR.map Pc.key; rwa [map_filter_due, h3] at this
  have e1 : K.filter (kdue t) = (K.filter (kdue u)).filter (kdue t) := by
    rw [List.filter_filter]
    apply List.filter_congr
    intro x _
    unfold kdue
    by_cases h : x.2.2.1 ≤ t
    · rw [decide_eq_true h, decide_eq_true (show x.2.2.1 ≤ u by omega)]; rfl
    · rw [decide_eq_false h]; rfl
  have e2 : (K.filter (fun k => !kdue t k)).filter (kdue u) = (K.filter (kdue u)).filter (fun k => !kdue t k) := by
    rw [List.filter_filter, List.filter_filter]
    apply List.filter_congr
    intro x _
    exact Bool.and_comm _ _
  rw [e1] at kP
  rw [e2] at kQ
  have kPQ : (P.map Pc.key ++ Q.map Pc.key).Perm (R.map Pc.key) := ((kP.append kQ).trans (List.filter_append_perm (kdue t) (K.filter (kdue u)))).trans kR.symm
  have dP : ∀ a ∈ P.map Pc.key, a.2.2.1 ≤ t := fun a ha => by
    have := (List.mem_filter.1 (kP.mem_iff.1 ha)).2
    simpa [kdue] using this
  have dQ : ∀ a ∈ Q.map Pc.key, t < a.2.2.1 := fun a ha => by
    have := (List.mem_filter.1 (kQ.mem_iff.1 ha)).2
    simpa [kdue] using this
  have dR : ∀ a ∈ R.map Pc.key, a.2.2.1 ≤ u := fun a ha => by
    have := (List.mem_filter.1 (kR.mem_iff.1 ha)).2
    simpa [kdue] using this
  have oPQ : (P.map Pc.key ++ Q.map Pc.key).Pairwise kle := List.pairwise_append.2 ⟨order_map oP, order_map oQ, fun a ha b hb => by
    have := dP a ha; have := dQ b hb
    unfold kle; omega⟩
  have nR : (R.map Pc.key).Pairwise (fun a b => a.2.2.2.1 ≠ b.2.2.2.1) := (kR.pairwise_iff (fun h e => h e.symm)).2 (hK.filter _)
  have heq : P.map Pc.key ++ Q.map Pc.key = R.map Pc.key := by
    refine List.Perm.eq_of_pairwise (le := kle) (fun a b ha hb h1 h2 => ?_) oPQ (order_map oR) kPQ
    have ha' := kPQ.mem_iff.1 ha
    obtain ⟨i, hi, rfl⟩ := List.getElem_of_mem ha'
    obtain ⟨j, hj, rfl⟩ := List.getElem_of_mem hb
    have hs : (R.map Pc.key)[i].2.2.2.1 = (R.map Pc.key)[j].2.2.2.1 := by unfold kle at h1 h2; omega
    have hp := List.pairwise_iff_getElem.1 nR
    rcases Nat.lt_trichotomy i j with c | c | c
    · exact absurd hs (hp i j hi hj c)
    · subst c; rfl
    · exact absurd hs.symm (hp j i hj hi c)
  have hlen : P.length + Q.length = R.length := by have := congrArg List.length heq; simpa using this
  refine ⟨hlen, fun i x hx => ?_, fun i x hx hi => ?_, fun i x hx hi => ?_, fun i x y hx hy => ?_⟩
  · exact dR x.key (List.mem_map.2 ⟨x, List.mem_of_getElem? hx, rfl⟩)
  · have h := congrArg (fun l => l[i]?) heq
    simp only [List.getElem?_map, hx, Option.map_some] at h
    rw [List.getElem?_append_left (by simpa using hi), List.getElem?_map, List.getElem?_eq_getElem hi] at h
    exact ⟨P[i], List.getElem?_eq_getElem hi, congrArg (fun k : Ky => k.2.2.2.1) (Option.some.inj h)⟩
  · have h := congrArg (fun l => l[i]?) heq
    simp only [List.getElem?_map, hx, Option.map_some] at h
    have hi2 : i < R.length := (List.getElem?_eq_some_iff.1 hx).1
    have hi3 : i - P.length < Q.length := by omega
    rw [List.getElem?_append_right (by simpa using hi), List.length_map, List.getElem?_map, List.getElem?_eq_getElem hi3] at h
    exact ⟨Q[i - P.length], List.getElem?_eq_getElem hi3, congrArg (fun k : Ky => k.2.2.2.1) (Option.some.inj h)⟩
  · have hi2 : i + 1 < R.length := (List.getElem?_eq_some_iff.1 hy).1
    have hx' : x = R[i] := by rw [List.getElem?_eq_getElem (by omega)] at hx; exact (Option.some.inj hx).symm
    have hy' : y = R[i + 1] := by rw [List.getElem?_eq_getElem hi2] at hy; exact (Option.some.inj hy).symm
    have h1 := List.pairwise_iff_getElem.1 (order_map oR) i (i + 1) (by simp; omega) (by simpa using hi2) (by omega)
    have h2 := List.pairwise_iff_getElem.1 nR i (i + 1) (by simp; omega) (by simpa using hi2) (by omega)
    simp only [List.getElem_map, ← hx', ← hy'] at h1 h2
    unfold kle at h1
    have e1 : x.key.2.2.1 = x.du := rfl
    have e2 : y.key.2.2.1 = y.du := rfl
    have e3 : x.key.2.2.2.1 = x.se := rfl
    have e4 : y.key.2.2.2.1 = y.se := rfl
    rw [e1, e2, e3, e4] at h1
    rw [e3, e4] at h2
    omega
theorem len_split (t : Int) (L : List Pc) : (L.filter (dueBy t)).length + (L.filter (fun p => !dueBy t p)).length = L.length := by
  have := (List.filter_append_perm (dueBy t) L).length_eq
  rw [List.length_append] at this
  exact this
/-- what stays: by one step or by two -/
theorem stay_len {t u : Int} {L1 L2 L3 : List Pc} (htu : t ≤ u) (h2 : L2.map Pc.key = (L1.filter (fun p => !dueBy t p)).map Pc.key) (h3 : L3.map Pc.key = L1.map Pc.key) :
    (L2.filter (fun p => !dueBy u p)).length = (L3.filter (fun p => !dueBy u p)).length := by
  have a := congrArg List.length (map_filter_not u L2)
  have b := congrArg List.length (map_filter_not u L3)
  rw [List.length_map] at a b
  rw [a, b, h2, h3, map_filter_not, List.filter_filter]
  congr 1
  apply List.filter_congr
  intro x _
  unfold kdue
  by_cases h : x.2.2.1 ≤ t
  · rw [decide_eq_true h, decide_eq_true (show x.2.2.1 ≤ u by omega)]; rfl
  · rw [decide_eq_false h]; simp
end Go.Proofs.Ytdlcjieaoalhoaa.Bs
