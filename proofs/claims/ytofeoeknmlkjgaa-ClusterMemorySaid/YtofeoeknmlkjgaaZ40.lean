/- Merged: ClPlain ClLaw NodeUnpack NodeAdopt. -/
import Derived.Deep.RegionHeld3
import Derived.Test.YtofeoeknmlkjgaaZ14
import Derived.Test.YtofeoeknmlkjgaaZ25
import Derived.Test.YtofeoeknmlkjgaaZ29
import Derived.Test.YtofeoeknmlkjgaaZ38
import Derived.Test.YtofeoeknmlkjgaaZ39
set_option linter.unusedVariables false
set_option linter.unusedSimpArgs false
section
/- Four computers, one of which may be faulty: what a frame computes, plain; and what the good ones agree on. -/
set_option linter.unusedVariables false
namespace Go.Proofs.Ytofeoeknmlkjgaa.Nk
open Go.RowKit Go.Proofs.Ytofeoeknmlkjgaa Mb Fi Sm

/-! what is heard -/
def fitsS (fr kind : Int) (many s : Nat) (x : Pm) : Bool := decide (x.k = kind) && decide (x.r = fr) && decide (x.vs.length = many) && decide (x.f = (s : Int))
def firstM (fr kind : Int) (many s : Nat) (L : List Pm) : Option (List Int) := (L.find? (fitsS fr kind many s)).map (·.vs)
theorem hear_keeps (id fr kind : Int) (many s : Nat) (l : List Int) : ∀ (L : List Pm) (h : Hd), h s = some l → L.foldl (hear1 id fr kind many) h s = some l
  | [], h, e => e
  | x :: L, h, e => by
    refine hear_keeps id fr kind many s l L _ ?_
    unfold hear1
    split
    · rename_i hf
      simp only [fitsM, Bool.and_eq_true, decide_eq_true_eq, Option.isNone_iff_eq_none] at hf
      unfold upd
      rw [if_neg]
      · exact e
      · intro h2
        rw [← h2, e] at hf
        exact absurd hf.2 (by simp)
    · exact e
theorem hear_first (id fr kind : Int) (many s : Nat) (hs : s < 4) (hne : (s : Int) ≠ id) : ∀ (L : List Pm) (h : Hd), h s = none → L.foldl (hear1 id fr kind many) h s = firstM fr kind many s L
  | [], h, e => e
  | x :: L, h, e => by
    rw [List.foldl_cons]
    unfold firstM
    rw [List.find?_cons]
    by_cases hf : fitsS fr kind many s x = true
    · rw [hf]
      have hf' := hf
      simp only [fitsS, Bool.and_eq_true, decide_eq_true_eq] at hf'
      obtain ⟨⟨⟨a, b⟩, c⟩, d⟩ := hf'
      have hn : x.f.toNat = s := by omega
      have hy : fitsM id fr kind many h x = true := fits_yes ⟨a, b, c, by omega, by omega, by omega, by rw [hn]; exact e⟩
      rw [hear_keeps id fr kind many s x.vs L _ (by unfold hear1; rw [if_pos hy]; unfold upd; rw [if_pos hn.symm])]
      rfl
    · rw [Bool.not_eq_true] at hf
      rw [hf]
      refine hear_first id fr kind many s hs hne L _ ?_
      unfold hear1
      split
      · rename_i hg
        simp only [fitsM, Bool.and_eq_true, decide_eq_true_eq, Option.isNone_iff_eq_none] at hg
        unfold upd
        rw [if_neg]
        · exact e
        · intro h2
          have h3 : fitsS fr kind many s x = true := by
            simp only [fitsS, Bool.and_eq_true, decide_eq_true_eq]
            exact ⟨⟨⟨hg.1.1.1.1.1.1, hg.1.1.1.1.1.2⟩, hg.1.1.1.1.2⟩, by omega⟩
          rw [hf] at h3; cases h3
      · exact e
theorem hear_self (id fr kind : Int) (many s : Nat) (hne : (s : Int) = id) : ∀ (L : List Pm) (h : Hd), h s = none → L.foldl (hear1 id fr kind many) h s = none
  | [], h, e => e
  | x :: L, h, e => by
    refine hear_self id fr kind many s hne L _ ?_
    unfold hear1
    split
    · rename_i hg
      simp only [fitsM, Bool.and_eq_true, decide_eq_true_eq, Option.isNone_iff_eq_none] at hg
      unfold upd
      rw [if_neg]
      · exact e
      · intro h2; have := hg.1.2; have := hg.1.1.2; have := hg.1.1.1.2; omega
    · exact e
theorem hearF_at (id fr kind : Int) (many s : Nat) (hs : s < 4) (L : List Pm) : hearF id fr kind many L s = if (s : Int) = id then none else firstM fr kind many s L := by
  split
  · rename_i h; exact hear_self id fr kind many s h L _ rfl
  · rename_i h; exact hear_first id fr kind many s hs h L _ rfl
theorem firstM_app (fr kind : Int) (many s : Nat) (L M : List Pm) : firstM fr kind many s (L ++ M) = (firstM fr kind many s L).or (firstM fr kind many s M) := by
  unfold firstM
  rw [List.find?_append]
  cases L.find? (fitsS fr kind many s) <;> rfl
theorem firstM_none (fr kind : Int) (many s : Nat) (L : List Pm) (h : ∀ x ∈ L, x.f ≠ (s : Int)) : firstM fr kind many s L = none := by
  unfold firstM
  rw [List.find?_eq_none.2]
  · rfl
  · intro x hx hf
    simp only [fitsS, Bool.and_eq_true, decide_eq_true_eq] at hf
    exact h x hx hf.2

/-! boxes -/
def boxF (bad : Int) (lie : List Pm) (m : Nat → Pm) (tt : Nat) : Nat → List Pm
  | 0 => []
  | i + 1 => boxF bad lie m tt i ++ (if (i : Int) = bad then lie else if i = tt then [] else [m i])
structure Ly where
  ph : Int
  tt : Int
  m : Option Pm
def lyM (bad : Int) (k tt : Nat) (l : Ly) : Option Pm := if l.ph = (k : Int) ∧ l.tt = (tt : Int) ∧ (tt : Int) ≠ bad then l.m.filter (fun x => decide (x.f = bad)) else none
def lieL (bad : Int) (k tt : Nat) (Ls : List Ly) : List Pm := Ls.filterMap (lyM bad k tt)
theorem lieL_from (bad : Int) (k tt : Nat) (Ls : List Ly) : ∀ x ∈ lieL bad k tt Ls, x.f = bad := by
  intro x hx
  unfold lieL at hx
  rw [List.mem_filterMap] at hx
  obtain ⟨l, _, hl⟩ := hx
  unfold lyM at hl
  split at hl
  · rw [Option.filter_eq_some_iff] at hl
    simpa using hl.2
  · cases hl
theorem first_box_good (fr kind : Int) (many s : Nat) (bad : Int) (lie : List Pm) (m : Nat → Pm) (tt : Nat) (hl : ∀ x ∈ lie, x.f = bad) (hm : ∀ i, (m i).f = (i : Int)) (hsb : (s : Int) ≠ bad) (hst : s ≠ tt) :
    ∀ i, firstM fr kind many s (boxF bad lie m tt i) = if s < i then firstM fr kind many s [m s] else none
  | 0 => by rw [if_neg (by omega)]; rfl
  | i + 1 => by
    rw [boxF, firstM_app, first_box_good fr kind many s bad lie m tt hl hm hsb hst i]
    by_cases e : i = s
    · subst e
      rw [if_neg hsb, if_neg hst, if_neg (Nat.lt_irrefl i), if_pos (Nat.lt_succ_self i)]
      rfl
    · have hz : firstM fr kind many s (if (i : Int) = bad then lie else if i = tt then [] else [m i]) = none := by
        refine firstM_none _ _ _ _ _ fun x hx => ?_
        split at hx
        · rw [hl x hx]; exact fun h => hsb h.symm
        · split at hx
          · cases hx
          · rw [List.mem_singleton] at hx
            subst hx
            rw [hm i]; omega
      rw [hz]
      by_cases c : s < i
      · rw [if_pos c, if_pos (by omega)]; simp
      · rw [if_neg c, if_neg (by omega)]; rfl
theorem first_box_bad (fr kind : Int) (many s : Nat) (bad : Int) (lie : List Pm) (m : Nat → Pm) (tt : Nat) (hm : ∀ i, (m i).f = (i : Int)) (hsb : (s : Int) = bad) :
    ∀ i, firstM fr kind many s (boxF bad lie m tt i) = if s < i then firstM fr kind many s lie else none
  | 0 => by rw [if_neg (by omega)]; rfl
  | i + 1 => by
    rw [boxF, firstM_app, first_box_bad fr kind many s bad lie m tt hm hsb i]
    by_cases e : i = s
    · subst e
      rw [if_pos hsb, if_neg (Nat.lt_irrefl i), if_pos (Nat.lt_succ_self i)]
      rfl
    · have hz : firstM fr kind many s (if (i : Int) = bad then lie else if i = tt then [] else [m i]) = none := by
        rw [if_neg (by omega)]
        refine firstM_none _ _ _ _ _ fun x hx => ?_
        split at hx
        · cases hx
        · rw [List.mem_singleton] at hx
          subst hx
          rw [hm i]; omega
      rw [hz]
      by_cases c : s < i
      · rw [if_pos c, if_pos (by omega)]; simp
      · rw [if_neg c, if_neg (by omega)]; rfl
theorem firstM_one (fr kind : Int) (many s : Nat) (x : Pm) (h : x.k = kind ∧ x.r = fr ∧ x.vs.length = many ∧ x.f = (s : Int)) : firstM fr kind many s [x] = some x.vs := by
  unfold firstM
  rw [List.find?_cons, show fitsS fr kind many s x = true by simp only [fitsS, Bool.and_eq_true, decide_eq_true_eq]; exact ⟨⟨⟨h.1, h.2.1⟩, h.2.2.1⟩, h.2.2.2⟩]
  rfl

/-! a frame -/
structure Fr where
  bad : Int
  fr : Int
  rd : Nat → Int
  Ls : List Ly
section
variable (x : Fr) (N : Nat → Nd)
def N1 (i : Nat) : Nd := if (i : Int) = x.bad then N i else senseN (N i) i x.fr (x.rd (i * 3)) (x.rd (i * 3 + 1)) (x.rd (i * 3 + 2))
def M1 (i : Nat) : Pm := ⟨1, i, x.fr, [x.rd (i * 3), x.rd (i * 3 + 1), x.rd (i * 3 + 2)]⟩
def B1 (tt : Nat) : List Pm := boxF x.bad (lieL x.bad 0 tt x.Ls) (M1 x) tt 4
def N2 (i : Nat) : Nd := if (i : Int) = x.bad then N i else relayN (N1 x N i) (B1 x i)
def M2 (i : Nat) : Pm := ⟨2, i, x.fr, dirL (N2 x N i).di 12⟩
def B2 (tt : Nat) : List Pm := boxF x.bad (lieL x.bad 1 tt x.Ls) (M2 x N) tt 4
def N3 (i : Nat) : Nd := if (i : Int) = x.bad then N i else decideN (N2 x N i) (B2 x N i) i
def M3 (i : Nat) : Pm := ⟨3, i, x.fr, [(N3 x N i).dg]⟩
def B3 (tt : Nat) : List Pm := boxF x.bad (lieL x.bad 2 tt x.Ls) (M3 x N) tt 4
def N4 (i : Nat) : Nd := if (i : Int) = x.bad then N i else passN (N3 x N i) (B3 x N i)
def M4 (i : Nat) : Pm := ⟨2, i, x.fr, heL (N4 x N i).he⟩
def B4 (tt : Nat) : List Pm := boxF x.bad (lieL x.bad 3 tt x.Ls) (M4 x N) tt 4
noncomputable def N5 (i : Nat) : Nd := if (i : Int) = x.bad then N i else judgeN (N4 x N i) (B4 x N i) i
noncomputable def M5 (i : Nat) : Pm := ⟨5, i, x.fr, packL (N5 x N i)⟩
noncomputable def B5 (tt : Nat) : List Pm := boxF x.bad (lieL x.bad 4 tt x.Ls) (M5 x N) tt 4
end

/-! told -/
def valH (h : Hd) (q k : Nat) : Int := match h q with | some l => l.getD k 0 | none => 0
theorem told_from (h : Hd) (k d b : Nat) (hd : d < 4) (hb : b < 4) (hdb : d ≠ b) :
    ∃ r1 r2, Ag.from_ b d 4 = [r1, r2] ∧ r1 < 4 ∧ r2 < 4 ∧ r1 ≠ d ∧ r2 ≠ d ∧ r1 ≠ b ∧ r2 ≠ b ∧ toldF h k d b 0 = valH h r1 k ∧ toldF h k d b 1 = valH h r2 k := by
  have key : ∀ (a0 a1 a2 a3 : Option (List Int)) (h : Hd), h 0 = a0 → h 1 = a1 → h 2 = a2 → h 3 = a3 → ∃ r1 r2, Ag.from_ b d 4 = [r1, r2] ∧ r1 < 4 ∧ r2 < 4 ∧ r1 ≠ d ∧ r2 ≠ d ∧ r1 ≠ b ∧ r2 ≠ b ∧ toldF h k d b 0 = valH h r1 k ∧ toldF h k d b 1 = valH h r2 k := by
    intro a0 a1 a2 a3 h h0 h1 h2 h3
    have hd' : d = 0 ∨ d = 1 ∨ d = 2 ∨ d = 3 := by omega
    have hb' : b = 0 ∨ b = 1 ∨ b = 2 ∨ b = 3 := by omega
    rcases hd' with rfl | rfl | rfl | rfl <;> rcases hb' with rfl | rfl | rfl | rfl <;> first
      | exact absurd rfl hdb
      | (refine ⟨_, _, rfl, by decide, by decide, by decide, by decide, by decide, by decide, ?_, ?_⟩ <;>
          (unfold toldF; simp only [outO, cntO, valH, h0, h1, h2, h3]; cases a0 <;> cases a1 <;> cases a2 <;> cases a3 <;> simp [upd]))
  exact key _ _ _ _ h rfl rfl rfl rfl
end Go.Proofs.Ytofeoeknmlkjgaa.Nk
end
section
/- Four computers: the good ones agree (plain). -/
set_option linter.unusedVariables false
namespace Go.Proofs.Ytofeoeknmlkjgaa.Nk
open Go.RowKit Go.Proofs.Ytofeoeknmlkjgaa Mb Fi Sm

theorem told_map {D : Nat → Int} {bad : Int} {f : Nat → Int} : ∀ {rs : List Nat}, (∀ r ∈ rs, ¬ (r : Int) = bad → f r = D r) → Ag.Told D bad rs (rs.map f)
  | [], _ => rfl
  | r :: rs, h => ⟨f r, rs.map f, rfl, h r (List.mem_cons_self ..), told_map fun q hq => h q (List.mem_cons_of_mem _ hq)⟩
theorem agree_gen {bad : Int} {s : Nat} (hs : s < 4) (value : Int) (D : Nat → Int) (V : Nat → Nat → Int) (O : Nat → Int)
    (hD : ∀ r : Nat, r < 4 → ¬ (r : Int) = bad → ¬ (s : Int) = bad → D r = value) (hV : ∀ q r : Nat, q < 4 → r < 4 → ¬ (q : Int) = bad → ¬ (r : Int) = bad → r ≠ q → V q r = D r)
    (hO : ∀ q : Nat, q < 4 → ¬ (q : Int) = bad → O q = if q = s then D s else Mj.maj [D q, ((Ag.from_ s q 4).map (V q)).getD 0 0, ((Ag.from_ s q 4).map (V q)).getD 1 0] 0) :
    (¬ (s : Int) = bad → ∀ q : Nat, q < 4 → ¬ (q : Int) = bad → O q = value) ∧ ∀ p q : Nat, p < 4 → q < 4 → ¬ (p : Int) = bad → ¬ (q : Int) = bad → O p = O q := by
  have hmem : ∀ q r : Nat, r ∈ Ag.from_ s q 4 → r < 4 ∧ r ≠ s ∧ r ≠ q := by
    intro q r hr
    unfold Ag.from_ at hr
    rw [List.mem_filter, List.mem_range] at hr
    simp only [Bool.and_eq_true, decide_eq_true_eq] at hr
    exact ⟨hr.1, hr.2⟩
  have key := Ag.agr_of (s := s) (value := if (s : Int) = bad then D s else value) (bad := bad) (D := fun r : Nat => if (r : Int) = bad then (if (s : Int) = bad then D s else value) else D r)
    (T := fun q => (Ag.from_ s q 4).map (fun r : Nat => if (q : Int) = bad then (if (r : Int) = bad then (if (s : Int) = bad then D s else value) else D r) else V q r))
    (O := fun q : Nat => if q = s then (if (s : Int) = bad then D s else value) else Mj.maj [(if (q : Int) = bad then (if (s : Int) = bad then D s else value) else D q), ((Ag.from_ s q 4).map (fun r : Nat => if (q : Int) = bad then (if (r : Int) = bad then (if (s : Int) = bad then D s else value) else D r) else V q r)).getD 0 0, ((Ag.from_ s q 4).map (fun r : Nat => if (q : Int) = bad then (if (r : Int) = bad then (if (s : Int) = bad then D s else value) else D r) else V q r)).getD 1 0] 0)
    hs
    (by
      intro r hr h
      by_cases hb : (r : Int) = bad
      · simp only [hb, if_true]
      · simp only [if_neg hb]
        rcases h with h | h
        · rw [if_neg h]; exact hD r hr hb h
        · subst h; rw [if_neg hb]; exact hD r hr hb hb)
    (by
      intro q hq hqs
      refine told_map fun r hr hrb => ?_
      obtain ⟨h1, h2, h3⟩ := hmem q r hr
      by_cases hqb : (q : Int) = bad
      · simp only [if_pos hqb, if_neg hrb]
      · simp only [if_neg hqb, if_neg hrb]
        exact hV q r hq h1 hqb hrb h3)
    (fun q hq => rfl)
  have he : ∀ q : Nat, q < 4 → ¬ (q : Int) = bad → O q = (if q = s then (if (s : Int) = bad then D s else value) else Mj.maj [(if (q : Int) = bad then (if (s : Int) = bad then D s else value) else D q), ((Ag.from_ s q 4).map (fun r : Nat => if (q : Int) = bad then (if (r : Int) = bad then (if (s : Int) = bad then D s else value) else D r) else V q r)).getD 0 0, ((Ag.from_ s q 4).map (fun r : Nat => if (q : Int) = bad then (if (r : Int) = bad then (if (s : Int) = bad then D s else value) else D r) else V q r)).getD 1 0] 0) := by
    intro q hq hb
    rw [hO q hq hb]
    by_cases e : q = s
    · subst e
      rw [if_pos rfl, if_pos rfl, if_neg hb]
      exact hD q hq hb hb
    · rw [if_neg e, if_neg e, if_neg hb]
      simp only [if_neg hb]
  refine ⟨fun hsb q hq hb => ?_, fun p q hp hq hpb hqb => ?_⟩
  · rw [he q hq hb]
    have := key.1 hsb q hq hb
    simp only [] at this
    rw [this, if_neg hsb]
  · rw [he p hp hpb, he q hq hqb]
    exact key.2 p q hp hq hpb hqb

section
variable {x : Fr} {N : Nat → Nd}
def Ids (x : Fr) (N : Nat → Nd) : Prop := ∀ p : Nat, p < 4 → ¬ (p : Int) = x.bad → (N p).id = (p : Int)
theorem N1_good {p : Nat} (hb : ¬ (p : Int) = x.bad) : N1 x N p = senseN (N p) p x.fr (x.rd (p * 3)) (x.rd (p * 3 + 1)) (x.rd (p * 3 + 2)) := if_neg hb
theorem N2_good {p : Nat} (hb : ¬ (p : Int) = x.bad) : N2 x N p = relayN (N1 x N p) (B1 x p) := if_neg hb
theorem N3_good {p : Nat} (hb : ¬ (p : Int) = x.bad) : N3 x N p = decideN (N2 x N p) (B2 x N p) p := if_neg hb
theorem N4_good {p : Nat} (hb : ¬ (p : Int) = x.bad) : N4 x N p = passN (N3 x N p) (B3 x N p) := if_neg hb
theorem N5_good {p : Nat} (hb : ¬ (p : Int) = x.bad) : N5 x N p = judgeN (N4 x N p) (B4 x N p) p := if_neg hb
theorem N2_id {p : Nat} (hb : ¬ (p : Int) = x.bad) : (N2 x N p).id = (N p).id ∧ (N2 x N p).fr = x.fr ∧ (N2 x N p).ax = (N p).ax ∧ (N2 x N p).ro = (N p).ro ∧ (N2 x N p).tu = (N p).tu ∧ (N2 x N p).he = fun _ => 0 := by
  rw [N2_good hb, N1_good hb]; exact ⟨rfl, rfl, rfl, rfl, rfl, rfl⟩
theorem N3_id {p : Nat} (hb : ¬ (p : Int) = x.bad) : (N3 x N p).id = (N p).id ∧ (N3 x N p).fr = x.fr ∧ (N3 x N p).ro = (N p).ro ∧ (N3 x N p).tu = (N p).tu := by
  obtain ⟨a, b, c, d, e, f⟩ := N2_id (x := x) (N := N) hb
  rw [N3_good hb]; exact ⟨a, b, d, e⟩
theorem N4_id {p : Nat} (hb : ¬ (p : Int) = x.bad) : (N4 x N p).id = (N p).id ∧ (N4 x N p).fr = x.fr ∧ (N4 x N p).ro = (N p).ro ∧ (N4 x N p).tu = (N p).tu := by
  obtain ⟨a, b, c, d⟩ := N3_id (x := x) (N := N) hb
  rw [N4_good hb]; exact ⟨a, b, c, d⟩
def dBad (x : Fr) (p s a : Nat) : Int := match firstM x.fr 1 3 s (lieL x.bad 0 p x.Ls) with | some l => l.getD a 0 | none => 0
theorem N2_di (hN : Ids x N) {p s a : Nat} (hp : p < 4) (hb : ¬ (p : Int) = x.bad) (hs : s < 4) (ha : a < 3) : (N2 x N p).di (s * 3 + a) = if (s : Int) = x.bad then dBad x p s a else x.rd (s * 3 + a) := by
  have e1 : (N1 x N p).id = (p : Int) := by rw [N1_good hb]; exact hN p hp hb
  have e2 : (N1 x N p).fr = x.fr := by rw [N1_good hb]; rfl
  rw [N2_good hb]
  show (if (s * 3 + a) / 3 < 4 then (match relayH (N1 x N p) (B1 x p) ((s * 3 + a) / 3) with | some l => l.getD ((s * 3 + a) % 3) 0 | none => (N1 x N p).di (s * 3 + a)) else (N1 x N p).di (s * 3 + a)) = _
  rw [show (s * 3 + a) / 3 = s by omega, show (s * 3 + a) % 3 = a by omega, if_pos hs]
  unfold relayH
  rw [hearF_at _ _ _ _ _ hs, e1, e2]
  have hdi : (N1 x N p).di (s * 3 + a) = if s = p then x.rd (s * 3 + a) else 0 := by
    rw [N1_good hb]
    show (if (s * 3 + a) / 3 = p then (if (s * 3 + a) % 3 = 0 then _ else if (s * 3 + a) % 3 = 1 then _ else _) else (0 : Int)) = _
    rw [show (s * 3 + a) / 3 = s by omega, show (s * 3 + a) % 3 = a by omega]
    by_cases e : s = p
    · subst e
      rw [if_pos rfl, if_pos rfl]
      have : a = 0 ∨ a = 1 ∨ a = 2 := by omega
      rcases this with rfl | rfl | rfl <;> rfl
    · rw [if_neg e, if_neg e]
  by_cases e : s = p
  · subst e
    rw [if_pos rfl, if_neg hb, hdi, if_pos rfl]
  · rw [if_neg (by omega)]
    by_cases hsb : (s : Int) = x.bad
    · rw [if_pos hsb]
      unfold B1 dBad
      rw [first_box_bad _ _ _ _ _ _ _ _ (fun i => rfl) hsb, if_pos hs]
      cases firstM x.fr 1 3 s (lieL x.bad 0 p x.Ls) with
      | none => show (N1 x N p).di (s * 3 + a) = 0; rw [hdi, if_neg e]
      | some l => rfl
    · rw [if_neg hsb]
      unfold B1
      rw [first_box_good _ _ _ _ _ _ _ _ (lieL_from _ _ _ _) (fun i => rfl) hsb e, if_pos hs, firstM_one x.fr 1 3 s (M1 x s) ⟨rfl, rfl, rfl, rfl⟩]
      have : a = 0 ∨ a = 1 ∨ a = 2 := by omega
      rcases this with rfl | rfl | rfl <;> rfl
theorem dirL_get (f : Nat → Int) {j m : Nat} (hj : j < m) : (dirL f m).getD j 0 = f j := by
  unfold dirL
  simp only [List.getD, List.getElem?_map, List.getElem?_range hj]
  rfl
theorem dirL_len (f : Nat → Int) (m : Nat) : (dirL f m).length = m := by unfold dirL; simp
theorem dec_told (hN : Ids x N) {p q : Nat} (hp : p < 4) (hb : ¬ (p : Int) = x.bad) (hq : q < 4) (hqb : ¬ (q : Int) = x.bad) (hne : q ≠ p) {j : Nat} (hj : j < 12) : valH (decH (N2 x N p) (B2 x N p)) q j = (N2 x N q).di j := by
  obtain ⟨e1, e2, _⟩ := N2_id (x := x) (N := N) hb
  unfold valH decH
  rw [hearF_at _ _ _ _ _ hq, e1, e2, hN p hp hb, if_neg (by omega)]
  unfold B2
  rw [first_box_good _ _ _ _ _ _ _ _ (lieL_from _ _ _ _) (fun i => rfl) hqb hne, if_pos hq, firstM_one x.fr 2 12 q (M2 x N q) ⟨rfl, rfl, dirL_len _ _, rfl⟩]
  exact dirL_get _ hj
theorem N3_ag (hN : Ids x N) {s a : Nat} (hs : s < 4) (ha : a < 3) :
    (¬ (s : Int) = x.bad → ∀ q : Nat, q < 4 → ¬ (q : Int) = x.bad → (N3 x N q).ag (s * 3 + a) = x.rd (s * 3 + a)) ∧ ∀ p q : Nat, p < 4 → q < 4 → ¬ (p : Int) = x.bad → ¬ (q : Int) = x.bad → (N3 x N p).ag (s * 3 + a) = (N3 x N q).ag (s * 3 + a) := by
  refine agree_gen hs (x.rd (s * 3 + a)) (fun r => (N2 x N r).di (s * 3 + a)) (fun q r => valH (decH (N2 x N q) (B2 x N q)) r (s * 3 + a)) (fun q => (N3 x N q).ag (s * 3 + a)) ?_ ?_ ?_
  · intro r hr hb hsb
    show (N2 x N r).di (s * 3 + a) = _
    rw [N2_di hN hr hb hs ha, if_neg hsb]
  · intro q r hq hr hqb hrb hne
    exact dec_told hN hq hqb hr hrb hne (by omega)
  · intro q hq hqb
    show (N3 x N q).ag (s * 3 + a) = _
    rw [N3_good hqb]
    show (if s * 3 + a < 12 then aF (N2 x N q) (decH (N2 x N q) (B2 x N q)) q (s * 3 + a) else (N2 x N q).ag (s * 3 + a)) = _
    rw [if_pos (by omega)]
    unfold aF
    rw [show (s * 3 + a) / 3 = s by omega]
    by_cases e : q = s
    · subst e; rw [if_pos rfl, if_pos rfl]
    · rw [if_neg (fun h => e h.symm), if_neg e]
      obtain ⟨r1, r2, hr, _, _, _, _, _, _, t1, t2⟩ := told_from (decH (N2 x N q) (B2 x N q)) (s * 3 + a) q s hq hs e
      rw [hr, t1, t2]
      rfl

/-! behind Decide -/
def Tw (n m : Nd) : Prop := n.ax = m.ax ∧ n.tu = m.tu ∧ n.ro = m.ro
theorem fuseL_same {n m : Nd} (h1 : m.ro = n.ro) {a : Nat} (h2 : ∀ s, s < 4 → m.ag (s * 3 + a) = n.ag (s * 3 + a)) : ∀ i, i ≤ 4 → fuseL m a i = fuseL n a i
  | 0, _ => rfl
  | i + 1, hi => by unfold fuseL; rw [fuseL_same h1 h2 i (by omega), h1, h2 i (by omega)]
theorem fuseF_same {n m : Nd} (h1 : m.ro = n.ro) {a : Nat} (h2 : ∀ s, s < 4 → m.ag (s * 3 + a) = n.ag (s * 3 + a)) : fuseF m a = fuseF n a := by
  unfold fuseF; rw [fuseL_same h1 h2 4 (Nat.le_refl _)]
theorem dgF_same {n m : Nd} (h1 : m.ax = n.ax) (h2 : m.ro = n.ro) : dgF m = dgF n := by
  have : packL m = packL n := by unfold packL; rw [h1, h2]
  unfold dgF; rw [this]
theorem N3_us {p a : Nat} (hb : ¬ (p : Int) = x.bad) (ha : a < 3) : (N3 x N p).us a = fuseF (N3 x N p) a := by
  rw [N3_good hb]
  show (if a < 3 then fuseF (agTo (N2 x N p) (decH (N2 x N p) (B2 x N p)) p 12) a else _) = _
  rw [if_pos ha]
  exact (fuseF_congr rfl rfl a).symm
theorem N3_ax {p : Nat} (hb : ¬ (p : Int) = x.bad) : (N3 x N p).ax = fun a => if a < 3 then stepS ((N p).ax a) (N p).tu ((N3 x N p).us a) else (N p).ax a := by
  obtain ⟨_, _, c, _, e, _⟩ := N2_id (x := x) (N := N) hb
  funext a
  by_cases ha : a < 3
  · rw [if_pos ha, N3_us hb ha]
    rw [N3_good hb]
    show (if a < 3 then stepS ((N2 x N p).ax a) (N2 x N p).tu (fuseF (agTo (N2 x N p) (decH (N2 x N p) (B2 x N p)) p 12) a) else (N2 x N p).ax a) = _
    rw [if_pos ha, c, e]
    exact congrArg _ (fuseF_congr rfl rfl a).symm
  · rw [if_neg ha]
    rw [N3_good hb]
    show (if a < 3 then stepS ((N2 x N p).ax a) (N2 x N p).tu (fuseF (agTo (N2 x N p) (decH (N2 x N p) (B2 x N p)) p 12) a) else (N2 x N p).ax a) = _
    rw [if_neg ha, c]
theorem N3_dg {p : Nat} (hb : ¬ (p : Int) = x.bad) : (N3 x N p).dg = dgF (N3 x N p) := by
  rw [N3_good hb]
  exact (dgF_same rfl rfl).symm
theorem N3_he {p : Nat} (hb : ¬ (p : Int) = x.bad) : (N3 x N p).he = upd (fun _ => 0) p (N3 x N p).dg := by
  obtain ⟨_, _, _, _, _, f⟩ := N2_id (x := x) (N := N) hb
  rw [N3_good hb]
  show upd (N2 x N p).he p _ = _
  rw [f]; rfl
theorem us_same (hN : Ids x N) {p q a : Nat} (hp : p < 4) (hq : q < 4) (hpb : ¬ (p : Int) = x.bad) (hqb : ¬ (q : Int) = x.bad) (ht : Tw (N p) (N q)) (ha : a < 3) : (N3 x N p).us a = (N3 x N q).us a := by
  rw [N3_us hpb ha, N3_us hqb ha]
  refine fuseF_same ?_ fun s hs => (N3_ag hN hs ha).2 p q hp hq hpb hqb
  rw [(N3_id hpb).2.2.1, (N3_id hqb).2.2.1, ht.2.2]
theorem N3_tw (hN : Ids x N) {p q : Nat} (hp : p < 4) (hq : q < 4) (hpb : ¬ (p : Int) = x.bad) (hqb : ¬ (q : Int) = x.bad) (ht : Tw (N p) (N q)) : Tw (N3 x N p) (N3 x N q) := by
  refine ⟨?_, ?_, ?_⟩
  · rw [N3_ax hpb, N3_ax hqb]
    funext a
    by_cases ha : a < 3
    · rw [if_pos ha, if_pos ha, ht.1, ht.2.1, us_same hN hp hq hpb hqb ht ha]
    · rw [if_neg ha, if_neg ha, ht.1]
  · rw [(N3_id hpb).2.2.2, (N3_id hqb).2.2.2, ht.2.1]
  · rw [(N3_id hpb).2.2.1, (N3_id hqb).2.2.1, ht.2.2]
theorem dg_same (hN : Ids x N) {p q : Nat} (hp : p < 4) (hq : q < 4) (hpb : ¬ (p : Int) = x.bad) (hqb : ¬ (q : Int) = x.bad) (ht : Tw (N p) (N q)) : (N3 x N p).dg = (N3 x N q).dg := by
  rw [N3_dg hpb, N3_dg hqb]
  exact dgF_same (N3_tw hN hp hq hpb hqb ht).1 (N3_tw hN hp hq hpb hqb ht).2.2

/-! behind Pass -/
def hBad (x : Fr) (p s : Nat) : Int := match firstM x.fr 3 1 s (lieL x.bad 2 p x.Ls) with | some l => l.getD 0 0 | none => 0
theorem N4_he (hN : Ids x N) {p s : Nat} (hp : p < 4) (hb : ¬ (p : Int) = x.bad) (hs : s < 4) : (N4 x N p).he s = if (s : Int) = x.bad then hBad x p s else (N3 x N s).dg := by
  obtain ⟨e1, e2, _⟩ := N3_id (x := x) (N := N) hb
  rw [N4_good hb]
  show (if s < 4 then (match passH (N3 x N p) (B3 x N p) s with | some l => l.getD 0 0 | none => (N3 x N p).he s) else (N3 x N p).he s) = _
  rw [if_pos hs, N3_he hb]
  unfold passH
  rw [hearF_at _ _ _ _ _ hs, e1, e2, hN p hp hb]
  by_cases e : s = p
  · subst e
    rw [if_pos rfl, if_neg hb]
    show upd _ s _ s = _
    rw [upd_same]
  · rw [if_neg (by omega)]
    unfold B3
    by_cases hsb : (s : Int) = x.bad
    · rw [if_pos hsb]
      unfold hBad
      rw [first_box_bad _ _ _ _ _ _ _ _ (fun i => rfl) hsb, if_pos hs]
      cases firstM x.fr 3 1 s (lieL x.bad 2 p x.Ls) with
      | none => show upd _ p _ s = _; rw [upd_far _ _ e]
      | some l => rfl
    · rw [if_neg hsb, first_box_good _ _ _ _ _ _ _ _ (lieL_from _ _ _ _) (fun i => rfl) hsb e, if_pos hs, firstM_one x.fr 3 1 s (M3 x N s) ⟨rfl, rfl, rfl, rfl⟩]
      rfl
theorem N4_keep {p : Nat} (hb : ¬ (p : Int) = x.bad) : (N4 x N p).ax = (N3 x N p).ax ∧ (N4 x N p).us = (N3 x N p).us ∧ (N4 x N p).dg = (N3 x N p).dg ∧ (N4 x N p).ag = (N3 x N p).ag := by
  rw [N4_good hb]; exact ⟨rfl, rfl, rfl, rfl⟩
theorem heL_get (f : Nat → Int) {s : Nat} (hs : s < 4) : (heL f).getD s 0 = f s := by
  have : s = 0 ∨ s = 1 ∨ s = 2 ∨ s = 3 := by omega
  rcases this with rfl | rfl | rfl | rfl <;> rfl

/-! behind Judge -/
def JV (x : Fr) (N : Nat → Nd) (p s : Nat) : Int := jF (N4 x N p) (judgeH (N4 x N p) (B4 x N p)) p s
theorem jud_told (hN : Ids x N) {p q : Nat} (hp : p < 4) (hb : ¬ (p : Int) = x.bad) (hq : q < 4) (hqb : ¬ (q : Int) = x.bad) (hne : q ≠ p) {s : Nat} (hs : s < 4) : valH (judgeH (N4 x N p) (B4 x N p)) q s = (N4 x N q).he s := by
  obtain ⟨e1, e2, _⟩ := N4_id (x := x) (N := N) hb
  unfold valH judgeH
  rw [hearF_at _ _ _ _ _ hq, e1, e2, hN p hp hb, if_neg (by omega)]
  unfold B4
  rw [first_box_good _ _ _ _ _ _ _ _ (lieL_from _ _ _ _) (fun i => rfl) hqb hne, if_pos hq, firstM_one x.fr 2 4 q (M4 x N q) ⟨rfl, rfl, rfl, rfl⟩]
  exact heL_get _ hs
theorem JV_agr (hN : Ids x N) {s : Nat} (hs : s < 4) :
    (¬ (s : Int) = x.bad → ∀ q : Nat, q < 4 → ¬ (q : Int) = x.bad → JV x N q s = (N3 x N s).dg) ∧ ∀ p q : Nat, p < 4 → q < 4 → ¬ (p : Int) = x.bad → ¬ (q : Int) = x.bad → JV x N p s = JV x N q s := by
  refine agree_gen hs (N3 x N s).dg (fun r => (N4 x N r).he s) (fun q r => valH (judgeH (N4 x N q) (B4 x N q)) r s) (fun q => JV x N q s) ?_ ?_ ?_
  · intro r hr hb hsb
    show (N4 x N r).he s = _
    rw [N4_he hN hr hb hs, if_neg hsb]
  · intro q r hq hr hqb hrb hne
    exact jud_told hN hq hqb hr hrb hne hs
  · intro q hq hqb
    show jF _ _ q s = _
    unfold jF
    by_cases e : q = s
    · subst e; rw [if_pos rfl, if_pos rfl]
    · rw [if_neg (fun h => e h.symm), if_neg e]
      obtain ⟨r1, r2, hr, _, _, _, _, _, _, t1, t2⟩ := told_from (judgeH (N4 x N q) (B4 x N q)) s q s hq hs e
      rw [hr, t1, t2]
      rfl
theorem masks (v : Nat → Int) (b : Nat → Bool) (g bad : Int) (hv : ∀ s : Nat, s < 4 → ¬ (s : Int) = bad → v s = g) (hb : ∀ s : Nat, s < 4 → ¬ (s : Int) = bad → b s = true) :
    Vt.val (Vt.VL (v 0) (v 1) (v 2) (v 3) (b 0) (b 1) (b 2) (b 3)) = g ∧ Vt.strong (Vt.VL (v 0) (v 1) (v 2) (v 3) (b 0) (b 1) (b 2) (b 3)) = true ∧ ∀ s, s < 4 → Vt.agree (Vt.VL (v 0) (v 1) (v 2) (v 3) (b 0) (b 1) (b 2) (b 3)) (v s) = (v s == g) := by
  have key : ∀ (j : Nat), j < 4 → (∀ s : Nat, s < 4 → s ≠ j → v s = g) → (∀ s : Nat, s < 4 → s ≠ j → b s = true) → Vt.val (Vt.VL (v 0) (v 1) (v 2) (v 3) (b 0) (b 1) (b 2) (b 3)) = g ∧ Vt.strong (Vt.VL (v 0) (v 1) (v 2) (v 3) (b 0) (b 1) (b 2) (b 3)) = true ∧ ∀ s, s < 4 → Vt.agree (Vt.VL (v 0) (v 1) (v 2) (v 3) (b 0) (b 1) (b 2) (b 3)) (v s) = (v s == g) := by
    intro j hj h1 h2
    have hj' : j = 0 ∨ j = 1 ∨ j = 2 ∨ j = 3 := by omega
    rcases hj' with rfl | rfl | rfl | rfl
    · rw [h1 1 (by omega) (by omega), h1 2 (by omega) (by omega), h1 3 (by omega) (by omega), h2 1 (by omega) (by omega), h2 2 (by omega) (by omega), h2 3 (by omega) (by omega)]
      generalize hl : v 0 = lie
      generalize b 0 = b0
      have hx : Vt.val (Vt.VL lie g g g b0 true true true) = g ∧ Vt.strong (Vt.VL lie g g g b0 true true true) = true ∧ Vt.agree (Vt.VL lie g g g b0 true true true) g = true ∧ Vt.agree (Vt.VL lie g g g b0 true true true) lie = (lie == g) := by
        by_cases h : lie = g
        · subst h
          cases b0 <;> simp [Vt.val, Vt.bst, Vt.cnt, Vt.VL, Vt.strong, Vt.best, Vt.agree, Vt.tot]
        · have h' : ¬ g = lie := fun e => h e.symm
          cases b0 <;> simp [Vt.val, Vt.bst, Vt.cnt, Vt.VL, Vt.strong, Vt.best, Vt.agree, Vt.tot, h, h']
      refine ⟨hx.1, hx.2.1, fun s hs => ?_⟩
      by_cases e : s = 0
      · subst e; rw [hl]; exact hx.2.2.2
      · rw [h1 s hs e]; simpa using hx.2.2.1
    · rw [h1 0 (by omega) (by omega), h1 2 (by omega) (by omega), h1 3 (by omega) (by omega), h2 0 (by omega) (by omega), h2 2 (by omega) (by omega), h2 3 (by omega) (by omega)]
      generalize hl : v 1 = lie
      generalize b 1 = b0
      have hx : Vt.val (Vt.VL g lie g g true b0 true true) = g ∧ Vt.strong (Vt.VL g lie g g true b0 true true) = true ∧ Vt.agree (Vt.VL g lie g g true b0 true true) g = true ∧ Vt.agree (Vt.VL g lie g g true b0 true true) lie = (lie == g) := by
        by_cases h : lie = g
        · subst h
          cases b0 <;> simp [Vt.val, Vt.bst, Vt.cnt, Vt.VL, Vt.strong, Vt.best, Vt.agree, Vt.tot]
        · have h' : ¬ g = lie := fun e => h e.symm
          cases b0 <;> simp [Vt.val, Vt.bst, Vt.cnt, Vt.VL, Vt.strong, Vt.best, Vt.agree, Vt.tot, h, h']
      refine ⟨hx.1, hx.2.1, fun s hs => ?_⟩
      by_cases e : s = 1
      · subst e; rw [hl]; exact hx.2.2.2
      · rw [h1 s hs e]; simpa using hx.2.2.1
    · rw [h1 0 (by omega) (by omega), h1 1 (by omega) (by omega), h1 3 (by omega) (by omega), h2 0 (by omega) (by omega), h2 1 (by omega) (by omega), h2 3 (by omega) (by omega)]
      generalize hl : v 2 = lie
      generalize b 2 = b0
      have hx : Vt.val (Vt.VL g g lie g true true b0 true) = g ∧ Vt.strong (Vt.VL g g lie g true true b0 true) = true ∧ Vt.agree (Vt.VL g g lie g true true b0 true) g = true ∧ Vt.agree (Vt.VL g g lie g true true b0 true) lie = (lie == g) := by
        by_cases h : lie = g
        · subst h
          cases b0 <;> simp [Vt.val, Vt.bst, Vt.cnt, Vt.VL, Vt.strong, Vt.best, Vt.agree, Vt.tot]
        · have h' : ¬ g = lie := fun e => h e.symm
          cases b0 <;> simp [Vt.val, Vt.bst, Vt.cnt, Vt.VL, Vt.strong, Vt.best, Vt.agree, Vt.tot, h, h']
      refine ⟨hx.1, hx.2.1, fun s hs => ?_⟩
      by_cases e : s = 2
      · subst e; rw [hl]; exact hx.2.2.2
      · rw [h1 s hs e]; simpa using hx.2.2.1
    · rw [h1 0 (by omega) (by omega), h1 1 (by omega) (by omega), h1 2 (by omega) (by omega), h2 0 (by omega) (by omega), h2 1 (by omega) (by omega), h2 2 (by omega) (by omega)]
      generalize hl : v 3 = lie
      generalize b 3 = b0
      have hx : Vt.val (Vt.VL g g g lie true true true b0) = g ∧ Vt.strong (Vt.VL g g g lie true true true b0) = true ∧ Vt.agree (Vt.VL g g g lie true true true b0) g = true ∧ Vt.agree (Vt.VL g g g lie true true true b0) lie = (lie == g) := by
        by_cases h : lie = g
        · subst h
          cases b0 <;> simp [Vt.val, Vt.bst, Vt.cnt, Vt.VL, Vt.strong, Vt.best, Vt.agree, Vt.tot]
        · have h' : ¬ g = lie := fun e => h e.symm
          cases b0 <;> simp [Vt.val, Vt.bst, Vt.cnt, Vt.VL, Vt.strong, Vt.best, Vt.agree, Vt.tot, h, h']
      refine ⟨hx.1, hx.2.1, fun s hs => ?_⟩
      by_cases e : s = 3
      · subst e; rw [hl]; exact hx.2.2.2
      · rw [h1 s hs e]; simpa using hx.2.2.1
  by_cases hj : ∃ j : Nat, j < 4 ∧ (j : Int) = bad
  · obtain ⟨j, hj, he⟩ := hj
    exact key j hj (fun s hs hn => hv s hs (by omega)) (fun s hs hn => hb s hs (by omega))
  · exact key 0 (by omega) (fun s hs _ => hv s hs fun e => hj ⟨s, hs, e⟩) (fun s hs _ => hb s hs fun e => hj ⟨s, hs, e⟩)
def Inn (bad : Int) (R : Rl) : Prop := Mb.Good R ∧ ∀ s : Nat, s < 4 → ¬ (s : Int) = bad → R.inn s = true ∧ R.miss s = 0
theorem stepTo_congr (R : Rl) (A B : Nat → Bool) : ∀ m, (∀ k, k < m → A k = B k) → stepTo R A m = stepTo R B m
  | 0, _ => rfl
  | m + 1, h => by unfold stepTo; rw [stepTo_congr R A B m (fun k hk => h k (by omega)), h m (by omega)]
theorem stays (R : Rl) (A : Nat → Bool) (q : Nat) (hA : A q = true) (hi : R.inn q = true) (hm : R.miss q = 0) :
    ∀ k, (stepTo R A k).1.inn q = true ∧ (stepTo R A k).1.miss q = 0
  | 0 => ⟨hi, hm⟩
  | k + 1 => by
    obtain ⟨h1, h2⟩ := stays R A q hA hi hm k
    unfold stepTo
    generalize (stepTo R A k).1 = P at *
    generalize (stepTo R A k).2 = l at *
    by_cases e : k = q
    · subst e
      rw [if_pos h1, hA]
      unfold stay1
      simp only [if_true, upd_same]
      exact ⟨h1, trivial⟩
    · have eq' : q ≠ k := fun h => e h.symm
      split
      · refine ⟨?_, ?_⟩
        · unfold stay1; split
          · exact h1
          · split
            · exact h1
            · simp only []; rw [upd_far _ _ eq']; exact h1
        · unfold stay1; split
          · simp only []; rw [upd_far _ _ eq']; exact h2
          · split <;> (simp only []; rw [upd_far _ _ eq']; exact h2)
      · refine ⟨?_, ?_⟩
        · unfold wait1; split
          · exact h1
          · split
            · exact h1
            · simp only []; rw [upd_far _ _ eq']; exact h1
        · unfold wait1; split
          · exact h2
          · split
            · exact h2
            · simp only []; rw [upd_far _ _ eq']; exact h2
theorem verd (hN : Ids x N) (hT : ∀ p q : Nat, p < 4 → q < 4 → ¬ (p : Int) = x.bad → ¬ (q : Int) = x.bad → Tw (N p) (N q)) {p : Nat} (hp : p < 4) (hb : ¬ (p : Int) = x.bad) (hI : Inn x.bad (N p).ro) :
    (N5 x N p).vv = (N5 x N p).dg ∧ (N5 x N p).vs = true ∧ (N5 x N p).dg = (N3 x N p).dg ∧ (N5 x N p).ro = (stepTo (N p).ro (fun s => JV x N p s == (N3 x N p).dg) 4).1 ∧ Inn x.bad (N5 x N p).ro := by
  have hm := masks (JV x N p) (N p).ro.inn (N3 x N p).dg x.bad
    (fun s hs hsb => ((JV_agr hN hs).1 hsb p hp hb).trans (dg_same hN hs hp hsb hb (hT s p hs hp hsb hb))) (fun s hs hsb => (hI.2 s hs hsb).1)
  have hjv : jV (N4 x N p) (judgeH (N4 x N p) (B4 x N p)) p = Vt.VL (JV x N p 0) (JV x N p 1) (JV x N p 2) (JV x N p 3) ((N p).ro.inn 0) ((N p).ro.inn 1) ((N p).ro.inn 2) ((N p).ro.inn 3) := by
    unfold jV; rw [(N4_id hb).2.2.1]; rfl
  have hro : (N5 x N p).ro = (stepTo (N p).ro (fun s => JV x N p s == (N3 x N p).dg) 4).1 := by
    rw [N5_good hb]
    unfold judgeN
    simp only []
    rw [(N4_id hb).2.2.1, if_pos hI.1]
    unfold stepAll
    rw [hjv, hm.2.1, if_pos rfl]
    rw [stepTo_congr _ (jA (N4 x N p) (judgeH (N4 x N p) (B4 x N p)) p) _ 4 fun k hk => ?_]
    show Vt.agree (jV _ _ p) (JV x N p k) = _
    rw [hjv]
    exact hm.2.2 k hk
  refine ⟨?_, ?_, ?_, hro, ?_, ?_⟩
  · rw [N5_good hb]
    show Vt.val (jV (N4 x N p) (judgeH (N4 x N p) (B4 x N p)) p) = (N4 x N p).dg
    rw [hjv, (N4_keep hb).2.2.1]
    exact hm.1
  · rw [N5_good hb]
    show Vt.strong (jV (N4 x N p) (judgeH (N4 x N p) (B4 x N p)) p) = true
    rw [hjv]
    exact hm.2.1
  · rw [N5_good hb]
    exact (N4_keep hb).2.2.1
  · rw [hro]
    exact step_good hI.1 4 (Nat.le_refl _)
  · intro s hs hsb
    rw [hro]
    refine stays _ _ s ?_ (hI.2 s hs hsb).1 (hI.2 s hs hsb).2 4
    rw [(JV_agr hN hs).1 hsb p hp hb, dg_same hN hs hp hsb hb (hT s p hs hp hsb hb)]
    simp
theorem N5_keep {p : Nat} (hb : ¬ (p : Int) = x.bad) : (N5 x N p).id = (N p).id ∧ (N5 x N p).fr = x.fr ∧ (N5 x N p).tu = (N p).tu ∧ (N5 x N p).ax = (N3 x N p).ax ∧ (N5 x N p).us = (N3 x N p).us ∧ (N5 x N p).ag = (N3 x N p).ag := by
  obtain ⟨a, b, c, d⟩ := N4_id (x := x) (N := N) hb
  obtain ⟨e, f, g, h⟩ := N4_keep (x := x) (N := N) hb
  rw [N5_good hb]
  exact ⟨a, b, d, e, f, h⟩
theorem N5_tw (hN : Ids x N) (hT : ∀ p q : Nat, p < 4 → q < 4 → ¬ (p : Int) = x.bad → ¬ (q : Int) = x.bad → Tw (N p) (N q)) {p q : Nat} (hp : p < 4) (hq : q < 4) (hpb : ¬ (p : Int) = x.bad) (hqb : ¬ (q : Int) = x.bad)
    (hIp : Inn x.bad (N p).ro) (hIq : Inn x.bad (N q).ro) : Tw (N5 x N p) (N5 x N q) := by
  obtain ⟨h1, h2, h3⟩ := N3_tw hN hp hq hpb hqb (hT p q hp hq hpb hqb)
  refine ⟨?_, ?_, ?_⟩
  · rw [(N5_keep hpb).2.2.2.1, (N5_keep hqb).2.2.2.1, h1]
  · rw [(N5_keep hpb).2.2.1, (N5_keep hqb).2.2.1]; exact (hT p q hp hq hpb hqb).2.1
  · rw [(verd hN hT hp hpb hIp).2.2.2.1, (verd hN hT hq hqb hIq).2.2.2.1, (hT p q hp hq hpb hqb).2.2]
    rw [stepTo_congr _ _ (fun s => JV x N q s == (N3 x N q).dg) 4 fun k hk => ?_]
    rw [(JV_agr hN hk).2 p q hp hq hpb hqb, dg_same hN hp hq hpb hqb (hT p q hp hq hpb hqb)]
end
end Go.Proofs.Ytofeoeknmlkjgaa.Nk
end
section
/- node.unpack: of the node only the axes and the roll change, and all stays within 64 bits. -/
set_option linter.unusedVariables false
namespace Go.Proofs.Ytofeoeknmlkjgaa.Nk
open Go.RowKit Go.Proofs.Ytofeoeknmlkjgaa Mb Fi Sm

def RollIn (R : Rl) : Prop := ∀ k, k < 4 → In64 (R.miss k) ∧ In64 (R.join k)
def Lk (n n' : Nd) : Prop := ∃ ax ro, n' = { n with ax := ax, ro := ro } ∧ ((∀ a, a < 3 → (n.ax a).In) → ∀ a, a < 3 → (ax a).In) ∧ (RollIn n.ro → RollIn ro)
theorem Lk.refl (n : Nd) : Lk n n := ⟨n.ax, n.ro, rfl, fun h => h, fun h => h⟩
def UpPost (n : Nd) (va : Value) (g : Nat) (w : World) (e : Ending) (w' : World) : Prop := ∃ (b : Bool) (n' : Nd), e = .returned (.bool b) ∧ NB w' g n' va ∧ w.grownBy w' (some g) ∧ Lk n n'
def UrRel (w : World) (gr : Nat) (iv : Value) (wr : World) : Prop := ∃ (i : Nat) (R : Rl), iv = .int .i64 i ∧ i ≤ 4 ∧ RB wr gr R ∧ RollIn R ∧ Below w.heap.size w wr
def axC (ax : Nat → St) (k : Nat) : Value := stc (ax (k / 7)) (k % 7)
def UaRel (w : World) (gr ga : Nat) (R : Rl) (iv : Value) (wr : World) : Prop := ∃ (i : Nat) (ax : Nat → St), iv = .int .i64 i ∧ i ≤ 3 ∧ Blk wr ga 34 (AN 21 (axC ax)) ∧ (∀ a, a < 3 → (ax a).In) ∧ RB wr gr R ∧ Below w.heap.size w wr

theorem AN_getD0 {m : Nat} {f : Nat → Value} {j : Nat} (hj : j < m) : (AN m f).toList.getD j undef = f j := by
  simp only [List.getD, Array.getElem?_toList]
  rw [AN_get hj]; rfl
theorem rollin_put {R : Rl} {k : Nat} {b : Bool} {x y : Int} (h : RollIn R) (hx : In64 x) (hy : In64 y) : RollIn ⟨upd R.inn k b, upd R.miss k x, upd R.join k y⟩ := by
  intro j hj
  by_cases e : j = k
  · subst e
    exact ⟨by show In64 (upd R.miss j x j); rw [upd_same]; exact hx, by show In64 (upd R.join j y j); rw [upd_same]; exact hy⟩
  · exact ⟨by show In64 (upd R.miss k x j); rw [upd_far _ _ e]; exact (h j hj).1, by show In64 (upd R.join k y j); rw [upd_far _ _ e]; exact (h j hj).2⟩
theorem UrRel.put {w wr : World} {gr i : Nat} {R : Rl} {b : Bool} {x y : Int} {iv : Value} (hi : i < 4) (hiv : iv = .int .i64 ((i + 1 : Nat) : Int)) (h : RB wr gr R) (hRI : RollIn R) (hB : Below w.heap.size w wr) (hgr : w.heap.size ≤ gr) (hx : In64 x) (hy : In64 y) :
    UrRel w gr iv (((wr.setCell ⟨gr, i, none⟩ (.bool b)).setCell ⟨gr, 4 + i, none⟩ (.int .i64 x)).setCell ⟨gr, 8 + i, none⟩ (.int .i64 y)) :=
  ⟨i + 1, _, hiv, hi, ((h.setInn hi b).setMiss hi x).setJoin hi y, rollin_put hRI hx hy, ((hB.setCell (p := ⟨gr, i, none⟩) hgr _).setCell (p := ⟨gr, 4 + i, none⟩) hgr _).setCell (p := ⟨gr, 8 + i, none⟩) hgr _⟩
theorem UpPost.keep {n : Nd} {va : Value} {g : Nat} {w w' : World} (h : NB w g n va) (hb : Below w.heap.size w w') (b : Bool) : UpPost n va g w (.returned (.bool b)) w' := ⟨b, n, rfl, h.next hb, grown_below hb, Lk.refl n⟩
theorem axC_zero (n : Nd) : (axL n).toArray = AN 21 (axC n.ax) := rfl
theorem axC_put {W : World} {q i : Nat} {ax : Nat → St} (h : Blk W q 34 (AN 21 (axC ax))) (hi : i < 3) (s : St) : Blk (W.setCells q (i * 7) (stL s)) q 34 (AN 21 (axC (upd ax i s))) := by
  have := blk_setCells_AN (o := i * 7) (vs := stL s) h
  rw [AN_congr (g := axC (upd ax i s))] at this
  · exact this
  · intro k hk
    have hl : (stL s).length = 7 := rfl
    rw [hl]
    by_cases a : i * 7 ≤ k ∧ k < i * 7 + 7
    · rw [if_pos a]
      unfold axC
      rw [show k / 7 = i by omega, upd_same, show k % 7 = k - i * 7 by omega]
      simp only [List.getD]
      rw [stL_get s (k - i * 7) (by omega)]; rfl
    · rw [if_neg a]
      unfold axC
      rw [upd_far _ _ (by omega)]
theorem axC_there {W : World} {q o k : Nat} {ax : Nat → St} (h : Blk W q 34 (AN 21 (axC ax))) (hk : o + k ≤ 21) : W.there q o k := fun j hj => by
  have := Blk.cell h (o + j)
  rw [this, AN_get (by omega)]
  exact ⟨rfl, Blk.frozen h _⟩
theorem UaRel.put {w wr : World} {gr q8 a : Nat} {R : Rl} {ax : Nat → St} {s : St} {iv : Value} (ha : a < 3) (hiv : iv = .int .i64 ((a + 1 : Nat) : Int)) (hA : Blk wr q8 34 (AN 21 (axC ax))) (hAI : ∀ a, a < 3 → (ax a).In) (hR : RB wr gr R) (hB : Below w.heap.size w wr) (hs : s.In) (hq : w.heap.size ≤ q8) (hne : gr ≠ q8) :
    UaRel w gr q8 R iv (wr.setCells q8 (a * 7) (stL s)) := by
  have hg := grown_setCells q8 (stL s) (a * 7) wr
  refine ⟨a + 1, upd ax a s, hiv, ha, axC_put hA ha s, fun j hj => ?_, Blk.grown hR hg (by intro e; exact hne (Option.some.inj e)), hB.grown hg hB.size (fun j hj => by cases hj; exact hq)⟩
  by_cases e : j = a
  · subst e; rw [upd_same]; exact hs
  · rw [upd_far _ _ e]; exact hAI j hj
theorem axC_one (ax : Nat → St) : (AN 21 (axC ax)).all (·.oneCell') = true := AN_one fun i hi => stc_one _ _
theorem axL_one' (n : Nd) : ((axL n).toArray).all (·.oneCell') = true := by rw [axC_zero]; exact axC_one _
theorem he_axs (n : Nd) (va : Value) (ax : Nat → St) : ∀ i, i < 74 → ({ n with ax := ax } : Nd).c va i = if 6 ≤ i ∧ i < 6 + (AN 21 (axC ax)).toList.length then (AN 21 (axC ax)).toList.getD (i - 6) undef else n.c va i := by
  intro i hi
  rw [Array.length_toList, AN_size]
  by_cases h : 6 ≤ i ∧ i < 6 + 21
  · rw [if_pos h, c_ax h.1 (by omega), AN_getD0 (by omega)]; rfl
  · rw [if_neg h]; exact c_ax_out n ax va i (by omega)
set_option maxRecDepth 100000 in
set_option maxHeartbeats 4000000 in
theorem unpack_any (n : Nd) (va : Value) (g : Nat) (A : Option Addr) (c : Nat) (l : List Int) (w : World) (hN : NB w g n va) (hnc : 24 ≤ c) (hI : Ints w .i64 A 24 l) (hl : ∀ z ∈ l, In64 z) (hin : ∀ a, a < 3 → (n.ax a).In) :
    Calls Try.prog 63 #[.pointer (some ⟨g, 0, none⟩), .slice A 24 c] w (UpPost n va g w) := by
  obtain ⟨b, off, rfl, hlt, hc⟩ := hI.2 (by omega)
  have hN0 := Lib.hid hN
  have HC := Lib.hid (fun W (hb : Below w.heap.size w W) j (hj : j < 24) => (hb.cell (p := ⟨b, off + j, none⟩) hlt).trans (hc j hj))
  have hR : RB (w.alloc (.cells (rollC R0) 38)) w.heap.size R0 := Blk.new _ _ _
  have HR := Lib.hid hR
  have HII := Lib.hid hI
  have hB1 : Below w.heap.size w (w.alloc (.cells (rollC R0) 38)) := (Below.refl _ _).alloc (Nat.le_refl _) _
  have HB1 := Lib.hid hB1
  have c21 := fun o => HC.out _ ((Below.refl w.heap.size w).alloc (Nat.le_refl _) o) 21 (by omega)
  have c22 := fun o => HC.out _ ((Below.refl w.heap.size w).alloc (Nat.le_refl _) o) 22 (by omega)
  have c23 := fun o => HC.out _ ((Below.refl w.heap.size w).alloc (Nat.le_refl _) o) 23 (by omega)
  have HIN := Lib.hid hin
  have HL := Lib.hid hl
  have hli : ∀ j, In64 (l.getD j 0) := fun j => getD_in zero64 hl j
  have HLI := Lib.hid hli
  clear hN hI hc hR hB1 hl hin hli
  obtain ⟨z1, ez1⟩ : ∃ z, l.getD 21 0 = z := ⟨_, rfl⟩
  obtain ⟨z2, ez2⟩ : ∃ z, l.getD 22 0 = z := ⟨_, rfl⟩
  obtain ⟨z3, ez3⟩ : ∃ z, l.getD 23 0 = z := ⟨_, rfl⟩
  simp only [ez1] at c21
  simp only [ez2] at c22
  simp only [ez3] at c23
  have EZ1 := Lib.hid ez1
  have EZ2 := Lib.hid ez2
  have EZ3 := Lib.hid ez3
  clear ez1 ez2 ez3
  go_enter Try.func63, Try.ntmps63
  have hng := Blk.lt hN0.out
  go_upto_region 3 with fail
  cases b1 : (z1 / 16 != 0) with
  | true =>
    go_wp2_with (first | go_big_skip)
    go_ret
    exact UpPost.keep hN0.out HB1.out false
  | false =>
    cases b2 : (z2 / 4096 != 0) with
    | true =>
      go_wp2_with (first | go_big_skip)
      go_ret
      exact UpPost.keep hN0.out HB1.out false
    | false =>
      cases b3 : (z3 / 4096 != 0) with
      | true =>
        go_wp2_with (first | go_big_skip)
        go_ret
        exact UpPost.keep hN0.out HB1.out false
      | false =>
        go_upto_region 6 with fail
        have hS : Hid (UrRel w w.heap.size (.int .i64 0) (w.alloc (.cells (rollC R0) 38))) := ⟨0, R0, rfl, by omega, HR.out, fun k hk => ⟨zero64, zero64⟩, HB1.out⟩
        clear c21 c22 c23 HR b1 b2 b3
        go_loopw [38] (fun iv wr => UrRel w w.heap.size iv wr) (fun iv _ => 4 - (intOf iv).toNat)
        case atStart => exact hS.out
        case round =>
          clear hS
          obtain ⟨i, R, rfl, hi4, hR, hRI, hB⟩ := hrel
          have HB := Lib.hid hB
          have HRI := Lib.hid hRI
          have HR := Lib.hid hR
          by_cases hi : i < 4
          · have c21 := HC.out _ hB 21 (by omega)
            have c22 := HC.out _ hB 22 (by omega)
            have c23 := HC.out _ hB 23 (by omega)
            rw [EZ1.out] at c21
            rw [EZ2.out] at c22
            rw [EZ3.out] at c23
            have k0 := Blk.cell hR 0
            have k1 := Blk.cell hR 1
            have k2 := Blk.cell hR 2
            have k3 := Blk.cell hR 3
            have k4 := Blk.cell hR 4
            have k5 := Blk.cell hR 5
            have k6 := Blk.cell hR 6
            have k7 := Blk.cell hR 7
            have k8 := Blk.cell hR 8
            have k9 := Blk.cell hR 9
            have k10 := Blk.cell hR 10
            have k11 := Blk.cell hR 11
            (simp only [rollC, List.getElem?_toArray, List.getElem?_cons_zero, List.getElem?_cons_succ] at k0 k1 k2 k3 k4 k5 k6 k7 k8 k9 k10 k11)
            have kf := fun o => Blk.frozen hR o
            clear hB hRI hR
            have hcase : i = 0 ∨ i = 1 ∨ i = 2 ∨ i = 3 := by omega
            rcases hcase with rfl | rfl | rfl | rfl
            · go_wp2_with fail
              go_roundw
              case rel =>
                exact UrRel.put (i := 0) (by decide) rfl HR.out HRI.out HB.out (Nat.le_refl _) (bits64_in _ _ _) (bits64_in _ _ _)
              case measure => simp [intOf]
            · go_wp2_with fail
              go_roundw
              case rel =>
                exact UrRel.put (i := 1) (by decide) rfl HR.out HRI.out HB.out (Nat.le_refl _) (bits64_in _ _ _) (bits64_in _ _ _)
              case measure => simp [intOf]
            · go_wp2_with fail
              go_roundw
              case rel =>
                exact UrRel.put (i := 2) (by decide) rfl HR.out HRI.out HB.out (Nat.le_refl _) (bits64_in _ _ _) (bits64_in _ _ _)
              case measure => simp [intOf]
            · go_wp2_with fail
              go_roundw
              case rel =>
                exact UrRel.put (i := 3) (by decide) rfl HR.out HRI.out HB.out (Nat.le_refl _) (bits64_in _ _ _) (bits64_in _ _ _)
              case measure => simp [intOf]
          · obtain rfl : i = 4 := by omega
            clear hB hRI hR
            by_cases hgd : Mb.Good R
            · have KG := Lib.hid ((good_any R wr).mono fun e w' (h : SaysGood R wr e w') => show e = .returned (.bool true) ∧ Below wr.heap.size wr w' from by obtain ⟨b, he, hb, hB⟩ := h; rw [hb.2 hgd] at he; exact ⟨he, hB⟩)
              clear hgd
              have hb0 := HB.out
              have HNw := Lib.hid (hN0.out.next hb0)
              go_upto_region 16 with (first
                | (refine wpList_load_at 38 (.tmp 5) rfl rfl w.heap.size rfl _ (rollC R) _ HR.out Try.underlying38 rfl info12r ?_)
                | (go_at_call 14; (with_reducible refine KG.out.mono ?_); rintro e w3 ⟨rfl, hb2⟩; have HB2 := Lib.hid hb2; clear hb2)
                | (refine wpList_load_mid rfl 34 (.tmp 87) rfl g 6 rfl (axL n) _ (HNw.out.next HB2.out).axR Try.underlying34 rfl info21 ?_)
                | (refine wpList_store_at 34 (.tmp 8) (.tmp 88) rfl rfl w3.heap.size _ _ (axL n).toArray rfl rfl (Blk.new _ _ _) rfl info21 (axL_one' n) ?_; intro w5 hN5 hg5; have HN5 := Lib.hid hN5; have HG5 := Lib.hid hg5; clear hN5 hg5))
              have hs3 : wr.heap.size ≤ w3.heap.size := HB2.out.size
              have hws := hb0.size
              have hgr0 : w.heap.size < wr.heap.size := Blk.lt HR.out
              have hb3 : Below w.heap.size w w3 := hb0.trans (HB2.out.mono hws)
              have hb5 : Below w.heap.size w w5 := (hb3.alloc hb3.size _).grown HG5.out (by simp; omega) (fun j hj => by cases hj; omega)
              have hr5 : RB w5 w.heap.size R := Blk.grown ((Blk.next HR.out HB2.out).alloc _) HG5.out (by intro e; have := Option.some.inj e; omega)
              rw [axC_zero] at HN5
              have hS2 : Hid (UaRel w w.heap.size w3.heap.size R (.int .i64 0) w5) := ⟨0, n.ax, rfl, by omega, HN5.out, HIN.out, hr5, hb5⟩
              have hq8 : w.heap.size < w3.heap.size := by omega
              obtain ⟨q8, hq8e⟩ : ∃ q8, w3.heap.size = q8 := ⟨_, rfl⟩
              rw [hq8e] at hS2 hq8 ⊢
              have HRI2 := Lib.hid HRI.out
              clear hs3 hws hgr0 hb3 hb5 hr5 HN5 HG5 HB2 KG HNw hb0 HR HB HRI hq8e
              go_loopw [89] (fun iv wr => UaRel w w.heap.size q8 R iv wr) (fun iv _ => 3 - (intOf iv).toNat)
              case atStart => exact hS2.out
              case round =>
                clear hS2
                obtain ⟨a, ax, rfl, ha3, hA, hAI, hR, hB⟩ := hrel
                have HA := Lib.hid hA
                have HAI := Lib.hid hAI
                have HR := Lib.hid hR
                have HB := Lib.hid hB
                have hi24 := HII.out.next hB
                clear hA hAI hR hB
                by_cases ha : a < 3
                · obtain ⟨i0, hi0, hz0, hz1, hz2⟩ := info_parts infoInt4
                  obtain ⟨A', hcut, hAn, hI7⟩ := cut_from (kd := .i64) (k := 7 * a) (c := c) Try.underlying58 hi0 hz1 hi24 (fun e => by cases e) (by omega) hnc
                  obtain ⟨b', off', rfl, hlt', hc'⟩ := hI7.2 (by omega)
                  have hcut' : ∀ W : World, (Instr.slice 58 (.slice (some ⟨b, off, none⟩) 24 c) (some (.int .i64 (7 * (a : Int)))) none none).run Try.prog W = .ok (.slice (some ⟨b', off', none⟩) (24 - 7 * a) (c - 7 * a)) W := fun W => by have h := hcut W; rw [show ((7 * a : Nat) : Int) = 7 * (a : Int) by omega] at h; exact h
                  have hpin : ∀ j, In64 ((l.drop (7 * a)).getD j 0) := fun j => getD_in zero64 (fun z hz => HL.out z (List.mem_of_mem_drop hz)) j
                  have HPIN := Lib.hid hpin
                  have HC' := Lib.hid hc'
                  obtain ⟨nl, hnl⟩ : ∃ nl, nl = 24 - 7 * a := ⟨_, rfl⟩
                  have hnl3 : 10 ≤ nl := by omega
                  rw [← hnl] at hcut'
                  clear hnl
                  have n0 : 0 < nl := by omega
                  have n1 : (1 : Int) < (nl : Int) := by omega
                  have n2 : (2 : Int) < (nl : Int) := by omega
                  have n3 : (3 : Int) < (nl : Int) := by omega
                  have n4 : (4 : Int) < (nl : Int) := by omega
                  have y0 := hc' 0 (by omega)
                  have y1 := hc' 1 (by omega)
                  have y2 := hc' 2 (by omega)
                  have y3 := hc' 3 (by omega)
                  have y4 := hc' 4 (by omega)
                  have y5 := hc' 5 (by omega)
                  have y6 := hc' 6 (by omega)
                  clear hcut hAn hI7 hc' hpin hi24
                  have q0 : (a : Int) < 3 := by omega
                  have q1 : (0 : Int) ≤ (a : Int) := by omega
                  have q2 : (5 : Int) < (nl : Int) := by omega
                  have q3 : (6 : Int) < (nl : Int) := by omega
                  obtain ⟨p, hp⟩ : ∃ p : Nat → Int, p = fun j => (l.drop (7 * a)).getD j 0 := ⟨_, rfl⟩
                  have hpj : ∀ j, (l.drop (7 * a)).getD j 0 = p j := fun j => by rw [hp]
                  simp only [hpj] at y0 y1 y2 y3 y4 y5 y6 HPIN
                  clear hp hpj HC'
                  simp only [Nat.add_zero] at y0
                  have HY0 := Lib.hid (fun W (h : Below wr.heap.size wr W) => (h.cell (p := ⟨b', off', none⟩) hlt').trans y0)
                  have HY1 := Lib.hid (fun W (h : Below wr.heap.size wr W) => (h.cell (p := ⟨b', off' + 1, none⟩) hlt').trans y1)
                  have HY2 := Lib.hid (fun W (h : Below wr.heap.size wr W) => (h.cell (p := ⟨b', off' + 2, none⟩) hlt').trans y2)
                  have HY3 := Lib.hid (fun W (h : Below wr.heap.size wr W) => (h.cell (p := ⟨b', off' + 3, none⟩) hlt').trans y3)
                  have HY4 := Lib.hid (fun W (h : Below wr.heap.size wr W) => (h.cell (p := ⟨b', off' + 4, none⟩) hlt').trans y4)
                  have HY5 := Lib.hid (fun W (h : Below wr.heap.size wr W) => (h.cell (p := ⟨b', off' + 5, none⟩) hlt').trans y5)
                  have HY6 := Lib.hid (fun W (h : Below wr.heap.size wr W) => (h.cell (p := ⟨b', off' + 6, none⟩) hlt').trans y6)
                  cases c0 : (p 5 != 0) with
                  | false =>
                    go_upto_region 21 with (first | go_big_skip)
                    have HB3 := Lib.hid (Below.refl wr.heap.size wr)
                    refine wp_region_G 25 (fun w' => Below wr.heap.size wr w') (by kernel_rfl) ((Below.refl _ _).drew) (fun hS => ?_)
                    refine wpG 0 ?_ rfl (by kernel_rfl) (fun _ _ _ h => h) (by rfl) (fun wx => ?_) hS ?_
                    rotate_left
                    · go_simp; (try with_reducible rfl)
                    try simp only [pts]
                    refine wpG 1 ?_ rfl (by kernel_rfl) (fun _ _ _ h => h) (by rfl) (fun wx => ?_) hS ?_
                    rotate_left
                    · go_simp; (try with_reducible rfl)
                    try simp only [pts]
                    refine wpG 2 ?_ rfl (by kernel_rfl) (fun _ _ _ h => h) (by rfl) (fun wx => ?_) hS ?_
                    rotate_left
                    · go_simp; (try with_reducible rfl)
                    try simp only [pts]
                    refine wpT 3 ?_ rfl (by kernel_rfl) (fun _ _ _ h => h) (Or.inl ⟨by rfl, fun wx hSw => ?_⟩) hS ?_
                    rotate_left
                    · have hq := HY0.out _ hSw; (try dsimp only at hSw); go_simp; (try with_reducible rfl)
                    try simp only [pts]
                    refine wpG 4 ?_ rfl (by kernel_rfl) (fun _ _ _ h => h) (by rfl) (fun wx => ?_) hS ?_
                    rotate_left
                    · go_simp; (try with_reducible rfl)
                    try simp only [pts]
                    refine wpG 5 ?_ rfl (by kernel_rfl) (fun _ _ _ h => h) (by rfl) (fun wx => ?_) hS ?_
                    rotate_left
                    · go_simp; (try with_reducible rfl)
                    try simp only [pts]
                    refine wpT 6 ?_ rfl (by kernel_rfl) (fun _ _ _ h => h) (Or.inl ⟨by rfl, fun wx hSw => ?_⟩) hS ?_
                    rotate_left
                    · have hq := HY1.out _ hSw; (try dsimp only at hSw); go_simp; (try with_reducible rfl)
                    try simp only [pts]
                    refine wpG 7 ?_ rfl (by kernel_rfl) (fun _ _ _ h => h) (by rfl) (fun wx => ?_) hS ?_
                    rotate_left
                    · go_simp; (try with_reducible rfl)
                    try simp only [pts]
                    refine wpG 8 ?_ rfl (by kernel_rfl) (fun _ _ _ h => h) (by rfl) (fun wx => ?_) hS ?_
                    rotate_left
                    · go_simp; (try with_reducible rfl)
                    try simp only [pts]
                    refine wpT 9 ?_ rfl (by kernel_rfl) (fun _ _ _ h => h) (Or.inl ⟨by rfl, fun wx hSw => ?_⟩) hS ?_
                    rotate_left
                    · have hq := HY2.out _ hSw; (try dsimp only at hSw); go_simp; (try with_reducible rfl)
                    try simp only [pts]
                    refine wpG 10 ?_ rfl (by kernel_rfl) (fun _ _ _ h => h) (by rfl) (fun wx => ?_) hS ?_
                    rotate_left
                    · go_simp; (try with_reducible rfl)
                    try simp only [pts]
                    refine wpG 11 ?_ rfl (by kernel_rfl) (fun _ _ _ h => h) (by rfl) (fun wx => ?_) hS ?_
                    rotate_left
                    · go_simp; (try with_reducible rfl)
                    try simp only [pts]
                    refine wpT 12 ?_ rfl (by kernel_rfl) (fun _ _ _ h => h) (Or.inl ⟨by rfl, fun wx hSw => ?_⟩) hS ?_
                    rotate_left
                    · have hq := HY3.out _ hSw; (try dsimp only at hSw); go_simp; (try with_reducible rfl)
                    try simp only [pts]
                    refine wpG 13 ?_ rfl (by kernel_rfl) (fun _ _ _ h => h) (by rfl) (fun wx => ?_) hS ?_
                    rotate_left
                    · go_simp; (try with_reducible rfl)
                    try simp only [pts]
                    refine wpG 14 ?_ rfl (by kernel_rfl) (fun _ _ _ h => h) (by rfl) (fun wx => ?_) hS ?_
                    rotate_left
                    · go_simp; (try with_reducible rfl)
                    try simp only [pts]
                    refine wpT 15 ?_ rfl (by kernel_rfl) (fun _ _ _ h => h) (Or.inl ⟨by rfl, fun wx hSw => ?_⟩) hS ?_
                    rotate_left
                    · have hq := HY4.out _ hSw; (try dsimp only at hSw); go_simp; (try with_reducible rfl)
                    try simp only [pts]
                    refine wpG 16 ?_ rfl (by kernel_rfl) (fun _ _ _ h => h) (by rfl) (fun wx => ?_) hS ?_
                    rotate_left
                    · go_simp; (try with_reducible rfl)
                    try simp only [pts]
                    refine wpG 17 ?_ rfl (by kernel_rfl) (fun _ _ _ h => h) (by rfl) (fun wx => ?_) hS ?_
                    rotate_left
                    · go_simp; (try with_reducible rfl)
                    try simp only [pts]
                    refine wpT 18 ?_ rfl (by kernel_rfl) (fun _ _ _ h => h) (Or.inl ⟨by rfl, fun wx hSw => ?_⟩) hS ?_
                    rotate_left
                    · have hq := HY5.out _ hSw; (try dsimp only at hSw); go_simp; (try with_reducible rfl)
                    try simp only [pts]
                    refine wpG 19 ?_ rfl (by kernel_rfl) (fun _ _ _ h => h) (by rfl) (fun wx => ?_) hS ?_
                    rotate_left
                    · go_simp; (try with_reducible rfl)
                    try simp only [pts]
                    refine wpG 20 ?_ rfl (by kernel_rfl) (fun _ _ _ h => h) (by rfl) (fun wx => ?_) hS ?_
                    rotate_left
                    · go_simp; (try with_reducible rfl)
                    try simp only [pts]
                    refine wpG 21 ?_ rfl (by kernel_rfl) (fun _ _ _ h => h) (by rfl) (fun wx => ?_) hS ?_
                    rotate_left
                    · go_simp; (try with_reducible rfl)
                    try simp only [pts]
                    refine wpT 22 ?_ rfl (by kernel_rfl) (fun _ _ _ h => h) (Or.inl ⟨by rfl, fun wx hSw => ?_⟩) hS ?_
                    rotate_left
                    · have hq := HY6.out _ hSw; (try dsimp only at hSw); go_simp; (try with_reducible rfl)
                    try simp only [pts]
                    refine wpG 23 ?_ rfl (by kernel_rfl) (fun _ _ _ h => h) (by rfl) (fun wx => ?_) hS ?_
                    rotate_left
                    · go_simp; (try with_reducible rfl)
                    try simp only [pts]
                    refine wpG 24 ?_ rfl (by kernel_rfl) (fun _ _ _ h => h) (by rfl) (fun wx => ?_) hS ?_
                    rotate_left
                    · go_simp; (try with_reducible rfl)
                    try simp only [pts]
                    refine wpAnyG_last rfl (by kernel_rfl) (by kernel_rfl) (by kernel_rfl) (fun K hK => ?_)
                    rw [if_pos (by rfl)]
                    refine wp_store_mid 33 (.tmp 130) (.tmp 129) rfl q8 (a * 7) (stL (⟨p 0, p 1, p 2, p 3, p 4, (p 5 == 1), p 6⟩ : St)).toArray rfl rfl (axC_there (HA.out.next hS) (by show a * 7 + 7 ≤ 21; omega)) info7 (stL_one _) ?_
                    refine hK.out _ _ ?_
                    clear hK K
                    try simp only [pts]
                    have HBS := Lib.hid hS
                    clear hS
                    go_wp2_with fail
                    go_roundw
                    case rel => exact UaRel.put (s := (⟨p 0, p 1, p 2, p 3, p 4, (p 5 == 1), p 6⟩ : St)) ha (by go_num) (HA.out.next HBS.out) HAI.out (RB.next HR.out HBS.out) (HB.out.trans (HBS.out.mono HB.out.size)) ⟨HPIN.out 0, HPIN.out 1, HPIN.out 2, HPIN.out 3, HPIN.out 4, HPIN.out 6⟩ (by omega) (by omega)
                    case measure => simp [intOf]; omega
                  | true =>
                    cases c1 : (p 5 != 1) with
                    | false =>
                      go_upto_region 21 with (first | go_big_skip)
                      have HB3 := Lib.hid (Below.refl wr.heap.size wr)
                      refine wp_region_G 25 (fun w' => Below wr.heap.size wr w') (by kernel_rfl) ((Below.refl _ _).drew) (fun hS => ?_)
                      refine wpG 0 ?_ rfl (by kernel_rfl) (fun _ _ _ h => h) (by rfl) (fun wx => ?_) hS ?_
                      rotate_left
                      · go_simp; (try with_reducible rfl)
                      try simp only [pts]
                      refine wpG 1 ?_ rfl (by kernel_rfl) (fun _ _ _ h => h) (by rfl) (fun wx => ?_) hS ?_
                      rotate_left
                      · go_simp; (try with_reducible rfl)
                      try simp only [pts]
                      refine wpG 2 ?_ rfl (by kernel_rfl) (fun _ _ _ h => h) (by rfl) (fun wx => ?_) hS ?_
                      rotate_left
                      · go_simp; (try with_reducible rfl)
                      try simp only [pts]
                      refine wpT 3 ?_ rfl (by kernel_rfl) (fun _ _ _ h => h) (Or.inl ⟨by rfl, fun wx hSw => ?_⟩) hS ?_
                      rotate_left
                      · have hq := HY0.out _ hSw; (try dsimp only at hSw); go_simp; (try with_reducible rfl)
                      try simp only [pts]
                      refine wpG 4 ?_ rfl (by kernel_rfl) (fun _ _ _ h => h) (by rfl) (fun wx => ?_) hS ?_
                      rotate_left
                      · go_simp; (try with_reducible rfl)
                      try simp only [pts]
                      refine wpG 5 ?_ rfl (by kernel_rfl) (fun _ _ _ h => h) (by rfl) (fun wx => ?_) hS ?_
                      rotate_left
                      · go_simp; (try with_reducible rfl)
                      try simp only [pts]
                      refine wpT 6 ?_ rfl (by kernel_rfl) (fun _ _ _ h => h) (Or.inl ⟨by rfl, fun wx hSw => ?_⟩) hS ?_
                      rotate_left
                      · have hq := HY1.out _ hSw; (try dsimp only at hSw); go_simp; (try with_reducible rfl)
                      try simp only [pts]
                      refine wpG 7 ?_ rfl (by kernel_rfl) (fun _ _ _ h => h) (by rfl) (fun wx => ?_) hS ?_
                      rotate_left
                      · go_simp; (try with_reducible rfl)
                      try simp only [pts]
                      refine wpG 8 ?_ rfl (by kernel_rfl) (fun _ _ _ h => h) (by rfl) (fun wx => ?_) hS ?_
                      rotate_left
                      · go_simp; (try with_reducible rfl)
                      try simp only [pts]
                      refine wpT 9 ?_ rfl (by kernel_rfl) (fun _ _ _ h => h) (Or.inl ⟨by rfl, fun wx hSw => ?_⟩) hS ?_
                      rotate_left
                      · have hq := HY2.out _ hSw; (try dsimp only at hSw); go_simp; (try with_reducible rfl)
                      try simp only [pts]
                      refine wpG 10 ?_ rfl (by kernel_rfl) (fun _ _ _ h => h) (by rfl) (fun wx => ?_) hS ?_
                      rotate_left
                      · go_simp; (try with_reducible rfl)
                      try simp only [pts]
                      refine wpG 11 ?_ rfl (by kernel_rfl) (fun _ _ _ h => h) (by rfl) (fun wx => ?_) hS ?_
                      rotate_left
                      · go_simp; (try with_reducible rfl)
                      try simp only [pts]
                      refine wpT 12 ?_ rfl (by kernel_rfl) (fun _ _ _ h => h) (Or.inl ⟨by rfl, fun wx hSw => ?_⟩) hS ?_
                      rotate_left
                      · have hq := HY3.out _ hSw; (try dsimp only at hSw); go_simp; (try with_reducible rfl)
                      try simp only [pts]
                      refine wpG 13 ?_ rfl (by kernel_rfl) (fun _ _ _ h => h) (by rfl) (fun wx => ?_) hS ?_
                      rotate_left
                      · go_simp; (try with_reducible rfl)
                      try simp only [pts]
                      refine wpG 14 ?_ rfl (by kernel_rfl) (fun _ _ _ h => h) (by rfl) (fun wx => ?_) hS ?_
                      rotate_left
                      · go_simp; (try with_reducible rfl)
                      try simp only [pts]
                      refine wpT 15 ?_ rfl (by kernel_rfl) (fun _ _ _ h => h) (Or.inl ⟨by rfl, fun wx hSw => ?_⟩) hS ?_
                      rotate_left
                      · have hq := HY4.out _ hSw; (try dsimp only at hSw); go_simp; (try with_reducible rfl)
                      try simp only [pts]
                      refine wpG 16 ?_ rfl (by kernel_rfl) (fun _ _ _ h => h) (by rfl) (fun wx => ?_) hS ?_
                      rotate_left
                      · go_simp; (try with_reducible rfl)
                      try simp only [pts]
                      refine wpG 17 ?_ rfl (by kernel_rfl) (fun _ _ _ h => h) (by rfl) (fun wx => ?_) hS ?_
                      rotate_left
                      · go_simp; (try with_reducible rfl)
                      try simp only [pts]
                      refine wpT 18 ?_ rfl (by kernel_rfl) (fun _ _ _ h => h) (Or.inl ⟨by rfl, fun wx hSw => ?_⟩) hS ?_
                      rotate_left
                      · have hq := HY5.out _ hSw; (try dsimp only at hSw); go_simp; (try with_reducible rfl)
                      try simp only [pts]
                      refine wpG 19 ?_ rfl (by kernel_rfl) (fun _ _ _ h => h) (by rfl) (fun wx => ?_) hS ?_
                      rotate_left
                      · go_simp; (try with_reducible rfl)
                      try simp only [pts]
                      refine wpG 20 ?_ rfl (by kernel_rfl) (fun _ _ _ h => h) (by rfl) (fun wx => ?_) hS ?_
                      rotate_left
                      · go_simp; (try with_reducible rfl)
                      try simp only [pts]
                      refine wpG 21 ?_ rfl (by kernel_rfl) (fun _ _ _ h => h) (by rfl) (fun wx => ?_) hS ?_
                      rotate_left
                      · go_simp; (try with_reducible rfl)
                      try simp only [pts]
                      refine wpT 22 ?_ rfl (by kernel_rfl) (fun _ _ _ h => h) (Or.inl ⟨by rfl, fun wx hSw => ?_⟩) hS ?_
                      rotate_left
                      · have hq := HY6.out _ hSw; (try dsimp only at hSw); go_simp; (try with_reducible rfl)
                      try simp only [pts]
                      refine wpG 23 ?_ rfl (by kernel_rfl) (fun _ _ _ h => h) (by rfl) (fun wx => ?_) hS ?_
                      rotate_left
                      · go_simp; (try with_reducible rfl)
                      try simp only [pts]
                      refine wpG 24 ?_ rfl (by kernel_rfl) (fun _ _ _ h => h) (by rfl) (fun wx => ?_) hS ?_
                      rotate_left
                      · go_simp; (try with_reducible rfl)
                      try simp only [pts]
                      refine wpAnyG_last rfl (by kernel_rfl) (by kernel_rfl) (by kernel_rfl) (fun K hK => ?_)
                      rw [if_pos (by rfl)]
                      refine wp_store_mid 33 (.tmp 130) (.tmp 129) rfl q8 (a * 7) (stL (⟨p 0, p 1, p 2, p 3, p 4, (p 5 == 1), p 6⟩ : St)).toArray rfl rfl (axC_there (HA.out.next hS) (by show a * 7 + 7 ≤ 21; omega)) info7 (stL_one _) ?_
                      refine hK.out _ _ ?_
                      clear hK K
                      try simp only [pts]
                      have HBS := Lib.hid hS
                      clear hS
                      go_wp2_with fail
                      go_roundw
                      case rel => exact UaRel.put (s := (⟨p 0, p 1, p 2, p 3, p 4, (p 5 == 1), p 6⟩ : St)) ha (by go_num) (HA.out.next HBS.out) HAI.out (RB.next HR.out HBS.out) (HB.out.trans (HBS.out.mono HB.out.size)) ⟨HPIN.out 0, HPIN.out 1, HPIN.out 2, HPIN.out 3, HPIN.out 4, HPIN.out 6⟩ (by omega) (by omega)
                      case measure => simp [intOf]; omega
                    | true =>
                      go_wp2_with (first | go_big_skip)
                      go_ret
                      exact UpPost.keep hN0.out HB.out false
                · obtain rfl : a = 3 := by omega
                  go_upto_region 23 with fail
                  have hNB := hN0.out.next HB.out
                  have hgl := Blk.lt hN0.out
                  refine wp_region_G 9 (fun w' => Blk w' q8 34 (AN 21 (axC ax)) ∧ RB w' w.heap.size R) (by kernel_rfl) (⟨HA.out.next (Below.refl _ _).drew, RB.next HR.out (Below.refl _ _).drew⟩) (fun hS => ?_)
                  refine wpG 0 ?_ rfl (by kernel_rfl) (fun _ _ _ h => h) (by rfl) (fun wx => ?_) hS ?_
                  rotate_left
                  · go_simp; (try with_reducible rfl)
                  try simp only [pts]
                  refine wpG 1 ?_ rfl (by kernel_rfl) (fun _ _ _ h => h) (by rfl) (fun wx => ?_) hS ?_
                  rotate_left
                  · go_simp; (try with_reducible rfl)
                  try simp only [pts]
                  refine wpT 2 (.agg (AN 21 (axC ax))) rfl (by kernel_rfl) (fun _ _ _ h => h) (Or.inl ⟨by rfl, fun wx hSw => exec_load_row 34 (.tmp 8) rfl q8 rfl _ _ _ hSw.1 Try.underlying34 rfl (by rw [AN_size]; exact info21)⟩) hS ?_
                  try simp only [pts]
                  refine wpT 3 (.agg (rollC R)) rfl (by kernel_rfl) (fun _ _ _ h => h) (Or.inl ⟨by rfl, fun wx hSw => exec_load_row 38 (.tmp 5) rfl w.heap.size rfl _ _ _ hSw.2 Try.underlying38 rfl info12r⟩) hS ?_
                  try simp only [pts]
                  refine wpG 4 ?_ rfl (by kernel_rfl) (fun _ _ _ h => h) (by rfl) (fun wx => ?_) hS ?_
                  rotate_left
                  · go_simp; (try with_reducible rfl)
                  try simp only [pts]
                  refine wpG 5 ?_ rfl (by kernel_rfl) (fun _ _ _ h => h) (by rfl) (fun wx => ?_) hS ?_
                  rotate_left
                  · go_simp; (try with_reducible rfl)
                  try simp only [pts]
                  refine wpAnyG_one (i := 6) rfl (by kernel_rfl) (fun K hK => ?_)
                  rw [if_pos (by rfl)]
                  refine wp_store_nb 34 (.tmp 137) (.tmp 134) rfl g 6 (AN 21 (axC ax)) n { n with ax := ax } va va rfl rfl (hNB.next (Below.refl _ _).drew) (by rw [AN_size]; omega) (by rw [AN_size]; exact info21) (axC_one ax) (he_axs n va ax) (fun w6 hN6 hg6 => ?_)
                  have hS6 : Blk w6 q8 34 (AN 21 (axC ax)) ∧ RB w6 w.heap.size R := ⟨hS.1.grown hg6 (by intro e; have := Option.some.inj e; omega), Blk.grown hS.2 hg6 (by intro e; have := Option.some.inj e; omega)⟩
                  refine hK.out _ _ hS6 ?_
                  clear hK K hS
                  have hS := hS6
                  try simp only [pts]
                  refine wpG 7 ?_ rfl (by kernel_rfl) (fun _ _ _ h => h) (by rfl) (fun wx => ?_) hS ?_
                  rotate_left
                  · go_simp; (try with_reducible rfl)
                  try simp only [pts]
                  refine wpG 8 ?_ rfl (by kernel_rfl) (fun _ _ _ h => h) (by rfl) (fun wx => ?_) hS ?_
                  rotate_left
                  · go_simp; (try with_reducible rfl)
                  try simp only [pts]
                  refine wpAnyG_last rfl (by kernel_rfl) (by kernel_rfl) (by kernel_rfl) (fun K hK => ?_)
                  rw [if_pos (by rfl)]
                  refine wp_store_nb 38 (.tmp 139) (.tmp 135) rfl g 27 (rollC R) { n with ax := ax } { n with ax := ax, ro := R } va va rfl rfl hN6 (show 27 + 12 ≤ 74 by decide) info12r (rollC_one R) (he_roll { n with ax := ax } va R) (fun w7 hN7 hg7 => ?_)
                  refine hK.out _ _ ?_
                  clear hK K
                  try simp only [pts]
                  have hgw : w.grownBy w7 (some g) := grown_trans (grown_below HB.out.drew) (grown_trans hg6 hg7)
                  have HGW := Lib.hid hgw
                  have HN7 := Lib.hid hN7
                  have HAI2 := Lib.hid HAI.out
                  clear hgw hN7 hg7 hN6 hg6 hS hNB
                  go_wp2_with fail
                  go_ret
                  exact ⟨true, _, rfl, HN7.out, HGW.out, ax, R, rfl, fun _ => HAI2.out, fun _ => HRI2.out⟩
            · have KG := Lib.hid ((good_any R wr).mono fun e w' (h : SaysGood R wr e w') => show e = .returned (.bool false) ∧ Below wr.heap.size wr w' from by obtain ⟨b, he, hb, hB⟩ := h; cases b with | true => exact absurd (hb.1 rfl) hgd | false => exact ⟨he, hB⟩)
              clear hgd
              go_wp2_with (first
                | (refine wpList_load_at 38 (.tmp 5) rfl rfl w.heap.size rfl _ (rollC R) _ HR.out Try.underlying38 rfl info12r ?_)
                | (go_at_call 14; (with_reducible refine KG.out.mono ?_); rintro e w3 ⟨rfl, hb2⟩; have HB2 := Lib.hid hb2; clear hb2))
              go_ret
              exact UpPost.keep hN0.out (HB.out.trans (HB2.out.mono HB.out.size)) false
end Go.Proofs.Ytofeoeknmlkjgaa.Nk
end
section
/- node.adopt: of the node only the axes and the roll change. -/
set_option linter.unusedVariables false
namespace Go.Proofs.Ytofeoeknmlkjgaa.Nk
open Go.RowKit Go.Proofs.Ytofeoeknmlkjgaa Mb Fi Sm

theorem run_eql_slice_nil_w {P : Program} (w : World) (t e : TypeId) (a : Option Addr) (l c : Nat) (h : P.underlying t = some (.slice e)) : (binOp .eql t (.slice a l c) (.slice none 0 0)).run P w = .ok (.bool a.isNone) w := by
  simp only [binOp]
  simp [Op.equal, Op.maxDepth, Lib.run_equalIn_slice_nil w 9999 t e a l c 0 0 h]
def AdPost (n : Nd) (va : Value) (g : Nat) (w : World) (e : Ending) (w' : World) : Prop := ∃ n' : Nd, e = .returned (.tuple #[]) ∧ NB w' g n' va ∧ w.grownBy w' (some g) ∧ Lk n n'
def AdCut (wr : World) (s : Value) (wx : World) : Prop := ∃ b : Bool, s = .bool b ∧ Below wr.heap.size wr wx
def AdRel (w : World) (iv : Value) (wr : World) : Prop := ∃ i : Nat, iv = .int .i64 i ∧ i ≤ 4 ∧ Below w.heap.size w wr
def AdIn (w : World) (i : Nat) (kv : Value) (wr : World) : Prop := ∃ k : Nat, kv = .int .i64 k ∧ i < k ∧ k ≤ 4 ∧ Below w.heap.size w wr
def Sl24 (w : World) (sv : Nat → Value) : Prop := ∀ i, i < 4 → sv i = .slice none 0 0 ∨ ∃ l ad c, sv i = .slice (some ad) 24 c ∧ 24 ≤ c ∧ Ints w .i64 (some ad) 24 l ∧ ∀ z ∈ l, In64 z

set_option maxRecDepth 100000 in
set_option maxHeartbeats 4000000 in
theorem adopt_any (n : Nd) (va : Value) (g : Nat) (sv : Nat → Value) (w : World) (hN : NB w g n va) (hS : Sl24 w sv) (hin : ∀ a, a < 3 → (n.ax a).In) :
    Calls Try.prog 47 #[.pointer (some ⟨g, 0, none⟩), .agg (AN 4 sv)] w (AdPost n va g w) := by
  have hb0 : Below w.heap.size w (w.alloc (.cells (AN 4 sv) 94)) := (Below.refl _ _).alloc (Nat.le_refl _) _
  have HBB := Lib.hid (Blk.new w 94 (AN 4 sv))
  have HSV := Lib.hid hS
  have HN := Lib.hid hN
  have HIN := Lib.hid hin
  have hgl := Blk.lt hN
  have HW1 := Lib.hid hb0
  obtain ⟨w1, hw1⟩ : ∃ w1, w.alloc (.cells (AN 4 sv) 94) = w1 := ⟨_, rfl⟩
  clear hS hN hin hb0
  go_enter Try.func47, Try.ntmps47
  go_upto_region 1 with fail
  rw [hw1] at HBB HW1
  clear hw1
  have hs1 := HW1.out.size
  go_wp2_with fail
  go_loopw [6] (fun iv wr => AdRel w1 iv wr) (fun iv _ => 4 - (intOf iv).toNat)
  case atStart => exact ⟨0, rfl, by omega, Below.refl _ _⟩
  case round =>
    obtain ⟨i, rfl, hi4, hB⟩ := hrel
    by_cases hi : i < 4
    · have q0 : (i : Int) < 4 := by omega
      have z0 : (0 : Int) ≤ (i : Int) := by omega
      have HB := Lib.hid hB
      clear hB
      obtain ⟨wo, rfl⟩ : ∃ wo : World, wo = wr := ⟨_, rfl⟩
      go_upto_region 5 with fail
      go_loopw [5] (fun kv wr => AdIn w1 i kv wr) (fun kv _ => 4 - (intOf kv).toNat)
      case atStart => exact ⟨i + 1, by go_num, by omega, by omega, HB.out⟩
      case round =>
        obtain ⟨k, rfl, hik, hk4, hB⟩ := hrel
        have HB := Lib.hid hB
        clear hB
        by_cases hk : k < 4
        · have q1 : (k : Int) < 4 := by omega
          have z1 : (0 : Int) ≤ (k : Int) := by omega
          have q22 : ∀ (w : World) (a : Option Addr) (n c : Nat), (binOp .eql 58 (.slice a n c) (.slice none 0 0)).run Try.prog w = .ok (.bool a.isNone) w := fun w a n c => run_eql_slice_nil_w w _ _ a n c Try.underlying58
          have ci := Blk.cell (HBB.out.next HB.out) i
          have ck := Blk.cell (HBB.out.next HB.out) k
          rw [AN_get hi] at ci
          rw [AN_get hk] at ck
          rcases HSV.out i hi with e1 | ⟨l1, ad1, c1, e1, hc1, hI1, hl1⟩
          · rw [e1] at ci
            go_upto_region 7 with fail
            go_quiet (fail)
            go_wp2_with fail
            go_roundw
            case rel => exact ⟨k + 1, by go_num, by omega, by omega, HB.out.trans ((below_drewN _ _ _).mono HB.out.size)⟩
            case measure => simp [intOf]; omega
          · rw [e1] at ci
            rcases HSV.out k hk with e2 | ⟨l2, ad2, c2, e2, hc2, hI2, hl2⟩
            · rw [e2] at ck
              go_upto_region 7 with fail
              go_quiet (fail)
              go_wp2_with fail
              go_roundw
              case rel => exact ⟨k + 1, by go_num, by omega, by omega, HB.out.trans ((below_drewN _ _ _).mono HB.out.size)⟩
              case measure => simp [intOf]; omega
            · rw [e2] at ck
              have KS := Lib.hid (fun W (h : Below wr.heap.size wr W) => nsame_any (some ad1) (some ad2) 24 c1 c2 l1 l2 W (hI1.next (HW1.out.trans ((HB.out.mono hs1).trans (h.mono (Nat.le_trans hs1 HB.out.size))))) (hI2.next (HW1.out.trans ((HB.out.mono hs1).trans (h.mono (Nat.le_trans hs1 HB.out.size))))) (by omega))
              have hlw := Blk.lt (HBB.out.next HB.out)
              have HLW := Lib.hid hlw
              clear hlw
              go_upto_region 7 with fail
              go_cut [34] (fun s34 wx => AdCut wr s34 wx)
              case first =>
                have cid : wr.drew.cell? ⟨w.heap.size, i, none⟩ = some (.slice (some ad1) 24 c1) := ci
                have ckd : wr.drew.cell? ⟨w.heap.size, k, none⟩ = some (.slice (some ad2) 24 c2) := ck
                go_region_held3 (fun w' => w'.cell? ⟨w.heap.size, i, none⟩ = some (.slice (some ad1) 24 c1) ∧ w'.cell? ⟨w.heap.size, k, none⟩ = some (.slice (some ad2) 24 c2))
                  (first | with_reducible exact ⟨cid, ckd⟩ | with_reducible exact ⟨ci2, ck2⟩) (first
                  | (go_at_call 62; (with_reducible refine (KS.out _ (Below.refl wr.heap.size wr).drew).mono ?_); rintro e w2 ⟨⟨bb, rfl⟩, hb2⟩; have hb3 : Below wr.heap.size wr w2 := (Below.refl wr.heap.size wr).drew.trans hb2; have ci2 := (hb3.cell (p := ⟨w.heap.size, i, none⟩) HLW.out).trans ci; have ck2 := (hb3.cell (p := ⟨w.heap.size, k, none⟩) HLW.out).trans ck; have HB3 := Lib.hid hb3; clear hb2 hb3))
                go_wp2_with fail
                go_meet
                exact ⟨_, rfl, HB3.out⟩
              case rest =>
                obtain ⟨bb, rfl, hbc⟩ := hcut
                have cic := (hbc.cell (p := ⟨w.heap.size, i, none⟩) HLW.out).trans ci
                have HBC := Lib.hid hbc
                clear hbc KS ci ck
                cases bb with
                | true =>
                  go_wp2_with fail
                  go_roundw
                  case rel => exact ⟨k + 1, by go_num, by omega, by omega, HB.out.trans (HBC.out.mono HB.out.size)⟩
                  case measure => simp [intOf]; omega
                | false =>
                  have hbw := HW1.out.trans ((HB.out.trans (HBC.out.mono HB.out.size)).mono hs1)
                  have KU := Lib.hid (unpack_any n va g (some ad1) c1 l1 wc (HN.out.next hbw) hc1 (hI1.next hbw) hl1 HIN.out)
                  have HBW := Lib.hid hbw
                  clear hbw
                  go_wp2_with (first
                    | (go_at_call 63; (with_reducible refine KU.out.mono ?_); rintro e w3 ⟨b3, n3, rfl, hN3, hg3, hl3⟩; have HN3 := Lib.hid hN3; have HG3 := Lib.hid hg3; have HL3 := Lib.hid hl3; clear hN3 hg3 hl3))
                  exact bodyPost_ret (results_none rfl _ _ _) rfl ⟨n3, rfl, HN3.out, grown_trans (grown_below HBW.out) HG3.out, HL3.out⟩
        · obtain rfl : k = 4 := by omega
          go_wp2_with fail
          go_roundw
          case rel => exact ⟨i + 1, by go_num, hi, HB.out⟩
          case measure => simp [intOf]; omega
    · obtain rfl : i = 4 := by omega
      have HB := Lib.hid hB
      clear hB
      go_wp2_with fail
      go_end0
      have hbw := HW1.out.trans (HB.out.mono hs1)
      exact ⟨n, rfl, HN.out.next hbw, grown_below hbw, Lk.refl n⟩
end Go.Proofs.Ytofeoeknmlkjgaa.Nk
end
