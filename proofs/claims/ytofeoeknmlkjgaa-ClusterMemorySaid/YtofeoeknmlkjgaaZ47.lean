/- Merged: ClFrame. -/
import Derived.Test.YtofeoeknmlkjgaaZ46
set_option linter.unusedVariables false
set_option linter.unusedSimpArgs false
section
/- cluster.Frame. -/
set_option linter.unusedVariables false
namespace Go.Proofs.Ytofeoeknmlkjgaa.Nk
open Go.RowKit Go.Proofs.Ytofeoeknmlkjgaa Mb Fi Sm

def FlRel (w0 : World) (iv : Value) (wr : World) : Prop := ∃ i : Nat, iv = .int .i64 i ∧ i ≤ 4 ∧ Below w0.heap.size w0 wr
def F2Rel (w w0 : World) (g : Nat) (x : Cl) (y : InD) (bs : Nat → List Value) (iv : Value) (wr : World) : Prop :=
  ∃ (i : Nat) (va' : Nat → Value), iv = .int .i64 i ∧ i ≤ 4 ∧ RunB wr g ⟨x.fr, x.N, va'⟩ y (fun _ => .slice none 0 0) ∧ (∀ j, j < i → wr.ownsRow w.heap.size 4 1 (va' j) (bs j).length (bs j)) ∧ Below w0.heap.size w0 wr
theorem F2Rel.put {w w0 wr w4 : World} {g i : Nat} {x : Cl} {y : InD} {bs : Nat → List Value} {va' : Nat → Value} {v4 iv : Value} {m : Nat} (hi : i < 4) (hiv : iv = .int .i64 ((i + 1 : Nat) : Int)) (hR : RunB w4 g ⟨x.fr, x.N, va'⟩ y (fun _ => .slice none 0 0)) (hO : ∀ j, j < i → wr.ownsRow w.heap.size 4 1 (va' j) (bs j).length (bs j)) (hB : Below w0.heap.size w0 wr)
    (ho : w4.ownsRow w.heap.size 4 1 v4 m (bs i)) (hg : wr.grownBy w4 none) (hgw : w0.heap.size ≤ g) (hw : w0.heap.size ≤ wr.heap.size) : F2Rel w w0 g x y bs iv (w4.setCell ⟨g, 1 + i * 74 + 73, none⟩ v4) := by
  have hml : (bs i).length = m := by have := ho.1; omega
  rw [← hml] at ho
  have hgs := grown_set w4 g (1 + i * 74 + 73) v4
  refine ⟨i + 1, upd va' i v4, hiv, hi, hR.setVa hi v4, fun j hj => ?_, ?_⟩
  · have hk : ∀ {v : Value} {n : Nat} {xs : List Value}, w4.ownsRow w.heap.size 4 1 v n xs → (w4.setCell ⟨g, 1 + i * 74 + 73, none⟩ v4).ownsRow w.heap.size 4 1 v n xs := fun h => own_kept_t h hgs hR (by decide)
    by_cases e : j = i
    · subst e; rw [upd_same]; exact hk ho
    · rw [upd_far _ _ e]
      have hj2 := hO j (by omega)
      exact hk (hj2.kept hg (by cases hv : (va' j).ownBlock with | none => exact .inl rfl | some q => exact .inr (fun e => by cases e)))
  · have h4 : Below w0.heap.size w0 w4 := hB.trans ⟨hg.os, hg.tape, hg.output, Nat.le_trans (Nat.le_refl _) hg.size, fun q hq => hg.block q (Nat.lt_of_lt_of_le hq hw) (by intro e; cases e)⟩
    exact h4.grown hgs h4.size (fun j hj => by cases hj; exact hgw)
theorem PhSt.ms {w W : World} {g : Nat} {y : InD} {fr : Int} {Nk : Nat → Nd} {bk : Nat → List Value} {Bk : Nat → List Pm} (h : PhSt w g y fr Nk bk Bk W) : ∀ i, i < 4 → MsIn (Bk i) := by
  obtain ⟨va, bx, Ms, hR, hX, hA, hM, hB⟩ := h
  intro i hi z hz v hv
  rw [← hM i hi] at hz
  obtain ⟨u, hu, rfl⟩ := List.mem_map.1 hz
  exact ((hX.1 i hi).2 u hu).2.2.2 v hv
def F3Rel (w1 : World) (B3 g : Nat) (x : Cl) (y : InD) (Ls : List Li) (bs : Nat → List Value) (ov iv : Value) (wr : World) : Prop :=
  ∃ (i : Nat) (N' : Nat → Nd) (va bx : Nat → Value) (Ms : Nat → List Mg), iv = .int .i64 i ∧ i ≤ 4 ∧ RunB wr g ⟨x.fr, N', va⟩ y bx ∧ Bx wr w1.heap.size g bx Ms ∧ AgR wr w1.heap.size va (agB (FX x y Ls) x.N bs) ∧
    (∀ j, j < i → ClRel (FX x y Ls) x.N j (N' j)) ∧ (∀ j, i ≤ j → N' j = N5 (FX x y Ls) x.N j) ∧ (∀ t, t < 4 → (Ms t).length ≤ 1604) ∧ wr.ownsRow B3 60 14 ov (repsN y.bad i) (repsL y.bad N' i) ∧ Below w1.heap.size w1 wr ∧ B3 ≤ wr.heap.size ∧ (∀ t, t < 4 → ∀ z ∈ Ms t, 0 < z.n → ∀ ad, z.A = some ad → ad.block < B3)
theorem repsL_congr (bad : Int) (N N' : Nat → Nd) : ∀ k, (∀ j, j < k → N j = N' j) → repsL bad N k = repsL bad N' k
  | 0, _ => rfl
  | k + 1, h => by unfold repsL; rw [repsL_congr bad N N' k (fun j hj => h j (by omega)), h k (by omega)]
theorem repsN_le (bad : Int) : ∀ k, repsN bad k ≤ k
  | 0 => Nat.le_refl _
  | k + 1 => by have := repsN_le bad k; unfold repsN; split <;> omega
theorem F3Rel.start {w1 v5 : World} {g : Nat} {x : Cl} {y : InD} {Ls : List Li} {bs : Nat → List Value} (h : PhSt w1 g y x.fr (N5 (FX x y Ls) x.N) (agB (FX x y Ls) x.N bs) (B5 (FX x y Ls) x.N) v5) (hl : (Ls.map Li.ly).length ≤ 400) : F3Rel w1 v5.heap.size g x y Ls bs (.slice none 0 0) (.int .i64 0) v5 := by
  obtain ⟨va, bx, Ms, hR, hX, hA, hM, hB⟩ := h
  exact ⟨0, _, va, bx, Ms, rfl, by omega, hR, hX, hA, fun j hj => absurd hj (Nat.not_lt_zero _), fun j _ => rfl, fun t ht => mr_len (w := v5) (B := 0) (g := 0) (bx := bx) (hM t ht) (box_le _ _ _ _ _ hl), World.ownsRow_nil _ _ _ _, hB, Nat.le_refl _, fun t ht z hz hn ad ha => ((hX.1 t ht).2 z hz).lt hn ha⟩
theorem F3Rel.skip {w1 wr : World} {B3 g i : Nat} {x : Cl} {y : InD} {Ls : List Li} {bs : Nat → List Value} {N' : Nat → Nd} {va bx : Nat → Value} {Ms : Nat → List Mg} {ov iv : Value} (hi : i < 4) (hiv : iv = .int .i64 ((i + 1 : Nat) : Int)) (hR : RunB wr g ⟨x.fr, N', va⟩ y bx) (hX : Bx wr w1.heap.size g bx Ms) (hA : AgR wr w1.heap.size va (agB (FX x y Ls) x.N bs))
    (hD : ∀ j, j < i → ClRel (FX x y Ls) x.N j (N' j)) (hN : ∀ j, i ≤ j → N' j = N5 (FX x y Ls) x.N j) (hM : ∀ t, t < 4 → (Ms t).length ≤ 1604) (hO : wr.ownsRow B3 60 14 ov (repsN y.bad i) (repsL y.bad N' i)) (hB : Below w1.heap.size w1 wr) (hB3 : B3 ≤ wr.heap.size) (hvl : ∀ t, t < 4 → ∀ z ∈ Ms t, 0 < z.n → ∀ ad, z.A = some ad → ad.block < B3) (hb : (i : Int) = y.bad) : F3Rel w1 B3 g x y Ls bs ov iv wr := by
  refine ⟨i + 1, N', va, bx, Ms, hiv, hi, hR, hX, hA, fun j hj => ?_, fun j hj => hN j (by omega), hM, ?_, hB, hB3, hvl⟩
  · by_cases e : j = i
    · subst e
      rw [hN j (Nat.le_refl _)]
      unfold ClRel
      rw [if_pos (show (j : Int) = (FX x y Ls).bad from hb)]
      exact if_pos hb
    · exact hD j (by omega)
  · have e1 : repsN y.bad (i + 1) = repsN y.bad i := by conv => lhs; unfold repsN; rw [if_pos hb, Nat.add_zero]
    have e2 : repsL y.bad N' (i + 1) = repsL y.bad N' i := by conv => lhs; unfold repsL; rw [if_pos hb, List.append_nil]
    rw [e1, e2]
    exact hO
theorem infoRep : (Try.prog.info? 60).map (fun i => (i.zero, i.size, i.bytes)) = some (some (.agg #[.int .i64 0, .int .i64 0, .int .i64 0, .int .i64 0, .int .i64 0, .int .i64 0, .int .i64 0, .int .i64 0, .int .i64 0, .bool false, .bool false, .bool false, .bool false, .bool false]), 14, 80) := by kernel_rfl
theorem agB_good {x : Fr} {N : Nat → Nd} {bs : Nat → List Value} {i : Nat} (hb : ¬ (i : Int) = x.bad) (hi : i < 4) : agB x N bs i = judgeB (N4 x N i) (B4 x N i) i := by unfold agB mixN; rw [if_pos ⟨hi, hb⟩]
theorem agB_len {x : Fr} {N : Nat → Nd} {bs : Nat → List Value} {i : Nat} (hb : ¬ (i : Int) = x.bad) (hi : i < 4) : (agB x N bs i).length = 4 := by rw [agB_good hb hi]; rfl
theorem agB_one {x : Fr} {N : Nat → Nd} {bs : Nat → List Value} {i : Nat} (hb : ¬ (i : Int) = x.bad) (hi : i < 4) : ∀ u ∈ agB x N bs i, u.oneCell' = true := by
  rw [agB_good hb hi]
  intro u hu
  unfold judgeB at hu
  simp only [List.mem_cons, List.not_mem_nil, or_false] at hu
  rcases hu with rfl | rfl | rfl | rfl <;> rfl
def CcCut (w5 : World) (n : Nd) (bs : List Value) (s8 s9 : Value) (wx : World) : Prop :=
  ∃ q8 q9 n' A' c', s8 = .pointer (some ⟨q8, 0, none⟩) ∧ s9 = .pointer (some ⟨q9, 0, none⟩) ∧ Blk wx q8 45 (NA n' (.slice A' bs.length c')) ∧ Blk wx q9 60 (repC n') ∧
    wx.ownsRow w5.heap.size 4 1 (.slice A' bs.length c') bs.length bs ∧ Below w5.heap.size w5 wx ∧ w5.heap.size ≤ q9 ∧ Lk n n' ∧ ((n.vs = true ∧ n.vv ≠ n.dg) ∨ n' = n)
theorem cc_cut {w5 w6 w7 w8 : World} {n n' : Nd} {A' : Option Addr} {c' q8 q9 : Nat} {bs : List Value} {zc ms : Array Value} (hq8 : w5.heap.size ≤ q8) (hq9 : w5.heap.size ≤ q9) (h12 : q9 ≠ q8)
    (hZ : Blk w6 q8 45 zc) (hM : Blk w6 q9 60 ms) (hO : w6.ownsRow w5.heap.size 4 1 (.slice A' bs.length c') bs.length bs) (hB : Below w5.heap.size w5 w6)
    (hN7 : Blk w7 q8 45 (NA n' (.slice A' bs.length c'))) (hg7 : w6.grownBy w7 (some q8)) (hM8 : Blk w8 q9 60 (repC n')) (hg8 : w7.grownBy w8 (some q9)) (hlk : Lk n n') (heq : (n.vs = true ∧ n.vv ≠ n.dg) ∨ n' = n) :
    CcCut w5 n bs (.pointer (some ⟨q8, 0, none⟩)) (.pointer (some ⟨q9, 0, none⟩)) w8 := by
  have hm7 := hM.grown hg7 (by intro e; exact h12 (Option.some.inj e))
  have h7 := hB.grown hg7 hB.size (fun j hj => by cases hj; exact hq8)
  exact ⟨q8, q9, n', A', c', rfl, rfl, hN7.grown hg8 (by intro e; exact h12 (Option.some.inj e).symm), hM8, own_kept_t (own_kept_t hO hg7 hZ (by decide)) hg8 hm7 (by decide), h7.grown hg8 h7.size (fun j hj => by cases hj; exact hq9), hq9, hlk, heq⟩
theorem F3Rel.put {w1 wr w4 w9 w10 : World} {g i : Nat} {x : Cl} {y : InD} {Ls : List Li} {bs : Nat → List Value} {N' : Nat → Nd} {va bx : Nat → Value} {Ms : Nat → List Mg} {Ao A' : Option Addr} {B3 co c' ga ca : Nat} {iv : Value} {n6 : Nd} {o : Obj} (hi : i < 4) (hiv : iv = .int .i64 ((i + 1 : Nat) : Int)) (hX : Bx wr w1.heap.size g bx Ms) (hA : AgR wr w1.heap.size va (agB (FX x y Ls) x.N bs))
    (hD : ∀ j, j < i → ClRel (FX x y Ls) x.N j (N' j)) (hN : ∀ j, i ≤ j → N' j = N5 (FX x y Ls) x.N j) (hM : ∀ t, t < 4 → (Ms t).length ≤ 1604) (hB : Below w1.heap.size w1 wr) (hb : ¬ (i : Int) = y.bad)
    (hRr : RunB wr g ⟨x.fr, N', va⟩ y bx) (hbc : Below wr.heap.size wr w4) (ho4 : w4.ownsRow wr.heap.size 4 1 (.slice A' (agB (FX x y Ls) x.N bs i).length c') (agB (FX x y Ls) x.N bs i).length (agB (FX x y Ls) x.N bs i))
    (hR9 : RunB w9 g (Cl.put ⟨x.fr, N', va⟩ i n6 (.slice A' (agB (FX x y Ls) x.N bs i).length c')) y bx) (hg9 : w4.grownBy w9 (some g)) (hlk : Lk (N5 (FX x y Ls) x.N i) n6) (heq : ((N5 (FX x y Ls) x.N i).vs = true ∧ (N5 (FX x y Ls) x.N i).vv ≠ (N5 (FX x y Ls) x.N i).dg) ∨ n6 = N5 (FX x y Ls) x.N i)
    (ho : w10.ownsRow B3 60 14 (.slice (some ⟨ga, 0, none⟩) (repsN y.bad i + 1) ca) (repsN y.bad i + 1) (repsL y.bad N' i ++ (repC n6).toList)) (hg10 : (w9.alloc o).grownBy w10 (Value.slice Ao (repsN y.bad i) co).ownBlock)
    (hgw : w1.heap.size ≤ g) (hor : wr.ownsRow B3 60 14 (.slice Ao (repsN y.bad i) co) (repsN y.bad i) (repsL y.bad N' i)) (h13 : w1.heap.size ≤ B3) (hB3 : B3 ≤ wr.heap.size) (hvl : ∀ t, t < 4 → ∀ z ∈ Ms t, 0 < z.n → ∀ ad, z.A = some ad → ad.block < B3) :
    F3Rel w1 B3 g x y Ls bs (.slice (some ⟨ga, 0, none⟩) (repsN y.bad i + 1) ca) iv w10 := by
  have hR4 := hRr.next hbc
  have hX9 := (hX.next hbc).run hR4 (by decide) hg9
  have hrep4 := own_below hor hbc (fun z hz => (hor.lt z hz).2)
  have hrep9 := own_kept_t hrep4 hg9 hR4 (by decide)
  have ha : Below w9.heap.size w9 (w9.alloc o) := (Below.refl _ _).alloc (Nat.le_refl _) _
  have hrepA := own_below hrep9 ha (fun z hz => (hrep9.lt z hz).2)
  have hRA := hR9.next ha
  have hXA := hX9.next ha
  have hb1 := hB.trans (hbc.mono hB.size)
  have hb9 := hb1.grown hg9 hb1.size (fun j hj => by cases hj; exact hgw)
  have hbA := hb9.alloc hb9.size o
  have hb10 : Below w1.heap.size w1 w10 := hbA.grown hg10 hbA.size (fun j hj => Nat.le_trans h13 (hrepA.lt j hj).1)
  have hsm : Same (w9.alloc o) (fun k => (Value.slice Ao (repsN y.bad i) co).ownBlock = some k) w10 := (Same.refl _ _).grown hg10 (fun k e _ => e)
  have hkeep : ∀ {base : Nat} {v : Value} {n : Nat} {xs : List Value}, w4.ownsRow base 4 1 v n xs → w10.ownsRow base 4 1 v n xs := fun h => by
    have h9 := own_kept_t h hg9 hR4 (by decide)
    have hA := own_below h9 ha (fun z hz => (h9.lt z hz).2)
    exact hsm.own hA (fun k hk hk2 => own_own_ne hA hrepA (by decide) hk hk2)
  refine ⟨i + 1, upd N' i n6, upd va i (.slice A' (agB (FX x y Ls) x.N bs i).length c'), bx, Ms, hiv, hi, ?_, ?_, fun j hj => ?_, fun j hj => ?_, fun j hj => ?_, hM, ?_, hb10, ?_, hvl⟩
  · exact RunB.same (S := fun k => (Value.slice Ao (repsN y.bad i) co).ownBlock = some k) hRA hsm (fun hk => own_blk_ne hrepA hRA (by decide) hk.symm)
  · exact hXA.same hsm (fun j hj q hq hk => own_own_ne (hXA.1 j hj).1 hrepA (by decide) hq hk) (fun j hj z hz hn ad hd hk => by have h1 := hvl j hj z hz hn ad hd; have h2 := (hrepA.lt _ hk).1; omega)
  · by_cases e : j = i
    · subst e
      rw [upd_same]
      exact own_le (hkeep ho4) hB.size
    · rw [upd_far _ _ e]
      exact hkeep (own_below (hA j hj) hbc (fun z hz => ((hA j hj).lt z hz).2))
  · by_cases e : j = i
    · subst e
      rw [upd_same]
      unfold ClRel
      rw [if_neg (show ¬ (j : Int) = (FX x y Ls).bad from hb)]
      exact ⟨hlk, heq⟩
    · rw [upd_far _ _ e]; exact hD j (by omega)
  · rw [upd_far _ _ (by omega)]; exact hN j (by omega)
  · have e1 : repsN y.bad (i + 1) = repsN y.bad i + 1 := by conv => lhs; unfold repsN; rw [if_neg hb]
    have e2 : repsL y.bad (upd N' i n6) (i + 1) = repsL y.bad N' i ++ (repC n6).toList := by
      conv => lhs; unfold repsL; rw [if_neg hb, upd_same, repsL_congr y.bad (upd N' i n6) N' i (fun j hj => upd_far _ _ (by omega))]
    rw [e1, e2]
    exact ho
  · have h1 := hbc.size
    have h2 := hg9.size
    have h3 := ha.size
    have h4 := hg10.size
    omega
theorem ag_one {W : World} {B : Nat} {va : Nat → Value} {b : Nat → List Value} (h : AgR W B va b) {j : Nat} (hj : j < 4) : (va j).oneCell' = true := by
  obtain ⟨A, c, e⟩ := own_shape (h j hj)
  rw [e]; rfl
theorem results_row_tmp2 {P : Program} {fn : Func} {p q r : Tmp} {ty : TypeId} (h : fn.results = #[.cell p ty, .tmp q, .tmp r]) (tmps : Array Value) (w : World) (g : Nat) (t : TypeId) (cs : Array Value) (d : TypeDesc) (e f : Value)
    (hp : tmps.getD p undef = .pointer (some ⟨g, 0, none⟩)) (hq : tmps.getD q undef = e) (hr : tmps.getD r undef = f) (hg : Blk w g t cs) (hu : P.underlying ty = some d) (hd : (match d with | .struct _ | .array _ _ => true | _ => false) = true) (hi : (P.info? ty).map (·.size) = some cs.size) :
    (results fn tmps).run P w = .ok (.tuple #[.agg cs, e, f]) w := by
  have hp' : tmps[p]?.getD undef = .pointer (some ⟨g, 0, none⟩) := by simpa using hp
  have hq' : tmps[q]?.getD undef = e := by simpa using hq
  have hr' : tmps[r]?.getD undef = f := by simpa using hr
  simp [results, h, hp', hq', hr', asAddr, run_loadVar_row w g t ty cs (0, 0) d hg hu hd hi]
theorem fr_end {w w1 wr w31 w33 : World} {g B3 : Nat} {x : Cl} {y : InD} {Ls : List Li} {bs : Nat → List Value} {N' : Nat → Nd} {va bx : Nat → Value} {rv : Value} {zc : Array Value} (hB0 : Below w.heap.size w w1) (hBr : Below w1.heap.size w1 wr) (hgs : wr.grownBy w31 (some g)) (hg33 : w31.grownBy w33 (some (w.heap.size + 1 + 1)))
    (hR : RunB wr g ⟨x.fr, N', va⟩ y bx) (hZ : Blk w31 (w.heap.size + 1 + 1) 48 zc) (hgw : w1.heap.size ≤ g) (hA : AgR wr w1.heap.size va (agB (FX x y Ls) x.N bs)) (hO : wr.ownsRow B3 60 14 rv (repsN y.bad 4) (repsL y.bad N' 4)) (h13 : w1.heap.size ≤ B3)
    (hD : ∀ j, j < 4 → ClRel (FX x y Ls) x.N j (N' j)) : FramePost (FX x y Ls) x bs w (.returned (.tuple #[.agg (CA ⟨x.fr + 1, N', va⟩), rv, .int .i64 0])) w33 := by
  have hs := hB0.size
  have h1 := hB0.trans (hBr.mono hs)
  have h2 := h1.grown hgs h1.size (fun j hj => by cases hj; omega)
  have h3 := h2.grown hg33 h2.size (fun j hj => by cases hj; omega)
  exact ⟨⟨x.fr + 1, N', va⟩, rv, rfl, h3, rfl, hD, fun j hj => own_le (own_kept_t (own_kept_t (hA j hj) hgs hR (by decide)) hg33 hZ (by decide)) hs, own_le (own_kept_t (own_kept_t hO hgs hR (by decide)) hg33 hZ (by decide)) (Nat.le_trans hs h13)⟩
theorem wpList_val {P : Program} {w : World} {ops : Array Oper} {rest : List Oper} {o : Oper} {a : Act} {Q : Exit → Act → World → Prop} (op : Op) (ho : o.op = op) (hgd : o.guard = none) (v : Value) (h : (execOp a.eval o).run P w = .ok (.value v) w) (hk : wpList P ops Q rest (a.put o.dst v) w) : wpList P ops Q (o :: rest) a w :=
  wpList_plain hgd fun K hK => by
    unfold Oper.wp
    rw [h]
    exact hK _ _ hk
set_option maxRecDepth 100000 in
set_option maxHeartbeats 8000000 in
theorem frame_any (x : Cl) (y : InD) (bs : Nat → List Value) (A : Option Addr) (m c : Nat) (Ls : List Li) (w : World) (H : FrH x y bs A m c Ls w) (hb0 : -1 ≤ y.bad) (hb1 : y.bad < 4) (hva : ∀ i : Nat, i < 4 → ∃ Av mv cv, x.va i = .slice Av mv cv ∧ VR w 1 Av mv cv (bs i)) :
    Calls Try.prog 27 #[.agg (CA x), .agg (IA y)] w (FramePost (FX x y Ls) x bs w) := by
  have hf0 := H.hf0
  have hf1 := H.hf1
  have hm := H.hm
  have e1 : decide (y.bad < -1) = false := by rw [decide_eq_false_iff_not]; omega
  have e2 : decide (4 ≤ y.bad) = false := by rw [decide_eq_false_iff_not]; omega
  have e3 : decide (x.fr < 0) = false := by rw [decide_eq_false_iff_not]; omega
  have e4 : decide (1073741824 ≤ x.fr) = false := by rw [decide_eq_false_iff_not]; omega
  have e5 : decide ((400 : Int) < (m : Int)) = false := by rw [decide_eq_false_iff_not]; omega
  have HID := Lib.hid H.hid
  have HBS := Lib.hid H.hbs
  have HBL := Lib.hid H.hbl
  have HVA := Lib.hid hva
  have hlv := H.hlv
  have HH := Lib.hid H
  have hv1 : ∀ i, i < 4 → (x.va i).oneCell' = true := fun i hi => by obtain ⟨Av, mv, cv, e, _⟩ := hva i hi; rw [e]; rfl
  have HV1 := Lib.hid hv1
  have hzs : (Try.zeroCells48).size = 297 := by rw [zeroCl, CA_size]
  have HZS := Lib.hid hzs
  have hC0 : CB (((w.alloc (.cells (CA x) 48)).alloc (.cells (IA y) 51)).alloc (.cells Try.zeroCells48 48)) w.heap.size x := ((Blk.new _ _ _).alloc _).alloc _
  have hI0 : IB (((w.alloc (.cells (CA x) 48)).alloc (.cells (IA y) 51)).alloc (.cells Try.zeroCells48 48)) (w.heap.size + 1) y := (Blk.at_ _ _ _ _ (by simp)).alloc _
  have hZ0 : Blk (((w.alloc (.cells (CA x) 48)).alloc (.cells (IA y) 51)).alloc (.cells Try.zeroCells48 48)) (w.heap.size + 1 + 1) 48 Try.zeroCells48 := Blk.at_ _ _ _ _ (by simp)
  have hB0 : Below w.heap.size w (((w.alloc (.cells (CA x) 48)).alloc (.cells (IA y) 51)).alloc (.cells Try.zeroCells48 48)) := (((Below.refl _ _).alloc (Nat.le_refl _) _).alloc (by simp) _).alloc (by simp; omega) _
  have k12 := hI0.bad
  have k13 := hI0.lv
  rw [hlv] at k13
  have k0 := hC0.fr
  have HC0 := Lib.hid hC0
  have HI0 := Lib.hid hI0
  have HZ0 := Lib.hid hZ0
  have HB0 := Lib.hid hB0
  clear hC0 hI0 hZ0 hB0 hva hv1 hzs hlv H
  go_enter Try.func27, Try.ntmps27
  go_upto_region 5 with (first | go_big_skip)
  generalize Try.zeroCells48 = zc at *
  obtain ⟨w1, hw1⟩ : ∃ w1, ((w.alloc (.cells (CA x) 48)).alloc (.cells (IA y) 51)).alloc (.cells zc 48) = w1 := ⟨_, rfl⟩
  rw [hw1] at k12 k13 k0 HC0 HI0 HZ0 HB0 ⊢
  clear hw1 k12 k13 k0 e1 e2 e3 e4 e5
  go_upto_region 6 with (first
    | (refine wpList_load_mid rfl 46 (.tmp 41) rfl w.heap.size 1 rfl (nodesA x).toList _ HC0.out.nodesR Try.underlying46 rfl (by rw [Array.length_toList, nodesA_size]; exact infoN4) ?_; rw [show (nodesA x).toList.toArray = nodesA x from Array.toArray_toList ..]))
  go_loopw [43] (fun iv wr => FlRel w1 iv wr) (fun iv _ => 4 - (intOf iv).toNat)
  case atStart => exact ⟨0, rfl, by omega, Below.refl _ _⟩
  case round =>
    obtain ⟨i, rfl, hi4, hB⟩ := hrel
    have HBr := Lib.hid hB
    clear hB
    by_cases hi : i < 4
    · have p0 : (i : Int) < 4 := by omega
      have p1 : (0 : Int) ≤ (i : Int) := by omega
      have ix := fun W => ixN x i hi W
      have q1 : ((i : Int) != (i : Int)) = false := by simp
      go_wp2_with (first
        | (refine wpList_store_at 45 (.tmp 8) (.tmp 46) rfl rfl wr.heap.size _ _ (NA (x.N i) (x.va i)) rfl rfl (Blk.new _ _ _) (by rw [NA_size]; rfl) (by rw [NA_size]; exact infoNode) (AN_one (fun k hk => c_one (HV1.out i hi))) ?_; intro w2 hN2 hg2; have k0 := NB.id (n := x.N i) (va := x.va i) hN2; (rw [HID.out i hi] at k0); have HG2 := Lib.hid hg2; clear hN2 hg2))
      go_roundw
      case rel => exact ⟨i + 1, by go_num, hi, (HBr.out.alloc HBr.out.size _).grown HG2.out (by have := HBr.out.size; simp; omega) (fun j hj => by cases hj; exact HBr.out.size)⟩
      case measure => simp [intOf]; omega
    · obtain rfl : i = 4 := by omega
      have HCr := Lib.hid (CB.next HC0.out HBr.out)
      have HIr := Lib.hid (IB.next HI0.out HBr.out)
      go_upto_region 12 with (first
        | (refine wpList_load_at 48 (.tmp 2) rfl rfl w.heap.size rfl _ (CA x) _ HCr.out Try.underlying48 rfl (by rw [CA_size]; exact infoCl) ?_)
        | (refine wpList_load_at 51 (.tmp 3) rfl rfl (w.heap.size + 1) rfl _ (IA y) _ HIr.out Try.underlying51 rfl (by rw [IA_size]; exact infoIn) ?_)
        | (refine wpList_val (.build 115 #[(0, .tmp 53), (1, .tmp 54)]) rfl rfl (.agg (RA x y (fun _ => .slice none 0 0))) (by kernel_rfl) ?_))
      obtain ⟨g, hg⟩ : ∃ g, g = wr.heap.size := ⟨_, rfl⟩
      have hRg : RunB (wr.alloc (.cells (RA x y fun _ => .slice none 0 0) 115)) g ⟨x.fr, x.N, x.va⟩ y (fun _ => .slice none 0 0) := by rw [hg]; exact Blk.new _ _ _
      have hBg : Below w1.heap.size w1 (wr.alloc (.cells (RA x y fun _ => .slice none 0 0) 115)) := HBr.out.alloc HBr.out.size _
      have hgw : w1.heap.size ≤ g := by have := HBr.out.size; omega
      have hwg : w.heap.size ≤ g := by have := HB0.out.size; omega
      rw [← hg]
      obtain ⟨w3, hw3⟩ : ∃ w3, wr.alloc (.cells (RA x y fun _ => .slice none 0 0) 115) = w3 := ⟨_, rfl⟩
      rw [hw3] at hRg hBg ⊢
      have HR3 := Lib.hid hRg
      have HB3 := Lib.hid hBg
      clear hw3 hRg hBg hg HCr HIr HBr
      go_wp2_with fail
      go_loopw [57] (fun iv wr => F2Rel w1 w1 g x y bs iv wr) (fun iv _ => 4 - (intOf iv).toNat)
      case atStart => exact ⟨0, x.va, rfl, by omega, HR3.out, fun j hj => absurd hj (Nat.not_lt_zero _), HB3.out⟩
      case round =>
        clear HR3 HB3
        obtain ⟨i, va', rfl, hi4, hR, hO, hB⟩ := hrel
        have HRr := Lib.hid hR
        have HOr := Lib.hid hO
        have HBr := Lib.hid hB
        clear hR hO hB
        by_cases hi : i < 4
        · have p0 : (i : Int) < 4 := by omega
          have p1 : (0 : Int) ≤ (i : Int) := by omega
          obtain ⟨i0, hi0, hz0, hz1, hz2⟩ := info_parts infoBoolN
          obtain ⟨Av, mv, cv, hvi, hvr⟩ := HVA.out i hi
          have hmv : mv ≤ 1000 := by have h1 := hvr.1; have h2 := HBL.out i hi; omega
          have hvr2 := hvr.next (HB0.out.trans (HBr.out.mono HB0.out.size))
          have HVR2 := Lib.hid hvr2
          have HAG := Lib.hid (fun W (h : CB W w.heap.size x) => show W.cell? ⟨w.heap.size, 1 + i * 74 + 73, none⟩ = some (.slice Av mv cv) from by rw [← hvi]; exact h.agr hi)
          have HCr := Lib.hid (CB.next HC0.out HBr.out)
          have hsz1 := HB0.out.size
          have hsz2 := HBr.out.size
          clear hvi hvr hvr2
          go_upto_region 15 with fail
          refine wp_region_G 15 (fun w' => CB w' w.heap.size x ∧ RunB w' g ⟨x.fr, x.N, va'⟩ y (fun _ => .slice none 0 0)) (by kernel_rfl) (⟨HCr.out.next (Below.refl _ _).drew, HRr.out.next (Below.refl _ _).drew⟩) (fun hS => ?_)
          refine wpG 0 ?_ rfl (by kernel_rfl) (fun _ _ _ h => h) (by rfl) (fun wx => ?_) hS ?_
          rotate_left
          · go_simp; (try with_reducible rfl)
          try simp only [pts]
          refine wpG 1 ?_ rfl (by kernel_rfl) (fun _ _ _ h => h) (by rfl) (fun wx => ?_) hS ?_
          rotate_left
          · go_simp; (try with_reducible rfl)
          try simp only [pts]
          refine wpG 2 ?_ rfl (by kernel_rfl) (fun _ _ _ h => h) (by rfl) (fun wx => ?_) hS ?_
          rotate_left
          · go_simp; (try with_reducible rfl)
          try simp only [pts]
          refine wpG 3 ?_ rfl (by kernel_rfl) (fun _ _ _ h => h) (by rfl) (fun wx => ?_) hS ?_
          rotate_left
          · go_simp; (try with_reducible rfl)
          try simp only [pts]
          refine wpG 4 ?_ rfl (by kernel_rfl) (fun _ _ _ h => h) (by rfl) (fun wx => ?_) hS ?_
          rotate_left
          · go_simp; (try with_reducible rfl)
          try simp only [pts]
          refine wpG 5 ?_ rfl (by kernel_rfl) (fun _ _ _ h => h) (by rfl) (fun wx => ?_) hS ?_
          rotate_left
          · go_simp; (try with_reducible rfl)
          try simp only [pts]
          refine wpG 6 ?_ rfl (by kernel_rfl) (fun _ _ _ h => h) (by rfl) (fun wx => ?_) hS ?_
          rotate_left
          · go_simp; (try with_reducible rfl)
          try simp only [pts]
          refine wpT 7 ?_ rfl (by kernel_rfl) (fun _ _ _ h => h) (Or.inl ⟨by rfl, fun wx hSw => ?_⟩) hS ?_
          rotate_left
          · have hq := HAG.out _ hSw.1; (try dsimp only at hSw); go_simp; (try with_reducible rfl)
          try simp only [pts]
          refine wpG 9 ?_ rfl (by kernel_rfl) (fun _ _ _ h => h) (by rfl) (fun wx => ?_) hS ?_
          rotate_left
          · go_simp; (try with_reducible rfl)
          try simp only [pts]
          refine wpG 10 ?_ rfl (by kernel_rfl) (fun _ _ _ h => h) (by rfl) (fun wx => ?_) hS ?_
          rotate_left
          · go_simp; (try with_reducible rfl)
          try simp only [pts]
          refine wpG 11 ?_ rfl (by kernel_rfl) (fun _ _ _ h => h) (by rfl) (fun wx => ?_) hS ?_
          rotate_left
          · go_simp; (try with_reducible rfl)
          try simp only [pts]
          refine wpAnyG_one (i := 8) rfl (by kernel_rfl) (fun K hK => ?_)
          refine step_append_vr _ _ 41 rfl rfl w1.heap.size 4 i0 (.bool false) 1 1 Try.underlying41 hi0 hz0 hz1 hz2 rfl (by decide) (.slice none 0 0) 0 [] rfl (World.ownsRow_nil _ _ _ _) Av mv cv (bs i) rfl (HVR2.out.next (Below.refl _ _).drew) (HBS.out i hi) (by unfold maxLen; omega) (by omega) (by show w1.heap.size ≤ wr.heap.size; omega) (fun v4 w4 ho4 hg4 => ?_)
          have hS4 : CB w4 w.heap.size x ∧ RunB w4 g ⟨x.fr, x.N, va'⟩ y (fun _ => .slice none 0 0) := ⟨Blk.grown hS.1 hg4 (by intro e; cases e), Blk.grown hS.2 hg4 (by intro e; cases e)⟩
          refine hK.out _ _ hS4 ?_
          clear hK K hS
          have hS := hS4
          try simp only [pts]
          rw [Nat.zero_add, List.nil_append] at ho4
          obtain ⟨A4, c4, rfl⟩ := own_shape ho4
          have HO4 := Lib.hid ho4
          have HG4 := Lib.hid hg4
          clear ho4 hg4
          have k73 : w4.cell? ⟨g, 1 + i * 74 + 71 + 2, none⟩ = some (va' i) := by have h := RunB.at_ hS.2 (k := 1 + i * 74 + 73) (by omega); rw [show 1 + i * 74 + 71 + 2 = 1 + i * 74 + 73 by omega, h]; unfold runc; rw [if_pos (by omega), Cl.c_node _ hi (by omega)]; rfl
          have f73 := Blk.frozen hS.2 (1 + i * 74 + 71 + 2)
          have HR4 := Lib.hid hS.2
          refine wpG 12 ?_ rfl (by kernel_rfl) (fun _ _ _ h => h) (by rfl) (fun wx => ?_) hS ?_
          rotate_left
          · go_simp; (try with_reducible rfl)
          try simp only [pts]
          refine wpG 13 ?_ rfl (by kernel_rfl) (fun _ _ _ h => h) (by rfl) (fun wx => ?_) hS ?_
          rotate_left
          · go_simp; (try with_reducible rfl)
          try simp only [pts]
          refine wpG 14 ?_ rfl (by kernel_rfl) (fun _ _ _ h => h) (by rfl) (fun wx => ?_) hS ?_
          rotate_left
          · go_simp; (try with_reducible rfl)
          try simp only [pts]
          refine wpAnyG_last rfl (by kernel_rfl) (by kernel_rfl) (by kernel_rfl) (fun K hK => ?_)
          go_simp
          refine hK.out _ _ ?_
          clear hK K
          try simp only [pts]
          go_wp2_with fail
          go_roundw
          case rel => exact F2Rel.put hi (by go_num) HR4.out HOr.out HBr.out HO4.out (grown_trans (grown_below (Below.refl _ _).drew) HG4.out) hgw (by omega)
          case measure => simp [intOf]; omega
        · obtain rfl : i = 4 := by omega
          have HCr := Lib.hid (CB.next HC0.out HBr.out)
          have HIr := Lib.hid (IB.next HI0.out HBr.out)
          have hsz1 := HB0.out.size
          have H1 := Lib.hid (show FrH x y bs A m c Ls w1 from ⟨HH.out.hid, HH.out.hf0, HH.out.hf1, HH.out.hlv, HH.out.hm, HH.out.hL.next HB0.out, HH.out.hok, HH.out.hrd, HH.out.hbl, HH.out.hbs⟩)
          have hgcl := Blk.lt HC0.out
          have hgil := Blk.lt HI0.out
          have KS := Lib.hid (ph_sense H1.out hgw w.heap.size (w.heap.size + 1) va' HRr.out (fun j hj => HOr.out j hj) HBr.out HCr.out HIr.out (by omega) (by omega))
          have KR := Lib.hid (fun W hS => ph_relay (W := W) H1.out hgw hS)
          have KD := Lib.hid (fun W1 W (hS1 : PhSt w1 g y x.fr (N1 (FX x y Ls) x.N) bs (B1 (FX x y Ls)) W1) hS => ph_decide (W := W) H1.out (fun i hi hb j => N2_di_in (x := FX x y Ls) hb hi H1.out.hrd (PhSt.ms hS1 i hi) j) hgw hS)
          have KP := Lib.hid (fun W hS => ph_pass (W := W) H1.out hgw hS)
          have KJ := Lib.hid (fun W1 W (hS1 : PhSt w1 g y x.fr (N3 (FX x y Ls) x.N) bs (B3 (FX x y Ls) x.N) W1) hS => ph_judge (W := W) H1.out (fun i hi hb j => N4_he_in (x := FX x y Ls) hb (PhSt.ms hS1 i hi) j) hgw hS)
          clear HRr HOr HBr HCr HIr
          go_upto_region 22 with (first
            | (go_at_call 50; (with_reducible refine (KS.out).mono ?_); rintro e v1 ⟨rfl, hS1⟩; have HS1 := Lib.hid hS1; clear hS1)
            | (go_at_call 50; (with_reducible refine (KR.out _ HS1.out).mono ?_); rintro e v2 ⟨rfl, hS2⟩; have HS2 := Lib.hid hS2; clear hS2)
            | (go_at_call 50; (with_reducible refine (KD.out _ _ HS1.out HS2.out).mono ?_); rintro e v3 ⟨rfl, hS3⟩; have HS3 := Lib.hid hS3; clear hS3)
            | (go_at_call 50; (with_reducible refine (KP.out _ HS3.out).mono ?_); rintro e v4 ⟨rfl, hS4⟩; have HS4 := Lib.hid hS4; clear hS4)
            | (go_at_call 50; (with_reducible refine (KJ.out _ _ HS3.out HS4.out).mono ?_); rintro e v5 ⟨rfl, hS5⟩; have HS5 := Lib.hid hS5; clear hS5))
          clear KS KR KD KP KJ HS1 HS2 HS3 HS4
          have HS := Lib.hid (F3Rel.start HS5.out H1.out.lies)
          have H5 := Lib.hid (show Below w1.heap.size w1 v5 from by obtain ⟨_, _, _, _, _, _, _, h⟩ := HS5.out; exact h)
          clear HS5
          go_upto_region 24 with fail
          go_loopw [11, 87] (fun ov iv wr => F3Rel w1 v5.heap.size g x y Ls bs ov iv wr) (fun _ iv _ => 4 - (intOf iv).toNat)
          case atStart => exact HS.out
          case round =>
            clear HS
            obtain ⟨i, N', va3, bx, Ms, rfl, hi4, hR, hX, hA, hD, hN, hMl, hO, hB, hB3, hvl⟩ := hrel
            obtain ⟨Ao, co, rfl⟩ := own_shape hO
            have c12 := (IB.next HI0.out hB).bad
            have HVL := Lib.hid hvl
            have h15 := H5.out.size
            have HRr := Lib.hid hR
            have HXr := Lib.hid hX
            have HAr := Lib.hid hA
            have HDr := Lib.hid hD
            have HNr := Lib.hid hN
            have HMl := Lib.hid hMl
            have HOr := Lib.hid hO
            have HBr := Lib.hid hB
            clear hR hX hA hD hN hMl hO hB hvl
            by_cases hi : i < 4
            · have p0 : (i : Int) < 4 := by omega
              have p1 : (0 : Int) ≤ (i : Int) := by omega
              by_cases hb : (i : Int) = y.bad
              · have q1 : ((i : Int) == y.bad) = true := by simpa using hb
                have HBD := Lib.hid hb
                clear hb
                go_wp2_with (first | go_big_skip)
                go_roundw
                case rel => exact F3Rel.skip hi (by go_num) HRr.out HXr.out HAr.out HDr.out HNr.out HMl.out HOr.out HBr.out hB3 HVL.out HBD.out
                case measure => simp [intOf]; omega
              · have q1 : ((i : Int) == y.bad) = false := by simpa using hb
                have HBD := Lib.hid hb
                clear hb
                go_upto_region 27 with fail
                have hn5 : N' i = N5 (FX x y Ls) x.N i := HNr.out i (Nat.le_refl _)
                obtain ⟨Av, cv, hva3⟩ := own_shape (HAr.out i hi)
                have hvr : VR wr 1 Av (agB (FX x y Ls) x.N bs i).length cv (agB (FX x y Ls) x.N bs i) := by have h := HAr.out i hi; rw [hva3] at h; exact VR.own h
                obtain ⟨Ab, cb, hob, hmr⟩ := HXr.out.mr hi
                have hbF : ¬ (i : Int) = (FX x y Ls).bad := HBD.out
                have hid5 : (N5 (FX x y Ls) x.N i).id = (i : Int) := (N5_keep hbF).1.trans (HID.out i hi)
                have hml := HMl.out i hi
                have KF := Lib.hid (fun W (hW : Below wr.heap.size wr W) => Close_any (N5 (FX x y Ls) x.N i) Av (agB (FX x y Ls) x.N bs i).length cv (agB (FX x y Ls) x.N bs i) Ab (Ms i).length cb (Ms i) (by rw [hid5]; omega) (by rw [hid5]; omega) (N5_ok hbF (HH.out.hok i hi)).2 W (hvr.next hW) (agB_one hbF hi) (by have := agB_len (x := FX x y Ls) (N := x.N) (bs := bs) hbF hi; omega) (hmr.next hW) (by omega))
                have HNR := Lib.hid (fun W (hW : Below wr.heap.size wr W) => show W.rangeAt g (1 + i * 74) (NA (N5 (FX x y Ls) x.N i) (.slice Av (agB (FX x y Ls) x.N bs i).length cv)).toList from by
                  have h := (HRr.out.next hW).nodeR hi
                  simp only [hn5] at h
                  rw [hva3] at h
                  exact h)
                have HOB := Lib.hid (fun W (hW : Below wr.heap.size wr W) => show W.cell? ⟨g, 311 + i, none⟩ = some (.slice Ab (Ms i).length cb) from by
                  have h := (HRr.out.next hW).box hi
                  rw [hob] at h
                  exact h)
                clear hn5 hva3 hvr hob hmr hid5 hml hbF
                go_cut [13, 14] (fun s13 s14 wx => CcCut wr (N5 (FX x y Ls) x.N i) (agB (FX x y Ls) x.N bs i) s13 s14 wx)
                case first =>
                  --FAST
                  refine wp_region_G 20 (fun w' => Below wr.heap.size wr w') (by kernel_rfl) ((Below.refl _ _).drew) (fun hS => ?_)
                  refine wpG 0 ?_ rfl (by kernel_rfl) (fun _ _ _ h => h) (by rfl) (fun wx => ?_) hS ?_
                  rotate_left
                  · go_simp; (try with_reducible rfl)
                  try simp only [pts]
                  refine wpG 1 ?_ rfl (by kernel_rfl) (fun _ _ _ h => h) (by rfl) (fun wx => ?_) hS ?_
                  rotate_left
                  · go_simp; (try with_reducible rfl)
                  try simp only [pts]
                  refine wpG 2 ?_ rfl (by kernel_rfl) (fun _ _ _ h => h) (by rfl) (fun wx => ?_) hS ?_
                  rotate_left
                  · go_simp; (try with_reducible rfl)
                  try simp only [pts]
                  refine wpG 3 ?_ rfl (by kernel_rfl) (fun _ _ _ h => h) (by rfl) (fun wx => ?_) hS ?_
                  rotate_left
                  · go_simp; (try with_reducible rfl)
                  try simp only [pts]
                  refine wpG 4 ?_ rfl (by kernel_rfl) (fun _ _ _ h => h) (by rfl) (fun wx => ?_) hS ?_
                  rotate_left
                  · go_simp; (try with_reducible rfl)
                  try simp only [pts]
                  refine wpG 5 ?_ rfl (by kernel_rfl) (fun _ _ _ h => h) (by rfl) (fun wx => ?_) hS ?_
                  rotate_left
                  · go_simp; (try with_reducible rfl)
                  try simp only [pts]
                  refine wpAnyG_take (i := 6) (v := .agg (NA (N5 (FX x y Ls) x.N i) (.slice Av (agB (FX x y Ls) x.N bs i).length cv))) rfl (by kernel_rfl) (by kernel_rfl) (by kernel_rfl) (by kernel_rfl) (by kernel_rfl) (by kernel_rfl) (fun _ _ _ h => h) (Or.inl ⟨by rfl, fun wx hSw => exec_load_node (.tmp 100) rfl g (1 + i * 74) rfl (N5 (FX x y Ls) x.N i) _ (HNR.out _ hSw)⟩) hS ?_
                  try simp only [pts]
                  refine wpG 7 ?_ rfl (by kernel_rfl) (fun _ _ _ h => h) (by rfl) (fun wx => ?_) hS ?_
                  rotate_left
                  · go_simp; (try with_reducible rfl)
                  try simp only [pts]
                  refine wpG 8 ?_ rfl (by kernel_rfl) (fun _ _ _ h => h) (by rfl) (fun wx => ?_) hS ?_
                  rotate_left
                  · go_simp; (try with_reducible rfl)
                  try simp only [pts]
                  refine wpG 9 ?_ rfl (by kernel_rfl) (fun _ _ _ h => h) (by rfl) (fun wx => ?_) hS ?_
                  rotate_left
                  · go_simp; (try with_reducible rfl)
                  try simp only [pts]
                  refine wpG 10 ?_ rfl (by kernel_rfl) (fun _ _ _ h => h) (by rfl) (fun wx => ?_) hS ?_
                  rotate_left
                  · go_simp; (try with_reducible rfl)
                  try simp only [pts]
                  refine wpG 11 ?_ rfl (by kernel_rfl) (fun _ _ _ h => h) (by rfl) (fun wx => ?_) hS ?_
                  rotate_left
                  · go_simp; (try with_reducible rfl)
                  try simp only [pts]
                  refine wpT 12 ?_ rfl (by kernel_rfl) (fun _ _ _ h => h) (Or.inl ⟨by rfl, fun wx hSw => ?_⟩) hS ?_
                  rotate_left
                  · have hq := HOB.out _ hSw; (try dsimp only at hSw); go_simp; (try with_reducible rfl)
                  try simp only [pts]
                  refine wpAnyG_three (i := 13) (j := 17) (k := 18) rfl rfl rfl (by kernel_rfl) (fun K hK => ?_) (fun K hK => ?_) (fun K hK => ?_)
                  · go_simp
                    (with_reducible refine (KF.out _ hS).mono ?_)
                    rintro e w6 ⟨n6, A', c', rfl, hO6, hB6, hlk6, heq6⟩
                    have hs0 := hS.size
                    have hS6 := hS.trans (hB6.mono hs0)
                    have hs6 := hS6.size
                    have hsz6 := hB6.size
                    have hO := own_le hO6 hs0
                    have HLK := Lib.hid hlk6
                    have HEQ := Lib.hid heq6
                    clear hO6 hB6 hS hlk6 heq6
                    have hS := hS6
                    refine hK.out _ _ hS ?_
                    clear hK K
                    try simp only [pts]
                    refine wpG 14 ?_ rfl (by kernel_rfl) (fun _ _ _ h => h) (by rfl) (fun wx => ?_) hS ?_
                    rotate_left
                    · go_simp; (try with_reducible rfl)
                    try simp only [pts]
                    refine wpG 15 ?_ rfl (by kernel_rfl) (fun _ _ _ h => h) (by rfl) (fun wx => ?_) hS ?_
                    rotate_left
                    · go_simp; (try with_reducible rfl)
                    try simp only [pts]
                    refine wpG 16 ?_ rfl (by kernel_rfl) (fun _ _ _ h => h) (by rfl) (fun wx => ?_) hS ?_
                    rotate_left
                    · go_simp; (try with_reducible rfl)
                    try simp only [pts]
                    refine wpAnyG_two (i := 17) (j := 18) rfl rfl (by kernel_rfl) (fun K hK => ?_) (fun K hK => ?_)
                    · go_simp
                      have hX1c : Below wr.heap.size wr (w6.alloc (.cells Try.zeroCells45 45)) := hS6.alloc hS6.size _
                      clear hS
                      have hS : Below wr.heap.size wr (w6.alloc (.cells Try.zeroCells45 45)) := hX1c
                      have hz : Blk (w6.alloc (.cells Try.zeroCells45 45)) (w6.heap.size) 45 Try.zeroCells45 := Blk.at_ w6 (w6.heap.size) _ _ (by simp)
                      have hO1 := own_below hO ((Below.refl _ _).alloc (Nat.le_refl _) (.cells Try.zeroCells45 45)) (fun x hx => (hO.lt x hx).2)
                      clear hO
                      have hO := hO1
                      clear hO1
                      refine hK.out _ _ hS ?_
                      clear hK K
                      try simp only [pts]
                      refine wpAnyG_one (i := 18) rfl (by kernel_rfl) (fun K hK => ?_)
                      go_simp
                      have hX2c : Below wr.heap.size wr ((w6.alloc (.cells Try.zeroCells45 45)).alloc (.cells #[.int .i64 0, .int .i64 0, .int .i64 0, .int .i64 0, .int .i64 0, .int .i64 0, .int .i64 0, .int .i64 0, .int .i64 0, .bool false, .bool false, .bool false, .bool false, .bool false] 60)) := hX1c.alloc hX1c.size _
                      clear hS
                      have hS : Below wr.heap.size wr ((w6.alloc (.cells Try.zeroCells45 45)).alloc (.cells #[.int .i64 0, .int .i64 0, .int .i64 0, .int .i64 0, .int .i64 0, .int .i64 0, .int .i64 0, .int .i64 0, .int .i64 0, .bool false, .bool false, .bool false, .bool false, .bool false] 60)) := hX2c
                      have hz1 : Blk ((w6.alloc (.cells Try.zeroCells45 45)).alloc (.cells #[.int .i64 0, .int .i64 0, .int .i64 0, .int .i64 0, .int .i64 0, .int .i64 0, .int .i64 0, .int .i64 0, .int .i64 0, .bool false, .bool false, .bool false, .bool false, .bool false] 60)) (w6.heap.size) 45 _ := hz.alloc _
                      clear hz
                      have hz := hz1
                      have hm : Blk ((w6.alloc (.cells Try.zeroCells45 45)).alloc (.cells #[.int .i64 0, .int .i64 0, .int .i64 0, .int .i64 0, .int .i64 0, .int .i64 0, .int .i64 0, .int .i64 0, .int .i64 0, .bool false, .bool false, .bool false, .bool false, .bool false] 60)) (w6.heap.size + 1) 60 #[.int .i64 0, .int .i64 0, .int .i64 0, .int .i64 0, .int .i64 0, .int .i64 0, .int .i64 0, .int .i64 0, .int .i64 0, .bool false, .bool false, .bool false, .bool false, .bool false] := Blk.at_ (w6.alloc (.cells Try.zeroCells45 45)) (w6.heap.size + 1) _ _ (by simp)
                      have hO1 := own_below hO ((Below.refl _ _).alloc (Nat.le_refl _) (.cells #[.int .i64 0, .int .i64 0, .int .i64 0, .int .i64 0, .int .i64 0, .int .i64 0, .int .i64 0, .int .i64 0, .int .i64 0, .bool false, .bool false, .bool false, .bool false, .bool false] 60)) (fun x hx => (hO.lt x hx).2)
                      clear hO
                      have hO := hO1
                      clear hO1
                      refine hK.out _ _ hS ?_
                      clear hK K
                      try simp only [pts]
                      have hsz : (Try.zeroCells45).size = 74 := by kernel_rfl
                      refine wpAnyG_one (i := 19) rfl (by kernel_rfl) (fun K hK => ?_)
                      rw [if_pos (by rfl)]
                      refine wp_store_row 45 (.tmp 13) (.tmp 109) rfl (w6.heap.size) _ _ (NA n6 (.slice A' (agB (FX x y Ls) x.N bs i).length c')) rfl rfl hz (by rw [NA_size, hsz]) (by rw [NA_size]; exact infoNode) (NA_one _ _ _ _) (fun w7 hN7 hg7 => ?_)
                      have hS7 := hS.grown hg7 hS.size (fun j hj => by cases hj; omega)
                      refine hK.out _ _ hS7 ?_
                      clear hK K
                      try simp only [pts]
                      refine wpAnyG_last rfl (by kernel_rfl) (by kernel_rfl) (by kernel_rfl) (fun K hK => ?_)
                      rw [if_pos (by rfl)]
                      refine wp_store_row 60 (.tmp 14) (.tmp 110) rfl (w6.heap.size + 1) _ _ (repC n6) rfl rfl (hm.grown hg7 (by intro e; have := Option.some.inj e; omega)) rfl info14 (repTo_one _ _) (fun w8 hM8 hg8 => ?_)
                      refine hK.out _ _ ?_
                      clear hK K
                      try simp only [pts]
                      go_wp2_with fail
                      go_meet
                      exact cc_cut (by omega) (by omega) (by omega) hz hm hO hS hN7 hg7 hM8 hg8 HLK.out HEQ.out
                    · go_simp
                      have hX1c : Below wr.heap.size wr (w6.alloc (.cells #[.int .i64 0, .int .i64 0, .int .i64 0, .int .i64 0, .int .i64 0, .int .i64 0, .int .i64 0, .int .i64 0, .int .i64 0, .bool false, .bool false, .bool false, .bool false, .bool false] 60)) := hS6.alloc hS6.size _
                      clear hS
                      have hS : Below wr.heap.size wr (w6.alloc (.cells #[.int .i64 0, .int .i64 0, .int .i64 0, .int .i64 0, .int .i64 0, .int .i64 0, .int .i64 0, .int .i64 0, .int .i64 0, .bool false, .bool false, .bool false, .bool false, .bool false] 60)) := hX1c
                      have hm : Blk (w6.alloc (.cells #[.int .i64 0, .int .i64 0, .int .i64 0, .int .i64 0, .int .i64 0, .int .i64 0, .int .i64 0, .int .i64 0, .int .i64 0, .bool false, .bool false, .bool false, .bool false, .bool false] 60)) (w6.heap.size) 60 #[.int .i64 0, .int .i64 0, .int .i64 0, .int .i64 0, .int .i64 0, .int .i64 0, .int .i64 0, .int .i64 0, .int .i64 0, .bool false, .bool false, .bool false, .bool false, .bool false] := Blk.at_ w6 (w6.heap.size) _ _ (by simp)
                      have hO1 := own_below hO ((Below.refl _ _).alloc (Nat.le_refl _) (.cells #[.int .i64 0, .int .i64 0, .int .i64 0, .int .i64 0, .int .i64 0, .int .i64 0, .int .i64 0, .int .i64 0, .int .i64 0, .bool false, .bool false, .bool false, .bool false, .bool false] 60)) (fun x hx => (hO.lt x hx).2)
                      clear hO
                      have hO := hO1
                      clear hO1
                      refine hK.out _ _ hS ?_
                      clear hK K
                      try simp only [pts]
                      refine wpAnyG_one (i := 17) rfl (by kernel_rfl) (fun K hK => ?_)
                      go_simp
                      have hX2c : Below wr.heap.size wr ((w6.alloc (.cells #[.int .i64 0, .int .i64 0, .int .i64 0, .int .i64 0, .int .i64 0, .int .i64 0, .int .i64 0, .int .i64 0, .int .i64 0, .bool false, .bool false, .bool false, .bool false, .bool false] 60)).alloc (.cells Try.zeroCells45 45)) := hX1c.alloc hX1c.size _
                      clear hS
                      have hS : Below wr.heap.size wr ((w6.alloc (.cells #[.int .i64 0, .int .i64 0, .int .i64 0, .int .i64 0, .int .i64 0, .int .i64 0, .int .i64 0, .int .i64 0, .int .i64 0, .bool false, .bool false, .bool false, .bool false, .bool false] 60)).alloc (.cells Try.zeroCells45 45)) := hX2c
                      have hm1 : Blk ((w6.alloc (.cells #[.int .i64 0, .int .i64 0, .int .i64 0, .int .i64 0, .int .i64 0, .int .i64 0, .int .i64 0, .int .i64 0, .int .i64 0, .bool false, .bool false, .bool false, .bool false, .bool false] 60)).alloc (.cells Try.zeroCells45 45)) (w6.heap.size) 60 _ := hm.alloc _
                      clear hm
                      have hm := hm1
                      have hz : Blk ((w6.alloc (.cells #[.int .i64 0, .int .i64 0, .int .i64 0, .int .i64 0, .int .i64 0, .int .i64 0, .int .i64 0, .int .i64 0, .int .i64 0, .bool false, .bool false, .bool false, .bool false, .bool false] 60)).alloc (.cells Try.zeroCells45 45)) (w6.heap.size + 1) 45 Try.zeroCells45 := Blk.at_ (w6.alloc (.cells #[.int .i64 0, .int .i64 0, .int .i64 0, .int .i64 0, .int .i64 0, .int .i64 0, .int .i64 0, .int .i64 0, .int .i64 0, .bool false, .bool false, .bool false, .bool false, .bool false] 60)) (w6.heap.size + 1) _ _ (by simp)
                      have hO1 := own_below hO ((Below.refl _ _).alloc (Nat.le_refl _) (.cells Try.zeroCells45 45)) (fun x hx => (hO.lt x hx).2)
                      clear hO
                      have hO := hO1
                      clear hO1
                      refine hK.out _ _ hS ?_
                      clear hK K
                      try simp only [pts]
                      have hsz : (Try.zeroCells45).size = 74 := by kernel_rfl
                      refine wpAnyG_one (i := 19) rfl (by kernel_rfl) (fun K hK => ?_)
                      rw [if_pos (by rfl)]
                      refine wp_store_row 45 (.tmp 13) (.tmp 109) rfl (w6.heap.size + 1) _ _ (NA n6 (.slice A' (agB (FX x y Ls) x.N bs i).length c')) rfl rfl hz (by rw [NA_size, hsz]) (by rw [NA_size]; exact infoNode) (NA_one _ _ _ _) (fun w7 hN7 hg7 => ?_)
                      have hS7 := hS.grown hg7 hS.size (fun j hj => by cases hj; omega)
                      refine hK.out _ _ hS7 ?_
                      clear hK K
                      try simp only [pts]
                      refine wpAnyG_last rfl (by kernel_rfl) (by kernel_rfl) (by kernel_rfl) (fun K hK => ?_)
                      rw [if_pos (by rfl)]
                      refine wp_store_row 60 (.tmp 14) (.tmp 110) rfl (w6.heap.size) _ _ (repC n6) rfl rfl (hm.grown hg7 (by intro e; have := Option.some.inj e; omega)) rfl info14 (repTo_one _ _) (fun w8 hM8 hg8 => ?_)
                      refine hK.out _ _ ?_
                      clear hK K
                      try simp only [pts]
                      go_wp2_with fail
                      go_meet
                      exact cc_cut (by omega) (by omega) (by omega) hz hm hO hS hN7 hg7 hM8 hg8 HLK.out HEQ.out
                  · go_simp
                    have hX1 : Below wr.heap.size wr (wr.alloc (.cells Try.zeroCells45 45)) := (Below.refl wr.heap.size wr).alloc (Below.refl wr.heap.size wr).size _
                    clear hS
                    have hS : Below wr.heap.size wr (wr.alloc (.cells Try.zeroCells45 45)).drew := hX1.drew
                    have hz : Blk (wr.alloc (.cells Try.zeroCells45 45)).drew (wr.heap.size) 45 Try.zeroCells45 := Blk.at_ wr (wr.heap.size) _ _ (by simp)
                    refine hK.out _ _ hS ?_
                    clear hK K
                    try simp only [pts]
                    refine wpAnyG_two (i := 13) (j := 18) rfl rfl (by kernel_rfl) (fun K hK => ?_) (fun K hK => ?_)
                    · go_simp
                      (with_reducible refine (KF.out _ hS).mono ?_)
                      rintro e w6 ⟨n6, A', c', rfl, hO6, hB6, hlk6, heq6⟩
                      have hs0 := hS.size
                      have hS6 := hS.trans (hB6.mono hs0)
                      have hs6 := hS6.size
                      have hsz6 := hB6.size
                      have hlz := Blk.lt hz
                      have hz6 := hz.next hB6
                      clear hz
                      have hz := hz6
                      have hO := own_le hO6 hs0
                      have HLK := Lib.hid hlk6
                      have HEQ := Lib.hid heq6
                      clear hO6 hB6 hS hlk6 heq6
                      have hS := hS6
                      refine hK.out _ _ hS ?_
                      clear hK K
                      try simp only [pts]
                      refine wpG 14 ?_ rfl (by kernel_rfl) (fun _ _ _ h => h) (by rfl) (fun wx => ?_) hS ?_
                      rotate_left
                      · go_simp; (try with_reducible rfl)
                      try simp only [pts]
                      refine wpG 15 ?_ rfl (by kernel_rfl) (fun _ _ _ h => h) (by rfl) (fun wx => ?_) hS ?_
                      rotate_left
                      · go_simp; (try with_reducible rfl)
                      try simp only [pts]
                      refine wpG 16 ?_ rfl (by kernel_rfl) (fun _ _ _ h => h) (by rfl) (fun wx => ?_) hS ?_
                      rotate_left
                      · go_simp; (try with_reducible rfl)
                      try simp only [pts]
                      refine wpAnyG_one (i := 18) rfl (by kernel_rfl) (fun K hK => ?_)
                      go_simp
                      have hX1c : Below wr.heap.size wr (w6.alloc (.cells #[.int .i64 0, .int .i64 0, .int .i64 0, .int .i64 0, .int .i64 0, .int .i64 0, .int .i64 0, .int .i64 0, .int .i64 0, .bool false, .bool false, .bool false, .bool false, .bool false] 60)) := hS6.alloc hS6.size _
                      clear hS
                      have hS : Below wr.heap.size wr (w6.alloc (.cells #[.int .i64 0, .int .i64 0, .int .i64 0, .int .i64 0, .int .i64 0, .int .i64 0, .int .i64 0, .int .i64 0, .int .i64 0, .bool false, .bool false, .bool false, .bool false, .bool false] 60)) := hX1c
                      have hz1 : Blk (w6.alloc (.cells #[.int .i64 0, .int .i64 0, .int .i64 0, .int .i64 0, .int .i64 0, .int .i64 0, .int .i64 0, .int .i64 0, .int .i64 0, .bool false, .bool false, .bool false, .bool false, .bool false] 60)) (wr.heap.size) 45 _ := hz.alloc _
                      clear hz
                      have hz := hz1
                      have hm : Blk (w6.alloc (.cells #[.int .i64 0, .int .i64 0, .int .i64 0, .int .i64 0, .int .i64 0, .int .i64 0, .int .i64 0, .int .i64 0, .int .i64 0, .bool false, .bool false, .bool false, .bool false, .bool false] 60)) (w6.heap.size) 60 #[.int .i64 0, .int .i64 0, .int .i64 0, .int .i64 0, .int .i64 0, .int .i64 0, .int .i64 0, .int .i64 0, .int .i64 0, .bool false, .bool false, .bool false, .bool false, .bool false] := Blk.at_ w6 (w6.heap.size) _ _ (by simp)
                      have hO1 := own_below hO ((Below.refl _ _).alloc (Nat.le_refl _) (.cells #[.int .i64 0, .int .i64 0, .int .i64 0, .int .i64 0, .int .i64 0, .int .i64 0, .int .i64 0, .int .i64 0, .int .i64 0, .bool false, .bool false, .bool false, .bool false, .bool false] 60)) (fun x hx => (hO.lt x hx).2)
                      clear hO
                      have hO := hO1
                      clear hO1
                      refine hK.out _ _ hS ?_
                      clear hK K
                      try simp only [pts]
                      have hsz : (Try.zeroCells45).size = 74 := by kernel_rfl
                      refine wpAnyG_one (i := 19) rfl (by kernel_rfl) (fun K hK => ?_)
                      rw [if_pos (by rfl)]
                      refine wp_store_row 45 (.tmp 13) (.tmp 109) rfl (wr.heap.size) _ _ (NA n6 (.slice A' (agB (FX x y Ls) x.N bs i).length c')) rfl rfl hz (by rw [NA_size, hsz]) (by rw [NA_size]; exact infoNode) (NA_one _ _ _ _) (fun w7 hN7 hg7 => ?_)
                      have hS7 := hS.grown hg7 hS.size (fun j hj => by cases hj; omega)
                      refine hK.out _ _ hS7 ?_
                      clear hK K
                      try simp only [pts]
                      refine wpAnyG_last rfl (by kernel_rfl) (by kernel_rfl) (by kernel_rfl) (fun K hK => ?_)
                      rw [if_pos (by rfl)]
                      refine wp_store_row 60 (.tmp 14) (.tmp 110) rfl (w6.heap.size) _ _ (repC n6) rfl rfl (hm.grown hg7 (by intro e; have := Option.some.inj e; omega)) rfl info14 (repTo_one _ _) (fun w8 hM8 hg8 => ?_)
                      refine hK.out _ _ ?_
                      clear hK K
                      try simp only [pts]
                      go_wp2_with fail
                      go_meet
                      exact cc_cut (by omega) (by omega) (by omega) hz hm hO hS hN7 hg7 hM8 hg8 HLK.out HEQ.out
                    · go_simp
                      have hX2 : Below wr.heap.size wr ((wr.alloc (.cells Try.zeroCells45 45)).alloc (.cells #[.int .i64 0, .int .i64 0, .int .i64 0, .int .i64 0, .int .i64 0, .int .i64 0, .int .i64 0, .int .i64 0, .int .i64 0, .bool false, .bool false, .bool false, .bool false, .bool false] 60)) := hX1.alloc hX1.size _
                      clear hS
                      have hS : Below wr.heap.size wr ((wr.alloc (.cells Try.zeroCells45 45)).alloc (.cells #[.int .i64 0, .int .i64 0, .int .i64 0, .int .i64 0, .int .i64 0, .int .i64 0, .int .i64 0, .int .i64 0, .int .i64 0, .bool false, .bool false, .bool false, .bool false, .bool false] 60)).drew := hX2.drew
                      have hz1 : Blk ((wr.alloc (.cells Try.zeroCells45 45)).alloc (.cells #[.int .i64 0, .int .i64 0, .int .i64 0, .int .i64 0, .int .i64 0, .int .i64 0, .int .i64 0, .int .i64 0, .int .i64 0, .bool false, .bool false, .bool false, .bool false, .bool false] 60)).drew (wr.heap.size) 45 _ := hz.alloc _
                      clear hz
                      have hz := hz1
                      have hm : Blk ((wr.alloc (.cells Try.zeroCells45 45)).alloc (.cells #[.int .i64 0, .int .i64 0, .int .i64 0, .int .i64 0, .int .i64 0, .int .i64 0, .int .i64 0, .int .i64 0, .int .i64 0, .bool false, .bool false, .bool false, .bool false, .bool false] 60)).drew (wr.heap.size + 1) 60 #[.int .i64 0, .int .i64 0, .int .i64 0, .int .i64 0, .int .i64 0, .int .i64 0, .int .i64 0, .int .i64 0, .int .i64 0, .bool false, .bool false, .bool false, .bool false, .bool false] := Blk.at_ (wr.alloc (.cells Try.zeroCells45 45)) (wr.heap.size + 1) _ _ (by simp)
                      refine hK.out _ _ hS ?_
                      clear hK K
                      try simp only [pts]
                      refine wpAnyG_one (i := 13) rfl (by kernel_rfl) (fun K hK => ?_)
                      go_simp
                      (with_reducible refine (KF.out _ hS).mono ?_)
                      rintro e w6 ⟨n6, A', c', rfl, hO6, hB6, hlk6, heq6⟩
                      have hs0 := hS.size
                      have hS6 := hS.trans (hB6.mono hs0)
                      have hs6 := hS6.size
                      have hsz6 := hB6.size
                      have hlz := Blk.lt hz
                      have hz6 := hz.next hB6
                      clear hz
                      have hz := hz6
                      have hlm := Blk.lt hm
                      have hm6 := hm.next hB6
                      clear hm
                      have hm := hm6
                      have hO := own_le hO6 hs0
                      have HLK := Lib.hid hlk6
                      have HEQ := Lib.hid heq6
                      clear hO6 hB6 hS hlk6 heq6
                      have hS := hS6
                      refine hK.out _ _ hS ?_
                      clear hK K
                      try simp only [pts]
                      refine wpG 14 ?_ rfl (by kernel_rfl) (fun _ _ _ h => h) (by rfl) (fun wx => ?_) hS ?_
                      rotate_left
                      · go_simp; (try with_reducible rfl)
                      try simp only [pts]
                      refine wpG 15 ?_ rfl (by kernel_rfl) (fun _ _ _ h => h) (by rfl) (fun wx => ?_) hS ?_
                      rotate_left
                      · go_simp; (try with_reducible rfl)
                      try simp only [pts]
                      refine wpG 16 ?_ rfl (by kernel_rfl) (fun _ _ _ h => h) (by rfl) (fun wx => ?_) hS ?_
                      rotate_left
                      · go_simp; (try with_reducible rfl)
                      try simp only [pts]
                      have hsz : (Try.zeroCells45).size = 74 := by kernel_rfl
                      refine wpAnyG_one (i := 19) rfl (by kernel_rfl) (fun K hK => ?_)
                      rw [if_pos (by rfl)]
                      refine wp_store_row 45 (.tmp 13) (.tmp 109) rfl (wr.heap.size) _ _ (NA n6 (.slice A' (agB (FX x y Ls) x.N bs i).length c')) rfl rfl hz (by rw [NA_size, hsz]) (by rw [NA_size]; exact infoNode) (NA_one _ _ _ _) (fun w7 hN7 hg7 => ?_)
                      have hS7 := hS.grown hg7 hS.size (fun j hj => by cases hj; omega)
                      refine hK.out _ _ hS7 ?_
                      clear hK K
                      try simp only [pts]
                      refine wpAnyG_last rfl (by kernel_rfl) (by kernel_rfl) (by kernel_rfl) (fun K hK => ?_)
                      rw [if_pos (by rfl)]
                      refine wp_store_row 60 (.tmp 14) (.tmp 110) rfl (wr.heap.size + 1) _ _ (repC n6) rfl rfl (hm.grown hg7 (by intro e; have := Option.some.inj e; omega)) rfl info14 (repTo_one _ _) (fun w8 hM8 hg8 => ?_)
                      refine hK.out _ _ ?_
                      clear hK K
                      try simp only [pts]
                      go_wp2_with fail
                      go_meet
                      exact cc_cut (by omega) (by omega) (by omega) hz hm hO hS hN7 hg7 hM8 hg8 HLK.out HEQ.out
                  · go_simp
                    have hX1 : Below wr.heap.size wr (wr.alloc (.cells #[.int .i64 0, .int .i64 0, .int .i64 0, .int .i64 0, .int .i64 0, .int .i64 0, .int .i64 0, .int .i64 0, .int .i64 0, .bool false, .bool false, .bool false, .bool false, .bool false] 60)) := (Below.refl wr.heap.size wr).alloc (Below.refl wr.heap.size wr).size _
                    clear hS
                    have hS : Below wr.heap.size wr (wr.alloc (.cells #[.int .i64 0, .int .i64 0, .int .i64 0, .int .i64 0, .int .i64 0, .int .i64 0, .int .i64 0, .int .i64 0, .int .i64 0, .bool false, .bool false, .bool false, .bool false, .bool false] 60)).drew := hX1.drew
                    have hm : Blk (wr.alloc (.cells #[.int .i64 0, .int .i64 0, .int .i64 0, .int .i64 0, .int .i64 0, .int .i64 0, .int .i64 0, .int .i64 0, .int .i64 0, .bool false, .bool false, .bool false, .bool false, .bool false] 60)).drew (wr.heap.size) 60 #[.int .i64 0, .int .i64 0, .int .i64 0, .int .i64 0, .int .i64 0, .int .i64 0, .int .i64 0, .int .i64 0, .int .i64 0, .bool false, .bool false, .bool false, .bool false, .bool false] := Blk.at_ wr (wr.heap.size) _ _ (by simp)
                    refine hK.out _ _ hS ?_
                    clear hK K
                    try simp only [pts]
                    refine wpAnyG_two (i := 13) (j := 17) rfl rfl (by kernel_rfl) (fun K hK => ?_) (fun K hK => ?_)
                    · go_simp
                      (with_reducible refine (KF.out _ hS).mono ?_)
                      rintro e w6 ⟨n6, A', c', rfl, hO6, hB6, hlk6, heq6⟩
                      have hs0 := hS.size
                      have hS6 := hS.trans (hB6.mono hs0)
                      have hs6 := hS6.size
                      have hsz6 := hB6.size
                      have hlm := Blk.lt hm
                      have hm6 := hm.next hB6
                      clear hm
                      have hm := hm6
                      have hO := own_le hO6 hs0
                      have HLK := Lib.hid hlk6
                      have HEQ := Lib.hid heq6
                      clear hO6 hB6 hS hlk6 heq6
                      have hS := hS6
                      refine hK.out _ _ hS ?_
                      clear hK K
                      try simp only [pts]
                      refine wpG 14 ?_ rfl (by kernel_rfl) (fun _ _ _ h => h) (by rfl) (fun wx => ?_) hS ?_
                      rotate_left
                      · go_simp; (try with_reducible rfl)
                      try simp only [pts]
                      refine wpG 15 ?_ rfl (by kernel_rfl) (fun _ _ _ h => h) (by rfl) (fun wx => ?_) hS ?_
                      rotate_left
                      · go_simp; (try with_reducible rfl)
                      try simp only [pts]
                      refine wpG 16 ?_ rfl (by kernel_rfl) (fun _ _ _ h => h) (by rfl) (fun wx => ?_) hS ?_
                      rotate_left
                      · go_simp; (try with_reducible rfl)
                      try simp only [pts]
                      refine wpAnyG_one (i := 17) rfl (by kernel_rfl) (fun K hK => ?_)
                      go_simp
                      have hX1c : Below wr.heap.size wr (w6.alloc (.cells Try.zeroCells45 45)) := hS6.alloc hS6.size _
                      clear hS
                      have hS : Below wr.heap.size wr (w6.alloc (.cells Try.zeroCells45 45)) := hX1c
                      have hm1 : Blk (w6.alloc (.cells Try.zeroCells45 45)) (wr.heap.size) 60 _ := hm.alloc _
                      clear hm
                      have hm := hm1
                      have hz : Blk (w6.alloc (.cells Try.zeroCells45 45)) (w6.heap.size) 45 Try.zeroCells45 := Blk.at_ w6 (w6.heap.size) _ _ (by simp)
                      have hO1 := own_below hO ((Below.refl _ _).alloc (Nat.le_refl _) (.cells Try.zeroCells45 45)) (fun x hx => (hO.lt x hx).2)
                      clear hO
                      have hO := hO1
                      clear hO1
                      refine hK.out _ _ hS ?_
                      clear hK K
                      try simp only [pts]
                      have hsz : (Try.zeroCells45).size = 74 := by kernel_rfl
                      refine wpAnyG_one (i := 19) rfl (by kernel_rfl) (fun K hK => ?_)
                      rw [if_pos (by rfl)]
                      refine wp_store_row 45 (.tmp 13) (.tmp 109) rfl (w6.heap.size) _ _ (NA n6 (.slice A' (agB (FX x y Ls) x.N bs i).length c')) rfl rfl hz (by rw [NA_size, hsz]) (by rw [NA_size]; exact infoNode) (NA_one _ _ _ _) (fun w7 hN7 hg7 => ?_)
                      have hS7 := hS.grown hg7 hS.size (fun j hj => by cases hj; omega)
                      refine hK.out _ _ hS7 ?_
                      clear hK K
                      try simp only [pts]
                      refine wpAnyG_last rfl (by kernel_rfl) (by kernel_rfl) (by kernel_rfl) (fun K hK => ?_)
                      rw [if_pos (by rfl)]
                      refine wp_store_row 60 (.tmp 14) (.tmp 110) rfl (wr.heap.size) _ _ (repC n6) rfl rfl (hm.grown hg7 (by intro e; have := Option.some.inj e; omega)) rfl info14 (repTo_one _ _) (fun w8 hM8 hg8 => ?_)
                      refine hK.out _ _ ?_
                      clear hK K
                      try simp only [pts]
                      go_wp2_with fail
                      go_meet
                      exact cc_cut (by omega) (by omega) (by omega) hz hm hO hS hN7 hg7 hM8 hg8 HLK.out HEQ.out
                    · go_simp
                      have hX2 : Below wr.heap.size wr ((wr.alloc (.cells #[.int .i64 0, .int .i64 0, .int .i64 0, .int .i64 0, .int .i64 0, .int .i64 0, .int .i64 0, .int .i64 0, .int .i64 0, .bool false, .bool false, .bool false, .bool false, .bool false] 60)).alloc (.cells Try.zeroCells45 45)) := hX1.alloc hX1.size _
                      clear hS
                      have hS : Below wr.heap.size wr ((wr.alloc (.cells #[.int .i64 0, .int .i64 0, .int .i64 0, .int .i64 0, .int .i64 0, .int .i64 0, .int .i64 0, .int .i64 0, .int .i64 0, .bool false, .bool false, .bool false, .bool false, .bool false] 60)).alloc (.cells Try.zeroCells45 45)).drew := hX2.drew
                      have hm1 : Blk ((wr.alloc (.cells #[.int .i64 0, .int .i64 0, .int .i64 0, .int .i64 0, .int .i64 0, .int .i64 0, .int .i64 0, .int .i64 0, .int .i64 0, .bool false, .bool false, .bool false, .bool false, .bool false] 60)).alloc (.cells Try.zeroCells45 45)).drew (wr.heap.size) 60 _ := hm.alloc _
                      clear hm
                      have hm := hm1
                      have hz : Blk ((wr.alloc (.cells #[.int .i64 0, .int .i64 0, .int .i64 0, .int .i64 0, .int .i64 0, .int .i64 0, .int .i64 0, .int .i64 0, .int .i64 0, .bool false, .bool false, .bool false, .bool false, .bool false] 60)).alloc (.cells Try.zeroCells45 45)).drew (wr.heap.size + 1) 45 Try.zeroCells45 := Blk.at_ (wr.alloc (.cells #[.int .i64 0, .int .i64 0, .int .i64 0, .int .i64 0, .int .i64 0, .int .i64 0, .int .i64 0, .int .i64 0, .int .i64 0, .bool false, .bool false, .bool false, .bool false, .bool false] 60)) (wr.heap.size + 1) _ _ (by simp)
                      refine hK.out _ _ hS ?_
                      clear hK K
                      try simp only [pts]
                      refine wpAnyG_one (i := 13) rfl (by kernel_rfl) (fun K hK => ?_)
                      go_simp
                      (with_reducible refine (KF.out _ hS).mono ?_)
                      rintro e w6 ⟨n6, A', c', rfl, hO6, hB6, hlk6, heq6⟩
                      have hs0 := hS.size
                      have hS6 := hS.trans (hB6.mono hs0)
                      have hs6 := hS6.size
                      have hsz6 := hB6.size
                      have hlz := Blk.lt hz
                      have hz6 := hz.next hB6
                      clear hz
                      have hz := hz6
                      have hlm := Blk.lt hm
                      have hm6 := hm.next hB6
                      clear hm
                      have hm := hm6
                      have hO := own_le hO6 hs0
                      have HLK := Lib.hid hlk6
                      have HEQ := Lib.hid heq6
                      clear hO6 hB6 hS hlk6 heq6
                      have hS := hS6
                      refine hK.out _ _ hS ?_
                      clear hK K
                      try simp only [pts]
                      refine wpG 14 ?_ rfl (by kernel_rfl) (fun _ _ _ h => h) (by rfl) (fun wx => ?_) hS ?_
                      rotate_left
                      · go_simp; (try with_reducible rfl)
                      try simp only [pts]
                      refine wpG 15 ?_ rfl (by kernel_rfl) (fun _ _ _ h => h) (by rfl) (fun wx => ?_) hS ?_
                      rotate_left
                      · go_simp; (try with_reducible rfl)
                      try simp only [pts]
                      refine wpG 16 ?_ rfl (by kernel_rfl) (fun _ _ _ h => h) (by rfl) (fun wx => ?_) hS ?_
                      rotate_left
                      · go_simp; (try with_reducible rfl)
                      try simp only [pts]
                      have hsz : (Try.zeroCells45).size = 74 := by kernel_rfl
                      refine wpAnyG_one (i := 19) rfl (by kernel_rfl) (fun K hK => ?_)
                      rw [if_pos (by rfl)]
                      refine wp_store_row 45 (.tmp 13) (.tmp 109) rfl (wr.heap.size + 1) _ _ (NA n6 (.slice A' (agB (FX x y Ls) x.N bs i).length c')) rfl rfl hz (by rw [NA_size, hsz]) (by rw [NA_size]; exact infoNode) (NA_one _ _ _ _) (fun w7 hN7 hg7 => ?_)
                      have hS7 := hS.grown hg7 hS.size (fun j hj => by cases hj; omega)
                      refine hK.out _ _ hS7 ?_
                      clear hK K
                      try simp only [pts]
                      refine wpAnyG_last rfl (by kernel_rfl) (by kernel_rfl) (by kernel_rfl) (fun K hK => ?_)
                      rw [if_pos (by rfl)]
                      refine wp_store_row 60 (.tmp 14) (.tmp 110) rfl (wr.heap.size) _ _ (repC n6) rfl rfl (hm.grown hg7 (by intro e; have := Option.some.inj e; omega)) rfl info14 (repTo_one _ _) (fun w8 hM8 hg8 => ?_)
                      refine hK.out _ _ ?_
                      clear hK K
                      try simp only [pts]
                      go_wp2_with fail
                      go_meet
                      exact cc_cut (by omega) (by omega) (by omega) hz hm hO hS hN7 hg7 hM8 hg8 HLK.out HEQ.out
                  --SLOW
                case rest =>
                  obtain ⟨q13, q14, n6, A', c', rfl, rfl, hN8, hM9, hO9, hB9, hq14, hlk, heq⟩ := hcut
                  have HN8 := Lib.hid hN8
                  have HM9 := Lib.hid hM9
                  have HO9 := Lib.hid hO9
                  have HB9 := Lib.hid hB9
                  have HRc := Lib.hid (HRr.out.next hB9)
                  have HLK := Lib.hid hlk
                  have HEQ := Lib.hid heq
                  clear hN8 hM9 hO9 hB9 hlk heq KF HNR HOB
                  go_upto_region 28 with fail
                  refine wp_region_G 7 (fun w' => RunB w' g ⟨x.fr, N', va3⟩ y bx ∧ Blk w' q13 45 (NA n6 (.slice A' (agB (FX x y Ls) x.N bs i).length c'))) (by kernel_rfl) (⟨HRc.out.next (Below.refl _ _).drew, HN8.out.next (Below.refl _ _).drew⟩) (fun hS => ?_)
                  refine wpG 0 ?_ rfl (by kernel_rfl) (fun _ _ _ h => h) (by rfl) (fun wx => ?_) hS ?_
                  rotate_left
                  · go_simp; (try with_reducible rfl)
                  try simp only [pts]
                  refine wpG 1 ?_ rfl (by kernel_rfl) (fun _ _ _ h => h) (by rfl) (fun wx => ?_) hS ?_
                  rotate_left
                  · go_simp; (try with_reducible rfl)
                  try simp only [pts]
                  refine wpAnyG_take (i := 2) (v := .agg (NA n6 (.slice A' (agB (FX x y Ls) x.N bs i).length c'))) rfl (by kernel_rfl) (by kernel_rfl) (by kernel_rfl) (by kernel_rfl) (by kernel_rfl) (by kernel_rfl) (fun _ _ _ h => h) (Or.inl ⟨by rfl, fun wx hSw => exec_load_row 45 (.tmp 13) rfl q13 rfl _ _ _ hSw.2 Try.underlying45 rfl (by rw [NA_size]; exact infoNode)⟩) hS ?_
                  try simp only [pts]
                  refine wpG 3 ?_ rfl (by kernel_rfl) (fun _ _ _ h => h) (by rfl) (fun wx => ?_) hS ?_
                  rotate_left
                  · go_simp; (try with_reducible rfl)
                  try simp only [pts]
                  refine wpG 4 ?_ rfl (by kernel_rfl) (fun _ _ _ h => h) (by rfl) (fun wx => ?_) hS ?_
                  rotate_left
                  · go_simp; (try with_reducible rfl)
                  try simp only [pts]
                  refine wpG 5 ?_ rfl (by kernel_rfl) (fun _ _ _ h => h) (by rfl) (fun wx => ?_) hS ?_
                  rotate_left
                  · go_simp; (try with_reducible rfl)
                  try simp only [pts]
                  refine wpG 6 ?_ rfl (by kernel_rfl) (fun _ _ _ h => h) (by rfl) (fun wx => ?_) hS ?_
                  rotate_left
                  · go_simp; (try with_reducible rfl)
                  try simp only [pts]
                  refine wpAnyG_last rfl (by kernel_rfl) (by kernel_rfl) (by kernel_rfl) (fun K hK => ?_)
                  rw [if_pos (by rfl)]
                  refine wp_store_run (.tmp 117) (.tmp 113) rfl g i n6 A' (agB (FX x y Ls) x.N bs i).length c' hi rfl rfl hS.1 (fun w9 hR9 hg9 => ?_)
                  have HR9 := Lib.hid hR9
                  have HG9 := Lib.hid hg9
                  clear hR9 hg9 hS
                  refine hK.out _ _ ?_
                  clear hK K
                  try simp only [pts]
                  have hgl := Blk.lt HRr.out
                  have hbc : Below wr.heap.size wr wc.drew := HB9.out.drew
                  have hm9 : Blk w9 q14 60 (repC n6) := (HM9.out.next (Below.refl wc.heap.size wc).drew).grown HG9.out (by intro e; have h1 := Option.some.inj e; omega)
                  have ho9 : wc.drew.ownsRow wr.heap.size 4 1 (.slice A' (agB (FX x y Ls) x.N bs i).length c') (agB (FX x y Ls) x.N bs i).length (agB (FX x y Ls) x.N bs i) := HO9.out
                  have hoo9 : w9.ownsRow v5.heap.size 60 14 (.slice Ao (repsN y.bad i) co) (repsN y.bad i) (repsL y.bad N' i) := own_kept_t (own_below HOr.out hbc (fun x hx => (HOr.out.lt x hx).2)) HG9.out (HRr.out.next hbc) (by decide)
                  have HM10 : Hid (Blk w9 q14 60 #[.int .i64 n6.id, .int .i64 n6.fr, .int .i64 (n6.us 0), .int .i64 (n6.us 1), .int .i64 (n6.us 2), .int .i64 (n6.ax 0).x, .int .i64 (n6.ax 1).x, .int .i64 (n6.ax 2).x, .int .i64 n6.dg, .bool n6.vs, .bool (n6.ro.inn 0), .bool (n6.ro.inn 1), .bool (n6.ro.inn 2), .bool (n6.ro.inn 3)]) := hm9
                  have HOO := Lib.hid hoo9
                  have HBC := Lib.hid hbc
                  have HO9' := Lib.hid ho9
                  have hs9 : v5.heap.size ≤ w9.heap.size := by have h2 := hbc.size; have h3 := HG9.out.size; omega
                  have hrn := repsN_le y.bad i
                  clear hbc hm9 ho9 hoo9 HO9 HM9 HN8 HB9 HRc
                  have HNW : Hid (∀ (j : Nat) (u : Value), ([.int .i64 n6.id, .int .i64 n6.fr, .int .i64 (n6.us 0), .int .i64 (n6.us 1), .int .i64 (n6.us 2), .int .i64 (n6.ax 0).x, .int .i64 (n6.ax 1).x, .int .i64 (n6.ax 2).x, .int .i64 n6.dg, .bool n6.vs, .bool (n6.ro.inn 0), .bool (n6.ro.inn 1), .bool (n6.ro.inn 2), .bool (n6.ro.inn 3)] : List Value)[j]? = some u → (w9.alloc (.cells #[.int .i64 n6.id, .int .i64 n6.fr, .int .i64 (n6.us 0), .int .i64 (n6.us 1), .int .i64 (n6.us 2), .int .i64 (n6.ax 0).x, .int .i64 (n6.ax 1).x, .int .i64 (n6.ax 2).x, .int .i64 n6.dg, .bool n6.vs, .bool (n6.ro.inn 0), .bool (n6.ro.inn 1), .bool (n6.ro.inn 2), .bool (n6.ro.inn 3)] 60)).cell? ((⟨w9.heap.size, 0, none⟩ : Addr).add j) = some u) := World.news_of_block (cs := #[.int .i64 n6.id, .int .i64 n6.fr, .int .i64 (n6.us 0), .int .i64 (n6.us 1), .int .i64 (n6.us 2), .int .i64 (n6.ax 0).x, .int .i64 (n6.ax 1).x, .int .i64 (n6.ax 2).x, .int .i64 n6.dg, .bool n6.vs, .bool (n6.ro.inn 0), .bool (n6.ro.inn 1), .bool (n6.ro.inn 2), .bool (n6.ro.inn 3)]) (Blk.new w9 60 #[.int .i64 n6.id, .int .i64 n6.fr, .int .i64 (n6.us 0), .int .i64 (n6.us 1), .int .i64 (n6.us 2), .int .i64 (n6.ax 0).x, .int .i64 (n6.ax 1).x, .int .i64 (n6.ax 2).x, .int .i64 n6.dg, .bool n6.vs, .bool (n6.ro.inn 0), .bool (n6.ro.inn 1), .bool (n6.ro.inn 2), .bool (n6.ro.inn 3)])
                  have HNO : Hid (∀ u ∈ ([.int .i64 n6.id, .int .i64 n6.fr, .int .i64 (n6.us 0), .int .i64 (n6.us 1), .int .i64 (n6.us 2), .int .i64 (n6.ax 0).x, .int .i64 (n6.ax 1).x, .int .i64 (n6.ax 2).x, .int .i64 n6.dg, .bool n6.vs, .bool (n6.ro.inn 0), .bool (n6.ro.inn 1), .bool (n6.ro.inn 2), .bool (n6.ro.inn 3)] : List Value), u.oneCell' = true) := fun u hu => (Array.all_eq_true_iff_forall_mem.1 (repTo_one n6 3)) u (Array.mem_toList_iff.1 hu)
                  obtain ⟨i0, hi0, hz0, hz1, hz2⟩ := info_parts infoRep
                  go_wp2_with (first
                    | (refine wpList_load_at 60 (.tmp 14) rfl rfl q14 rfl _ #[.int .i64 n6.id, .int .i64 n6.fr, .int .i64 (n6.us 0), .int .i64 (n6.us 1), .int .i64 (n6.us 2), .int .i64 (n6.ax 0).x, .int .i64 (n6.ax 1).x, .int .i64 (n6.ax 2).x, .int .i64 n6.dg, .bool n6.vs, .bool (n6.ro.inn 0), .bool (n6.ro.inn 1), .bool (n6.ro.inn 2), .bool (n6.ro.inn 3)] _ HM10.out Try.underlying60 rfl info14 ?_)
                    | (at_builtin; refine wpList_append_lies _ rfl _ _ 54 rfl v5.heap.size 60 i0 _ 14 80 Try.underlying54 hi0 hz0 hz1 hz2 rfl (by decide) (.slice Ao (repsN y.bad i) co) (repsN y.bad i) (repsL y.bad N' i) rfl (own_below HOO.out ((Below.refl w9.heap.size w9).alloc (Nat.le_refl _) _) (fun x hx => (HOO.out.lt x hx).2)) ⟨w9.heap.size, 0, none⟩ 1 1 [.int .i64 n6.id, .int .i64 n6.fr, .int .i64 (n6.us 0), .int .i64 (n6.us 1), .int .i64 (n6.us 2), .int .i64 (n6.ax 0).x, .int .i64 (n6.ax 1).x, .int .i64 (n6.ax 2).x, .int .i64 n6.dg, .bool n6.vs, .bool (n6.ro.inn 0), .bool (n6.ro.inn 1), .bool (n6.ro.inn 2), .bool (n6.ro.inn 3)] rfl rfl HNW.out HNO.out (by decide) (by unfold maxLen; omega) (by omega) (by simp; omega) _ rfl ?_; intro ga ca w10 ho10 hg10 hv10 hlt10; have HO10 := Lib.hid ho10; have HG10 := Lib.hid hg10; clear ho10 hg10 hv10 hlt10))
                  go_roundw
                  case rel => exact F3Rel.put hi (by go_num) HXr.out HAr.out HDr.out HNr.out HMl.out HBr.out HBD.out HRr.out HBC.out HO9'.out HR9.out HG9.out HLK.out HEQ.out HO10.out HG10.out hgw HOr.out h15 hB3 HVL.out
                  case measure => simp [intOf]; omega
            · obtain rfl : i = 4 := by omega
              have c0f := (CB.next HC0.out HBr.out).fr
              have k0 := HRr.out.fr
              have f0 := Blk.frozen HRr.out 0
              go_upto_region 32 with fail
              have hgs := grown_set wr g 0 (.int .i64 (x.fr + 1))
              have hRe : RunB (wr.setCell ⟨g, 0, none⟩ (.int .i64 (x.fr + 1))) g ⟨x.fr + 1, N', va3⟩ y bx := HRr.out.setFr _
              have hsz1 := HB0.out.size
              have hzl := Blk.lt HZ0.out
              have hZe := (HZ0.out.next HBr.out).grown hgs (by intro e; have := Option.some.inj e; omega)
              have HRe := Lib.hid hRe
              have HZe := Lib.hid hZe
              have HGS := Lib.hid hgs
              clear c0f k0 f0 hgs hRe hZe
              go_wp2_with (first
                | (refine wpList_load_mid rfl 48 (.tmp 132) rfl g 0 rfl (CA ⟨x.fr + 1, N', va3⟩).toList _ HRe.out.clR Try.underlying48 rfl (by rw [Array.length_toList, CA_size]; exact infoCl) ?_; rw [show (CA ⟨x.fr + 1, N', va3⟩).toList.toArray = CA ⟨x.fr + 1, N', va3⟩ from Array.toArray_toList ..])
                | (refine wpList_store_at 48 (.tmp 4) (.tmp 133) rfl rfl (w.heap.size + 1 + 1) _ zc (CA ⟨x.fr + 1, N', va3⟩) rfl rfl HZe.out (by rw [CA_size, HZS.out]) (by rw [CA_size]; exact infoCl) (CA_one (fun j hj => ag_one HAr.out hj)) ?_; intro w33 hN33 hg33; have HN33 := Lib.hid hN33; have HG33 := Lib.hid hg33; clear hN33 hg33))
              refine bodyPost_ret (results_row_tmp2 Try.results27 _ _ (w.heap.size + 1 + 1) _ _ _ _ _ rfl rfl rfl HN33.out Try.underlying48 rfl (by rw [CA_size]; exact infoCl)) rfl ?_
              exact fr_end HB0.out HBr.out HGS.out HG33.out HRr.out HZe.out hgw HAr.out HOr.out h15 (fun j hj => HDr.out j hj)
end Go.Proofs.Ytofeoeknmlkjgaa.Nk
end
