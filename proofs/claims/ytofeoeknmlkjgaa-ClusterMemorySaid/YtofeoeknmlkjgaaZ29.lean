/- Merged: Node1 NodeMsg NodeHear NodeTold VrIn. -/
import Derived.BigGuard
import Derived.Deep.RegionHeld3
import Derived.Deep.Slices
import Derived.SizedLaws
import Derived.Test.YtofeoeknmlkjgaaZ06
import Derived.Test.YtofeoeknmlkjgaaZ15
import Derived.Test.YtofeoeknmlkjgaaZ27
import Derived.Test.YtofeoeknmlkjgaaZ28
set_option linter.unusedVariables false
set_option linter.unusedSimpArgs false
section
/- node.strange, copied, say. -/
set_option linter.unusedVariables false
namespace Go.Proofs.Ytofeoeknmlkjgaa.Nk
open Go.RowKit Go.Proofs.Ytofeoeknmlkjgaa Mb Fi Sm

theorem infoBoolN : (Try.prog.info? 4).map (fun i => (i.zero, i.size, i.bytes)) = some (some (.bool false), 1, 1) := by kernel_rfl
theorem ret_bool {a b : Bool} (h : a = b) : Ending.returned (.bool a) = .returned (.bool b) := by rw [h]
theorem infoNode : (Try.prog.info? 45).map (·.size) = some 74 := by kernel_rfl

set_option maxRecDepth 100000 in
set_option maxHeartbeats 1000000 in
theorem strange_no (n : Nd) (va : Value) (w : World) (h0 : 0 ≤ n.id) (h4 : n.id < 4) :
    Calls Try.prog 36 #[.agg (NA n va)] w fun e w' => e = .returned (.bool false) ∧ Below w.heap.size w w' := by
  have c0 := (NB.id (W := w.alloc (.cells (NA n va) 45)) (Blk.new w 45 (NA n va)))
  go_enter Try.func36, Try.ntmps36
  go_wp2_with (first | go_big_skip)
  go_ret
  exact ⟨ret_bool (by rw [decide_eq_false (show ¬ n.id < 0 by omega), decide_eq_false (show ¬ 4 ≤ n.id by omega)]; rfl), (Below.refl _ _).alloc (Nat.le_refl _) _⟩
def CopyPost (n : Nd) (bs : List Value) (w : World) (e : Ending) (w' : World) : Prop :=
  ∃ A' c', e = .returned (.agg (NA n (.slice A' bs.length c'))) ∧ w'.ownsRow w.heap.size 4 1 (.slice A' bs.length c') bs.length bs ∧ Below w.heap.size w w'
def CutC (w : World) (n : Nd) (va : Value) (s1 s2 : Value) (wx : World) : Prop :=
  ∃ (g1 g2 : Nat) (cs : Array Value), s1 = .pointer (some ⟨g1, 0, none⟩) ∧ s2 = .pointer (some ⟨g2, 0, none⟩) ∧ g1 ≠ g2 ∧ w.heap.size ≤ g1 ∧ w.heap.size ≤ g2 ∧ NB wx g1 n va ∧ Blk wx g2 45 cs ∧ cs.size = 74 ∧ Below w.heap.size w wx
theorem NB.va_set {W : World} {g : Nat} {n : Nd} {va va' : Value} (h : NB W g n va) : NB (W.setCell ⟨g, 73, none⟩ va') g n va' := h.set (by
  intro i hi
  by_cases e : i = 73
  · subst e; rfl
  · rw [if_neg e]
    have h73 : i < 73 := by omega
    unfold Nd.c
    simp only [if_pos h73])

set_option maxRecDepth 100000 in
set_option maxHeartbeats 2000000 in
theorem copied_any (n : Nd) (A : Option Addr) (m c : Nat) (bs : List Value) (w : World) (hb : VR w 1 A m c bs) (h1 : ∀ u ∈ bs, u.oneCell' = true) (hm : m ≤ 140737488355328) :
    Calls Try.prog 35 #[.agg (NA n (.slice A m c))] w (CopyPost n bs w) := by
  obtain ⟨i0, hi, hz0, hz1, hz2⟩ := info_parts infoBoolN
  have HB := Lib.hid hb
  have H1 := Lib.hid h1
  clear hb h1
  go_enter Try.func35, Try.ntmps35
  go_upto_region 0 with fail
  go_cut [1, 2] (fun s1 s2 wx => CutC w n (.slice A m c) s1 s2 wx)
  case first =>
    go_wp2_with fail
    go_meet
    exact ⟨_, _, _, rfl, rfl, by omega, by omega, by omega, (Blk.new _ _ _).alloc _, Blk.at_ _ _ _ _ (by simp), rfl, ((Below.refl _ _).alloc (Nat.le_refl _) _).alloc (by simp) _⟩
  case rest =>
    obtain ⟨g1, g2, cs, rfl, rfl, hne, hg1, hg2, hN, hZ, hcs, hB⟩ := hcut
    have c1 := NB.agr hN
    have hb := HB.out.next hB
    have HBB := Lib.hid hb
    have HN := Lib.hid hN
    have HZ := Lib.hid hZ
    have HBl := Lib.hid hB
    have hsz := hB.size
    clear hb hN hZ hB
    go_wp2_with (first
      | (at_builtin; go_loud (refine wpList_append_vr _ _ 41 rfl rfl w.heap.size 4 i0 (.bool false) 1 1 Try.underlying41 hi hz0 hz1 hz2 rfl (by decide) (.slice none 0 0) 0 [] rfl (World.ownsRow_nil _ _ _ _) A m c bs rfl HBB.out H1.out (by unfold maxLen; omega) (by omega) hsz ?_); intro v2 w2 hown2 hg2'; (simp only [Nat.zero_add, List.nil_append] at hown2); obtain ⟨A2, c2, rfl⟩ := own_shape hown2; have hN2 : NB w2 g1 n (.slice A m c) := Blk.grown HN.out hg2' (by intro e; cases e); have HZ2 := Lib.hid (Blk.grown HZ.out hg2' (by intro e; cases e)); have HB2 := Lib.hid (HBl.out.grown hg2' hsz (fun j hj => by cases hj)); have d1 := hN2.agr; have d2 := Blk.frozen hN2 73; have HO2 := Lib.hid hown2; have HNa := Lib.hid hN2; have HN3 := Lib.hid (hN2.va_set (va' := .slice A2 m c2)); clear hown2 hg2' hN2)
      | (refine wpList_load_at 45 (.tmp 1) rfl rfl g1 rfl _ (NA n (.slice A2 m c2)) _ HN3.out Try.underlying45 rfl (by rw [NA_size]; exact infoNode) ?_)
      | (refine wpList_store_at 45 (.tmp 2) (.tmp 9) rfl rfl g2 _ cs (NA n (.slice A2 m c2)) rfl rfl (Blk.grown HZ2.out (grown_set _ g1 73 _) (by intro e; exact hne (Option.some.inj e).symm)) (by rw [NA_size, hcs]) (by rw [NA_size]; exact infoNode) (NA_one _ _ _ _) ?_; intro w4 hN4 hg4))
    refine bodyPost_ret (results_cell_row Try.results35 _ _ g2 _ _ (0, 0) _ rfl hN4 Try.underlying45 rfl (by rw [NA_size]; exact infoNode)) rfl ?_
    have hl : bs.length = m := by have := HB.out.1; omega
    subst hl
    have hz2 := Blk.grown HZ2.out (grown_set w2 g1 73 (.slice A2 bs.length c2)) (by intro e; exact hne (Option.some.inj e).symm)
    have o3 := own_kept_t HO2.out (grown_set w2 g1 73 (.slice A2 bs.length c2)) HNa.out (by decide)
    have b3 := HB2.out.setCell (p := ⟨g1, 73, none⟩) hg1 (.slice A2 bs.length c2)
    exact ⟨A2, c2, rfl, own_kept_t o3 hg4 hz2 (by decide), b3.grown hg4 b3.size (fun j hj => by cases hj; exact hg2)⟩
end Go.Proofs.Ytofeoeknmlkjgaa.Nk
end
section
/- Lists of messages that are read; node.say. -/
set_option linter.unusedVariables false
namespace Go.Proofs.Ytofeoeknmlkjgaa.Nk
open Go.RowKit Go.Proofs.Ytofeoeknmlkjgaa Mb Fi Sm

def In64 (z : Int) : Prop := -9223372036854775808 ≤ z ∧ z ≤ 9223372036854775807
structure Mg where
  k : Int
  f : Int
  r : Int
  A : Option Addr
  n : Nat
  c : Nat
  vs : List Int
def Mg.pm (x : Mg) : Pm := ⟨x.k, x.f, x.r, x.vs⟩
def Mg.cells (x : Mg) : List Value := [.int .i64 x.k, .int .i64 x.f, .int .i64 x.r, .slice x.A x.n x.c]
def flatM : List Mg → List Value
  | [] => []
  | p :: L => p.cells ++ flatM L
theorem flatM_app : ∀ L M : List Mg, flatM (L ++ M) = flatM L ++ flatM M
  | [], M => rfl
  | p :: L, M => by rw [List.cons_append, flatM, flatM, flatM_app L M, List.append_assoc]
theorem flatM_get : ∀ (L : List Mg) (i : Nat) (p : Mg) (k : Nat), L[i]? = some p → k < 4 → (flatM L)[i * 4 + k]? = p.cells[k]?
  | [], i, p, k, h, hk => by simp at h
  | q :: L, 0, p, k, h, hk => by
    simp at h; subst h
    rw [flatM, Nat.zero_mul, Nat.zero_add, List.getElem?_append_left (by simp [Mg.cells]; omega)]
  | q :: L, i + 1, p, k, h, hk => by
    have := flatM_get L i p k (by simpa using h) hk
    rw [flatM, List.getElem?_append_right (by simp [Mg.cells]; omega), ← this]
    congr 1
    simp [Mg.cells]; omega
def Mg.Reads (w : World) (x : Mg) : Prop := Ints w .i64 x.A x.n x.vs ∧ (x.A = none → x.n = 0 ∧ x.c = 0) ∧ x.n ≤ 17592186044416 ∧ ∀ v ∈ x.vs, In64 v
def MR (w : World) (A : Option Addr) (m c : Nat) (L : List Mg) : Prop := L.length = m ∧ VR w 4 A m c (flatM L) ∧ ∀ x ∈ L, x.Reads w
section
variable {w w' : World} {A : Option Addr} {m c : Nat} {L : List Mg}
theorem Mg.Reads.next {x : Mg} (h : x.Reads w) (hb : Below w.heap.size w w') : x.Reads w' := ⟨h.1.next hb, h.2⟩
theorem MR.next (h : MR w A m c L) (hb : Below w.heap.size w w') : MR w' A m c L := ⟨h.1, h.2.1.next hb, fun x hx => (h.2.2 x hx).next hb⟩
theorem MR.nil (w : World) : MR w none 0 0 [] := ⟨rfl, VR.nil _ _, fun x hx => by cases hx⟩
theorem MR.row {i : Nat} (h : MR w A m c L) (hi : i < m) : ∃ b off x, A = some ⟨b, off, none⟩ ∧ b < w.heap.size ∧ L[i]? = some x ∧ x ∈ L ∧ x.Reads w ∧
    w.cell? ⟨b, off + i * 4, none⟩ = some (.int .i64 x.k) ∧ w.cell? ⟨b, off + i * 4 + 1, none⟩ = some (.int .i64 x.f) ∧ w.cell? ⟨b, off + i * 4 + 2, none⟩ = some (.int .i64 x.r) ∧ w.cell? ⟨b, off + i * 4 + 3, none⟩ = some (.slice x.A x.n x.c) := by
  obtain ⟨b, off, rfl, hlt, hc⟩ := h.2.1.2.2 (by omega)
  have hL : i < L.length := by rw [h.1]; exact hi
  have hp : L[i]? = some L[i] := List.getElem?_eq_getElem hL
  have hm : L[i] ∈ L := List.getElem_mem hL
  have hk := fun k hk => flatM_get L i L[i] k hp hk
  refine ⟨b, off, L[i], rfl, hlt, hp, hm, h.2.2 _ hm, hc (i * 4) _ (hk 0 (by omega)), ?_, ?_, ?_⟩
  · rw [Nat.add_assoc]; exact hc _ _ (hk 1 (by omega))
  · rw [Nat.add_assoc]; exact hc _ _ (hk 2 (by omega))
  · rw [Nat.add_assoc]; exact hc _ _ (hk 3 (by omega))
end

set_option maxRecDepth 100000 in
set_option maxHeartbeats 1000000 in
theorem say_any (n : Nd) (va : Value) (kind : Int) (A : Option Addr) (m c : Nat) (w : World) :
    Calls Try.prog 38 #[.agg (NA n va), .int .i64 kind, .slice A m c] w fun e w' => e = .returned (.agg #[.int .i64 kind, .int .i64 n.id, .int .i64 n.fr, .slice A m c]) ∧ Below w.heap.size w w' := by
  have hN : NB ((w.alloc (.cells (NA n va) 45)).alloc (.cells #[.int .i64 0, .int .i64 0, .int .i64 0, .slice none 0 0] 64)) w.heap.size n va := (Blk.new _ _ _).alloc _
  have c0 := hN.id
  have c1 := hN.fr
  clear hN
  go_enter Try.func38, Try.ntmps38
  go_wp2_with fail
  have HZ : Blk ((w.alloc (.cells (NA n va) 45)).alloc (.cells #[.int .i64 kind, .int .i64 n.id, .int .i64 n.fr, .slice A m c] 64)) (w.heap.size + 1) 64 #[.int .i64 kind, .int .i64 n.id, .int .i64 n.fr, .slice A m c] := Blk.at_ _ _ _ _ (by simp)
  refine bodyPost_ret (results_cell_row Try.results38 _ _ (w.heap.size + 1) _ _ (0, 0) _ rfl HZ Try.underlying64 rfl (by kernel_rfl)) rfl ⟨rfl, ((Below.refl _ _).alloc (Nat.le_refl _) _).alloc (by simp) _⟩
end Go.Proofs.Ytofeoeknmlkjgaa.Nk
end
section
/- node.hear. -/
set_option linter.unusedVariables false
namespace Go.Proofs.Ytofeoeknmlkjgaa.Nk
open Go.RowKit Go.Proofs.Ytofeoeknmlkjgaa Mb Fi Sm

theorem infoInt4 : (Try.prog.info? 3).map (fun i => (i.zero, i.size, i.bytes)) = some (some (.int .i64 0), 1, 8) := by kernel_rfl
theorem info44 : (Try.prog.info? 94).map (·.size) = some 4 := by kernel_rfl
def Sl4 (w : World) (B : Nat) (h : Hd) (sv : Nat → Value) : Prop := ∀ i, i < 4 → (h i = none ∧ sv i = .slice none 0 0) ∨ ∃ l ad c, h i = some l ∧ sv i = .slice (some ad) l.length c ∧ Ints w .i64 (some ad) l.length l ∧ B ≤ ad.block ∧ l.length ≤ c
theorem Sl4.next {w w' : World} {B : Nat} {h : Hd} {sv : Nat → Value} (hs : Sl4 w B h sv) (hb : Below w.heap.size w w') : Sl4 w' B h sv := fun i hi => by
  rcases hs i hi with h1 | ⟨l, ad, c, h1, h2, h3⟩
  · exact .inl h1
  · exact .inr ⟨l, ad, c, h1, h2, h3.1.next hb, h3.2⟩
theorem Sl4.grown {w w' : World} {B g : Nat} {h : Hd} {sv : Nat → Value} (hs : Sl4 w B h sv) (hg : w.grownBy w' (some g)) (hB : g < B) : Sl4 w' B h sv := fun i hi => by
  rcases hs i hi with h1 | ⟨l, ad, c, h1, h2, h3, h4⟩
  · exact .inl h1
  · refine .inr ⟨l, ad, c, h1, h2, ⟨h3.1, fun hn => ?_⟩, h4⟩
    obtain ⟨b, off, e, hlt, hc⟩ := h3.2 hn
    have hbb : b = ad.block := by injection e with e; rw [e]
    refine ⟨b, off, e, Nat.lt_of_lt_of_le hlt hg.size, fun j hj => ?_⟩
    rw [← hc j hj]
    exact World.cell?_of_block (hg.block b hlt (by intro e2; have := Option.some.inj e2; have := h4.1; omega))
def HearPost (h : Hd) (w : World) (e : Ending) (w' : World) : Prop := ∃ sv, e = .returned (.agg (AN 4 sv)) ∧ Sl4 w' w.heap.size h sv ∧ Below w.heap.size w w'
def HRel (w : World) (n : Nd) (va : Value) (g4 g8 g9 : Nat) (kind : Int) (many : Nat) (Ms : List Mg) (iv : Value) (wr : World) : Prop :=
  ∃ (k : Nat) (sv : Nat → Value), iv = .int .i64 k ∧ k ≤ Ms.length ∧ Rows wr w.heap.size 94 3 4 g9 (fun i => rowOf (hearF n.id n.fr kind many ((Ms.take k).map Mg.pm) i)) sv ∧
    (∀ i, i < 4 → (hearF n.id n.fr kind many ((Ms.take k).map Mg.pm) i = none ↔ sv i = .slice none 0 0)) ∧ NB wr g4 n va ∧ (∃ cs, Blk wr g8 94 cs ∧ cs.size = 4) ∧ Below w.heap.size w wr
theorem take_map_snoc {Ms : List Mg} {k : Nat} {x : Mg} (h : Ms[k]? = some x) : (Ms.take (k + 1)).map Mg.pm = (Ms.take k).map Mg.pm ++ [x.pm] := by
  rw [List.take_add_one, h, List.map_append]; rfl

theorem run_neq_slice_nil_w {P : Program} (w : World) (t e : TypeId) (a : Option Addr) (l c : Nat) (h : P.underlying t = some (.slice e)) : (binOp .neq t (.slice a l c) (.slice none 0 0)).run P w = .ok (.bool (!a.isNone)) w := by
  simp only [binOp]
  simp [Op.equal, Op.maxDepth, Lib.run_equalIn_slice_nil w 9999 t e a l c 0 0 h]
theorem Bs_ints_own {w : World} {base n c : Nat} {A : Option Addr} {zs : List Int} {q : IntKind} {e : TypeId} (h : w.ownsRow base e 1 (.slice A n c) n (zs.map (Value.int q))) : Ints w q A n zs := by
  have hl : zs.length = n := by have := h.1; simpa using this
  have hv := VR.own h
  refine ⟨hl, fun hn => ?_⟩
  obtain ⟨b, off, e, hlt, hc⟩ := hv.2.2 hn
  refine ⟨b, off, e, hlt, fun j hj => hc j _ ?_⟩
  rw [List.getElem?_map, List.getElem?_eq_getElem (by omega)]
  simp [List.getD, List.getElem?_eq_getElem (show j < zs.length by omega)]
theorem sk7_of {W5 w6 : World} {gm g9 : Nat} {a b c d : Value} (h : Blk W5 gm 64 #[a, b, c, d]) (hb : Below W5.heap.size W5 w6) (hne : gm ≠ g9) (f : Nat) (u : Value) :
    (w6.setCell ⟨g9, f, none⟩ u).cell? ⟨gm, 1, none⟩ = some b ∧ (w6.setCell ⟨g9, f, none⟩ u).cell? ⟨gm, 3, none⟩ = some d :=
  ⟨((h.next hb).grown (grown_set w6 g9 f u) (by intro e; exact hne (Option.some.inj e))).cell 1, ((h.next hb).grown (grown_set w6 g9 f u) (by intro e; exact hne (Option.some.inj e))).cell 3⟩
theorem fits_no {id fr kind : Int} {many : Nat} {h : Hd} {x : Pm} (hn : ¬ (x.k = kind ∧ x.r = fr ∧ x.vs.length = many ∧ 0 ≤ x.f ∧ x.f < 4 ∧ x.f ≠ id ∧ h x.f.toNat = none)) : fitsM id fr kind many h x = false := by
  rw [← Bool.not_eq_true]
  intro hf
  simp only [fitsM, Bool.and_eq_true, decide_eq_true_eq, Option.isNone_iff_eq_none] at hf
  exact hn ⟨hf.1.1.1.1.1.1, hf.1.1.1.1.1.2, hf.1.1.1.1.2, hf.1.1.1.2, hf.1.1.2, hf.1.2, hf.2⟩
theorem fits_yes {id fr kind : Int} {many : Nat} {h : Hd} {x : Pm} (hn : x.k = kind ∧ x.r = fr ∧ x.vs.length = many ∧ 0 ≤ x.f ∧ x.f < 4 ∧ x.f ≠ id ∧ h x.f.toNat = none) : fitsM id fr kind many h x = true := by
  simp only [fitsM, Bool.and_eq_true, decide_eq_true_eq, Option.isNone_iff_eq_none]
  exact ⟨⟨⟨⟨⟨⟨hn.1, hn.2.1⟩, hn.2.2.1⟩, hn.2.2.2.1⟩, hn.2.2.2.2.1⟩, hn.2.2.2.2.2.1⟩, hn.2.2.2.2.2.2⟩
section
variable {w wr W' : World} {n : Nd} {va : Value} {g4 g8 g9 : Nat} {kind : Int} {many : Nat} {Ms : List Mg} {k : Nat} {sv : Nat → Value} {x : Mg}
theorem HRel.skip (hsn : (Ms.take (k + 1)).map Mg.pm = (Ms.take k).map Mg.pm ++ [x.pm]) (hk : k < Ms.length)
    (hR : Rows wr w.heap.size 94 3 4 g9 (fun i => rowOf (hearF n.id n.fr kind many ((Ms.take k).map Mg.pm) i)) sv)
    (hnn : ∀ i, i < 4 → (hearF n.id n.fr kind many ((Ms.take k).map Mg.pm) i = none ↔ sv i = .slice none 0 0)) (hN : NB wr g4 n va) (hZ : ∃ cs, Blk wr g8 94 cs ∧ cs.size = 4) (hB : Below w.heap.size w wr)
    (hf : fitsM n.id n.fr kind many (hearF n.id n.fr kind many ((Ms.take k).map Mg.pm)) x.pm = false) (hb : Below wr.heap.size wr W') : HRel w n va g4 g8 g9 kind many Ms (.int .i64 ((k : Int) + 1)) W' := by
  have e : hearF n.id n.fr kind many ((Ms.take (k + 1)).map Mg.pm) = hearF n.id n.fr kind many ((Ms.take k).map Mg.pm) := by
    rw [hsn, hearF_snoc, hear1, if_neg (by rw [hf]; decide)]
  obtain ⟨cs, h1, h2⟩ := hZ
  exact ⟨k + 1, sv, by go_num, hk, by rw [e]; exact hR.next hb, by rw [e]; exact hnn, hN.next hb, ⟨cs, h1.next hb, h2⟩, hB.trans (hb.mono hB.size)⟩
theorem HRel.put {f : Nat} {W3 : World} {u : Value} (hsn : (Ms.take (k + 1)).map Mg.pm = (Ms.take k).map Mg.pm ++ [x.pm]) (hk : k < Ms.length) (hf4 : f < 4) (hxf : x.f = (f : Int)) (hv : 0 < x.vs.length) (ne4 : g4 ≠ g9) (ne8 : g8 ≠ g9) (hg9 : w.heap.size ≤ g9)
    (hR : Rows wr w.heap.size 94 3 4 g9 (fun i => rowOf (hearF n.id n.fr kind many ((Ms.take k).map Mg.pm) i)) sv)
    (hnn : ∀ i, i < 4 → (hearF n.id n.fr kind many ((Ms.take k).map Mg.pm) i = none ↔ sv i = .slice none 0 0)) (hN : NB wr g4 n va) (hZ : ∃ cs, Blk wr g8 94 cs ∧ cs.size = 4) (hB : Below w.heap.size w wr)
    (hf : fitsM n.id n.fr kind many (hearF n.id n.fr kind many ((Ms.take k).map Mg.pm)) x.pm = true) (hsf : sv f = .slice none 0 0) (hb : Below wr.heap.size wr W3)
    (ho : W3.ownsRow wr.heap.size 3 1 u x.vs.length (x.vs.map (Value.int .i64))) : HRel w n va g4 g8 g9 kind many Ms (.int .i64 ((k : Int) + 1)) (W3.setCell ⟨g9, f, none⟩ u) := by
  have e : hearF n.id n.fr kind many ((Ms.take (k + 1)).map Mg.pm) = upd (hearF n.id n.fr kind many ((Ms.take k).map Mg.pm)) f (some x.vs) := by
    rw [hsn, hearF_snoc, hear1, if_pos hf]
    show upd _ x.f.toNat _ = _
    rw [hxf]; rfl
  obtain ⟨cs, h1, h2⟩ := hZ
  have ho' := own_le ho hB.size
  have hl : (x.vs.map (Value.int .i64)).length = x.vs.length := List.length_map _
  have hA := hR.append (w' := W3) (k := f) (u := u) (xs := x.vs.map (Value.int .i64)) hf4 (by decide) (by rw [hl]; exact ho') (grown_below hb) (fun y hy => .inr ((ho.lt y hy).1))
  refine ⟨k + 1, fun i => if i = f then u else sv i, by go_num, hk, ?_, fun i hi => ?_, ?_, ⟨cs, (h1.next hb).grown (grown_set _ _ _ _) (by intro e; exact ne8 (Option.some.inj e)), h2⟩, ?_⟩
  rotate_left
  · rw [e]
    unfold upd
    by_cases c : i = f
    · simp only [if_pos c]
      refine ⟨(fun h => by cases h), fun h => ?_⟩
      rw [h] at ho
      rcases ho.2 with ⟨_, h0⟩ | ⟨g, cap, cur, hv', _⟩
      · omega
      · cases hv'
    · simp only [if_neg c]; exact hnn i hi
  · exact Blk.grown (hN.next hb) (grown_set _ _ _ _) (by intro e; exact ne4 (Option.some.inj e))
  · exact (hB.trans (hb.mono hB.size)).setCell (p := ⟨g9, f, none⟩) hg9 _
  · rw [e]
    have e2 : (fun i => rowOf (upd (hearF n.id n.fr kind many ((Ms.take k).map Mg.pm)) f (some x.vs) i)) = (fun i => if i = f then x.vs.map (Value.int .i64) else rowOf (hearF n.id n.fr kind many ((Ms.take k).map Mg.pm) i)) := by
      funext i
      unfold upd
      split <;> rfl
    rw [e2]
    exact hA
theorem rows_at {L : Nat → List Value} (hR : Rows wr w.heap.size 94 3 4 g9 L sv) {f : Nat} (hf : f < 4) (W : World) (hW : Below wr.heap.size wr W) : W.cell? ⟨g9, f, none⟩ = some (sv f) := by
  have := Blk.cell (hR.1.next hW) f
  rw [this, AN_get hf]
end

theorem rows_one {W : World} {base : Nat} {T E : TypeId} {g : Nat} {L : Nat → List Value} {sv : Nat → Value} (hR : Rows W base T E 4 g L sv) {i : Nat} (hi : i < 4) : (sv i).oneCell' = true := by
  obtain ⟨A, c, h⟩ := own_shape (hR.2.1 i hi)
  rw [h]; rfl
theorem sl4_of {W : World} {base : Nat} {g : Nat} {h : Hd} {sv : Nat → Value} (hR : Rows W base 94 3 4 g (fun i => rowOf (h i)) sv) (hn : ∀ i, i < 4 → (h i = none ↔ sv i = .slice none 0 0)) : Sl4 W base h sv := by
  intro i hi
  have ho : W.ownsRow base 3 1 (sv i) (rowOf (h i)).length (rowOf (h i)) := hR.2.1 i hi
  cases e : h i with
  | none => exact .inl ⟨rfl, (hn i hi).1 e⟩
  | some l =>
    rw [e] at ho
    have hl : (rowOf (some l)).length = l.length := by simp [rowOf]
    rw [hl] at ho
    obtain ⟨A, c, hv⟩ := own_shape ho
    rw [hv] at ho
    cases A with
    | none =>
      have h0 : l.length = 0 ∧ c = 0 := (VR.own ho).2.1 rfl
      have : sv i = .slice none 0 0 := by rw [hv, h0.1, h0.2]
      have := (hn i hi).2 this
      rw [e] at this; cases this
    | some ad => exact .inr ⟨l, ad, c, rfl, hv, Bs_ints_own ho, (ho.lt ad.block rfl).1, (own_parts ho).2.1⟩

set_option maxRecDepth 100000 in
set_option maxHeartbeats 4000000 in
theorem hear_any (n : Nd) (va : Value) (A : Option Addr) (m c : Nat) (Ms : List Mg) (kind mz : Int) (many : Nat) (hmz : mz = (many : Int)) (h1 : 0 < many) (h24 : many ≤ 24) (h0 : 0 ≤ n.id) (h4 : n.id < 4) (w : World) (hM : MR w A m c Ms) (hm : m ≤ 17592186044416) :
    Calls Try.prog 37 #[.agg (NA n va), .slice A m c, .int .i64 kind, .int .i64 mz] w (HearPost (hearF n.id n.fr kind many (Ms.map Mg.pm)) w) := by
  obtain ⟨i0, hi, hz0, hz1, hz2⟩ := info_parts infoInt4
  have HM := Lib.hid hM
  have HMZ := Lib.hid hmz
  clear hM hmz
  go_enter Try.func37, Try.ntmps37
  go_upto_region 2 with fail
  have hN0 : NB (((w.alloc (.cells (NA n va) 45)).alloc (.cells #[.slice none 0 0, .slice none 0 0, .slice none 0 0, .slice none 0 0] 94)).alloc (.cells #[.slice none 0 0, .slice none 0 0, .slice none 0 0, .slice none 0 0] 94)) w.heap.size n va := ((Blk.new _ _ _).alloc _).alloc _
  have hZ0 : Blk (((w.alloc (.cells (NA n va) 45)).alloc (.cells #[.slice none 0 0, .slice none 0 0, .slice none 0 0, .slice none 0 0] 94)).alloc (.cells #[.slice none 0 0, .slice none 0 0, .slice none 0 0, .slice none 0 0] 94)) (w.heap.size + 1) 94 #[.slice none 0 0, .slice none 0 0, .slice none 0 0, .slice none 0 0] := (Blk.at_ _ _ _ _ (by simp)).alloc _
  have hZ9 : Blk (((w.alloc (.cells (NA n va) 45)).alloc (.cells #[.slice none 0 0, .slice none 0 0, .slice none 0 0, .slice none 0 0] 94)).alloc (.cells #[.slice none 0 0, .slice none 0 0, .slice none 0 0, .slice none 0 0] 94)) (w.heap.size + 1 + 1) 94 (AN 4 fun _ => .slice none 0 0) := Blk.at_ _ _ _ _ (by simp)
  have hB0 : Below w.heap.size w (((w.alloc (.cells (NA n va) 45)).alloc (.cells #[.slice none 0 0, .slice none 0 0, .slice none 0 0, .slice none 0 0] 94)).alloc (.cells #[.slice none 0 0, .slice none 0 0, .slice none 0 0, .slice none 0 0] 94)) := (((Below.refl _ _).alloc (Nat.le_refl _) _).alloc (by simp) _).alloc (by simp; omega) _
  generalize ((w.alloc (.cells (NA n va) 45)).alloc (.cells #[.slice none 0 0, .slice none 0 0, .slice none 0 0, .slice none 0 0] 94)).alloc (.cells #[.slice none 0 0, .slice none 0 0, .slice none 0 0, .slice none 0 0] 94) = W0 at *
  obtain ⟨g4, eg4⟩ : ∃ g4, g4 = w.heap.size := ⟨_, rfl⟩
  obtain ⟨g8, eg8⟩ : ∃ g8, g8 = w.heap.size + 1 := ⟨_, rfl⟩
  obtain ⟨g9, eg9⟩ : ∃ g9, g9 = w.heap.size + 1 + 1 := ⟨_, rfl⟩
  rw [← eg9] at hZ9 ⊢
  rw [← eg8] at hZ0 ⊢
  rw [← eg4] at hN0
  have hne4 : g4 ≠ g9 := by omega
  have hne8 : g8 ≠ g9 := by omega
  have hw4 : w.heap.size ≤ g4 := by omega
  have hw9 : w.heap.size ≤ g9 := by omega
  have hw8 : w.heap.size ≤ g8 := by omega
  have e4 : (Value.pointer (some ⟨w.heap.size, 0, none⟩)) = .pointer (some ⟨g4, 0, none⟩) := by rw [eg4]
  rw [e4]
  clear e4 eg4 eg8 eg9
  have HS : Hid (HRel w n va g4 g8 g9 kind many Ms (.int .i64 0) W0) := ⟨0, _, rfl, Nat.zero_le _, Rows.start W0 _ _ _ 4 g9 hZ9, fun i hi => ⟨fun _ => rfl, fun _ => rfl⟩, hN0, ⟨_, hZ0, rfl⟩, hB0⟩
  have hml := HM.out.1
  clear hN0 hZ0 hZ9 hB0
  go_wp2_with fail
  go_loopw [14] (fun iv wr => HRel w n va g4 g8 g9 kind many Ms iv wr) (fun iv _ => m - (intOf iv).toNat)
  case atStart => exact HS.out
  case round =>
    clear HS
    obtain ⟨k, sv, rfl, hk, hR, hnn, hN, hZ, hB⟩ := hrel
    by_cases hkm : k < m
    · obtain ⟨b, off, x, rfl, hlt, hx, hxm, hxr, c0, c1, c2, c3⟩ := (HM.out.next hB).row hkm
      have hsn := take_map_snoc hx
      have hxl : x.vs.length = x.n := hxr.1.1
      have q0 : (k : Int) < (m : Int) := by omega
      have qq : (0 : Int) ≤ (k : Int) := by omega
      have n0 := fun o => (hN.next ((Below.refl wr.heap.size wr).alloc (Nat.le_refl _) o)).id
      have n1 := fun o => (hN.next ((Below.refl wr.heap.size wr).alloc (Nat.le_refl _) o)).fr
      have HR := Lib.hid hR
      have HNN := Lib.hid hnn
      have HN := Lib.hid hN
      have HZ := Lib.hid hZ
      have HB := Lib.hid hB
      have HSN := Lib.hid hsn
      have HXR := Lib.hid hxr
      have HXL := Lib.hid hxl
      clear hR hnn hN hZ hB hsn hxr hxl hx hxm
      by_cases hc1 : x.k = kind
      rotate_left
      · have q1 : (x.k != kind) = true := by simpa using hc1
        go_wp2_with (first | go_big_skip)
        go_roundw
        case rel => exact HRel.skip HSN.out (by omega) HR.out HNN.out HN.out HZ.out HB.out (fits_no (fun h => hc1 h.1)) ((Below.refl _ _).alloc (Nat.le_refl _) _)
        case measure => simp [intOf]; omega
      have q1 : (x.k != kind) = false := by simpa using hc1
      have HC1 := Lib.hid hc1
      clear hc1
      by_cases hc2 : x.r = n.fr
      rotate_left
      · have q2 : (x.r != n.fr) = true := by simpa using hc2
        go_wp2_with (first | go_big_skip)
        go_roundw
        case rel => exact HRel.skip HSN.out (by omega) HR.out HNN.out HN.out HZ.out HB.out (fits_no (fun h => hc2 h.2.1)) ((Below.refl _ _).alloc (Nat.le_refl _) _)
        case measure => simp [intOf]; omega
      have q2 : (x.r != n.fr) = false := by simpa using hc2
      have HC2 := Lib.hid hc2
      clear hc2
      by_cases hc3 : x.n = many
      rotate_left
      · have q3 : ((x.n : Int) != mz) = true := by have := HMZ.out; simp; omega
        go_wp2_with (first | go_big_skip)
        go_roundw
        case rel => exact HRel.skip HSN.out (by omega) HR.out HNN.out HN.out HZ.out HB.out (fits_no (fun h => hc3 (HXL.out.symm.trans h.2.2.1))) ((Below.refl _ _).alloc (Nat.le_refl _) _)
        case measure => simp [intOf]; omega
      have q3 : ((x.n : Int) != mz) = false := by have := HMZ.out; simp; omega
      have HC3 := Lib.hid hc3
      clear hc3
      by_cases hc4 : 0 ≤ x.f
      rotate_left
      · have q4 : decide (x.f < 0) = true := by rw [decide_eq_true_iff]; omega
        go_wp2_with (first | go_big_skip)
        go_roundw
        case rel => exact HRel.skip HSN.out (by omega) HR.out HNN.out HN.out HZ.out HB.out (fits_no (fun h => hc4 h.2.2.2.1)) ((Below.refl _ _).alloc (Nat.le_refl _) _)
        case measure => simp [intOf]; omega
      have q4 : decide (x.f < 0) = false := by rw [decide_eq_false_iff_not]; omega
      by_cases hc5 : x.f < 4
      rotate_left
      · have q5 : decide (4 ≤ x.f) = true := by rw [decide_eq_true_iff]; omega
        go_wp2_with (first | go_big_skip)
        go_roundw
        case rel => exact HRel.skip HSN.out (by omega) HR.out HNN.out HN.out HZ.out HB.out (fits_no (fun h => hc5 h.2.2.2.2.1)) ((Below.refl _ _).alloc (Nat.le_refl _) _)
        case measure => simp [intOf]; omega
      have q5 : decide (4 ≤ x.f) = false := by rw [decide_eq_false_iff_not]; omega
      by_cases hc6 : x.f ≠ n.id
      rotate_left
      · have q6 : (x.f == n.id) = true := by simpa using hc6
        go_wp2_with (first | go_big_skip)
        go_roundw
        case rel => exact HRel.skip HSN.out (by omega) HR.out HNN.out HN.out HZ.out HB.out (fits_no (fun h => hc6 h.2.2.2.2.2.1)) ((Below.refl _ _).alloc (Nat.le_refl _) _)
        case measure => simp [intOf]; omega
      have q6 : (x.f == n.id) = false := by simpa using hc6
      obtain ⟨f, hf⟩ : ∃ f : Nat, x.f = f := ⟨x.f.toNat, by omega⟩
      have hf4 : f < 4 := by omega
      have q7 : (f : Int) < 4 := by omega
      have q8 : (0 : Int) ≤ (f : Int) := by omega
      have o9 := fun o => rows_at HR.out hf4 _ ((Below.refl wr.heap.size wr).alloc (Nat.le_refl _) o)
      have hft : x.pm.f.toNat = f := by show x.f.toNat = f; omega
      rw [hf] at c1 q6
      have q4' : decide ((f : Int) < 0) = false := by rw [decide_eq_false_iff_not]; omega
      have q5' : decide (4 ≤ (f : Int)) = false := by rw [decide_eq_false_iff_not]; omega
      have q22 : ∀ (w : World) (a : Option Addr) (n c : Nat), (binOp .neq 58 (.slice a n c) (.slice none 0 0)).run Try.prog w = .ok (.bool (!a.isNone)) w := fun w a n c => run_neq_slice_nil_w w _ _ a n c Try.underlying58
      have HF := Lib.hid hf
      have HFT := Lib.hid hft
      have HC := Lib.hid (And.intro hc4 (And.intro hc5 hc6))
      clear hc4 hc5 hc6 q4 q5 hf hft
      by_cases hnil : hearF n.id n.fr kind many ((Ms.take k).map Mg.pm) f = none
      · have hs0 := (HNN.out f hf4).1 hnil
        simp only [hs0] at o9
        have HS0 := Lib.hid hs0
        have HNIL := Lib.hid hnil
        clear hs0 hnil
        go_upto_region 6 with (first | go_big_skip)
        have hI := HXR.out.1
        have hIA := HXR.out.2.1
        have hG : Blk (wr.alloc (.cells #[.int .i64 x.k, .int .i64 f, .int .i64 x.r, .slice x.A x.n x.c] 64)) wr.heap.size 64 #[.int .i64 x.k, .int .i64 f, .int .i64 x.r, .slice x.A x.n x.c] := Blk.new _ _ _
        have hb5 : Below wr.heap.size wr (wr.alloc (.cells #[.int .i64 x.k, .int .i64 f, .int .i64 x.r, .slice x.A x.n x.c] 64)) := (Below.refl _ _).alloc (Nat.le_refl _) _
        have hI5 := hI.next hb5
        have hR5 := rows_at HR.out hf4
        have hg9 : g9 < wr.heap.size := (Array.getElem?_eq_some_iff.1 HR.out.1).1
        have hz5 : (wr.alloc (.cells #[.int .i64 x.k, .int .i64 f, .int .i64 x.r, .slice x.A x.n x.c] 64)).heap.size = wr.heap.size + 1 := by simp
        generalize wr.alloc (.cells #[.int .i64 x.k, .int .i64 f, .int .i64 x.r, .slice x.A x.n x.c] 64) = W5 at *
        have HB5 := Lib.hid hb5
        have HI5 := Lib.hid hI5
        have HIA := Lib.hid hIA
        have HZ5 := Lib.hid hz5
        have sk : ∀ W, Below W5.heap.size W5 W → W.cell? ⟨wr.heap.size, 1, none⟩ = some (.int .i64 f) ∧ W.cell? ⟨wr.heap.size, 3, none⟩ = some (.slice x.A x.n x.c) := fun W h => ⟨(hG.next h).cell 1, (hG.next h).cell 3⟩
        have SK := Lib.hid sk
        have HGM := Lib.hid hG
        have fk : ∀ W, Below wr.heap.size wr W → W.cell? ⟨g9, f, none⟩ = some (sv f) ∧ W.frozen? ⟨g9, f, none⟩ = false := fun W h => ⟨hR5 W h, (HR.out.1.next h).frozen f⟩
        have FK := Lib.hid fk
        have hvn : x.n ≤ 24 := by have := HC3.out; omega
        clear hI hIA hG hb5 hI5 hR5 hz5 sk fk n0 n1 o9 c0 c1 c2 c3
        generalize hgm : wr.heap.size = gm at *
        have HGS := Lib.hid hgm
        clear hgm
        have hgne : gm ≠ g9 := by omega
        go_region_held3 (fun w' => w'.cell? ⟨gm, 1, none⟩ = some (.int .i64 f) ∧ w'.cell? ⟨gm, 3, none⟩ = some (.slice x.A x.n x.c))
          (first | with_reducible exact SK.out _ (Below.refl _ _).drew | with_reducible exact SK.out _ ((Below.refl _ _).alloc (Nat.le_refl _) _).drew | with_reducible exact SK6.out | with_reducible exact SK7.out _)
          (first
            | (refine step_append_ints rfl (.tmp 62) (.tmp 64) 58 rfl W5.heap.size 3 i0 (.int .i64 0) .i64 8 Try.underlying58 hi hz0 hz1 hz2 rfl (.slice (some ⟨W5.heap.size, 0, none⟩) 0 0) 0 [] (by simp [Act.eval]) (World.ownsRow_made W5 #[] 0 (Nat.le_refl _) (Nat.zero_le _) rfl).drew x.A x.n x.c x.vs (by simp [Act.eval]) HIA.out (HI5.out.next ((Below.refl _ _).alloc (Nat.le_refl _) _).drew) (by unfold maxLen; omega) (by omega) (by show _ ≤ (W5.heap.push _).size; simp) ?_; intro v6 w6 hown6 hg6; (simp only [Nat.zero_add, List.nil_append] at hown6); obtain ⟨A6, c6, rfl⟩ := own_shape hown6; have hb6 : Below W5.heap.size W5 w6 := ((Below.refl _ _).alloc (Nat.le_refl _) _).drew.grown hg6 (by show _ ≤ (W5.heap.push _).size; simp) (fun j hj => by cases hj; exact Nat.le_refl _); have hb7 := HB5.out.trans (hb6.mono (by rw [HZ5.out]; omega)); have k12 := FK.out w6 hb7; rw [HS0.out] at k12; obtain ⟨k1, k2⟩ := k12; have HO6 := Lib.hid hown6; have HB7 := Lib.hid hb7; have SK6 := Lib.hid (SK.out w6 hb6); have SK7 := Lib.hid (fun u => sk7_of HGM.out hb6 hgne f u); clear hown6 hg6 hb7 hb6))
        all_goals (go_wp2_with fail; go_roundw)
        case rel =>
          exact HRel.put HSN.out (by omega) hf4 HF.out (by rw [HXL.out]; have := HC3.out; omega) hne4 hne8 hw9 HR.out HNN.out HN.out HZ.out HB.out (fits_yes ⟨HC1.out, HC2.out, HXL.out.trans HC3.out, HC.out.1, HC.out.2.1, HC.out.2.2, by rw [HFT.out]; exact HNIL.out⟩) HS0.out (by rw [HGS.out]; exact HB7.out) (own_le (by rw [HXL.out]; exact HO6.out) (by rw [HZ5.out, HGS.out]; omega))
        case measure => simp [intOf]; omega
      · obtain ⟨A', n', c', hs0⟩ : ∃ A' n' c', sv f = .slice (some A') n' c' := by
          have ho := HR.out.2.1 f hf4
          rcases ho.2 with ⟨h1, h2⟩ | ⟨g, cap, cur, hv, _⟩
          · exact absurd ((HNN.out f hf4).2 h1) hnil
          · exact ⟨_, _, _, hv⟩
        simp only [hs0] at o9
        have HNIL := Lib.hid hnil
        clear hs0 hnil
        go_wp2_with (first | go_big_skip)
        go_roundw
        case rel => exact HRel.skip HSN.out (by omega) HR.out HNN.out HN.out HZ.out HB.out (fits_no (fun h => HNIL.out (by rw [← HFT.out]; exact h.2.2.2.2.2.2))) ((Below.refl _ _).alloc (Nat.le_refl _) _)
        case measure => simp [intOf]; omega
    · have hkk : k = m := by omega
      have htk : Ms.take k = Ms := by rw [hkk, ← hml]; exact List.take_length
      rw [htk] at hR hnn
      obtain ⟨cs, hz8, hcs⟩ := hZ
      have q0 : ¬ (k : Int) < (m : Int) := by omega
      have HNN := Lib.hid hnn
      have HR := Lib.hid hR
      have HZ := Lib.hid hz8
      have HB := Lib.hid hB
      clear hnn hR hz8 hB hN hkk htk
      go_wp2_with (first
        | (refine wpList_load_at 94 (.tmp 9) rfl rfl g9 rfl _ (AN 4 sv) _ HR.out.1 Try.underlying94 rfl (by rw [AN_size]; exact info44) ?_)
        | (refine wpList_store_at 94 (.tmp 8) (.tmp 68) rfl rfl g8 _ cs (AN 4 sv) rfl rfl HZ.out (by rw [AN_size, hcs]) (by rw [AN_size]; exact info44) (AN_one (fun i hi => rows_one HR.out hi)) ?_; intro w4 hN4 hg4))
      refine bodyPost_ret (results_cell_row Try.results37 _ _ g8 _ _ (0, 0) _ rfl hN4 Try.underlying94 rfl (by rw [AN_size]; exact info44)) rfl ?_
      have hR4 := HR.out.grown hg4 HZ.out (by decide) (by omega)
      refine ⟨sv, rfl, sl4_of hR4 (fun i hi => HNN.out i hi), HB.out.grown hg4 HB.out.size (fun j hj => by cases hj; omega)⟩
end Go.Proofs.Ytofeoeknmlkjgaa.Nk
end
section
/- node.told. -/
set_option linter.unusedVariables false
namespace Go.Proofs.Ytofeoeknmlkjgaa.Nk
open Go.RowKit Go.Proofs.Ytofeoeknmlkjgaa Mb Fi Sm

theorem info2 : (Try.prog.info? 97).map (·.size) = some 2 := by kernel_rfl
def I2 (f : Nat → Int) : Array Value := AN 2 fun j => .int .i64 (f j)
set_option maxRecDepth 10000 in
theorem idx4l (a b c d : Value) (k : Nat) (hk : k < 4) (w : World) : (Instr.index 94 (.agg #[a, b, c, d]) (.int .i64 (k : Int))).run Try.prog w = .ok ((#[a, b, c, d]).getD k undef) w := by
  match k, hk with
  | 0, _ => rfl
  | 1, _ => rfl
  | 2, _ => rfl
  | 3, _ => rfl
theorem four {α : Type} {k : Nat} (hk : k < 4) (f : Nat → α) (P : Nat → α → Prop) (h0 : P 0 (f 0)) (h1 : P 1 (f 1)) (h2 : P 2 (f 2)) (h3 : P 3 (f 3)) : P k (f k) := by
  match k, hk with
  | 0, _ => exact h0
  | 1, _ => exact h1
  | 2, _ => exact h2
  | 3, _ => exact h3
theorem idx4s (sv : Nat → Value) (k : Nat) (hk : k < 4) (w : World) : (Instr.index 94 (.agg (AN 4 sv)) (.int .i64 (k : Int))).run Try.prog w = .ok (sv k) w :=
  four hk sv (fun k x => (Instr.index 94 (.agg #[sv 0, sv 1, sv 2, sv 3]) (.int .i64 (k : Int))).run Try.prog w = .ok x w)
    (idx4l _ _ _ _ 0 (by omega) w) (idx4l _ _ _ _ 1 (by omega) w) (idx4l _ _ _ _ 2 (by omega) w) (idx4l _ _ _ _ 3 (by omega) w)
def TRel (w : World) (h : Hd) (k d b g8 g9 : Nat) (av iv : Value) (wr : World) : Prop :=
  ∃ i : Nat, iv = .int .i64 i ∧ i ≤ 4 ∧ av = .int .i64 (cntO d b i : Nat) ∧ Blk wr g9 97 (I2 (outO h k d b i)) ∧ (∃ cs, Blk wr g8 97 cs ∧ cs.size = 2) ∧ Below w.heap.size w wr
section
variable {w wr : World} {h : Hd} {k d b g8 g9 i : Nat}
theorem TRel.skip (hi : i < 4) (hB9 : Blk wr g9 97 (I2 (outO h k d b i))) (hZ : ∃ cs, Blk wr g8 97 cs ∧ cs.size = 2) (hB : Below w.heap.size w wr) (hn : i = d ∨ i = b) :
    TRel w h k d b g8 g9 (.int .i64 (cntO d b i : Nat)) (.int .i64 ((i : Int) + 1)) wr := by
  have hn' : ¬ (i ≠ d ∧ i ≠ b) := by omega
  refine ⟨i + 1, by go_num, hi, ?_, ?_, hZ, hB⟩
  · rw [cntO, if_neg hn']; rfl
  · rw [outO, if_neg hn']; exact hB9
theorem TRel.nil (hi : i < 4) (hB9 : Blk wr g9 97 (I2 (outO h k d b i))) (hZ : ∃ cs, Blk wr g8 97 cs ∧ cs.size = 2) (hB : Below w.heap.size w wr) (hn : i ≠ d ∧ i ≠ b) (hh : h i = none) :
    TRel w h k d b g8 g9 (.int .i64 ((cntO d b i : Nat) + 1)) (.int .i64 ((i : Int) + 1)) wr := by
  refine ⟨i + 1, by go_num, hi, ?_, ?_, hZ, hB⟩
  · rw [cntO, if_pos hn]; go_num
  · rw [outO, if_pos hn, hh]; exact hB9
theorem TRel.put {l : List Int} (hi : i < 4) (hB9 : Blk wr g9 97 (I2 (outO h k d b i))) (hZ : ∃ cs, Blk wr g8 97 cs ∧ cs.size = 2) (hB : Below w.heap.size w wr) (hn : i ≠ d ∧ i ≠ b) (hh : h i = some l) (hne : g8 ≠ g9) (hg : w.heap.size ≤ g9) :
    TRel w h k d b g8 g9 (.int .i64 ((cntO d b i : Nat) + 1)) (.int .i64 ((i : Int) + 1)) (wr.setCell ⟨g9, cntO d b i, none⟩ (.int .i64 (l.getD k 0))) := by
  obtain ⟨cs, h1, h2⟩ := hZ
  refine ⟨i + 1, by go_num, hi, ?_, ?_, ⟨cs, h1.grown (grown_set _ _ _ _) (by intro e; exact hne (Option.some.inj e)), h2⟩, hB.setCell (p := ⟨g9, _, none⟩) hg _⟩
  · rw [cntO, if_pos hn]; go_num
  · rw [outO, if_pos hn, hh]
    have := hB9.set_ (cntO d b i) (.int .i64 (l.getD k 0))
    unfold I2 at this ⊢
    rw [AN_set] at this
    rw [AN_congr (g := fun j => if j = cntO d b i then .int .i64 (l.getD k 0) else .int .i64 (outO h k d b i j))]
    · exact this
    · intro j _
      show Value.int .i64 (upd _ _ _ j) = _
      unfold upd
      split <;> rfl
end

set_option maxRecDepth 100000 in
set_option maxHeartbeats 4000000 in
theorem told_any (h : Hd) (sv : Nat → Value) (d b k : Nat) (hd : d < 4) (hb : b < 4) (hdb : d ≠ b) (hl : ∀ i l, h i = some l → k < l.length ∧ l.length ≤ 24) (w : World) (B : Nat) (hS : Sl4 w B h sv) :
    Calls Try.prog 39 #[.agg (AN 4 sv), .int .i64 d, .int .i64 b, .int .i64 k] w fun e w' => e = .returned (.agg (I2 (toldF h k d b))) ∧ Below w.heap.size w w' := by
  have HSl := Lib.hid hS
  have HL := Lib.hid hl
  clear hS hl
  go_enter Try.func39, Try.ntmps39
  go_upto_region 3 with fail
  have hN0 : Blk (((w.alloc (.cells (AN 4 sv) 94)).alloc (.cells #[.int .i64 0, .int .i64 0] 97)).alloc (.cells #[.int .i64 0, .int .i64 0] 97)) w.heap.size 94 (AN 4 sv) := ((Blk.new _ _ _).alloc _).alloc _
  have hZ8 : Blk (((w.alloc (.cells (AN 4 sv) 94)).alloc (.cells #[.int .i64 0, .int .i64 0] 97)).alloc (.cells #[.int .i64 0, .int .i64 0] 97)) (w.heap.size + 1) 97 #[.int .i64 0, .int .i64 0] := (Blk.at_ _ _ _ _ (by simp)).alloc _
  have hZ9 : Blk (((w.alloc (.cells (AN 4 sv) 94)).alloc (.cells #[.int .i64 0, .int .i64 0] 97)).alloc (.cells #[.int .i64 0, .int .i64 0] 97)) (w.heap.size + 1 + 1) 97 (I2 fun _ => 0) := Blk.at_ _ _ _ _ (by simp)
  have hB0 : Below w.heap.size w (((w.alloc (.cells (AN 4 sv) 94)).alloc (.cells #[.int .i64 0, .int .i64 0] 97)).alloc (.cells #[.int .i64 0, .int .i64 0] 97)) := (((Below.refl _ _).alloc (Nat.le_refl _) _).alloc (by simp) _).alloc (by simp; omega) _
  generalize ((w.alloc (.cells (AN 4 sv) 94)).alloc (.cells #[.int .i64 0, .int .i64 0] 97)).alloc (.cells #[.int .i64 0, .int .i64 0] 97) = W0 at *
  have hne : w.heap.size + 1 ≠ w.heap.size + 1 + 1 := by omega
  have hw9 : w.heap.size ≤ w.heap.size + 1 + 1 := by omega
  have hw8 : w.heap.size ≤ w.heap.size + 1 := by omega
  generalize w.heap.size + 1 + 1 = g9 at *
  generalize w.heap.size + 1 = g8 at *
  have HS : Hid (TRel w h k d b g8 g9 (.int .i64 0) (.int .i64 0) W0) := ⟨0, rfl, by omega, rfl, hZ9, ⟨_, hZ8, rfl⟩, hB0⟩
  have HN0 := Lib.hid hN0
  clear hN0 hZ8 hZ9 hB0
  go_wp2_with (first
    | (refine wpList_load_at 94 (.tmp 4) rfl rfl w.heap.size rfl _ (AN 4 sv) _ HN0.out Try.underlying94 rfl (by rw [AN_size]; exact info44) ?_))
  go_loopw [10, 14] (fun av iv wr => TRel w h k d b g8 g9 av iv wr) (fun _ iv _ => 4 - (intOf iv).toNat)
  case atStart => exact HS.out
  case round =>
    clear HS HN0
    obtain ⟨i, rfl, hi4, rfl, hB9, hZ, hB⟩ := hrel
    by_cases hi : i < 4
    · have q0 : (i : Int) < 4 := by omega
      have ix := fun W => idx4s sv i hi W
      have hct := cntO_le d b i
      have HB9 := Lib.hid hB9
      have HZ := Lib.hid hZ
      have HB := Lib.hid hB
      clear hZ hB hB9
      by_cases c1 : i = d
      · have q1 : ((i : Int) == (d : Int)) = true := by simp; omega
        have HC := Lib.hid c1
        clear c1
        go_wp2_with (first | go_big_skip)
        go_roundw
        case rel => exact TRel.skip hi HB9.out HZ.out HB.out (.inl HC.out)
        case measure => simp [intOf]; omega
      · have q1 : ((i : Int) == (d : Int)) = false := by simp; omega
        by_cases c2 : i = b
        · have q2 : ((i : Int) == (b : Int)) = true := by simp; omega
          have HC := Lib.hid c2
          clear c2
          go_wp2_with (first | go_big_skip)
          go_roundw
          case rel => exact TRel.skip hi HB9.out HZ.out HB.out (.inr HC.out)
          case measure => simp [intOf]; omega
        · have q2 : ((i : Int) == (b : Int)) = false := by simp; omega
          have HC := Lib.hid (And.intro c1 c2)
          have hc2 := cntO_lt d hd b hb hdb i hi c1 c2
          have q22 : ∀ (w : World) (a : Option Addr) (n c : Nat), (binOp .neq 58 (.slice a n c) (.slice none 0 0)).run Try.prog w = .ok (.bool (!a.isNone)) w := fun w a n c => run_neq_slice_nil_w w _ _ a n c Try.underlying58
          clear c1 c2
          rcases HSl.out i hi with ⟨h1, h2⟩ | ⟨l, ad, c, h1, h2, h3, _⟩
          · simp only [h2] at ix
            have H1 := Lib.hid h1
            clear h1 h2
            go_wp2_with (first | go_big_skip)
            go_roundw
            case rel => exact TRel.nil hi HB9.out HZ.out HB.out HC.out H1.out
            case measure => simp [intOf]; omega
          · simp only [h2] at ix
            have hkl := HL.out i l h1
            obtain ⟨bb, off, e, hlt, hc⟩ := (h3.next HB.out).2 (by omega)
            have ck := hc k (by omega)
            obtain ⟨z, hz⟩ : ∃ z, z = l.getD k 0 := ⟨_, rfl⟩
            rw [← hz] at ck
            have HZZ := Lib.hid hz
            clear hz
            injection e with e
            subst e
            have q5 : (k : Int) < (l.length : Int) := by omega
            have q6 : (0 : Int) ≤ (k : Int) := by omega
            have q7 : ((cntO d b i : Nat) : Int) < 2 := by omega
            have q8 : (0 : Int) ≤ ((cntO d b i : Nat) : Int) := by omega
            have k9 : wr.cell? ⟨g9, cntO d b i, none⟩ = some (.int .i64 (outO h k d b i (cntO d b i))) := by
              have := Blk.cell HB9.out (cntO d b i)
              rw [this]; unfold I2; rw [AN_get hc2]
            have f9 := Blk.frozen HB9.out (cntO d b i)
            have H1 := Lib.hid h1
            clear h1 h2 h3 hc
            go_wp2_with (first | go_big_skip)
            go_roundw
            case rel => rw [HZZ.out]; exact TRel.put hi HB9.out HZ.out HB.out HC.out H1.out hne hw9
            case measure => simp [intOf]; omega
    · obtain rfl : i = 4 := by omega
      obtain ⟨cs, hz8, hcs⟩ := hZ
      have HB9 := Lib.hid hB9
      have HZ := Lib.hid hz8
      have HB := Lib.hid hB
      clear hB9 hz8 hB
      go_wp2_with (first
        | (refine wpList_load_at 97 (.tmp 9) rfl rfl g9 rfl _ (I2 (outO h k d b 4)) _ HB9.out Try.underlying97 rfl (by unfold I2; rw [AN_size]; exact info2) ?_)
        | (refine wpList_store_at 97 (.tmp 8) (.tmp 37) rfl rfl g8 _ cs (I2 (outO h k d b 4)) rfl rfl HZ.out (by unfold I2; rw [AN_size, hcs]) (by unfold I2; rw [AN_size]; exact info2) (AN_one (fun i hi => rfl)) ?_; intro w4 hN4 hg4))
      refine bodyPost_ret (results_cell_row Try.results39 _ _ g8 _ _ (0, 0) _ rfl hN4 Try.underlying97 rfl (by unfold I2; rw [AN_size]; exact info2)) rfl ?_
      exact ⟨rfl, HB.out.grown hg4 HB.out.size (fun j hj => by cases hj; exact hw8)⟩
end Go.Proofs.Ytofeoeknmlkjgaa.Nk
end
section
/- Lists of whatever elements that came in. -/
set_option linter.unusedVariables false
namespace Go.Proofs.Ytofeoeknmlkjgaa.Nk
open Go.RowKit Go.Proofs.Ytofeoeknmlkjgaa Mb Fi Go.ChangeShapes Go.WideShapes

theorem weights_all {H : Type} {P : Program} {e : TypeId} : ∀ {l : List (DataW H)} {d : DataW H}, d ∈ l → ∀ x ∈ d.weights P e, x ∈ DataW.weightsAll P e l
  | y :: l, d, h, x, hx => by
    simp only [DataW.weightsAll, List.mem_append]
    rcases List.mem_cons.1 h with rfl | h
    · exact .inl hx
    · exact .inr (weights_all h x hx)
theorem flatMap_at {α : Type} (f : α → List Value) (sz : Nat) (hf : ∀ a, (f a).length = sz) : ∀ (L : List α) (j : Nat) (u : Value), (L.flatMap f)[j]? = some u → ∃ i a k, L[i]? = some a ∧ k < sz ∧ j = i * sz + k ∧ (f a)[k]? = some u
  | [], j, u, h => by simp at h
  | a :: L, j, u, h => by
    rw [List.flatMap_cons] at h
    by_cases c : j < sz
    · rw [List.getElem?_append_left (by rw [hf]; exact c)] at h
      exact ⟨0, a, j, rfl, c, by omega, h⟩
    · rw [List.getElem?_append_right (by rw [hf]; omega), hf] at h
      obtain ⟨i, b, k, h1, h2, h3, h4⟩ := flatMap_at f sz hf L (j - sz) u h
      exact ⟨i + 1, b, k, by simpa using h1, h2, by rw [Nat.succ_mul]; omega, h4⟩
theorem flatMap_len {α : Type} (f : α → List Value) (sz : Nat) (hf : ∀ a, (f a).length = sz) : ∀ (L : List α), (L.flatMap f).length = L.length * sz
  | [] => by simp
  | a :: L => by rw [List.flatMap_cons, List.length_append, hf, flatMap_len f sz hf L, List.length_cons, Nat.succ_mul]; omega
theorem vr_in {P : Program} {W : World} {H : Type} {enc : TypeId × Value → H} {t e : TypeId} {A : Option Addr} {n c sz : Nat} {d : DataW H} {p : List MemPlace} (ht : P.underlying t = some (.slice e)) (ce : P.cellsOf e = sz) (hsz : 0 < sz)
    (h : DataW.Trod enc P W 0 (fun _ => true) true t (.slice A n c) d p) (hw : ∀ x ∈ d.weights P t, x ≤ reachBytes) {α : Type} [Inhabited α] (f : α → List Value) (hf : ∀ a, (f a).length = sz) (Ok : α → Prop)
    (each : ∀ (fuel : Nat) (cs : List Value) (x : DataW H × List MemPlace), cs.length = sz → DataW.trod enc P W 0 (fun _ => true) true fuel e cs = some x → (∀ y ∈ x.1.weights P e, y ≤ reachBytes) → ∃ a : α, cs = f a ∧ Ok a) :
    ∃ L : List α, L.length = n ∧ VR W sz A n c (L.flatMap f) ∧ (∀ a ∈ L, Ok a) ∧ n ≤ c ∧ n * P.bytesOf e ≤ reachBytes := by
  obtain ⟨fuel, hh⟩ := h
  rcases Go.Deep.open_slice ht hh with ⟨hcs, _⟩ | ⟨a, len, cap, m, q, D, Pl, hcs, _, hl, _, hm, hd, hx⟩
  · simp [Value.cells] at hcs
    obtain ⟨rfl, rfl, rfl⟩ := hcs
    exact ⟨[], rfl, VR.nil _ _, (fun a h => by cases h), Nat.le_refl _, by simp⟩
  · simp [Value.cells] at hcs
    obtain ⟨rfl, rfl, rfl⟩ := hcs
    have hd1 := (Prod.mk.inj hd).1
    have hlen : n * P.bytesOf e ≤ reachBytes := by
      have := hw (n * P.bytesOf e + (m - n) * P.bytesOf e) (by rw [hd1]; simp [DataW.weights, ht, Nat.add_mul])
      omega
    have ex : ∀ j, j < n → ∃ D : α, (∀ i, i < sz → W.cell? (a.add (j * sz + i)) = (f D)[i]?) ∧ Ok D := by
      intro j hj
      obtain ⟨cs, h1, h2⟩ := hx j (by rw [hm]; simp; omega)
      rw [ce] at h1
      obtain ⟨_, hlen, hcell⟩ := World.cells?_some h1
      obtain ⟨D', e, r⟩ := each _ cs _ hlen h2 (fun y hy => hw y (by
        rw [hd1]
        simp only [DataW.weights, ht, List.mem_cons, List.mem_append]
        exact .inr (.inl (weights_all (List.mem_map.2 ⟨j, List.mem_range.2 hj, rfl⟩) y hy))))
      refine ⟨D', fun i hi => ?_, r⟩
      have := hcell i hi
      rw [Go.Deep.add_add] at this
      rw [this, e]
    obtain ⟨M, hM⟩ := Go.Deep.choose_lt ex
    refine ⟨(List.range n).map M, by simp, ⟨by rw [flatMap_len f sz hf]; simp, fun e => by simp at e, fun hn => ?_⟩, fun z hz => ?_, hl, hlen⟩
    · have h0 := (hM 0 hn).1 0 hsz
      have hs0 : ∃ v, (f (M 0))[0]? = some v := ⟨_, List.getElem?_eq_getElem (by rw [hf]; exact hsz)⟩
      obtain ⟨v, hv⟩ := hs0
      rw [hv] at h0
      have hsp : a.spot = none := by
        have := World.cell?_spot h0
        simpa [Addr.add] using this
      obtain ⟨b, off, sp⟩ := a
      simp only at hsp
      subst hsp
      have ea : ∀ k, (⟨b, off, none⟩ : Addr).add k = ⟨b, off + k, none⟩ := fun k => by unfold Addr.add; split <;> simp_all
      refine ⟨b, off, rfl, ?_, fun j u hj => ?_⟩
      · have := World.block_lt_of_cell? _ _ h0
        simpa [Addr.add] using this
      · obtain ⟨i, x, k, h1, h2, h3, h4⟩ := flatMap_at f sz hf _ j u hj
        have hi : i < n := by have := (List.getElem?_eq_some_iff.1 h1).1; simpa using this
        rw [List.getElem?_map, List.getElem?_range hi] at h1
        have hx : M i = x := by simpa using h1
        have := (hM i hi).1 k h2
        rw [ea, hx, h4, ← h3] at this
        exact this
    · obtain ⟨j, hj, rfl⟩ := List.mem_map.1 hz
      exact (hM j (List.mem_range.1 hj)).2
theorem in64_of {z : Int} (h : (Lit.int .i64 z).wf = true) : In64 z := by
  unfold In64
  simpa [Lit.wf, IntKind.has, IntKind.min, IntKind.max, IntKind.signed, IntKind.bits] using h
end Go.Proofs.Ytofeoeknmlkjgaa.Nk
end
