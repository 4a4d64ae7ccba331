/- Merged: Node1 NodeMsg VrIn. -/
import Derived.BigGuard
import Derived.Deep.Slices
import Derived.SizedLaws
import Derived.Test.YtofeoeknmlkjgaaZ06
import Derived.Test.YtofeoeknmlkjgaaZ16
import Derived.Test.YtofeoeknmlkjgaaZ29
import Derived.Test.YtofeoeknmlkjgaaZ30
set_option linter.unusedVariables false
set_option linter.unusedSimpArgs false
section
/- node.strange, copied, say. -/
set_option linter.unusedVariables false
namespace Go.Proofs.Ytofeoeknmlkjgaa.Nk
open Go.RowKit Go.Proofs.Ytofeoeknmlkjgaa Mb Fi Sm

theorem infoBoolN : (Try.prog.info? 4).map (fun i => (i.zero, i.size, i.bytes)) = some (some (.bool false), 1, 1) := by kernel_rfl
theorem ret_bool {a b : Bool} (h : a = b) : Ending.returned (.bool a) = .returned (.bool b) := by rw [h]
theorem infoNode : (Try.prog.info? 45).map (·.size) = some 74 := by kernel_rfl

set_option maxRecDepth 100000 in
set_option maxHeartbeats 1000000 in
theorem strange_no (n : Nd) (va : Value) (w : World) (h0 : 0 ≤ n.id) (h4 : n.id < 4) :
    Calls Try.prog 36 #[.agg (NA n va)] w fun e w' => e = .returned (.bool false) ∧ Below w.heap.size w w' := by
  have c0 := (NB.id (W := w.alloc (.cells (NA n va) 45)) (Blk.new w 45 (NA n va)))
  go_enter Try.func36, Try.ntmps36
  go_wp2_with (first | go_big_skip)
  go_ret
  exact ⟨ret_bool (by rw [decide_eq_false (show ¬ n.id < 0 by omega), decide_eq_false (show ¬ 4 ≤ n.id by omega)]; rfl), (Below.refl _ _).alloc (Nat.le_refl _) _⟩
set_option maxRecDepth 100000 in
set_option maxHeartbeats 1000000 in
theorem strange_yes (n : Nd) (va : Value) (w : World) (h0 : n.id < 0 ∨ 4 ≤ n.id) :
    Calls Try.prog 36 #[.agg (NA n va)] w fun e w' => e = .returned (.bool true) ∧ Below w.heap.size w w' := by
  have c0 := (NB.id (W := w.alloc (.cells (NA n va) 45)) (Blk.new w 45 (NA n va)))
  by_cases h : n.id < 0
  · go_enter Try.func36, Try.ntmps36
    go_wp2_with (first | go_big_skip)
    go_ret
    exact ⟨rfl, (Below.refl _ _).alloc (Nat.le_refl _) _⟩
  · have h4 : 4 ≤ n.id := by omega
    clear h0
    go_enter Try.func36, Try.ntmps36
    go_wp2_with (first | go_big_skip)
    go_ret
    exact ⟨rfl, (Below.refl _ _).alloc (Nat.le_refl _) _⟩

def CopyPost (n : Nd) (bs : List Value) (w : World) (e : Ending) (w' : World) : Prop :=
  ∃ A' c', e = .returned (.agg (NA n (.slice A' bs.length c'))) ∧ w'.ownsRow w.heap.size 4 1 (.slice A' bs.length c') bs.length bs ∧ Below w.heap.size w w'
def CutC (w : World) (n : Nd) (va : Value) (s1 s2 : Value) (wx : World) : Prop :=
  ∃ (g1 g2 : Nat) (cs : Array Value), s1 = .pointer (some ⟨g1, 0, none⟩) ∧ s2 = .pointer (some ⟨g2, 0, none⟩) ∧ g1 ≠ g2 ∧ w.heap.size ≤ g1 ∧ w.heap.size ≤ g2 ∧ NB wx g1 n va ∧ Blk wx g2 45 cs ∧ cs.size = 74 ∧ Below w.heap.size w wx
theorem NB.va_set {W : World} {g : Nat} {n : Nd} {va va' : Value} (h : NB W g n va) : NB (W.setCell ⟨g, 73, none⟩ va') g n va' := h.set (by
  intro i hi
  by_cases e : i = 73
  · subst e; rfl
  · rw [if_neg e]
    have h73 : i < 73 := by omega
    unfold Nd.c
    simp only [if_pos h73])

set_option maxRecDepth 100000 in
set_option maxHeartbeats 2000000 in
theorem copied_any (n : Nd) (A : Option Addr) (m c : Nat) (bs : List Value) (w : World) (hb : VR w 1 A m c bs) (h1 : ∀ u ∈ bs, u.oneCell' = true) (hm : m ≤ 140737488355328) :
    Calls Try.prog 35 #[.agg (NA n (.slice A m c))] w (CopyPost n bs w) := by
  obtain ⟨i0, hi, hz0, hz1, hz2⟩ := info_parts infoBoolN
  have HB := Lib.hid hb
  have H1 := Lib.hid h1
  clear hb h1
  go_enter Try.func35, Try.ntmps35
  go_upto_region 0 with fail
  go_cut [1, 2] (fun s1 s2 wx => CutC w n (.slice A m c) s1 s2 wx)
  case first =>
    go_wp2_with fail
    go_meet
    exact ⟨_, _, _, rfl, rfl, by omega, by omega, by omega, (Blk.new _ _ _).alloc _, Blk.at_ _ _ _ _ (by simp), rfl, ((Below.refl _ _).alloc (Nat.le_refl _) _).alloc (by simp) _⟩
  case rest =>
    obtain ⟨g1, g2, cs, rfl, rfl, hne, hg1, hg2, hN, hZ, hcs, hB⟩ := hcut
    have c1 := NB.agr hN
    have hb := HB.out.next hB
    have HBB := Lib.hid hb
    have HN := Lib.hid hN
    have HZ := Lib.hid hZ
    have HBl := Lib.hid hB
    have hsz := hB.size
    clear hb hN hZ hB
    go_wp2_with (first
      | (at_builtin; go_loud (refine wpList_append_vr _ _ 41 rfl rfl w.heap.size 4 i0 (.bool false) 1 1 Try.underlying41 hi hz0 hz1 hz2 rfl (by decide) (.slice none 0 0) 0 [] rfl (World.ownsRow_nil _ _ _ _) A m c bs rfl HBB.out H1.out (by unfold maxLen; omega) (by omega) hsz ?_); intro v2 w2 hown2 hg2'; (simp only [Nat.zero_add, List.nil_append] at hown2); obtain ⟨A2, c2, rfl⟩ := own_shape hown2; have hN2 : NB w2 g1 n (.slice A m c) := Blk.grown HN.out hg2' (by intro e; cases e); have HZ2 := Lib.hid (Blk.grown HZ.out hg2' (by intro e; cases e)); have HB2 := Lib.hid (HBl.out.grown hg2' hsz (fun j hj => by cases hj)); have d1 := hN2.agr; have d2 := Blk.frozen hN2 73; have HO2 := Lib.hid hown2; have HNa := Lib.hid hN2; have HN3 := Lib.hid (hN2.va_set (va' := .slice A2 m c2)); clear hown2 hg2' hN2)
      | (refine wpList_load_at 45 (.tmp 1) rfl rfl g1 rfl _ (NA n (.slice A2 m c2)) _ HN3.out Try.underlying45 rfl (by rw [NA_size]; exact infoNode) ?_)
      | (refine wpList_store_at 45 (.tmp 2) (.tmp 9) rfl rfl g2 _ cs (NA n (.slice A2 m c2)) rfl rfl (Blk.grown HZ2.out (grown_set _ g1 73 _) (by intro e; exact hne (Option.some.inj e).symm)) (by rw [NA_size, hcs]) (by rw [NA_size]; exact infoNode) (NA_one _ _ _ _) ?_; intro w4 hN4 hg4))
    refine bodyPost_ret (results_cell_row Try.results35 _ _ g2 _ _ (0, 0) _ rfl hN4 Try.underlying45 rfl (by rw [NA_size]; exact infoNode)) rfl ?_
    have hl : bs.length = m := by have := HB.out.1; omega
    subst hl
    have hz2 := Blk.grown HZ2.out (grown_set w2 g1 73 (.slice A2 bs.length c2)) (by intro e; exact hne (Option.some.inj e).symm)
    have o3 := own_kept_t HO2.out (grown_set w2 g1 73 (.slice A2 bs.length c2)) HNa.out (by decide)
    have b3 := HB2.out.setCell (p := ⟨g1, 73, none⟩) hg1 (.slice A2 bs.length c2)
    exact ⟨A2, c2, rfl, own_kept_t o3 hg4 hz2 (by decide), b3.grown hg4 b3.size (fun j hj => by cases hj; exact hg2)⟩
end Go.Proofs.Ytofeoeknmlkjgaa.Nk
end
section
/- Lists of messages that are read; node.say. -/
set_option linter.unusedVariables false
namespace Go.Proofs.Ytofeoeknmlkjgaa.Nk
open Go.RowKit Go.Proofs.Ytofeoeknmlkjgaa Mb Fi Sm

def In64 (z : Int) : Prop := -9223372036854775808 ≤ z ∧ z ≤ 9223372036854775807
structure Mg where
  k : Int
  f : Int
  r : Int
  A : Option Addr
  n : Nat
  c : Nat
  vs : List Int
def Mg.pm (x : Mg) : Pm := ⟨x.k, x.f, x.r, x.vs⟩
def Mg.cells (x : Mg) : List Value := [.int .i64 x.k, .int .i64 x.f, .int .i64 x.r, .slice x.A x.n x.c]
def flatM : List Mg → List Value
  | [] => []
  | p :: L => p.cells ++ flatM L
theorem flatM_app : ∀ L M : List Mg, flatM (L ++ M) = flatM L ++ flatM M
  | [], M => rfl
  | p :: L, M => by rw [List.cons_append, flatM, flatM, flatM_app L M, List.append_assoc]
theorem flatM_get : ∀ (L : List Mg) (i : Nat) (p : Mg) (k : Nat), L[i]? = some p → k < 4 → (flatM L)[i * 4 + k]? = p.cells[k]?
  | [], i, p, k, h, hk => by simp at h
  | q :: L, 0, p, k, h, hk => by
    simp at h; subst h
    rw [flatM, Nat.zero_mul, Nat.zero_add, List.getElem?_append_left (by simp [Mg.cells]; omega)]
  | q :: L, i + 1, p, k, h, hk => by
    have := flatM_get L i p k (by simpa using h) hk
    rw [flatM, List.getElem?_append_right (by simp [Mg.cells]; omega), ← this]
    congr 1
    simp [Mg.cells]; omega
def Mg.Reads (w : World) (x : Mg) : Prop := Ints w .i64 x.A x.n x.vs ∧ (x.A = none → x.n = 0 ∧ x.c = 0) ∧ x.n ≤ 17592186044416 ∧ ∀ v ∈ x.vs, In64 v
def MR (w : World) (A : Option Addr) (m c : Nat) (L : List Mg) : Prop := L.length = m ∧ VR w 4 A m c (flatM L) ∧ ∀ x ∈ L, x.Reads w
section
variable {w w' : World} {A : Option Addr} {m c : Nat} {L : List Mg}
theorem Mg.Reads.next {x : Mg} (h : x.Reads w) (hb : Below w.heap.size w w') : x.Reads w' := ⟨h.1.next hb, h.2⟩
theorem MR.next (h : MR w A m c L) (hb : Below w.heap.size w w') : MR w' A m c L := ⟨h.1, h.2.1.next hb, fun x hx => (h.2.2 x hx).next hb⟩
theorem MR.nil (w : World) : MR w none 0 0 [] := ⟨rfl, VR.nil _ _, fun x hx => by cases hx⟩
theorem MR.row {i : Nat} (h : MR w A m c L) (hi : i < m) : ∃ b off x, A = some ⟨b, off, none⟩ ∧ b < w.heap.size ∧ L[i]? = some x ∧ x ∈ L ∧ x.Reads w ∧
    w.cell? ⟨b, off + i * 4, none⟩ = some (.int .i64 x.k) ∧ w.cell? ⟨b, off + i * 4 + 1, none⟩ = some (.int .i64 x.f) ∧ w.cell? ⟨b, off + i * 4 + 2, none⟩ = some (.int .i64 x.r) ∧ w.cell? ⟨b, off + i * 4 + 3, none⟩ = some (.slice x.A x.n x.c) := by
  obtain ⟨b, off, rfl, hlt, hc⟩ := h.2.1.2.2 (by omega)
  have hL : i < L.length := by rw [h.1]; exact hi
  have hp : L[i]? = some L[i] := List.getElem?_eq_getElem hL
  have hm : L[i] ∈ L := List.getElem_mem hL
  have hk := fun k hk => flatM_get L i L[i] k hp hk
  refine ⟨b, off, L[i], rfl, hlt, hp, hm, h.2.2 _ hm, hc (i * 4) _ (hk 0 (by omega)), ?_, ?_, ?_⟩
  · rw [Nat.add_assoc]; exact hc _ _ (hk 1 (by omega))
  · rw [Nat.add_assoc]; exact hc _ _ (hk 2 (by omega))
  · rw [Nat.add_assoc]; exact hc _ _ (hk 3 (by omega))
end

set_option maxRecDepth 100000 in
set_option maxHeartbeats 1000000 in
theorem say_any (n : Nd) (va : Value) (kind : Int) (A : Option Addr) (m c : Nat) (w : World) :
    Calls Try.prog 38 #[.agg (NA n va), .int .i64 kind, .slice A m c] w fun e w' => e = .returned (.agg #[.int .i64 kind, .int .i64 n.id, .int .i64 n.fr, .slice A m c]) ∧ Below w.heap.size w w' := by
  have hN : NB ((w.alloc (.cells (NA n va) 45)).alloc (.cells #[.int .i64 0, .int .i64 0, .int .i64 0, .slice none 0 0] 64)) w.heap.size n va := (Blk.new _ _ _).alloc _
  have c0 := hN.id
  have c1 := hN.fr
  clear hN
  go_enter Try.func38, Try.ntmps38
  go_wp2_with fail
  have HZ : Blk ((w.alloc (.cells (NA n va) 45)).alloc (.cells #[.int .i64 kind, .int .i64 n.id, .int .i64 n.fr, .slice A m c] 64)) (w.heap.size + 1) 64 #[.int .i64 kind, .int .i64 n.id, .int .i64 n.fr, .slice A m c] := Blk.at_ _ _ _ _ (by simp)
  refine bodyPost_ret (results_cell_row Try.results38 _ _ (w.heap.size + 1) _ _ (0, 0) _ rfl HZ Try.underlying64 rfl (by kernel_rfl)) rfl ⟨rfl, ((Below.refl _ _).alloc (Nat.le_refl _) _).alloc (by simp) _⟩
end Go.Proofs.Ytofeoeknmlkjgaa.Nk
end
section
/- Lists of whatever elements that came in. -/
set_option linter.unusedVariables false
namespace Go.Proofs.Ytofeoeknmlkjgaa.Nk
open Go.RowKit Go.Proofs.Ytofeoeknmlkjgaa Mb Fi Go.ChangeShapes Go.WideShapes

theorem weights_all {H : Type} {P : Program} {e : TypeId} : ∀ {l : List (DataW H)} {d : DataW H}, d ∈ l → ∀ x ∈ d.weights P e, x ∈ DataW.weightsAll P e l
  | y :: l, d, h, x, hx => by
    simp only [DataW.weightsAll, List.mem_append]
    rcases List.mem_cons.1 h with rfl | h
    · exact .inl hx
    · exact .inr (weights_all h x hx)
theorem flatMap_at {α : Type} (f : α → List Value) (sz : Nat) (hf : ∀ a, (f a).length = sz) : ∀ (L : List α) (j : Nat) (u : Value), (L.flatMap f)[j]? = some u → ∃ i a k, L[i]? = some a ∧ k < sz ∧ j = i * sz + k ∧ (f a)[k]? = some u
  | [], j, u, h => by simp at h
  | a :: L, j, u, h => by
    rw [List.flatMap_cons] at h
    by_cases c : j < sz
    · rw [List.getElem?_append_left (by rw [hf]; exact c)] at h
      exact ⟨0, a, j, rfl, c, by omega, h⟩
    · rw [List.getElem?_append_right (by rw [hf]; omega), hf] at h
      obtain ⟨i, b, k, h1, h2, h3, h4⟩ := flatMap_at f sz hf L (j - sz) u h
      exact ⟨i + 1, b, k, by simpa using h1, h2, by rw [Nat.succ_mul]; omega, h4⟩
theorem flatMap_len {α : Type} (f : α → List Value) (sz : Nat) (hf : ∀ a, (f a).length = sz) : ∀ (L : List α), (L.flatMap f).length = L.length * sz
  | [] => by simp
  | a :: L => by rw [List.flatMap_cons, List.length_append, hf, flatMap_len f sz hf L, List.length_cons, Nat.succ_mul]; omega
theorem vr_in {P : Program} {W : World} {H : Type} {enc : TypeId × Value → H} {t e : TypeId} {A : Option Addr} {n c sz : Nat} {d : DataW H} {p : List MemPlace} (ht : P.underlying t = some (.slice e)) (ce : P.cellsOf e = sz) (hsz : 0 < sz)
    (h : DataW.Trod enc P W 0 (fun _ => true) true t (.slice A n c) d p) (hw : ∀ x ∈ d.weights P t, x ≤ reachBytes) {α : Type} [Inhabited α] (f : α → List Value) (hf : ∀ a, (f a).length = sz) (Ok : α → Prop)
    (each : ∀ (fuel : Nat) (cs : List Value) (x : DataW H × List MemPlace), cs.length = sz → DataW.trod enc P W 0 (fun _ => true) true fuel e cs = some x → (∀ y ∈ x.1.weights P e, y ≤ reachBytes) → ∃ a : α, cs = f a ∧ Ok a) :
    ∃ L : List α, L.length = n ∧ VR W sz A n c (L.flatMap f) ∧ (∀ a ∈ L, Ok a) ∧ n ≤ c ∧ n * P.bytesOf e ≤ reachBytes := by
  obtain ⟨fuel, hh⟩ := h
  rcases Go.Deep.open_slice ht hh with ⟨hcs, _⟩ | ⟨a, len, cap, m, q, D, Pl, hcs, _, hl, _, hm, hd, hx⟩
  · simp [Value.cells] at hcs
    obtain ⟨rfl, rfl, rfl⟩ := hcs
    exact ⟨[], rfl, VR.nil _ _, (fun a h => by cases h), Nat.le_refl _, by simp⟩
  · simp [Value.cells] at hcs
    obtain ⟨rfl, rfl, rfl⟩ := hcs
    have hd1 := (Prod.mk.inj hd).1
    have hlen : n * P.bytesOf e ≤ reachBytes := by
      have := hw (n * P.bytesOf e + (m - n) * P.bytesOf e) (by rw [hd1]; simp [DataW.weights, ht, Nat.add_mul])
      omega
    have ex : ∀ j, j < n → ∃ D : α, (∀ i, i < sz → W.cell? (a.add (j * sz + i)) = (f D)[i]?) ∧ Ok D := by
      intro j hj
      obtain ⟨cs, h1, h2⟩ := hx j (by rw [hm]; simp; omega)
      rw [ce] at h1
      obtain ⟨_, hlen, hcell⟩ := World.cells?_some h1
      obtain ⟨D', e, r⟩ := each _ cs _ hlen h2 (fun y hy => hw y (by
        rw [hd1]
        simp only [DataW.weights, ht, List.mem_cons, List.mem_append]
        exact .inr (.inl (weights_all (List.mem_map.2 ⟨j, List.mem_range.2 hj, rfl⟩) y hy))))
      refine ⟨D', fun i hi => ?_, r⟩
      have := hcell i hi
      rw [Go.Deep.add_add] at this
      rw [this, e]
    obtain ⟨M, hM⟩ := Go.Deep.choose_lt ex
    refine ⟨(List.range n).map M, by simp, ⟨by rw [flatMap_len f sz hf]; simp, fun e => by simp at e, fun hn => ?_⟩, fun z hz => ?_, hl, hlen⟩
    · have h0 := (hM 0 hn).1 0 hsz
      have hs0 : ∃ v, (f (M 0))[0]? = some v := ⟨_, List.getElem?_eq_getElem (by rw [hf]; exact hsz)⟩
      obtain ⟨v, hv⟩ := hs0
      rw [hv] at h0
      have hsp : a.spot = none := by
        have := World.cell?_spot h0
        simpa [Addr.add] using this
      obtain ⟨b, off, sp⟩ := a
      simp only at hsp
      subst hsp
      have ea : ∀ k, (⟨b, off, none⟩ : Addr).add k = ⟨b, off + k, none⟩ := fun k => by unfold Addr.add; split <;> simp_all
      refine ⟨b, off, rfl, ?_, fun j u hj => ?_⟩
      · have := World.block_lt_of_cell? _ _ h0
        simpa [Addr.add] using this
      · obtain ⟨i, x, k, h1, h2, h3, h4⟩ := flatMap_at f sz hf _ j u hj
        have hi : i < n := by have := (List.getElem?_eq_some_iff.1 h1).1; simpa using this
        rw [List.getElem?_map, List.getElem?_range hi] at h1
        have hx : M i = x := by simpa using h1
        have := (hM i hi).1 k h2
        rw [ea, hx, h4, ← h3] at this
        exact this
    · obtain ⟨j, hj, rfl⟩ := List.mem_map.1 hz
      exact (hM j (List.mem_range.1 hj)).2
theorem in64_of {z : Int} (h : (Lit.int .i64 z).wf = true) : In64 z := by
  unfold In64
  simpa [Lit.wf, IntKind.has, IntKind.min, IntKind.max, IntKind.signed, IntKind.bits] using h
end Go.Proofs.Ytofeoeknmlkjgaa.Nk
end
