/- Parcels as rows of five cells; a queue that is read; a queue of one's own; slices.Clone of bytes. -/
import Derived.Test.YtdlcjieaoalhoaaSame
import Derived.Test.YtdlcjieaoalhoaaBytes
import Derived.Deep.AppendLies
import Derived.Deep.QuietTactic
import Derived.Lib.SliceRun
set_option linter.unusedVariables false
namespace Go.Proofs.Ytdlcjieaoalhoaa.Bs
open Go.RowKit Go.Proofs.Ytdlcjieaoalhoaa Crc Sm

def Byts8 (zs : List Int) : Prop := ∀ z ∈ zs, 0 ≤ z ∧ z ≤ 255
structure Pc where
  fr : Int
  to : Int
  du : Int
  se : Int
  A : Option Addr
  n : Nat
  c : Nat
  zs : List Int
def Pc.sl (p : Pc) : Value := .slice p.A p.n p.c
def Pc.cells (p : Pc) : List Value := [.int .i64 p.fr, .int .i64 p.to, .int .i64 p.du, .int .i64 p.se, .slice p.A p.n p.c]
/-- what a parcel tells -/
def Pc.key (p : Pc) : Int × Int × Int × Int × List Int := (p.fr, p.to, p.du, p.se, p.zs)
def flat : List Pc → List Value
  | [] => []
  | p :: L => p.cells ++ flat L
theorem flat_len : ∀ L : List Pc, (flat L).length = L.length * 5
  | [] => rfl
  | p :: L => by rw [flat, List.length_append, flat_len L]; simp [Pc.cells]; omega
theorem flat_app : ∀ L M : List Pc, flat (L ++ M) = flat L ++ flat M
  | [], M => rfl
  | p :: L, M => by rw [List.cons_append, flat, flat, flat_app L M, List.append_assoc]
theorem flat_get : ∀ (L : List Pc) (i : Nat) (p : Pc) (k : Nat), L[i]? = some p → k < 5 → (flat L)[i * 5 + k]? = p.cells[k]?
  | [], i, p, k, h, hk => by simp at h
  | q :: L, 0, p, k, h, hk => by
    simp at h; subst h
    rw [flat, Nat.zero_mul, Nat.zero_add, List.getElem?_append_left (by simp [Pc.cells]; omega)]
  | q :: L, i + 1, p, k, h, hk => by
    have := flat_get L i p k (by simpa using h) hk
    rw [flat, List.getElem?_append_right (by simp [Pc.cells]; omega), ← this]
    congr 1
    simp [Pc.cells]; omega
theorem flat_one (p : Pc) : flat [p] = p.cells := by simp [flat]

def Pc.Reads (w : World) (p : Pc) : Prop := Ints w .u8 p.A p.n p.zs ∧ (p.A = none → p.n = 0 ∧ p.c = 0) ∧ p.n ≤ 220 ∧ Byts8 p.zs
def Pc.Owns (w : World) (base : Nat) (p : Pc) : Prop := w.ownsRow base 5 1 (.slice p.A p.n p.c) p.n (p.zs.map (Value.int .u8)) ∧ p.n ≤ 220 ∧ Byts8 p.zs
/-- a queue that is read -/
def QR (w : World) (A : Option Addr) (n c : Nat) (L : List Pc) : Prop :=
  L.length = n ∧ (A = none → n = 0 ∧ c = 0) ∧ (0 < n → ∃ b off, A = some ⟨b, off, none⟩ ∧ b < w.heap.size ∧ ∀ (j : Nat) (u : Value), (flat L)[j]? = some u → w.cell? ⟨b, off + j, none⟩ = some u) ∧ ∀ p ∈ L, p.Reads w
/-- the blocks of two rows differ -/
def Apart (p q : Pc) : Prop := ∀ x, p.sl.ownBlock = some x → q.sl.ownBlock ≠ some x
/-- a queue of one's own -/
def QO (w : World) (base : Nat) (v : Value) (L : List Pc) : Prop :=
  w.ownsRow base 35 5 v L.length (flat L) ∧ (∀ p ∈ L, p.Owns w base) ∧ L.Pairwise Apart

section
variable {w w' : World} {base : Nat} {p : Pc} {L : List Pc} {v : Value} {A : Option Addr} {n c : Nat}
theorem ints_own {w : World} {base n c : Nat} {A : Option Addr} {zs : List Int} {q : IntKind} {e : TypeId} (h : w.ownsRow base e 1 (.slice A n c) n (zs.map (Value.int q))) : Ints w q A n zs ∧ (A = none → n = 0 ∧ c = 0) := by
  have hl : zs.length = n := by have := h.1; simpa using this
  rcases h.2 with ⟨h1, h2⟩ | ⟨g, cap, cur, hv, hb, hh, hc, hm, hs, ht⟩
  · injection h1 with a b c
    subst a c
    exact ⟨⟨hl, fun hn => by omega⟩, fun _ => ⟨h2, rfl⟩⟩
  · injection hv with a b c
    subst a
    refine ⟨⟨hl, fun hn => ⟨g, 0, rfl, (Array.getElem?_eq_some_iff.1 hh).1, fun j hj => ?_⟩⟩, fun e => by cases e⟩
    rw [Nat.zero_add, cell_of_row w g j cur e (0, 0) hh]
    have h1 : cur.toList[j]? = (zs.map (Value.int q))[j]? := by
      rw [← ht, Nat.mul_one, List.getElem?_take, if_pos hj]
    have h2 : cur[j]? = cur.toList[j]? := by simp
    rw [h2, h1]
    simp [List.getD, List.getElem?_eq_getElem (show j < zs.length by omega)]
theorem Pc.Owns.reads (h : p.Owns w base) : p.Reads w := ⟨(ints_own h.1).1, (ints_own h.1).2, h.2.1, h.2.2⟩
theorem Pc.Reads.next (h : p.Reads w) (hb : Below w.heap.size w w') : p.Reads w' := ⟨h.1.next hb, h.2⟩
theorem Pc.Owns.lt (h : p.Owns w base) {x : Nat} (hx : p.sl.ownBlock = some x) : base ≤ x ∧ x < w.heap.size := h.1.lt x hx
theorem Pc.Owns.next (h : p.Owns w base) (hb : Below w.heap.size w w') : p.Owns w' base := ⟨own_below h.1 hb (fun x hx => (h.lt hx).2), h.2⟩
theorem Pc.Owns.down {base2 : Nat} (h : p.Owns w base) (hb : base2 ≤ base) : p.Owns w base2 := by
  refine ⟨⟨h.1.1, ?_⟩, h.2⟩
  rcases h.1.2 with h1 | ⟨g, cap, cur, hv, hg, r⟩
  · exact .inl h1
  · exact .inr ⟨g, cap, cur, hv, Nat.le_trans hb hg, r⟩
theorem Pc.Owns.grown {q : Nat} {t : TypeId} {cs : Array Value} (h : p.Owns w base) (hg : w.grownBy w' (some q)) (hq : Blk w q t cs) (ht : 5 ≠ t) : p.Owns w' base :=
  ⟨h.1.kept hg (.inr fun e => own_blk_ne h.1 hq ht e.symm), h.2⟩
theorem QR.next (h : QR w A n c L) (hb : Below w.heap.size w w') : QR w' A n c L :=
  ⟨h.1, h.2.1, fun hn => by
    obtain ⟨b, off, e, hlt, hc⟩ := h.2.2.1 hn
    exact ⟨b, off, e, Nat.lt_of_lt_of_le hlt hb.size, fun j u hu => (hb.cell (p := ⟨b, off + j, none⟩) hlt).trans (hc j u hu)⟩, fun p hp => (h.2.2.2 p hp).next hb⟩
theorem QR.alloc (h : QR w A n c L) (o : Obj) : QR (w.alloc o) A n c L := h.next ((Below.refl _ _).alloc (Nat.le_refl _) _)
theorem QR.nil (w : World) : QR w none 0 0 [] := ⟨rfl, fun _ => ⟨rfl, rfl⟩, fun h => absurd h (Nat.lt_irrefl 0), fun p hp => by simp at hp⟩
theorem QO.lt (h : QO w base v L) : ∀ x, v.ownBlock = some x → base ≤ x ∧ x < w.heap.size := h.1.lt
theorem QO.next (h : QO w base v L) (hb : Below w.heap.size w w') : QO w' base v L :=
  ⟨own_below h.1 hb (fun x hx => (h.lt x hx).2), fun p hp => (h.2.1 p hp).next hb, h.2.2⟩
theorem QO.alloc (h : QO w base v L) (o : Obj) : QO (w.alloc o) base v L := h.next ((Below.refl _ _).alloc (Nat.le_refl _) _)
theorem QO.nil (w : World) (base : Nat) : QO w base (.slice none 0 0) [] := ⟨World.ownsRow_nil _ _ _ _, fun p hp => by simp at hp, List.Pairwise.nil⟩
theorem QO.down {base2 : Nat} (h : QO w base v L) (hb : base2 ≤ base) : QO w base2 v L := by
  refine ⟨⟨h.1.1, ?_⟩, fun p hp => (h.2.1 p hp).down hb, h.2.2⟩
  rcases h.1.2 with h1 | ⟨g, cap, cur, hv, hg, r⟩
  · exact .inl h1
  · exact .inr ⟨g, cap, cur, hv, Nat.le_trans hb hg, r⟩
theorem QO.shape (h : QO w base v L) : ∃ A c, v = .slice A L.length c := own_shape h.1
theorem QO.grown {q : Nat} {t : TypeId} {cs : Array Value} (h : QO w base v L) (hg : w.grownBy w' (some q)) (hq : Blk w q t cs) (ht : 5 ≠ t) (ht2 : 35 ≠ t) : QO w' base v L :=
  ⟨h.1.kept hg (.inr fun e => own_blk_ne h.1 hq ht2 e.symm), fun p hp => (h.2.1 p hp).grown hg hq ht, h.2.2⟩
theorem QO.reads (h : QO w base (.slice A L.length c) L) : QR w A L.length c L := by
  have h1 := h.1
  rcases h1.2 with ⟨e, h2⟩ | ⟨g, cap, cur, hv, hb, hh, hc, hm, hs, ht⟩
  · injection e with a b c
    subst a c
    exact ⟨rfl, fun _ => ⟨h2, rfl⟩, fun hn => by omega, fun p hp => (h.2.1 p hp).reads⟩
  · injection hv with a b c
    subst a
    refine ⟨rfl, (fun e => by cases e), fun hn => ⟨g, 0, rfl, (Array.getElem?_eq_some_iff.1 hh).1, fun j u hu => ?_⟩, fun p hp => (h.2.1 p hp).reads⟩
    rw [Nat.zero_add, cell_of_row w g j cur _ (0, 0) hh]
    have hj : j < L.length * 5 := by have := (List.getElem?_eq_some_iff.1 hu).1; rw [flat_len] at this; exact this
    have h1 : cur.toList[j]? = (flat L)[j]? := by
      rw [← ht, List.getElem?_take, if_pos hj]
    have h2 : cur[j]? = cur.toList[j]? := by simp
    rw [h2, h1, hu]
/-- rows of other types lie elsewhere -/
theorem own_own_ne {e e' : TypeId} {b b' sz sz' m m' : Nat} {u u' : Value} {xs xs' : List Value} (h : w.ownsRow b e sz u m xs) (h' : w.ownsRow b' e' sz' u' m' xs') (hne : e ≠ e') : u.ownBlock = none ∨ u.ownBlock ≠ u'.ownBlock := by
  rcases h.2 with ⟨rfl, _⟩ | ⟨g, cap, cur, rfl, _, hh, _⟩
  · exact .inl rfl
  · refine .inr fun he => ?_
    rcases h'.2 with ⟨rfl, _⟩ | ⟨g', cap', cur', rfl, _, hh', _⟩
    · cases he
    · have : g = g' := by simpa [Value.ownBlock] using he
      subst this
      rw [hh] at hh'
      injection hh' with hh'
      injection hh' with _ h2 _
      exact hne h2
/-- a row more -/
theorem QO.push {v3 : Value} {q : Pc} (h : QO w base v L) (ho : w'.ownsRow base 35 5 v3 (L.length + 1) (flat L ++ q.cells)) (hg : w.grownBy w' v.ownBlock) (hq : q.Owns w base)
    (hf : ∀ p ∈ L, Apart p q) : QO w' base v3 (L ++ [q]) := by
  refine ⟨?_, fun p hp => ?_, ?_⟩
  · rw [List.length_append, List.length_singleton, flat_app, flat_one]; exact ho
  · have hk : p.Owns w base := by
      rcases List.mem_append.1 hp with h1 | h1
      · exact h.2.1 p h1
      · rw [List.mem_singleton] at h1; rw [h1]; exact hq
    exact ⟨hk.1.kept hg (own_own_ne hk.1 h.1 (by decide)), hk.2⟩
  · refine List.pairwise_append.2 ⟨h.2.2, List.pairwise_singleton _ _, fun a ha b hb => ?_⟩
    rw [List.mem_singleton] at hb; rw [hb]; exact hf a ha
/-- the cells of a row -/
theorem QR.row {i : Nat} (h : QR w A n c L) (hi : i < n) : ∃ b off p, A = some ⟨b, off, none⟩ ∧ b < w.heap.size ∧ L[i]? = some p ∧ p ∈ L ∧ p.Reads w ∧
    w.cell? ⟨b, off + i * 5, none⟩ = some (.int .i64 p.fr) ∧ w.cell? ⟨b, off + i * 5 + 1, none⟩ = some (.int .i64 p.to) ∧ w.cell? ⟨b, off + i * 5 + 2, none⟩ = some (.int .i64 p.du) ∧ w.cell? ⟨b, off + i * 5 + 3, none⟩ = some (.int .i64 p.se) ∧ w.cell? ⟨b, off + i * 5 + 4, none⟩ = some (.slice p.A p.n p.c) := by
  obtain ⟨b, off, rfl, hlt, hc⟩ := h.2.2.1 (by omega)
  have hL : i < L.length := by rw [h.1]; exact hi
  have hp : L[i]? = some L[i] := List.getElem?_eq_getElem hL
  have hm : L[i] ∈ L := List.getElem_mem hL
  have hk := fun k hk => flat_get L i L[i] k hp hk
  refine ⟨b, off, L[i], rfl, hlt, hp, hm, h.2.2.2 _ hm, hc (i * 5) _ (hk 0 (by omega)), ?_, ?_, ?_, ?_⟩
  · rw [Nat.add_assoc]; exact hc _ _ (hk 1 (by omega))
  · rw [Nat.add_assoc]; exact hc _ _ (hk 2 (by omega))
  · rw [Nat.add_assoc]; exact hc _ _ (hk 3 (by omega))
  · rw [Nat.add_assoc]; exact hc _ _ (hk 4 (by omega))
end

theorem new_at {w : World} {o : Obj} {k : Nat} (hk : w.heap.size = k) : (w.alloc o).heap[k]? = some o := by subst hk; exact heap_alloc_new _ _
theorem own_n {w : World} {b sz m n : Nat} {e : TypeId} {u : Value} {xs : List Value} (hmn : m = n) (h : w.ownsRow b e sz u m xs) : w.ownsRow b e sz u n xs := hmn ▸ h
theorem infoParcel : (Try.prog.info? 35).map (fun i => (i.zero, i.size, i.bytes)) = some (some (.agg #[.int .i64 0, .int .i64 0, .int .i64 0, .int .i64 0, .slice none 0 0]), 5, 56) := by kernel_rfl

set_option maxRecDepth 100000 in
set_option maxHeartbeats 2000000 in
theorem Clone8_any (A : Option Addr) (n c : Nat) (zs : List Int) (w : World) (h : Ints w .u8 A n zs) (hA : A = none → n = 0 ∧ c = 0) (hn : n ≤ 140737488355328) :
    Calls Try.prog 28 #[.slice A n c] w fun e w' => ∃ A' c', e = .returned (.slice A' n c') ∧ NewBytes w w' A' n c' zs := by
  obtain ⟨i0, hi, hz0, hz1, hz2⟩ := info_parts infoByte
  cases A with
  | none =>
    obtain ⟨rfl, rfl⟩ := hA rfl
    obtain rfl : zs = [] := List.length_eq_zero_iff.1 h.1
    have q22 : ∀ (w : World) (a : Option Addr) (n c n' c' : Nat), (binOp .eql 33 (.slice a n c) (.slice none n' c')).run Try.prog w = .ok (.bool a.isNone) w := fun w a n c n' c' => Lib.run_eql_slice_nil w _ _ a n c n' c' Try.underlying33
    go_enter Try.func28, Try.ntmps28
    go_wp2_with fail
    go_ret
    exact ⟨none, 0, rfl, World.ownsRow_nil _ _ _ _, Below.refl _ _⟩
  | some ad =>
    have H := Lib.hid (h.alloc (.cells #[] 5))
    have q22 : ∀ (w : World) (a : Option Addr) (n c n' c' : Nat), (binOp .eql 33 (.slice a n c) (.slice none n' c')).run Try.prog w = .ok (.bool a.isNone) w := fun w a n c n' c' => Lib.run_eql_slice_nil w _ _ a n c n' c' Try.underlying33
    clear h
    go_enter Try.func28, Try.ntmps28
    go_wp2_with (at_builtin; refine wpList_append_ints rfl _ _ 33 rfl w.heap.size 5 i0 (.int .u8 0) .u8 1 Try.underlying33 hi hz0 hz1 hz2 rfl _ 0 [] rfl (World.ownsRow_made w #[] 0 (Nat.le_refl _) (Nat.zero_le _) rfl) (some ad) n c zs rfl (fun e => by cases e) H.out (by unfold maxLen; omega) (by omega) (by simp) ?_; intro v1 w1 hown1 hg1; (simp only [Nat.zero_add, List.nil_append] at hown1))
    go_ret
    obtain ⟨A1, c1, rfl⟩ := own_shape hown1
    exact ⟨A1, c1, rfl, hown1, ((Below.refl _ w).alloc (Nat.le_refl _) _).grown hg1 (by simp) (fun k hk => by have h2 : some w.heap.size = some k := hk; injection h2 with h2; omega)⟩
end Go.Proofs.Ytdlcjieaoalhoaa.Bs
