/- Worlds that are as they were but for some blocks; rows of the call's own that are written into. Over any program. -/
import Derived.Test.YtdlcjieaoalhoaaRows4
set_option linter.unusedVariables false
namespace Go.Proofs.Ytdlcjieaoalhoaa.Sm
open Go.RowKit Go.Proofs.Ytdlcjieaoalhoaa

theorem heap_alloc_size (w : World) (o : Obj) : (w.alloc o).heap.size = w.heap.size + 1 := by simp
/-- the block of one of these -/
def InOwn : List Value → Nat → Prop
  | [], _ => False
  | v :: vs, k => v.ownBlock = some k ∨ InOwn vs k
/-- all blocks but some are as they were -/
def Same (W0 : World) (S : Nat → Prop) (W : World) : Prop := W.os = W0.os ∧ W.tape = W0.tape ∧ W.output = W0.output ∧ W0.heap.size ≤ W.heap.size ∧ ∀ k, k < W0.heap.size → ¬ S k → W.heap[k]? = W0.heap[k]?
section
variable {W0 W W' : World} {S S' : Nat → Prop}
theorem Same.refl (W0 : World) (S : Nat → Prop) : Same W0 S W0 := ⟨rfl, rfl, rfl, Nat.le_refl _, fun _ _ _ => rfl⟩
theorem Same.grown {row : Option Nat} (h : Same W0 S W) (hg : W.grownBy W' row) (hr : ∀ k, row = some k → k < W0.heap.size → S k) : Same W0 S W' :=
  ⟨hg.os.trans h.1, hg.tape.trans h.2.1, hg.output.trans h.2.2.1, Nat.le_trans h.2.2.2.1 hg.size, fun k hk hS => (hg.block k (Nat.lt_of_lt_of_le hk h.2.2.2.1) (fun e => hS (hr k e.symm hk))).trans (h.2.2.2.2 k hk hS)⟩
theorem Same.mono (h : Same W0 S W) (hS : ∀ k, S k → S' k) : Same W0 S' W := ⟨h.1, h.2.1, h.2.2.1, h.2.2.2.1, fun k hk hn => h.2.2.2.2 k hk (fun hs => hn (hS k hs))⟩
theorem Same.next (h : Same W0 S W) (hb : Below W.heap.size W W') : Same W0 S W' := h.grown (row := none) (grown_below hb) (fun k e => by cases e)
theorem Same.alloc (h : Same W0 S W) (o : Obj) : Same W0 S (W.alloc o) := h.next ((Below.refl _ _).alloc (Nat.le_refl _) _)
theorem Same.blk {g : Nat} {t : TypeId} {cs : Array Value} (h : Same W0 S W) (hb : Blk W0 g t cs) (hg : ¬ S g) : Blk W g t cs := (h.2.2.2.2 g hb.lt hg).trans hb
theorem Same.ints {A : Option Addr} {n : Nat} {zs : List Int} {q : IntKind} (h : Same W0 S W) (hi : Ints W0 q A n zs) (hg : ∀ ad, A = some ad → 0 < n → ¬ S ad.block) : Ints W q A n zs := by
  refine ⟨hi.1, fun hn => ?_⟩
  obtain ⟨b, off, rfl, hlt, hc⟩ := hi.2 hn
  have hh := h.2.2.2.2 b hlt (hg _ rfl hn)
  refine ⟨b, off, rfl, Nat.lt_of_lt_of_le hlt h.2.2.2.1, fun j hj => ?_⟩
  rw [← hc j hj]
  unfold World.cell?
  simp only
  rw [hh]
theorem Same.own {base size n : Nat} {e : TypeId} {v : Value} {xs : List Value} (h : Same W0 S W) (ho : W0.ownsRow base e size v n xs) (hg : ∀ k, v.ownBlock = some k → ¬ S k) : W.ownsRow base e size v n xs := by
  refine ⟨ho.1, ?_⟩
  rcases ho.2 with h2 | ⟨g, cap, cur, hv, hb, hh, r⟩
  · exact .inl h2
  · exact .inr ⟨g, cap, cur, hv, hb, (h.2.2.2.2 g (Array.getElem?_eq_some_iff.1 hh).1 (hg g (by rw [hv]; rfl))).trans hh, r⟩
theorem Same.below {B : Nat} {w : World} (h : Same W0 S W) (hb : Below B w W0) (hB : B ≤ W0.heap.size) (hS : ∀ k, S k → B ≤ k) : Below B w W :=
  ⟨h.1.trans hb.os, h.2.1.trans hb.tape, h.2.2.1.trans hb.output, Nat.le_trans hb.size h.2.2.2.1, fun k hk => (h.2.2.2.2 k (by omega) (fun hs => by have := hS k hs; omega)).trans (hb.block k hk)⟩
end
/-- a row of the call's own is written into -/
theorem own_set_in {w : World} {base g n cap i : Nat} {e : TypeId} {xs : List Value} (h : w.ownsRow base e 1 (.slice (some ⟨g, 0, none⟩) n cap) n xs) (hi : i < n) (u : Value) :
    (w.setCell ⟨g, i, none⟩ u).ownsRow base e 1 (.slice (some ⟨g, 0, none⟩) n cap) n (xs.set i u) := by
  refine ⟨by simpa using h.1, ?_⟩
  rcases h.2 with ⟨h1, _⟩ | ⟨g', cap', cur, hv, hb, hh, hc, hm, hs, ht⟩
  · cases h1
  · injection hv with h1 h2 h3
    injection h1 with h1
    injection h1 with h1
    subst h1 h3
    refine .inr ⟨g, cap, cur.setIfInBounds i u, rfl, hb, (show Blk w g e cur from hh).set_ i u, hc, hm, by simpa using hs, ?_⟩
    rw [← ht, Array.toList_setIfInBounds, List.take_set]
/-- what a list of one's own may be: nil, or in a block -/
theorem own_parts {w : World} {base n m c : Nat} {e : TypeId} {A : Option Addr} {xs : List Value} (h : w.ownsRow base e 1 (.slice A m c) n xs) : m = n ∧ n ≤ c ∧ (0 < n → ∃ g, A = some ⟨g, 0, none⟩ ∧ base ≤ g ∧ g < w.heap.size) := by
  rcases h.2 with ⟨h1, h2⟩ | ⟨g, cap, cur, h1, hb, hh, h2, _⟩
  · injection h1 with a b c
    subst a b c
    exact ⟨h2.symm, by omega, fun h => by omega⟩
  · injection h1 with a b c
    subst a b c
    exact ⟨rfl, h2, fun _ => ⟨g, rfl, hb, (Array.getElem?_eq_some_iff.1 hh).1⟩⟩
theorem own_blk {w : World} {base g n cap : Nat} {e : TypeId} {xs : List Value} (h : w.ownsRow base e 1 (.slice (some ⟨g, 0, none⟩) n cap) n xs) : ∃ cur, Blk w g e cur ∧ n ≤ cur.size := by
  rcases h.2 with ⟨h1, _⟩ | ⟨g', cap', cur, hv, hb, hh, hc, hm, hs, ht⟩
  · cases h1
  · injection hv with h1 h2 h3
    injection h1 with h1
    injection h1 with h1
    subst h1
    exact ⟨cur, hh, by omega⟩
theorem own_cell {w : World} {base g n cap i : Nat} {e : TypeId} {xs : List Value} (h : w.ownsRow base e 1 (.slice (some ⟨g, 0, none⟩) n cap) n xs) (hi : i < n) : ∃ u, w.cell? ⟨g, i, none⟩ = some u := by
  obtain ⟨cur, hb, hs⟩ := own_blk h
  exact ⟨cur[i], by rw [hb.cell i, Array.getElem?_eq_getElem (by omega)]⟩
theorem own_frozen {w : World} {base g n cap : Nat} {e : TypeId} {xs : List Value} (h : w.ownsRow base e 1 (.slice (some ⟨g, 0, none⟩) n cap) n xs) (i : Nat) : w.frozen? ⟨g, i, none⟩ = false := by
  obtain ⟨cur, hb, hs⟩ := own_blk h
  exact hb.frozen i
/-- within a loop that writes into such a row -/
def WrRel (w0 : World) (e : TypeId) (base n : Nat) (v iv : Value) (W : World) : Prop := ∃ i : Nat, i ≤ n ∧ iv = .int .i64 i ∧ (∃ xs, W.ownsRow base e 1 v n xs) ∧ w0.grownBy W v.ownBlock
theorem grown_refl (w : World) (row : Option Nat) : w.grownBy w row := ⟨rfl, rfl, rfl, Nat.le_refl _, fun _ _ _ => rfl⟩
theorem WrRel.start {w0 : World} {e : TypeId} {base n : Nat} {v : Value} {xs : List Value} (h : w0.ownsRow base e 1 v n xs) : WrRel w0 e base n v (.int .i64 0) w0 := ⟨0, Nat.zero_le _, rfl, ⟨xs, h⟩, grown_refl _ _⟩
end Go.Proofs.Ytdlcjieaoalhoaa.Sm
