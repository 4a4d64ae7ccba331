/- What stands in mat.Solve. -/
import Derived.Test.YtnhklfdchfndjaaClone
import Derived.Test.YtnhklfdchfndjaaHeldF
set_option linter.unusedVariables false
namespace Go.Proofs.Ytnhklfdchfndjaa.Mt
open Go.RowKit Go.Proofs.Ytnhklfdchfndjaa Fx

/-- a block whose first cells are numbers -/
def RowX (W : World) (g n : Nat) (X : Nat → Int) : Prop := ∃ cur, Blk W g 3 cur ∧ ∀ j, j < n → cur[j]? = some (.int .i64 (X j))
section
variable {w0 W W' : World} {g n i : Nat} {X Y : Nat → Int}
theorem RowX.cell (h : RowX W g n X) (hi : i < n) : W.cell? ⟨g, i, none⟩ = some (.int .i64 (X i)) := by
  obtain ⟨cur, hb, hc⟩ := h
  rw [hb.cell i, hc i hi]
theorem RowX.frozen (h : RowX W g n X) (i : Nat) : W.frozen? ⟨g, i, none⟩ = false := by
  obtain ⟨cur, hb, hc⟩ := h
  exact hb.frozen i
theorem RowX.lt (h : RowX W g n X) : g < W.heap.size := by
  obtain ⟨cur, hb, hc⟩ := h
  exact hb.lt
theorem RowX.next (h : RowX W g n X) (hb : Below W.heap.size W W') : RowX W' g n X := by
  obtain ⟨cur, h1, h2⟩ := h
  exact ⟨cur, h1.next hb, h2⟩
theorem RowX.grown {row : Option Nat} (h : RowX W g n X) (hb : W.grownBy W' row) (hg : some g ≠ row) : RowX W' g n X := by
  obtain ⟨cur, h1, h2⟩ := h
  exact ⟨cur, h1.grown hb hg, h2⟩
theorem RowX.far {p : Addr} (h : RowX W g n X) (hp : g ≠ p.block) (u : Value) : RowX (W.setCell p u) g n X := by
  obtain ⟨cur, h1, h2⟩ := h
  exact ⟨cur, h1.far hp u, h2⟩
theorem RowX.set_ (h : RowX W g n X) (hi : i < n) (x : Int) : RowX (W.setCell ⟨g, i, none⟩ (.int .i64 x)) g n (updI X i x) := by
  obtain ⟨cur, h1, h2⟩ := h
  refine ⟨_, h1.set_ i _, fun j hj => ?_⟩
  by_cases e : j = i
  · subst e
    have hs : j < cur.size := (Array.getElem?_eq_some_iff.1 (h2 j hj)).1
    rw [updI_same]
    simp [hs]
  · rw [updI_far _ _ e]
    simp [Array.getElem?_setIfInBounds, Ne.symm e, h2 j hj]
theorem RowX.congr (h : RowX W g n X) (e : ∀ j, j < n → X j = Y j) : RowX W g n Y := by
  obtain ⟨cur, h1, h2⟩ := h
  exact ⟨cur, h1, fun j hj => by rw [h2 j hj, e j hj]⟩
end
/-- a row of its own is such a block -/
theorem rowX_own {W : World} {base n : Nat} {v : Value} {zs : List Int} (h : W.ownsRow base 3 1 v n (zs.map (Value.int .i64))) (hn : 0 < n) :
    ∃ g cap, v = .slice (some ⟨g, 0, none⟩) n cap ∧ base ≤ g ∧ n ≤ cap ∧ RowX W g n (fun j => zs.getD j 0) := by
  obtain ⟨hl, h2⟩ := h
  rcases h2 with ⟨_, h0⟩ | ⟨g, cap, cur, rfl, hb, hh, hc, _, hs, ht⟩
  · omega
  · refine ⟨g, cap, rfl, hb, hc, cur, hh, fun j hj => ?_⟩
    rw [List.length_map, Nat.mul_one] at hl
    rw [Nat.mul_one] at ht
    have e : (cur.toList.take n)[j]? = (zs.map (Value.int .i64))[j]? := by rw [ht]
    rw [List.getElem?_take_of_lt hj] at e
    rw [← Array.getElem?_toList, e]
    simp [List.getD, show j < zs.length by omega]

/-- what stands while a column is solved -/
def SoFr (w0 W : World) (q g b gd gx n : Nat) (A : Option Addr) (c : Nat) (F D X : Nat → Int) : Prop :=
  Blk W w0.heap.size 30 #[.int .i64 n, .slice A (n * n) c] ∧
    Blk W q 57 #[.int .i64 n, .slice (some ⟨g, 0, none⟩) (n * n) (n * n), .pointer (some ⟨b, 0, none⟩)] ∧ Blk W g 3 (tabN (n * n) F) ∧ (∃ o, Blk W b 4 #[.bool o]) ∧ RowX W gd n D ∧ RowX W gx n X ∧
    (w0.heap.size < g ∧ w0.heap.size < gd ∧ g < b ∧ gd < b ∧ b < q ∧ q < gx) ∧ Below w0.heap.size w0 W
section
variable {w0 W W' : World} {q g b gd gx n c : Nat} {A : Option Addr} {F D X Y : Nat → Int} {o : Bool}
theorem SoFr.see (h : SoFr w0 W q g b gd gx n A c F D X) (hb : ∃ o, Blk W' b 4 #[.bool o]) (hg : W.grownBy W' (some b)) : SoFr w0 W' q g b gd gx n A c F D X := by
  obtain ⟨h1, h2, h3, h4, h5, h6, h7, h8⟩ := h
  exact ⟨h1.grown hg (by intro e; injection e with e; omega), h2.grown hg (by intro e; injection e with e; omega), h3.grown hg (by intro e; injection e with e; omega), hb, h5.grown hg (by intro e; injection e with e; omega), h6.grown hg (by intro e; injection e with e; omega), h7, h8.grown hg h8.size (fun j hj => by injection hj with hj; omega)⟩
theorem SoFr.next (h : SoFr w0 W q g b gd gx n A c F D X) (hb : Below W.heap.size W W') : SoFr w0 W' q g b gd gx n A c F D X := by
  obtain ⟨h1, h2, h3, h4, h5, h6, h7, h8⟩ := h
  exact ⟨h1.next hb, h2.next hb, h3.next hb, h4.imp fun _ k => k.next hb, h5.next hb, h6.next hb, h7, below_next h8 hb⟩
theorem SoFr.drew (h : SoFr w0 W q g b gd gx n A c F D X) : SoFr w0 W.drew q g b gd gx n A c F D X := h.next ((Below.refl _ _).drew)
theorem SoFr.set_ (h : SoFr w0 W q g b gd gx n A c F D X) {i : Nat} (hi : i < n) (x : Int) : SoFr w0 (W.setCell ⟨gx, i, none⟩ (.int .i64 x)) q g b gd gx n A c F D (updI X i x) := by
  obtain ⟨h1, h2, h3, h4, h5, h6, h7, h8⟩ := h
  exact ⟨h1.far (by simp; omega) _, h2.far (by simp; omega) _, h3.far (by simp; omega) _, h4.imp fun _ k => k.far (by simp; omega) _, h5.far (by simp; omega) _, h6.set_ hi x, h7, h8.setCell (by simp; omega) _⟩
theorem SoFr.to (h : SoFr w0 W q g b gd gx n A c F D X) (e : X = Y) : SoFr w0 W q g b gd gx n A c F D Y := by subst e; exact h
theorem SoFr.mark (h : SoFr w0 W q g b gd gx n A c F D X) : ∃ o, Blk W b 4 #[.bool o] := h.2.2.2.1
theorem SoFr.num (h : SoFr w0 W q g b gd gx n A c F D X) : Nums W (some ⟨g, 0, none⟩) (n * n) F := nums_blk h.2.2.1
theorem SoFr.cells (h : SoFr w0 W q g b gd gx n A c F D X) : W.cell? ⟨q, 0, none⟩ = some (.int .i64 n) ∧ W.cell? ⟨q, 1, none⟩ = some (.slice (some ⟨g, 0, none⟩) (n * n) (n * n)) ∧ W.cell? ⟨q, 2, none⟩ = some (.pointer (some ⟨b, 0, none⟩)) :=
  ⟨h.2.1.cell 0, h.2.1.cell 1, h.2.1.cell 2⟩
theorem SoFr.x (h : SoFr w0 W q g b gd gx n A c F D X) {i : Nat} (hi : i < n) : W.cell? ⟨gx, i, none⟩ = some (.int .i64 (X i)) := h.2.2.2.2.2.1.cell hi
theorem SoFr.xf (h : SoFr w0 W q g b gd gx n A c F D X) (i : Nat) : W.frozen? ⟨gx, i, none⟩ = false := h.2.2.2.2.2.1.frozen i
theorem SoFr.d (h : SoFr w0 W q g b gd gx n A c F D X) {i : Nat} (hi : i < n) : W.cell? ⟨gd, i, none⟩ = some (.int .i64 (D i)) := h.2.2.2.2.1.cell hi
theorem SoFr.n0 (h : SoFr w0 W q g b gd gx n A c F D X) : W.cell? ⟨w0.heap.size, 0, none⟩ = some (.int .i64 n) := h.1.cell 0
end

/-- the factor stands on the diagonal alone -/
def Dia (n : Nat) (F : Nat → Int) : Prop := ∀ i k, i < n → k < n → i ≠ k → F (i * n + k) = 0
/-- numbers of 64 bits; and if the factor stands on the diagonal alone, just these -/
def Xs (n : Nat) (F X E : Nat → Int) : Prop := (∀ j, In (X j)) ∧ (Dia n F → ∀ j, j < n → X j = E j)
theorem Xs.less {n : Nat} {F X E : Nat → Int} (h : Xs n F X E) {i k t : Nat} (hi : i < n) (hF : Dia n F → F t = 0) : Xs n F (updI X i (cl (X i - cl (mulZ (F t) (X k))))) E := by
  refine ⟨fun j => ?_, fun hd j hj => ?_⟩
  · unfold updI
    split
    · exact In_cl _
    · exact h.1 j
  · unfold updI
    split
    · rename_i e
      subst e
      have e1 : mulZ 0 (X k) = 0 := by unfold mulZ; simp
      have e2 : cl 0 = 0 := (cl_in (show In 0 by unfold In; omega)).1
      rw [hF hd, e1, e2, Int.sub_zero, (cl_in (h.1 j)).1, h.2 hd j hj]
    · exact h.2 hd j hj
/-- the first i numbers divided -/
def divTo (b D : Nat → Int) (i : Nat) : Nat → Int := fun j => if j < i then divR (b j) (D j) else b j
theorem Xs.div {n : Nat} {F X b D : Nat → Int} {i : Nat} (h : Xs n F X (divTo b D i)) (hi : i < n) : Xs n F (updI X i (divR (X i) (D i))) (divTo b D (i + 1)) := by
  refine ⟨fun j => ?_, fun hd j hj => ?_⟩
  · unfold updI
    split
    · exact In_divR _ _
    · exact h.1 j
  · have h1 := h.2 hd j hj
    unfold updI
    unfold divTo at h1 ⊢
    split
    · rename_i e
      subst e
      rw [if_neg (Nat.lt_irrefl _)] at h1
      rw [if_pos (by omega), h1]
    · rename_i e
      rw [h1]
      by_cases h2 : j < i
      · rw [if_pos h2, if_pos (by omega)]
      · rw [if_neg h2, if_neg (by omega)]
end Go.Proofs.Ytnhklfdchfndjaa.Mt
