/- mat.Times: a matrix times a column. -/
import Derived.Test.YtnhklfdchfndjaaFactor
set_option linter.unusedVariables false
namespace Go.Proofs.Ytnhklfdchfndjaa.Mt
open Go.RowKit Go.Proofs.Ytnhklfdchfndjaa Fx
attribute [local go_sem ↓] Go.wp_at_zero Go.wp_at_succ

/-- the i-th number of a product -/
def timR (n : Nat) (f x : Nat → Int) (i : Nat) : Int := accD (fun j => f (i * n + j)) x n
/-- was anything bent in the first rows? -/
def timO (n : Nat) (f x : Nat → Int) (i : Nat) : Bool := (List.range i).any fun i' => accO (fun j => f (i' * n + j)) x n
theorem timO_succ (n : Nat) (f x : Nat → Int) (i : Nat) : timO n f x (i + 1) = (timO n f x i || accO (fun j => f (i * n + j)) x n) := by
  unfold timO; rw [List.range_succ, List.any_append]; simp
theorem timO_iff (n : Nat) (f x : Nat → Int) (i : Nat) : timO n f x i = true ↔ ∃ i', i' < i ∧ accO (fun j => f (i' * n + j)) x n = true := by
  unfold timO; rw [List.any_eq_true]; simp
theorem ls_push (j : Nat) (D : Nat → Int) : lsN (j + 1) D = lsN j D ++ [D j] := by unfold lsN; rw [List.range_succ, List.map_append]; rfl

/-- what stands in it -/
def TmFr (w0 W : World) (base q b n : Nat) (A : Option Addr) (c : Nat) (o : Bool) (v : Value) (L : List Int) : Prop :=
  Blk W w0.heap.size 30 #[.int .i64 n, .slice A (n * n) c] ∧ Blk W q 57 #[.int .i64 n, .slice A (n * n) c, .pointer (some ⟨b, 0, none⟩)] ∧ Blk W b 4 #[.bool o] ∧
    (w0.heap.size < b ∧ b < q ∧ q < base ∧ base ≤ W.heap.size) ∧ W.ownsRow base 3 1 v L.length (L.map (Value.int .i64)) ∧ Below w0.heap.size w0 W
section
variable {w0 W W' : World} {base q b n c : Nat} {A : Option Addr} {o o' : Bool} {v v' : Value} {L L' : List Int}
theorem TmFr.see (h : TmFr w0 W base q b n A c o v L) (hb : Blk W' b 4 #[.bool o']) (hg : W.grownBy W' (some b)) : TmFr w0 W' base q b n A c o' v L := by
  obtain ⟨h1, h2, h3, h4, h5, h6⟩ := h
  exact ⟨h1.grown hg (by intro e; injection e with e; omega), h2.grown hg (by intro e; injection e with e; omega), hb, (by have := hg.size; omega), h5.kept hg (own_ne h5 (by omega)), h6.grown hg h6.size (fun j hj => by injection hj with hj; omega)⟩
theorem TmFr.next (h : TmFr w0 W base q b n A c o v L) (hb : Below W.heap.size W W') : TmFr w0 W' base q b n A c o v L := by
  obtain ⟨h1, h2, h3, h4, h5, h6⟩ := h
  exact ⟨h1.next hb, h2.next hb, h3.next hb, (by have := hb.size; omega), own_below h5 hb (fun x hx => (h5.lt x hx).2), below_next h6 hb⟩
theorem TmFr.drew (h : TmFr w0 W base q b n A c o v L) : TmFr w0 W.drew base q b n A c o v L := h.next ((Below.refl _ _).drew)
theorem TmFr.push (h : TmFr w0 W base q b n A c o v L) (hown : W'.ownsRow base 3 1 v' L'.length (L'.map (Value.int .i64))) (hg : W.grownBy W' v.ownBlock) : TmFr w0 W' base q b n A c o v' L' := by
  obtain ⟨h1, h2, h3, h4, h5, h6⟩ := h
  exact ⟨h1.grown hg (own_ne' h5 (by omega)), h2.grown hg (own_ne' h5 (by omega)), h3.grown hg (own_ne' h5 (by omega)), (by have := hg.size; omega), hown, h6.grown hg h6.size (fun j hj => by have := (h5.lt j hj).1; omega)⟩
theorem TmFr.to (h : TmFr w0 W base q b n A c o v L) (e : o = o') : TmFr w0 W base q b n A c o' v L := by subst e; exact h
theorem TmFr.own (h : TmFr w0 W base q b n A c o v L) : W.ownsRow base 3 1 v L.length (L.map (Value.int .i64)) := h.2.2.2.2.1
theorem TmFr.mark (h : TmFr w0 W base q b n A c o v L) : Blk W b 4 #[.bool o] := h.2.2.1
theorem TmFr.cells (h : TmFr w0 W base q b n A c o v L) : W.cell? ⟨q, 0, none⟩ = some (.int .i64 n) ∧ W.cell? ⟨q, 1, none⟩ = some (.slice A (n * n) c) ∧ W.cell? ⟨q, 2, none⟩ = some (.pointer (some ⟨b, 0, none⟩)) :=
  ⟨h.2.1.cell 0, h.2.1.cell 1, h.2.1.cell 2⟩
theorem TmFr.n0 (h : TmFr w0 W base q b n A c o v L) : W.cell? ⟨w0.heap.size, 0, none⟩ = some (.int .i64 n) := h.1.cell 0
theorem TmFr.below (h : TmFr w0 W base q b n A c o v L) : Below w0.heap.size w0 W := h.2.2.2.2.2
end
def TmRel1 (w0 : World) (base q b n : Nat) (A : Option Addr) (c : Nat) (f x : Nat → Int) (v iv : Value) (W : World) : Prop :=
  ∃ i : Nat, i ≤ n ∧ iv = .int .i64 i ∧ TmFr w0 W base q b n A c (timO n f x i) v (lsN i (timR n f x))
def TmRel2 (w0 : World) (base q b n : Nat) (A : Option Addr) (c : Nat) (f x : Nat → Int) (i : Nat) (v sv kv : Value) (W : World) : Prop :=
  ∃ k : Nat, k ≤ n ∧ kv = .int .i64 k ∧ sv = .int .i64 (accD (fun j => f (i * n + j)) x k) ∧ TmFr w0 W base q b n A c (timO n f x i || accO (fun j => f (i * n + j)) x k) v (lsN i (timR n f x))

set_option maxRecDepth 100000 in
set_option maxHeartbeats 8000000 in
theorem Times_any (n c m : Nat) (A B : Option Addr) (f : Nat → Int) (xs : List Int) (h1 : 1 ≤ n) (h6 : n ≤ 6) (w : World) (hA : Nums w A (n * n) f) (hf : ∀ t, t < n * n → In (f t)) (hB : Ints w .i64 B n xs) (hxs : ∀ j, In (xs.getD j 0)) :
    Calls Try.prog 11 #[.agg #[.int .i64 n, .slice A (n * n) c], .slice B n m] w fun e w' =>
      ∃ v, e = .returned (.tuple #[v, .bool (timO n f (fun j => xs.getD j 0) n), .int .i64 0]) ∧ w'.ownsRow w.heap.size 3 1 v n ((lsN n (timR n f (fun j => xs.getD j 0))).map (Value.int .i64)) ∧ Below w.heap.size w w' := by
  obtain ⟨i0, hi0, hz0, hz1, hz2⟩ := info_parts infoIntF
  have hp : n * n ≤ 36 := Nat.le_trans (Nat.mul_le_mul h6 h6) (by omega)
  have kga := fun W => Good_any (n : Int) A (n * n) c W (by omega)
  rw [good_yes h1 h6] at kga
  have KGA := Lib.hid kga
  obtain ⟨gB, oB, rfl, hgB, hcB⟩ := hB.2 h1
  have HCB := Lib.hid hcB
  have HA := Lib.hid hA
  have HFI := Lib.hid hf
  have HXI := Lib.hid hxs
  have tn : ((n : Int) != (n : Int)) = false := by simp
  clear kga hcB hA hf hB hxs
  go_enter Try.func11, Try.ntmps11
  go_wp2_with fail
  refine (KGA.out _).mono ?_
  rintro e w1 ⟨rfl, hB1⟩
  have p0 := (Blk.new w 30 #[.int .i64 n, .slice A (n * n) c]).next hB1
  have b0 := below_next ((Below.refl w.heap.size w).alloc (Nat.le_refl _) (.cells #[.int .i64 n, .slice A (n * n) c] 30)) hB1
  have c0 := p0.cell 0
  have c1 := p0.cell 1
  simp only [List.getElem?_toArray, List.getElem?_cons_zero, List.getElem?_cons_succ] at c0 c1
  have hlt := p0.lt
  have HF := Lib.hid (show TmFr w ((w1.alloc (.cells #[.bool false] 4)).alloc (.cells #[.int .i64 n, .slice A (n * n) c, .pointer (some ⟨w1.heap.size, 0, none⟩)] 57)) (w1.heap.size + 1 + 1) (w1.heap.size + 1) w1.heap.size n A c (timO n f (fun j => xs.getD j 0) 0) (.slice none 0 0) (lsN 0 (timR n f (fun j => xs.getD j 0))) from
    ⟨(p0.alloc _).alloc _, Blk.at_ _ _ _ _ (by simp), (Blk.new _ _ _).alloc _, ⟨hlt, by omega, by omega, by simp⟩, World.ownsRow_nil _ _ _ _, (b0.alloc b0.size _).alloc (by have := b0.size; simp; omega) _⟩)
  have e0 := (HF.out).n0
  clear p0 b0 hB1 KGA
  go_wp2_with fail
  clear c0 c1 e0
  generalize w1.heap.size + 1 + 1 = base at *
  generalize w1.heap.size + 1 = q at *
  generalize w1.heap.size = b at *
  go_loopw [8, 28] (fun v iv W => TmRel1 w base q b n A c f (fun j => xs.getD j 0) v iv W) (fun _ iv _ => n - (intOf iv).toNat)
  case atStart => exact ⟨0, by omega, rfl, HF.out⟩
  case round =>
    clear HF
    obtain ⟨i, hi, rfl, hF⟩ := hrel
    by_cases hin : i < n
    · have HF := Lib.hid hF
      clear hF
      go_wp2_with fail
      go_loopw [10, 33] (fun sv kv W => TmRel2 w base q b n A c f (fun j => xs.getD j 0) i u8 sv kv W) (fun _ kv _ => n - (intOf kv).toNat)
      case atStart => exact ⟨0, by omega, rfl, rfl, HF.out.to (by simp [accO])⟩
      case round =>
        clear HF
        obtain ⟨k, hk, rfl, rfl, hF⟩ := hrel
        by_cases hkn : k < n
        · have cx := (hF.below.cell (p := ⟨gB, oB + k, none⟩) hgB).trans (HCB.out k hkn)
          have ix := HFI.out _ (idx_lt hin hkn)
          have iy := HXI.out k
          have is_ := accD_in (fun j => f (i * n + j)) (fun j => xs.getD j 0) k
          have hacc : accD (fun j => f (i * n + j)) (fun j => xs.getD j 0) (k + 1) = cl (accD (fun j => f (i * n + j)) (fun j => xs.getD j 0) k + cl (mulZ (f (i * n + k)) (xs.getD k 0))) := rfl
          have haco : accO (fun j => f (i * n + j)) (fun j => xs.getD j 0) (k + 1) = ((accO (fun j => f (i * n + j)) (fun j => xs.getD j 0) k || out (mulZ (f (i * n + k)) (xs.getD k 0))) || out (accD (fun j => f (i * n + j)) (fun j => xs.getD j 0) k + cl (mulZ (f (i * n + k)) (xs.getD k 0)))) := rfl
          have HACC := Lib.hid hacc
          have HACO := Lib.hid haco
          have kat := fun W (hW : Below w.heap.size w W) => at_any n b i k c A f h6 hin hkn W (HA.out.below hW)
          have kmul := fun W => mul_any (f (i * n + k)) (xs.getD k 0) ix iy W
          have kadd := fun W => add_any (accD (fun j => f (i * n + j)) (fun j => xs.getD j 0) k) (cl (mulZ (f (i * n + k)) (xs.getD k 0))) is_ (In_cl _) W
          simp only [Fx.res] at kmul kadd
          clear hacc haco ix iy is_
          generalize accD (fun j => f (i * n + j)) (fun j => xs.getD j 0) k = s at *
          generalize f (i * n + k) = fv at *
          generalize xs.getD k 0 = xv at *
          generalize out (mulZ fv xv) = o1 at *
          generalize cl (mulZ fv xv) = p at *
          generalize out (s + p) = o2 at *
          generalize cl (s + p) = s2 at *
          have ks1 := fun W o (hb : Blk W b 4 #[.bool o]) => msee_any n p A (n * n) c b o o1 W hb
          have ks2 := fun W o (hb : Blk W b 4 #[.bool o]) => msee_any n s2 A (n * n) c b o o2 W hb
          unfold workA at kat ks1 ks2
          have KAT := Lib.hid kat
          have KM := Lib.hid kmul
          have KA := Lib.hid kadd
          have KS1 := Lib.hid ks1
          have KS2 := Lib.hid ks2
          clear kat kmul kadd ks1 ks2
          have z1 : (0 : Int) ≤ (k : Int) := by omega
          have z2 : (k : Int) < (n : Int) := by omega
          have hN := hF.drew
          clear hF
          go_wp2_with fail
          go_region_held3 (fun w' => w'.cell? ⟨q, 0, none⟩ = some (.int .i64 n) ∧ w'.cell? ⟨q, 1, none⟩ = some (.slice A (n * n) c) ∧ w'.cell? ⟨q, 2, none⟩ = some (.pointer (some ⟨b, 0, none⟩))) (exact hN.cells) (first
            | (go_at_call 29; (with_reducible refine (KAT.out _ hN.below).mono ?_); rintro e w4 ⟨rfl, hB4⟩; have hN4 := hN.next hB4; clear hN hB4; have hN := hN4; clear hN4)
            | (go_at_call 22; (with_reducible refine (KM.out _).mono ?_); rintro e w4 ⟨rfl, hB4⟩; have hN4 := hN.next hB4; clear hN hB4; have hN := hN4; clear hN4)
            | (go_at_call 28; (with_reducible refine (KS1.out _ _ hN.mark).mono ?_); rintro e w4 ⟨rfl, hb4, hg4⟩; have hN4 := hN.see hb4 hg4; clear hN hb4 hg4; have hN := hN4; clear hN4)
            | (go_at_call 21; (with_reducible refine (KA.out _).mono ?_); rintro e w4 ⟨rfl, rfl⟩)
            | (go_at_call 28; (with_reducible refine (KS2.out _ _ hN.mark).mono ?_); rintro e w4 ⟨rfl, hb4, hg4⟩; have hN4 := hN.see hb4 hg4; clear hN hb4 hg4; have hN := hN4; clear hN4))
          go_wp2_with fail
          go_roundw
          case rel => exact ⟨k + 1, by omega, by go_num, by rw [HACC.out], hN.to (by rw [HACO.out]; simp only [Bool.or_assoc])⟩
          case measure => simp [intOf]; omega
        · obtain rfl : n = k := by omega
          have hR : accD (fun j => f (i * n + j)) (fun j => xs.getD j 0) n = timR n f (fun j => xs.getD j 0) i := rfl
          have hO := timO_succ n f (fun j => xs.getD j 0) i
          rw [hR]
          have hls := ls_push i (timR n f (fun j => xs.getD j 0))
          generalize timR n f (fun j => xs.getD j 0) i = x at *
          have hown : wr.ownsRow base 3 1 u8 i ((lsN i (timR n f (fun j => xs.getD j 0))).map (Value.int .i64)) := by have := hF.own; rwa [lsN_len] at this
          have hsz := hF.2.2.2.1.2.2.2
          have HOwn := Lib.hid hown
          have HN := Lib.hid hF
          have HLS := Lib.hid hls
          have HO := Lib.hid hO
          clear hown hF hls hO
          go_wp2_with (at_builtin; (refine wpList_append_ints rfl _ _ 28 rfl base 3 i0 (.int .i64 0) .i64 8 Try.underlying28 hi0 hz0 hz1 hz2 (by rfl) _ i _ rfl (HOwn.out.alloc _) (some ⟨wr.heap.size, 0, none⟩) 1 1 [x] rfl (by simp) (ints_one _ _) (by unfold maxLen; omega) (by omega) (by simp; omega) ?_; intro v2 w2 hown2 hg2; have hN := (HN.out.next ((Below.refl _ _).alloc (Nat.le_refl _) _)).push (L' := lsN (i + 1) (timR n f (fun j => xs.getD j 0))) (by rw [lsN_len, HLS.out, List.map_append]; exact hown2) hg2; have HN2 := Lib.hid hN; clear hown2 hg2 hN))
          go_roundw
          case rel => exact ⟨i + 1, by omega, by go_num, HN2.out.to HO.out.symm⟩
          case measure => simp [intOf]; omega
    · obtain rfl : n = i := by omega
      have hN := hF.drew
      have c2 := hF.cells.2.2
      have d0 := hF.mark.cell 0
      simp only [List.getElem?_toArray, List.getElem?_cons_zero] at d0
      clear hF
      have hown := hN.own
      rw [lsN_len] at hown
      have hsz := hN.2.2.2.1
      have HOwn := Lib.hid hown
      have HB := Lib.hid hN.below
      clear hN hown
      generalize hoo : timO n f (fun j => xs.getD j 0) n = oo at *
      have HOO := Lib.hid hoo
      clear hoo
      go_wp2_with fail
      go_region_held3 (fun w' => w'.cell? ⟨q, 2, none⟩ = some (.pointer (some ⟨b, 0, none⟩)) ∧ w'.cell? ⟨b, 0, none⟩ = some (.bool oo)) (exact ⟨c2, d0⟩) (fail)
      go_wp2_with fail
      refine bodyPost_ret (v := .tuple #[_, .bool oo, .int .i64 0]) (by simp [results, Try.results11, go_sem]; rfl) rfl ⟨_, by rw [HOO.out], own_le HOwn.out (by omega), HB.out⟩
end Go.Proofs.Ytnhklfdchfndjaa.Mt
