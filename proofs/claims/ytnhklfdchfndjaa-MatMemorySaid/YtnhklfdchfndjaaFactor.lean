/- mat.Factor: the factor and the diagonal. -/
import Derived.Test.YtnhklfdchfndjaaFacPlain
import Derived.Test.YtnhklfdchfndjaaAppend
import Derived.Test.YtnhklfdchfndjaaRows4
set_option linter.unusedVariables false
namespace Go.Proofs.Ytnhklfdchfndjaa.Mt
open Go.RowKit Go.Proofs.Ytnhklfdchfndjaa Fx
attribute [local go_sem ↓] Go.wp_at_zero Go.wp_at_succ

theorem infoIntF : (Try.prog.info? 3).map (fun i => (i.zero, i.size, i.bytes)) = some (some (.int .i64 0), 1, 8) := by kernel_rfl
/-- the first numbers of a function as a list -/
def lsN (j : Nat) (D : Nat → Int) : List Int := (List.range j).map D
theorem lsN_len (j : Nat) (D : Nat → Int) : (lsN j D).length = j := by simp [lsN]
theorem lsN_get {j k : Nat} (D : Nat → Int) (h : k < j) : (lsN j D).getD k 0 = D k := by simp [lsN, List.getD, h]
theorem lsN_push (j : Nat) (D : Nat → Int) (x : Int) : lsN (j + 1) (updI D j x) = lsN j D ++ [x] := by
  unfold lsN
  rw [List.range_succ, List.map_append, List.map_cons, List.map_nil, updI_same]
  congr 1
  apply List.map_congr_left
  intro k hk
  rw [List.mem_range] at hk
  exact updI_far _ _ (by omega)

/-- what stands while a matrix is factored -/
def FFr (w0 W : World) (base q g b n : Nat) (A : Option Addr) (c : Nat) (F : Nat → Int) (v : Value) (D : List Int) : Prop :=
  Blk W w0.heap.size 30 #[.int .i64 n, .slice A (n * n) c] ∧ Blk W (w0.heap.size + 1) 30 #[.int .i64 0, .slice none 0 0] ∧
    Blk W q 57 #[.int .i64 n, .slice (some ⟨g, 0, none⟩) (n * n) (n * n), .pointer (some ⟨b, 0, none⟩)] ∧ Blk W g 3 (tabN (n * n) F) ∧ (∃ o, Blk W b 4 #[.bool o]) ∧
    (w0.heap.size + 1 < g ∧ w0.heap.size + 1 < b ∧ g < q ∧ b < q ∧ g ≠ b ∧ q < base ∧ base ≤ W.heap.size) ∧ W.ownsRow base 3 1 v D.length (D.map (Value.int .i64)) ∧ Below w0.heap.size w0 W
section
variable {w0 W W' : World} {base q g b n c : Nat} {A : Option Addr} {F F' : Nat → Int} {o : Bool} {v v' : Value} {D D' : List Int}
theorem own_ne {W : World} {base n k : Nat} {v : Value} {xs : List Value} {e : TypeId} (h : W.ownsRow base e 1 v n xs) (hk : k < base) : v.ownBlock = none ∨ v.ownBlock ≠ some k := by
  cases hv : v.ownBlock with
  | none => exact .inl rfl
  | some x => exact .inr (by have := (h.lt x hv).1; intro e; injection e with e; omega)
theorem own_ne' {W : World} {base n k : Nat} {v : Value} {xs : List Value} {e : TypeId} (h : W.ownsRow base e 1 v n xs) (hk : k < base) : some k ≠ v.ownBlock := by
  intro e
  have := (h.lt k e.symm).1
  omega
theorem FFr.put (h : FFr w0 W base q g b n A c F v D) (hb : Blk W' g 3 (tabN (n * n) F')) (hg : W.grownBy W' (some g)) : FFr w0 W' base q g b n A c F' v D := by
  obtain ⟨h1, h2, h3, h4, ⟨o, h5⟩, h6, h7, h8⟩ := h
  exact ⟨h1.grown hg (by intro e; injection e with e; omega), h2.grown hg (by intro e; injection e with e; omega), h3.grown hg (by intro e; injection e with e; omega), hb, ⟨o, h5.grown hg (by intro e; injection e with e; omega)⟩, (by have := hg.size; omega), h7.kept hg (own_ne h7 (by omega)), h8.grown hg h8.size (fun j hj => by injection hj with hj; omega)⟩
theorem FFr.see (h : FFr w0 W base q g b n A c F v D) (hb : ∃ o, Blk W' b 4 #[.bool o]) (hg : W.grownBy W' (some b)) : FFr w0 W' base q g b n A c F v D := by
  obtain ⟨h1, h2, h3, h4, h5, h6, h7, h8⟩ := h
  exact ⟨h1.grown hg (by intro e; injection e with e; omega), h2.grown hg (by intro e; injection e with e; omega), h3.grown hg (by intro e; injection e with e; omega), h4.grown hg (by intro e; injection e with e; omega), hb, (by have := hg.size; omega), h7.kept hg (own_ne h7 (by omega)), h8.grown hg h8.size (fun j hj => by injection hj with hj; omega)⟩
theorem FFr.next (h : FFr w0 W base q g b n A c F v D) (hb : Below W.heap.size W W') : FFr w0 W' base q g b n A c F v D := by
  obtain ⟨h1, h2, h3, h4, h5, h6, h7, h8⟩ := h
  exact ⟨h1.next hb, h2.next hb, h3.next hb, h4.next hb, h5.imp fun _ k => k.next hb, (by have := hb.size; omega), own_below h7 hb (fun x hx => (h7.lt x hx).2), below_next h8 hb⟩
theorem FFr.drew (h : FFr w0 W base q g b n A c F v D) : FFr w0 W.drew base q g b n A c F v D := h.next ((Below.refl _ _).drew)
theorem FFr.push (h : FFr w0 W base q g b n A c F v D) (hown : W'.ownsRow base 3 1 v' D'.length (D'.map (Value.int .i64))) (hg : W.grownBy W' v.ownBlock) : FFr w0 W' base q g b n A c F v' D' := by
  obtain ⟨h1, h2, h3, h4, h5, h6, h7, h8⟩ := h
  exact ⟨h1.grown hg (own_ne' h7 (by omega)), h2.grown hg (own_ne' h7 (by omega)), h3.grown hg (own_ne' h7 (by omega)), h4.grown hg (own_ne' h7 (by omega)), h5.imp fun _ k => k.grown hg (own_ne' h7 (by omega)), (by have := hg.size; omega), hown, h8.grown hg h8.size (fun j hj => by have := (h7.lt j hj).1; omega)⟩
theorem FFr.to (h : FFr w0 W base q g b n A c F v D) (hF : F = F') (hD : D = D') : FFr w0 W base q g b n A c F' v D' := by subst hF; subst hD; exact h
theorem FFr.num (h : FFr w0 W base q g b n A c F v D) : Blk W g 3 (tabN (n * n) F) := h.2.2.2.1
theorem FFr.mark (h : FFr w0 W base q g b n A c F v D) : ∃ o, Blk W b 4 #[.bool o] := h.2.2.2.2.1
theorem FFr.own (h : FFr w0 W base q g b n A c F v D) : W.ownsRow base 3 1 v D.length (D.map (Value.int .i64)) := h.2.2.2.2.2.2.1
theorem FFr.numF (h : FFr w0 W base q g b n A c F v D) : NumsF W b (some ⟨g, 0, none⟩) (n * n) F := by
  refine ⟨g, 0, rfl, h.num.lt, h.2.2.2.2.2.1.2.2.2.2.1, fun j hj => ?_⟩
  rw [Nat.zero_add, h.num.cell j, tabN_get F hj]
theorem FFr.diaF {A' : Option Addr} {m c' : Nat} (h : FFr w0 W base q g b n A c F (.slice A' m c') D) (h0 : 0 < D.length) : NumsF W b A' D.length (fun k => D.getD k 0) := by
  have ho := h.own
  have hbq := h.2.2.2.2.2.1
  obtain ⟨gd, cap, ev, _, _, _⟩ := own_form ho (by omega)
  cases ev
  have hI := Ints.own ho
  obtain ⟨g', off, e, hlt, hc⟩ := hI.2 h0
  cases e
  exact ⟨gd, 0, rfl, hlt, by have := (ho.lt gd rfl).1; omega, hc⟩
theorem FFr.diaN {A' : Option Addr} {m c' j : Nat} {z : Nat → Int} (h : FFr w0 W base q g b n A c F (.slice A' m c') (lsN j z)) (u : Nat) (hu : u ≤ j) (h0 : 0 < u) : NumsF W b A' u z := by
  obtain ⟨gd, off, e, hlt, hne, hc⟩ := h.diaF (by rw [lsN_len]; omega)
  exact ⟨gd, off, e, hlt, hne, fun k hk => by rw [hc k (by rw [lsN_len]; omega)]; exact congrArg _ (congrArg _ (lsN_get _ (by omega)))⟩
theorem FFr.cells (h : FFr w0 W base q g b n A c F v D) : W.cell? ⟨w0.heap.size, 0, none⟩ = some (.int .i64 n) ∧ W.cell? ⟨w0.heap.size, 1, none⟩ = some (.slice A (n * n) c) ∧
    W.cell? ⟨q, 0, none⟩ = some (.int .i64 n) ∧ W.cell? ⟨q, 1, none⟩ = some (.slice (some ⟨g, 0, none⟩) (n * n) (n * n)) ∧ W.cell? ⟨q, 2, none⟩ = some (.pointer (some ⟨b, 0, none⟩)) :=
  ⟨h.1.cell 0, h.1.cell 1, h.2.2.1.cell 0, h.2.2.1.cell 1, h.2.2.1.cell 2⟩
end
theorem FFr.six {w0 W : World} {base q g b n c gA oA t : Nat} {x : Int} {F : Nat → Int} {v : Value} {D : List Int} (h : FFr w0 W base q g b n (some ⟨gA, oA, none⟩) c F v D) (hA : gA < w0.heap.size) (hx : w0.cell? ⟨gA, oA + t, none⟩ = some (.int .i64 x)) :
    W.cell? ⟨w0.heap.size, 0, none⟩ = some (.int .i64 n) ∧ W.cell? ⟨w0.heap.size, 1, none⟩ = some (.slice (some ⟨gA, oA, none⟩) (n * n) c) ∧
    W.cell? ⟨q, 0, none⟩ = some (.int .i64 n) ∧ W.cell? ⟨q, 1, none⟩ = some (.slice (some ⟨g, 0, none⟩) (n * n) (n * n)) ∧ W.cell? ⟨q, 2, none⟩ = some (.pointer (some ⟨b, 0, none⟩)) ∧ W.cell? ⟨gA, oA + t, none⟩ = some (.int .i64 x) :=
  ⟨h.1.cell 0, h.1.cell 1, h.2.2.1.cell 0, h.2.2.1.cell 1, h.2.2.1.cell 2, (h.2.2.2.2.2.2.2.cell (p := ⟨gA, oA + t, none⟩) hA).trans hx⟩

def FRel1 (w0 : World) (base q g b n : Nat) (A : Option Addr) (c : Nat) (f : Nat → Int) (v iv : Value) (W : World) : Prop :=
  ∃ j : Nat, j ≤ n ∧ iv = .int .i64 j ∧ (∀ k, k < j → 0 < facD n f k) ∧ FFr w0 W base q g b n A c (facS n f j).1 v (lsN j (facS n f j).2)
def FRel2' (w0 : World) (base q g b n : Nat) (A : Option Addr) (c : Nat) (f : Nat → Int) (j : Nat) (F D0 : Nat → Int) (v : Value) (D : List Int) (iv : Value) (W : World) : Prop :=
  ∃ i : Nat, j < i ∧ i ≤ n ∧ iv = .int .i64 i ∧ FFr w0 W base q g b n A c (colF n f j F D0 i) v D
/-- what Factor answers -/
def FacPost (n : Nat) (f : Nat → Int) (w : World) (e : Ending) (w' : World) : Prop :=
  ((∀ j, j < n → 0 < facD n f j) ∧ ∃ g v o, e = .returned (.tuple #[matV n g, v, .bool o, .int .i64 0]) ∧ w.heap.size ≤ g ∧ Blk w' g 3 (tabN (n * n) (facL n f)) ∧ w'.ownsRow w.heap.size 3 1 v n ((lsN n (facD n f)).map (Value.int .i64)) ∧ v.ownBlock ≠ some g ∧ Below w.heap.size w w') ∨
  (¬ (∀ j, j < n → 0 < facD n f j)) ∧ e = .returned (.tuple #[.agg #[.int .i64 0, .slice none 0 0], .slice none 0 0, .bool false, .int .i64 9]) ∧ Below w.heap.size w w'

theorem fac_results {W : World} {r : Nat} {N : Int} {A : Option Addr} {l c : Nat} (h : Blk W r 30 #[.int .i64 N, .slice A l c]) (d v e : Value) (tmps : Array Value) (h2 : tmps.getD 2 undef = .pointer (some ⟨r, 0, none⟩)) (h3 : tmps.getD 3 undef = d) (h4 : tmps.getD 4 undef = v) (h5 : tmps.getD 5 undef = e) :
    (results Try.f12 tmps).run Try.prog W = .ok (.tuple #[.agg #[.int .i64 N, .slice A l c], d, v, e]) W := by
  have h2' : tmps[2]?.getD undef = .pointer (some ⟨r, 0, none⟩) := by simpa using h2
  have h3' : tmps[3]?.getD undef = d := by simpa using h3
  have h4' : tmps[4]?.getD undef = v := by simpa using h4
  have h5' : tmps[5]?.getD undef = e := by simpa using h5
  simp [results, Try.results12, h2', h3', h4', h5', asAddr, run_loadVar_row (P := Try.prog) W r _ 30 #[.int .i64 N, .slice A l c] (0, 0) _ h Try.underlying30 rfl (by kernel_rfl)]

theorem ints_one (w : World) (x : Int) : Ints (w.alloc (.cells #[.int .i64 x] 3)) .i64 (some ⟨w.heap.size, 0, none⟩) 1 [x] :=
  ⟨rfl, fun _ => ⟨w.heap.size, 0, rfl, by simp, fun j hj => by
    obtain rfl : j = 0 := by omega
    exact (Blk.new w 3 #[.int .i64 x]).cell 0⟩⟩

set_option maxRecDepth 100000 in
set_option maxHeartbeats 4000000 in
theorem Factor_any (n c : Nat) (A : Option Addr) (f : Nat → Int) (h1 : 1 ≤ n) (h6 : n ≤ 6) (w : World) (hA : Nums w A (n * n) f) (hf : ∀ t, t < n * n → In (f t)) :
    Calls Try.prog 12 #[.agg #[.int .i64 n, .slice A (n * n) c]] w (FacPost n f w) := by
  obtain ⟨i0, hi0, hz0, hz1, hz2⟩ := info_parts infoIntF
  obtain ⟨gA, oA, rfl, hgA, hcA⟩ := hA
  have hp : n * n ≤ 36 := Nat.le_trans (Nat.mul_le_mul h6 h6) (by omega)
  have kga := fun W => Good_any (n : Int) (some ⟨gA, oA, none⟩) (n * n) c W (by omega)
  rw [good_yes h1 h6] at kga
  have KGA := Lib.hid kga
  have kf := fun W => fresh_any n h1 h6 W
  unfold workV at kf
  have KF := Lib.hid kf
  have HCA := Lib.hid hcA
  have HF := Lib.hid hf
  clear kga kf hcA hf
  go_enter Try.func12, Try.ntmps12
  go_wp2_with fail
  refine (KGA.out _).mono ?_
  rintro e w1 ⟨rfl, hB1⟩
  have p0 := ((Blk.new w 30 #[.int .i64 n, .slice (some ⟨gA, oA, none⟩) (n * n) c]).alloc (.cells #[.int .i64 0, .slice none 0 0] 30)).next hB1
  have p1 := (Blk.at_ (w.alloc (.cells #[.int .i64 n, .slice (some ⟨gA, oA, none⟩) (n * n) c] 30)) (w.heap.size + 1) 30 #[.int .i64 0, .slice none 0 0] (by simp)).next hB1
  have b0 := below_next (((Below.refl w.heap.size w).alloc (Nat.le_refl _) (.cells #[.int .i64 n, .slice (some ⟨gA, oA, none⟩) (n * n) c] 30)).alloc (by simp) (.cells #[.int .i64 0, .slice none 0 0] 30)) hB1
  have c0 := p0.cell 0
  simp only [List.getElem?_toArray, List.getElem?_cons_zero, List.getElem?_cons_succ] at c0
  have Q0 := Lib.hid p0
  have Q1 := Lib.hid p1
  have QB := Lib.hid b0
  clear p0 p1 b0 hB1
  go_wp2_with fail
  refine (KF.out _).mono ?_
  rintro e w3 ⟨g, b, rfl, hW, hg, hb, hB3⟩
  have hlt2 := Q1.out.lt
  have hgb : g ≠ b := hW.1.ne_ hW.2 (by decide)
  have hM : FFr w (w3.alloc (.cells #[.int .i64 n, .slice (some ⟨g, 0, none⟩) (n * n) (n * n), .pointer (some ⟨b, 0, none⟩)] 57)) (w3.heap.size + 1) w3.heap.size g b n (some ⟨gA, oA, none⟩) c (facS n f 0).1 (.slice none 0 0) (lsN 0 (facS n f 0).2) :=
    ⟨(Q0.out.next hB3).alloc _, (Q1.out.next hB3).alloc _, Blk.new _ _ _, hW.1.alloc _, ⟨_, hW.2.alloc _⟩, ⟨by omega, by omega, hW.1.lt, hW.2.lt, hgb, by omega, by simp⟩, World.ownsRow_nil _ _ _ _, (below_next QB.out hB3).alloc (by have := (below_next QB.out hB3).size; omega) _⟩
  obtain ⟨c3, c4, c5, c6, c7⟩ := hM.cells
  have HM := Lib.hid hM
  clear hM hW hB3 Q0 Q1 QB KGA KF c0 hgb hg hb hlt2
  go_wp2_with fail
  clear c3 c4 c5 c6 c7
  go_loopw [7, 21] (fun v iv wr => FRel1 w (w3.heap.size + 1) w3.heap.size g b n (some ⟨gA, oA, none⟩) c f v iv wr) (fun _ iv _ => n - (intOf iv).toNat)
  case atStart => exact ⟨0, by omega, rfl, fun k hk => by omega, HM.out⟩
  case round =>
    clear HM
    obtain ⟨j, hj, rfl, hpos, hM⟩ := hrel
    by_cases hjn : j < n
    · obtain ⟨Ad, cd, ev⟩ := own_shape hM.own
      rw [lsN_len] at ev
      subst ev
      have hN := hM.drew
      clear hM
      have hx8 := idx_lt hjn hjn
      have HS := fun W F v D (hW : FFr w W (w3.heap.size + 1) w3.heap.size g b n (some ⟨gA, oA, none⟩) c F v D) => Lib.hid (hW.six hgA (HCA.out (j * n + j) hx8))
      have hq1 : (0 : Int) ≤ (j : Int) * (n : Int) := by exact_mod_cast Nat.zero_le (j * n)
      have hq2 : (j : Int) * (n : Int) ≤ 36 := by exact_mod_cast (show j * n ≤ 36 by omega)
      have hq3 : (j : Int) * (n : Int) + (j : Int) ≤ 36 := by exact_mod_cast (show j * n + j ≤ 36 by omega)
      have hq5 : (0 : Int) ≤ (j : Int) * (n : Int) + (j : Int) := by exact_mod_cast Nat.zero_le (j * n + j)
      have hq4 : (j : Int) * (n : Int) + (j : Int) < (n : Int) * (n : Int) := by exact_mod_cast hx8
      have hq6 : ((j : Int) * (n : Int) + (j : Int)).toNat = j * n + j := by
        rw [show (j : Int) * (n : Int) + (j : Int) = ((j * n + j : Nat) : Int) by push_cast; rfl]; rfl
      have hq7 : IntKind.i64.wrap ((j : Int) * (n : Int)) = (j : Int) * (n : Int) := IntWalk.i64_in _ (by omega)
      have hq8 : IntKind.i64.wrap ((j : Int) * (n : Int) + (j : Int)) = (j : Int) * (n : Int) + (j : Int) := IntWalk.i64_in _ (by omega)
      obtain ⟨fin, din⟩ := facS_in HF.out j hj
      have hfd := facD_at f hjn
      have hnext := facS_succ n f j
      obtain ⟨F, hFe⟩ : ∃ F, (facS n f j).1 = F := ⟨_, rfl⟩
      obtain ⟨D, hDe⟩ : ∃ D, (facS n f j).2 = D := ⟨_, rfl⟩
      rw [hFe, hDe] at hN hfd hnext
      rw [hFe] at fin
      rw [hDe] at din
      have kl : ∀ W ob (hW : FFr w W (w3.heap.size + 1) w3.heap.size g b n (some ⟨gA, oA, none⟩) c F (.slice Ad j cd) (lsN j D)) (hb : Blk W b 4 #[.bool ob]),
          Calls Try.prog 30 #[workA n (some ⟨g, 0, none⟩) (n * n) (n * n) b, .int .i64 (f (j * n + j)), .int .i64 j, .int .i64 j, .slice Ad j cd, .int .i64 j] W fun e w' =>
            e = .returned (.int .i64 (pivot n f j F D)) ∧ (∃ o', Blk w' b 4 #[.bool o']) ∧ W.grownBy w' (some b) := fun W ob hW hb =>
        less_any n (n * n) b j j j cd j (some ⟨g, 0, none⟩) Ad (f (j * n + j)) F D ob h6 hjn hjn hj (Nat.le_refl _) W hb hW.numF (fun h0 => hW.diaN j (Nat.le_refl _) h0) (HF.out _ hx8) (fun t _ => fin t) (fun t _ => din t)
      have ixp : In (pivot n f j F D) := pivot_in HF.out hjn F D
      have hbel : ∀ i, below n f i j F D = divR (lessZ (f (i * n + j)) (fun k => F (i * n + k)) (fun k => F (j * n + k)) D j) (pivot n f j F D) := fun _ => rfl
      generalize pivot n f j F D = x at *
      generalize f (j * n + j) = s at *
      unfold workA at kl
      have KL := Lib.hid kl
      have HBEL := Lib.hid hbel
      have HFIN := Lib.hid fin
      have HDIN := Lib.hid din
      have HIXP := Lib.hid ixp
      have HFD := Lib.hid hfd
      have HNEXT := Lib.hid hnext
      have HPOS := Lib.hid hpos
      clear kl hbel fin din ixp hfd hnext hpos
      go_wp2_with fail
      go_region_held3 (fun w' => w'.cell? ⟨w.heap.size, 0, none⟩ = some (.int .i64 n) ∧ w'.cell? ⟨w.heap.size, 1, none⟩ = some (.slice (some ⟨gA, oA, none⟩) (n * n) c) ∧ w'.cell? ⟨w3.heap.size, 0, none⟩ = some (.int .i64 n) ∧ w'.cell? ⟨w3.heap.size, 1, none⟩ = some (.slice (some ⟨g, 0, none⟩) (n * n) (n * n)) ∧ w'.cell? ⟨w3.heap.size, 2, none⟩ = some (.pointer (some ⟨b, 0, none⟩)) ∧ w'.cell? ⟨gA, oA + (j * n + j), none⟩ = some (.int .i64 s)) (exact (HS _ _ _ _ hN).out) ((go_at_call 30; obtain ⟨ob, hob⟩ := hN.mark; (with_reducible refine (KL.out _ ob hN hob).mono ?_); rintro e w4 ⟨rfl, hb4, hg4⟩; have hN4 := hN.see hb4 hg4; clear hN hb4 hg4 hob; have hN := hN4; clear hN4))
      by_cases hx : x ≤ 0
      · have t1 : decide (x ≤ 0) = true := decide_eq_true hx
        have hno : ¬ (∀ k, k < n → 0 < facD n f k) := fun h => by have := h j hjn; rw [HFD.out] at this; omega
        have z1 := (hN.2.1.set_ 0 (.int .i64 0)).set_ 1 (.slice none 0 0)
        have z3 := hN.2.2.2.2.2.2.2
        have f0 := hN.2.1.frozen 0
        have f1 := hN.2.1.frozen 1
        have d0 := hN.2.1.cell 0
        have d1 := hN.2.1.cell 1
        simp only [List.getElem?_toArray, List.getElem?_cons_zero, List.getElem?_cons_succ] at d0 d1
        have Z1 := Lib.hid z1
        have Z3 := Lib.hid z3
        have HNO := Lib.hid hno
        clear z1 z3 hN hno hx
        go_wp2_with fail
        exact bodyPost_ret (v := .tuple #[.agg #[.int .i64 0, .slice none 0 0], .slice none 0 0, .bool false, .int .i64 9]) (fac_results Z1.out _ _ _ _ rfl rfl rfl rfl) rfl (.inr ⟨HNO.out, rfl, (Z3.out.setCell (by simp) _).setCell (by simp) _⟩)
      · have t1 : decide (x ≤ 0) = false := decide_eq_false hx
        have HX0 : Hid (0 < x) := Lib.hid (by omega)
        have hown : w4.ownsRow (w3.heap.size + 1) 3 1 (.slice Ad j cd) j ((lsN j D).map (Value.int .i64)) := by have := hN.own; rwa [lsN_len] at this
        have HOwn := Lib.hid hown
        have HN := Lib.hid hN
        have hsz := hN.2.2.2.2.2.1.2.2.2.2.2.2
        have kp := fun W F hb => put_any n g b j j 4294967296 F h6 hjn hjn W hb
        unfold workV at kp
        have KP := Lib.hid kp
        clear kp hN hown hx
        go_wp2_with (first
          | (at_builtin; (refine wpList_append_ints rfl _ _ 28 rfl (w3.heap.size + 1) 3 i0 (.int .i64 0) .i64 8 Try.underlying28 hi0 hz0 hz1 hz2 (by rfl) _ j _ rfl (HOwn.out.alloc _) (some ⟨w4.heap.size, 0, none⟩) 1 1 [x] rfl (by simp) (ints_one _ _) (by unfold maxLen; omega) (by omega) (by simp; omega) ?_; intro v2 w2 hown2 hg2; have hN := (HN.out.next ((Below.refl _ _).alloc (Nat.le_refl _) _)).push (D' := lsN (j + 1) (updI D j x)) (by rw [lsN_len, lsN_push, List.map_append]; exact hown2) hg2; have c3 := hN.cells.2.2.1; have c4 := hN.cells.2.2.2.1; have c5 := hN.cells.2.2.2.2; have HN2 := Lib.hid hN; clear hown2 hg2 hN)))
        refine (KP.out _ _ HN2.out.num).mono ?_
        rintro e w5 ⟨rfl, hb5, hg5⟩
        rw [colF_start f hjn F D] at hb5
        have hN := HN2.out.put hb5 hg5
        obtain ⟨Ad2, cd2, ev⟩ := own_shape hN.own
        rw [lsN_len] at ev
        subst ev
        have c0 := hN.cells.1
        have HN3 := Lib.hid hN
        clear hN hb5 hg5 c3 c4 c5 HN HN2 HOwn KP KL hsz
        go_wp2_with fail
        clear c0
        go_loopw [10] (fun iv wr => FRel2' w (w3.heap.size + 1) w3.heap.size g b n (some ⟨gA, oA, none⟩) c f j F D (.slice Ad2 (j + 1) cd2) (lsN (j + 1) (updI D j x)) iv wr) (fun iv _ => n - (intOf iv).toNat)
        case atStart => exact ⟨j + 1, by omega, by omega, by go_num, HN3.out⟩
        case round =>
          clear HN3
          obtain ⟨i, hji, hi, rfl, hM⟩ := hrel
          obtain ⟨wo, rfl⟩ : ∃ wo : World, wo = wr := ⟨_, rfl⟩
          have c0 := hM.cells.1
          by_cases hin : i < n
          · have hN := hM.drew
            clear hM
            have hx9 := idx_lt hin hjn
            have HS := fun W F v D (hW : FFr w W (w3.heap.size + 1) w3.heap.size g b n (some ⟨gA, oA, none⟩) c F v D) => Lib.hid (hW.six hgA (HCA.out (i * n + j) hx9))
            have hr1 : (0 : Int) ≤ (i : Int) * (n : Int) := by exact_mod_cast Nat.zero_le (i * n)
            have hr2 : (i : Int) * (n : Int) ≤ 36 := by exact_mod_cast (show i * n ≤ 36 by omega)
            have hr3 : (i : Int) * (n : Int) + (j : Int) ≤ 36 := by exact_mod_cast (show i * n + j ≤ 36 by omega)
            have hr5 : (0 : Int) ≤ (i : Int) * (n : Int) + (j : Int) := by exact_mod_cast Nat.zero_le (i * n + j)
            have hr4 : (i : Int) * (n : Int) + (j : Int) < (n : Int) * (n : Int) := by exact_mod_cast hx9
            have hr6 : ((i : Int) * (n : Int) + (j : Int)).toNat = i * n + j := by
              rw [show (i : Int) * (n : Int) + (j : Int) = ((i * n + j : Nat) : Int) by push_cast; rfl]; rfl
            have hr7 : IntKind.i64.wrap ((i : Int) * (n : Int)) = (i : Int) * (n : Int) := IntWalk.i64_in _ (by omega)
            have hr8 : IntKind.i64.wrap ((i : Int) * (n : Int) + (j : Int)) = (i : Int) * (n : Int) + (j : Int) := IntWalk.i64_in _ (by omega)
            have hcol : ∀ W, FFr w W (w3.heap.size + 1) w3.heap.size g b n (some ⟨gA, oA, none⟩) c (colF n f j F D i) (.slice Ad2 (j + 1) cd2) (lsN (j + 1) (updI D j x)) → ∀ t, In (colF n f j F D i t) := fun _ _ t => colF_in HFIN.out t
            have kl : ∀ W ob (hW : FFr w W (w3.heap.size + 1) w3.heap.size g b n (some ⟨gA, oA, none⟩) c (colF n f j F D i) (.slice Ad2 (j + 1) cd2) (lsN (j + 1) (updI D j x))) (hb : Blk W b 4 #[.bool ob]),
                Calls Try.prog 30 #[workA n (some ⟨g, 0, none⟩) (n * n) (n * n) b, .int .i64 (f (i * n + j)), .int .i64 i, .int .i64 j, .slice Ad2 (j + 1) cd2, .int .i64 j] W fun e w' =>
                  e = .returned (.int .i64 (lessZ (f (i * n + j)) (fun k => F (i * n + k)) (fun k => F (j * n + k)) D j)) ∧ (∃ o', Blk w' b 4 #[.bool o']) ∧ W.grownBy w' (some b) := by
              intro W ob hW hb
              have h := less_any n (n * n) b i j (j + 1) cd2 j (some ⟨g, 0, none⟩) Ad2 (f (i * n + j)) (colF n f j F D i) (updI D j x) ob h6 hin hjn hj (by omega) W hb hW.numF (fun h0 => hW.diaN j (by omega) h0) (HF.out _ hx9) (fun t _ => colF_in HFIN.out t) (fun t ht => by rw [updI_far _ _ (by omega)]; exact HDIN.out t)
              rw [less_col f hjn F D (updI D j x) (f (i * n + j)) (fun k hk => updI_far _ _ (by omega))] at h
              exact h
            have iy := lessZ_in (HF.out _ hx9) (fun k => F (i * n + k)) (fun k => F (j * n + k)) D j
            have hbi := HBEL.out i
            have hcs := colF_step (n := n) f hjn hji F D
            rw [hbi] at hcs
            generalize lessZ (f (i * n + j)) (fun k => F (i * n + k)) (fun k => F (j * n + k)) D j = y at *
            generalize f (i * n + j) = sy at *
            have kd := fun W => div_any y x iy HIXP.out W
            have iq := In_divR y x
            generalize divR y x = qv at *
            generalize divB y x = qb at *
            have ks := fun W o (hb : Blk W b 4 #[.bool o]) => msee_any n qv (some ⟨g, 0, none⟩) (n * n) (n * n) b o qb W hb
            have kp := fun W hb => put_any n g b i j qv (colF n f j F D i) h6 hin hjn W hb
            unfold workA at kl ks
            unfold workV at kp
            have KL := Lib.hid kl
            have KD := Lib.hid kd
            have KS := Lib.hid ks
            have KP := Lib.hid kp
            have HCS := Lib.hid hcs
            clear kl kd ks kp hcs hcol hbi iy iq
            go_wp2_with fail
            clear c0
            go_region_held3 (fun w' => w'.cell? ⟨w.heap.size, 0, none⟩ = some (.int .i64 n) ∧ w'.cell? ⟨w.heap.size, 1, none⟩ = some (.slice (some ⟨gA, oA, none⟩) (n * n) c) ∧ w'.cell? ⟨w3.heap.size, 0, none⟩ = some (.int .i64 n) ∧ w'.cell? ⟨w3.heap.size, 1, none⟩ = some (.slice (some ⟨g, 0, none⟩) (n * n) (n * n)) ∧ w'.cell? ⟨w3.heap.size, 2, none⟩ = some (.pointer (some ⟨b, 0, none⟩)) ∧ w'.cell? ⟨gA, oA + (i * n + j), none⟩ = some (.int .i64 sy)) (exact (HS _ _ _ _ hN).out) ((go_at_call 30; obtain ⟨ob, hob⟩ := hN.mark; (with_reducible refine (KL.out _ ob hN hob).mono ?_); rintro e w4 ⟨rfl, hb4, hg4⟩; have hN4 := hN.see hb4 hg4; clear hN hb4 hg4 hob; have hN := hN4; clear hN4))
            have hM := hN.drew
            clear hN
            have hN := hM
            clear hM
            go_wp2_with fail
            go_region_held3 (fun w' => w'.cell? ⟨w3.heap.size, 0, none⟩ = some (.int .i64 n) ∧ w'.cell? ⟨w3.heap.size, 1, none⟩ = some (.slice (some ⟨g, 0, none⟩) (n * n) (n * n)) ∧ w'.cell? ⟨w3.heap.size, 2, none⟩ = some (.pointer (some ⟨b, 0, none⟩))) (exact hN.cells.2.2) (first
              | (go_at_call 23; (with_reducible refine (KD.out _).mono ?_); rintro e w6 ⟨rfl, hB6⟩; have hN4 := hN.next hB6; clear hN hB6; have hN := hN4; clear hN4)
              | (go_at_call 28; obtain ⟨ob, hob⟩ := hN.mark; (with_reducible refine (KS.out _ _ hob).mono ?_); rintro e w6 ⟨rfl, hb6, hg6⟩; have hN4 := hN.see ⟨_, hb6⟩ hg6; clear hN hb6 hg6 hob; have hN := hN4; clear hN4)
              | (go_at_call 27; (with_reducible refine (KP.out _ hN.num).mono ?_); rintro e w6 ⟨rfl, hb6, hg6⟩; have hN4 := hN.put hb6 hg6; clear hN hb6 hg6; have hN := hN4; clear hN4))
            go_wp2_with fail
            go_roundw
            case rel => exact ⟨i + 1, by omega, by omega, by go_num, hN.to HCS.out rfl⟩
            case measure => simp [intOf]; omega
          · obtain rfl : i = n := by omega
            have HM := Lib.hid hM
            clear hM
            go_wp2_with fail
            go_roundw
            case rel =>
              refine ⟨j + 1, by omega, by go_num, fun k hk => ?_, ?_⟩
              · rcases Nat.lt_or_ge k j with h | h
                · exact HPOS.out k h
                · obtain rfl : k = j := by omega
                  rw [HFD.out]; exact HX0.out
              · rw [HNEXT.out]
                exact HM.out
            case measure => simp [intOf]; omega
    · obtain rfl : n = j := by omega
      have z1 := ((hM.2.1.set_ 0 (.int .i64 n)).set_ 1 (.slice (some ⟨g, 0, none⟩) (n * n) (n * n))).drew
      have z2 := hM.num
      have z3 := hM.2.2.2.2.2.2.2
      have z4 := hM.own
      rw [lsN_len] at z4
      have f0 := hM.2.1.frozen 0
      have f1 := hM.2.1.frozen 1
      have d0 := hM.2.1.cell 0
      have d1 := hM.2.1.cell 1
      obtain ⟨c1, c2, c3, c4, c5⟩ := hM.cells
      obtain ⟨oo, hoo⟩ := hM.mark
      have d2 := hoo.cell 0
      simp only [List.getElem?_toArray, List.getElem?_cons_zero, List.getElem?_cons_succ] at d0 d1 d2
      have g1 := hM.2.2.2.2.2.1
      have Z1 := Lib.hid z1
      have Z2 := Lib.hid z2
      have Z3 := Lib.hid z3
      have Z4 := Lib.hid z4
      have G1 := Lib.hid g1
      have HPOS := Lib.hid hpos
      have n1 : b ≠ w.heap.size + 1 := by omega
      have n2 : w.heap.size + 1 ≠ b := by omega
      have n3 : w3.heap.size ≠ w.heap.size + 1 := by omega
      have n4 : w.heap.size + 1 ≠ w3.heap.size := by omega
      clear z1 z2 z3 z4 hM g1 hoo hpos c1 c2
      go_wp2_with fail
      go_region
      all_goals
        go_wp2_with fail
        refine bodyPost_ret (v := .tuple #[matV n g, _, .bool oo, .int .i64 0]) (fac_results Z1.out _ _ _ _ rfl rfl rfl rfl) rfl (.inl ⟨HPOS.out, g, _, oo, rfl, by have := G1.out; omega, ?_, ?_, ?_, ?_⟩)
        · exact ((Z2.out.far (by have := G1.out; simp; omega) _).far (by have := G1.out; simp; omega) _).drew
        · exact own_below (own_set (own_set (own_le Z4.out (by have := G1.out; omega)) (own_ne' Z4.out (by have := G1.out; simp; omega)) _) (own_ne' Z4.out (by have := G1.out; simp; omega)) _) ((Below.refl _ _).drew) (fun x hx => by have := (Z4.out.lt x hx).2; simpa using this)
        · exact (own_ne' Z4.out (by have := G1.out; omega)).symm
        · exact ((Z3.out.setCell (by simp) _).setCell (by simp) _).drew
end Go.Proofs.Ytnhklfdchfndjaa.Mt
