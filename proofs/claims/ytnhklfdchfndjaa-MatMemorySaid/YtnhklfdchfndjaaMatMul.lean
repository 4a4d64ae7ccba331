/- mat.Mul: the product. -/
import Derived.Test.YtnhklfdchfndjaaMatTurn
set_option linter.unusedVariables false
namespace Go.Proofs.Ytnhklfdchfndjaa.Mt
open Go.RowKit Go.Proofs.Ytnhklfdchfndjaa Fx
attribute [local go_sem ↓] Go.wp_at_zero Go.wp_at_succ

/-- what stands while two matrices are multiplied -/
def MFr (w0 W : World) (q g b n : Nat) (A : Option Addr) (c : Nat) (B : Option Addr) (d : Nat) (F : Nat → Int) (o : Bool) : Prop :=
  Blk W w0.heap.size 30 #[.int .i64 n, .slice A (n * n) c] ∧ Blk W (w0.heap.size + 1) 30 #[.int .i64 n, .slice B (n * n) d] ∧ Blk W (w0.heap.size + 1 + 1) 30 #[.int .i64 0, .slice none 0 0] ∧
    Blk W q 57 #[.int .i64 n, .slice (some ⟨g, 0, none⟩) (n * n) (n * n), .pointer (some ⟨b, 0, none⟩)] ∧ Blk W g 3 (tabN (n * n) F) ∧ Blk W b 4 #[.bool o] ∧
    (w0.heap.size + 1 + 1 < g ∧ w0.heap.size + 1 + 1 < b ∧ g < q ∧ b < q ∧ g ≠ b) ∧ Below w0.heap.size w0 W
section
variable {w0 W W' : World} {q g b n c d : Nat} {A B : Option Addr} {F F' : Nat → Int} {o o' : Bool}
theorem MFr.put (h : MFr w0 W q g b n A c B d F o) (hb : Blk W' g 3 (tabN (n * n) F')) (hg : W.grownBy W' (some g)) : MFr w0 W' q g b n A c B d F' o := by
  obtain ⟨h1, h2, h3, h4, h5, h6, h7, h8⟩ := h
  exact ⟨h1.grown hg (by intro e; injection e with e; omega), h2.grown hg (by intro e; injection e with e; omega), h3.grown hg (by intro e; injection e with e; omega), h4.grown hg (by intro e; injection e with e; omega), hb, h6.grown hg (by intro e; injection e with e; omega), h7, h8.grown hg h8.size (fun j hj => by injection hj with hj; omega)⟩
theorem MFr.see (h : MFr w0 W q g b n A c B d F o) (hb : Blk W' b 4 #[.bool o']) (hg : W.grownBy W' (some b)) : MFr w0 W' q g b n A c B d F o' := by
  obtain ⟨h1, h2, h3, h4, h5, h6, h7, h8⟩ := h
  exact ⟨h1.grown hg (by intro e; injection e with e; omega), h2.grown hg (by intro e; injection e with e; omega), h3.grown hg (by intro e; injection e with e; omega), h4.grown hg (by intro e; injection e with e; omega), h5.grown hg (by intro e; injection e with e; omega), hb, h7, h8.grown hg h8.size (fun j hj => by injection hj with hj; omega)⟩
theorem MFr.next (h : MFr w0 W q g b n A c B d F o) (hb : Below W.heap.size W W') : MFr w0 W' q g b n A c B d F o := by
  obtain ⟨h1, h2, h3, h4, h5, h6, h7, h8⟩ := h
  exact ⟨h1.next hb, h2.next hb, h3.next hb, h4.next hb, h5.next hb, h6.next hb, h7, below_next h8 hb⟩
theorem MFr.drew (h : MFr w0 W q g b n A c B d F o) : MFr w0 W.drew q g b n A c B d F o := ⟨h.1, h.2.1, h.2.2.1, h.2.2.2.1, h.2.2.2.2.1, h.2.2.2.2.2.1, h.2.2.2.2.2.2.1, h.2.2.2.2.2.2.2.drew⟩
theorem MFr.num (h : MFr w0 W q g b n A c B d F o) : Blk W g 3 (tabN (n * n) F) := h.2.2.2.2.1
theorem MFr.mark (h : MFr w0 W q g b n A c B d F o) : Blk W b 4 #[.bool o] := h.2.2.2.2.2.1
theorem MFr.to (h : MFr w0 W q g b n A c B d F o) (hF : F = F') (ho : o = o') : MFr w0 W q g b n A c B d F' o' := by subst hF; subst ho; exact h
theorem MFr.cells (h : MFr w0 W q g b n A c B d F o) : W.cell? ⟨w0.heap.size, 0, none⟩ = some (.int .i64 n) ∧
    W.cell? ⟨q, 0, none⟩ = some (.int .i64 n) ∧ W.cell? ⟨q, 1, none⟩ = some (.slice (some ⟨g, 0, none⟩) (n * n) (n * n)) ∧ W.cell? ⟨q, 2, none⟩ = some (.pointer (some ⟨b, 0, none⟩)) :=
  ⟨h.1.cell 0, h.2.2.2.1.cell 0, h.2.2.2.1.cell 1, h.2.2.2.1.cell 2⟩
end
theorem MFr.all {w0 W : World} {q g b n c d gA oA gB oB t u : Nat} {x y : Int} {F : Nat → Int} {o : Bool} (h : MFr w0 W q g b n (some ⟨gA, oA, none⟩) c (some ⟨gB, oB, none⟩) d F o) (hA : gA < w0.heap.size) (hx : w0.cell? ⟨gA, oA + t, none⟩ = some (.int .i64 x))
    (hB : gB < w0.heap.size) (hy : w0.cell? ⟨gB, oB + u, none⟩ = some (.int .i64 y)) :
    W.cell? ⟨w0.heap.size, 0, none⟩ = some (.int .i64 n) ∧ W.cell? ⟨w0.heap.size, 1, none⟩ = some (.slice (some ⟨gA, oA, none⟩) (n * n) c) ∧ W.cell? ⟨w0.heap.size + 1, 1, none⟩ = some (.slice (some ⟨gB, oB, none⟩) (n * n) d) ∧
    W.cell? ⟨q, 0, none⟩ = some (.int .i64 n) ∧ W.cell? ⟨q, 1, none⟩ = some (.slice (some ⟨g, 0, none⟩) (n * n) (n * n)) ∧ W.cell? ⟨q, 2, none⟩ = some (.pointer (some ⟨b, 0, none⟩)) ∧
    W.cell? ⟨gA, oA + t, none⟩ = some (.int .i64 x) ∧ W.cell? ⟨gB, oB + u, none⟩ = some (.int .i64 y) :=
  ⟨h.1.cell 0, h.1.cell 1, h.2.1.cell 1, h.2.2.2.1.cell 0, h.2.2.2.1.cell 1, h.2.2.2.1.cell 2, (h.2.2.2.2.2.2.2.cell (p := ⟨gA, oA + t, none⟩) hA).trans hx, (h.2.2.2.2.2.2.2.cell (p := ⟨gB, oB + u, none⟩) hB).trans hy⟩

def MRel1 (w0 : World) (q g b n : Nat) (A : Option Addr) (c : Nat) (B : Option Addr) (d : Nat) (f h : Nat → Int) (iv : Value) (W : World) : Prop :=
  ∃ i : Nat, i ≤ n ∧ iv = .int .i64 i ∧ MFr w0 W q g b n A c B d (fillTo (mulF n f h) (i * n)) (allO n f h i)
def MRel2 (w0 : World) (q g b n : Nat) (A : Option Addr) (c : Nat) (B : Option Addr) (d : Nat) (f h : Nat → Int) (i : Nat) (kv : Value) (W : World) : Prop :=
  ∃ k : Nat, k ≤ n ∧ kv = .int .i64 k ∧ MFr w0 W q g b n A c B d (fillTo (mulF n f h) (i * n + k)) (allO n f h i || rowO n f h i k)
def MRel3 (w0 : World) (q g b n : Nat) (A : Option Addr) (c : Nat) (B : Option Addr) (d : Nat) (f h : Nat → Int) (i k : Nat) (sv jv : Value) (W : World) : Prop :=
  ∃ j : Nat, j ≤ n ∧ jv = .int .i64 j ∧ sv = .int .i64 (accD (fun j => f (i * n + j)) (fun j => h (j * n + k)) j) ∧
    MFr w0 W q g b n A c B d (fillTo (mulF n f h) (i * n + k)) (allO n f h i || rowO n f h i k || accO (fun j => f (i * n + j)) (fun j => h (j * n + k)) j)

theorem mul_results {W : World} {r : Nat} {N : Int} {A : Option Addr} {l c : Nat} (h : Blk W r 30 #[.int .i64 N, .slice A l c]) (v e : Value) (tmps : Array Value) (h2 : tmps.getD 4 undef = .pointer (some ⟨r, 0, none⟩)) (h3 : tmps.getD 5 undef = v) (h4 : tmps.getD 6 undef = e) :
    (results Try.f10 tmps).run Try.prog W = .ok (.tuple #[.agg #[.int .i64 N, .slice A l c], v, e]) W := by
  have h2' : tmps[4]?.getD undef = .pointer (some ⟨r, 0, none⟩) := by simpa using h2
  have h3' : tmps[5]?.getD undef = v := by simpa using h3
  have h4' : tmps[6]?.getD undef = e := by simpa using h4
  simp [results, Try.results10, h2', h3', h4', asAddr, run_loadVar_row (P := Try.prog) W r _ 30 #[.int .i64 N, .slice A l c] (0, 0) _ h Try.underlying30 rfl (by kernel_rfl)]

set_option maxRecDepth 100000 in
set_option maxHeartbeats 4000000 in
theorem Mul_any (n c d : Nat) (A B : Option Addr) (f h : Nat → Int) (h1 : 1 ≤ n) (h6 : n ≤ 6) (w : World) (hA : Nums w A (n * n) f) (hB : Nums w B (n * n) h) (hf : ∀ t, t < n * n → In (f t)) (hh : ∀ t, t < n * n → In (h t)) :
    Calls Try.prog 10 #[.agg #[.int .i64 n, .slice A (n * n) c], .agg #[.int .i64 n, .slice B (n * n) d]] w fun e w' => ∃ g, e = .returned (.tuple #[matV n g, .bool (allO n f h n), .int .i64 0]) ∧ NewMat w w' n g (mulF n f h) := by
  obtain ⟨gA, oA, rfl, hgA, hcA⟩ := hA
  obtain ⟨gB, oB, rfl, hgB, hcB⟩ := hB
  have hp : n * n ≤ 36 := Nat.le_trans (Nat.mul_le_mul h6 h6) (by omega)
  have kga := fun W => Good_any (n : Int) (some ⟨gA, oA, none⟩) (n * n) c W (by omega)
  have kgb := fun W => Good_any (n : Int) (some ⟨gB, oB, none⟩) (n * n) d W (by omega)
  rw [good_yes h1 h6] at kga kgb
  have KGA := Lib.hid kga
  have KGB := Lib.hid kgb
  have kf := fun W => fresh_any n h1 h6 W
  unfold workV at kf
  have KF := Lib.hid kf
  have HCA := Lib.hid hcA
  have HCB := Lib.hid hcB
  have HF := Lib.hid hf
  have HH := Lib.hid hh
  clear kga kgb kf hcA hcB hf hh
  have tn : ((n : Int) != (n : Int)) = false := by simp
  go_enter Try.func10, Try.ntmps10
  go_wp2_with fail
  refine (KGA.out _).mono ?_
  rintro e w1 ⟨rfl, hB1⟩
  have p0 := (((Blk.new w 30 #[.int .i64 n, .slice (some ⟨gA, oA, none⟩) (n * n) c]).alloc (.cells #[.int .i64 n, .slice (some ⟨gB, oB, none⟩) (n * n) d] 30)).alloc (.cells #[.int .i64 0, .slice none 0 0] 30)).next hB1
  have p1 := ((Blk.at_ (w.alloc (.cells #[.int .i64 n, .slice (some ⟨gA, oA, none⟩) (n * n) c] 30)) (w.heap.size + 1) 30 #[.int .i64 n, .slice (some ⟨gB, oB, none⟩) (n * n) d] (by simp)).alloc (.cells #[.int .i64 0, .slice none 0 0] 30)).next hB1
  have p2 := (Blk.at_ ((w.alloc (.cells #[.int .i64 n, .slice (some ⟨gA, oA, none⟩) (n * n) c] 30)).alloc (.cells #[.int .i64 n, .slice (some ⟨gB, oB, none⟩) (n * n) d] 30)) (w.heap.size + 1 + 1) 30 #[.int .i64 0, .slice none 0 0] (by simp)).next hB1
  have b0 := below_next ((((Below.refl w.heap.size w).alloc (Nat.le_refl _) (.cells #[.int .i64 n, .slice (some ⟨gA, oA, none⟩) (n * n) c] 30)).alloc (by simp) (.cells #[.int .i64 n, .slice (some ⟨gB, oB, none⟩) (n * n) d] 30)).alloc (by simp; omega) (.cells #[.int .i64 0, .slice none 0 0] 30)) hB1
  have c0 := p0.cell 0
  have c1 := p1.cell 0
  have c2 := p1.cell 1
  simp only [List.getElem?_toArray, List.getElem?_cons_zero, List.getElem?_cons_succ] at c0 c1 c2
  have P0 := Lib.hid p0
  have P1 := Lib.hid p1
  have P2 := Lib.hid p2
  have B0 := Lib.hid b0
  clear p0 p1 p2 b0 hB1
  go_wp2_with fail
  refine (KGB.out _).mono ?_
  rintro e w2 ⟨rfl, hB2⟩
  have Q0 := Lib.hid (P0.out.next hB2)
  have Q1 := Lib.hid (P1.out.next hB2)
  have Q2 := Lib.hid (P2.out.next hB2)
  have QB := Lib.hid (below_next B0.out hB2)
  clear P0 P1 P2 B0 hB2 c0 c1 c2
  have c0 := Q0.out.cell 0
  have c1 := Q1.out.cell 0
  simp only [List.getElem?_toArray, List.getElem?_cons_zero, List.getElem?_cons_succ] at c0 c1
  go_wp2_with fail
  refine (KF.out _).mono ?_
  rintro e w3 ⟨g, b, rfl, hW, hg, hb, hB3⟩
  have hlt2 := Q2.out.lt
  have hgb : g ≠ b := hW.1.ne_ hW.2 (by decide)
  have hM : MFr w (w3.alloc (.cells #[.int .i64 n, .slice (some ⟨g, 0, none⟩) (n * n) (n * n), .pointer (some ⟨b, 0, none⟩)] 57)) w3.heap.size g b n (some ⟨gA, oA, none⟩) c (some ⟨gB, oB, none⟩) d (fillTo (mulF n f h) (0 * n)) (allO n f h 0) := by
    rw [Nat.zero_mul, fillTo_zero]
    exact ⟨(Q0.out.next hB3).alloc _, (Q1.out.next hB3).alloc _, (Q2.out.next hB3).alloc _, Blk.new _ _ _, hW.1.alloc _, hW.2.alloc _, ⟨by omega, by omega, hW.1.lt, hW.2.lt, hgb⟩, (below_next QB.out hB3).alloc (by have := (below_next QB.out hB3).size; omega) _⟩
  obtain ⟨c3, c4, c5, c6⟩ := hM.cells
  have HM := Lib.hid hM
  clear hM hW hB3 Q0 Q1 Q2 QB KGA KGB KF c0 c1 hgb hg hb hlt2
  go_wp2_with fail
  clear c3 c4 c5 c6
  go_loopw [33] (fun i wr => MRel1 w w3.heap.size g b n (some ⟨gA, oA, none⟩) c (some ⟨gB, oB, none⟩) d f h i wr) (fun i _ => n - (intOf i).toNat)
  case atStart => exact ⟨0, by omega, rfl, HM.out⟩
  case round =>
    obtain ⟨i, hi, rfl, hM⟩ := hrel
    obtain ⟨c3, c4, c5, c6⟩ := hM.cells
    have HM := Lib.hid hM
    clear hM
    by_cases hin : i < n
    · go_wp2_with fail
      clear c3 c4 c5 c6
      obtain ⟨wo, rfl⟩ : ∃ wo : World, wo = wr := ⟨_, rfl⟩
      go_loopw [38] (fun k wr => MRel2 w w3.heap.size g b n (some ⟨gA, oA, none⟩) c (some ⟨gB, oB, none⟩) d f h i k wr) (fun k _ => n - (intOf k).toNat)
      case atStart => exact ⟨0, by omega, rfl, HM.out.to rfl (by simp [rowO])⟩
      case round =>
        clear HM
        obtain ⟨k, hk, rfl, hM⟩ := hrel
        obtain ⟨c3, c4, c5, c6⟩ := hM.cells
        have HM := Lib.hid hM
        clear hM
        by_cases hkn : k < n
        · go_wp2_with fail
          clear c3 c4 c5 c6
          obtain ⟨wm, rfl⟩ : ∃ wm : World, wm = wr := ⟨_, rfl⟩
          go_loopw [10, 43] (fun s j wr => MRel3 w w3.heap.size g b n (some ⟨gA, oA, none⟩) c (some ⟨gB, oB, none⟩) d f h i k s j wr) (fun _ j _ => n - (intOf j).toNat)
          case atStart => exact ⟨0, by omega, rfl, rfl, HM.out.to rfl (by simp [accO])⟩
          case round =>
            clear HM
            obtain ⟨j, hj, rfl, rfl, hM⟩ := hrel
            by_cases hjn : j < n
            · have hMd := hM.drew
              have hltx := idx_lt hin hjn
              have hlty := idx_lt hjn hkn
              have ix := HF.out _ hltx
              have iy := HH.out _ hlty
              have is_ := accD_in (fun j => f (i * n + j)) (fun j => h (j * n + k)) j
              have hacc : accD (fun j => f (i * n + j)) (fun j => h (j * n + k)) (j + 1) = cl (accD (fun j => f (i * n + j)) (fun j => h (j * n + k)) j + cl (mulZ (f (i * n + j)) (h (j * n + k)))) := rfl
              have haco : accO (fun j => f (i * n + j)) (fun j => h (j * n + k)) (j + 1) = ((accO (fun j => f (i * n + j)) (fun j => h (j * n + k)) j || out (mulZ (f (i * n + j)) (h (j * n + k)))) || out (accD (fun j => f (i * n + j)) (fun j => h (j * n + k)) j + cl (mulZ (f (i * n + j)) (h (j * n + k))))) := rfl
              have HS := fun W F o (hW : MFr w W w3.heap.size g b n (some ⟨gA, oA, none⟩) c (some ⟨gB, oB, none⟩) d F o) => Lib.hid (hW.all hgA (HCA.out (i * n + j) hltx) hgB (HCB.out (j * n + k) hlty))
              have HA := Lib.hid hacc
              have HO := Lib.hid haco
              have HM := Lib.hid hM
              clear hacc haco hM
              have hq1 : (0 : Int) ≤ (i : Int) * (n : Int) := by exact_mod_cast Nat.zero_le (i * n)
              have hq2 : (i : Int) * (n : Int) ≤ 36 := by exact_mod_cast (show i * n ≤ 36 by omega)
              have hq3 : (i : Int) * (n : Int) + (j : Int) ≤ 36 := by exact_mod_cast (show i * n + j ≤ 36 by omega)
              have hq5 : (0 : Int) ≤ (i : Int) * (n : Int) + (j : Int) := by exact_mod_cast Nat.zero_le (i * n + j)
              have hq4 : (i : Int) * (n : Int) + (j : Int) < (n : Int) * (n : Int) := by exact_mod_cast hltx
              have e1 : ((i : Int) * (n : Int) + (j : Int)).toNat = i * n + j := by
                rw [show (i : Int) * (n : Int) + (j : Int) = ((i * n + j : Nat) : Int) by push_cast; rfl]; rfl
              have e2 : IntKind.i64.wrap ((i : Int) * (n : Int)) = (i : Int) * (n : Int) := IntWalk.i64_in _ (by omega)
              have e3 : IntKind.i64.wrap ((i : Int) * (n : Int) + (j : Int)) = (i : Int) * (n : Int) + (j : Int) := IntWalk.i64_in _ (by omega)
              have hr1 : (0 : Int) ≤ (j : Int) * (n : Int) := by exact_mod_cast Nat.zero_le (j * n)
              have hr2 : (j : Int) * (n : Int) ≤ 36 := by exact_mod_cast (show j * n ≤ 36 by omega)
              have hr3 : (j : Int) * (n : Int) + (k : Int) ≤ 36 := by exact_mod_cast (show j * n + k ≤ 36 by omega)
              have hr5 : (0 : Int) ≤ (j : Int) * (n : Int) + (k : Int) := by exact_mod_cast Nat.zero_le (j * n + k)
              have hr4 : (j : Int) * (n : Int) + (k : Int) < (n : Int) * (n : Int) := by exact_mod_cast hlty
              have e4 : ((j : Int) * (n : Int) + (k : Int)).toNat = j * n + k := by
                rw [show (j : Int) * (n : Int) + (k : Int) = ((j * n + k : Nat) : Int) by push_cast; rfl]; rfl
              have e5 : IntKind.i64.wrap ((j : Int) * (n : Int)) = (j : Int) * (n : Int) := IntWalk.i64_in _ (by omega)
              have e6 : IntKind.i64.wrap ((j : Int) * (n : Int) + (k : Int)) = (j : Int) * (n : Int) + (k : Int) := IntWalk.i64_in _ (by omega)
              have kmul := fun W => mul_any (f (i * n + j)) (h (j * n + k)) ix iy W
              have kadd := fun W => add_any (accD (fun j => f (i * n + j)) (fun j => h (j * n + k)) j) (cl (mulZ (f (i * n + j)) (h (j * n + k)))) is_ (In_cl _) W
              simp only [Fx.res] at kmul kadd
              clear ix iy is_
              generalize accD (fun j => f (i * n + j)) (fun j => h (j * n + k)) j = s at *
              generalize f (i * n + j) = x at *
              generalize h (j * n + k) = y at *
              generalize cl (mulZ x y) = p at *
              generalize out (mulZ x y) = o1 at *
              generalize cl (s + p) = s2 at *
              generalize out (s + p) = o2 at *
              have KM := Lib.hid kmul
              have KA := Lib.hid kadd
              have ks1 := fun W o (hb : Blk W b 4 #[.bool o]) => msee_any n p (some ⟨g, 0, none⟩) (n * n) (n * n) b o o1 W hb
              have ks2 := fun W o (hb : Blk W b 4 #[.bool o]) => msee_any n s2 (some ⟨g, 0, none⟩) (n * n) (n * n) b o o2 W hb
              unfold workA at ks1 ks2
              have KS1 := Lib.hid ks1
              have KS2 := Lib.hid ks2
              clear kmul kadd ks1 ks2
              have hN := hMd
              clear hMd
              go_wp2_with fail
              go_region_held3 (fun w' => w'.cell? ⟨w.heap.size, 0, none⟩ = some (.int .i64 n) ∧ w'.cell? ⟨w.heap.size, 1, none⟩ = some (.slice (some ⟨gA, oA, none⟩) (n * n) c) ∧ w'.cell? ⟨w.heap.size + 1, 1, none⟩ = some (.slice (some ⟨gB, oB, none⟩) (n * n) d) ∧
                w'.cell? ⟨w3.heap.size, 0, none⟩ = some (.int .i64 n) ∧ w'.cell? ⟨w3.heap.size, 1, none⟩ = some (.slice (some ⟨g, 0, none⟩) (n * n) (n * n)) ∧ w'.cell? ⟨w3.heap.size, 2, none⟩ = some (.pointer (some ⟨b, 0, none⟩)) ∧
                w'.cell? ⟨gA, oA + (i * n + j), none⟩ = some (.int .i64 x) ∧ w'.cell? ⟨gB, oB + (j * n + k), none⟩ = some (.int .i64 y)) (exact (HS _ _ _ hN).out) (first
                | (go_at_call 22; (with_reducible refine (KM.out _).mono ?_); rintro e w4 ⟨rfl, hB4⟩; have hN4 := hN.next hB4; clear hN hB4; have hN := hN4; clear hN4)
                | (go_at_call 28; (with_reducible refine (KS1.out _ _ hN.mark).mono ?_); rintro e w4 ⟨rfl, hb4, hg4⟩; have hN4 := hN.see hb4 hg4; clear hN hb4 hg4; have hN := hN4; clear hN4)
                | (go_at_call 21; (with_reducible refine (KA.out _).mono ?_); rintro e w4 ⟨rfl, rfl⟩)
                | (go_at_call 28; (with_reducible refine (KS2.out _ _ hN.mark).mono ?_); rintro e w4 ⟨rfl, hb4, hg4⟩; have hN4 := hN.see hb4 hg4; clear hN hb4 hg4; have hN := hN4; clear hN4))
              go_wp2_with fail
              go_roundw
              case rel => exact ⟨j + 1, by omega, by go_num, by rw [HA.out], hN.to rfl (by rw [HO.out]; simp only [Bool.or_assoc])⟩
              case measure => simp [intOf]; omega
            · obtain rfl : n = j := by omega
              obtain ⟨c3, c4, c5, c6⟩ := hM.cells
              have kp := fun W (hb : Blk W g 3 (tabN (n * n) (fillTo (mulF n f h) (i * n + k)))) => put_any n g b i k (mulF n f h (i * n + k)) _ h6 hin hkn W hb
              rw [fillTo_succ] at kp
              rw [mulF_at f h hkn] at kp
              unfold workV at kp
              have KP := Lib.hid kp
              have HM := Lib.hid hM
              clear hM kp
              generalize accD (fun j => f (i * n + j)) (fun j => h (j * n + k)) n = s at *
              go_wp2_with fail
              refine (KP.out _ HM.out.num).mono ?_
              rintro e w4 ⟨rfl, hb4, hg4⟩
              have hM4 := (HM.out.put hb4 hg4).to rfl (show _ = (allO n f h i || rowO n f h i (k + 1)) by rw [rowO_succ, Bool.or_assoc])
              have HM4 := Lib.hid hM4
              clear hM4 hb4 hg4
              go_wp2_with fail
              go_roundw
              case rel => exact ⟨k + 1, by omega, by go_num, HM4.out⟩
              case measure => simp [intOf]; omega
        · obtain rfl : n = k := by omega
          have hM := HM.out.to (F' := fillTo (mulF n f h) ((i + 1) * n)) (o' := allO n f h (i + 1)) (by rw [Nat.add_mul, Nat.one_mul]) (allO_succ n f h i).symm
          have HM := Lib.hid hM
          clear hM
          go_wp2_with fail
          go_roundw
          case rel => exact ⟨i + 1, by omega, by go_num, HM.out⟩
          case measure => simp [intOf]; omega
    · obtain rfl : n = i := by omega
      have hM := HM.out
      have z1 := ((hM.2.2.1.set_ 0 (.int .i64 n)).set_ 1 (.slice (some ⟨g, 0, none⟩) (n * n) (n * n))).drew
      have z2 := hM.num
      have z3 := hM.2.2.2.2.2.2.2
      have f0 := hM.2.2.1.frozen 0
      have f1 := hM.2.2.1.frozen 1
      have d0 := hM.2.2.1.cell 0
      have d1 := hM.2.2.1.cell 1
      have d2 := hM.mark.cell 0
      simp only [List.getElem?_toArray, List.getElem?_cons_zero, List.getElem?_cons_succ] at d0 d1 d2
      have g1 := hM.2.2.2.2.2.2.1
      rw [tabN_full] at z2
      have Z1 := Lib.hid z1
      have Z2 := Lib.hid z2
      have Z3 := Lib.hid z3
      have G1 := Lib.hid g1
      have n1 : b ≠ w.heap.size + 1 + 1 := by omega
      have n2 : w.heap.size + 1 + 1 ≠ b := by omega
      clear z1 z2 z3 hM HM g1
      generalize hoo : allO n f h n = oo at d2 ⊢
      have HOO := Lib.hid hoo
      clear hoo
      go_wp2_with fail
      go_region
      all_goals
        go_wp2_with fail
        refine bodyPost_ret (v := .tuple #[matV n g, .bool oo, .int .i64 0]) (mul_results Z1.out _ _ _ rfl rfl rfl) rfl ⟨g, by rw [HOO.out], by have := G1.out; omega, ?_, ?_⟩
        · exact ((Z2.out.far (by have := G1.out; simp; omega) _).far (by have := G1.out; simp; omega) _).drew
        · exact ((Z3.out.setCell (by simp; omega) _).setCell (by simp; omega) _).drew
end Go.Proofs.Ytnhklfdchfndjaa.Mt
