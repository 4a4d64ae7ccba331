/- Merged: NodeUnpack. -/
import Derived.Test.YtofeoeknmlkjgaaZ09
import Derived.Test.YtofeoeknmlkjgaaZ15
import Derived.Test.YtofeoeknmlkjgaaZ32
import Derived.Test.YtofeoeknmlkjgaaZ41
set_option linter.unusedVariables false
set_option linter.unusedSimpArgs false
section
/- node.unpack: of the node only the axes and the roll change, and all stays within 64 bits. -/
set_option linter.unusedVariables false
namespace Go.Proofs.Ytofeoeknmlkjgaa.Nk
open Go.RowKit Go.Proofs.Ytofeoeknmlkjgaa Mb Fi Sm

def RollIn (R : Rl) : Prop := ∀ k, k < 4 → In64 (R.miss k) ∧ In64 (R.join k)
def Lk (n n' : Nd) : Prop := ∃ ax ro, n' = { n with ax := ax, ro := ro } ∧ ((∀ a, a < 3 → (n.ax a).In) → ∀ a, a < 3 → (ax a).In) ∧ (RollIn n.ro → RollIn ro)
theorem Lk.refl (n : Nd) : Lk n n := ⟨n.ax, n.ro, rfl, fun h => h, fun h => h⟩
def UpPost (n : Nd) (va : Value) (g : Nat) (w : World) (e : Ending) (w' : World) : Prop := ∃ (b : Bool) (n' : Nd), e = .returned (.bool b) ∧ NB w' g n' va ∧ w.grownBy w' (some g) ∧ Lk n n'
def UrRel (w : World) (gr : Nat) (iv : Value) (wr : World) : Prop := ∃ (i : Nat) (R : Rl), iv = .int .i64 i ∧ i ≤ 4 ∧ RB wr gr R ∧ RollIn R ∧ Below w.heap.size w wr
def axC (ax : Nat → St) (k : Nat) : Value := stc (ax (k / 7)) (k % 7)
def UaRel (w : World) (gr ga : Nat) (R : Rl) (iv : Value) (wr : World) : Prop := ∃ (i : Nat) (ax : Nat → St), iv = .int .i64 i ∧ i ≤ 3 ∧ Blk wr ga 34 (AN 21 (axC ax)) ∧ (∀ a, a < 3 → (ax a).In) ∧ RB wr gr R ∧ Below w.heap.size w wr

theorem AN_getD0 {m : Nat} {f : Nat → Value} {j : Nat} (hj : j < m) : (AN m f).toList.getD j undef = f j := by
  simp only [List.getD, Array.getElem?_toList]
  rw [AN_get hj]; rfl
theorem rollin_put {R : Rl} {k : Nat} {b : Bool} {x y : Int} (h : RollIn R) (hx : In64 x) (hy : In64 y) : RollIn ⟨upd R.inn k b, upd R.miss k x, upd R.join k y⟩ := by
  intro j hj
  by_cases e : j = k
  · subst e
    exact ⟨by show In64 (upd R.miss j x j); rw [upd_same]; exact hx, by show In64 (upd R.join j y j); rw [upd_same]; exact hy⟩
  · exact ⟨by show In64 (upd R.miss k x j); rw [upd_far _ _ e]; exact (h j hj).1, by show In64 (upd R.join k y j); rw [upd_far _ _ e]; exact (h j hj).2⟩
theorem UrRel.put {w wr : World} {gr i : Nat} {R : Rl} {b : Bool} {x y : Int} {iv : Value} (hi : i < 4) (hiv : iv = .int .i64 ((i + 1 : Nat) : Int)) (h : RB wr gr R) (hRI : RollIn R) (hB : Below w.heap.size w wr) (hgr : w.heap.size ≤ gr) (hx : In64 x) (hy : In64 y) :
    UrRel w gr iv (((wr.setCell ⟨gr, i, none⟩ (.bool b)).setCell ⟨gr, 4 + i, none⟩ (.int .i64 x)).setCell ⟨gr, 8 + i, none⟩ (.int .i64 y)) :=
  ⟨i + 1, _, hiv, hi, ((h.setInn hi b).setMiss hi x).setJoin hi y, rollin_put hRI hx hy, ((hB.setCell (p := ⟨gr, i, none⟩) hgr _).setCell (p := ⟨gr, 4 + i, none⟩) hgr _).setCell (p := ⟨gr, 8 + i, none⟩) hgr _⟩
theorem UpPost.keep {n : Nd} {va : Value} {g : Nat} {w w' : World} (h : NB w g n va) (hb : Below w.heap.size w w') (b : Bool) : UpPost n va g w (.returned (.bool b)) w' := ⟨b, n, rfl, h.next hb, grown_below hb, Lk.refl n⟩
theorem axC_zero (n : Nd) : (axL n).toArray = AN 21 (axC n.ax) := rfl
theorem axC_put {W : World} {q i : Nat} {ax : Nat → St} (h : Blk W q 34 (AN 21 (axC ax))) (hi : i < 3) (s : St) : Blk (W.setCells q (i * 7) (stL s)) q 34 (AN 21 (axC (upd ax i s))) := by
  have := blk_setCells_AN (o := i * 7) (vs := stL s) h
  rw [AN_congr (g := axC (upd ax i s))] at this
  · exact this
  · intro k hk
    have hl : (stL s).length = 7 := rfl
    rw [hl]
    by_cases a : i * 7 ≤ k ∧ k < i * 7 + 7
    · rw [if_pos a]
      unfold axC
      rw [show k / 7 = i by omega, upd_same, show k % 7 = k - i * 7 by omega]
      simp only [List.getD]
      rw [stL_get s (k - i * 7) (by omega)]; rfl
    · rw [if_neg a]
      unfold axC
      rw [upd_far _ _ (by omega)]
theorem axC_there {W : World} {q o k : Nat} {ax : Nat → St} (h : Blk W q 34 (AN 21 (axC ax))) (hk : o + k ≤ 21) : W.there q o k := fun j hj => by
  have := Blk.cell h (o + j)
  rw [this, AN_get (by omega)]
  exact ⟨rfl, Blk.frozen h _⟩
theorem UaRel.put {w wr : World} {gr q8 a : Nat} {R : Rl} {ax : Nat → St} {s : St} {iv : Value} (ha : a < 3) (hiv : iv = .int .i64 ((a + 1 : Nat) : Int)) (hA : Blk wr q8 34 (AN 21 (axC ax))) (hAI : ∀ a, a < 3 → (ax a).In) (hR : RB wr gr R) (hB : Below w.heap.size w wr) (hs : s.In) (hq : w.heap.size ≤ q8) (hne : gr ≠ q8) :
    UaRel w gr q8 R iv (wr.setCells q8 (a * 7) (stL s)) := by
  have hg := grown_setCells q8 (stL s) (a * 7) wr
  refine ⟨a + 1, upd ax a s, hiv, ha, axC_put hA ha s, fun j hj => ?_, Blk.grown hR hg (by intro e; exact hne (Option.some.inj e)), hB.grown hg hB.size (fun j hj => by cases hj; exact hq)⟩
  by_cases e : j = a
  · subst e; rw [upd_same]; exact hs
  · rw [upd_far _ _ e]; exact hAI j hj
theorem axC_one (ax : Nat → St) : (AN 21 (axC ax)).all (·.oneCell') = true := AN_one fun i hi => stc_one _ _
theorem axL_one' (n : Nd) : ((axL n).toArray).all (·.oneCell') = true := by rw [axC_zero]; exact axC_one _
theorem he_axs (n : Nd) (va : Value) (ax : Nat → St) : ∀ i, i < 74 → ({ n with ax := ax } : Nd).c va i = if 6 ≤ i ∧ i < 6 + (AN 21 (axC ax)).toList.length then (AN 21 (axC ax)).toList.getD (i - 6) undef else n.c va i := by
  intro i hi
  rw [Array.length_toList, AN_size]
  by_cases h : 6 ≤ i ∧ i < 6 + 21
  · rw [if_pos h, c_ax h.1 (by omega), AN_getD0 (by omega)]; rfl
  · rw [if_neg h]; exact c_ax_out n ax va i (by omega)
set_option maxRecDepth 100000 in
set_option maxHeartbeats 4000000 in
theorem unpack_any (n : Nd) (va : Value) (g : Nat) (A : Option Addr) (c : Nat) (l : List Int) (w : World) (hN : NB w g n va) (hnc : 24 ≤ c) (hI : Ints w .i64 A 24 l) (hl : ∀ z ∈ l, In64 z) (hin : ∀ a, a < 3 → (n.ax a).In) :
    Calls Try.prog 63 #[.pointer (some ⟨g, 0, none⟩), .slice A 24 c] w (UpPost n va g w) := by
  obtain ⟨b, off, rfl, hlt, hc⟩ := hI.2 (by omega)
  have hN0 := Lib.hid hN
  have HC := Lib.hid (fun W (hb : Below w.heap.size w W) j (hj : j < 24) => (hb.cell (p := ⟨b, off + j, none⟩) hlt).trans (hc j hj))
  have hR : RB (w.alloc (.cells (rollC R0) 38)) w.heap.size R0 := Blk.new _ _ _
  have HR := Lib.hid hR
  have HII := Lib.hid hI
  have hB1 : Below w.heap.size w (w.alloc (.cells (rollC R0) 38)) := (Below.refl _ _).alloc (Nat.le_refl _) _
  have HB1 := Lib.hid hB1
  have c21 := fun o => HC.out _ ((Below.refl w.heap.size w).alloc (Nat.le_refl _) o) 21 (by omega)
  have c22 := fun o => HC.out _ ((Below.refl w.heap.size w).alloc (Nat.le_refl _) o) 22 (by omega)
  have c23 := fun o => HC.out _ ((Below.refl w.heap.size w).alloc (Nat.le_refl _) o) 23 (by omega)
  have HIN := Lib.hid hin
  have HL := Lib.hid hl
  have hli : ∀ j, In64 (l.getD j 0) := fun j => getD_in zero64 hl j
  have HLI := Lib.hid hli
  clear hN hI hc hR hB1 hl hin hli
  obtain ⟨z1, ez1⟩ : ∃ z, l.getD 21 0 = z := ⟨_, rfl⟩
  obtain ⟨z2, ez2⟩ : ∃ z, l.getD 22 0 = z := ⟨_, rfl⟩
  obtain ⟨z3, ez3⟩ : ∃ z, l.getD 23 0 = z := ⟨_, rfl⟩
  simp only [ez1] at c21
  simp only [ez2] at c22
  simp only [ez3] at c23
  have EZ1 := Lib.hid ez1
  have EZ2 := Lib.hid ez2
  have EZ3 := Lib.hid ez3
  clear ez1 ez2 ez3
  go_enter Try.func63, Try.ntmps63
  have hng := Blk.lt hN0.out
  go_upto_region 3 with fail
  cases b1 : (z1 / 16 != 0) with
  | true =>
    go_wp2_with (first | go_big_skip)
    go_ret
    exact UpPost.keep hN0.out HB1.out false
  | false =>
    cases b2 : (z2 / 4096 != 0) with
    | true =>
      go_wp2_with (first | go_big_skip)
      go_ret
      exact UpPost.keep hN0.out HB1.out false
    | false =>
      cases b3 : (z3 / 4096 != 0) with
      | true =>
        go_wp2_with (first | go_big_skip)
        go_ret
        exact UpPost.keep hN0.out HB1.out false
      | false =>
        go_upto_region 6 with fail
        have hS : Hid (UrRel w w.heap.size (.int .i64 0) (w.alloc (.cells (rollC R0) 38))) := ⟨0, R0, rfl, by omega, HR.out, fun k hk => ⟨zero64, zero64⟩, HB1.out⟩
        clear c21 c22 c23 HR b1 b2 b3
        go_loopw [38] (fun iv wr => UrRel w w.heap.size iv wr) (fun iv _ => 4 - (intOf iv).toNat)
        case atStart => exact hS.out
        case round =>
          clear hS
          obtain ⟨i, R, rfl, hi4, hR, hRI, hB⟩ := hrel
          have HB := Lib.hid hB
          have HRI := Lib.hid hRI
          have HR := Lib.hid hR
          by_cases hi : i < 4
          · have c21 := HC.out _ hB 21 (by omega)
            have c22 := HC.out _ hB 22 (by omega)
            have c23 := HC.out _ hB 23 (by omega)
            rw [EZ1.out] at c21
            rw [EZ2.out] at c22
            rw [EZ3.out] at c23
            have k0 := Blk.cell hR 0
            have k1 := Blk.cell hR 1
            have k2 := Blk.cell hR 2
            have k3 := Blk.cell hR 3
            have k4 := Blk.cell hR 4
            have k5 := Blk.cell hR 5
            have k6 := Blk.cell hR 6
            have k7 := Blk.cell hR 7
            have k8 := Blk.cell hR 8
            have k9 := Blk.cell hR 9
            have k10 := Blk.cell hR 10
            have k11 := Blk.cell hR 11
            (simp only [rollC, List.getElem?_toArray, List.getElem?_cons_zero, List.getElem?_cons_succ] at k0 k1 k2 k3 k4 k5 k6 k7 k8 k9 k10 k11)
            have kf := fun o => Blk.frozen hR o
            clear hB hRI hR
            have hcase : i = 0 ∨ i = 1 ∨ i = 2 ∨ i = 3 := by omega
            rcases hcase with rfl | rfl | rfl | rfl
            · go_wp2_with fail
              go_roundw
              case rel =>
                exact UrRel.put (i := 0) (by decide) rfl HR.out HRI.out HB.out (Nat.le_refl _) (bits64_in _ _ _) (bits64_in _ _ _)
              case measure => simp [intOf]
            · go_wp2_with fail
              go_roundw
              case rel =>
                exact UrRel.put (i := 1) (by decide) rfl HR.out HRI.out HB.out (Nat.le_refl _) (bits64_in _ _ _) (bits64_in _ _ _)
              case measure => simp [intOf]
            · go_wp2_with fail
              go_roundw
              case rel =>
                exact UrRel.put (i := 2) (by decide) rfl HR.out HRI.out HB.out (Nat.le_refl _) (bits64_in _ _ _) (bits64_in _ _ _)
              case measure => simp [intOf]
            · go_wp2_with fail
              go_roundw
              case rel =>
                exact UrRel.put (i := 3) (by decide) rfl HR.out HRI.out HB.out (Nat.le_refl _) (bits64_in _ _ _) (bits64_in _ _ _)
              case measure => simp [intOf]
          · obtain rfl : i = 4 := by omega
            clear hB hRI hR
            by_cases hgd : Mb.Good R
            · have KG := Lib.hid ((good_any R wr).mono fun e w' (h : SaysGood R wr e w') => show e = .returned (.bool true) ∧ Below wr.heap.size wr w' from by obtain ⟨b, he, hb, hB⟩ := h; rw [hb.2 hgd] at he; exact ⟨he, hB⟩)
              clear hgd
              have hb0 := HB.out
              have HNw := Lib.hid (hN0.out.next hb0)
              go_upto_region 16 with (first
                | (refine wpList_load_at 38 (.tmp 5) rfl rfl w.heap.size rfl _ (rollC R) _ HR.out Try.underlying38 rfl info12r ?_)
                | (go_at_call 14; (with_reducible refine KG.out.mono ?_); rintro e w3 ⟨rfl, hb2⟩; have HB2 := Lib.hid hb2; clear hb2)
                | (refine wpList_load_mid rfl 34 (.tmp 87) rfl g 6 rfl (axL n) _ (HNw.out.next HB2.out).axR Try.underlying34 rfl info21 ?_)
                | (refine wpList_store_at 34 (.tmp 8) (.tmp 88) rfl rfl w3.heap.size _ _ (axL n).toArray rfl rfl (Blk.new _ _ _) rfl info21 (axL_one' n) ?_; intro w5 hN5 hg5; have HN5 := Lib.hid hN5; have HG5 := Lib.hid hg5; clear hN5 hg5))
              have hs3 : wr.heap.size ≤ w3.heap.size := HB2.out.size
              have hws := hb0.size
              have hgr0 : w.heap.size < wr.heap.size := Blk.lt HR.out
              have hb3 : Below w.heap.size w w3 := hb0.trans (HB2.out.mono hws)
              have hb5 : Below w.heap.size w w5 := (hb3.alloc hb3.size _).grown HG5.out (by simp; omega) (fun j hj => by cases hj; omega)
              have hr5 : RB w5 w.heap.size R := Blk.grown ((Blk.next HR.out HB2.out).alloc _) HG5.out (by intro e; have := Option.some.inj e; omega)
              rw [axC_zero] at HN5
              have hS2 : Hid (UaRel w w.heap.size w3.heap.size R (.int .i64 0) w5) := ⟨0, n.ax, rfl, by omega, HN5.out, HIN.out, hr5, hb5⟩
              have hq8 : w.heap.size < w3.heap.size := by omega
              obtain ⟨q8, hq8e⟩ : ∃ q8, w3.heap.size = q8 := ⟨_, rfl⟩
              rw [hq8e] at hS2 hq8 ⊢
              have HRI2 := Lib.hid HRI.out
              clear hs3 hws hgr0 hb3 hb5 hr5 HN5 HG5 HB2 KG HNw hb0 HR HB HRI hq8e
              go_loopw [89] (fun iv wr => UaRel w w.heap.size q8 R iv wr) (fun iv _ => 3 - (intOf iv).toNat)
              case atStart => exact hS2.out
              case round =>
                clear hS2
                obtain ⟨a, ax, rfl, ha3, hA, hAI, hR, hB⟩ := hrel
                have HA := Lib.hid hA
                have HAI := Lib.hid hAI
                have HR := Lib.hid hR
                have HB := Lib.hid hB
                have hi24 := HII.out.next hB
                clear hA hAI hR hB
                by_cases ha : a < 3
                · obtain ⟨i0, hi0, hz0, hz1, hz2⟩ := info_parts infoInt4
                  obtain ⟨A', hcut, hAn, hI7⟩ := cut_from (kd := .i64) (k := 7 * a) (c := c) Try.underlying58 hi0 hz1 hi24 (fun e => by cases e) (by omega) hnc
                  obtain ⟨b', off', rfl, hlt', hc'⟩ := hI7.2 (by omega)
                  have hcut' : ∀ W : World, (Instr.slice 58 (.slice (some ⟨b, off, none⟩) 24 c) (some (.int .i64 (7 * (a : Int)))) none none).run Try.prog W = .ok (.slice (some ⟨b', off', none⟩) (24 - 7 * a) (c - 7 * a)) W := fun W => by have h := hcut W; rw [show ((7 * a : Nat) : Int) = 7 * (a : Int) by omega] at h; exact h
                  have hpin : ∀ j, In64 ((l.drop (7 * a)).getD j 0) := fun j => getD_in zero64 (fun z hz => HL.out z (List.mem_of_mem_drop hz)) j
                  have HPIN := Lib.hid hpin
                  have HC' := Lib.hid hc'
                  obtain ⟨nl, hnl⟩ : ∃ nl, nl = 24 - 7 * a := ⟨_, rfl⟩
                  have hnl3 : 10 ≤ nl := by omega
                  rw [← hnl] at hcut'
                  clear hnl
                  have n0 : 0 < nl := by omega
                  have n1 : (1 : Int) < (nl : Int) := by omega
                  have n2 : (2 : Int) < (nl : Int) := by omega
                  have n3 : (3 : Int) < (nl : Int) := by omega
                  have n4 : (4 : Int) < (nl : Int) := by omega
                  have y0 := hc' 0 (by omega)
                  have y1 := hc' 1 (by omega)
                  have y2 := hc' 2 (by omega)
                  have y3 := hc' 3 (by omega)
                  have y4 := hc' 4 (by omega)
                  have y5 := hc' 5 (by omega)
                  have y6 := hc' 6 (by omega)
                  clear hcut hAn hI7 hc' hpin hi24
                  have q0 : (a : Int) < 3 := by omega
                  have q1 : (0 : Int) ≤ (a : Int) := by omega
                  have q2 : (5 : Int) < (nl : Int) := by omega
                  have q3 : (6 : Int) < (nl : Int) := by omega
                  obtain ⟨p, hp⟩ : ∃ p : Nat → Int, p = fun j => (l.drop (7 * a)).getD j 0 := ⟨_, rfl⟩
                  have hpj : ∀ j, (l.drop (7 * a)).getD j 0 = p j := fun j => by rw [hp]
                  simp only [hpj] at y0 y1 y2 y3 y4 y5 y6 HPIN
                  clear hp hpj HC'
                  simp only [Nat.add_zero] at y0
                  have HY0 := Lib.hid (fun W (h : Below wr.heap.size wr W) => (h.cell (p := ⟨b', off', none⟩) hlt').trans y0)
                  have HY1 := Lib.hid (fun W (h : Below wr.heap.size wr W) => (h.cell (p := ⟨b', off' + 1, none⟩) hlt').trans y1)
                  have HY2 := Lib.hid (fun W (h : Below wr.heap.size wr W) => (h.cell (p := ⟨b', off' + 2, none⟩) hlt').trans y2)
                  have HY3 := Lib.hid (fun W (h : Below wr.heap.size wr W) => (h.cell (p := ⟨b', off' + 3, none⟩) hlt').trans y3)
                  have HY4 := Lib.hid (fun W (h : Below wr.heap.size wr W) => (h.cell (p := ⟨b', off' + 4, none⟩) hlt').trans y4)
                  have HY5 := Lib.hid (fun W (h : Below wr.heap.size wr W) => (h.cell (p := ⟨b', off' + 5, none⟩) hlt').trans y5)
                  have HY6 := Lib.hid (fun W (h : Below wr.heap.size wr W) => (h.cell (p := ⟨b', off' + 6, none⟩) hlt').trans y6)
                  cases c0 : (p 5 != 0) with
                  | false =>
                    go_upto_region 21 with (first | go_big_skip)
                    have HB3 := Lib.hid (Below.refl wr.heap.size wr)
                    refine wp_region_G 25 (fun w' => Below wr.heap.size wr w') (by kernel_rfl) ((Below.refl _ _).drew) (fun hS => ?_)
                    refine wpG 0 ?_ rfl (by kernel_rfl) (fun _ _ _ h => h) (by rfl) (fun wx => ?_) hS ?_
                    rotate_left
                    · go_simp; (try with_reducible rfl)
                    try simp only [pts]
                    refine wpG 1 ?_ rfl (by kernel_rfl) (fun _ _ _ h => h) (by rfl) (fun wx => ?_) hS ?_
                    rotate_left
                    · go_simp; (try with_reducible rfl)
                    try simp only [pts]
                    refine wpG 2 ?_ rfl (by kernel_rfl) (fun _ _ _ h => h) (by rfl) (fun wx => ?_) hS ?_
                    rotate_left
                    · go_simp; (try with_reducible rfl)
                    try simp only [pts]
                    refine wpT 3 ?_ rfl (by kernel_rfl) (fun _ _ _ h => h) (Or.inl ⟨by rfl, fun wx hSw => ?_⟩) hS ?_
                    rotate_left
                    · have hq := HY0.out _ hSw; (try dsimp only at hSw); go_simp; (try with_reducible rfl)
                    try simp only [pts]
                    refine wpG 4 ?_ rfl (by kernel_rfl) (fun _ _ _ h => h) (by rfl) (fun wx => ?_) hS ?_
                    rotate_left
                    · go_simp; (try with_reducible rfl)
                    try simp only [pts]
                    refine wpG 5 ?_ rfl (by kernel_rfl) (fun _ _ _ h => h) (by rfl) (fun wx => ?_) hS ?_
                    rotate_left
                    · go_simp; (try with_reducible rfl)
                    try simp only [pts]
                    refine wpT 6 ?_ rfl (by kernel_rfl) (fun _ _ _ h => h) (Or.inl ⟨by rfl, fun wx hSw => ?_⟩) hS ?_
                    rotate_left
                    · have hq := HY1.out _ hSw; (try dsimp only at hSw); go_simp; (try with_reducible rfl)
                    try simp only [pts]
                    refine wpG 7 ?_ rfl (by kernel_rfl) (fun _ _ _ h => h) (by rfl) (fun wx => ?_) hS ?_
                    rotate_left
                    · go_simp; (try with_reducible rfl)
                    try simp only [pts]
                    refine wpG 8 ?_ rfl (by kernel_rfl) (fun _ _ _ h => h) (by rfl) (fun wx => ?_) hS ?_
                    rotate_left
                    · go_simp; (try with_reducible rfl)
                    try simp only [pts]
                    refine wpT 9 ?_ rfl (by kernel_rfl) (fun _ _ _ h => h) (Or.inl ⟨by rfl, fun wx hSw => ?_⟩) hS ?_
                    rotate_left
                    · have hq := HY2.out _ hSw; (try dsimp only at hSw); go_simp; (try with_reducible rfl)
                    try simp only [pts]
                    refine wpG 10 ?_ rfl (by kernel_rfl) (fun _ _ _ h => h) (by rfl) (fun wx => ?_) hS ?_
                    rotate_left
                    · go_simp; (try with_reducible rfl)
                    try simp only [pts]
                    refine wpG 11 ?_ rfl (by kernel_rfl) (fun _ _ _ h => h) (by rfl) (fun wx => ?_) hS ?_
                    rotate_left
                    · go_simp; (try with_reducible rfl)
                    try simp only [pts]
                    refine wpT 12 ?_ rfl (by kernel_rfl) (fun _ _ _ h => h) (Or.inl ⟨by rfl, fun wx hSw => ?_⟩) hS ?_
                    rotate_left
                    · have hq := HY3.out _ hSw; (try dsimp only at hSw); go_simp; (try with_reducible rfl)
                    try simp only [pts]
                    refine wpG 13 ?_ rfl (by kernel_rfl) (fun _ _ _ h => h) (by rfl) (fun wx => ?_) hS ?_
                    rotate_left
                    · go_simp; (try with_reducible rfl)
                    try simp only [pts]
                    refine wpG 14 ?_ rfl (by kernel_rfl) (fun _ _ _ h => h) (by rfl) (fun wx => ?_) hS ?_
                    rotate_left
                    · go_simp; (try with_reducible rfl)
                    try simp only [pts]
                    refine wpT 15 ?_ rfl (by kernel_rfl) (fun _ _ _ h => h) (Or.inl ⟨by rfl, fun wx hSw => ?_⟩) hS ?_
                    rotate_left
                    · have hq := HY4.out _ hSw; (try dsimp only at hSw); go_simp; (try with_reducible rfl)
                    try simp only [pts]
                    refine wpG 16 ?_ rfl (by kernel_rfl) (fun _ _ _ h => h) (by rfl) (fun wx => ?_) hS ?_
                    rotate_left
                    · go_simp; (try with_reducible rfl)
                    try simp only [pts]
                    refine wpG 17 ?_ rfl (by kernel_rfl) (fun _ _ _ h => h) (by rfl) (fun wx => ?_) hS ?_
                    rotate_left
                    · go_simp; (try with_reducible rfl)
                    try simp only [pts]
                    refine wpT 18 ?_ rfl (by kernel_rfl) (fun _ _ _ h => h) (Or.inl ⟨by rfl, fun wx hSw => ?_⟩) hS ?_
                    rotate_left
                    · have hq := HY5.out _ hSw; (try dsimp only at hSw); go_simp; (try with_reducible rfl)
                    try simp only [pts]
                    refine wpG 19 ?_ rfl (by kernel_rfl) (fun _ _ _ h => h) (by rfl) (fun wx => ?_) hS ?_
                    rotate_left
                    · go_simp; (try with_reducible rfl)
                    try simp only [pts]
                    refine wpG 20 ?_ rfl (by kernel_rfl) (fun _ _ _ h => h) (by rfl) (fun wx => ?_) hS ?_
                    rotate_left
                    · go_simp; (try with_reducible rfl)
                    try simp only [pts]
                    refine wpG 21 ?_ rfl (by kernel_rfl) (fun _ _ _ h => h) (by rfl) (fun wx => ?_) hS ?_
                    rotate_left
                    · go_simp; (try with_reducible rfl)
                    try simp only [pts]
                    refine wpT 22 ?_ rfl (by kernel_rfl) (fun _ _ _ h => h) (Or.inl ⟨by rfl, fun wx hSw => ?_⟩) hS ?_
                    rotate_left
                    · have hq := HY6.out _ hSw; (try dsimp only at hSw); go_simp; (try with_reducible rfl)
                    try simp only [pts]
                    refine wpG 23 ?_ rfl (by kernel_rfl) (fun _ _ _ h => h) (by rfl) (fun wx => ?_) hS ?_
                    rotate_left
                    · go_simp; (try with_reducible rfl)
                    try simp only [pts]
                    refine wpG 24 ?_ rfl (by kernel_rfl) (fun _ _ _ h => h) (by rfl) (fun wx => ?_) hS ?_
                    rotate_left
                    · go_simp; (try with_reducible rfl)
                    try simp only [pts]
                    refine wpAnyG_last rfl (by kernel_rfl) (by kernel_rfl) (by kernel_rfl) (fun K hK => ?_)
                    rw [if_pos (by rfl)]
                    refine wp_store_mid 33 (.tmp 130) (.tmp 129) rfl q8 (a * 7) (stL (⟨p 0, p 1, p 2, p 3, p 4, (p 5 == 1), p 6⟩ : St)).toArray rfl rfl (axC_there (HA.out.next hS) (by show a * 7 + 7 ≤ 21; omega)) info7 (stL_one _) ?_
                    refine hK.out _ _ ?_
                    clear hK K
                    try simp only [pts]
                    have HBS := Lib.hid hS
                    clear hS
                    go_wp2_with fail
                    go_roundw
                    case rel => exact UaRel.put (s := (⟨p 0, p 1, p 2, p 3, p 4, (p 5 == 1), p 6⟩ : St)) ha (by go_num) (HA.out.next HBS.out) HAI.out (RB.next HR.out HBS.out) (HB.out.trans (HBS.out.mono HB.out.size)) ⟨HPIN.out 0, HPIN.out 1, HPIN.out 2, HPIN.out 3, HPIN.out 4, HPIN.out 6⟩ (by omega) (by omega)
                    case measure => simp [intOf]; omega
                  | true =>
                    cases c1 : (p 5 != 1) with
                    | false =>
                      go_upto_region 21 with (first | go_big_skip)
                      have HB3 := Lib.hid (Below.refl wr.heap.size wr)
                      refine wp_region_G 25 (fun w' => Below wr.heap.size wr w') (by kernel_rfl) ((Below.refl _ _).drew) (fun hS => ?_)
                      refine wpG 0 ?_ rfl (by kernel_rfl) (fun _ _ _ h => h) (by rfl) (fun wx => ?_) hS ?_
                      rotate_left
                      · go_simp; (try with_reducible rfl)
                      try simp only [pts]
                      refine wpG 1 ?_ rfl (by kernel_rfl) (fun _ _ _ h => h) (by rfl) (fun wx => ?_) hS ?_
                      rotate_left
                      · go_simp; (try with_reducible rfl)
                      try simp only [pts]
                      refine wpG 2 ?_ rfl (by kernel_rfl) (fun _ _ _ h => h) (by rfl) (fun wx => ?_) hS ?_
                      rotate_left
                      · go_simp; (try with_reducible rfl)
                      try simp only [pts]
                      refine wpT 3 ?_ rfl (by kernel_rfl) (fun _ _ _ h => h) (Or.inl ⟨by rfl, fun wx hSw => ?_⟩) hS ?_
                      rotate_left
                      · have hq := HY0.out _ hSw; (try dsimp only at hSw); go_simp; (try with_reducible rfl)
                      try simp only [pts]
                      refine wpG 4 ?_ rfl (by kernel_rfl) (fun _ _ _ h => h) (by rfl) (fun wx => ?_) hS ?_
                      rotate_left
                      · go_simp; (try with_reducible rfl)
                      try simp only [pts]
                      refine wpG 5 ?_ rfl (by kernel_rfl) (fun _ _ _ h => h) (by rfl) (fun wx => ?_) hS ?_
                      rotate_left
                      · go_simp; (try with_reducible rfl)
                      try simp only [pts]
                      refine wpT 6 ?_ rfl (by kernel_rfl) (fun _ _ _ h => h) (Or.inl ⟨by rfl, fun wx hSw => ?_⟩) hS ?_
                      rotate_left
                      · have hq := HY1.out _ hSw; (try dsimp only at hSw); go_simp; (try with_reducible rfl)
                      try simp only [pts]
                      refine wpG 7 ?_ rfl (by kernel_rfl) (fun _ _ _ h => h) (by rfl) (fun wx => ?_) hS ?_
                      rotate_left
                      · go_simp; (try with_reducible rfl)
                      try simp only [pts]
                      refine wpG 8 ?_ rfl (by kernel_rfl) (fun _ _ _ h => h) (by rfl) (fun wx => ?_) hS ?_
                      rotate_left
                      · go_simp; (try with_reducible rfl)
                      try simp only [pts]
                      refine wpT 9 ?_ rfl (by kernel_rfl) (fun _ _ _ h => h) (Or.inl ⟨by rfl, fun wx hSw => ?_⟩) hS ?_
                      rotate_left
                      · have hq := HY2.out _ hSw; (try dsimp only at hSw); go_simp; (try with_reducible rfl)
                      try simp only [pts]
                      refine wpG 10 ?_ rfl (by kernel_rfl) (fun _ _ _ h => h) (by rfl) (fun wx => ?_) hS ?_
                      rotate_left
                      · go_simp; (try with_reducible rfl)
                      try simp only [pts]
                      refine wpG 11 ?_ rfl (by kernel_rfl) (fun _ _ _ h => h) (by rfl) (fun wx => ?_) hS ?_
                      rotate_left
                      · go_simp; (try with_reducible rfl)
                      try simp only [pts]
                      refine wpT 12 ?_ rfl (by kernel_rfl) (fun _ _ _ h => h) (Or.inl ⟨by rfl, fun wx hSw => ?_⟩) hS ?_
                      rotate_left
                      · have hq := HY3.out _ hSw; (try dsimp only at hSw); go_simp; (try with_reducible rfl)
                      try simp only [pts]
                      refine wpG 13 ?_ rfl (by kernel_rfl) (fun _ _ _ h => h) (by rfl) (fun wx => ?_) hS ?_
                      rotate_left
                      · go_simp; (try with_reducible rfl)
                      try simp only [pts]
                      refine wpG 14 ?_ rfl (by kernel_rfl) (fun _ _ _ h => h) (by rfl) (fun wx => ?_) hS ?_
                      rotate_left
                      · go_simp; (try with_reducible rfl)
                      try simp only [pts]
                      refine wpT 15 ?_ rfl (by kernel_rfl) (fun _ _ _ h => h) (Or.inl ⟨by rfl, fun wx hSw => ?_⟩) hS ?_
                      rotate_left
                      · have hq := HY4.out _ hSw; (try dsimp only at hSw); go_simp; (try with_reducible rfl)
                      try simp only [pts]
                      refine wpG 16 ?_ rfl (by kernel_rfl) (fun _ _ _ h => h) (by rfl) (fun wx => ?_) hS ?_
                      rotate_left
                      · go_simp; (try with_reducible rfl)
                      try simp only [pts]
                      refine wpG 17 ?_ rfl (by kernel_rfl) (fun _ _ _ h => h) (by rfl) (fun wx => ?_) hS ?_
                      rotate_left
                      · go_simp; (try with_reducible rfl)
                      try simp only [pts]
                      refine wpT 18 ?_ rfl (by kernel_rfl) (fun _ _ _ h => h) (Or.inl ⟨by rfl, fun wx hSw => ?_⟩) hS ?_
                      rotate_left
                      · have hq := HY5.out _ hSw; (try dsimp only at hSw); go_simp; (try with_reducible rfl)
                      try simp only [pts]
                      refine wpG 19 ?_ rfl (by kernel_rfl) (fun _ _ _ h => h) (by rfl) (fun wx => ?_) hS ?_
                      rotate_left
                      · go_simp; (try with_reducible rfl)
                      try simp only [pts]
                      refine wpG 20 ?_ rfl (by kernel_rfl) (fun _ _ _ h => h) (by rfl) (fun wx => ?_) hS ?_
                      rotate_left
                      · go_simp; (try with_reducible rfl)
                      try simp only [pts]
                      refine wpG 21 ?_ rfl (by kernel_rfl) (fun _ _ _ h => h) (by rfl) (fun wx => ?_) hS ?_
                      rotate_left
                      · go_simp; (try with_reducible rfl)
                      try simp only [pts]
                      refine wpT 22 ?_ rfl (by kernel_rfl) (fun _ _ _ h => h) (Or.inl ⟨by rfl, fun wx hSw => ?_⟩) hS ?_
                      rotate_left
                      · have hq := HY6.out _ hSw; (try dsimp only at hSw); go_simp; (try with_reducible rfl)
                      try simp only [pts]
                      refine wpG 23 ?_ rfl (by kernel_rfl) (fun _ _ _ h => h) (by rfl) (fun wx => ?_) hS ?_
                      rotate_left
                      · go_simp; (try with_reducible rfl)
                      try simp only [pts]
                      refine wpG 24 ?_ rfl (by kernel_rfl) (fun _ _ _ h => h) (by rfl) (fun wx => ?_) hS ?_
                      rotate_left
                      · go_simp; (try with_reducible rfl)
                      try simp only [pts]
                      refine wpAnyG_last rfl (by kernel_rfl) (by kernel_rfl) (by kernel_rfl) (fun K hK => ?_)
                      rw [if_pos (by rfl)]
                      refine wp_store_mid 33 (.tmp 130) (.tmp 129) rfl q8 (a * 7) (stL (⟨p 0, p 1, p 2, p 3, p 4, (p 5 == 1), p 6⟩ : St)).toArray rfl rfl (axC_there (HA.out.next hS) (by show a * 7 + 7 ≤ 21; omega)) info7 (stL_one _) ?_
                      refine hK.out _ _ ?_
                      clear hK K
                      try simp only [pts]
                      have HBS := Lib.hid hS
                      clear hS
                      go_wp2_with fail
                      go_roundw
                      case rel => exact UaRel.put (s := (⟨p 0, p 1, p 2, p 3, p 4, (p 5 == 1), p 6⟩ : St)) ha (by go_num) (HA.out.next HBS.out) HAI.out (RB.next HR.out HBS.out) (HB.out.trans (HBS.out.mono HB.out.size)) ⟨HPIN.out 0, HPIN.out 1, HPIN.out 2, HPIN.out 3, HPIN.out 4, HPIN.out 6⟩ (by omega) (by omega)
                      case measure => simp [intOf]; omega
                    | true =>
                      go_wp2_with (first | go_big_skip)
                      go_ret
                      exact UpPost.keep hN0.out HB.out false
                · obtain rfl : a = 3 := by omega
                  go_upto_region 23 with fail
                  have hNB := hN0.out.next HB.out
                  have hgl := Blk.lt hN0.out
                  refine wp_region_G 9 (fun w' => Blk w' q8 34 (AN 21 (axC ax)) ∧ RB w' w.heap.size R) (by kernel_rfl) (⟨HA.out.next (Below.refl _ _).drew, RB.next HR.out (Below.refl _ _).drew⟩) (fun hS => ?_)
                  refine wpG 0 ?_ rfl (by kernel_rfl) (fun _ _ _ h => h) (by rfl) (fun wx => ?_) hS ?_
                  rotate_left
                  · go_simp; (try with_reducible rfl)
                  try simp only [pts]
                  refine wpG 1 ?_ rfl (by kernel_rfl) (fun _ _ _ h => h) (by rfl) (fun wx => ?_) hS ?_
                  rotate_left
                  · go_simp; (try with_reducible rfl)
                  try simp only [pts]
                  refine wpT 2 (.agg (AN 21 (axC ax))) rfl (by kernel_rfl) (fun _ _ _ h => h) (Or.inl ⟨by rfl, fun wx hSw => exec_load_row 34 (.tmp 8) rfl q8 rfl _ _ _ hSw.1 Try.underlying34 rfl (by rw [AN_size]; exact info21)⟩) hS ?_
                  try simp only [pts]
                  refine wpT 3 (.agg (rollC R)) rfl (by kernel_rfl) (fun _ _ _ h => h) (Or.inl ⟨by rfl, fun wx hSw => exec_load_row 38 (.tmp 5) rfl w.heap.size rfl _ _ _ hSw.2 Try.underlying38 rfl info12r⟩) hS ?_
                  try simp only [pts]
                  refine wpG 4 ?_ rfl (by kernel_rfl) (fun _ _ _ h => h) (by rfl) (fun wx => ?_) hS ?_
                  rotate_left
                  · go_simp; (try with_reducible rfl)
                  try simp only [pts]
                  refine wpG 5 ?_ rfl (by kernel_rfl) (fun _ _ _ h => h) (by rfl) (fun wx => ?_) hS ?_
                  rotate_left
                  · go_simp; (try with_reducible rfl)
                  try simp only [pts]
                  refine wpAnyG_one (i := 6) rfl (by kernel_rfl) (fun K hK => ?_)
                  rw [if_pos (by rfl)]
                  refine wp_store_nb 34 (.tmp 137) (.tmp 134) rfl g 6 (AN 21 (axC ax)) n { n with ax := ax } va va rfl rfl (hNB.next (Below.refl _ _).drew) (by rw [AN_size]; omega) (by rw [AN_size]; exact info21) (axC_one ax) (he_axs n va ax) (fun w6 hN6 hg6 => ?_)
                  have hS6 : Blk w6 q8 34 (AN 21 (axC ax)) ∧ RB w6 w.heap.size R := ⟨hS.1.grown hg6 (by intro e; have := Option.some.inj e; omega), Blk.grown hS.2 hg6 (by intro e; have := Option.some.inj e; omega)⟩
                  refine hK.out _ _ hS6 ?_
                  clear hK K hS
                  have hS := hS6
                  try simp only [pts]
                  refine wpG 7 ?_ rfl (by kernel_rfl) (fun _ _ _ h => h) (by rfl) (fun wx => ?_) hS ?_
                  rotate_left
                  · go_simp; (try with_reducible rfl)
                  try simp only [pts]
                  refine wpG 8 ?_ rfl (by kernel_rfl) (fun _ _ _ h => h) (by rfl) (fun wx => ?_) hS ?_
                  rotate_left
                  · go_simp; (try with_reducible rfl)
                  try simp only [pts]
                  refine wpAnyG_last rfl (by kernel_rfl) (by kernel_rfl) (by kernel_rfl) (fun K hK => ?_)
                  rw [if_pos (by rfl)]
                  refine wp_store_nb 38 (.tmp 139) (.tmp 135) rfl g 27 (rollC R) { n with ax := ax } { n with ax := ax, ro := R } va va rfl rfl hN6 (show 27 + 12 ≤ 74 by decide) info12r (rollC_one R) (he_roll { n with ax := ax } va R) (fun w7 hN7 hg7 => ?_)
                  refine hK.out _ _ ?_
                  clear hK K
                  try simp only [pts]
                  have hgw : w.grownBy w7 (some g) := grown_trans (grown_below HB.out.drew) (grown_trans hg6 hg7)
                  have HGW := Lib.hid hgw
                  have HN7 := Lib.hid hN7
                  have HAI2 := Lib.hid HAI.out
                  clear hgw hN7 hg7 hN6 hg6 hS hNB
                  go_wp2_with fail
                  go_ret
                  exact ⟨true, _, rfl, HN7.out, HGW.out, ax, R, rfl, fun _ => HAI2.out, fun _ => HRI2.out⟩
            · have KG := Lib.hid ((good_any R wr).mono fun e w' (h : SaysGood R wr e w') => show e = .returned (.bool false) ∧ Below wr.heap.size wr w' from by obtain ⟨b, he, hb, hB⟩ := h; cases b with | true => exact absurd (hb.1 rfl) hgd | false => exact ⟨he, hB⟩)
              clear hgd
              go_wp2_with (first
                | (refine wpList_load_at 38 (.tmp 5) rfl rfl w.heap.size rfl _ (rollC R) _ HR.out Try.underlying38 rfl info12r ?_)
                | (go_at_call 14; (with_reducible refine KG.out.mono ?_); rintro e w3 ⟨rfl, hb2⟩; have HB2 := Lib.hid hb2; clear hb2))
              go_ret
              exact UpPost.keep hN0.out (HB.out.trans (HB2.out.mono HB.out.size)) false
end Go.Proofs.Ytofeoeknmlkjgaa.Nk
end
