/- The contracts of vec.Length and Cross. -/
import Derived.Test.YtflaanfmanileaaVecEach
set_option linter.unusedVariables false
namespace Go.Proofs.Ytflaanfmanileaa
open Go.RowKit Fx
attribute [local go_sem ↓] Go.wp_at_zero Go.wp_at_succ

namespace Fx
def lenN (d : Int) : Int := if d < 0 then 0 else ((root (d.toNat * 4294967296) : Nat) : Int)
def lenO (d : Int) : Bool := decide (d < 0)
def cr (p q s t : Int) : Int := cl (cl (mulZ p q) - cl (mulZ s t))
def crO (p q s t : Int) : Bool := out (mulZ p q) || out (mulZ s t) || out (cl (mulZ p q) - cl (mulZ s t))
def crV (a b : V3) : V3 := ⟨cr a.y b.z a.z b.y, cr a.z b.x a.x b.z, cr a.x b.y a.y b.x⟩
def crVO (a b : V3) : Bool := crO a.y b.z a.z b.y || crO a.z b.x a.x b.z || crO a.x b.y a.y b.x
end Fx

set_option maxRecDepth 100000 in
set_option maxHeartbeats 2000000 in
theorem Length_any (a : V3) (ha : a.In) (w : World) :
    Calls Try.prog 33 #[a.val] w fun e w' => e = .returned (.tuple #[.int .i64 (lenN (cl (dot3 a a))), .bool (dotO a a || lenO (cl (dot3 a a)))]) ∧ Below w.heap.size w w' := by
  have K1 := fun g t W (h : Reck W g t) => Lib.hid (dot_any g a a t W ha ha h)
  have K2 : ∀ W, Hid (Calls Try.prog 45 #[.int .i64 (cl (dot3 a a))] W fun e w' => e = .returned (.tuple #[.int .i64 (lenN (cl (dot3 a a))), .bool (lenO (cl (dot3 a a)))]) ∧ w' = W) := by
    intro W
    have h := sqrt_any (cl (dot3 a a)) (In_cl _) W
    unfold lenN lenO
    by_cases hd : cl (dot3 a a) < 0
    · rw [if_pos hd] at h
      rw [if_pos hd, decide_eq_true hd]
      exact h
    · rw [if_neg hd] at h
      rw [if_neg hd, decide_eq_false hd]
      exact h
  unfold V3.val at K1 ⊢
  generalize lenN (cl (dot3 a a)) = n at *
  generalize lenO (cl (dot3 a a)) = o2 at *
  generalize cl (dot3 a a) = d at *
  generalize dotO a a = o at *
  clear ha
  obtain ⟨ax, ay, az⟩ := a
  simp only at K1 ⊢
  have hr : Reck ((w.alloc (.cells #[.int .i64 ax, .int .i64 ay, .int .i64 az] 23)).alloc (.cells #[.bool false] 79)) (w.heap.size + 1) false := Blk.at_ _ _ _ _ (by simp)
  have hb0 := (((Below.refl w.heap.size w).alloc (Nat.le_refl _) (.cells #[.int .i64 ax, .int .i64 ay, .int .i64 az] 23)).alloc (by simp) (.cells #[.bool false] 79))
  have HR := Lib.hid hr
  have HB := Lib.hid hb0
  clear hr hb0
  go_enter Try.func33, Try.ntmps33
  go_wp2_with fail
  refine ((K1 _ _ _ HR.out).out).mono ?_
  rintro e w1 ⟨rfl, hr1, hg1⟩
  go_wp2_with fail
  refine ((K2 _).out).mono ?_
  rintro e w2 ⟨rfl, rfl⟩
  go_wp2_with fail
  refine (see_any _ n _ o2 _ hr1).mono ?_
  rintro e w3 ⟨rfl, hr3, hg3⟩
  have c0 := Blk.cell hr3 0
  simp at c0
  have HB1 := Lib.hid ((HB.out.grown hg1 (by simp; omega) (fun j hj => by cases hj; omega)).grown hg3 (Nat.le_trans (by simp; omega) hg1.size) (fun j hj => by cases hj; omega))
  clear hr1 hg1 hr3 hg3
  go_wp2_with fail
  go_quiet (fail)
  go_wp2_with fail
  go_ret2
  exact ⟨rfl, HB1.out.trans (below_drewN _ _ _)⟩

set_option maxRecDepth 100000 in
set_option maxHeartbeats 4000000 in
/-- the closure of Cross: h holds the pointer to the reckoner -/
theorem two_any (g h : Nat) (p q s t : Int) (b : Bool) (w : World) (hp : In p) (hq : In q) (hs : In s) (ht : In t) (hr : Reck w g b) (hh : Blk w h 77 #[.pointer (some ⟨g, 0, none⟩)]) (hne : h ≠ g) :
    Calls Try.prog 71 #[.int .i64 p, .int .i64 q, .int .i64 s, .int .i64 t, .pointer (some ⟨h, 0, none⟩)] w fun e w' => e = .returned (.int .i64 (cr p q s t)) ∧ RStep w w' g (b || crO p q s t) := by
  have K1 := fun W t (h : Reck W g t) => Lib.hid (rmul_any g p q t W hp hq h)
  have K2 := fun W b (h : Reck W g b) => Lib.hid (rmul_any g s t b W hs ht h)
  have K3 := fun W t' (h : Reck W g t') => Lib.hid (rsub_any g (cl (mulZ p q)) (cl (mulZ s t)) t' W (In_cl _) (In_cl _) h)
  unfold cr crO
  generalize cl (mulZ p q) = m1 at *
  generalize out (mulZ p q) = o1 at *
  generalize cl (mulZ s t) = m2 at *
  generalize out (mulZ s t) = o2 at *
  generalize out (m1 - m2) = o3 at *
  generalize cl (m1 - m2) = d at *
  clear hp hq hs ht
  have hF := Blk.cell hh 0
  simp at hF
  have hlt := hh.lt
  have hG := grown_below (row := some g) ((Below.refl w.heap.size w).drew)
  have HR0 : Reck w.drew g b := hr
  have hS : ∀ w', w.grownBy w' (some g) → w'.cell? ⟨h, 0, none⟩ = some (.pointer (some ⟨g, 0, none⟩)) := fun w' hg => hg.cell hF (by simpa using hne)
  have HS := Lib.hid hS
  have hr' := HR0
  clear hr hh hF hS HR0
  go_enter Try.func71, Try.ntmps71
  go_upto_region 1 with fail
  go_region_held3 (fun w' => w'.cell? ⟨h, 0, none⟩ = some (.pointer (some ⟨g, 0, none⟩))) (exact HS.out _ hG)
    (first | (go_at_call 73; (with_reducible refine (Hid.out (K1 _ _ hr')).mono ?_); rintro e w1 ⟨rfl, hr1, hg1⟩; have hG1 := grown_trans hG hg1; clear hr' hG; have hr' := hr1; have hG := hG1; clear hr1 hG1 hg1) | (go_at_call 73; (with_reducible refine (Hid.out (K2 _ _ hr')).mono ?_); rintro e w1 ⟨rfl, hr1, hg1⟩; have hG1 := grown_trans hG hg1; clear hr' hG; have hr' := hr1; have hG := hG1; clear hr1 hG1 hg1) | (go_at_call 72; (with_reducible refine (Hid.out (K3 _ _ hr')).mono ?_); rintro e w1 ⟨rfl, hr1, hg1⟩; have hG1 := grown_trans hG hg1; clear hr' hG; have hr' := hr1; have hG := hG1; clear hr1 hG1 hg1))
  go_wp2_with fail
  go_ret
  refine ⟨rfl, ?_, hG⟩
  rw [← Bool.or_assoc, ← Bool.or_assoc]
  exact hr'

/-- the five blocks of Cross, at a world on the way -/
def Fr5 (w : World) (ax ay az bx by_ bz : Int) (t : Bool) (W : World) : Prop :=
  Fr4 w ax ay az bx by_ bz t W ∧ Blk W (w.heap.size + 1 + 1 + 1 + 1) 77 #[.pointer (some ⟨w.heap.size + 1 + 1 + 1, 0, none⟩)]
section
variable {w W W' : World} {ax ay az bx by_ bz : Int} {t t' : Bool}
theorem Fr5.start (w : World) (ax ay az bx by_ bz : Int) : Fr5 w ax ay az bx by_ bz false (((((w.alloc (.cells #[.int .i64 ax, .int .i64 ay, .int .i64 az] 23)).alloc (.cells #[.int .i64 bx, .int .i64 by_, .int .i64 bz] 23)).alloc (.cells #[.int .i64 0, .int .i64 0, .int .i64 0] 23)).alloc (.cells #[.bool false] 79)).alloc (.cells #[.pointer (some ⟨w.heap.size + 1 + 1 + 1, 0, none⟩)] 77)) :=
  ⟨(Fr4.start w ax ay az bx by_ bz).alloc _, Blk.at_ _ _ _ _ (by simp)⟩
theorem Fr5.six (h : Fr5 w ax ay az bx by_ bz t W) : W.cell? ⟨w.heap.size, 0, none⟩ = some (.int .i64 ax) ∧ W.cell? ⟨w.heap.size, 1, none⟩ = some (.int .i64 ay) ∧ W.cell? ⟨w.heap.size, 2, none⟩ = some (.int .i64 az) ∧
      W.cell? ⟨w.heap.size + 1, 0, none⟩ = some (.int .i64 bx) ∧ W.cell? ⟨w.heap.size + 1, 1, none⟩ = some (.int .i64 by_) ∧ W.cell? ⟨w.heap.size + 1, 2, none⟩ = some (.int .i64 bz) := h.1.six
theorem Fr5.drew (h : Fr5 w ax ay az bx by_ bz t W) : Fr5 w ax ay az bx by_ bz t W.drew := ⟨h.1.drew, h.2.drew⟩
theorem Fr5.reck (h : Fr5 w ax ay az bx by_ bz t W) : Reck W (w.heap.size + 1 + 1 + 1) t := h.1.reck
theorem Fr5.ptr (h : Fr5 w ax ay az bx by_ bz t W) : Blk W (w.heap.size + 1 + 1 + 1 + 1) 77 #[.pointer (some ⟨w.heap.size + 1 + 1 + 1, 0, none⟩)] := h.2
theorem Fr5.lt (h : Fr5 w ax ay az bx by_ bz t W) : w.heap.size + 5 ≤ W.heap.size := by have := Blk.lt h.2; omega
theorem Fr5.alloc (h : Fr5 w ax ay az bx by_ bz t W) (o : Obj) : Fr5 w ax ay az bx by_ bz t (W.alloc o) := ⟨h.1.alloc o, h.2.alloc o⟩
theorem Fr5.step (h : Fr5 w ax ay az bx by_ bz t W) (hr : Reck W' (w.heap.size + 1 + 1 + 1) t') (hg : W.grownBy W' (some (w.heap.size + 1 + 1 + 1))) : Fr5 w ax ay az bx by_ bz t' W' :=
  ⟨h.1.step hr hg, h.2.grown hg (by simp)⟩
theorem Fr5.far (h : Fr5 w ax ay az bx by_ bz t W) {n : Nat} (hg : W.grownBy W' (some n)) (hn : w.heap.size + 5 ≤ n) : Fr5 w ax ay az bx by_ bz t W' :=
  ⟨h.1.far hg (by omega), h.2.grown hg (by simp; omega)⟩
/-- the new variable lies at n -/
def WNew (W : World) (B n : Nat) : Prop := VNew W B n ∧ B + 5 ≤ n
theorem WNew.drew {B n : Nat} (h : WNew W B n) : WNew W.drew B n := ⟨h.1.drew, h.2⟩
theorem WNew.le {B n : Nat} (h : WNew W B n) : B + 5 ≤ n := h.2
theorem WNew.start (h : Fr5 w ax ay az bx by_ bz t W) : WNew (W.alloc (.cells #[.int .i64 0, .int .i64 0, .int .i64 0] 23)) w.heap.size W.heap.size := ⟨VNew.start h.1, h.lt⟩
theorem WNew.start_at (h : Fr5 w ax ay az bx by_ bz t W) {n : Nat} (hn : n = W.heap.size) : WNew (W.alloc (.cells #[.int .i64 0, .int .i64 0, .int .i64 0] 23)) w.heap.size n := ⟨VNew.start_at h.1 hn, by subst hn; exact h.lt⟩
theorem WNew.step {B n : Nat} (h : WNew W B n) (hg : W.grownBy W' (some (B + 1 + 1 + 1))) : WNew W' B n := ⟨h.1.step hg, h.2⟩
/-- behind the third statement of Cross -/
def CutC (w : World) (x y z : Int) (t : Bool) (s8 : Value) (wx : World) : Prop :=
  CutE w x y z t s8 wx ∧ Blk wx (w.heap.size + 1 + 1 + 1 + 1) 77 #[.pointer (some ⟨w.heap.size + 1 + 1 + 1, 0, none⟩)]
theorem CutC.of_set {n : Nat} (h : Fr5 w ax ay az bx by_ bz t W) (hv : WNew W w.heap.size n) (x y z : Int) : CutC w x y z t (.pointer (some ⟨n, 0, none⟩)) (((W.setCell ⟨n, 0, none⟩ (.int .i64 x)).setCell ⟨n, 1, none⟩ (.int .i64 y)).setCell ⟨n, 2, none⟩ (.int .i64 z)) :=
  ⟨CutE.of_set h.1 hv.1 x y z, (h.far (grown_three W n (.int .i64 x) (.int .i64 y) (.int .i64 z)) hv.2).2⟩
theorem CutC.of_new (h : Fr5 w ax ay az bx by_ bz t W) (x y z : Int) : CutC w x y z t (.pointer (some ⟨W.heap.size, 0, none⟩)) (W.alloc (.cells #[.int .i64 x, .int .i64 y, .int .i64 z] 23)) :=
  ⟨CutE.of_new h.1 x y z, h.2.alloc _⟩
end

set_option maxRecDepth 100000 in
set_option maxHeartbeats 4000000 in
theorem Cross_any (a b : V3) (ha : a.In) (hb : b.In) (w : World) :
    Calls Try.prog 36 #[a.val, b.val] w fun e w' => e = .returned (.tuple #[(crV a b).val, .bool (crVO a b)]) ∧ Below w.heap.size w w' := by
  obtain ⟨ax, ay, az⟩ := a
  obtain ⟨bx, by_, bz⟩ := b
  obtain ⟨hax, hay, haz⟩ := ha
  obtain ⟨hbx, hby, hbz⟩ := hb
  simp only at hax hay haz hbx hby hbz
  have K1 := fun g h W t hr hh hne => Lib.hid (two_any g h ay bz az by_ t W hay hbz haz hby hr hh hne)
  have K2 := fun g h W t hr hh hne => Lib.hid (two_any g h az bx ax bz t W haz hbx hax hbz hr hh hne)
  have K3 := fun g h W t hr hh hne => Lib.hid (two_any g h ax by_ ay bx t W hax hby hay hbx hr hh hne)
  unfold V3.val crV crVO
  simp only
  generalize cr ay bz az by_ = m1 at *
  generalize crO ay bz az by_ = o1 at *
  generalize cr az bx ax bz = m2 at *
  generalize crO az bx ax bz = o2 at *
  generalize cr ax by_ ay bx = m3 at *
  generalize crO ax by_ ay bx = o3 at *
  clear hax hay haz hbx hby hbz
  have hne : w.heap.size + 1 + 1 + 1 + 1 ≠ w.heap.size + 1 + 1 + 1 := by omega
  have HNE := Lib.hid hne
  clear hne
  go_enter Try.func36, Try.ntmps36
  go_upto_region 3 with fail
  go_cut [8] (fun s8 wx => CutC w m1 m2 m3 (o1 || o2 || o3) s8 wx)
  case first =>
    have hF0 := Fr5.start w ax ay az bx by_ bz
    have hF := hF0.drew
    go_region_held3 (fun w' => w'.cell? ⟨w.heap.size, 0, none⟩ = some (.int .i64 ax) ∧ w'.cell? ⟨w.heap.size, 1, none⟩ = some (.int .i64 ay) ∧ w'.cell? ⟨w.heap.size, 2, none⟩ = some (.int .i64 az) ∧
      w'.cell? ⟨w.heap.size + 1, 0, none⟩ = some (.int .i64 bx) ∧ w'.cell? ⟨w.heap.size + 1, 1, none⟩ = some (.int .i64 by_) ∧ w'.cell? ⟨w.heap.size + 1, 2, none⟩ = some (.int .i64 bz))
      (first | with_reducible exact hF.six | with_reducible exact (hF.alloc _).six | with_reducible exact ((hF0.alloc _).drew).six | with_reducible exact ((hF.far (grown_three _ _ _ _ _) hV.le).six))
      (first | ((first | ((with_reducible refine (Hid.out (K1 _ _ _ _ hF.reck hF.ptr HNE.out)).mono ?_); rintro e w1 ⟨rfl, hr1, hg1⟩; have hF1 := hF.step hr1 hg1; (try (have hV1 := hV.step hg1; clear hV v0 v1 v2 f0 f1 f2; have hV := hV1; clear hV1; obtain ⟨v0, v1, v2, f0, f1, f2⟩ := hV.1.six))) | ((with_reducible refine (Hid.out (K1 _ _ _ _ (hF.alloc _).reck (hF.alloc _).ptr HNE.out)).mono ?_); rintro e w1 ⟨rfl, hr1, hg1⟩; have hF1 := (hF.alloc _).step hr1 hg1; have hV := (WNew.start hF).step hg1; obtain ⟨v0, v1, v2, f0, f1, f2⟩ := hV.1.six) | ((with_reducible refine (Hid.out (K1 _ _ _ _ ((hF0.alloc _).drew).reck ((hF0.alloc _).drew).ptr HNE.out)).mono ?_); rintro e w1 ⟨rfl, hr1, hg1⟩; have hF1 := ((hF0.alloc _).drew).step hr1 hg1; have hV := ((WNew.start_at hF0 (n := w.heap.size + 1 + 1 + 1 + 1 + 1) (by simp)).drew).step hg1; obtain ⟨v0, v1, v2, f0, f1, f2⟩ := hV.1.six)); clear hF; have hF := hF1; clear hF1 hr1 hg1) | ((first | ((with_reducible refine (Hid.out (K2 _ _ _ _ hF.reck hF.ptr HNE.out)).mono ?_); rintro e w1 ⟨rfl, hr1, hg1⟩; have hF1 := hF.step hr1 hg1; (try (have hV1 := hV.step hg1; clear hV v0 v1 v2 f0 f1 f2; have hV := hV1; clear hV1; obtain ⟨v0, v1, v2, f0, f1, f2⟩ := hV.1.six))) | ((with_reducible refine (Hid.out (K2 _ _ _ _ (hF.alloc _).reck (hF.alloc _).ptr HNE.out)).mono ?_); rintro e w1 ⟨rfl, hr1, hg1⟩; have hF1 := (hF.alloc _).step hr1 hg1; have hV := (WNew.start hF).step hg1; obtain ⟨v0, v1, v2, f0, f1, f2⟩ := hV.1.six)); clear hF; have hF := hF1; clear hF1 hr1 hg1) | ((first | ((with_reducible refine (Hid.out (K3 _ _ _ _ hF.reck hF.ptr HNE.out)).mono ?_); rintro e w1 ⟨rfl, hr1, hg1⟩; have hF1 := hF.step hr1 hg1; (try (have hV1 := hV.step hg1; clear hV v0 v1 v2 f0 f1 f2; have hV := hV1; clear hV1; obtain ⟨v0, v1, v2, f0, f1, f2⟩ := hV.1.six))) | ((with_reducible refine (Hid.out (K3 _ _ _ _ (hF.alloc _).reck (hF.alloc _).ptr HNE.out)).mono ?_); rintro e w1 ⟨rfl, hr1, hg1⟩; have hF1 := (hF.alloc _).step hr1 hg1; have hV := (WNew.start hF).step hg1; obtain ⟨v0, v1, v2, f0, f1, f2⟩ := hV.1.six)); clear hF; have hF := hF1; clear hF1 hr1 hg1))
    all_goals (go_wp2_with fail; go_meet)
    all_goals (rw [Bool.false_or] at hF)
    all_goals first | with_reducible exact CutC.of_new hF m1 m2 m3 | with_reducible exact CutC.of_set hF hV m1 m2 m3
  case rest =>
    obtain ⟨⟨n, rfl, hn, hv, hr, hz, hB⟩, hp⟩ := hcut
    have v0 := hv.cell 0
    have v1 := hv.cell 1
    have v2 := hv.cell 2
    have r0 := Blk.cell hr 0
    have p0 := hp.cell 0
    have z0 := hz.cell 0
    have z1 := hz.cell 1
    have z2 := hz.cell 2
    have f0 := hz.frozen 0
    have f1 := hz.frozen 1
    have f2 := hz.frozen 2
    simp only [List.getElem?_toArray, List.getElem?_cons_zero, List.getElem?_cons_succ] at v0 v1 v2 r0 p0 z0 z1 z2
    have HB := Lib.hid hB
    clear hv hr hz hB hp K1 K2 K3
    go_wp2_with fail
    go_region
    all_goals (go_wp2_with fail)
    all_goals (refine bodyPost_ret (v := .tuple #[.agg #[.int .i64 m1, .int .i64 m2, .int .i64 m3], .bool (o1 || o2 || o3)]) (by simp [results, Try.results36, go_sem, z0, z1, z2]) rfl ⟨rfl, ?_⟩)
    all_goals exact (((HB.out.drew.setCell (by simp; omega) _).setCell (by simp; omega) _).setCell (by simp; omega) _)
end Go.Proofs.Ytflaanfmanileaa
