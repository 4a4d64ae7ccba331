/- filter.Run; filter answers. -/
import Derived.Test.YtflaanfmanileaaFilStep
set_option linter.unusedVariables false
namespace Go.Proofs.Ytflaanfmanileaa.Fi
open Go.RowKit Go.Proofs.Ytflaanfmanileaa Fx
attribute [local go_sem ↓] Go.wp_at_zero Go.wp_at_succ

def run1 (t : Tu) (a : St × Nat) (z : Int) : St × Nat := (stepS a.1 t z, if stepOk a.1 t z = true then a.2 + 1 else a.2)
/-- a run: the state; how many readings were taken -/
def runA (t : Tu) (a : St × Nat) (zs : List Int) : St × Nat := zs.foldl (run1 t) a
theorem runA_append (t : Tu) (a : St × Nat) (xs ys : List Int) : runA t a (xs ++ ys) = runA t (runA t a xs) ys := by unfold runA; rw [List.foldl_append]
theorem runA_snoc (t : Tu) (a : St × Nat) (xs : List Int) (z : Int) : runA t a (xs ++ [z]) = run1 t (runA t a xs) z := by rw [runA_append]; rfl
theorem runA_in (t : Tu) (zs : List Int) : ∀ a : St × Nat, a.1.In → (runA t a zs).1.In := by
  unfold runA
  induction zs with
  | nil => intro a h; exact h
  | cons z zs ih => intro a h; exact ih _ (stepS_in _ _ _ h)
theorem runA_bent (t : Tu) (zs : List Int) : ∀ a : St × Nat, a.1.b = true → (runA t a zs).1.b = true := by
  unfold runA
  induction zs with
  | nil => intro a h; exact h
  | cons z zs ih => intro a h; exact ih _ (stepS_bent _ _ _ h)
/-- the count goes on from whatever it was -/
theorem runA_count (t : Tu) (zs : List Int) : ∀ (s : St) (k : Nat), runA t (s, k) zs = ((runA t (s, 0) zs).1, k + (runA t (s, 0) zs).2) := by
  unfold runA
  induction zs with
  | nil => intro s k; simp
  | cons z zs ih =>
    intro s k
    simp only [List.foldl_cons, run1]
    split
    · rw [ih, ih _ (0 + 1)]; simp only [Prod.mk.injEq, true_and]; omega
    · rw [ih]
theorem runA_le (t : Tu) (zs : List Int) (s : St) : (runA t (s, 0) zs).2 ≤ zs.length := by
  induction zs generalizing s with
  | nil => exact Nat.le_refl _
  | cons z zs ih =>
    have h : runA t (s, 0) (z :: zs) = runA t (run1 t (s, 0) z) zs := rfl
    rw [h]
    unfold run1
    have := ih (stepS s t z)
    split
    · rw [runA_count]; simp only [List.length_cons]; omega
    · simp only [List.length_cons]; omega
theorem take_snoc {zs : List Int} {j : Nat} (h : j < zs.length) : zs.take (j + 1) = zs.take j ++ [zs.getD j 0] := by
  rw [List.take_succ_eq_append_getElem h, List.getD, List.getElem?_eq_getElem h]; rfl

theorem run_results {W : World} {g : Nat} {s : St} (h : SB W g s) (e : Value) (tmps : Array Value) (h2 : tmps.getD 6 undef = .pointer (some ⟨g, 0, none⟩)) (h3 : tmps.getD 7 undef = e) :
    (results Try.f52 tmps).run Try.prog W = .ok (.tuple #[s.val, e]) W := by
  have h2' : tmps[6]?.getD undef = .pointer (some ⟨g, 0, none⟩) := by simpa using h2
  have h3' : tmps[7]?.getD undef = e := by simpa using h3
  simp [results, Try.results52, h2', h3', asAddr, run_loadVar_row (P := Try.prog) W g _ 57 _ (0, 0) _ h Try.underlying57 rfl (by kernel_rfl)]
  rfl

theorem SF.lay0 {w0 W : World} {s z : St} {t : Tu} (h : SF w0 W s t z) (u : St) : SF w0 (set7 W w0.heap.size u) u t z := ⟨sb_set7 h.1 u, far7 h.2.1 (by omega) u, sb_far7 h.2.2.1 (by omega) u, below7 h.2.2.2 (Nat.le_refl _) u⟩
def z0 : St := ⟨0, 0, 0, 0, 0, false, 0⟩
def RRel (w0 : World) (s : St) (t : Tu) (zs : List Int) (n : Nat) (cv iv : Value) (W : World) : Prop :=
  ∃ j : Nat, j ≤ n ∧ iv = .int .i64 j ∧ cv = .int .i64 ((runA t (s, 0) (zs.take j)).2 : Nat) ∧ SF w0 W (runA t (s, 0) (zs.take j)).1 t z0

set_option maxRecDepth 100000 in
set_option maxHeartbeats 2000000 in
theorem Run_any (s : St) (t : Tu) (A : Option Addr) (n c : Nat) (zs : List Int) (hs : s.In) (ht : t.In) (w : World) (hI : Ints w .i64 A n zs) (hz : ∀ z ∈ zs, Fx.In z) (hn : n ≤ 140737488355328) :
    Calls Try.prog 52 #[s.val, t.val, .slice A n c] w fun e w' => e = .returned (.tuple #[(runA t (s, 0) zs).1.val, .int .i64 ((runA t (s, 0) zs).2 : Nat)]) ∧ Below w.heap.size w w' := by
  obtain ⟨hzl, hI2⟩ := hI
  have ks := fun u z (hu : u.In) (hz : Fx.In z) W => Step_any u t z hu ht hz W
  have KS := Lib.hid ks
  have hF : SF w (((w.alloc (.cells #[.int .i64 s.x, .int .i64 s.v, .int .i64 s.p, .int .i64 s.q, .int .i64 s.r, .bool s.b, .int .i64 s.m] 57)).alloc (.cells #[.int .i64 t.dt, .int .i64 t.q, .int .i64 t.r, .int .i64 t.g] 62)).alloc (.cells #[.int .i64 0, .int .i64 0, .int .i64 0, .int .i64 0, .int .i64 0, .bool false, .int .i64 0] 57)) s t z0 :=
    ⟨((Blk.new _ _ _).alloc _).alloc _, (Blk.at_ _ _ _ _ (by simp)).alloc _, Blk.at_ _ _ _ _ (by simp), (((Below.refl _ _).alloc (Nat.le_refl _) _).alloc (by simp) _).alloc (by simp; omega) _⟩
  have HF := Lib.hid hF
  have HI := Lib.hid hI2
  have HZ := Lib.hid hz
  have HL := Lib.hid hzl
  have HIN := Lib.hid (fun j => runA_in t (zs.take j) (s, 0) hs)
  have HLE := Lib.hid (fun j => Nat.le_trans (runA_le t (zs.take j) s) (List.length_take_le _ _))
  clear hF ks hs ht hI2 hz hzl
  unfold St.val Tu.val
  go_enter Try.func52, Try.ntmps52
  go_wp2_with fail
  go_loopw [8, 14] (fun c i wr => RRel w s t zs n c i wr) (fun _ i _ => n - (intOf i).toNat)
  case atStart => exact ⟨0, by omega, rfl, rfl, HF.out⟩
  case round =>
    obtain ⟨j, hj, rfl, rfl, hF⟩ := hrel
    have hin := HIN.out j
    have hle := HLE.out j
    by_cases hjn : j < n
    · obtain ⟨b, off, rfl, hlt, hc⟩ := HI.out (by omega)
      have d0 := (hF.2.2.2.cell (p := ⟨b, off + j, none⟩) hlt).trans (hc j hjn)
      have hsn := take_snoc (zs := zs) (j := j) (by have := HL.out; omega)
      have iz : Fx.In (zs.getD j 0) := by
        have hl := HL.out
        simp only [List.getD, List.getElem?_eq_getElem (show j < zs.length by omega), Option.getD_some]; exact HZ.out _ (List.getElem_mem _)
      have hnext : runA t (s, 0) (zs.take (j + 1)) = run1 t (runA t (s, 0) (zs.take j)) (zs.getD j 0) := by rw [hsn, runA_snoc]
      unfold run1 at hnext
      generalize zs.getD j 0 = z at *
      generalize runA t (s, 0) (zs.take j) = a at *
      obtain ⟨u, k⟩ := a
      simp only at hF hnext hin hle ⊢
      have k1 := fun W => KS.out u z hin iz W
      have HN := Lib.hid hnext
      generalize hu1 : stepS u t z = u1 at *
      generalize hok : stepOk u t z = ok at *
      unfold St.val Tu.val at k1
      have K1 := Lib.hid k1
      have HU := Lib.hid hu1
      obtain ⟨c0, c1, c2, c3, c4, c5, c6, c7, c8, c9, c10⟩ := hF.all
      have HF1 := Lib.hid hF
      have hz1 : (0 : Int) ≤ (j : Int) := by omega
      have hz2 : (j : Int) < (n : Int) := by omega
      clear hsn hnext k1 hF hc iz hu1 hin HF
      go_wp2_with fail
      refine (K1.out _).mono ?_
      rintro e w1 ⟨rfl, hB1⟩
      have hF2 := HF1.out.next hB1
      clear HF1 hB1 c0 c1 c2 c3 c4 c5 c6 c7 c8 c9 c10 d0
      obtain ⟨y0, y1, y2, y3, y4, y5, y6⟩ := hF2.1.c
      obtain ⟨f0, f1, f2, f3, f4, f5, f6⟩ := hF2.1.frz
      have hF3 := hF2.lay0 u1
      unfold set7 at hF3
      have HF3 := Lib.hid hF3
      clear hF2 hF3
      cases ok
      · go_wp2_with fail
        go_roundw
        case rel => exact ⟨j + 1, by omega, by go_num, by rw [HN.out]; rfl, by rw [HN.out]; exact HF3.out⟩
        case measure => simp [intOf]; omega
      · go_wp2_with fail
        go_roundw
        case rel => exact ⟨j + 1, by omega, by go_num, by rw [HN.out]; exact (by go_num : Value.int .i64 ((k : Int) + 1) = .int .i64 ((k + 1 : Nat) : Int)), by rw [HN.out]; exact HF3.out⟩
        case measure => simp [intOf]; omega
    · obtain rfl : n = j := by omega
      have hall : zs.take n = zs := List.take_of_length_le (by have := HL.out; omega)
      rw [hall] at hF hin hle ⊢
      generalize hres : runA t (s, 0) zs = a at hF hin hle ⊢
      obtain ⟨u, k⟩ := a
      have HRS := Lib.hid hres
      clear hres
      simp only at hF hle ⊢
      obtain ⟨c0, c1, c2, c3, c4, c5, c6, -, -, -, -⟩ := hF.all
      obtain ⟨y0, y1, y2, y3, y4, y5, y6⟩ := hF.2.2.1.c
      obtain ⟨f0, f1, f2, f3, f4, f5, f6⟩ := hF.2.2.1.frz
      have hF3 := hF.lay u
      unfold set7 at hF3
      have HF3 := Lib.hid hF3
      clear hF hF3
      go_wp2_with fail
      exact bodyPost_ret (v := .tuple #[u.val, .int .i64 (k : Nat)]) (run_results HF3.out.2.2.1 _ _ rfl rfl) rfl ⟨by rw [HRS.out]; rfl, HF3.out.2.2.2⟩

theorem follow_test : updOk (begS 0) 4294967296 4294967296 429496729600 = true ∧ (updS (begS 0) 4294967296 4294967296 429496729600).x = 2147483648 := ⟨by kernel_rfl, by kernel_rfl⟩
set_option maxRecDepth 100000 in
set_option maxHeartbeats 1000000 in
theorem follows_any (w : World) : Calls Try.prog 50 #[] w fun e w' => e = .returned (.bool true) ∧ Below w.heap.size w w' := by
  have kb := fun W => Begin_any 0 W
  have kb7 := fun W => Begin_any 7 W
  have i0 : Fx.In 0 := by unfold Fx.In; omega
  have i1 : Fx.In 4294967296 := by unfold Fx.In; omega
  have ku := fun W => Update_any (begS 0) 4294967296 4294967296 429496729600 (begS_in i0) i1 i1 (by unfold Fx.In; omega) W
  rw [follow_test.1] at ku
  have hx := follow_test.2
  generalize updS (begS 0) 4294967296 4294967296 429496729600 = u at *
  unfold St.val at kb kb7 ku
  rw [hx] at ku
  have e0 : begS 0 = ⟨0, 0, 4294967296, 0, 4294967296, false, 0⟩ := rfl
  have e7 : begS 7 = ⟨7, 0, 4294967296, 0, 4294967296, false, 0⟩ := rfl
  rw [e0] at kb ku
  rw [e7] at kb7
  have hfd : ∀ W : World, (Instr.field 57 (.agg #[.int .i64 7, .int .i64 0, .int .i64 4294967296, .int .i64 0, .int .i64 4294967296, .bool false, .int .i64 0]) 0).run Try.prog W = .ok (.int .i64 7) W := fun _ => by kernel_rfl
  have KB := Lib.hid kb
  have KB7 := Lib.hid kb7
  have KU := Lib.hid ku
  clear kb kb7 ku hx e0 e7
  go_enter Try.func50, Try.ntmps50
  go_wp2_with fail
  refine (KB.out _).mono ?_
  rintro e w1 ⟨rfl, hB1⟩
  have HB1 := Lib.hid hB1
  clear hB1
  go_wp2_with fail
  refine (KU.out _).mono ?_
  rintro e w2 ⟨rfl, hB2⟩
  have h2 := below_next HB1.out hB2
  have HB2 := Lib.hid (h2.alloc h2.size (.cells #[.int .i64 2147483648, .int .i64 u.v, .int .i64 u.p, .int .i64 u.q, .int .i64 u.r, .bool u.b, .int .i64 u.m] 57))
  clear hB2 h2 HB1
  go_wp2_with fail
  refine (KB7.out _).mono ?_
  rintro e w3 ⟨rfl, hB3⟩
  have HB3 := Lib.hid (below_next HB2.out hB3)
  clear hB3
  go_wp2_with fail
  go_ret
  exact ⟨rfl, HB3.out⟩
end Go.Proofs.Ytflaanfmanileaa.Fi
