/- The walk of FilterCut: a run may be cut anywhere and goes on as if it had not been. -/
import Derived.Test.YtflaanfmanileaaFilOpen
import Derived.Test.YtflaanfmanileaaCutVar
import Derived.Test.YtflaanfmanileaaSpot
import Derived.Deep.CutRange
import Derived.Deep.DeepCutAuto
set_option linter.unusedVariables false
namespace Go.Proofs.Ytflaanfmanileaa
open Go.RowKit Go.Proofs.Ytflaanfmanileaa Fx Fi
theorem VZ.cells7 {W0 W : World} {q : Nat} (hZ : VZ W0 W q 57 #[.int .i64 0, .int .i64 0, .int .i64 0, .int .i64 0, .int .i64 0, .bool false, .int .i64 0]) : (W.cell? ⟨q, 0, none⟩ = some (.int .i64 (⟨0, 0, 0, 0, 0, false, 0⟩ : St).x) ∧ W.cell? ⟨q, 1, none⟩ = some (.int .i64 (⟨0, 0, 0, 0, 0, false, 0⟩ : St).v) ∧ W.cell? ⟨q, 2, none⟩ = some (.int .i64 (⟨0, 0, 0, 0, 0, false, 0⟩ : St).p) ∧ W.cell? ⟨q, 3, none⟩ = some (.int .i64 (⟨0, 0, 0, 0, 0, false, 0⟩ : St).q) ∧ W.cell? ⟨q, 4, none⟩ = some (.int .i64 (⟨0, 0, 0, 0, 0, false, 0⟩ : St).r) ∧ W.cell? ⟨q, 5, none⟩ = some (.bool (⟨0, 0, 0, 0, 0, false, 0⟩ : St).b) ∧ W.cell? ⟨q, 6, none⟩ = some (.int .i64 (⟨0, 0, 0, 0, 0, false, 0⟩ : St).m)) ∧ W.frozen? ⟨q, 0, none⟩ = false ∧ W.frozen? ⟨q, 1, none⟩ = false ∧ W.frozen? ⟨q, 2, none⟩ = false ∧ W.frozen? ⟨q, 3, none⟩ = false ∧ W.frozen? ⟨q, 4, none⟩ = false ∧ W.frozen? ⟨q, 5, none⟩ = false ∧ W.frozen? ⟨q, 6, none⟩ = false :=
  ⟨SB.c (s := ⟨0, 0, 0, 0, 0, false, 0⟩) hZ.1, SB.frz (s := ⟨0, 0, 0, 0, 0, false, 0⟩) hZ.1⟩
end Go.Proofs.Ytflaanfmanileaa
namespace Go.Proofs.Ytflaanfmanileaa.lawFilterCut
open Go.RowKit Go.Proofs.Ytflaanfmanileaa Fx Fi
attribute [local go_sem ↓] Go.wp_at_zero Go.wp_at_succ

theorem infoInt : (Try.prog.info? 3).map (fun i => (i.zero, i.size, i.bytes)) = some (some (.int .i64 0), 1, 8) := by kernel_rfl
theorem cut_mk1 {W0 W : World} {q : Nat} {u : St} {k : Nat} (hZ : VZ W0 W q 57 #[.int .i64 0, .int .i64 0, .int .i64 0, .int .i64 0, .int .i64 0, .bool false, .int .i64 0]) (hF : Below W0.heap.size W0 W) : CutVar W0 57 #[.int .i64 u.x, .int .i64 u.v, .int .i64 u.p, .int .i64 u.q, .int .i64 u.r, .bool u.b, .int .i64 u.m] (.pointer (some ⟨q, 0, none⟩)) (set7 W q u) :=
  ⟨q, rfl, sb_set7 (s0 := ⟨0, 0, 0, 0, 0, false, 0⟩) hZ.1 u, below7 hF hZ.2 u⟩
theorem cut_mk2 {W0 W : World} {u : St} (hF : Below W0.heap.size W0 W) : CutVar W0 57 #[.int .i64 u.x, .int .i64 u.v, .int .i64 u.p, .int .i64 u.q, .int .i64 u.r, .bool u.b, .int .i64 u.m] (.pointer (some ⟨W.heap.size, 0, none⟩)) (W.alloc (.cells #[.int .i64 u.x, .int .i64 u.v, .int .i64 u.p, .int .i64 u.q, .int .i64 u.r, .bool u.b, .int .i64 u.m] 57)) :=
  ⟨_, rfl, Blk.new _ _ _, hF.alloc hF.size _⟩
theorem keep7 {W0 W : World} {q : Nat} {u : St} (hF : Below W0.heap.size W0 W) (hq : W0.heap.size ≤ q) : Below W0.heap.size W0 (set7 W q u) := below7 hF hq u
/-- a state at a block that stood before -/
theorem ST_mk {W0 : World} {a b : Nat} {s : St} {t : Tu} (hs : SB W0 a s) (ht : TB W0 b t) : ∀ W, Below W0.heap.size W0 W → W.cell? ⟨a, 0, none⟩ = some (.int .i64 s.x) ∧ W.cell? ⟨a, 1, none⟩ = some (.int .i64 s.v) ∧ W.cell? ⟨a, 2, none⟩ = some (.int .i64 s.p) ∧ W.cell? ⟨a, 3, none⟩ = some (.int .i64 s.q) ∧ W.cell? ⟨a, 4, none⟩ = some (.int .i64 s.r) ∧ W.cell? ⟨a, 5, none⟩ = some (.bool s.b) ∧ W.cell? ⟨a, 6, none⟩ = some (.int .i64 s.m) ∧ W.cell? ⟨b, 0, none⟩ = some (.int .i64 t.dt) ∧ W.cell? ⟨b, 1, none⟩ = some (.int .i64 t.q) ∧ W.cell? ⟨b, 2, none⟩ = some (.int .i64 t.r) ∧ W.cell? ⟨b, 3, none⟩ = some (.int .i64 t.g) := fun W hW =>
  ⟨Blk.cell (hs.next hW) 0, Blk.cell (hs.next hW) 1, Blk.cell (hs.next hW) 2, Blk.cell (hs.next hW) 3, Blk.cell (hs.next hW) 4, Blk.cell (hs.next hW) 5, Blk.cell (hs.next hW) 6, Blk.cell (Blk.next ht hW) 0, Blk.cell (Blk.next ht hW) 1, Blk.cell (Blk.next ht hW) 2, Blk.cell (Blk.next ht hW) 3⟩

set_option maxRecDepth 100000 in
set_option maxHeartbeats 4000000 in
theorem walkN (s : St) (t : Tu) (A : Option Addr) (n c : Nat) (zs : List Int) (x : Int) (hs : s.In) (ht : t.In) (w : World) (h : Ints w .i64 A n zs) (hz : ∀ z ∈ zs, Fx.In z) (hA : A = none → n = 0 ∧ c = 0) (hnc : n ≤ c) (hc : c * 8 ≤ 140737488351232) (hn : n ≤ 300) :
    Calls Try.prog 19 #[s.val, t.val, .slice A n c, .int .i64 x] w fun e w' => e = .returned (.bool true) ∧ Below w.heap.size w w' := by
  obtain ⟨i0, hi, hz0, hz1, hz2⟩ := info_parts infoInt
  have hz' := hz
  have s0 := h
  have t0 : decide (300 < (n : Int)) = false := by simp; omega
  have hA' := hA
  have hnc' := hnc
  have hq := Int.emod_nonneg x (b := ((n : Int) + 1)) (by omega)
  have hq2 := Int.emod_lt_of_pos x (b := ((n : Int) + 1)) (by omega)
  obtain ⟨j, hj⟩ : ∃ j : Nat, x % ((n : Int) + 1) = (j : Int) := ⟨(x % ((n : Int) + 1)).toNat, by omega⟩
  have hjn : j ≤ n := by omega
  have ks := fun (W : World) => spot_any x ((n : Int) + 1) W (by omega) (by omega)
  rw [hj] at ks
  have KS := Lib.hid ks
  clear ks hj hq hq2
  obtain ⟨A', r1, hA1, s1⟩ := cut_from (P := Try.prog) (kd := .i64) Try.underlying29 hi hz1 s0 hA' hjn hnc'
  obtain ⟨r2, s2⟩ := cut_to (P := Try.prog) (kd := .i64) Try.underlying29 hi s0 hjn hnc'
  have hA2 : A = none → j = 0 ∧ c = 0 := fun e => ⟨by have := (hA' e).1; omega, (hA' e).2⟩
  have hzt : ∀ z ∈ zs.take j, Fx.In z := fun z hm => hz' z (List.mem_of_mem_take hm)
  have hzd : ∀ z ∈ zs.drop j, Fx.In z := fun z hm => hz' z (List.mem_of_mem_drop hm)
  have kr1 := fun W B d (hJ : Ints W .i64 B n zs) => Run_any s t B n d zs hs ht W hJ hz' (by omega)
  have kr2 := fun W B d (hJ : Ints W .i64 B j (zs.take j)) => Run_any s t B j d (zs.take j) hs ht W hJ hzt (by omega)
  have hbi := runA_in t (zs.take j) (s, 0) hs
  have kr3 := fun W B d (hJ : Ints W .i64 B (n - j) (zs.drop j)) => Run_any (runA t (s, 0) (zs.take j)).1 t B (n - j) d (zs.drop j) hbi ht W hJ hzd (by omega)
  have hall : runA t (s, 0) zs = ((runA t ((runA t (s, 0) (zs.take j)).1, 0) (zs.drop j)).1, (runA t (s, 0) (zs.take j)).2 + (runA t ((runA t (s, 0) (zs.take j)).1, 0) (zs.drop j)).2) := by
    have e := runA_append t (s, 0) (zs.take j) (zs.drop j)
    rw [List.take_append_drop] at e
    rw [e, ← runA_count]
  have hle := runA_le t zs s
  have hzl : zs.length = n := s0.1
  rw [hzl, hall] at hle
  rw [hall] at kr1
  generalize runA t (s, 0) (zs.take j) = b at *
  obtain ⟨b, m2⟩ := b
  simp only at kr1 kr2 kr3 hle
  generalize runA t (b, 0) (zs.drop j) = u at *
  obtain ⟨u, m3⟩ := u
  simp only at kr1 kr2 kr3 hle
  obtain ⟨m1, hm1⟩ : ∃ m1, m2 + m3 = m1 := ⟨_, rfl⟩
  rw [hm1] at kr1 hle
  have te : ((m1 : Int) == (m2 : Int) + (m3 : Int)) = true := by simp; omega
  have tl2 : decide (m1 ≤ n) = true := by simp; omega
  have hb2 : m2 ≤ 300 := by omega
  have hb3 : m3 ≤ 300 := by omega
  have tl : decide ((m1 : Int) ≤ (n : Int)) = true := by simp; omega
  unfold St.val Tu.val at kr1 kr2 kr3
  have KR1 := Lib.hid kr1
  have KR2 := Lib.hid kr2
  have KR3 := Lib.hid kr3
  have HA := Lib.hid hA'
  have HA1 := Lib.hid hA1
  have HA2 := Lib.hid hA2
  have I0 := Lib.hid ((s0.alloc (.cells #[.int .i64 s.x, .int .i64 s.v, .int .i64 s.p, .int .i64 s.q, .int .i64 s.r, .bool s.b, .int .i64 s.m] 57)).alloc (.cells #[.int .i64 t.dt, .int .i64 t.q, .int .i64 t.r, .int .i64 t.g] 62))
  have I1 := Lib.hid ((s1.alloc (.cells #[.int .i64 s.x, .int .i64 s.v, .int .i64 s.p, .int .i64 s.q, .int .i64 s.r, .bool s.b, .int .i64 s.m] 57)).alloc (.cells #[.int .i64 t.dt, .int .i64 t.q, .int .i64 t.r, .int .i64 t.g] 62))
  have I2 := Lib.hid ((s2.alloc (.cells #[.int .i64 s.x, .int .i64 s.v, .int .i64 s.p, .int .i64 s.q, .int .i64 s.r, .bool s.b, .int .i64 s.m] 57)).alloc (.cells #[.int .i64 t.dt, .int .i64 t.q, .int .i64 t.r, .int .i64 t.g] 62))
  have TB0 := Lib.hid (show TB _ (w.heap.size + 1) t from Blk.at_ (w.alloc (.cells #[.int .i64 s.x, .int .i64 s.v, .int .i64 s.p, .int .i64 s.q, .int .i64 s.r, .bool s.b, .int .i64 s.m] 57)) (w.heap.size + 1) 62 #[.int .i64 t.dt, .int .i64 t.q, .int .i64 t.r, .int .i64 t.g] (by simp))
  have P0 := Lib.hid (ST_mk (s := s) (t := t) ((Blk.new w 57 #[.int .i64 s.x, .int .i64 s.v, .int .i64 s.p, .int .i64 s.q, .int .i64 s.r, .bool s.b, .int .i64 s.m]).alloc (.cells #[.int .i64 t.dt, .int .i64 t.q, .int .i64 t.r, .int .i64 t.g] 62)) TB0.out)
  have B0 := Lib.hid (((Below.refl w.heap.size w).alloc (Nat.le_refl _) (.cells #[.int .i64 s.x, .int .i64 s.v, .int .i64 s.p, .int .i64 s.q, .int .i64 s.r, .bool s.b, .int .i64 s.m] 57)).alloc (by simp) (.cells #[.int .i64 t.dt, .int .i64 t.q, .int .i64 t.r, .int .i64 t.g] 62))
  have hst := state_eq u.x u.v u.p u.q u.r u.m u.b
  have HST := Lib.hid hst
  unfold St.val Tu.val
  clear kr1 kr2 kr3 hA' hA1 hA2 s0 s1 s2 h hz hz' hzt hzd hs ht hA hbi hall hzl hst hm1 hle
  go_enter Try.func19, Try.ntmps19
  go_wp2_with fail
  refine (KS.out _).mono ?_
  rintro e w' ⟨rfl, rfl⟩
  go_upto_region 4 with fail
  generalize (w.alloc (.cells #[.int .i64 s.x, .int .i64 s.v, .int .i64 s.p, .int .i64 s.q, .int .i64 s.r, .bool s.b, .int .i64 s.m] 57)).alloc (.cells #[.int .i64 t.dt, .int .i64 t.q, .int .i64 t.r, .int .i64 t.g] 62) = W0 at *
  have J0 := Lib.hid (fun W (hW : Below W0.heap.size W0 W) => I0.out.next hW)
  have J1 := Lib.hid (fun W (hW : Below W0.heap.size W0 W) => I1.out.next hW)
  have J2 := Lib.hid (fun W (hW : Below W0.heap.size W0 W) => I2.out.next hW)
  clear I0 I1 I2
  go_cut [9, 10] (fun s7 s8 wx => CutVar W0 57 #[.int .i64 u.x, .int .i64 u.v, .int .i64 u.p, .int .i64 u.q, .int .i64 u.r, .bool u.b, .int .i64 u.m] s7 wx ∧ s8 = .int .i64 (m1 : Nat))
  case first =>
    have hF := (Below.refl W0.heap.size W0).drew
    go_region_held3 (fun w' => w'.cell? ⟨w.heap.size, 0, none⟩ = some (.int .i64 s.x) ∧ w'.cell? ⟨w.heap.size, 1, none⟩ = some (.int .i64 s.v) ∧ w'.cell? ⟨w.heap.size, 2, none⟩ = some (.int .i64 s.p) ∧ w'.cell? ⟨w.heap.size, 3, none⟩ = some (.int .i64 s.q) ∧ w'.cell? ⟨w.heap.size, 4, none⟩ = some (.int .i64 s.r) ∧ w'.cell? ⟨w.heap.size, 5, none⟩ = some (.bool s.b) ∧ w'.cell? ⟨w.heap.size, 6, none⟩ = some (.int .i64 s.m) ∧ w'.cell? ⟨w.heap.size + 1, 0, none⟩ = some (.int .i64 t.dt) ∧ w'.cell? ⟨w.heap.size + 1, 1, none⟩ = some (.int .i64 t.q) ∧ w'.cell? ⟨w.heap.size + 1, 2, none⟩ = some (.int .i64 t.r) ∧ w'.cell? ⟨w.heap.size + 1, 3, none⟩ = some (.int .i64 t.g))
      (first | (with_reducible exact P0.out _ hF) | (with_reducible exact P0.out _ (hF.alloc hF.size _)) | (with_reducible exact P0.out _ (((Below.refl W0.heap.size W0).alloc (Nat.le_refl _) _).drew)) | (have hS := keep7 (u := u) hF hZ.2; unfold set7 at hS; with_reducible exact P0.out _ hS))
      (first
        | (refine step_append_ints rfl (.const (.slice none 0 0)) (.tmp 28) 29 rfl W0.heap.size 3 i0 (.int .i64 0) .i64 8 Try.underlying29 hi hz0 hz1 hz2 rfl (.slice none 0 0) 0 [] (by simp [Act.eval]) (World.ownsRow_nil _ _ _ _) A n c zs (by simp [Act.eval, Act.put]) HA.out (by first | exact J0.out _ hF | exact J0.out _ (((Below.refl W0.heap.size W0).alloc (Nat.le_refl _) _).drew)) (by unfold maxLen; omega) (by omega) (by first | exact Nat.le_refl _ | (simp; done) | (simp; omega)) ?_; intro v2 w2 hown2 hg2; (simp only [Nat.zero_add, List.nil_append] at hown2); (obtain ⟨A1, c1, rfl⟩ := own_shape hown2); (first | (have hF4 := V_nextG hF hg2; have hJ := Ints.own hown2) | (have hF4 := V_startG0 hg2; have hZ := VZ.startG0 hg2; have hJ := Ints.own hown2)); clear hF hg2 hown2; have hF := hF4; clear hF4)
        | (go_at_call 52; (with_reducible refine (KR1.out _ A1 c1 ?_).mono ?_); (first | exact hJ | exact hJ.alloc _); rintro e w4 ⟨rfl, hB4⟩; (first | (have hF4 := below_next hF hB4; (try (have hZ4 := hZ.next hB4; clear hZ; have hZ := hZ4; clear hZ4))) | (have hF4 := V_alloc hF hB4; have hZ := VZ.start hF hB4)); clear hF hB4 hJ; have hF := hF4; clear hF4; (try obtain ⟨⟨y0, y1, y2, y3, y4, y5, y6⟩, f0, f1, f2, f3, f4, f5, f6⟩ := hZ.cells7)))
    all_goals (go_wp2_with fail; go_meet)
    all_goals first
      | (with_reducible exact ⟨cut_mk2 hF, rfl⟩)
      | (have hC := cut_mk1 (u := u) (k := 0) hZ hF; unfold set7 at hC; with_reducible exact ⟨hC, rfl⟩)
  case rest =>
    obtain ⟨⟨qa, rfl, hq, hB⟩, rfl⟩ := hcut
    have QA := Lib.hid hq
    have B1 := Lib.hid (below_next B0.out hB)
    have P1 := Lib.hid (fun W (hW : Below wc.heap.size wc W) => P0.out W (below_next hB hW))
    have T1 := Lib.hid (Blk.next TB0.out hB)
    have K1 := Lib.hid (fun W (hW : Below wc.heap.size wc W) => J1.out W (below_next hB hW))
    have K2 := Lib.hid (fun W (hW : Below wc.heap.size wc W) => J2.out W (below_next hB hW))
    clear hq hB P0 J0 J1 J2 KR1 B0 TB0
    obtain ⟨W1, rfl⟩ : ∃ W1 : World, W1 = wc := ⟨_, rfl⟩
    go_upto_region 5 with fail
    go_cut [11, 12] (fun s7 s8 wx => CutVar W1 57 #[.int .i64 b.x, .int .i64 b.v, .int .i64 b.p, .int .i64 b.q, .int .i64 b.r, .bool b.b, .int .i64 b.m] s7 wx ∧ s8 = .int .i64 (m2 : Nat))
    case first =>
      have hF := (Below.refl W1.heap.size W1).drew
      go_region_held3 (fun w' => w'.cell? ⟨w.heap.size, 0, none⟩ = some (.int .i64 s.x) ∧ w'.cell? ⟨w.heap.size, 1, none⟩ = some (.int .i64 s.v) ∧ w'.cell? ⟨w.heap.size, 2, none⟩ = some (.int .i64 s.p) ∧ w'.cell? ⟨w.heap.size, 3, none⟩ = some (.int .i64 s.q) ∧ w'.cell? ⟨w.heap.size, 4, none⟩ = some (.int .i64 s.r) ∧ w'.cell? ⟨w.heap.size, 5, none⟩ = some (.bool s.b) ∧ w'.cell? ⟨w.heap.size, 6, none⟩ = some (.int .i64 s.m) ∧ w'.cell? ⟨w.heap.size + 1, 0, none⟩ = some (.int .i64 t.dt) ∧ w'.cell? ⟨w.heap.size + 1, 1, none⟩ = some (.int .i64 t.q) ∧ w'.cell? ⟨w.heap.size + 1, 2, none⟩ = some (.int .i64 t.r) ∧ w'.cell? ⟨w.heap.size + 1, 3, none⟩ = some (.int .i64 t.g))
        (first | (with_reducible exact P1.out _ hF) | (with_reducible exact P1.out _ (hF.alloc hF.size _)) | (with_reducible exact P1.out _ (((Below.refl W1.heap.size W1).alloc (Nat.le_refl _) _).drew)) | (have hS := keep7 (u := b) hF hZ.2; unfold set7 at hS; with_reducible exact P1.out _ hS))
        (first
          | (refine step_append_ints rfl (.const (.slice none 0 0)) (.tmp 38) 29 rfl W1.heap.size 3 i0 (.int .i64 0) .i64 8 Try.underlying29 hi hz0 hz1 hz2 rfl (.slice none 0 0) 0 [] (by simp [Act.eval]) (World.ownsRow_nil _ _ _ _) A j c (zs.take j) (by simp [Act.eval, Act.put]) HA2.out (by first | exact K2.out _ hF | exact K2.out _ (((Below.refl W1.heap.size W1).alloc (Nat.le_refl _) _).drew)) (by unfold maxLen; omega) (by omega) (by first | exact Nat.le_refl _ | (simp; done) | (simp; omega)) ?_; intro v2 w2 hown2 hg2; (simp only [Nat.zero_add, List.nil_append] at hown2); (obtain ⟨A1, c1, rfl⟩ := own_shape hown2); (first | (have hF4 := V_nextG hF hg2; have hJ := Ints.own hown2) | (have hF4 := V_startG0 hg2; have hZ := VZ.startG0 hg2; have hJ := Ints.own hown2)); clear hF hg2 hown2; have hF := hF4; clear hF4)
          | (go_at_call 52; (with_reducible refine (KR2.out _ A1 c1 ?_).mono ?_); (first | exact hJ | exact hJ.alloc _); rintro e w4 ⟨rfl, hB4⟩; (first | (have hF4 := below_next hF hB4; (try (have hZ4 := hZ.next hB4; clear hZ; have hZ := hZ4; clear hZ4))) | (have hF4 := V_alloc hF hB4; have hZ := VZ.start hF hB4)); clear hF hB4 hJ; have hF := hF4; clear hF4; (try obtain ⟨⟨y0, y1, y2, y3, y4, y5, y6⟩, f0, f1, f2, f3, f4, f5, f6⟩ := hZ.cells7)))
      all_goals (go_wp2_with fail; go_meet)
      all_goals first
        | (with_reducible exact ⟨cut_mk2 hF, rfl⟩)
        | (have hC := cut_mk1 (u := b) (k := 0) hZ hF; unfold set7 at hC; with_reducible exact ⟨hC, rfl⟩)
    case rest =>
      obtain ⟨⟨qb, rfl, hq, hB⟩, rfl⟩ := hcut
      have B2 := Lib.hid (below_next B1.out hB)
      have QA2 := Lib.hid (QA.out.next hB)
      have P2 := Lib.hid (ST_mk (s := b) (t := t) hq (Blk.next T1.out hB))
      have L1 := Lib.hid (fun W (hW : Below wc.heap.size wc W) => K1.out W (below_next hB hW))
      clear hq hB P1 K1 K2 KR2 B1 QA T1
      obtain ⟨W2, rfl⟩ : ∃ W2 : World, W2 = wc := ⟨_, rfl⟩
      go_upto_region 6 with fail
      go_cut [13, 14] (fun s7 s8 wx => CutVar W2 57 #[.int .i64 u.x, .int .i64 u.v, .int .i64 u.p, .int .i64 u.q, .int .i64 u.r, .bool u.b, .int .i64 u.m] s7 wx ∧ s8 = .int .i64 (m3 : Nat))
      case first =>
        have hF := (Below.refl W2.heap.size W2).drew
        go_region_held3 (fun w' => w'.cell? ⟨qb, 0, none⟩ = some (.int .i64 b.x) ∧ w'.cell? ⟨qb, 1, none⟩ = some (.int .i64 b.v) ∧ w'.cell? ⟨qb, 2, none⟩ = some (.int .i64 b.p) ∧ w'.cell? ⟨qb, 3, none⟩ = some (.int .i64 b.q) ∧ w'.cell? ⟨qb, 4, none⟩ = some (.int .i64 b.r) ∧ w'.cell? ⟨qb, 5, none⟩ = some (.bool b.b) ∧ w'.cell? ⟨qb, 6, none⟩ = some (.int .i64 b.m) ∧ w'.cell? ⟨w.heap.size + 1, 0, none⟩ = some (.int .i64 t.dt) ∧ w'.cell? ⟨w.heap.size + 1, 1, none⟩ = some (.int .i64 t.q) ∧ w'.cell? ⟨w.heap.size + 1, 2, none⟩ = some (.int .i64 t.r) ∧ w'.cell? ⟨w.heap.size + 1, 3, none⟩ = some (.int .i64 t.g))
          (first | (with_reducible exact P2.out _ hF) | (with_reducible exact P2.out _ (hF.alloc hF.size _)) | (with_reducible exact P2.out _ (((Below.refl W2.heap.size W2).alloc (Nat.le_refl _) _).drew)) | (have hS := keep7 (u := u) hF hZ.2; unfold set7 at hS; with_reducible exact P2.out _ hS))
          (first
            | (refine step_append_ints rfl (.const (.slice none 0 0)) (.tmp 48) 29 rfl W2.heap.size 3 i0 (.int .i64 0) .i64 8 Try.underlying29 hi hz0 hz1 hz2 rfl (.slice none 0 0) 0 [] (by simp [Act.eval]) (World.ownsRow_nil _ _ _ _) A' (n - j) (c - j) (zs.drop j) (by simp [Act.eval, Act.put]) HA1.out (by first | exact L1.out _ hF | exact L1.out _ (((Below.refl W2.heap.size W2).alloc (Nat.le_refl _) _).drew)) (by unfold maxLen; omega) (by omega) (by first | exact Nat.le_refl _ | (simp; done) | (simp; omega)) ?_; intro v2 w2 hown2 hg2; (simp only [Nat.zero_add, List.nil_append] at hown2); (obtain ⟨A1, c1, rfl⟩ := own_shape hown2); (first | (have hF4 := V_nextG hF hg2; have hJ := Ints.own hown2) | (have hF4 := V_startG0 hg2; have hZ := VZ.startG0 hg2; have hJ := Ints.own hown2)); clear hF hg2 hown2; have hF := hF4; clear hF4)
            | (go_at_call 52; (with_reducible refine (KR3.out _ A1 c1 ?_).mono ?_); (first | exact hJ | exact hJ.alloc _); rintro e w4 ⟨rfl, hB4⟩; (first | (have hF4 := below_next hF hB4; (try (have hZ4 := hZ.next hB4; clear hZ; have hZ := hZ4; clear hZ4))) | (have hF4 := V_alloc hF hB4; have hZ := VZ.start hF hB4)); clear hF hB4 hJ; have hF := hF4; clear hF4; (try obtain ⟨⟨y0, y1, y2, y3, y4, y5, y6⟩, f0, f1, f2, f3, f4, f5, f6⟩ := hZ.cells7)))
        all_goals (go_wp2_with fail; go_meet)
        all_goals first
          | (with_reducible exact ⟨cut_mk2 hF, rfl⟩)
          | (have hC := cut_mk1 (u := u) (k := 0) hZ hF; unfold set7 at hC; with_reducible exact ⟨hC, rfl⟩)
      case rest =>
        obtain ⟨⟨qc, rfl, hq, hB⟩, rfl⟩ := hcut
        have B3 := Lib.hid (below_next B2.out hB)
        have QA3 := Lib.hid (QA2.out.next hB)
        have QC := Lib.hid hq
        clear hq hB P2 L1 KR3 B2 QA2
        go_wp2_with fail
        refine (follows_any _).mono ?_
        rintro e w2 ⟨rfl, hB2⟩
        obtain ⟨c0, c1, c2, c3, c4, c5, c6⟩ := SB.c (s := u) (QA3.out.next hB2)
        obtain ⟨d0, d1, d2, d3, d4, d5, d6⟩ := SB.c (s := u) (QC.out.next hB2)
        have B4 := Lib.hid (below_next B3.out hB2)
        clear hB2 QA3 QC B3
        have hst := HST.out
        go_wp2_with fail
        go_ret
        exact ⟨rfl, B4.out⟩

set_option maxRecDepth 100000 in
set_option maxHeartbeats 4000000 in
theorem walkG (s : St) (t : Tu) (A : Option Addr) (n c : Nat) (zs : List Int) (x : Int) (hs : s.In) (ht : t.In) (w : World) (h : Ints w .i64 A n zs) (hz : ∀ z ∈ zs, Fx.In z) (hA : A = none → n = 0 ∧ c = 0) (hnc : n ≤ c) (hc : c * 8 ≤ 140737488351232) (hn : 300 < n) :
    Calls Try.prog 19 #[s.val, t.val, .slice A n c, .int .i64 x] w fun e w' => e = .returned (.bool true) ∧ Below w.heap.size w w' := by
  obtain ⟨i0, hi, hz0, hz1, hz2⟩ := info_parts infoInt
  have hz' : ∀ z ∈ zs.take 300, Fx.In z := fun z hm => hz z (List.mem_of_mem_take hm)
  obtain ⟨r0', s0⟩ := cut_to (P := Try.prog) (kd := .i64) (k := 300) Try.underlying29 hi h (Nat.le_of_lt hn) hnc
  have r0 : ∀ W : World, (Instr.slice 29 (.slice A n c) none (some (.int .i64 300)) none).run Try.prog W = .ok (.slice A 300 c) W := r0'
  have t0 : decide (300 < (n : Int)) = true := by simp; omega
  have hA' : A = none → 300 = 0 ∧ c = 0 := fun e => absurd (hA e).1 (by omega)
  have hnc' : 300 ≤ c := by omega
  have hq := Int.emod_nonneg x (b := (301 : Int)) (by omega)
  have hq2 := Int.emod_lt_of_pos x (b := (301 : Int)) (by omega)
  obtain ⟨j, hj⟩ : ∃ j : Nat, x % (301 : Int) = (j : Int) := ⟨(x % (301 : Int)).toNat, by omega⟩
  have hjn : j ≤ 300 := by omega
  have ks := fun (W : World) => spot_any x (301 : Int) W (by omega) (by omega)
  rw [hj] at ks
  have KS := Lib.hid ks
  clear ks hj hq hq2
  obtain ⟨A', r1, hA1, s1⟩ := cut_from (P := Try.prog) (kd := .i64) Try.underlying29 hi hz1 s0 hA' hjn hnc'
  obtain ⟨r2, s2⟩ := cut_to (P := Try.prog) (kd := .i64) Try.underlying29 hi s0 hjn hnc'
  have hA2 : A = none → j = 0 ∧ c = 0 := fun e => ⟨by have := (hA' e).1; omega, (hA' e).2⟩
  have hzt : ∀ z ∈ (zs.take 300).take j, Fx.In z := fun z hm => hz' z (List.mem_of_mem_take hm)
  have hzd : ∀ z ∈ (zs.take 300).drop j, Fx.In z := fun z hm => hz' z (List.mem_of_mem_drop hm)
  have kr1 := fun W B d (hJ : Ints W .i64 B 300 (zs.take 300)) => Run_any s t B 300 d (zs.take 300) hs ht W hJ hz' (by omega)
  have kr2 := fun W B d (hJ : Ints W .i64 B j ((zs.take 300).take j)) => Run_any s t B j d ((zs.take 300).take j) hs ht W hJ hzt (by omega)
  have hbi := runA_in t ((zs.take 300).take j) (s, 0) hs
  have kr3 := fun W B d (hJ : Ints W .i64 B (300 - j) ((zs.take 300).drop j)) => Run_any (runA t (s, 0) ((zs.take 300).take j)).1 t B (300 - j) d ((zs.take 300).drop j) hbi ht W hJ hzd (by omega)
  have hall : runA t (s, 0) (zs.take 300) = ((runA t ((runA t (s, 0) ((zs.take 300).take j)).1, 0) ((zs.take 300).drop j)).1, (runA t (s, 0) ((zs.take 300).take j)).2 + (runA t ((runA t (s, 0) ((zs.take 300).take j)).1, 0) ((zs.take 300).drop j)).2) := by
    have e := runA_append t (s, 0) ((zs.take 300).take j) ((zs.take 300).drop j)
    rw [List.take_append_drop] at e
    rw [e, ← runA_count]
  have hle := runA_le t (zs.take 300) s
  have hzl : (zs.take 300).length = 300 := s0.1
  rw [hzl, hall] at hle
  rw [hall] at kr1
  generalize runA t (s, 0) ((zs.take 300).take j) = b at *
  obtain ⟨b, m2⟩ := b
  simp only at kr1 kr2 kr3 hle
  generalize runA t (b, 0) ((zs.take 300).drop j) = u at *
  obtain ⟨u, m3⟩ := u
  simp only at kr1 kr2 kr3 hle
  obtain ⟨m1, hm1⟩ : ∃ m1, m2 + m3 = m1 := ⟨_, rfl⟩
  rw [hm1] at kr1 hle
  have te : ((m1 : Int) == (m2 : Int) + (m3 : Int)) = true := by simp; omega
  have tl2 : decide (m1 ≤ 300) = true := by simp; omega
  have hb2 : m2 ≤ 300 := by omega
  have hb3 : m3 ≤ 300 := by omega
  have tl : decide ((m1 : Int) ≤ (300 : Int)) = true := by simp; omega
  unfold St.val Tu.val at kr1 kr2 kr3
  have KR1 := Lib.hid kr1
  have KR2 := Lib.hid kr2
  have KR3 := Lib.hid kr3
  have HA := Lib.hid hA'
  have HA1 := Lib.hid hA1
  have HA2 := Lib.hid hA2
  have I0 := Lib.hid ((s0.alloc (.cells #[.int .i64 s.x, .int .i64 s.v, .int .i64 s.p, .int .i64 s.q, .int .i64 s.r, .bool s.b, .int .i64 s.m] 57)).alloc (.cells #[.int .i64 t.dt, .int .i64 t.q, .int .i64 t.r, .int .i64 t.g] 62))
  have I1 := Lib.hid ((s1.alloc (.cells #[.int .i64 s.x, .int .i64 s.v, .int .i64 s.p, .int .i64 s.q, .int .i64 s.r, .bool s.b, .int .i64 s.m] 57)).alloc (.cells #[.int .i64 t.dt, .int .i64 t.q, .int .i64 t.r, .int .i64 t.g] 62))
  have I2 := Lib.hid ((s2.alloc (.cells #[.int .i64 s.x, .int .i64 s.v, .int .i64 s.p, .int .i64 s.q, .int .i64 s.r, .bool s.b, .int .i64 s.m] 57)).alloc (.cells #[.int .i64 t.dt, .int .i64 t.q, .int .i64 t.r, .int .i64 t.g] 62))
  have TB0 := Lib.hid (show TB _ (w.heap.size + 1) t from Blk.at_ (w.alloc (.cells #[.int .i64 s.x, .int .i64 s.v, .int .i64 s.p, .int .i64 s.q, .int .i64 s.r, .bool s.b, .int .i64 s.m] 57)) (w.heap.size + 1) 62 #[.int .i64 t.dt, .int .i64 t.q, .int .i64 t.r, .int .i64 t.g] (by simp))
  have P0 := Lib.hid (ST_mk (s := s) (t := t) ((Blk.new w 57 #[.int .i64 s.x, .int .i64 s.v, .int .i64 s.p, .int .i64 s.q, .int .i64 s.r, .bool s.b, .int .i64 s.m]).alloc (.cells #[.int .i64 t.dt, .int .i64 t.q, .int .i64 t.r, .int .i64 t.g] 62)) TB0.out)
  have B0 := Lib.hid (((Below.refl w.heap.size w).alloc (Nat.le_refl _) (.cells #[.int .i64 s.x, .int .i64 s.v, .int .i64 s.p, .int .i64 s.q, .int .i64 s.r, .bool s.b, .int .i64 s.m] 57)).alloc (by simp) (.cells #[.int .i64 t.dt, .int .i64 t.q, .int .i64 t.r, .int .i64 t.g] 62))
  have hst := state_eq u.x u.v u.p u.q u.r u.m u.b
  have HST := Lib.hid hst
  unfold St.val Tu.val
  clear kr1 kr2 kr3 hA' hA1 hA2 s0 s1 s2 h hz hz' hzt hzd hs ht hA hbi hall hzl hst hm1 hle
  go_enter Try.func19, Try.ntmps19
  go_wp2_with fail
  refine (KS.out _).mono ?_
  rintro e w' ⟨rfl, rfl⟩
  go_upto_region 4 with fail
  generalize (w.alloc (.cells #[.int .i64 s.x, .int .i64 s.v, .int .i64 s.p, .int .i64 s.q, .int .i64 s.r, .bool s.b, .int .i64 s.m] 57)).alloc (.cells #[.int .i64 t.dt, .int .i64 t.q, .int .i64 t.r, .int .i64 t.g] 62) = W0 at *
  have J0 := Lib.hid (fun W (hW : Below W0.heap.size W0 W) => I0.out.next hW)
  have J1 := Lib.hid (fun W (hW : Below W0.heap.size W0 W) => I1.out.next hW)
  have J2 := Lib.hid (fun W (hW : Below W0.heap.size W0 W) => I2.out.next hW)
  clear I0 I1 I2
  go_cut [9, 10] (fun s7 s8 wx => CutVar W0 57 #[.int .i64 u.x, .int .i64 u.v, .int .i64 u.p, .int .i64 u.q, .int .i64 u.r, .bool u.b, .int .i64 u.m] s7 wx ∧ s8 = .int .i64 (m1 : Nat))
  case first =>
    have hF := (Below.refl W0.heap.size W0).drew
    go_region_held3 (fun w' => w'.cell? ⟨w.heap.size, 0, none⟩ = some (.int .i64 s.x) ∧ w'.cell? ⟨w.heap.size, 1, none⟩ = some (.int .i64 s.v) ∧ w'.cell? ⟨w.heap.size, 2, none⟩ = some (.int .i64 s.p) ∧ w'.cell? ⟨w.heap.size, 3, none⟩ = some (.int .i64 s.q) ∧ w'.cell? ⟨w.heap.size, 4, none⟩ = some (.int .i64 s.r) ∧ w'.cell? ⟨w.heap.size, 5, none⟩ = some (.bool s.b) ∧ w'.cell? ⟨w.heap.size, 6, none⟩ = some (.int .i64 s.m) ∧ w'.cell? ⟨w.heap.size + 1, 0, none⟩ = some (.int .i64 t.dt) ∧ w'.cell? ⟨w.heap.size + 1, 1, none⟩ = some (.int .i64 t.q) ∧ w'.cell? ⟨w.heap.size + 1, 2, none⟩ = some (.int .i64 t.r) ∧ w'.cell? ⟨w.heap.size + 1, 3, none⟩ = some (.int .i64 t.g))
      (first | (with_reducible exact P0.out _ hF) | (with_reducible exact P0.out _ (hF.alloc hF.size _)) | (with_reducible exact P0.out _ (((Below.refl W0.heap.size W0).alloc (Nat.le_refl _) _).drew)) | (have hS := keep7 (u := u) hF hZ.2; unfold set7 at hS; with_reducible exact P0.out _ hS))
      (first
        | (refine step_append_ints rfl (.const (.slice none 0 0)) (.tmp 28) 29 rfl W0.heap.size 3 i0 (.int .i64 0) .i64 8 Try.underlying29 hi hz0 hz1 hz2 rfl (.slice none 0 0) 0 [] (by simp [Act.eval]) (World.ownsRow_nil _ _ _ _) A 300 c (zs.take 300) (by simp [Act.eval, Act.put]) HA.out (by first | exact J0.out _ hF | exact J0.out _ (((Below.refl W0.heap.size W0).alloc (Nat.le_refl _) _).drew)) (by unfold maxLen; omega) (by omega) (by first | exact Nat.le_refl _ | (simp; done) | (simp; omega)) ?_; intro v2 w2 hown2 hg2; (simp only [Nat.zero_add, List.nil_append] at hown2); (obtain ⟨A1, c1, rfl⟩ := own_shape hown2); (first | (have hF4 := V_nextG hF hg2; have hJ := Ints.own hown2) | (have hF4 := V_startG0 hg2; have hZ := VZ.startG0 hg2; have hJ := Ints.own hown2)); clear hF hg2 hown2; have hF := hF4; clear hF4)
        | (go_at_call 52; (with_reducible refine (KR1.out _ A1 c1 ?_).mono ?_); (first | exact hJ | exact hJ.alloc _); rintro e w4 ⟨rfl, hB4⟩; (first | (have hF4 := below_next hF hB4; (try (have hZ4 := hZ.next hB4; clear hZ; have hZ := hZ4; clear hZ4))) | (have hF4 := V_alloc hF hB4; have hZ := VZ.start hF hB4)); clear hF hB4 hJ; have hF := hF4; clear hF4; (try obtain ⟨⟨y0, y1, y2, y3, y4, y5, y6⟩, f0, f1, f2, f3, f4, f5, f6⟩ := hZ.cells7)))
    all_goals (go_wp2_with fail; go_meet)
    all_goals first
      | (with_reducible exact ⟨cut_mk2 hF, rfl⟩)
      | (have hC := cut_mk1 (u := u) (k := 0) hZ hF; unfold set7 at hC; with_reducible exact ⟨hC, rfl⟩)
  case rest =>
    obtain ⟨⟨qa, rfl, hq, hB⟩, rfl⟩ := hcut
    have QA := Lib.hid hq
    have B1 := Lib.hid (below_next B0.out hB)
    have P1 := Lib.hid (fun W (hW : Below wc.heap.size wc W) => P0.out W (below_next hB hW))
    have T1 := Lib.hid (Blk.next TB0.out hB)
    have K1 := Lib.hid (fun W (hW : Below wc.heap.size wc W) => J1.out W (below_next hB hW))
    have K2 := Lib.hid (fun W (hW : Below wc.heap.size wc W) => J2.out W (below_next hB hW))
    clear hq hB P0 J0 J1 J2 KR1 B0 TB0
    obtain ⟨W1, rfl⟩ : ∃ W1 : World, W1 = wc := ⟨_, rfl⟩
    go_upto_region 5 with fail
    go_cut [11, 12] (fun s7 s8 wx => CutVar W1 57 #[.int .i64 b.x, .int .i64 b.v, .int .i64 b.p, .int .i64 b.q, .int .i64 b.r, .bool b.b, .int .i64 b.m] s7 wx ∧ s8 = .int .i64 (m2 : Nat))
    case first =>
      have hF := (Below.refl W1.heap.size W1).drew
      go_region_held3 (fun w' => w'.cell? ⟨w.heap.size, 0, none⟩ = some (.int .i64 s.x) ∧ w'.cell? ⟨w.heap.size, 1, none⟩ = some (.int .i64 s.v) ∧ w'.cell? ⟨w.heap.size, 2, none⟩ = some (.int .i64 s.p) ∧ w'.cell? ⟨w.heap.size, 3, none⟩ = some (.int .i64 s.q) ∧ w'.cell? ⟨w.heap.size, 4, none⟩ = some (.int .i64 s.r) ∧ w'.cell? ⟨w.heap.size, 5, none⟩ = some (.bool s.b) ∧ w'.cell? ⟨w.heap.size, 6, none⟩ = some (.int .i64 s.m) ∧ w'.cell? ⟨w.heap.size + 1, 0, none⟩ = some (.int .i64 t.dt) ∧ w'.cell? ⟨w.heap.size + 1, 1, none⟩ = some (.int .i64 t.q) ∧ w'.cell? ⟨w.heap.size + 1, 2, none⟩ = some (.int .i64 t.r) ∧ w'.cell? ⟨w.heap.size + 1, 3, none⟩ = some (.int .i64 t.g))
        (first | (with_reducible exact P1.out _ hF) | (with_reducible exact P1.out _ (hF.alloc hF.size _)) | (with_reducible exact P1.out _ (((Below.refl W1.heap.size W1).alloc (Nat.le_refl _) _).drew)) | (have hS := keep7 (u := b) hF hZ.2; unfold set7 at hS; with_reducible exact P1.out _ hS))
        (first
          | (refine step_append_ints rfl (.const (.slice none 0 0)) (.tmp 38) 29 rfl W1.heap.size 3 i0 (.int .i64 0) .i64 8 Try.underlying29 hi hz0 hz1 hz2 rfl (.slice none 0 0) 0 [] (by simp [Act.eval]) (World.ownsRow_nil _ _ _ _) A j c ((zs.take 300).take j) (by simp [Act.eval, Act.put]) HA2.out (by first | exact K2.out _ hF | exact K2.out _ (((Below.refl W1.heap.size W1).alloc (Nat.le_refl _) _).drew)) (by unfold maxLen; omega) (by omega) (by first | exact Nat.le_refl _ | (simp; done) | (simp; omega)) ?_; intro v2 w2 hown2 hg2; (simp only [Nat.zero_add, List.nil_append] at hown2); (obtain ⟨A1, c1, rfl⟩ := own_shape hown2); (first | (have hF4 := V_nextG hF hg2; have hJ := Ints.own hown2) | (have hF4 := V_startG0 hg2; have hZ := VZ.startG0 hg2; have hJ := Ints.own hown2)); clear hF hg2 hown2; have hF := hF4; clear hF4)
          | (go_at_call 52; (with_reducible refine (KR2.out _ A1 c1 ?_).mono ?_); (first | exact hJ | exact hJ.alloc _); rintro e w4 ⟨rfl, hB4⟩; (first | (have hF4 := below_next hF hB4; (try (have hZ4 := hZ.next hB4; clear hZ; have hZ := hZ4; clear hZ4))) | (have hF4 := V_alloc hF hB4; have hZ := VZ.start hF hB4)); clear hF hB4 hJ; have hF := hF4; clear hF4; (try obtain ⟨⟨y0, y1, y2, y3, y4, y5, y6⟩, f0, f1, f2, f3, f4, f5, f6⟩ := hZ.cells7)))
      all_goals (go_wp2_with fail; go_meet)
      all_goals first
        | (with_reducible exact ⟨cut_mk2 hF, rfl⟩)
        | (have hC := cut_mk1 (u := b) (k := 0) hZ hF; unfold set7 at hC; with_reducible exact ⟨hC, rfl⟩)
    case rest =>
      obtain ⟨⟨qb, rfl, hq, hB⟩, rfl⟩ := hcut
      have B2 := Lib.hid (below_next B1.out hB)
      have QA2 := Lib.hid (QA.out.next hB)
      have P2 := Lib.hid (ST_mk (s := b) (t := t) hq (Blk.next T1.out hB))
      have L1 := Lib.hid (fun W (hW : Below wc.heap.size wc W) => K1.out W (below_next hB hW))
      clear hq hB P1 K1 K2 KR2 B1 QA T1
      obtain ⟨W2, rfl⟩ : ∃ W2 : World, W2 = wc := ⟨_, rfl⟩
      go_upto_region 6 with fail
      go_cut [13, 14] (fun s7 s8 wx => CutVar W2 57 #[.int .i64 u.x, .int .i64 u.v, .int .i64 u.p, .int .i64 u.q, .int .i64 u.r, .bool u.b, .int .i64 u.m] s7 wx ∧ s8 = .int .i64 (m3 : Nat))
      case first =>
        have hF := (Below.refl W2.heap.size W2).drew
        go_region_held3 (fun w' => w'.cell? ⟨qb, 0, none⟩ = some (.int .i64 b.x) ∧ w'.cell? ⟨qb, 1, none⟩ = some (.int .i64 b.v) ∧ w'.cell? ⟨qb, 2, none⟩ = some (.int .i64 b.p) ∧ w'.cell? ⟨qb, 3, none⟩ = some (.int .i64 b.q) ∧ w'.cell? ⟨qb, 4, none⟩ = some (.int .i64 b.r) ∧ w'.cell? ⟨qb, 5, none⟩ = some (.bool b.b) ∧ w'.cell? ⟨qb, 6, none⟩ = some (.int .i64 b.m) ∧ w'.cell? ⟨w.heap.size + 1, 0, none⟩ = some (.int .i64 t.dt) ∧ w'.cell? ⟨w.heap.size + 1, 1, none⟩ = some (.int .i64 t.q) ∧ w'.cell? ⟨w.heap.size + 1, 2, none⟩ = some (.int .i64 t.r) ∧ w'.cell? ⟨w.heap.size + 1, 3, none⟩ = some (.int .i64 t.g))
          (first | (with_reducible exact P2.out _ hF) | (with_reducible exact P2.out _ (hF.alloc hF.size _)) | (with_reducible exact P2.out _ (((Below.refl W2.heap.size W2).alloc (Nat.le_refl _) _).drew)) | (have hS := keep7 (u := u) hF hZ.2; unfold set7 at hS; with_reducible exact P2.out _ hS))
          (first
            | (refine step_append_ints rfl (.const (.slice none 0 0)) (.tmp 48) 29 rfl W2.heap.size 3 i0 (.int .i64 0) .i64 8 Try.underlying29 hi hz0 hz1 hz2 rfl (.slice none 0 0) 0 [] (by simp [Act.eval]) (World.ownsRow_nil _ _ _ _) A' (300 - j) (c - j) ((zs.take 300).drop j) (by simp [Act.eval, Act.put]) HA1.out (by first | exact L1.out _ hF | exact L1.out _ (((Below.refl W2.heap.size W2).alloc (Nat.le_refl _) _).drew)) (by unfold maxLen; omega) (by omega) (by first | exact Nat.le_refl _ | (simp; done) | (simp; omega)) ?_; intro v2 w2 hown2 hg2; (simp only [Nat.zero_add, List.nil_append] at hown2); (obtain ⟨A1, c1, rfl⟩ := own_shape hown2); (first | (have hF4 := V_nextG hF hg2; have hJ := Ints.own hown2) | (have hF4 := V_startG0 hg2; have hZ := VZ.startG0 hg2; have hJ := Ints.own hown2)); clear hF hg2 hown2; have hF := hF4; clear hF4)
            | (go_at_call 52; (with_reducible refine (KR3.out _ A1 c1 ?_).mono ?_); (first | exact hJ | exact hJ.alloc _); rintro e w4 ⟨rfl, hB4⟩; (first | (have hF4 := below_next hF hB4; (try (have hZ4 := hZ.next hB4; clear hZ; have hZ := hZ4; clear hZ4))) | (have hF4 := V_alloc hF hB4; have hZ := VZ.start hF hB4)); clear hF hB4 hJ; have hF := hF4; clear hF4; (try obtain ⟨⟨y0, y1, y2, y3, y4, y5, y6⟩, f0, f1, f2, f3, f4, f5, f6⟩ := hZ.cells7)))
        all_goals (go_wp2_with fail; go_meet)
        all_goals first
          | (with_reducible exact ⟨cut_mk2 hF, rfl⟩)
          | (have hC := cut_mk1 (u := u) (k := 0) hZ hF; unfold set7 at hC; with_reducible exact ⟨hC, rfl⟩)
      case rest =>
        obtain ⟨⟨qc, rfl, hq, hB⟩, rfl⟩ := hcut
        have B3 := Lib.hid (below_next B2.out hB)
        have QA3 := Lib.hid (QA2.out.next hB)
        have QC := Lib.hid hq
        clear hq hB P2 L1 KR3 B2 QA2
        go_wp2_with fail
        refine (follows_any _).mono ?_
        rintro e w2 ⟨rfl, hB2⟩
        obtain ⟨c0, c1, c2, c3, c4, c5, c6⟩ := SB.c (s := u) (QA3.out.next hB2)
        obtain ⟨d0, d1, d2, d3, d4, d5, d6⟩ := SB.c (s := u) (QC.out.next hB2)
        have B4 := Lib.hid (below_next B3.out hB2)
        clear hB2 QA3 QC B3
        have hst := HST.out
        go_wp2_with fail
        go_ret
        exact ⟨rfl, B4.out⟩

set_option maxRecDepth 100000 in
theorem walk {H : Type} {enc : TypeId × Value → H} {d0 d1 d2 d3 : DataW H} {p0 p1 p2 p3 : List MemPlace} (v0 v1 v2 v3 : Value) (W : World) (base : Nat)
    (h0 : Value.okWide Try.prog W .any base 57 v0) (_ : DataW.Trod enc Try.prog W 0 (fun _ => true) true 57 v0 d0 p0)
    (h1 : Value.okWide Try.prog W .any base 62 v1) (_ : DataW.Trod enc Try.prog W 0 (fun _ => true) true 62 v1 d1 p1)
    (h2 : Value.okWide Try.prog W .any base 29 v2) (k2 : DataW.Trod enc Try.prog W 0 (fun _ => true) true 29 v2 d2 p2)
    (h3 : Value.okWide Try.prog W .any base 3 v3) (_ : DataW.Trod enc Try.prog W 0 (fun _ => true) true 3 v3 d3 p3)
    (s2 : ∀ es sp, d2 = .slice es sp → (es.length + sp.length) * Try.prog.bytesOf 3 ≤ reachBytes) :
    Calls Try.prog 19 #[v0, v1, v2, v3] W fun e w' => e = .returned (.bool true) ∧ Below W.heap.size W w' := by
  obtain ⟨s, rfl, hs⟩ := state_in h0
  obtain ⟨t, rfl, ht⟩ := tun_in h1
  obtain ⟨A, n, c, zs, rfl, hI, hz, hA, hnc, hc⟩ := list_in h2 k2 s2
  obtain ⟨x, rfl, _⟩ := ok_int Try.underlying3 h3
  by_cases hn : n ≤ 300
  · exact walkN s t A n c zs x hs ht W hI hz hA hnc hc hn
  · exact walkG s t A n c zs x hs ht W hI hz hA hnc hc (by omega)
end Go.Proofs.Ytflaanfmanileaa.lawFilterCut
