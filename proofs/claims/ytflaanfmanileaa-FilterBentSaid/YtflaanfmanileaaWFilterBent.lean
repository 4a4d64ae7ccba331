/- The walk of FilterBent: what was bent once stays bent. -/
import Derived.Test.YtflaanfmanileaaFilOpen
import Derived.Test.YtflaanfmanileaaCutVar
import Derived.Test.YtflaanfmanileaaSpot
import Derived.Deep.CutRange
import Derived.Deep.DeepCutAuto
set_option linter.unusedVariables false
namespace Go.Proofs.Ytflaanfmanileaa
open Go.RowKit Go.Proofs.Ytflaanfmanileaa Fx Fi
theorem VZ.cells7 {W0 W : World} {q : Nat} (hZ : VZ W0 W q 57 #[.int .i64 0, .int .i64 0, .int .i64 0, .int .i64 0, .int .i64 0, .bool false, .int .i64 0]) : (W.cell? ⟨q, 0, none⟩ = some (.int .i64 (⟨0, 0, 0, 0, 0, false, 0⟩ : St).x) ∧ W.cell? ⟨q, 1, none⟩ = some (.int .i64 (⟨0, 0, 0, 0, 0, false, 0⟩ : St).v) ∧ W.cell? ⟨q, 2, none⟩ = some (.int .i64 (⟨0, 0, 0, 0, 0, false, 0⟩ : St).p) ∧ W.cell? ⟨q, 3, none⟩ = some (.int .i64 (⟨0, 0, 0, 0, 0, false, 0⟩ : St).q) ∧ W.cell? ⟨q, 4, none⟩ = some (.int .i64 (⟨0, 0, 0, 0, 0, false, 0⟩ : St).r) ∧ W.cell? ⟨q, 5, none⟩ = some (.bool (⟨0, 0, 0, 0, 0, false, 0⟩ : St).b) ∧ W.cell? ⟨q, 6, none⟩ = some (.int .i64 (⟨0, 0, 0, 0, 0, false, 0⟩ : St).m)) ∧ W.frozen? ⟨q, 0, none⟩ = false ∧ W.frozen? ⟨q, 1, none⟩ = false ∧ W.frozen? ⟨q, 2, none⟩ = false ∧ W.frozen? ⟨q, 3, none⟩ = false ∧ W.frozen? ⟨q, 4, none⟩ = false ∧ W.frozen? ⟨q, 5, none⟩ = false ∧ W.frozen? ⟨q, 6, none⟩ = false :=
  ⟨SB.c (s := ⟨0, 0, 0, 0, 0, false, 0⟩) hZ.1, SB.frz (s := ⟨0, 0, 0, 0, 0, false, 0⟩) hZ.1⟩
end Go.Proofs.Ytflaanfmanileaa
namespace Go.Proofs.Ytflaanfmanileaa.lawFilterBent
open Go.RowKit Go.Proofs.Ytflaanfmanileaa Fx Fi
attribute [local go_sem ↓] Go.wp_at_zero Go.wp_at_succ

theorem infoInt : (Try.prog.info? 3).map (fun i => (i.zero, i.size, i.bytes)) = some (some (.int .i64 0), 1, 8) := by kernel_rfl
theorem cut_mk1 {W0 W : World} {q : Nat} {u : St} {k : Nat} (hZ : VZ W0 W q 57 #[.int .i64 0, .int .i64 0, .int .i64 0, .int .i64 0, .int .i64 0, .bool false, .int .i64 0]) (hF : Below W0.heap.size W0 W) : CutVar W0 57 #[.int .i64 u.x, .int .i64 u.v, .int .i64 u.p, .int .i64 u.q, .int .i64 u.r, .bool u.b, .int .i64 u.m] (.pointer (some ⟨q, 0, none⟩)) (set7 W q u) :=
  ⟨q, rfl, sb_set7 (s0 := ⟨0, 0, 0, 0, 0, false, 0⟩) hZ.1 u, below7 hF hZ.2 u⟩
theorem cut_mk2 {W0 W : World} {u : St} (hF : Below W0.heap.size W0 W) : CutVar W0 57 #[.int .i64 u.x, .int .i64 u.v, .int .i64 u.p, .int .i64 u.q, .int .i64 u.r, .bool u.b, .int .i64 u.m] (.pointer (some ⟨W.heap.size, 0, none⟩)) (W.alloc (.cells #[.int .i64 u.x, .int .i64 u.v, .int .i64 u.p, .int .i64 u.q, .int .i64 u.r, .bool u.b, .int .i64 u.m] 57)) :=
  ⟨_, rfl, Blk.new _ _ _, hF.alloc hF.size _⟩
theorem keep7 {W0 W : World} {q : Nat} {u : St} (hF : Below W0.heap.size W0 W) (hq : W0.heap.size ≤ q) : Below W0.heap.size W0 (set7 W q u) := below7 hF hq u
/-- a state at a block that stood before -/
theorem ST_mk {W0 : World} {a b : Nat} {s : St} {t : Tu} (hs : SB W0 a s) (ht : TB W0 b t) : ∀ W, Below W0.heap.size W0 W → W.cell? ⟨a, 0, none⟩ = some (.int .i64 s.x) ∧ W.cell? ⟨a, 1, none⟩ = some (.int .i64 s.v) ∧ W.cell? ⟨a, 2, none⟩ = some (.int .i64 s.p) ∧ W.cell? ⟨a, 3, none⟩ = some (.int .i64 s.q) ∧ W.cell? ⟨a, 4, none⟩ = some (.int .i64 s.r) ∧ W.cell? ⟨a, 5, none⟩ = some (.bool s.b) ∧ W.cell? ⟨a, 6, none⟩ = some (.int .i64 s.m) ∧ W.cell? ⟨b, 0, none⟩ = some (.int .i64 t.dt) ∧ W.cell? ⟨b, 1, none⟩ = some (.int .i64 t.q) ∧ W.cell? ⟨b, 2, none⟩ = some (.int .i64 t.r) ∧ W.cell? ⟨b, 3, none⟩ = some (.int .i64 t.g) := fun W hW =>
  ⟨Blk.cell (hs.next hW) 0, Blk.cell (hs.next hW) 1, Blk.cell (hs.next hW) 2, Blk.cell (hs.next hW) 3, Blk.cell (hs.next hW) 4, Blk.cell (hs.next hW) 5, Blk.cell (hs.next hW) 6, Blk.cell (Blk.next ht hW) 0, Blk.cell (Blk.next ht hW) 1, Blk.cell (Blk.next ht hW) 2, Blk.cell (Blk.next ht hW) 3⟩

set_option maxRecDepth 100000 in
set_option maxHeartbeats 2000000 in
theorem walkN (s : St) (t : Tu) (A : Option Addr) (n c : Nat) (zs : List Int) (hs : s.In) (ht : t.In) (w : World) (h : Ints w .i64 A n zs) (hz : ∀ z ∈ zs, Fx.In z) (hA : A = none → n = 0 ∧ c = 0) (hnc : n ≤ c) (hc : c * 8 ≤ 140737488351232) (hn : n ≤ 300) :
    Calls Try.prog 20 #[s.val, t.val, .slice A n c] w fun e w' => e = .returned (.bool true) ∧ Below w.heap.size w w' := by
  obtain ⟨i0, hi, hz0, hz1, hz2⟩ := info_parts infoInt
  have hz' := hz
  have s2 := h
  have t0 : decide (300 < (n : Int)) = false := by simp; omega
  have hA' := hA
  have hs' : (⟨s.x, s.v, s.p, s.q, s.r, true, s.m⟩ : St).In := hs
  have kr := fun W B d (hJ : Ints W .i64 B n zs) => Run_any ⟨s.x, s.v, s.p, s.q, s.r, true, s.m⟩ t B n d zs hs' ht W hJ hz' (by omega)
  have hb := runA_bent t zs (⟨s.x, s.v, s.p, s.q, s.r, true, s.m⟩, 0) rfl
  generalize runA t (⟨s.x, s.v, s.p, s.q, s.r, true, s.m⟩, 0) zs = a at *
  obtain ⟨u, k⟩ := a
  simp only at hb kr
  unfold St.val Tu.val at kr
  simp only at kr
  have KR := Lib.hid kr
  have HB := Lib.hid hb
  have HA := Lib.hid hA'
  have I0 := Lib.hid ((s2.alloc (.cells #[.int .i64 s.x, .int .i64 s.v, .int .i64 s.p, .int .i64 s.q, .int .i64 s.r, .bool true, .int .i64 s.m] 57)).alloc (.cells #[.int .i64 t.dt, .int .i64 t.q, .int .i64 t.r, .int .i64 t.g] 62))
  have P0 := Lib.hid (ST_mk (s := ⟨s.x, s.v, s.p, s.q, s.r, true, s.m⟩) (t := t) ((Blk.new w 57 #[.int .i64 s.x, .int .i64 s.v, .int .i64 s.p, .int .i64 s.q, .int .i64 s.r, .bool true, .int .i64 s.m]).alloc (.cells #[.int .i64 t.dt, .int .i64 t.q, .int .i64 t.r, .int .i64 t.g] 62)) (Blk.at_ (w.alloc (.cells #[.int .i64 s.x, .int .i64 s.v, .int .i64 s.p, .int .i64 s.q, .int .i64 s.r, .bool true, .int .i64 s.m] 57)) (w.heap.size + 1) 62 #[.int .i64 t.dt, .int .i64 t.q, .int .i64 t.r, .int .i64 t.g] (by simp)))
  have B0 := Lib.hid (((Below.refl w.heap.size w).alloc (Nat.le_refl _) (.cells #[.int .i64 s.x, .int .i64 s.v, .int .i64 s.p, .int .i64 s.q, .int .i64 s.r, .bool true, .int .i64 s.m] 57)).alloc (by simp) (.cells #[.int .i64 t.dt, .int .i64 t.q, .int .i64 t.r, .int .i64 t.g] 62))
  unfold St.val Tu.val
  clear kr hb hA' s2 h hz hz' hs hs' ht hA
  go_enter Try.func20, Try.ntmps20
  go_upto_region 4 with fail
  generalize (w.alloc (.cells #[.int .i64 s.x, .int .i64 s.v, .int .i64 s.p, .int .i64 s.q, .int .i64 s.r, .bool true, .int .i64 s.m] 57)).alloc (.cells #[.int .i64 t.dt, .int .i64 t.q, .int .i64 t.r, .int .i64 t.g] 62) = W0 at *
  have PS := P0
  have I := Lib.hid (fun W (hW : Below W0.heap.size W0 W) => I0.out.next hW)
  clear P0 I0
  go_cut [7, 8] (fun s7 s8 wx => CutVar W0 57 #[.int .i64 u.x, .int .i64 u.v, .int .i64 u.p, .int .i64 u.q, .int .i64 u.r, .bool u.b, .int .i64 u.m] s7 wx ∧ s8 = .int .i64 (k : Nat))
  case first =>
    have hF := (Below.refl W0.heap.size W0).drew
    go_region_held3 (fun w' => w'.cell? ⟨w.heap.size, 0, none⟩ = some (.int .i64 s.x) ∧ w'.cell? ⟨w.heap.size, 1, none⟩ = some (.int .i64 s.v) ∧ w'.cell? ⟨w.heap.size, 2, none⟩ = some (.int .i64 s.p) ∧ w'.cell? ⟨w.heap.size, 3, none⟩ = some (.int .i64 s.q) ∧ w'.cell? ⟨w.heap.size, 4, none⟩ = some (.int .i64 s.r) ∧ w'.cell? ⟨w.heap.size, 5, none⟩ = some (.bool true) ∧ w'.cell? ⟨w.heap.size, 6, none⟩ = some (.int .i64 s.m) ∧ w'.cell? ⟨w.heap.size + 1, 0, none⟩ = some (.int .i64 t.dt) ∧ w'.cell? ⟨w.heap.size + 1, 1, none⟩ = some (.int .i64 t.q) ∧ w'.cell? ⟨w.heap.size + 1, 2, none⟩ = some (.int .i64 t.r) ∧ w'.cell? ⟨w.heap.size + 1, 3, none⟩ = some (.int .i64 t.g))
      (first | (with_reducible exact PS.out _ hF) | (with_reducible exact PS.out _ (hF.alloc hF.size _)) | (with_reducible exact PS.out _ (((Below.refl W0.heap.size W0).alloc (Nat.le_refl _) _).drew)) | (have hS := keep7 (u := u) hF hZ.2; unfold set7 at hS; with_reducible exact PS.out _ hS))
      (first
        | (refine step_append_ints rfl (.const (.slice none 0 0)) (.tmp 18) 29 rfl W0.heap.size 3 i0 (.int .i64 0) .i64 8 Try.underlying29 hi hz0 hz1 hz2 rfl (.slice none 0 0) 0 [] (by simp [Act.eval]) (World.ownsRow_nil _ _ _ _) A n c zs (by simp [Act.eval, Act.put]) HA.out (by first | exact I.out _ hF | exact I.out _ (((Below.refl W0.heap.size W0).alloc (Nat.le_refl _) _).drew)) (by unfold maxLen; omega) (by omega) (by first | exact Nat.le_refl _ | (simp; done) | (simp; omega)) ?_; intro v2 w2 hown2 hg2; (simp only [Nat.zero_add, List.nil_append] at hown2); (obtain ⟨A1, c1, rfl⟩ := own_shape hown2); (first | (have hF4 := V_nextG hF hg2; have hJ := Ints.own hown2) | (have hF4 := V_startG0 hg2; have hZ := VZ.startG0 hg2; have hJ := Ints.own hown2)); clear hF hg2 hown2; have hF := hF4; clear hF4)
        | (go_at_call 52; (with_reducible refine (KR.out _ A1 c1 ?_).mono ?_); (first | exact hJ | exact hJ.alloc _); rintro e w4 ⟨rfl, hB4⟩; (first | (have hF4 := below_next hF hB4; (try (have hZ4 := hZ.next hB4; clear hZ; have hZ := hZ4; clear hZ4))) | (have hF4 := V_alloc hF hB4; have hZ := VZ.start hF hB4)); clear hF hB4 hJ; have hF := hF4; clear hF4; (try obtain ⟨⟨y0, y1, y2, y3, y4, y5, y6⟩, f0, f1, f2, f3, f4, f5, f6⟩ := hZ.cells7)))
    all_goals (go_wp2_with fail; go_meet)
    all_goals first
      | (with_reducible exact ⟨cut_mk2 hF, rfl⟩)
      | (have hC := cut_mk1 (u := u) (k := 0) hZ hF; unfold set7 at hC; with_reducible exact ⟨hC, rfl⟩)
  case rest =>
    obtain ⟨⟨q, rfl, hq, hB⟩, rfl⟩ := hcut
    have Q := Lib.hid hq
    have B1 := Lib.hid (below_next B0.out hB)
    clear hq hB PS I KR
    go_wp2_with fail
    refine (follows_any _).mono ?_
    rintro e w2 ⟨rfl, hB2⟩
    have d5 := (Q.out.next hB2).cell 5
    simp only [List.getElem?_toArray, List.getElem?_cons_zero, List.getElem?_cons_succ] at d5
    rw [HB.out] at d5
    have B2 := Lib.hid (below_next B1.out hB2)
    clear hB2 Q B1
    go_wp2_with fail
    go_ret
    exact ⟨rfl, B2.out⟩

set_option maxRecDepth 100000 in
set_option maxHeartbeats 2000000 in
theorem walkG (s : St) (t : Tu) (A : Option Addr) (n c : Nat) (zs : List Int) (hs : s.In) (ht : t.In) (w : World) (h : Ints w .i64 A n zs) (hz : ∀ z ∈ zs, Fx.In z) (hA : A = none → n = 0 ∧ c = 0) (hnc : n ≤ c) (hc : c * 8 ≤ 140737488351232) (hn : 300 < n) :
    Calls Try.prog 20 #[s.val, t.val, .slice A n c] w fun e w' => e = .returned (.bool true) ∧ Below w.heap.size w w' := by
  obtain ⟨i0, hi, hz0, hz1, hz2⟩ := info_parts infoInt
  have hz' : ∀ z ∈ zs.take 300, Fx.In z := fun z hm => hz z (List.mem_of_mem_take hm)
  obtain ⟨r2', s2⟩ := cut_to (P := Try.prog) (kd := .i64) (k := 300) Try.underlying29 hi h (Nat.le_of_lt hn) hnc
  have r2 : ∀ W : World, (Instr.slice 29 (.slice A n c) none (some (.int .i64 300)) none).run Try.prog W = .ok (.slice A 300 c) W := r2'
  have t0 : decide (300 < (n : Int)) = true := by simp; omega
  have hA' : A = none → 300 = 0 ∧ c = 0 := fun e => absurd (hA e).1 (by omega)
  have hs' : (⟨s.x, s.v, s.p, s.q, s.r, true, s.m⟩ : St).In := hs
  have kr := fun W B d (hJ : Ints W .i64 B 300 (zs.take 300)) => Run_any ⟨s.x, s.v, s.p, s.q, s.r, true, s.m⟩ t B 300 d (zs.take 300) hs' ht W hJ hz' (by omega)
  have hb := runA_bent t (zs.take 300) (⟨s.x, s.v, s.p, s.q, s.r, true, s.m⟩, 0) rfl
  generalize runA t (⟨s.x, s.v, s.p, s.q, s.r, true, s.m⟩, 0) (zs.take 300) = a at *
  obtain ⟨u, k⟩ := a
  simp only at hb kr
  unfold St.val Tu.val at kr
  simp only at kr
  have KR := Lib.hid kr
  have HB := Lib.hid hb
  have HA := Lib.hid hA'
  have I0 := Lib.hid ((s2.alloc (.cells #[.int .i64 s.x, .int .i64 s.v, .int .i64 s.p, .int .i64 s.q, .int .i64 s.r, .bool true, .int .i64 s.m] 57)).alloc (.cells #[.int .i64 t.dt, .int .i64 t.q, .int .i64 t.r, .int .i64 t.g] 62))
  have P0 := Lib.hid (ST_mk (s := ⟨s.x, s.v, s.p, s.q, s.r, true, s.m⟩) (t := t) ((Blk.new w 57 #[.int .i64 s.x, .int .i64 s.v, .int .i64 s.p, .int .i64 s.q, .int .i64 s.r, .bool true, .int .i64 s.m]).alloc (.cells #[.int .i64 t.dt, .int .i64 t.q, .int .i64 t.r, .int .i64 t.g] 62)) (Blk.at_ (w.alloc (.cells #[.int .i64 s.x, .int .i64 s.v, .int .i64 s.p, .int .i64 s.q, .int .i64 s.r, .bool true, .int .i64 s.m] 57)) (w.heap.size + 1) 62 #[.int .i64 t.dt, .int .i64 t.q, .int .i64 t.r, .int .i64 t.g] (by simp)))
  have B0 := Lib.hid (((Below.refl w.heap.size w).alloc (Nat.le_refl _) (.cells #[.int .i64 s.x, .int .i64 s.v, .int .i64 s.p, .int .i64 s.q, .int .i64 s.r, .bool true, .int .i64 s.m] 57)).alloc (by simp) (.cells #[.int .i64 t.dt, .int .i64 t.q, .int .i64 t.r, .int .i64 t.g] 62))
  unfold St.val Tu.val
  clear kr hb hA' s2 h hz hz' hs hs' ht hA
  go_enter Try.func20, Try.ntmps20
  go_upto_region 4 with fail
  generalize (w.alloc (.cells #[.int .i64 s.x, .int .i64 s.v, .int .i64 s.p, .int .i64 s.q, .int .i64 s.r, .bool true, .int .i64 s.m] 57)).alloc (.cells #[.int .i64 t.dt, .int .i64 t.q, .int .i64 t.r, .int .i64 t.g] 62) = W0 at *
  have PS := P0
  have I := Lib.hid (fun W (hW : Below W0.heap.size W0 W) => I0.out.next hW)
  clear P0 I0
  go_cut [7, 8] (fun s7 s8 wx => CutVar W0 57 #[.int .i64 u.x, .int .i64 u.v, .int .i64 u.p, .int .i64 u.q, .int .i64 u.r, .bool u.b, .int .i64 u.m] s7 wx ∧ s8 = .int .i64 (k : Nat))
  case first =>
    have hF := (Below.refl W0.heap.size W0).drew
    go_region_held3 (fun w' => w'.cell? ⟨w.heap.size, 0, none⟩ = some (.int .i64 s.x) ∧ w'.cell? ⟨w.heap.size, 1, none⟩ = some (.int .i64 s.v) ∧ w'.cell? ⟨w.heap.size, 2, none⟩ = some (.int .i64 s.p) ∧ w'.cell? ⟨w.heap.size, 3, none⟩ = some (.int .i64 s.q) ∧ w'.cell? ⟨w.heap.size, 4, none⟩ = some (.int .i64 s.r) ∧ w'.cell? ⟨w.heap.size, 5, none⟩ = some (.bool true) ∧ w'.cell? ⟨w.heap.size, 6, none⟩ = some (.int .i64 s.m) ∧ w'.cell? ⟨w.heap.size + 1, 0, none⟩ = some (.int .i64 t.dt) ∧ w'.cell? ⟨w.heap.size + 1, 1, none⟩ = some (.int .i64 t.q) ∧ w'.cell? ⟨w.heap.size + 1, 2, none⟩ = some (.int .i64 t.r) ∧ w'.cell? ⟨w.heap.size + 1, 3, none⟩ = some (.int .i64 t.g))
      (first | (with_reducible exact PS.out _ hF) | (with_reducible exact PS.out _ (hF.alloc hF.size _)) | (with_reducible exact PS.out _ (((Below.refl W0.heap.size W0).alloc (Nat.le_refl _) _).drew)) | (have hS := keep7 (u := u) hF hZ.2; unfold set7 at hS; with_reducible exact PS.out _ hS))
      (first
        | (refine step_append_ints rfl (.const (.slice none 0 0)) (.tmp 18) 29 rfl W0.heap.size 3 i0 (.int .i64 0) .i64 8 Try.underlying29 hi hz0 hz1 hz2 rfl (.slice none 0 0) 0 [] (by simp [Act.eval]) (World.ownsRow_nil _ _ _ _) A 300 c (zs.take 300) (by simp [Act.eval, Act.put]) HA.out (by first | exact I.out _ hF | exact I.out _ (((Below.refl W0.heap.size W0).alloc (Nat.le_refl _) _).drew)) (by unfold maxLen; omega) (by omega) (by first | exact Nat.le_refl _ | (simp; done) | (simp; omega)) ?_; intro v2 w2 hown2 hg2; (simp only [Nat.zero_add, List.nil_append] at hown2); (obtain ⟨A1, c1, rfl⟩ := own_shape hown2); (first | (have hF4 := V_nextG hF hg2; have hJ := Ints.own hown2) | (have hF4 := V_startG0 hg2; have hZ := VZ.startG0 hg2; have hJ := Ints.own hown2)); clear hF hg2 hown2; have hF := hF4; clear hF4)
        | (go_at_call 52; (with_reducible refine (KR.out _ A1 c1 ?_).mono ?_); (first | exact hJ | exact hJ.alloc _); rintro e w4 ⟨rfl, hB4⟩; (first | (have hF4 := below_next hF hB4; (try (have hZ4 := hZ.next hB4; clear hZ; have hZ := hZ4; clear hZ4))) | (have hF4 := V_alloc hF hB4; have hZ := VZ.start hF hB4)); clear hF hB4 hJ; have hF := hF4; clear hF4; (try obtain ⟨⟨y0, y1, y2, y3, y4, y5, y6⟩, f0, f1, f2, f3, f4, f5, f6⟩ := hZ.cells7)))
    all_goals (go_wp2_with fail; go_meet)
    all_goals first
      | (with_reducible exact ⟨cut_mk2 hF, rfl⟩)
      | (have hC := cut_mk1 (u := u) (k := 0) hZ hF; unfold set7 at hC; with_reducible exact ⟨hC, rfl⟩)
  case rest =>
    obtain ⟨⟨q, rfl, hq, hB⟩, rfl⟩ := hcut
    have Q := Lib.hid hq
    have B1 := Lib.hid (below_next B0.out hB)
    clear hq hB PS I KR
    go_wp2_with fail
    refine (follows_any _).mono ?_
    rintro e w2 ⟨rfl, hB2⟩
    have d5 := (Q.out.next hB2).cell 5
    simp only [List.getElem?_toArray, List.getElem?_cons_zero, List.getElem?_cons_succ] at d5
    rw [HB.out] at d5
    have B2 := Lib.hid (below_next B1.out hB2)
    clear hB2 Q B1
    go_wp2_with fail
    go_ret
    exact ⟨rfl, B2.out⟩

set_option maxRecDepth 100000 in
theorem walk {H : Type} {enc : TypeId × Value → H} {d0 d1 d2 : DataW H} {p0 p1 p2 : List MemPlace} (v0 v1 v2 : Value) (W : World) (base : Nat)
    (h0 : Value.okWide Try.prog W .any base 57 v0) (_ : DataW.Trod enc Try.prog W 0 (fun _ => true) true 57 v0 d0 p0)
    (h1 : Value.okWide Try.prog W .any base 62 v1) (_ : DataW.Trod enc Try.prog W 0 (fun _ => true) true 62 v1 d1 p1)
    (h2 : Value.okWide Try.prog W .any base 29 v2) (k2 : DataW.Trod enc Try.prog W 0 (fun _ => true) true 29 v2 d2 p2)
    (s2 : ∀ es sp, d2 = .slice es sp → (es.length + sp.length) * Try.prog.bytesOf 3 ≤ reachBytes) :
    Calls Try.prog 20 #[v0, v1, v2] W fun e w' => e = .returned (.bool true) ∧ Below W.heap.size W w' := by
  obtain ⟨s, rfl, hs⟩ := state_in h0
  obtain ⟨t, rfl, ht⟩ := tun_in h1
  obtain ⟨A, n, c, zs, rfl, hI, hz, hA, hnc, hc⟩ := list_in h2 k2 s2
  by_cases hn : n ≤ 300
  · exact walkN s t A n c zs hs ht W hI hz hA hnc hc hn
  · exact walkG s t A n c zs hs ht W hI hz hA hnc hc (by omega)
end Go.Proofs.Ytflaanfmanileaa.lawFilterBent
