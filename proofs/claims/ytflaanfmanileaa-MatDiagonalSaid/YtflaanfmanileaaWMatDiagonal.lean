/- The walk of MatDiagonal: Solve answers just the quotients. -/
import Derived.Test.YtflaanfmanileaaDiaTo
import Derived.Test.YtflaanfmanileaaSpot
import Derived.Deep.CutRange
import Derived.Deep.DeepCutAuto
set_option linter.unusedVariables false
namespace Go.Proofs.Ytflaanfmanileaa.lawMatDiagonal
open Go.RowKit Go.Proofs.Ytflaanfmanileaa Fx Mt
attribute [local go_sem ↓] Go.wp_at_zero Go.wp_at_succ

def CutN (a b : Nat) (w : World) (s : Value) (wx : World) : Prop := ∃ n : Nat, s = .int .i64 (n : Int) ∧ n = min (min a b) 6 ∧ wx = w
theorem CutN.mk {a b : Nat} {w : World} (v : Int) (h : v = ((min (min a b) 6 : Nat) : Int)) : CutN a b w (.int .i64 v) w := ⟨_, by rw [h], rfl, rfl⟩

def Rel (w0 : World) (n : Nat) (d : Nat → Int) (ov iv : Value) (W : World) : Prop := ∃ i : Nat, i ≤ n ∧ iv = .int .i64 i ∧ ov = .bool (okTo d i) ∧ DFr w0 W n (diaTo n d i)

def Rel2 (w0 : World) (n : Nat) (iv : Value) (W : World) : Prop := ∃ i : Nat, i ≤ n ∧ iv = .int .i64 i ∧ Below w0.heap.size w0 W

set_option maxRecDepth 100000 in
/-- a list that came in -/
theorem listIn {H : Type} {enc : TypeId × Value → H} {W : World} {base : Nat} {v : Value} {d : DataW H} {p : List MemPlace} (h0 : Value.okWide Try.prog W .any base 29 v)
    (k0 : DataW.Trod enc Try.prog W 0 (fun _ => true) true 29 v d p) (s0 : ∀ es sp, d = .slice es sp → (es.length + sp.length) * Try.prog.bytesOf 3 ≤ reachBytes) :
    ∃ (A : Option Addr) (n c : Nat) (zs : List Int), v = .slice A n c ∧ Ints W .i64 A n zs ∧ (∀ z ∈ zs, In z) ∧ (A = none → n = 0 ∧ c = 0) ∧ n ≤ c ∧ c * 8 ≤ 140737488351232 := by
  obtain ⟨A, n, c, rfl, hnc, _, hA, _⟩ := ok_slice Try.underlying29 h0
  obtain ⟨zs, hI, hz, _, hr⟩ := ints_in Try.underlying29 Try.underlying3 (by kernel_rfl) k0 s0
  have hb : Try.prog.bytesOf 3 = 8 := by kernel_rfl
  rw [hb] at hr
  refine ⟨A, n, c, zs, rfl, hI, fun z h => ?_, hA, hnc, by unfold reachBytes at hr; omega⟩
  unfold In
  simpa [Lit.wf, IntKind.has, IntKind.min, IntKind.max, IntKind.signed, IntKind.bits] using hz z h

set_option maxRecDepth 100000 in
set_option maxHeartbeats 8000000 in
theorem walk1 (A B : Option Addr) (a b c d : Nat) (ds bs : List Int) (w : World) (hA : Ints w .i64 A a ds) (hB : Ints w .i64 B b bs) (hds : ∀ z ∈ ds, In z) (hbs : ∀ z ∈ bs, In z) (hac : a ≤ c) (hbd : b ≤ d) (hnA : A = none → a = 0 ∧ c = 0) (hnB : B = none → b = 0 ∧ d = 0) (hc : c * 8 ≤ 140737488355328) (hd : d * 8 ≤ 140737488355328) :
    Calls Try.prog 22 #[.slice A a c, .slice B b d] w fun e w' => e = .returned (.bool true) ∧ Below w.heap.size w w' := by
  have HA := Lib.hid hA
  have HB := Lib.hid hB
  go_enter Try.func22, Try.ntmps22
  go_upto_region 1 with fail
  go_cut [5] (fun s wx => CutN a b w s wx)
  case first =>
    have hS := CutN.mk (a := a) (b := b) (w := w)
    by_cases g1 : b < a
    · by_cases g2 : (b : Int) ≤ 6
      · go_wp2_with fail
        go_meet
        exact hS _ (by omega)
      · go_wp2_with fail
        go_meet
        exact hS _ (by omega)
    · by_cases g2 : (a : Int) ≤ 6
      · go_wp2_with fail
        go_meet
        exact hS _ (by omega)
      · go_wp2_with fail
        go_meet
        exact hS _ (by omega)
  case rest =>
    obtain ⟨n, rfl, hn, rfl⟩ := hcut
    obtain ⟨w, rfl⟩ : ∃ w : World, w = wc := ⟨_, rfl⟩
    by_cases h0 : n = 0
    · subst h0
      go_wp2_with fail
      refine (stands_any _).mono ?_
      rintro e w1 ⟨rfl, hB1⟩
      go_wp2_with fail
      go_ret
      exact ⟨rfl, hB1⟩
    · have hn1 : n ≤ a := by omega
      have hn2 : n ≤ b := by omega
      have hn6 : n ≤ 6 := by omega
      have hnn : n * n ≤ 36 := Nat.le_trans (Nat.mul_le_mul hn6 hn6) (by omega)
      have hq1 : (0 : Int) ≤ (n : Int) * (n : Int) := by exact_mod_cast Nat.zero_le (n * n)
      have hq2 : (n : Int) * (n : Int) ≤ 36 := by exact_mod_cast hnn
      obtain ⟨i0, hi, hz0, hz1, hz2⟩ := info_parts infoIntF
      have hi0' := hi
      clear hn
      go_wp2_with (refine wpList_make_ints rfl (.tmp 26) (.tmp 26) 29 rfl 3 i0 Try.underlying29 hi hz0 hz1 hz2 _ (n * n) rfl rfl (by rfl) (by omega) ?_)
      obtain ⟨gA, oA, eA, hgA, hcA⟩ := hA.2 (by omega)
      obtain ⟨gB, oB, eB, hgB, hcB⟩ := hB.2 (by omega)
      obtain ⟨D, hD⟩ : ∃ D : Nat → Int, D = fun j => ds.getD j 0 := ⟨_, rfl⟩
      have HCA : Hid (∀ j, j < a → w.cell? ⟨gA, oA + j, none⟩ = some (.int .i64 (D j))) := Lib.hid (by rw [hD]; exact hcA)
      have HDI0 : Hid (∀ j, In (D j)) := Lib.hid (by rw [hD]; exact Go.Proofs.Ytflaanfmanileaa.Mt.getD_in hds)
      clear hD
      have HCB := Lib.hid hcB
      have HF := Lib.hid (show DFr w ((w.alloc (.cells (tabN (n * n) fun _ => 0) 3)).alloc (.cells #[.int .i64 n, .slice (some ⟨w.heap.size, 0, none⟩) (n * n) (n * n)] 31)) n (diaTo n D 0) by
        rw [diaTo_zero]
        exact ⟨(Blk.new _ _ _).alloc _, Blk.at_ _ _ _ _ (by simp), ((Below.refl _ _).alloc (Nat.le_refl _) _).alloc (by simp) _⟩)
      clear hcA hcB
      subst eA
      subst eB
      go_loopw [7, 8] (fun ov iv W => Rel w n D ov iv W) (fun _ iv _ => n - (intOf iv).toNat)
      case atStart => exact ⟨0, by omega, rfl, rfl, HF.out⟩
      case round =>
        clear HF
        obtain ⟨i, hi, rfl, rfl, hF⟩ := hrel
        generalize wr = wq at *
        by_cases hin : i < n
        · have hx := idx_lt hin hin
          have cA : wq.drew.cell? ⟨gA, oA + i, none⟩ = some (.int .i64 (D i)) := (hF.drew.2.2.cell (p := ⟨gA, oA + i, none⟩) hgA).trans (HCA.out i (by omega))
          have hst := diaTo_step (n := n) D hin
          have hok := okTo_succ D i
          have cA2 := fun W (hB : Below w.heap.size w W) => (hB.cell (p := ⟨gA, oA + i, none⟩) hgA).trans (HCA.out i (by omega))
          have CA2 := Lib.hid cA2
          have hst : updI (diaTo n D i) (i * n + i) (D i) = diaTo n D (i + 1) := hst
          have hok : okTo D (i + 1) = (okTo D i && decide (D i > 0)) := hok
          generalize hdi : D i = di at cA hst hok
          have HDI := Lib.hid hdi
          have HST := Lib.hid hst
          have HOK := Lib.hid hok
          have hq1 : (0 : Int) ≤ (i : Int) * (n : Int) := by exact_mod_cast Nat.zero_le (i * n)
          have hq2 : (i : Int) * (n : Int) ≤ 36 := by exact_mod_cast (show i * n ≤ 36 by omega)
          have hq3 : (i : Int) * (n : Int) + (i : Int) ≤ 36 := by exact_mod_cast (show i * n + i ≤ 36 by omega)
          have hq5 : (0 : Int) ≤ (i : Int) * (n : Int) + (i : Int) := by exact_mod_cast Nat.zero_le (i * n + i)
          have hq4 : (i : Int) * (n : Int) + (i : Int) < (n : Int) * (n : Int) := by exact_mod_cast hx
          have hq6 : ((i : Int) * (n : Int) + (i : Int)).toNat = i * n + i := by
            rw [show (i : Int) * (n : Int) + (i : Int) = ((i * n + i : Nat) : Int) by push_cast; rfl]; rfl
          have hq7 : IntKind.i64.wrap ((i : Int) * (n : Int)) = (i : Int) * (n : Int) := IntWalk.i64_in _ (by omega)
          have hq8 : IntKind.i64.wrap ((i : Int) * (n : Int) + (i : Int)) = (i : Int) * (n : Int) + (i : Int) := IntWalk.i64_in _ (by omega)
          have z1 : (0 : Int) ≤ (i : Int) := by omega
          have z2 : (i : Int) < (a : Int) := by omega
          have d0 := hF.drew.1.cell (i * n + i)
          rw [tabN_get _ hx] at d0
          have f0 := hF.drew.1.frozen (i * n + i)
          have HF := Lib.hid hF
          clear hF hst hok hdi cA2
          go_wp2_with fail
          have hF := HF.out.drew
          refine wp_region_F 12 (fun w' => w'.cell? ⟨w.heap.size + 1, 1, none⟩ = some (.slice (some ⟨w.heap.size, 0, none⟩) (n * n) (n * n)) ∧ w'.cell? ⟨gA, oA + i, none⟩ = some (.int .i64 di)) (by kernel_rfl) ⟨hF.2.1.cell 1, cA⟩ (fun hS => ?_)
          refine wpAnyF_take (i := 0) (v := ?_) rfl (by kernel_rfl) (by kernel_rfl) (by kernel_rfl) (by kernel_rfl) (fun _ _ _ h => h) (Or.inl ⟨by rfl, fun wx hSw => ?_⟩) hS ?_
          rotate_left
          · (try dsimp only at hSw); go_simp; (try with_reducible rfl)
          try simp only [Act.put, List.setIfInBounds_toArray, List.set_cons_zero, List.set_cons_succ]
          refine wpAnyF_take (i := 1) (v := ?_) rfl (by kernel_rfl) (by kernel_rfl) (by kernel_rfl) (by kernel_rfl) (fun _ _ _ h => h) (Or.inl ⟨by rfl, fun wx hSw => ?_⟩) hS ?_
          rotate_left
          · (try dsimp only at hSw); go_simp; (try with_reducible rfl)
          try simp only [Act.put, List.setIfInBounds_toArray, List.set_cons_zero, List.set_cons_succ]
          refine wpAnyF_take (i := 2) (v := ?_) rfl (by kernel_rfl) (by kernel_rfl) (by kernel_rfl) (by kernel_rfl) (fun _ _ _ h => h) (Or.inl ⟨by rfl, fun wx hSw => ?_⟩) hS ?_
          rotate_left
          · (try dsimp only at hSw); go_simp; (try with_reducible rfl)
          try simp only [Act.put, List.setIfInBounds_toArray, List.set_cons_zero, List.set_cons_succ]
          refine wpAnyF_take (i := 3) (v := ?_) rfl (by kernel_rfl) (by kernel_rfl) (by kernel_rfl) (by kernel_rfl) (fun _ _ _ h => h) (Or.inl ⟨by rfl, fun wx hSw => ?_⟩) hS ?_
          rotate_left
          · (try dsimp only at hSw); go_simp; (try with_reducible rfl)
          try simp only [Act.put, List.setIfInBounds_toArray, List.set_cons_zero, List.set_cons_succ]
          refine wpAnyF_take (i := 4) (v := ?_) rfl (by kernel_rfl) (by kernel_rfl) (by kernel_rfl) (by kernel_rfl) (fun _ _ _ h => h) (Or.inl ⟨by rfl, fun wx hSw => ?_⟩) hS ?_
          rotate_left
          · (try dsimp only at hSw); go_simp; (try with_reducible rfl)
          try simp only [Act.put, List.setIfInBounds_toArray, List.set_cons_zero, List.set_cons_succ]
          refine wpAnyF_take (i := 5) (v := ?_) rfl (by kernel_rfl) (by kernel_rfl) (by kernel_rfl) (by kernel_rfl) (fun _ _ _ h => h) (Or.inl ⟨by rfl, fun wx hSw => ?_⟩) hS ?_
          rotate_left
          · (try dsimp only at hSw); go_simp; (try with_reducible rfl)
          try simp only [Act.put, List.setIfInBounds_toArray, List.set_cons_zero, List.set_cons_succ]
          refine wpAnyF_take (i := 6) (v := ?_) rfl (by kernel_rfl) (by kernel_rfl) (by kernel_rfl) (by kernel_rfl) (fun _ _ _ h => h) (Or.inl ⟨by rfl, fun wx hSw => ?_⟩) hS ?_
          rotate_left
          · (try dsimp only at hSw); go_simp; (try with_reducible rfl)
          try simp only [Act.put, List.setIfInBounds_toArray, List.set_cons_zero, List.set_cons_succ]
          refine wpAnyF_take (i := 7) (v := ?_) rfl (by kernel_rfl) (by kernel_rfl) (by kernel_rfl) (by kernel_rfl) (fun _ _ _ h => h) (Or.inl ⟨by rfl, fun wx hSw => ?_⟩) hS ?_
          rotate_left
          · (try dsimp only at hSw); go_simp; (try with_reducible rfl)
          try simp only [Act.put, List.setIfInBounds_toArray, List.set_cons_zero, List.set_cons_succ]
          refine wpAnyF_take (i := 8) (v := ?_) rfl (by kernel_rfl) (by kernel_rfl) (by kernel_rfl) (by kernel_rfl) (fun _ _ _ h => h) (Or.inl ⟨by rfl, fun wx hSw => ?_⟩) hS ?_
          rotate_left
          · (try dsimp only at hSw); go_simp; (try with_reducible rfl)
          try simp only [Act.put, List.setIfInBounds_toArray, List.set_cons_zero, List.set_cons_succ]
          refine wpAnyF_take (i := 9) (v := ?_) rfl (by kernel_rfl) (by kernel_rfl) (by kernel_rfl) (by kernel_rfl) (fun _ _ _ h => h) (Or.inl ⟨by rfl, fun wx hSw => ?_⟩) hS ?_
          rotate_left
          · (try dsimp only at hSw); go_simp; (try with_reducible rfl)
          try simp only [Act.put, List.setIfInBounds_toArray, List.set_cons_zero, List.set_cons_succ]
          refine wpAnyF_take (i := 10) (v := ?_) rfl (by kernel_rfl) (by kernel_rfl) (by kernel_rfl) (by kernel_rfl) (fun _ _ _ h => h) (Or.inl ⟨by rfl, fun wx hSw => ?_⟩) hS ?_
          rotate_left
          · (try dsimp only at hSw); go_simp; (try with_reducible rfl)
          try simp only [Act.put, List.setIfInBounds_toArray, List.set_cons_zero, List.set_cons_succ]
          refine wpAnyF_take (i := 11) (v := ?_) rfl (by kernel_rfl) (by kernel_rfl) (by kernel_rfl) (by kernel_rfl) (fun _ _ _ h => h) (Or.inl ⟨by rfl, fun wx hSw => ?_⟩) hS ?_
          rotate_left
          · (try dsimp only at hSw); go_simp; (try with_reducible rfl)
          try simp only [Act.put, List.setIfInBounds_toArray, List.set_cons_zero, List.set_cons_succ]
          clear hS
          refine wpAnyF_last rfl (by kernel_rfl) (by kernel_rfl) (fun K hK => ?_)
          go_simp
          refine hK.out _ _ ?_
          clear hK K
          try simp only [Act.put, List.setIfInBounds_toArray, List.set_cons_zero, List.set_cons_succ]
          have hF2 := (hF.set_ hx di).to HST.out
          have cA3 := CA2.out _ hF2.2.2
          rw [HDI.out] at cA3
          have cA4 : ((wq.setCell ⟨w.heap.size, i * n + i, none⟩ (.int .i64 di)).drew).cell? ⟨gA, oA + i, none⟩ = some (.int .i64 di) := cA3
          have HF2 : Hid (DFr w ((wq.setCell ⟨w.heap.size, i * n + i, none⟩ (.int .i64 di)).drew) n (diaTo n D (i + 1))) := Lib.hid hF2
          clear cA3
          clear hF hF2 d0 f0 cA
          cases hoo : okTo D i with
          | true =>
            rw [hoo] at HOK
            go_wp2_with fail
            go_roundw
            case rel =>
              exact ⟨i + 1, by omega, by go_num, by rw [HOK.out] <;> rfl, HF2.out⟩
            case measure => simp [intOf]; omega
          | false =>
            rw [hoo] at HOK
            go_wp2_with fail
            go_roundw
            case rel =>
              exact ⟨i + 1, by omega, by go_num, by rw [HOK.out] <;> rfl, HF2.out⟩
            case measure => simp [intOf]; omega
        · obtain rfl : n = i := by omega
          have hM := hF.1
          rw [diaTo_all] at hM
          have hP := hF.2.1
          have hB1 := hF.2.2
          have c0 := hP.cell 0
          have c1 := hP.cell 1
          simp only [List.getElem?_toArray, List.getElem?_cons_zero, List.getElem?_cons_succ] at c0 c1
          obtain ⟨r1, s1⟩ := cut_to (P := Try.prog) (kd := .i64) Try.underlying29 hi0' HB.out hn2 hbd
          have R1 := r1
          have S1 := Lib.hid (fun W (hW : Below w.heap.size w W) => s1.next hW)
          have HBI := Lib.hid hbs
          have HM := Lib.hid (fun W (hW : Below wq.heap.size wq W) => hM.next hW)
          have HP := Lib.hid (fun W (hW : Below wq.heap.size wq W) => hP.next hW)
          have B1 := Lib.hid hB1
          clear hF hM hP hB1 r1 s1
          clear hds hbs
          have hC : ∀ W0, DFr w W0 n (diaF n D) → 0 ≤ n := fun _ _ => Nat.zero_le _
          go_upto_region 11 with fail
          have hbase : w.heap.size ≤ wq.heap.size := B1.out.size
          have ksol : ∀ W A2 c2, Nums W (some ⟨w.heap.size, 0, none⟩) (n * n) (diaF n D) → Ints W .i64 A2 n (bs.take n) → Calls Try.prog 54 #[.agg #[.int .i64 n, .slice (some ⟨w.heap.size, 0, none⟩) (n * n) (n * n)], .slice A2 n c2] W (SolPost n (diaF n D) (fun j => (bs.take n).getD j 0) W) :=
            fun W A2 c2 hA2 hB2 => Solve_any n (n * n) c2 _ _ (diaF n D) (bs.take n) (by omega) hn6 W hA2 (fun t _ => by unfold diaF; split; exact HDI0.out _; unfold In; omega) hB2 (fun z hz => HBI.out z (List.mem_of_mem_take hz))
          have hF := (Below.refl wq.heap.size wq).drew
          by_cases hpos : ∀ j, j < n → 0 < D j
          · have ksol2 : ∀ W A2 c2, Nums W (some ⟨w.heap.size, 0, none⟩) (n * n) (diaF n D) → Ints W .i64 A2 n (bs.take n) → Calls Try.prog 54 #[.agg #[.int .i64 n, .slice (some ⟨w.heap.size, 0, none⟩) (n * n) (n * n)], .slice A2 n c2] W fun e w' =>
                ∃ gx o X, e = .returned (.tuple #[.slice (some ⟨gx, 0, none⟩) n n, .bool o, .int .i64 0]) ∧ RowX w' gx n X ∧ (∀ j, j < n → X j = divR (bs.getD j 0) (D j)) ∧ Below W.heap.size W w' := by
              intro W A2 c2 hA2 hB2
              refine (ksol W A2 c2 hA2 hB2).mono ?_
              rintro e w' (⟨hok, gx, o, X, he, hgx, hX, hXs, hB⟩ | ⟨hno, _⟩)
              · refine ⟨gx, o, X, he, hX, fun j hj => ?_, hB⟩
                rw [hXs.2 (fac_dia (fun j _ => HDI0.out j) n (Nat.le_refl _) hpos).2 j hj]
                unfold divTo
                rw [if_pos hj, piv_dia (fun j _ => HDI0.out j) hj (fun k hk => hpos k (by omega))]
                congr 1
                simp [List.getD, hj]
              · exact absurd ((dia_pos (fun j _ => HDI0.out j)).2 hpos) hno
            have KSOL := Lib.hid ksol2
            have hot : okTo D n = true := (okTo_iff D n).2 hpos
            have HPOS := Lib.hid hpos
            clear ksol ksol2 hpos
            rw [hot]
            clear hot
            go_region_held3 (fun w' => w'.cell? ⟨w.heap.size + 1, 0, none⟩ = some (.int .i64 n) ∧ w'.cell? ⟨w.heap.size + 1, 1, none⟩ = some (.slice (some ⟨w.heap.size, 0, none⟩) (n * n) (n * n))) (exact ⟨(HP.out _ hF).cell 0, (HP.out _ hF).cell 1⟩) (first
              | (refine step_append_ints rfl (.const (.slice none 0 0)) (.tmp 58) 29 rfl wq.heap.size 3 i0 (.int .i64 0) .i64 8 Try.underlying29 hi0' hz0 hz1 hz2 rfl (.slice none 0 0) 0 [] (by simp [Act.eval]) (World.ownsRow_nil _ _ _ _) (some ⟨gB, oB, none⟩) n d (bs.take n) (by simp [Act.eval, Act.put]) (fun e => by cases e) (S1.out _ (B1.out.drew)) (by unfold maxLen; omega) (by omega) (by simp) ?_; intro v2 w2 hown2 hg2; (simp only [Nat.zero_add, List.nil_append] at hown2); (obtain ⟨A2, c2, rfl⟩ := own_shape hown2); have hI2 := Ints.own hown2; have hF4 := hF.grown hg2 (by simp) (fun j hj => by cases hj); clear hF hown2 hg2; have hF := hF4; clear hF4)
              | (go_at_call 54; (with_reducible refine (KSOL.out _ A2 c2 (nums_blk (HM.out _ hF)) hI2).mono ?_); rintro e w4 ⟨gx, o, X, rfl, hX, hXs, hB4⟩; have hF4 := below_next hF hB4; clear hF hB4; have hF := hF4; clear hF4))
            have B2 := Lib.hid (below_next B1.out hF)
            have HX := Lib.hid hX
            have HXS := Lib.hid hXs
            clear hF hX hXs HM HP KSOL c0 c1
            go_wp2_with fail
            go_loopw [12] (fun iv W => Rel2 w4 n iv W) (fun iv _ => n - (intOf iv).toNat)
            case atStart => exact ⟨0, by omega, rfl, Below.refl _ _⟩
            case round =>
              obtain ⟨i, hi, rfl, hG⟩ := hrel
              generalize wr = wq at *
              by_cases hin : i < n
              · have cB := fun W (hW : Below w4.heap.size w4 W) => ((below_next B2.out hW).cell (p := ⟨gB, oB + i, none⟩) hgB).trans (HCB.out i (by omega))
                have cA := fun W (hW : Below w4.heap.size w4 W) => ((below_next B2.out hW).cell (p := ⟨gA, oA + i, none⟩) hgA).trans (HCA.out i (by omega))
                have hXi := HXS.out i hin
                have kdiv := fun W => div_any (bs.getD i 0) (D i) (Go.Proofs.Ytflaanfmanileaa.Mt.getD_in HBI.out i) (HDI0.out i) W
                have kcx := fun W (hW : Below w4.heap.size w4 W) => (HX.out.next hW).cell hin
                rw [hXi] at kcx
                have KCX := Lib.hid kcx
                clear kcx
                generalize divB (bs.getD i 0) (D i) = o1 at *
                generalize divR (bs.getD i 0) (D i) = s at *
                generalize bs.getD i 0 = bi at *
                generalize D i = di at *
                have KDIV := Lib.hid kdiv
                have CA := Lib.hid cA
                have CB := Lib.hid cB
                clear cA cB
                have z1 : (0 : Int) ≤ (i : Int) := by omega
                have z2 : (i : Int) < (a : Int) := by omega
                have z3 : (i : Int) < (b : Int) := by omega
                have z4 : (i : Int) < (n : Int) := by omega
                have hG2 := hG.drew
                have HG := Lib.hid hG
                clear kdiv hXi hG
                go_wp2_with fail
                go_region_held3 (fun w' => w'.cell? ⟨gB, oB + i, none⟩ = some (.int .i64 bi) ∧ w'.cell? ⟨gA, oA + i, none⟩ = some (.int .i64 di)) (exact ⟨CB.out _ hG2, CA.out _ hG2⟩) ((go_at_call 40; (with_reducible refine (KDIV.out _).mono ?_); rintro e w5 ⟨rfl, hB5⟩; have hG3 := below_next hG2 hB5; clear hG2 hB5; have hG2 := hG3; clear hG3; have cX := KCX.out _ hG2))
                have HG3 := Lib.hid hG2
                clear hG2
                have t1 : (s != s) = false := by simp
                go_wp2_with fail
                go_roundw
                case rel => exact ⟨i + 1, by omega, by go_num, HG3.out⟩
                case measure => simp [intOf]; omega
              · obtain rfl : n = i := by omega
                have B3 := Lib.hid (below_next B2.out hG)
                clear hG
                go_wp2_with fail
                refine (stands_any _).mono ?_
                rintro e w6 ⟨rfl, hB6⟩
                have B4 := Lib.hid (below_next B3.out hB6)
                clear hB6
                go_wp2_with fail
                go_ret
                exact ⟨rfl, B4.out⟩
          · have ksol2 : ∀ W A2 c2, Nums W (some ⟨w.heap.size, 0, none⟩) (n * n) (diaF n D) → Ints W .i64 A2 n (bs.take n) → Calls Try.prog 54 #[.agg #[.int .i64 n, .slice (some ⟨w.heap.size, 0, none⟩) (n * n) (n * n)], .slice A2 n c2] W fun e w' =>
                e = .returned (.tuple #[.slice none 0 0, .bool false, .int .i64 9]) ∧ Below W.heap.size W w' := by
              intro W A2 c2 hA2 hB2
              refine (ksol W A2 c2 hA2 hB2).mono ?_
              rintro e w' (⟨hok, _⟩ | ⟨hno, he, hB⟩)
              · exact absurd ((dia_pos (fun j _ => HDI0.out j)).1 hok) hpos
              · exact ⟨he, hB⟩
            have KSOL := Lib.hid ksol2
            have hot : okTo D n = false := by
              cases h : okTo D n with
              | false => rfl
              | true => exact absurd ((okTo_iff D n).1 h) hpos
            clear ksol ksol2 hpos
            rw [hot]
            clear hot
            go_region_held3 (fun w' => w'.cell? ⟨w.heap.size + 1, 0, none⟩ = some (.int .i64 n) ∧ w'.cell? ⟨w.heap.size + 1, 1, none⟩ = some (.slice (some ⟨w.heap.size, 0, none⟩) (n * n) (n * n))) (exact ⟨(HP.out _ hF).cell 0, (HP.out _ hF).cell 1⟩) (first
              | (refine step_append_ints rfl (.const (.slice none 0 0)) (.tmp 58) 29 rfl wq.heap.size 3 i0 (.int .i64 0) .i64 8 Try.underlying29 hi0' hz0 hz1 hz2 rfl (.slice none 0 0) 0 [] (by simp [Act.eval]) (World.ownsRow_nil _ _ _ _) (some ⟨gB, oB, none⟩) n d (bs.take n) (by simp [Act.eval, Act.put]) (fun e => by cases e) (S1.out _ (B1.out.drew)) (by unfold maxLen; omega) (by omega) (by simp) ?_; intro v2 w2 hown2 hg2; (simp only [Nat.zero_add, List.nil_append] at hown2); (obtain ⟨A2, c2, rfl⟩ := own_shape hown2); have hI2 := Ints.own hown2; have hF4 := hF.grown hg2 (by simp) (fun j hj => by cases hj); clear hF hown2 hg2; have hF := hF4; clear hF4)
              | (go_at_call 54; (with_reducible refine (KSOL.out _ A2 c2 (nums_blk (HM.out _ hF)) hI2).mono ?_); rintro e w4 ⟨rfl, hB4⟩; have hF4 := below_next hF hB4; clear hF hB4; have hF := hF4; clear hF4))
            have B2 := Lib.hid (below_next B1.out hF)
            clear hF HM HP KSOL c0 c1
            go_wp2_with fail
            refine (stands_any _).mono ?_
            rintro e w6 ⟨rfl, hB6⟩
            have B4 := Lib.hid (below_next B2.out hB6)
            clear hB6
            go_wp2_with fail
            go_ret
            exact ⟨rfl, B4.out⟩

set_option maxRecDepth 100000 in
theorem walk {H : Type} {enc : TypeId × Value → H} {d0 d1 : DataW H} {p0 p1 : List MemPlace} (v0 v1 : Value) (W : World) (base : Nat)
    (h0 : Value.okWide Try.prog W .any base 29 v0) (k0 : DataW.Trod enc Try.prog W 0 (fun _ => true) true 29 v0 d0 p0)
    (h1 : Value.okWide Try.prog W .any base 29 v1) (k1 : DataW.Trod enc Try.prog W 0 (fun _ => true) true 29 v1 d1 p1)
    (s0 : ∀ es sp, d0 = .slice es sp → (es.length + sp.length) * Try.prog.bytesOf 3 ≤ reachBytes) (s1 : ∀ es sp, d1 = .slice es sp → (es.length + sp.length) * Try.prog.bytesOf 3 ≤ reachBytes) :
    Calls Try.prog 22 #[v0, v1] W fun e w' => e = .returned (.bool true) ∧ Below W.heap.size W w' := by
  obtain ⟨A, a, c, zs, rfl, hI, hz, hnA, hac, hc⟩ := listIn h0 k0 s0
  obtain ⟨B, b, d, ys, rfl, hJ, hy, hnB, hbd, hd⟩ := listIn h1 k1 s1
  exact walk1 A B a b c d zs ys W hI hJ hz hy hac hbd hnA hnB (by omega) (by omega)
end Go.Proofs.Ytflaanfmanileaa.lawMatDiagonal
