/- The walk of MemberGoes: two dissents put a node out, three assents let it in again. -/
import Derived.Test.YtllgjbjcdenchaaMemLaw
set_option linter.unusedVariables false
namespace Go.Proofs.Ytllgjbjcdenchaa.lawMemberGoes
open Go.RowKit Go.Proofs.Ytllgjbjcdenchaa Mb
attribute [local go_sem ↓] Go.wp_at_zero Go.wp_at_succ

def all_ : Nat → Bool := fun _ => true
def one_ (q : Nat) : Nat → Bool := upd all_ q false
def nxt (R : Rl) (A : Nat → Bool) : Rl := (stepTo R A 4).1
/-- behind the first k dissents -/
def down (q : Nat) : Nat → Rl
  | 0 => RB0
  | k + 1 => nxt (down q k) (one_ q)
/-- .. and k assents -/
def up_ (q : Nat) : Nat → Rl
  | 0 => down q 2
  | k + 1 => nxt (up_ q k) all_
theorem down_good (q : Nat) : ∀ k, Mb.Good (down q k)
  | 0 => RB0_good
  | k + 1 => step_good (down_good q k) 4 (by omega)
theorem up_good (q : Nat) : ∀ k, Mb.Good (up_ q k)
  | 0 => down_good q 2
  | k + 1 => step_good (up_good q k) 4 (by omega)
theorem down_in {q k : Nat} (hq : q < 4) (hk : k < 2) : (nxt (down q k) (one_ q)).inn q = decide ((k : Int) + 1 < 2) ∧ decide (0 < (stepTo (down q k) (one_ q) 4).2.length) = ((k : Int) + 1 == 2) := by
  have hq' : q = 0 ∨ q = 1 ∨ q = 2 ∨ q = 3 := by omega
  have hk' : k = 0 ∨ k = 1 := by omega
  rcases hq' with rfl | rfl | rfl | rfl <;> rcases hk' with rfl | rfl <;> decide
theorem up_in {q k : Nat} (hq : q < 4) (hk : k < 3) : (nxt (up_ q k) all_).inn q = ((k : Int) + 1 == 3) ∧ decide (0 < (stepTo (up_ q k) all_ 4).2.length) = ((k : Int) + 1 == 3) := by
  have hq' : q = 0 ∨ q = 1 ∨ q = 2 ∨ q = 3 := by omega
  have hk' : k = 0 ∨ k = 1 ∨ k = 2 := by omega
  rcases hq' with rfl | rfl | rfl | rfl <;> rcases hk' with rfl | rfl | rfl <;> decide
theorem end_cells {q : Nat} (hq : q < 4) : ((up_ q 3).inn 0 = true ∧ (up_ q 3).inn 1 = true ∧ (up_ q 3).inn 2 = true ∧ (up_ q 3).inn 3 = true) ∧ ((up_ q 3).miss 0 = 0 ∧ (up_ q 3).miss 1 = 0 ∧ (up_ q 3).miss 2 = 0 ∧ (up_ q 3).miss 3 = 0) ∧
    ((up_ q 3).join 0 = 0 ∧ (up_ q 3).join 1 = 0 ∧ (up_ q 3).join 2 = 0 ∧ (up_ q 3).join 3 = 0) := by
  have hq' : q = 0 ∨ q = 1 ∨ q = 2 ∨ q = 3 := by omega
  rcases hq' with rfl | rfl | rfl | rfl <;> decide
theorem end_roll {q : Nat} (hq : q < 4) : rollC (up_ q 3) = #[.bool true, .bool true, .bool true, .bool true, .int .i64 0, .int .i64 0, .int .i64 0, .int .i64 0, .int .i64 0, .int .i64 0, .int .i64 0, .int .i64 0] := by
  obtain ⟨⟨a, b, c, d⟩, ⟨e, f, g, h⟩, ⟨i, j, k, l⟩⟩ := end_cells hq
  unfold rollC
  rw [a, b, c, d, e, f, g, h, i, j, k, l]
theorem begin_lit (w : World) : Calls Try.prog 34 #[] w fun e w' => e = .returned (.agg #[.bool true, .bool true, .bool true, .bool true, .int .i64 0, .int .i64 0, .int .i64 0, .int .i64 0, .int .i64 0, .int .i64 0, .int .i64 0, .int .i64 0]) ∧ Below w.heap.size w w' := begin_any w
theorem roll_eq (w : World) : (Op.equalIn 10000 56 (.agg #[.bool true, .bool true, .bool true, .bool true, .int .i64 0, .int .i64 0, .int .i64 0, .int .i64 0, .int .i64 0, .int .i64 0, .int .i64 0, .int .i64 0]) (.agg #[.bool true, .bool true, .bool true, .bool true, .int .i64 0, .int .i64 0, .int .i64 0, .int .i64 0, .int .i64 0, .int .i64 0, .int .i64 0, .int .i64 0])).run Try.prog w = .ok true w := eql_self (by kernel_rfl) (by kernel_rfl) w
theorem one_cells {q : Nat} (hq : q < 4) : ([Value.bool true, .bool true, .bool true, .bool true].set q (.bool false)).toArray = #[.bool (one_ q 0), .bool (one_ q 1), .bool (one_ q 2), .bool (one_ q 3)] := by
  have hq' : q = 0 ∨ q = 1 ∨ q = 2 ∨ q = 3 := by omega
  rcases hq' with rfl | rfl | rfl | rfl <;> rfl

/-- the blocks of the law, at a world on the way -/
def Fr (w : World) (gr ga gb q : Nat) (R : Rl) (wr : World) : Prop := RB wr gr R ∧ Blk wr ga 28 #[.bool (all_ 0), .bool (all_ 1), .bool (all_ 2), .bool (all_ 3)] ∧ Blk wr gb 28 #[.bool (one_ q 0), .bool (one_ q 1), .bool (one_ q 2), .bool (one_ q 3)] ∧ Below w.heap.size w wr
def Rel1 (w : World) (gr ga gb q : Nat) (i : Value) (wr : World) : Prop := ∃ k : Nat, k ≤ 2 ∧ i = .int .i64 k ∧ Fr w gr ga gb q (down q k) wr
def Rel2 (w : World) (gr ga gb q : Nat) (i : Value) (wr : World) : Prop := ∃ k : Nat, k ≤ 3 ∧ i = .int .i64 k ∧ Fr w gr ga gb q (up_ q k) wr

set_option maxRecDepth 100000 in
set_option maxHeartbeats 8000000 in
theorem walk1 (x : Int) (w : World) :
    Calls Try.prog 16 #[.int .i64 x] w fun e w' => e = .returned (.bool true) ∧ Below w.heap.size w w' := by
  obtain ⟨q, hq⟩ : ∃ q : Nat, x % 4 = (q : Int) := ⟨(x % 4).toNat, by omega⟩
  have hq4 : q < 4 := by omega
  have ks := fun (W : World) => spot_any x 4 W (by omega) (by omega)
  rw [hq] at ks
  have Ks := Lib.hid ks
  clear ks hq
  go_enter Try.func16, Try.ntmps16
  go_wp2_with fail
  refine (Ks.out _).mono ?_
  rintro e w' ⟨rfl, rfl⟩
  go_wp2_with fail
  refine (begin_any _).mono ?_
  rintro e w1 ⟨rfl, hB1⟩
  have hnw : RB (w1.alloc (.cells (rollC R0) 56)) w1.heap.size R0 := Blk.new _ _ _
  have HN := Lib.hid hnw
  have HB1 := Lib.hid (hB1.alloc hB1.size (.cells (rollC R0) 56))
  have hs1 := hB1.size
  have hz1 : (0 : Int) ≤ (q : Int) := by omega
  have hz2 : (q : Int) < 4 := by omega
  clear hnw hB1
  go_wp2_with (refine wpList_store_blk rfl 56 (.tmp 3) (.tmp 16) rfl w1.heap.size _ _ (rollC RB0) rfl rfl HN.out rfl (by kernel_rfl) (rollC_one _) ?_; intro w2 hR2 hg2; have HR2 := Lib.hid hR2; have hl2 := Blk.lt hR2; have HB2 := Lib.hid (HB1.out.grown hg2 (by simp; omega) (fun j hj => by cases hj; omega)); clear hR2 hg2)
  clear HN HB1 Ks
  have HF : Hid (Fr w w1.heap.size w2.heap.size (w2.heap.size + 1) q RB0 ((w2.alloc (.cells #[.bool true, .bool true, .bool true, .bool true] 28)).alloc (.cells ([Value.bool true, .bool true, .bool true, .bool true].set q (.bool false)).toArray 28))) := by
    refine ⟨Blk.alloc (Blk.alloc HR2.out _) _, (Blk.new _ _ _).alloc _, ?_, (HB2.out.alloc HB2.out.size _).alloc (by have := HB2.out.size; simp; omega) _⟩
    have hz := Blk.at_ (w2.alloc (.cells #[.bool true, .bool true, .bool true, .bool true] 28)) (w2.heap.size + 1) 28 ([Value.bool true, .bool true, .bool true, .bool true].set q (.bool false)).toArray (by simp)
    rw [one_cells hq4] at hz
    rw [one_cells hq4]
    exact hz
  have hwl : w.heap.size ≤ w2.heap.size := HB2.out.size
  clear HR2 HB2
  obtain ⟨gr, hgr⟩ : ∃ gr, w1.heap.size = gr := ⟨_, rfl⟩
  obtain ⟨ga, hga⟩ : ∃ ga, w2.heap.size = ga := ⟨_, rfl⟩
  rw [hgr] at hs1 hl2
  rw [hga] at hl2 hwl
  rw [hgr, hga] at HF
  rw [hgr, hga]
  clear hgr hga
  go_loopw [6] (fun i wr => Rel1 w gr ga (ga + 1) q i wr) (fun i _ => 2 - (intOf i).toNat)
  case atStart => exact ⟨0, by omega, rfl, HF.out⟩
  case round =>
    clear HF
    obtain ⟨k, hk, rfl, hR, hA, hO, hB⟩ := hrel
    by_cases hk2 : k < 2
    · obtain ⟨f1, f2⟩ := down_in hq4 hk2
      have hgl := Blk.lt hR
      have hal := hA.lt
      have hol := hO.lt
      have HF0 := Lib.hid (show FrS gr (ga + 1) (down q k) (one_ q) wr from ⟨hR, hO⟩)
      have HGd := Lib.hid (down_good q k)
      have HB := Lib.hid hB
      have HA := Lib.hid hA
      have HO := Lib.hid hO
      have hgr : gr < wr.heap.size := hgl
      have hga : (ga + 1) < wr.heap.size := by omega
      obtain ⟨W0, hW⟩ : ∃ W0, wr = W0 := ⟨_, rfl⟩
      rw [hW] at HF0 HB HA HO hgr hga hgl hal hol
      rw [hW]
      have HX1 := Lib.hid f1
      have HX2 := Lib.hid f2
      clear hR hA hO hB hW f1 f2
      go_upto_region 9 with fail
      go_cut [7, 8, 9] (fun s8 s9 s10 wx => CutM gr (ga + 1) (down q k) (stepTo (down q k) (one_ q) 4).1 (one_ q) (stepTo (down q k) (one_ q) 4).2 W0 s8 s9 s10 wx)
      case first =>
        have KS := fun (b off c : Nat) (W : World) hb hA => Lib.hid (Step_any (down q k) (one_ q) 0 true b off c W HGd.out hb hA)
        unfold rollC at KS
        have hF := HF0.out.drew
        have hB := (Below.refl W0.heap.size W0).drew
        go_region_held3 (fun w' => w'.cell? ⟨gr, 0, none⟩ = some (.bool ((down q k).inn 0)) ∧ w'.cell? ⟨gr, 1, none⟩ = some (.bool ((down q k).inn 1)) ∧ w'.cell? ⟨gr, 2, none⟩ = some (.bool ((down q k).inn 2)) ∧ w'.cell? ⟨gr, 3, none⟩ = some (.bool ((down q k).inn 3)) ∧ w'.cell? ⟨gr, 4, none⟩ = some (.int .i64 ((down q k).miss 0)) ∧ w'.cell? ⟨gr, 5, none⟩ = some (.int .i64 ((down q k).miss 1)) ∧ w'.cell? ⟨gr, 6, none⟩ = some (.int .i64 ((down q k).miss 2)) ∧ w'.cell? ⟨gr, 7, none⟩ = some (.int .i64 ((down q k).miss 3)) ∧ w'.cell? ⟨gr, 8, none⟩ = some (.int .i64 ((down q k).join 0)) ∧ w'.cell? ⟨gr, 9, none⟩ = some (.int .i64 ((down q k).join 1)) ∧ w'.cell? ⟨gr, 10, none⟩ = some (.int .i64 ((down q k).join 2)) ∧ w'.cell? ⟨gr, 11, none⟩ = some (.int .i64 ((down q k).join 3)) ∧ w'.cell? ⟨(ga + 1), 0, none⟩ = some (.bool ((one_ q) 0)) ∧ w'.cell? ⟨(ga + 1), 1, none⟩ = some (.bool ((one_ q) 1)) ∧ w'.cell? ⟨(ga + 1), 2, none⟩ = some (.bool ((one_ q) 2)) ∧ w'.cell? ⟨(ga + 1), 3, none⟩ = some (.bool ((one_ q) 3)))
          (first | with_reducible exact hF.cells | with_reducible exact (hF.alloc _).cells | with_reducible exact ((HF0.out.alloc _).drew).cells | with_reducible exact (hF.over hng1 hng2).cells | with_reducible exact ((hF.alloc _).over hng1 hng2).cells)
          (first
            | (go_at_call 36; (with_reducible refine (verdict_any (one_ q) _).mono ?_); rintro e w1 ⟨b1, c1, rfl, hb1, hb2, hb3, hbB⟩; (first | ((have hF1 := hF.next hbB); have hB1 := hB.trans (hbB.mono (by first | exact Nat.le_refl _ | exact hB.size))) | ((have hF1 := ((HF0.out.alloc (.cells #[.bool false, .bool false, .bool false, .bool false, .int .i64 0, .int .i64 0, .int .i64 0, .int .i64 0, .int .i64 0, .int .i64 0, .int .i64 0, .int .i64 0] 56)).drew).next hbB); have hB1 := ((Below.refl W0.heap.size W0).alloc (Nat.le_refl _) (.cells #[.bool false, .bool false, .bool false, .bool false, .int .i64 0, .int .i64 0, .int .i64 0, .int .i64 0, .int .i64 0, .int .i64 0, .int .i64 0, .int .i64 0] 56)).drew.trans (hbB.mono (by show _ ≤ (W0.heap.push _).size; simp)); have hV : RB w1 W0.heap.size R0 := Blk.next ((Blk.new W0 _ _).drew) hbB; have hng1 : gr ≠ W0.heap.size := Nat.ne_of_lt hgr; have hng2 : (ga + 1) ≠ W0.heap.size := Nat.ne_of_lt hga)); clear hF hB; have hF := hF1; have hB := hB1; clear hF1 hB1 hbB hb1)
            | (go_at_call 35; (first
                | ((with_reducible refine (Hid.out (KS b1 0 c1 w1 hb2 hb3)).mono ?_); rintro e w2 ⟨v, rfl, hO, hbB⟩; have hF1 := hF.next hbB; have hO1 := own_le hO hB.size; have hB1 := hB.trans (hbB.mono hB.size); (first | ((have hV1 : RB w2 W0.heap.size R0 := Blk.next hV hbB); have hnn : W0.heap.size ≤ W0.heap.size := Nat.le_refl _; have hVV := hV1) | ((have hVV : RB (w2.alloc (.cells #[.bool false, .bool false, .bool false, .bool false, .int .i64 0, .int .i64 0, .int .i64 0, .int .i64 0, .int .i64 0, .int .i64 0, .int .i64 0, .int .i64 0] 56)) w2.heap.size R0 := Blk.new _ _ _); have hnn := hB1.size; have hng1 : gr ≠ w2.heap.size := Nat.ne_of_lt (Nat.lt_of_lt_of_le hgr hB1.size); have hng2 : (ga + 1) ≠ w2.heap.size := Nat.ne_of_lt (Nat.lt_of_lt_of_le hga hB1.size))))
                | ((with_reducible refine (Hid.out (KS b1 0 c1 (w1.alloc (.cells #[.bool false, .bool false, .bool false, .bool false, .int .i64 0, .int .i64 0, .int .i64 0, .int .i64 0, .int .i64 0, .int .i64 0, .int .i64 0, .int .i64 0] 56)) (Nat.lt_trans hb2 (by simp)) (fun j hj => (cell_same (Below.heap_alloc w1 _ b1 hb2) _).trans (hb3 j hj)))).mono ?_); rintro e w2 ⟨v, rfl, hO, hbB⟩; have hF1 := (hF.alloc _).next hbB; have hO1 := own_le hO (Nat.le_trans hB.size (by simp)); have hB1 := (hB.alloc hB.size _).trans (hbB.mono (Nat.le_trans hB.size (by simp))); have hVV : RB w2 w1.heap.size R0 := Blk.next (Blk.new w1 _ _) hbB; have hnn := hB.size; have hng1 : gr ≠ w1.heap.size := Nat.ne_of_lt (Nat.lt_of_lt_of_le hgr hB.size); have hng2 : (ga + 1) ≠ w1.heap.size := Nat.ne_of_lt (Nat.lt_of_lt_of_le hga hB.size))); rw [show stepAll (down q k) (one_ q) true = stepTo (down q k) (one_ q) 4 from rfl] at hO1; rw [show stepAll (down q k) (one_ q) true = stepTo (down q k) (one_ q) 4 from rfl]; have hsz : (rollC (stepTo (down q k) (one_ q) 4).1).size = 12 := rfl; have hst := roll_store hVV (stepTo (down q k) (one_ q) 4).1; have HO := Lib.hid hO1; have HVV := Lib.hid hVV; clear hF hB hO hO1 hVV; have hF := hF1; have hB := hB1; clear hF1 hB1 hbB))
        all_goals (go_wp2_with fail; go_meet)
        all_goals first
          | with_reducible exact CutM.mk hF hgr hga hnn HVV.out HO.out hB
          | with_reducible exact CutM.mk (hF.alloc _) hgr hga hnn HVV.out (HO.out.alloc _) (hB.alloc hB.size _)
      case rest =>
        obtain ⟨nn, v, rfl, hv, rfl, hnn, hX, hOw, hF, hBc⟩ := hcut
        have hv2 := hv.symm
        clear hv
        subst hv2
        have hX' : RB wc nn (nxt (down q k) (one_ q)) := hX
        clear hX
        have hX := hX'
        clear hX'
        have x1 := hX.inn hq4
        rw [HX1.out] at x1
        have x2 := HX2.out
        obtain ⟨Av, cv, ev⟩ := own_shape hOw
        subst ev
        generalize (stepTo (down q k) (one_ q) 4).2.length = ll at *
        have HX := Lib.hid hX
        have HR := Lib.hid hF.1
        have hnl : nn < wc.heap.size := Blk.lt hX
        have hwz : w.heap.size ≤ W0.heap.size := HB.out.size
        have hcz := hBc.size
        have HBn := Lib.hid (HB.out.trans (hBc.mono hwz))
        have HAn := Lib.hid (HA.out.next hBc)
        have HOn := Lib.hid (HO.out.next hBc)
        clear hX hOw hF hBc HA HO HB HF0 HX1 HX2
        go_wp2_with (first
          | (refine wpList_load_roww rfl 56 (.tmp 7) rfl nn rfl _ (rollC (nxt (down q k) (one_ q))) _ HX.out Try.underlying56 rfl (by kernel_rfl) ?_)
          | (refine wpList_store_blk rfl 56 (.tmp 3) (.tmp 54) rfl gr _ _ (rollC (nxt (down q k) (one_ q))) rfl rfl HR.out rfl (by kernel_rfl) (rollC_one _) ?_; intro w3 hR3 hg3; have HR3 := Lib.hid hR3; have HG3 := Lib.hid hg3; clear hR3 hg3))
        go_roundw
        case rel =>
          (repeat (with_reducible apply Exists.intro))
          first
            | exact ⟨k + 1, by omega, by go_num, HR3.out, HAn.out.grown HG3.out (by simp; omega), HOn.out.grown HG3.out (by simp; omega), HBn.out.grown HG3.out (Nat.le_trans hwz hcz) (fun j hj => by cases hj; omega)⟩
            | exact ⟨⟨k + 1, by omega, by go_num, HR3.out, HAn.out.grown HG3.out (by simp; omega), HOn.out.grown HG3.out (by simp; omega), HBn.out.grown HG3.out (Nat.le_trans hwz hcz) (fun j hj => by cases hj; omega)⟩, rfl⟩
        case measure => simp [intOf]; omega
    · obtain rfl : k = 2 := by omega
      have HF : Hid (Fr w gr ga (ga + 1) q (up_ q 0) wr) := ⟨hR, hA, hO, hB⟩
      clear hR hA hO hB
      go_wp2_with fail
      go_loopw [10] (fun i wr => Rel2 w gr ga (ga + 1) q i wr) (fun i _ => 3 - (intOf i).toNat)
      case atStart => exact ⟨0, by omega, rfl, HF.out⟩
      case round =>
        clear HF
        obtain ⟨k, hk, rfl, hR, hA, hO, hB⟩ := hrel
        by_cases hk3 : k < 3
        · obtain ⟨f1, f2⟩ := up_in hq4 hk3
          have hgl := Blk.lt hR
          have hal := hA.lt
          have hol := hO.lt
          have HF0 := Lib.hid (show FrS gr ga (up_ q k) (all_) wr from ⟨hR, hA⟩)
          have HGd := Lib.hid (up_good q k)
          have HB := Lib.hid hB
          have HA := Lib.hid hA
          have HO := Lib.hid hO
          have hgr : gr < wr.heap.size := hgl
          have hga : ga < wr.heap.size := by omega
          obtain ⟨W0, hW⟩ : ∃ W0, wr = W0 := ⟨_, rfl⟩
          rw [hW] at HF0 HB HA HO hgr hga hgl hal hol
          rw [hW]
          have HX1 := Lib.hid f1
          have HX2 := Lib.hid f2
          clear hR hA hO hB hW f1 f2
          go_upto_region 16 with fail
          go_cut [11, 12, 13] (fun s8 s9 s10 wx => CutM gr ga (up_ q k) (stepTo (up_ q k) (all_) 4).1 (all_) (stepTo (up_ q k) (all_) 4).2 W0 s8 s9 s10 wx)
          case first =>
            have KS := fun (b off c : Nat) (W : World) hb hA => Lib.hid (Step_any (up_ q k) (all_) 0 true b off c W HGd.out hb hA)
            unfold rollC at KS
            have hF := HF0.out.drew
            have hB := (Below.refl W0.heap.size W0).drew
            go_region_held3 (fun w' => w'.cell? ⟨gr, 0, none⟩ = some (.bool ((up_ q k).inn 0)) ∧ w'.cell? ⟨gr, 1, none⟩ = some (.bool ((up_ q k).inn 1)) ∧ w'.cell? ⟨gr, 2, none⟩ = some (.bool ((up_ q k).inn 2)) ∧ w'.cell? ⟨gr, 3, none⟩ = some (.bool ((up_ q k).inn 3)) ∧ w'.cell? ⟨gr, 4, none⟩ = some (.int .i64 ((up_ q k).miss 0)) ∧ w'.cell? ⟨gr, 5, none⟩ = some (.int .i64 ((up_ q k).miss 1)) ∧ w'.cell? ⟨gr, 6, none⟩ = some (.int .i64 ((up_ q k).miss 2)) ∧ w'.cell? ⟨gr, 7, none⟩ = some (.int .i64 ((up_ q k).miss 3)) ∧ w'.cell? ⟨gr, 8, none⟩ = some (.int .i64 ((up_ q k).join 0)) ∧ w'.cell? ⟨gr, 9, none⟩ = some (.int .i64 ((up_ q k).join 1)) ∧ w'.cell? ⟨gr, 10, none⟩ = some (.int .i64 ((up_ q k).join 2)) ∧ w'.cell? ⟨gr, 11, none⟩ = some (.int .i64 ((up_ q k).join 3)) ∧ w'.cell? ⟨ga, 0, none⟩ = some (.bool ((all_) 0)) ∧ w'.cell? ⟨ga, 1, none⟩ = some (.bool ((all_) 1)) ∧ w'.cell? ⟨ga, 2, none⟩ = some (.bool ((all_) 2)) ∧ w'.cell? ⟨ga, 3, none⟩ = some (.bool ((all_) 3)))
              (first | with_reducible exact hF.cells | with_reducible exact (hF.alloc _).cells | with_reducible exact ((HF0.out.alloc _).drew).cells | with_reducible exact (hF.over hng1 hng2).cells | with_reducible exact ((hF.alloc _).over hng1 hng2).cells)
              (first
                | (go_at_call 36; (with_reducible refine (verdict_any (all_) _).mono ?_); rintro e w1 ⟨b1, c1, rfl, hb1, hb2, hb3, hbB⟩; (first | ((have hF1 := hF.next hbB); have hB1 := hB.trans (hbB.mono (by first | exact Nat.le_refl _ | exact hB.size))) | ((have hF1 := ((HF0.out.alloc (.cells #[.bool false, .bool false, .bool false, .bool false, .int .i64 0, .int .i64 0, .int .i64 0, .int .i64 0, .int .i64 0, .int .i64 0, .int .i64 0, .int .i64 0] 56)).drew).next hbB); have hB1 := ((Below.refl W0.heap.size W0).alloc (Nat.le_refl _) (.cells #[.bool false, .bool false, .bool false, .bool false, .int .i64 0, .int .i64 0, .int .i64 0, .int .i64 0, .int .i64 0, .int .i64 0, .int .i64 0, .int .i64 0] 56)).drew.trans (hbB.mono (by show _ ≤ (W0.heap.push _).size; simp)); have hV : RB w1 W0.heap.size R0 := Blk.next ((Blk.new W0 _ _).drew) hbB; have hng1 : gr ≠ W0.heap.size := Nat.ne_of_lt hgr; have hng2 : ga ≠ W0.heap.size := Nat.ne_of_lt hga)); clear hF hB; have hF := hF1; have hB := hB1; clear hF1 hB1 hbB hb1)
                | (go_at_call 35; (first
                    | ((with_reducible refine (Hid.out (KS b1 0 c1 w1 hb2 hb3)).mono ?_); rintro e w2 ⟨v, rfl, hO, hbB⟩; have hF1 := hF.next hbB; have hO1 := own_le hO hB.size; have hB1 := hB.trans (hbB.mono hB.size); (first | ((have hV1 : RB w2 W0.heap.size R0 := Blk.next hV hbB); have hnn : W0.heap.size ≤ W0.heap.size := Nat.le_refl _; have hVV := hV1) | ((have hVV : RB (w2.alloc (.cells #[.bool false, .bool false, .bool false, .bool false, .int .i64 0, .int .i64 0, .int .i64 0, .int .i64 0, .int .i64 0, .int .i64 0, .int .i64 0, .int .i64 0] 56)) w2.heap.size R0 := Blk.new _ _ _); have hnn := hB1.size; have hng1 : gr ≠ w2.heap.size := Nat.ne_of_lt (Nat.lt_of_lt_of_le hgr hB1.size); have hng2 : ga ≠ w2.heap.size := Nat.ne_of_lt (Nat.lt_of_lt_of_le hga hB1.size))))
                    | ((with_reducible refine (Hid.out (KS b1 0 c1 (w1.alloc (.cells #[.bool false, .bool false, .bool false, .bool false, .int .i64 0, .int .i64 0, .int .i64 0, .int .i64 0, .int .i64 0, .int .i64 0, .int .i64 0, .int .i64 0] 56)) (Nat.lt_trans hb2 (by simp)) (fun j hj => (cell_same (Below.heap_alloc w1 _ b1 hb2) _).trans (hb3 j hj)))).mono ?_); rintro e w2 ⟨v, rfl, hO, hbB⟩; have hF1 := (hF.alloc _).next hbB; have hO1 := own_le hO (Nat.le_trans hB.size (by simp)); have hB1 := (hB.alloc hB.size _).trans (hbB.mono (Nat.le_trans hB.size (by simp))); have hVV : RB w2 w1.heap.size R0 := Blk.next (Blk.new w1 _ _) hbB; have hnn := hB.size; have hng1 : gr ≠ w1.heap.size := Nat.ne_of_lt (Nat.lt_of_lt_of_le hgr hB.size); have hng2 : ga ≠ w1.heap.size := Nat.ne_of_lt (Nat.lt_of_lt_of_le hga hB.size))); rw [show stepAll (up_ q k) (all_) true = stepTo (up_ q k) (all_) 4 from rfl] at hO1; rw [show stepAll (up_ q k) (all_) true = stepTo (up_ q k) (all_) 4 from rfl]; have hsz : (rollC (stepTo (up_ q k) (all_) 4).1).size = 12 := rfl; have hst := roll_store hVV (stepTo (up_ q k) (all_) 4).1; have HO := Lib.hid hO1; have HVV := Lib.hid hVV; clear hF hB hO hO1 hVV; have hF := hF1; have hB := hB1; clear hF1 hB1 hbB))
            all_goals (go_wp2_with fail; go_meet)
            all_goals first
              | with_reducible exact CutM.mk hF hgr hga hnn HVV.out HO.out hB
              | with_reducible exact CutM.mk (hF.alloc _) hgr hga hnn HVV.out (HO.out.alloc _) (hB.alloc hB.size _)
          case rest =>
            obtain ⟨nn, v, rfl, hv, rfl, hnn, hX, hOw, hF, hBc⟩ := hcut
            have hv2 := hv.symm
            clear hv
            subst hv2
            have hX' : RB wc nn (nxt (up_ q k) (all_)) := hX
            clear hX
            have hX := hX'
            clear hX'
            have x1 := hX.inn hq4
            rw [HX1.out] at x1
            have x2 := HX2.out
            obtain ⟨Av, cv, ev⟩ := own_shape hOw
            subst ev
            generalize (stepTo (up_ q k) (all_) 4).2.length = ll at *
            have HX := Lib.hid hX
            have HR := Lib.hid hF.1
            have hnl : nn < wc.heap.size := Blk.lt hX
            have hwz : w.heap.size ≤ W0.heap.size := HB.out.size
            have hcz := hBc.size
            have HBn := Lib.hid (HB.out.trans (hBc.mono hwz))
            have HAn := Lib.hid (HA.out.next hBc)
            have HOn := Lib.hid (HO.out.next hBc)
            clear hX hOw hF hBc HA HO HB HF0 HX1 HX2
            go_wp2_with (first
              | (refine wpList_load_roww rfl 56 (.tmp 11) rfl nn rfl _ (rollC (nxt (up_ q k) (all_))) _ HX.out Try.underlying56 rfl (by kernel_rfl) ?_)
              | (refine wpList_store_blk rfl 56 (.tmp 3) (.tmp 88) rfl gr _ _ (rollC (nxt (up_ q k) (all_))) rfl rfl HR.out rfl (by kernel_rfl) (rollC_one _) ?_; intro w3 hR3 hg3; have HR3 := Lib.hid hR3; have HG3 := Lib.hid hg3; clear hR3 hg3))
            go_roundw
            case rel =>
              (repeat (with_reducible apply Exists.intro))
              first
                | exact ⟨k + 1, by omega, by go_num, HR3.out, HAn.out.grown HG3.out (by simp; omega), HOn.out.grown HG3.out (by simp; omega), HBn.out.grown HG3.out (Nat.le_trans hwz hcz) (fun j hj => by cases hj; omega)⟩
                | exact ⟨⟨k + 1, by omega, by go_num, HR3.out, HAn.out.grown HG3.out (by simp; omega), HOn.out.grown HG3.out (by simp; omega), HBn.out.grown HG3.out (Nat.le_trans hwz hcz) (fun j hj => by cases hj; omega)⟩, rfl⟩
            case measure => simp [intOf]; omega
        · obtain rfl : k = 3 := by omega
          have hR' : Blk wr gr 56 #[.bool true, .bool true, .bool true, .bool true, .int .i64 0, .int .i64 0, .int .i64 0, .int .i64 0, .int .i64 0, .int .i64 0, .int .i64 0, .int .i64 0] := by have h := hR; unfold RB at h; rw [end_roll hq4] at h; exact h
          have hne := roll_eq
          have HB := Lib.hid hB
          have hS : ∀ w', Below wr.heap.size wr w' → w'.cell? ⟨gr, 0, none⟩ = some (.bool true) ∧ w'.cell? ⟨gr, 1, none⟩ = some (.bool true) ∧ w'.cell? ⟨gr, 2, none⟩ = some (.bool true) ∧ w'.cell? ⟨gr, 3, none⟩ = some (.bool true) ∧ w'.cell? ⟨gr, 4, none⟩ = some (.int .i64 0) ∧ w'.cell? ⟨gr, 5, none⟩ = some (.int .i64 0) ∧ w'.cell? ⟨gr, 6, none⟩ = some (.int .i64 0) ∧ w'.cell? ⟨gr, 7, none⟩ = some (.int .i64 0) ∧ w'.cell? ⟨gr, 8, none⟩ = some (.int .i64 0) ∧ w'.cell? ⟨gr, 9, none⟩ = some (.int .i64 0) ∧ w'.cell? ⟨gr, 10, none⟩ = some (.int .i64 0) ∧ w'.cell? ⟨gr, 11, none⟩ = some (.int .i64 0) := fun w' hb => by
            have h := hR'.next hb
            exact ⟨h.cell 0, h.cell 1, h.cell 2, h.cell 3, h.cell 4, h.cell 5, h.cell 6, h.cell 7, h.cell 8, h.cell 9, h.cell 10, h.cell 11⟩
          have HS := Lib.hid hS
          clear hR hR' hA hO hB hS
          go_wp2_with fail
          have hb := (Below.refl wr.heap.size wr).drew
          go_region_held3 (fun w' => w'.cell? ⟨gr, 0, none⟩ = some (.bool true) ∧ w'.cell? ⟨gr, 1, none⟩ = some (.bool true) ∧ w'.cell? ⟨gr, 2, none⟩ = some (.bool true) ∧ w'.cell? ⟨gr, 3, none⟩ = some (.bool true) ∧ w'.cell? ⟨gr, 4, none⟩ = some (.int .i64 0) ∧ w'.cell? ⟨gr, 5, none⟩ = some (.int .i64 0) ∧ w'.cell? ⟨gr, 6, none⟩ = some (.int .i64 0) ∧ w'.cell? ⟨gr, 7, none⟩ = some (.int .i64 0) ∧ w'.cell? ⟨gr, 8, none⟩ = some (.int .i64 0) ∧ w'.cell? ⟨gr, 9, none⟩ = some (.int .i64 0) ∧ w'.cell? ⟨gr, 10, none⟩ = some (.int .i64 0) ∧ w'.cell? ⟨gr, 11, none⟩ = some (.int .i64 0)) (with_reducible exact HS.out _ hb)
            (first | (go_at_call 37; (with_reducible refine (keeps_any _).mono ?_); rintro e w3 ⟨rfl, hb2⟩; have hb3 := hb.trans (hb2.mono hb.size); clear hb hb2; have hb := hb3; clear hb3) | (go_at_call 34; (with_reducible refine (begin_lit _).mono ?_); rintro e w4 ⟨rfl, hb2⟩; have hb3 := hb.trans (hb2.mono hb.size); clear hb hb2; have hb := hb3; clear hb3))
          all_goals (go_wp2_with fail)
          all_goals (go_ret)
          all_goals exact ⟨rfl, below_next HB.out hb⟩

theorem walk {H : Type} {enc : TypeId × Value → H} {d0 : DataW H} {p0 : List MemPlace} (v0 : Value) (W : World) (base : Nat)
    (h0 : Value.okWide Try.prog W .any base 3 v0) (_ : DataW.Trod enc Try.prog W 0 (fun _ => true) true 3 v0 d0 p0) :
    Calls Try.prog 16 #[v0] W fun e w' => e = .returned (.bool true) ∧ Below W.heap.size W w' := by
  obtain ⟨x, rfl, _⟩ := ok_int Try.underlying3 h0
  exact walk1 x W
end Go.Proofs.Ytllgjbjcdenchaa.lawMemberGoes
