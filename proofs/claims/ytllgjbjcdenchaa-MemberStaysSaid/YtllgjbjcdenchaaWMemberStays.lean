/- The walk of MemberStays: a node that always agrees is never out. -/
import Derived.Test.YtllgjbjcdenchaaMemLaw
set_option linter.unusedVariables false
namespace Go.Proofs.Ytllgjbjcdenchaa.lawMemberStays
open Go.RowKit Go.Proofs.Ytllgjbjcdenchaa Mb
attribute [local go_sem ↓] Go.wp_at_zero Go.wp_at_succ

theorem stays (R : Rl) (A : Nat → Bool) (q : Nat) (hA : A q = true) (hi : R.inn q = true) (hm : R.miss q = 0) :
    ∀ k, (stepTo R A k).1.inn q = true ∧ (stepTo R A k).1.miss q = 0 ∧ ∀ p ∈ (stepTo R A k).2, p.2 ≠ (q : Int)
  | 0 => ⟨hi, hm, fun p hp => by cases hp⟩
  | k + 1 => by
    obtain ⟨h1, h2, h3⟩ := stays R A q hA hi hm k
    unfold stepTo
    generalize (stepTo R A k).1 = P at *
    generalize (stepTo R A k).2 = l at *
    by_cases e : k = q
    · subst e
      rw [if_pos h1, hA]
      unfold stay1
      simp only [if_true, upd_same, Bool.false_eq_true, if_false]
      exact ⟨h1, trivial, h3⟩
    · have hne : ∀ z : Int, ((z, (k : Int)) : Int × Int).2 ≠ (q : Int) := fun z => by simp only []; omega
      have hsn : ∀ (z : Int) (out : Bool), ∀ p ∈ (if out = true then l ++ [(z, (k : Int))] else l), p.2 ≠ (q : Int) := by
        intro z out p hp
        cases out
        · exact h3 p (by simpa using hp)
        · simp only [if_true, List.mem_append, List.mem_singleton] at hp
          rcases hp with hp | rfl
          · exact h3 p hp
          · exact hne z
      have eq' : q ≠ k := fun h => e h.symm
      split
      · refine ⟨?_, ?_, hsn _ _⟩
        · unfold stay1; split
          · exact h1
          · split
            · exact h1
            · simp only []; rw [upd_far _ _ eq']; exact h1
        · unfold stay1; split
          · simp only []; rw [upd_far _ _ eq']; exact h2
          · split <;> (simp only []; rw [upd_far _ _ eq']; exact h2)
      · refine ⟨?_, ?_, hsn _ _⟩
        · unfold wait1; split
          · exact h1
          · split
            · exact h1
            · simp only []; rw [upd_far _ _ eq']; exact h1
        · unfold wait1; split
          · exact h2
          · split
            · exact h2
            · simp only []; rw [upd_far _ _ eq']; exact h2

theorem chC_get {l : List (Int × Int)} : ∀ {j : Nat} (h : j < l.length), (chC l)[j * 2]? = some (.int .i64 (l[j]).1) ∧ (chC l)[j * 2 + 1]? = some (.int .i64 (l[j]).2) := by
  induction l with
  | nil => intro j h; exact absurd h (Nat.not_lt_zero _)
  | cons p l ih =>
    intro j h
    have e : chC (p :: l) = .int .i64 p.1 :: .int .i64 p.2 :: chC l := rfl
    rw [e]
    cases j with
    | zero => exact ⟨rfl, rfl⟩
    | succ j =>
      have := ih (j := j) (by simpa using h)
      rw [show (j + 1) * 2 = j * 2 + 1 + 1 by omega]
      exact this
theorem RB.below {W W' : World} {g B : Nat} {R : Rl} (h : RB W g R) (hb : Below B W W') (hg : g < B) : RB W' g R := Blk.below h hb hg

/-- what holds at the head of the loop -/
def StaysRel (w : World) (gr n q : Nat) (i : Value) (wr : World) : Prop :=
  ∃ (k : Nat) (R : Rl), k ≤ n ∧ k ≤ 60 ∧ i = .int .i64 k ∧ RB wr gr R ∧ Mb.Good R ∧ R.inn q = true ∧ R.miss q = 0 ∧ Below w.heap.size w wr
/-- one node's assent is laid in -/
theorem assent {B : Nat → Bool} {q : Nat} (hq : q < 4) (b : Bool) :
    ([Value.bool (B 0), .bool (B 1), .bool (B 2), .bool (B 3)].set q (.bool b)).toArray = #[.bool (upd B q b 0), .bool (upd B q b 1), .bool (upd B q b 2), .bool (upd B q b 3)] := by
  have hq' : q = 0 ∨ q = 1 ∨ q = 2 ∨ q = 3 := by omega
  rcases hq' with rfl | rfl | rfl | rfl <;> simp [upd]

set_option maxRecDepth 100000 in
set_option maxHeartbeats 8000000 in
theorem walk1 (A : Option Addr) (n c : Nat) (M : Nat → Nat → Bool) (x : Int) (w : World) (h : Rows4 w A n M) (hn : n ≤ 9223372036854775807) :
    Calls Try.prog 14 #[.slice A n c, .int .i64 x] w fun e w' => e = .returned (.bool true) ∧ Below w.heap.size w w' := by
  obtain ⟨q, hq⟩ : ∃ q : Nat, x % 4 = (q : Int) := ⟨(x % 4).toNat, by omega⟩
  have hq4 : q < 4 := by omega
  have ks := fun (W : World) => spot_any x 4 W (by omega) (by omega)
  rw [hq] at ks
  have Ks := Lib.hid ks
  have HR4 := Lib.hid h
  clear ks hq h
  go_enter Try.func14, Try.ntmps14
  go_wp2_with fail
  refine (Ks.out _).mono ?_
  rintro e w' ⟨rfl, rfl⟩
  go_wp2_with fail
  refine (begin_any _).mono ?_
  rintro e w1 ⟨rfl, hB1⟩
  have hnw : RB (w1.alloc (.cells (rollC R0) 56)) w1.heap.size R0 := Blk.new _ _ _
  have HN := Lib.hid hnw
  have HB1 := Lib.hid (hB1.alloc hB1.size (.cells (rollC R0) 56))
  have hs1 := hB1.size
  clear hnw hB1
  go_wp2_with (refine wpList_store_blk rfl 56 (.tmp 5) (.tmp 15) rfl w1.heap.size _ _ (rollC RB0) rfl rfl HN.out rfl (by kernel_rfl) (rollC_one _) ?_; intro w2 hR2 hg2; have HR2 := Lib.hid hR2; have HB2 := Lib.hid (HB1.out.grown hg2 (by simp; omega) (fun j hj => by cases hj; omega)); clear hR2 hg2)
  clear HN HB1 Ks
  obtain ⟨gr, hgr⟩ : ∃ gr, w1.heap.size = gr := ⟨_, rfl⟩
  have HGR := Lib.hid hgr
  rw [hgr] at hs1
  clear hgr
  rw [HGR.out]
  go_loopw [6] (fun i wr => StaysRel w gr n q i wr) (fun i _ => n - (intOf i).toNat)
  case atStart => exact ⟨0, RB0, by omega, by omega, rfl, by rw [← HGR.out]; exact HR2.out, RB0_good, rfl, rfl, HB2.out⟩
  case round =>
    clear HR2 HB2
    obtain ⟨k, R, hk, hk60, rfl, hR, hG, hi, hm, hB⟩ := hrel
    have HGd := Lib.hid hG
    have HI := Lib.hid hi
    have HM := Lib.hid hm
    clear hG hi hm
    by_cases hkn : k < n
    · by_cases hk6 : k < 60
      · obtain ⟨b, off, rfl, hb, hc⟩ := HR4.out (by omega)
        have c0 := (hB.cell (p := ⟨b, off + k * 4 + 0, none⟩) hb).trans (hc k hkn 0 (by omega))
        have c1 := (hB.cell (p := ⟨b, off + k * 4 + 1, none⟩) hb).trans (hc k hkn 1 (by omega))
        have c2 := (hB.cell (p := ⟨b, off + k * 4 + 2, none⟩) hb).trans (hc k hkn 2 (by omega))
        have c3 := (hB.cell (p := ⟨b, off + k * 4 + 3, none⟩) hb).trans (hc k hkn 3 (by omega))
        simp only [Nat.add_zero] at c0
        have hz := hB.size
        have hgl := Blk.lt hR
        have hsa := assent (B := M k) hq4 true
        have HF0' := Lib.hid (show FrS gr wr.heap.size R (upd (M k) q true) (wr.alloc (.cells ([Value.bool (M k 0), .bool (M k 1), .bool (M k 2), .bool (M k 3)].set q (.bool true)).toArray 28)) from ⟨Blk.alloc hR _, by have hz := Blk.new wr 28 ([Value.bool (M k 0), .bool (M k 1), .bool (M k 2), .bool (M k 3)].set q (.bool true)).toArray; rw [hsa] at hz; rw [hsa]; exact hz⟩)
        have HB0' := Lib.hid (show Below w.heap.size w (wr.alloc (.cells ([Value.bool (M k 0), .bool (M k 1), .bool (M k 2), .bool (M k 3)].set q (.bool true)).toArray 28)) from hB.alloc hz _)
        have hL0' : (wr.alloc (.cells ([Value.bool (M k 0), .bool (M k 1), .bool (M k 2), .bool (M k 3)].set q (.bool true)).toArray 28)).heap.size = wr.heap.size + 1 := by simp
        have HL0' := Lib.hid hL0'
        clear hc hB hsa hR hL0'
        go_upto_region 8 with fail
        generalize wr.alloc (.cells ([Value.bool (M k 0), .bool (M k 1), .bool (M k 2), .bool (M k 3)].set q (.bool true)).toArray 28) = W0 at *
        clear c0 c1 c2 c3
        have HF0 := HF0'
        have hgr : gr < W0.heap.size := by have := HL0'.out; omega
        have hga : wr.heap.size < W0.heap.size := by have := HL0'.out; omega
        clear HF0'
        go_cut [8, 9, 10] (fun s8 s9 s10 wx => CutM gr wr.heap.size R (stepTo R (upd (M k) q true) 4).1 (upd (M k) q true) (stepTo R (upd (M k) q true) 4).2 W0 s8 s9 s10 wx)
        case first =>
          have KS := fun (b off c : Nat) (W : World) hb hA => Lib.hid (Step_any R (upd (M k) q true) 0 true b off c W HGd.out hb hA)
          unfold rollC at KS
          have hF := HF0.out.drew
          have hB := (Below.refl W0.heap.size W0).drew
          go_region_held3 (fun w' => w'.cell? ⟨gr, 0, none⟩ = some (.bool (R.inn 0)) ∧ w'.cell? ⟨gr, 1, none⟩ = some (.bool (R.inn 1)) ∧ w'.cell? ⟨gr, 2, none⟩ = some (.bool (R.inn 2)) ∧ w'.cell? ⟨gr, 3, none⟩ = some (.bool (R.inn 3)) ∧ w'.cell? ⟨gr, 4, none⟩ = some (.int .i64 (R.miss 0)) ∧ w'.cell? ⟨gr, 5, none⟩ = some (.int .i64 (R.miss 1)) ∧ w'.cell? ⟨gr, 6, none⟩ = some (.int .i64 (R.miss 2)) ∧ w'.cell? ⟨gr, 7, none⟩ = some (.int .i64 (R.miss 3)) ∧ w'.cell? ⟨gr, 8, none⟩ = some (.int .i64 (R.join 0)) ∧ w'.cell? ⟨gr, 9, none⟩ = some (.int .i64 (R.join 1)) ∧ w'.cell? ⟨gr, 10, none⟩ = some (.int .i64 (R.join 2)) ∧ w'.cell? ⟨gr, 11, none⟩ = some (.int .i64 (R.join 3)) ∧ w'.cell? ⟨wr.heap.size, 0, none⟩ = some (.bool ((upd (M k) q true) 0)) ∧ w'.cell? ⟨wr.heap.size, 1, none⟩ = some (.bool ((upd (M k) q true) 1)) ∧ w'.cell? ⟨wr.heap.size, 2, none⟩ = some (.bool ((upd (M k) q true) 2)) ∧ w'.cell? ⟨wr.heap.size, 3, none⟩ = some (.bool ((upd (M k) q true) 3)))
            (first | with_reducible exact hF.cells | with_reducible exact (hF.alloc _).cells | with_reducible exact ((HF0.out.alloc _).drew).cells | with_reducible exact (hF.over hng1 hng2).cells | with_reducible exact ((hF.alloc _).over hng1 hng2).cells)
            (first
              | (go_at_call 36; (with_reducible refine (verdict_any (upd (M k) q true) _).mono ?_); rintro e w1 ⟨b1, c1, rfl, hb1, hb2, hb3, hbB⟩; (first | ((have hF1 := hF.next hbB); have hB1 := hB.trans (hbB.mono (by first | exact Nat.le_refl _ | exact hB.size))) | ((have hF1 := ((HF0.out.alloc (.cells #[.bool false, .bool false, .bool false, .bool false, .int .i64 0, .int .i64 0, .int .i64 0, .int .i64 0, .int .i64 0, .int .i64 0, .int .i64 0, .int .i64 0] 56)).drew).next hbB); have hB1 := ((Below.refl W0.heap.size W0).alloc (Nat.le_refl _) (.cells #[.bool false, .bool false, .bool false, .bool false, .int .i64 0, .int .i64 0, .int .i64 0, .int .i64 0, .int .i64 0, .int .i64 0, .int .i64 0, .int .i64 0] 56)).drew.trans (hbB.mono (by show _ ≤ (W0.heap.push _).size; simp)); have hV : RB w1 W0.heap.size R0 := Blk.next ((Blk.new W0 _ _).drew) hbB; have hng1 : gr ≠ W0.heap.size := Nat.ne_of_lt hgr; have hng2 : wr.heap.size ≠ W0.heap.size := Nat.ne_of_lt hga)); clear hF hB; have hF := hF1; have hB := hB1; clear hF1 hB1 hbB hb1)
              | (go_at_call 35; (first
                  | ((with_reducible refine (Hid.out (KS b1 0 c1 w1 hb2 hb3)).mono ?_); rintro e w2 ⟨v, rfl, hO, hbB⟩; have hF1 := hF.next hbB; have hO1 := own_le hO hB.size; have hB1 := hB.trans (hbB.mono hB.size); (first | ((have hV1 : RB w2 W0.heap.size R0 := Blk.next hV hbB); have hnn : W0.heap.size ≤ W0.heap.size := Nat.le_refl _; have hVV := hV1) | ((have hVV : RB (w2.alloc (.cells #[.bool false, .bool false, .bool false, .bool false, .int .i64 0, .int .i64 0, .int .i64 0, .int .i64 0, .int .i64 0, .int .i64 0, .int .i64 0, .int .i64 0] 56)) w2.heap.size R0 := Blk.new _ _ _); have hnn := hB1.size; have hng1 : gr ≠ w2.heap.size := Nat.ne_of_lt (Nat.lt_of_lt_of_le hgr hB1.size); have hng2 : wr.heap.size ≠ w2.heap.size := Nat.ne_of_lt (Nat.lt_of_lt_of_le hga hB1.size))))
                  | ((with_reducible refine (Hid.out (KS b1 0 c1 (w1.alloc (.cells #[.bool false, .bool false, .bool false, .bool false, .int .i64 0, .int .i64 0, .int .i64 0, .int .i64 0, .int .i64 0, .int .i64 0, .int .i64 0, .int .i64 0] 56)) (Nat.lt_trans hb2 (by simp)) (fun j hj => (cell_same (Below.heap_alloc w1 _ b1 hb2) _).trans (hb3 j hj)))).mono ?_); rintro e w2 ⟨v, rfl, hO, hbB⟩; have hF1 := (hF.alloc _).next hbB; have hO1 := own_le hO (Nat.le_trans hB.size (by simp)); have hB1 := (hB.alloc hB.size _).trans (hbB.mono (Nat.le_trans hB.size (by simp))); have hVV : RB w2 w1.heap.size R0 := Blk.next (Blk.new w1 _ _) hbB; have hnn := hB.size; have hng1 : gr ≠ w1.heap.size := Nat.ne_of_lt (Nat.lt_of_lt_of_le hgr hB.size); have hng2 : wr.heap.size ≠ w1.heap.size := Nat.ne_of_lt (Nat.lt_of_lt_of_le hga hB.size))); rw [show stepAll R (upd (M k) q true) true = stepTo R (upd (M k) q true) 4 from rfl] at hO1; rw [show stepAll R (upd (M k) q true) true = stepTo R (upd (M k) q true) 4 from rfl]; have hsz : (rollC (stepTo R (upd (M k) q true) 4).1).size = 12 := rfl; have hst := roll_store hVV (stepTo R (upd (M k) q true) 4).1; have HO := Lib.hid hO1; have HVV := Lib.hid hVV; clear hF hB hO hO1 hVV; have hF := hF1; have hB := hB1; clear hF1 hB1 hbB))
          all_goals (go_wp2_with fail; go_meet)
          all_goals first
            | with_reducible exact CutM.mk hF hgr hga hnn HVV.out HO.out hB
            | with_reducible exact CutM.mk (hF.alloc _) hgr hga hnn HVV.out (HO.out.alloc _) (hB.alloc hB.size _)
        case rest =>
          obtain ⟨nn, v, rfl, hv, rfl, hnn, hX, hO, hF, hBc⟩ := hcut
          have hv2 := hv.symm
          clear hv
          subst hv2
          obtain ⟨s1, s2, s3⟩ := stays R (upd (M k) q true) q (upd_same _ _ _) HI.out HM.out 4
          have HG2 := Lib.hid (step_good (A := upd (M k) q true) HGd.out 4 (by omega))
          have hlen := step_len (R := R) (A := upd (M k) q true) 4
          generalize (stepTo R (upd (M k) q true) 4).1 = X at *
          generalize (stepTo R (upd (M k) q true) 4).2 = L at *
          have x1 := hX.inn hq4
          have x2 := hX.miss hq4
          rw [s1] at x1
          rw [s2] at x2
          have S1 := Lib.hid s1
          have S2 := Lib.hid s2
          have S3 := Lib.hid s3
          have HX := Lib.hid hX
          have HO := Lib.hid hO
          have HR := Lib.hid hF.1
          have hwz : w.heap.size ≤ W0.heap.size := HB0'.out.size
          have HBc := Lib.hid (HB0'.out.trans (hBc.mono hwz))
          have hcz := hBc.size
          obtain ⟨Av, cv, ev⟩ := own_shape hO
          subst ev
          have hnl : nn < wc.heap.size := Blk.lt hX
          have hz1 : (0 : Int) ≤ (q : Int) := by omega
          have hz2 : (q : Int) < 4 := by omega
          have hne : gr ≠ nn := by omega
          have HNE := Lib.hid hne
          clear hX hO hF hBc s1 s2 s3 HF0 HB0' HL0' hne
          go_wp2_with fail
          go_loopw [58] (fun i wr => ∃ j : Nat, j ≤ L.length ∧ i = .int .i64 j ∧ Below wc.heap.size wc wr) (fun i _ => L.length - (intOf i).toNat)
          case atStart => exact ⟨0, by omega, rfl, Below.refl _ _⟩
          case round =>
            obtain ⟨j, hj, rfl, hb⟩ := hrel
            by_cases hjl : j < L.length
            · obtain ⟨g', cap, ea, _, hg', _⟩ := own_form HO.out (by omega)
              injection ea with e1 e2 e3
              subst e1
              have d0 := ((hb.cell (p := ⟨g', j * 2, none⟩) hg').trans (HO.out.cellAt (j * 2) (by omega))).trans (chC_get hjl).1
              have d1 := ((hb.cell (p := ⟨g', j * 2 + 1, none⟩) hg').trans (HO.out.cellAt (j * 2 + 1) (by omega))).trans (chC_get hjl).2
              have hp := S3.out L[j] (List.getElem_mem hjl)
              generalize L[j] = p at *
              obtain ⟨p1, p2⟩ := p
              simp only at d0 d1 hp
              have t1 : (p2 == (q : Int)) = false := by simpa using hp
              have hbz := hb.size
              have HB := Lib.hid hb
              clear hp hb
              go_wp2_with fail
              go_roundw
              case rel => exact ⟨j + 1, by omega, by go_num, HB.out.alloc hbz _⟩
              case measure => simp [intOf]; omega
            · obtain rfl : j = L.length := by omega
              have HX2 := Lib.hid (RB.below HX.out hb hnl)
              have HR2 := Lib.hid (RB.below HR.out hb (by omega))
              have HB := Lib.hid (HBc.out.trans (hb.mono (Nat.le_trans hwz hcz)))
              have hbz := hb.size
              clear hb
              go_wp2_with (first
                | (refine wpList_load_roww rfl 56 (.tmp 8) rfl nn rfl _ (rollC X) _ HX2.out Try.underlying56 rfl (by kernel_rfl) ?_)
                | (refine wpList_store_blk rfl 56 (.tmp 5) (.tmp 67) rfl gr _ _ (rollC X) rfl rfl HR2.out rfl (by kernel_rfl) (rollC_one _) ?_; intro w3 hR3 hg3; have HR3 := Lib.hid hR3; have HG3 := Lib.hid hg3; clear hR3 hg3))
              go_roundw
              case rel =>
                exact ⟨k + 1, X, by omega, by omega, by go_num, HR3.out, HG2.out, S1.out, S2.out, HB.out.grown HG3.out (Nat.le_trans hwz (Nat.le_trans hcz hbz)) (fun j hj => by cases hj; omega)⟩
              case measure => simp [intOf]; omega
      · clear HGd HI HM hR
        go_wp2_with fail
        refine (keeps_any _).mono ?_
        rintro e w3 ⟨rfl, hB3⟩
        go_wp2_with fail
        go_ret
        exact ⟨rfl, below_next hB hB3⟩
    · clear HGd HI HM hR
      go_wp2_with fail
      refine (keeps_any _).mono ?_
      rintro e w3 ⟨rfl, hB3⟩
      go_wp2_with fail
      go_ret
      exact ⟨rfl, below_next hB hB3⟩

theorem walk {H : Type} {enc : TypeId × Value → H} {d0 d1 : DataW H} {p0 p1 : List MemPlace} (v0 v1 : Value) (W : World) (base : Nat)
    (h0 : Value.okWide Try.prog W .any base 54 v0) (k0 : DataW.Trod enc Try.prog W 0 (fun _ => true) true 54 v0 d0 p0)
    (h1 : Value.okWide Try.prog W .any base 3 v1) (_ : DataW.Trod enc Try.prog W 0 (fun _ => true) true 3 v1 d1 p1)
    (s0 : ∀ es sp, d0 = .slice es sp → (es.length + sp.length) * Try.prog.bytesOf 28 ≤ reachBytes) :
    Calls Try.prog 14 #[v0, v1] W fun e w' => e = .returned (.bool true) ∧ Below W.heap.size W w' := by
  obtain ⟨A, n, c, rfl, hnc, hc, hA, _⟩ := ok_slice Try.underlying54 h0
  obtain ⟨x, rfl, _⟩ := ok_int Try.underlying3 h1
  obtain ⟨M, hM⟩ := rows4_in Try.underlying54 Try.underlying28 Try.underlying4 (by kernel_rfl) (by kernel_rfl) k0
  exact walk1 A n c M x W hM (by omega)
end Go.Proofs.Ytllgjbjcdenchaa.lawMemberStays
