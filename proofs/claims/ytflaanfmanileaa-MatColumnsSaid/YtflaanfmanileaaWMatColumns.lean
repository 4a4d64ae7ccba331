/- The walk of MatColumns: each column of a product is the first matrix times that column. -/
import Derived.Test.YtflaanfmanileaaMatCut
import Derived.Test.YtflaanfmanileaaMatBad2
import Derived.Test.YtflaanfmanileaaMatIn
import Derived.Test.YtflaanfmanileaaTimes
import Derived.Test.YtflaanfmanileaaSolFr
set_option linter.unusedVariables false
namespace Go.Proofs.Ytflaanfmanileaa.lawMatColumns
open Go.RowKit Go.Proofs.Ytflaanfmanileaa Fx Mt
attribute [local go_sem ↓] Go.wp_at_zero Go.wp_at_succ

/-- was anything bent in the first columns? -/
def colO (k : Nat) (f g : Nat → Int) (j : Nat) : Bool := (List.range j).any fun j' => timO k f (fun i => g (i * k + j')) k
theorem colO_succ (k : Nat) (f g : Nat → Int) (j : Nat) : colO k f g (j + 1) = (colO k f g j || timO k f (fun i => g (i * k + j)) k) := by unfold colO; rw [List.range_succ, List.any_append]; simp
def Rel1 (w0 : World) (k : Nat) (f g : Nat → Int) (ov jv : Value) (W : World) : Prop := ∃ j : Nat, j ≤ k ∧ jv = .int .i64 j ∧ ov = .bool (colO k f g j) ∧ Below w0.heap.size w0 W
def Rel2 (w0 : World) (k : Nat) (g : Nat → Int) (j : Nat) (v iv : Value) (W : World) : Prop := ∃ i : Nat, i ≤ k ∧ iv = .int .i64 i ∧ W.ownsRow w0.heap.size 3 1 v i ((lsN i (fun i => g (i * k + j))).map (Value.int .i64)) ∧ Below w0.heap.size w0 W
def Rel3 (w0 : World) (k : Nat) (iv : Value) (W : World) : Prop := ∃ i : Nat, i ≤ k ∧ iv = .int .i64 i ∧ Below w0.heap.size w0 W

set_option maxRecDepth 100000 in
set_option maxHeartbeats 4000000 in
theorem walk1 (k c d : Nat) (A B : Option Addr) (zs ys : List Int) (h1 : 1 ≤ k) (h6 : k ≤ 6) (w : World) (h : Ints w .i64 A (k * k) zs) (hz : ∀ z ∈ zs, In z) (hA : A = none → k * k = 0 ∧ c = 0)
    (h' : Ints w .i64 B (k * k) ys) (hy : ∀ z ∈ ys, In z) (hB : B = none → k * k = 0 ∧ d = 0) :
    Calls Try.prog 9 #[.agg #[.int .i64 k, .slice A (k * k) c], .agg #[.int .i64 k, .slice B (k * k) d]] w fun e w' => e = .returned (.bool true) ∧ Below w.heap.size w w' := by
  have hp : k * k ≤ 36 := Nat.le_trans (Nat.mul_le_mul h6 h6) (by omega)
  have hpos : 0 < k * k := Nat.mul_pos h1 h1
  have hin : ∀ (zs : List Int), (∀ z ∈ zs, In z) → ∀ t, In (zs.getD t 0) := by
    intro zs hz t
    by_cases ht : t < zs.length
    · simp only [List.getD, List.getElem?_eq_getElem ht, Option.getD_some]; exact hz _ (List.getElem_mem ht)
    · simp only [List.getD, List.getElem?_eq_none (Nat.le_of_not_lt ht), Option.getD_none]; unfold In; omega
  have ko := fun W (hI : Ints W .i64 A (k * k) zs) => own_any (k : Int) A (k * k) c zs W hI hA (by omega)
  have ko2 := fun W (hI : Ints W .i64 B (k * k) ys) => own_any (k : Int) B (k * k) d ys W hI hB (by omega)
  have hzi := hin zs hz
  have hyi := hin ys hy
  have HZL := h.1
  generalize hf : (fun j => zs.getD j 0) = f at *
  generalize hg : (fun j => ys.getD j 0) = g at *
  have hfi : ∀ t, In (f t) := fun t => by rw [← hf]; exact hzi t
  have hgi : ∀ t, In (g t) := fun t => by rw [← hg]; exact hyi t
  have nf : ∀ W A', Ints W .i64 A' (k * k) zs → Nums W A' (k * k) f := fun W A' hI => by rw [← hf]; exact nums_ints hI hpos
  have ng : ∀ W A', Ints W .i64 A' (k * k) ys → Nums W A' (k * k) g := fun W A' hI => by rw [← hg]; exact nums_ints hI hpos
  obtain ⟨o, ho⟩ : ∃ o, allO k f g k = o := ⟨_, rfl⟩
  have km : ∀ W A' c' B' d', Nums W A' (k * k) f → Nums W B' (k * k) g → Calls Try.prog 30 #[.agg #[.int .i64 k, .slice A' (k * k) c'], .agg #[.int .i64 k, .slice B' (k * k) d']] W fun e w' => ∃ g1, e = .returned (.tuple #[matV k g1, .bool o, .int .i64 0]) ∧ NewMat W w' k g1 (mulF k f g) := fun W A' c' B' d' hA hB => by
    have h := Mul_any k c' d' A' B' f g h1 h6 W hA hB (fun t _ => hfi t) (fun t _ => hgi t)
    rw [ho] at h
    exact h
  have ktm : ∀ W A' c' B' m' j, j < k → Nums W A' (k * k) f → Ints W .i64 B' k (lsN k (fun i => g (i * k + j))) → Calls Try.prog 39 #[.agg #[.int .i64 k, .slice A' (k * k) c'], .slice B' k m'] W fun e w' =>
      ∃ v, e = .returned (.tuple #[v, .bool (timO k f (fun i => g (i * k + j)) k), .int .i64 0]) ∧ w'.ownsRow W.heap.size 3 1 v k ((lsN k (fun i => mulF k f g (i * k + j))).map (Value.int .i64)) ∧ Below W.heap.size W w' := fun W A' c' B' m' j hj hA hB => by
    have hcol : ∀ i, i < k → (lsN k (fun i => g (i * k + j))).getD i 0 = g (i * k + j) := fun i hi => lsN_get _ hi
    have h := Times_any k c' m' A' B' f (lsN k (fun i => g (i * k + j))) h1 h6 W hA (fun t _ => hfi t) hB (fun t => by
      by_cases ht : t < k
      · rw [hcol t ht]; exact hgi _
      · rw [List.getD, List.getElem?_eq_none (by rw [lsN_len]; omega)]; show In 0; unfold In; omega)
    have e1 : timO k f (fun t => (lsN k (fun i => g (i * k + j))).getD t 0) k = timO k f (fun i => g (i * k + j)) k := by
      have := fun i => (acc_congr (x := fun q => f (i * k + q)) (y := fun t => (lsN k (fun i => g (i * k + j))).getD t 0) (x' := fun q => f (i * k + q)) (y' := fun i => g (i * k + j)) k (fun q hq => by simp only [hcol q hq])).2
      unfold timO
      congr 1
      funext i'
      exact this i'
    have e2 : lsN k (timR k f (fun t => (lsN k (fun i => g (i * k + j))).getD t 0)) = lsN k (fun i => mulF k f g (i * k + j)) := by
      unfold lsN
      apply List.map_congr_left
      intro i hi
      rw [mulF_at f g hj]
      exact (acc_congr k (fun q hq => by have := hcol q hq; unfold lsN at this; simp only [this])).1
    rw [e1, e2] at h
    exact h
  have hbent : ∀ j, j ≤ k → (((List.range j).any fun j' => timO k f (fun i => g (i * k + j')) k) = true ↔ ∃ j', j' < j ∧ ∃ i', i' < k ∧ accO (fun q => f (i' * k + q)) (fun i => g (i * k + j')) k = true) := fun j _ => by
    rw [List.any_eq_true]
    constructor
    · rintro ⟨j', hj', h⟩
      exact ⟨j', List.mem_range.1 hj', (timO_iff _ _ _ _).1 h⟩
    · rintro ⟨j', hj', h⟩
      exact ⟨j', List.mem_range.2 hj', (timO_iff _ _ _ _).2 h⟩
  have hall : colO k f g k = o := by
    rw [← ho]
    apply Bool.eq_iff_iff.2
    rw [allO_iff]
    unfold colO
    rw [hbent k (Nat.le_refl _)]
    constructor
    · rintro ⟨j', hj', i', hi', h⟩
      exact ⟨i', hi', j', hj', h⟩
    · rintro ⟨i', hi', j', hj', h⟩
      exact ⟨j', hj', i', hi', h⟩
  unfold matV at km
  have too : (o == o) = true := by simp
  have KO := Lib.hid ko
  have KO2 := Lib.hid ko2
  have KM := Lib.hid km
  have KTM := Lib.hid ktm
  have HALL := Lib.hid hall
  have NF := Lib.hid nf
  have NG := Lib.hid ng
  have BW := Lib.hid (((Below.refl w.heap.size w).alloc (Nat.le_refl _) (.cells #[.int .i64 k, .slice A (k * k) c] 31)).alloc (by simp) (.cells #[.int .i64 k, .slice B (k * k) d] 31))
  have H := Lib.hid ((h.alloc (.cells #[.int .i64 k, .slice A (k * k) c] 31)).alloc (.cells #[.int .i64 k, .slice B (k * k) d] 31))
  have H' := Lib.hid ((h'.alloc (.cells #[.int .i64 k, .slice A (k * k) c] 31)).alloc (.cells #[.int .i64 k, .slice B (k * k) d] 31))
  have P := Lib.hid ((Blk.new w 31 #[.int .i64 k, .slice A (k * k) c]).alloc (.cells #[.int .i64 k, .slice B (k * k) d] 31))
  have P' := Lib.hid (Blk.at_ (w.alloc (.cells #[.int .i64 k, .slice A (k * k) c] 31)) (w.heap.size + 1) 31 #[.int .i64 k, .slice B (k * k) d] (by simp))
  clear ko ko2 km ktm hbent hall nf ng h h' hz hy hA hB hin hzi hyi hf hg hfi hgi ho HZL
  go_enter Try.func9, Try.ntmps9
  go_upto_region 1 with fail
  generalize (w.alloc (.cells #[.int .i64 k, .slice A (k * k) c] 31)).alloc (.cells #[.int .i64 k, .slice B (k * k) d] 31) = W0 at *
  have H2 := Lib.hid (fun W (hW : Below W0.heap.size W0 W) => H.out.next hW)
  have H3 := Lib.hid (fun W (hW : Below W0.heap.size W0 W) => H'.out.next hW)
  have PS := Lib.hid (fun W (hW : Below W0.heap.size W0 W) => (show W.cell? ⟨w.heap.size, 0, none⟩ = some (.int .i64 k) ∧ W.cell? ⟨w.heap.size, 1, none⟩ = some (.slice A (k * k) c) ∧ W.cell? ⟨w.heap.size + 1, 0, none⟩ = some (.int .i64 k) ∧ W.cell? ⟨w.heap.size + 1, 1, none⟩ = some (.slice B (k * k) d) from
    ⟨(P.out.next hW).cell 0, (P.out.next hW).cell 1, (P'.out.next hW).cell 0, (P'.out.next hW).cell 1⟩))
  clear H H' P P'
  go_cut [5, 6, 7] (fun s3 s4 s5 wx => CutMat W0 k (mulF k f g) o s3 s4 s5 wx)
  case first =>
    have hF := (Below.refl W0.heap.size W0).drew
    go_region_held3 (fun w' => w'.cell? ⟨w.heap.size, 0, none⟩ = some (.int .i64 k) ∧ w'.cell? ⟨w.heap.size, 1, none⟩ = some (.slice A (k * k) c) ∧ w'.cell? ⟨w.heap.size + 1, 0, none⟩ = some (.int .i64 k) ∧ w'.cell? ⟨w.heap.size + 1, 1, none⟩ = some (.slice B (k * k) d))
      (first | exact PS.out _ hF | exact PS.out _ (hF.alloc hF.size _) | exact PS.out _ ((hF.setCell hZ.2 _).setCell hZ.2 _) | exact PS.out _ (((Below.refl W0.heap.size W0).alloc (Nat.le_refl _) _).drew))
      (first
        | (go_at_call 28; (with_reducible refine (KO.out _ ?_).mono ?_); (first | exact H2.out _ hF | exact H2.out _ (((Below.refl W0.heap.size W0).alloc (Nat.le_refl _) _).drew)); rintro e w4 ⟨A1, c1, rfl, hown, hB4⟩; (first | have hF4 := below_next hF hB4 | (have hF4 := F_start0 hB4; have hZ := ZB.start0 hB4)); have hI := NF.out _ _ (Ints.own hown); clear hF hB4 hown; have hF := hF4; clear hF4)
        | (go_at_call 28; (with_reducible refine (KO2.out _ ?_).mono ?_); (first | exact H3.out _ hF | exact H3.out _ (hF.alloc hF.size _)); rintro e w4 ⟨A2, c2, rfl, hown, hB4⟩; (first | (have hI5 := hI.below hB4; have hF4 := below_next hF hB4; (try (have hZ4 := hZ.next hB4; clear hZ; have hZ := hZ4; clear hZ4))) | (have hI5 := (hI.alloc _).below hB4; have hF4 := F_alloc hF hB4; have hZ := ZB.start hF hB4)); have hJ := NG.out _ _ (Ints.own hown); clear hF hB4 hI hown; have hF := hF4; have hI := hI5; clear hF4 hI5)
        | (go_at_call 30; (with_reducible refine (KM.out _ A1 c1 A2 c2 ?_ ?_).mono ?_); (first | exact hI | exact hI.alloc _); (first | exact hJ | exact hJ.alloc _); rintro e w4 ⟨g1, rfl, hg1, hb, hB4⟩; (first | (have hF4 := below_next hF hB4; (try (have hZ4 := hZ.next hB4; clear hZ; have hZ := hZ4; clear hZ4))) | (have hF4 := F_alloc hF hB4; have hZ := ZB.start hF hB4)); clear hF hB4 hI hJ; have hF := hF4; clear hF4; (try obtain ⟨z0, z1, z2, z3⟩ := hZ.cells)))
    all_goals (go_wp2_with fail; go_meet)
    all_goals first
      | exact cut_mk1 hZ hb hF
      | exact cut_mk2 hb hF
  case rest =>
    obtain ⟨q1, g1, rfl, rfl, rfl, hq1, hg1, hc1⟩ := hcut
    have Q := Lib.hid (fun W (hW : Below wc.heap.size wc W) => hq1.next hW)
    have G := Lib.hid (fun W (hW : Below wc.heap.size wc W) => hg1.next hW)
    have I := Lib.hid (fun W (hW : Below wc.heap.size wc W) => H2.out W (below_next hc1 hW))
    have J := Lib.hid (fun W (hW : Below wc.heap.size wc W) => H3.out W (below_next hc1 hW))
    have PC := Lib.hid (fun W (hW : Below wc.heap.size wc W) => PS.out W (below_next hc1 hW))
    have BC := Lib.hid (below_next BW.out hc1)
    clear hq1 hg1 hc1 H2 H3 PS BW KM
    obtain ⟨W1, rfl⟩ : ∃ W1 : World, W1 = wc := ⟨_, rfl⟩
    obtain ⟨i0, hi0, hz0, hz1, hz2⟩ := info_parts infoIntF
    obtain ⟨gB, oB, rfl, hgB, hcB⟩ := NG.out _ _ (J.out _ (Below.refl _ _))
    have HCB := Lib.hid (fun W (hW : Below W1.heap.size W1 W) t ht => (hW.cell (p := ⟨gB, oB + t, none⟩) hgB).trans (hcB t ht))
    have tkk : ((k : Int) != (k : Int)) = false := by simp
    clear hcB
    go_wp2_with fail
    go_loopw [8, 9] (fun ov jv W => Rel1 W1 k f g ov jv W) (fun _ jv _ => k - (intOf jv).toNat)
    case atStart => exact ⟨0, by omega, rfl, rfl, Below.refl _ _⟩
    case round =>
      obtain ⟨j, hj, rfl, rfl, hF⟩ := hrel
      obtain ⟨wj, rfl⟩ : ∃ wj : World, wj = wr := ⟨_, rfl⟩
      obtain ⟨-, -, c2, c3⟩ := PC.out _ hF
      by_cases hjk : j < k
      · have F := Lib.hid hF
        clear hF
        go_wp2_with fail
        clear c2 c3
        go_loopw [10, 11] (fun v iv W => Rel2 wj k g j v iv W) (fun _ iv _ => k - (intOf iv).toNat)
        case atStart => exact ⟨0, by omega, rfl, World.ownsRow_nil _ _ _ _, Below.refl _ _⟩
        case round =>
          obtain ⟨i, hi, rfl, hown, hG⟩ := hrel
          obtain ⟨wi, rfl⟩ : ∃ wi : World, wi = wr := ⟨_, rfl⟩
          have hF2 := below_next F.out hG
          obtain ⟨c0, c1, c2, c3⟩ := PC.out _ hF2
          by_cases hik : i < k
          · have hx := idx_lt hik hjk
            have cB := HCB.out _ hF2 _ hx
            have hq1 : (0 : Int) ≤ (i : Int) * (k : Int) := by exact_mod_cast Nat.zero_le (i * k)
            have hq2 : (i : Int) * (k : Int) ≤ 36 := by exact_mod_cast (show i * k ≤ 36 by omega)
            have hq3 : (i : Int) * (k : Int) + (j : Int) ≤ 36 := by exact_mod_cast (show i * k + j ≤ 36 by omega)
            have hq5 : (0 : Int) ≤ (i : Int) * (k : Int) + (j : Int) := by exact_mod_cast Nat.zero_le (i * k + j)
            have hq4 : (i : Int) * (k : Int) + (j : Int) < (k : Int) * (k : Int) := by exact_mod_cast hx
            have hq6 : ((i : Int) * (k : Int) + (j : Int)).toNat = i * k + j := by
              rw [show (i : Int) * (k : Int) + (j : Int) = ((i * k + j : Nat) : Int) by push_cast; rfl]; rfl
            have hq7 : IntKind.i64.wrap ((i : Int) * (k : Int)) = (i : Int) * (k : Int) := IntWalk.i64_in _ (by omega)
            have hq8 : IntKind.i64.wrap ((i : Int) * (k : Int) + (j : Int)) = (i : Int) * (k : Int) + (j : Int) := IntWalk.i64_in _ (by omega)
            have hls := ls_push i (fun i => g (i * k + j))
            have hls : lsN (i + 1) (fun i => g (i * k + j)) = lsN i (fun i => g (i * k + j)) ++ [g (i * k + j)] := hls
            generalize g (i * k + j) = x at cB hls
            have HLS := Lib.hid hls
            have HOwn := Lib.hid hown
            have G := Lib.hid hG
            clear hls hown hG hF2 c0 c1
            go_wp2_with (at_builtin; (refine wpList_append_ints rfl _ _ 29 rfl wj.heap.size 3 i0 (.int .i64 0) .i64 8 Try.underlying29 hi0 hz0 hz1 hz2 (by rfl) _ i _ rfl (HOwn.out.alloc _) (some ⟨wi.heap.size, 0, none⟩) 1 1 [x] rfl (by simp) (ints_one _ _) (by unfold maxLen; omega) (by omega) (by have := G.out.size; simp; omega) ?_; intro v2 w2 hown2 hg2))
            go_roundw
            case rel =>
              refine ⟨i + 1, by omega, by go_num, ?_, (G.out.alloc G.out.size _).grown hg2 (by have := G.out.size; simp; omega) (fun j hj => (HOwn.out.lt j hj).1)⟩
              rw [HLS.out, List.map_append]
              exact hown2
            case measure => simp [intOf]; omega
          · obtain rfl : k = i := by omega
            obtain ⟨A3, c3', rfl⟩ := own_shape hown
            have HI := Lib.hid (Ints.own hown)
            have I0 := Lib.hid (I.out _ hF2)
            have F2 := Lib.hid hF2
            clear hown hG hF2 c2 c3
            have c2 := (PC.out _ F2.out).2.2.1
            go_wp2_with fail
            refine (KO.out _ I0.out).mono ?_
            rintro e w2 ⟨A1, d1, rfl, hown, hB2⟩
            have N2 := Lib.hid (NF.out _ _ (Ints.own hown))
            have HI2 := Lib.hid (HI.out.next hB2)
            have F3 := Lib.hid (below_next F2.out hB2)
            clear hown hB2 c0 c1 c2
            go_wp2_with fail
            refine (KTM.out _ A1 d1 A3 c3' j hjk N2.out HI2.out).mono ?_
            rintro e w3 ⟨v3, rfl, hown3, hB3⟩
            obtain ⟨gx, cx, rfl, hgx, _, hX⟩ := rowX_own hown3 h1
            have F4 := Lib.hid (below_next F3.out hB3)
            have HX := Lib.hid (fun W (hW : Below w3.heap.size w3 W) => hX.next hW)
            have hcs := colO_succ k f g j
            generalize timO k f (fun i => g (i * k + j)) k = tb at *
            have HCS := Lib.hid hcs
            clear hown3 hB3 hX hcs HI HI2 N2 F2 F3 I0
            obtain ⟨-, -, c2, c3⟩ := PC.out _ F4.out
            have hlen : ((k : Int) != (k : Int)) = false := by simp
            go_upto_region 16 with fail
            go_cut [8] (fun s wx => s = .bool (colO k f g (j + 1)) ∧ wx = w3)
            case first =>
              have hcs := HCS.out
              cases hoo : colO k f g j with
              | true =>
                rw [hoo] at hcs
                have HC2 := Lib.hid hcs
                clear hcs
                go_wp2_with fail
                go_meet
                exact ⟨by rw [HC2.out]; rfl, rfl⟩
              | false =>
                rw [hoo] at hcs
                have HC2 := Lib.hid hcs
                clear hcs
                go_wp2_with fail
                go_meet
                exact ⟨by rw [HC2.out]; rfl, rfl⟩
            case rest =>
              obtain ⟨rfl, rfl⟩ := hcut
              obtain ⟨w3, rfl⟩ : ∃ w3 : World, w3 = wc := ⟨_, rfl⟩
              go_wp2_with fail
              go_loopw [15] (fun iv W => Rel3 w3 k iv W) (fun iv _ => k - (intOf iv).toNat)
              case atStart => exact ⟨0, by omega, rfl, Below.refl _ _⟩
              case round =>
                obtain ⟨i, hi, rfl, hG⟩ := hrel
                obtain ⟨wi, rfl⟩ : ∃ wi : World, wi = wr := ⟨_, rfl⟩
                have hF5 := below_next F4.out hG
                clear c2 c3
                obtain ⟨-, -, c2, c3⟩ := PC.out _ hF5
                by_cases hik : i < k
                · have hx := idx_lt hik hjk
                  have cM := (G.out _ hF5).cell (i * k + j)
                  rw [tabN_get _ hx] at cM
                  have cX := (HX.out _ hG).cell hik
                  have e1 : (lsN k (fun i => mulF k f g (i * k + j))).getD i 0 = mulF k f g (i * k + j) := lsN_get _ hik
                  rw [e1] at cX
                  have cQ := (Q.out _ hF5).cell 1
                  simp only [List.getElem?_toArray, List.getElem?_cons_zero, List.getElem?_cons_succ] at cQ
                  have hr1 : (0 : Int) ≤ (i : Int) * (k : Int) := by exact_mod_cast Nat.zero_le (i * k)
                  have hr2 : (i : Int) * (k : Int) ≤ 36 := by exact_mod_cast (show i * k ≤ 36 by omega)
                  have hr3 : (i : Int) * (k : Int) + (j : Int) ≤ 36 := by exact_mod_cast (show i * k + j ≤ 36 by omega)
                  have hr5 : (0 : Int) ≤ (i : Int) * (k : Int) + (j : Int) := by exact_mod_cast Nat.zero_le (i * k + j)
                  have hr4 : (i : Int) * (k : Int) + (j : Int) < (k : Int) * (k : Int) := by exact_mod_cast hx
                  have hr6 : ((i : Int) * (k : Int) + (j : Int)).toNat = i * k + j := by
                    rw [show (i : Int) * (k : Int) + (j : Int) = ((i * k + j : Nat) : Int) by push_cast; rfl]; rfl
                  have hr7 : IntKind.i64.wrap ((i : Int) * (k : Int)) = (i : Int) * (k : Int) := IntWalk.i64_in _ (by omega)
                  have hr8 : IntKind.i64.wrap ((i : Int) * (k : Int) + (j : Int)) = (i : Int) * (k : Int) + (j : Int) := IntWalk.i64_in _ (by omega)
                  generalize mulF k f g (i * k + j) = x at *
                  have tx : (x != x) = false := by simp
                  have z1 : (0 : Int) ≤ (i : Int) := by omega
                  have z2 : (i : Int) < (k : Int) := by omega
                  have GG := Lib.hid hG
                  clear hG hF5 e1
                  go_wp2_with fail
                  go_region_held3 (fun w' => w'.cell? ⟨q1, 1, none⟩ = some (.slice (some ⟨g1, 0, none⟩) (k * k) (k * k)) ∧ w'.cell? ⟨w.heap.size + 1, 0, none⟩ = some (.int .i64 k) ∧ w'.cell? ⟨g1, i * k + j, none⟩ = some (.int .i64 x) ∧ w'.cell? ⟨gx, i, none⟩ = some (.int .i64 x)) (exact ⟨cQ, c2, cM, cX⟩) (fail)
                  go_wp2_with fail
                  go_roundw
                  case rel => exact ⟨i + 1, by omega, by go_num, GG.out.drew⟩
                  case measure => simp [intOf]; omega
                · obtain rfl : k = i := by omega
                  have F6 := Lib.hid hF5
                  clear hF5 hG
                  go_wp2_with fail
                  go_roundw
                  case rel => exact ⟨j + 1, by omega, by go_num, rfl, F6.out⟩
                  case measure => simp [intOf]; omega
      · obtain rfl : k = j := by omega
        have B9 := Lib.hid (below_next BC.out hF)
        have hall := HALL.out
        clear hF
        go_wp2_with fail
        refine (stands_any _).mono ?_
        rintro e w9 ⟨rfl, hB9⟩
        have B10 := Lib.hid (below_next B9.out hB9)
        rw [hall]
        clear hB9 hall
        go_wp2_with fail
        go_ret
        exact ⟨rfl, B10.out⟩

def CutBad (W0 : World) (s4 s5 : Value) (wx : World) : Prop := s4 = .bool false ∧ s5 = .int .i64 8 ∧ Below W0.heap.size W0 wx

set_option maxRecDepth 100000 in
set_option maxHeartbeats 4000000 in
theorem walk2 (N M : Int) (n m c d : Nat) (A B : Option Addr) (zs ys : List Int) (w : World) (h : Ints w .i64 A n zs) (hA : A = none → n = 0 ∧ c = 0) (hn : n * 8 ≤ 140737488355328)
    (h' : Ints w .i64 B m ys) (hB : B = none → m = 0 ∧ d = 0) (hm : m * 8 ≤ 140737488355328) (hbad : mulB N n M m = false) :
    Calls Try.prog 9 #[.agg #[.int .i64 N, .slice A n c], .agg #[.int .i64 M, .slice B m d]] w fun e w' => e = .returned (.bool true) ∧ Below w.heap.size w w' := by
  have ko := fun W (hI : Ints W .i64 A n zs) => own_any N A n c zs W hI hA hn
  have ko2 := fun W (hI : Ints W .i64 B m ys) => own_any M B m d ys W hI hB hm
  have km := fun W A' B' c' d' => Mul_bad N M A' B' n m c' d' (by omega) (by omega) hbad W
  have KO := Lib.hid ko
  have KO2 := Lib.hid ko2
  have KM := Lib.hid km
  have BW := Lib.hid (((Below.refl w.heap.size w).alloc (Nat.le_refl _) (.cells #[.int .i64 N, .slice A n c] 31)).alloc (by simp) (.cells #[.int .i64 M, .slice B m d] 31))
  have H := Lib.hid ((h.alloc (.cells #[.int .i64 N, .slice A n c] 31)).alloc (.cells #[.int .i64 M, .slice B m d] 31))
  have H' := Lib.hid ((h'.alloc (.cells #[.int .i64 N, .slice A n c] 31)).alloc (.cells #[.int .i64 M, .slice B m d] 31))
  have P := Lib.hid ((Blk.new w 31 #[.int .i64 N, .slice A n c]).alloc (.cells #[.int .i64 M, .slice B m d] 31))
  have P' := Lib.hid (Blk.at_ (w.alloc (.cells #[.int .i64 N, .slice A n c] 31)) (w.heap.size + 1) 31 #[.int .i64 M, .slice B m d] (by simp))
  clear ko ko2 km h h' hA hB hbad
  go_enter Try.func9, Try.ntmps9
  go_upto_region 1 with fail
  generalize (w.alloc (.cells #[.int .i64 N, .slice A n c] 31)).alloc (.cells #[.int .i64 M, .slice B m d] 31) = W0 at *
  have H2 := Lib.hid (fun W (hW : Below W0.heap.size W0 W) => H.out.next hW)
  have H3 := Lib.hid (fun W (hW : Below W0.heap.size W0 W) => H'.out.next hW)
  have PS := Lib.hid (fun W (hW : Below W0.heap.size W0 W) => (show W.cell? ⟨w.heap.size, 0, none⟩ = some (.int .i64 N) ∧ W.cell? ⟨w.heap.size, 1, none⟩ = some (.slice A n c) ∧ W.cell? ⟨w.heap.size + 1, 0, none⟩ = some (.int .i64 M) ∧ W.cell? ⟨w.heap.size + 1, 1, none⟩ = some (.slice B m d) from
    ⟨(P.out.next hW).cell 0, (P.out.next hW).cell 1, (P'.out.next hW).cell 0, (P'.out.next hW).cell 1⟩))
  clear H H' P P'
  go_cut [5, 6, 7] (fun _ s4 s5 wx => CutBad W0 s4 s5 wx)
  case first =>
    have hF := (Below.refl W0.heap.size W0).drew
    go_region_held3 (fun w' => w'.cell? ⟨w.heap.size, 0, none⟩ = some (.int .i64 N) ∧ w'.cell? ⟨w.heap.size, 1, none⟩ = some (.slice A n c) ∧ w'.cell? ⟨w.heap.size + 1, 0, none⟩ = some (.int .i64 M) ∧ w'.cell? ⟨w.heap.size + 1, 1, none⟩ = some (.slice B m d))
      (first | exact PS.out _ hF | exact PS.out _ (hF.alloc hF.size _) | exact PS.out _ ((hF.setCell hZ.2 _).setCell hZ.2 _) | exact PS.out _ (((Below.refl W0.heap.size W0).alloc (Nat.le_refl _) _).drew))
      (first
        | (go_at_call 28; (with_reducible refine (KO.out _ ?_).mono ?_); (first | exact H2.out _ hF | exact H2.out _ (((Below.refl W0.heap.size W0).alloc (Nat.le_refl _) _).drew)); rintro e w4 ⟨A1, c1, rfl, hown, hB4⟩; (first | have hF4 := below_next hF hB4 | (have hF4 := F_start0 hB4; have hZ := ZB.start0 hB4)); clear hF hB4 hown; have hF := hF4; clear hF4)
        | (go_at_call 28; (with_reducible refine (KO2.out _ ?_).mono ?_); (first | exact H3.out _ hF | exact H3.out _ (hF.alloc hF.size _)); rintro e w4 ⟨A2, c2, rfl, hown, hB4⟩; (first | (have hF4 := below_next hF hB4; (try (have hZ4 := hZ.next hB4; clear hZ; have hZ := hZ4; clear hZ4))) | (have hF4 := F_alloc hF hB4; have hZ := ZB.start hF hB4)); clear hF hB4 hown; have hF := hF4; clear hF4)
        | (go_at_call 30; (with_reducible refine (KM.out _ A1 A2 c1 c2).mono ?_); rintro e w4 ⟨rfl, hB4⟩; (first | (have hF4 := below_next hF hB4; (try (have hZ4 := hZ.next hB4; clear hZ; have hZ := hZ4; clear hZ4))) | (have hF4 := F_alloc hF hB4; have hZ := ZB.start hF hB4)); clear hF hB4; have hF := hF4; clear hF4; (try obtain ⟨z0, z1, z2, z3⟩ := hZ.cells)))
    all_goals (go_wp2_with fail; go_meet)
    all_goals first
      | exact ⟨rfl, rfl, (hF.setCell hZ.2 _).setCell hZ.2 _⟩
      | exact ⟨rfl, rfl, hF.alloc hF.size _⟩
  case rest =>
    obtain ⟨rfl, rfl, hc1⟩ := hcut
    have BC := Lib.hid (below_next BW.out hc1)
    clear hc1 BW PS H2 H3
    go_wp2_with fail
    refine (stands_any _).mono ?_
    rintro e w8 ⟨rfl, hB8⟩
    have B8 := Lib.hid (below_next BC.out hB8)
    clear hB8
    go_wp2_with fail
    go_ret
    exact ⟨rfl, B8.out⟩

set_option maxRecDepth 100000 in
theorem walk {H : Type} {enc : TypeId × Value → H} {d0 d1 : DataW H} {p0 p1 : List MemPlace} (v0 v1 : Value) (W : World) (base : Nat)
    (h0 : Value.okWide Try.prog W .any base 31 v0) (k0 : DataW.Trod enc Try.prog W 0 (fun _ => true) true 31 v0 d0 p0)
    (h1 : Value.okWide Try.prog W .any base 31 v1) (k1 : DataW.Trod enc Try.prog W 0 (fun _ => true) true 31 v1 d1 p1)
    (s0 : ∀ x ∈ d0.weights Try.prog 31, x ≤ reachBytes) (s1 : ∀ x ∈ d1.weights Try.prog 31, x ≤ reachBytes) :
    Calls Try.prog 9 #[v0, v1] W fun e w' => e = .returned (.bool true) ∧ Below W.heap.size W w' := by
  obtain ⟨N, A, n, c, zs, rfl, iN, hI, hz, hA, hnc, hn⟩ := mat_in h0 k0 s0
  obtain ⟨M, B, m, d, ys, rfl, iM, hJ, hy, hB, hmd, hm⟩ := mat_in h1 k1 s1
  cases hg : mulB N n M m with
  | true =>
    unfold mulB at hg
    simp only [Bool.and_eq_true, decide_eq_true_eq] at hg
    obtain ⟨g1, g2, rfl⟩ := hg
    obtain ⟨k, rfl, rfl, q1, q6⟩ := goodK g1
    obtain ⟨k', e, rfl, _, _⟩ := goodK g2
    obtain rfl : k = k' := by omega
    exact walk1 k c d A B zs ys q1 q6 W hI hz hA hJ hy hB
  | false => exact walk2 N M n m c d A B zs ys W hI hA (by omega) hJ hB (by omega) hg
end Go.Proofs.Ytflaanfmanileaa.lawMatColumns
