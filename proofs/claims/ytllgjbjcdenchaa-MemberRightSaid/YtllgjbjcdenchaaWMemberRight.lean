/- The walk of MemberRight: the roll stays good, at least two are in, changes are just those told. -/
import Derived.Test.YtllgjbjcdenchaaMemRight
import Derived.Deep.Grids
import Derived.Deep.DeepMust
import Derived.BigGuard
set_option linter.unusedVariables false
namespace Go.Proofs.Ytllgjbjcdenchaa.lawMemberRight
open Go.RowKit Go.Proofs.Ytllgjbjcdenchaa Mb

theorem chC_get {l : List (Int × Int)} : ∀ {j : Nat} (h : j < l.length), (chC l)[j * 2]? = some (.int .i64 (l[j]).1) ∧ (chC l)[j * 2 + 1]? = some (.int .i64 (l[j]).2) := by
  induction l with
  | nil => intro j h; exact absurd h (Nat.not_lt_zero _)
  | cons p l ih =>
    intro j h
    have e : chC (p :: l) = .int .i64 p.1 :: .int .i64 p.2 :: chC l := rfl
    rw [e]
    cases j with
    | zero => exact ⟨rfl, rfl⟩
    | succ j =>
      have := ih (j := j) (by simpa using h)
      rw [show (j + 1) * 2 = j * 2 + 1 + 1 by omega]
      exact this
theorem RB.below {W W' : World} {g B : Nat} {R : Rl} (h : RB W g R) (hb : Below B W W') (hg : g < B) : RB W' g R := Blk.below h hb hg
/-- bools that came in -/
def Bools (W : World) (A : Option Addr) (n : Nat) (B : Nat → Bool) : Prop := 0 < n → ∃ b off, A = some ⟨b, off, none⟩ ∧ b < W.heap.size ∧ ∀ i, i < n → W.cell? ⟨b, off + i, none⟩ = some (.bool (B i))
theorem bools_in {P : Program} {W : World} {H : Type} {enc : TypeId × Value → H} {t e : TypeId} {A : Option Addr} {n c : Nat} {d : DataW H} {p : List MemPlace} (ht : P.underlying t = some (.slice e)) (he : P.underlying e = some .bool) (ce : P.cellsOf e = 1)
    (h : DataW.Trod enc P W 0 (fun _ => true) true t (.slice A n c) d p) : ∃ B, Bools W A n B := by
  obtain ⟨fuel, hf⟩ := h
  rcases Go.Deep.open_bools ht he ce hf with ⟨hcs, _⟩ | ⟨a, len, cap, B, hcs, _, hl, _, _, hx⟩
  · simp [Value.cells] at hcs
    obtain ⟨rfl, rfl, rfl⟩ := hcs
    exact ⟨fun _ => false, fun h => absurd h (Nat.lt_irrefl 0)⟩
  · simp [Value.cells] at hcs
    obtain ⟨rfl, rfl, rfl⟩ := hcs
    refine ⟨B, fun hn => ?_⟩
    have h0 := hx 0 (by omega)
    have hsp : a.spot = none := by
      have := World.cell?_spot h0
      simpa [Addr.add] using this
    obtain ⟨b, off, sp⟩ := a
    simp only at hsp
    subst hsp
    refine ⟨b, off, rfl, ?_, fun i hi => ?_⟩
    · have := World.block_lt_of_cell? _ _ h0
      simpa [Addr.add] using this
    · have := hx i (by omega)
      rw [show (⟨b, off, none⟩ : Addr).add i = ⟨b, off + i, none⟩ by unfold Addr.add; split <;> simp_all] at this
      exact this
theorem roll_self (R : Rl) (w : World) : (Op.equalIn 10000 56 (.agg (rollC R)) (.agg (rollC R))).run Try.prog w = .ok true w := eql_self (by kernel_rfl) (by kernel_rfl) w

/-- what holds at the head of the loop -/
def RightRel (w : World) (gr n : Nat) (i : Value) (wr : World) : Prop :=
  ∃ (k : Nat) (R : Rl), k ≤ n ∧ k ≤ 60 ∧ i = .int .i64 k ∧ RB wr gr R ∧ Mb.Good R ∧ 2 ≤ cntIn R 4 ∧ Below w.heap.size w wr

/-- what holds at the head of the loop over the changes -/
def LoopRel (L : List (Int × Int)) (cr : Nat) (wc : World) (s11 i : Value) (wr : World) : Prop :=
  ∃ j : Nat, j ≤ L.length ∧ i = .int .i64 j ∧ s11 = .int .i64 ((cr : Int) + sumz (L.take j)) ∧ Below wc.heap.size wc wr

set_option maxRecDepth 100000 in
set_option maxHeartbeats 8000000 in
theorem walk1 (A : Option Addr) (n c : Nat) (M : Nat → Nat → Bool) (A2 : Option Addr) (m c2 : Nat) (Wk : Nat → Bool) (w : World) (h : Rows4 w A n M) (hn : n ≤ 9223372036854775807) (h2 : Bools w A2 m Wk) (hm : m ≤ 9223372036854775807) :
    Calls Try.prog 15 #[.slice A n c, .slice A2 m c2] w fun e w' => e = .returned (.bool true) ∧ Below w.heap.size w w' := by
  have HR4 := Lib.hid h
  have HW4 := Lib.hid h2
  clear h h2
  go_enter Try.func15, Try.ntmps15
  go_wp2_with fail
  refine (begin_any _).mono ?_
  rintro e w1 ⟨rfl, hB1⟩
  have hnw : RB (w1.alloc (.cells (rollC R0) 56)) w1.heap.size R0 := Blk.new _ _ _
  have HN := Lib.hid hnw
  have HB1 := Lib.hid (hB1.alloc hB1.size (.cells (rollC R0) 56))
  have hs1 := hB1.size
  clear hnw hB1
  go_wp2_with (refine wpList_store_blk rfl 56 (.tmp 5) (.tmp 14) rfl w1.heap.size _ _ (rollC RB0) rfl rfl HN.out rfl (by kernel_rfl) (rollC_one _) ?_; intro w2 hR2 hg2; have HR2 := Lib.hid hR2; have HB2 := Lib.hid (HB1.out.grown hg2 (by simp; omega) (fun j hj => by cases hj; omega)); clear hR2 hg2)
  clear HN HB1
  obtain ⟨gr, hgr⟩ : ∃ gr, w1.heap.size = gr := ⟨_, rfl⟩
  have HGR := Lib.hid hgr
  rw [hgr] at hs1
  clear hgr
  rw [HGR.out]
  go_loopw [6] (fun i wr => RightRel w gr n i wr) (fun i _ => n - (intOf i).toNat)
  case atStart => exact ⟨0, RB0, by omega, by omega, rfl, by rw [← HGR.out]; exact HR2.out, RB0_good, by decide, HB2.out⟩
  case round =>
    clear HR2 HB2
    obtain ⟨k, R, hk, hk60, rfl, hR, hG, hc2, hB⟩ := hrel
    have HGd := Lib.hid hG
    have HC2 := Lib.hid hc2
    clear hG hc2
    by_cases hkn : k < n
    · by_cases hk6 : k < 60
      · obtain ⟨b, off, rfl, hb, hc⟩ := HR4.out (by omega)
        have c0 := (hB.cell (p := ⟨b, off + k * 4 + 0, none⟩) hb).trans (hc k hkn 0 (by omega))
        have c1 := (hB.cell (p := ⟨b, off + k * 4 + 1, none⟩) hb).trans (hc k hkn 1 (by omega))
        have c2 := (hB.cell (p := ⟨b, off + k * 4 + 2, none⟩) hb).trans (hc k hkn 2 (by omega))
        have c3 := (hB.cell (p := ⟨b, off + k * 4 + 3, none⟩) hb).trans (hc k hkn 3 (by omega))
        simp only [Nat.add_zero] at c0
        have HR := Lib.hid hR
        have HB := Lib.hid hB
        clear hc hB hR
        go_wp2_with fail
        refine (verdict_any (M k) _).mono ?_
        rintro e w5 ⟨b1, cp, rfl, hb1, hb2, hb3, hbB⟩
        have HAg := Lib.hid hb3
        have HR' := Lib.hid (RB.next HR.out hbB)
        have HB' := Lib.hid (below_next HB.out hbB)
        clear c0 c1 c2 c3 hbB hb3 hb1 HR HB
        have HR := HR'
        have HB := HB'
        clear HR' HB'
        by_cases hkm : k < m
        · have t0 : decide (m ≤ k) = false := by simp; omega
          obtain ⟨b2, off2, rfl, hbw, hcw⟩ := HW4.out (by omega)
          have d00 := (HB.out.cell (p := ⟨b2, off2 + k, none⟩) hbw).trans (hcw k hkm)
          have hbw5 := Nat.lt_of_lt_of_le hbw HB.out.size
          have d0 : ∀ o, (w5.alloc o).cell? ⟨b2, off2 + k, none⟩ = some (.bool (Wk k)) := fun o => (cell_same (Below.heap_alloc w5 o b2 hbw5) _).trans d00
          clear hcw d00
          generalize Wk k = wk at *
          cases wk with
          | false =>
            obtain ⟨r1, r2, r3, r4, r5, r6⟩ := right_all (R := R) (A := M k) true HGd.out HC2.out
            have KS := Lib.hid (Step_any R (M k) 0 true b1 0 cp (w5.alloc (.cells #[.int .i64 0, .bool true, .slice (some ⟨b1, 0, none⟩) 4 cp] 33)) HGd.out (Nat.lt_trans hb2 (by simp)) (fun j hj => (cell_same (Below.heap_alloc w5 _ b1 hb2) _).trans (HAg.out j hj)))
            have HRv : Hid (RB (w5.alloc (.cells #[.int .i64 0, .bool true, .slice (some ⟨b1, 0, none⟩) 4 cp] 33)) gr R) := Lib.hid (Blk.alloc HR.out _)
            generalize hXY : stepAll R (M k) true = XY at *
            obtain ⟨S, L⟩ := XY
            have HXY := Lib.hid hXY
            simp only at r1 r2 r3 r4 r5 r6
            have R1 := Lib.hid r1
            have R3 := Lib.hid r3
            have R6 := Lib.hid r6
            have hL5 := r5
            have hR2 := r2
            clear r1 r3 r6 r5 r2 hXY HAg hb2
            have hcl := cntIn_le R 4
            have hcs := cntIn_le S 4
            have kG := Lib.hid (fun W => good_any S W)
            have kC := Lib.hid (fun W => count_any S W)
            have kD := Lib.hid (fun W => count_any R W)
            generalize hcr : cntIn R 4 = cr at *
            generalize hcS : cntIn S 4 = cs at *
            have R4 := Lib.hid r4
            have HCR := Lib.hid hcr
            have HCS := Lib.hid hcS
            clear r4 hcr hcS
            have q12 := roll_self R
            have t5 : decide ((cs : Int) < 2) = false := by simp; omega
            go_wp2_with (first
              | go_big_skip
              | (refine wpList_load_at 56 (.tmp 5) rfl rfl gr rfl _ (rollC R) _ HRv.out Try.underlying56 rfl (by kernel_rfl) ?_)
              | (go_at_call 35; go_must ((with_reducible refine KS.out.mono ?_); rintro e w6 ⟨v, rfl, hO, hbB⟩; have e1 := HXY.out; rw [e1] at hO; rw [e1]; clear e1; (simp only [] at hO); have hz6 := hbB.size; have HR' := Lib.hid ((Blk.next (Blk.alloc HR.out _) hbB)); have HV := Lib.hid (Blk.next (Blk.new w5 33 #[.int .i64 0, .bool true, .slice (some ⟨b1, 0, none⟩) 4 cp]) hbB); have HB' := Lib.hid (below_next (HB.out.alloc HB.out.size _) hbB); have HO := Lib.hid (own_le hO (Nat.zero_le _)); have HN : Hid (RB (w6.alloc (.cells (rollC R0) 56)) w6.heap.size R0) := Lib.hid (Blk.new _ _ _); clear HR HRv HB hO hbB KS; have HR := HR'; have HB := HB'; clear HR' HB'))
              | (refine wpList_store_at 56 (.tmp 8) (.tmp 46) rfl rfl w6.heap.size _ _ (rollC S) rfl rfl HN.out rfl (by kernel_rfl) (rollC_one _) ?_; intro w7 hR7 hg7; have hz7 := hg7.size; have HS := Lib.hid hR7; have HR' := Lib.hid (Blk.grown (Blk.alloc HR.out _) hg7 (by have := Blk.lt HR.out; simp; omega)); have HV' := Lib.hid (Blk.grown (Blk.alloc HV.out _) hg7 (by have := Blk.lt HV.out; simp; omega)); have HO' := Lib.hid ((HO.out.alloc _).kept hg7 (.inr (fun e => own_blk_ne (HO.out.alloc _) HN.out (by decide) e.symm))); have HB' := Lib.hid ((HB.out.alloc HB.out.size _).grown hg7 (by have := HB.out.size; simp; omega) (fun j hj => by cases hj; exact HB.out.size)); have hnn : w6.heap.size < w7.heap.size := Blk.lt hR7; have hgn : gr < w6.heap.size := Blk.lt HR.out; obtain ⟨Av, cv, ev⟩ := own_shape HO.out; subst ev; clear HR HV HO HB hR7 hg7 HN; have HR := HR'; have HV := HV'; have HO := HO'; have HB := HB'; clear HR' HV' HO' HB'; have d1 := HV.out.cell 1; (simp only [List.getElem?_toArray, List.getElem?_cons_zero, List.getElem?_cons_succ] at d1))
              | (refine wpList_load_at 56 (.tmp 8) rfl rfl w6.heap.size rfl _ (rollC S) _ HS.out Try.underlying56 rfl (by kernel_rfl) ?_)
              | (refine wpList_load_at 56 (.tmp 5) rfl rfl gr rfl _ (rollC R) _ HR.out Try.underlying56 rfl (by kernel_rfl) ?_)
              | (go_at_call 38; (with_reducible refine (kG.out _).mono ?_); rintro e w8 ⟨gb, rfl, hgb, hb9⟩; obtain rfl : gb = true := hgb.2 R1.out; clear hgb; have HR' := Lib.hid (RB.next HR.out hb9); have HS' := Lib.hid (RB.next HS.out hb9); have HV' := Lib.hid (Blk.next HV.out hb9); have HO' := Lib.hid (own_below HO.out hb9 (fun g hg => (HO.out.lt g hg).2)); have HB' := Lib.hid (below_next HB.out hb9); clear hb9 HR HS HV HO HB; have HR := HR'; have HS := HS'; have HV := HV'; have HO := HO'; have HB := HB'; clear HR' HS' HV' HO' HB'; have d1 := HV.out.cell 1; (simp only [List.getElem?_toArray, List.getElem?_cons_zero, List.getElem?_cons_succ] at d1))
              | (go_at_call 39; (with_reducible refine (kC.out _).mono ?_); rintro e w9 ⟨rfl, hb9⟩; have HR' := Lib.hid (RB.next HR.out hb9); have HS' := Lib.hid (RB.next HS.out hb9); have HV' := Lib.hid (Blk.next HV.out hb9); have HO' := Lib.hid (own_below HO.out hb9 (fun g hg => (HO.out.lt g hg).2)); have HB' := Lib.hid (below_next HB.out hb9); clear hb9 HR HS HV HO HB; have HR := HR'; have HS := HS'; have HV := HV'; have HO := HO'; have HB := HB'; clear HR' HS' HV' HO' HB'; have d1 := HV.out.cell 1; (simp only [List.getElem?_toArray, List.getElem?_cons_zero, List.getElem?_cons_succ] at d1))
              | (go_at_call 39; (with_reducible refine (kD.out _).mono ?_); rintro e w10 ⟨rfl, hb9⟩; have HR' := Lib.hid (RB.next HR.out hb9); have HS' := Lib.hid (RB.next HS.out hb9); have HV' := Lib.hid (Blk.next HV.out hb9); have HO' := Lib.hid (own_below HO.out hb9 (fun g hg => (HO.out.lt g hg).2)); have HB' := Lib.hid (below_next HB.out hb9); clear hb9 HR HS HV HO HB; have HR := HR'; have HS := HS'; have HV := HV'; have HO := HO'; have HB := HB'; clear HR' HS' HV' HO' HB'; have d1 := HV.out.cell 1; (simp only [List.getElem?_toArray, List.getElem?_cons_zero, List.getElem?_cons_succ] at d1)))
            generalize hww : w10 = wc at *
            clear hww
            have hcz := HB.out.size
            have hrz := Blk.lt HR.out
            have hsz := Blk.lt HS.out
            have hcr4 : (cr : Int) ≤ 4 := by omega
            go_loopw [11, 80] (fun s11 i wr => LoopRel L cr wc s11 i wr) (fun _ i _ => L.length - (intOf i).toNat)
            case atStart => exact ⟨0, by omega, rfl, by simp [sumz], Below.refl _ _⟩
            case round =>
              obtain ⟨j, hj, rfl, rfl, hb⟩ := hrel
              have hbz := hb.size
              by_cases hjl : j < L.length
              · obtain ⟨g', cap, ea, _, hg', _⟩ := own_form HO.out (by omega)
                injection ea with e1 e2 e3
                subst e1
                clear e2 e3
                have d0 := ((hb.cell (p := ⟨g', j * 2, none⟩) hg').trans (HO.out.cellAt (j * 2) (by omega))).trans (chC_get hjl).1
                have d1 := ((hb.cell (p := ⟨g', j * 2 + 1, none⟩) hg').trans (HO.out.cellAt (j * 2 + 1) (by omega))).trans (chC_get hjl).2
                have hsum := sumz_take hjl
                have hsb := sumz_bd (L.take j)
                have hsl : (L.take j).length ≤ 4 := by rw [List.length_take]; omega
                obtain ⟨jj, hj4, e2, e3, e4⟩ := R3.out L[j] (List.getElem_mem hjl)
                generalize L[j] = p at *
                obtain ⟨p1, p2⟩ := p
                simp only at d0 d1 e2 e3 e4 hsum
                subst e2
                have g0 := (hb.cell hrz).trans (HR.out.inn hj4)
                have s0 := (hb.cell hsz).trans (HS.out.inn hj4)
                have gA := fun o => (cell_same (Below.heap_alloc wr o gr (Nat.lt_of_lt_of_le hrz hbz)) _).trans g0
                have sA := fun o => (cell_same (Below.heap_alloc wr o w6.heap.size (Nat.lt_of_lt_of_le hsz hbz)) _).trans s0
                clear g0 s0
                generalize R.inn jj = ri at *
                generalize S.inn jj = si at *
                subst e3
                have hz1 : (0 : Int) ≤ (jj : Int) := by omega
                have hz2 : (jj : Int) < 4 := by omega
                have v1 : decide ((jj : Int) < 0) = false := decide_eq_false (by omega)
                have v2 : decide ((3 : Int) < (jj : Int)) = false := by simp; omega
                have v3 : decide (3 < jj) = false := by simp; omega
                generalize hz : sumz (L.take j) = z at *
                have hz3 : (-4 : Int) ≤ z := by omega
                have hz4 : z ≤ 4 := by omega
                have HBw := Lib.hid hb
                clear hb hsb hsl
                cases ri
                · have v4 : (p1 == 2) = true := e4.symm
                  rw [v4] at hsum
                  simp only [if_true] at hsum
                  simp only [Bool.not_false] at sA
                  clear e4
                  go_wp2_with fail
                  go_quiet (fail)
                  go_wp2_with fail
                  go_roundw
                  case rel => exact ⟨j + 1, by omega, by go_num, by rw [hsum]; first | go_num | (congr 1; omega), (HBw.out.alloc hbz _).trans (below_drewN _ _ _)⟩
                  case measure => simp [intOf]; omega
                · have v4 : (p1 == 2) = false := e4.symm
                  rw [v4] at hsum
                  simp only [Bool.false_eq_true, if_false] at hsum
                  simp only [Bool.not_true] at sA
                  clear e4
                  go_wp2_with fail
                  go_quiet (fail)
                  go_wp2_with fail
                  go_roundw
                  case rel => exact ⟨j + 1, by omega, by go_num, by rw [hsum]; first | go_num | (congr 1; omega), (HBw.out.alloc hbz _).trans (below_drewN _ _ _)⟩
                  case measure => simp [intOf]; omega
              · obtain rfl : j = L.length := by omega
                have es : (cr : Int) + sumz (L.take L.length) = (cs : Int) := by rw [List.take_length]; exact R4.out
                rw [es]
                have HR2 := Lib.hid (RB.below HR.out hb hrz)
                have HS2 := Lib.hid (RB.below HS.out hb hsz)
                have HB2 := Lib.hid (HB.out.trans (hb.mono hcz))
                clear hb HR HS HV HO HB es
                have HR := HR2
                have HS := HS2
                have HB := HB2
                clear HR2 HS2 HB2
                have t9 : ((cs : Int) != (cs : Int)) = false := by simp
                go_wp2_with (first
                  | (refine wpList_load_at 56 (.tmp 8) rfl rfl w6.heap.size rfl _ (rollC S) _ HS.out Try.underlying56 rfl (by kernel_rfl) ?_)
                  | (go_at_call 39; (with_reducible refine (kC.out _).mono ?_); rintro e w11 ⟨rfl, hb9⟩; have HR' := Lib.hid (RB.next HR.out hb9); have HS' := Lib.hid (RB.next HS.out hb9); have HB' := Lib.hid (below_next HB.out hb9); clear hb9 HR HS HB; have HR := HR'; have HS := HS'; have HB := HB'; clear HR' HS' HB')
                  | (first | (refine wpList_store_blk rfl 56 (.tmp 5) (.tmp 126) rfl gr _ _ (rollC S) rfl rfl HR.out rfl (by kernel_rfl) (rollC_one _) ?_; intro w12 hR3 hg3; have HR3 := Lib.hid hR3; have HG3 := Lib.hid hg3; clear hR3 hg3) | (refine wpList_store_blk rfl 56 (.tmp 5) (.tmp 127) rfl gr _ _ (rollC S) rfl rfl HR.out rfl (by kernel_rfl) (rollC_one _) ?_; intro w12 hR3 hg3; have HR3 := Lib.hid hR3; have HG3 := Lib.hid hg3; clear hR3 hg3) | (refine wpList_store_blk rfl 56 (.tmp 5) (.tmp 128) rfl gr _ _ (rollC S) rfl rfl HR.out rfl (by kernel_rfl) (rollC_one _) ?_; intro w12 hR3 hg3; have HR3 := Lib.hid hR3; have HG3 := Lib.hid hg3; clear hR3 hg3)))
                go_roundw
                case rel =>
                  exact ⟨k + 1, S, by omega, by omega, by go_num, HR3.out, R1.out, by rw [HCS.out]; exact hR2, HB.out.grown HG3.out (by have := HB.out.size; omega) (fun j hj => by cases hj; omega)⟩
                case measure => simp [intOf]; omega
          | true =>
            obtain ⟨r1, r2, r3, r4, r5, r6⟩ := right_all (R := R) (A := M k) false HGd.out HC2.out
            have KS := Lib.hid (Step_any R (M k) 0 false b1 0 cp (w5.alloc (.cells #[.int .i64 0, .bool false, .slice (some ⟨b1, 0, none⟩) 4 cp] 33)) HGd.out (Nat.lt_trans hb2 (by simp)) (fun j hj => (cell_same (Below.heap_alloc w5 _ b1 hb2) _).trans (HAg.out j hj)))
            have HRv : Hid (RB (w5.alloc (.cells #[.int .i64 0, .bool false, .slice (some ⟨b1, 0, none⟩) 4 cp] 33)) gr R) := Lib.hid (Blk.alloc HR.out _)
            generalize hXY : stepAll R (M k) false = XY at *
            obtain ⟨S, L⟩ := XY
            have HXY := Lib.hid hXY
            simp only at r1 r2 r3 r4 r5 r6
            obtain ⟨hSR, hL0⟩ : R = S ∧ L.length = 0 := by have := r6 trivial; injection this with a b; exact ⟨a.symm, by rw [b]; rfl⟩
            subst hSR
            have R1 := Lib.hid r1
            have R3 := Lib.hid r3
            have R6 := Lib.hid r6
            have hL5 := r5
            have hR2 := r2
            clear r1 r3 r6 r5 r2 hXY HAg hb2
            have hcl := cntIn_le R 4
            have kG := Lib.hid (fun W => good_any R W)
            have kC := Lib.hid (fun W => count_any R W)
            have kD := kC
            generalize hcr : cntIn R 4 = cr at *
            have R4 := Lib.hid r4
            have HCR := Lib.hid hcr
            have HCS := HCR
            clear r4 hcr
            have q12 := roll_self R
            have t5 : decide ((cr : Int) < 2) = false := by simp; omega
            go_wp2_with (first
              | go_big_skip
              | (refine wpList_load_at 56 (.tmp 5) rfl rfl gr rfl _ (rollC R) _ HRv.out Try.underlying56 rfl (by kernel_rfl) ?_)
              | (go_at_call 35; go_must ((with_reducible refine KS.out.mono ?_); rintro e w6 ⟨v, rfl, hO, hbB⟩; have e1 := HXY.out; rw [e1] at hO; rw [e1]; clear e1; (simp only [] at hO); have hz6 := hbB.size; have HR' := Lib.hid ((Blk.next (Blk.alloc HR.out _) hbB)); have HV := Lib.hid (Blk.next (Blk.new w5 33 #[.int .i64 0, .bool false, .slice (some ⟨b1, 0, none⟩) 4 cp]) hbB); have HB' := Lib.hid (below_next (HB.out.alloc HB.out.size _) hbB); have HO := Lib.hid (own_le hO (Nat.zero_le _)); have HN : Hid (RB (w6.alloc (.cells (rollC R0) 56)) w6.heap.size R0) := Lib.hid (Blk.new _ _ _); clear HR HRv HB hO hbB KS; have HR := HR'; have HB := HB'; clear HR' HB'))
              | (refine wpList_store_at 56 (.tmp 8) (.tmp 46) rfl rfl w6.heap.size _ _ (rollC R) rfl rfl HN.out rfl (by kernel_rfl) (rollC_one _) ?_; intro w7 hR7 hg7; have hz7 := hg7.size; have HS := Lib.hid hR7; have HR' := Lib.hid (Blk.grown (Blk.alloc HR.out _) hg7 (by have := Blk.lt HR.out; simp; omega)); have HV' := Lib.hid (Blk.grown (Blk.alloc HV.out _) hg7 (by have := Blk.lt HV.out; simp; omega)); have HO' := Lib.hid ((HO.out.alloc _).kept hg7 (.inr (fun e => own_blk_ne (HO.out.alloc _) HN.out (by decide) e.symm))); have HB' := Lib.hid ((HB.out.alloc HB.out.size _).grown hg7 (by have := HB.out.size; simp; omega) (fun j hj => by cases hj; exact HB.out.size)); have hnn : w6.heap.size < w7.heap.size := Blk.lt hR7; have hgn : gr < w6.heap.size := Blk.lt HR.out; obtain ⟨Av, cv, ev⟩ := own_shape HO.out; subst ev; clear HR HV HO HB hR7 hg7 HN; have HR := HR'; have HV := HV'; have HO := HO'; have HB := HB'; clear HR' HV' HO' HB'; have d1 := HV.out.cell 1; (simp only [List.getElem?_toArray, List.getElem?_cons_zero, List.getElem?_cons_succ] at d1))
              | (refine wpList_load_at 56 (.tmp 8) rfl rfl w6.heap.size rfl _ (rollC R) _ HS.out Try.underlying56 rfl (by kernel_rfl) ?_)
              | (refine wpList_load_at 56 (.tmp 5) rfl rfl gr rfl _ (rollC R) _ HR.out Try.underlying56 rfl (by kernel_rfl) ?_)
              | (go_at_call 38; (with_reducible refine (kG.out _).mono ?_); rintro e w8 ⟨gb, rfl, hgb, hb9⟩; obtain rfl : gb = true := hgb.2 R1.out; clear hgb; have HR' := Lib.hid (RB.next HR.out hb9); have HS' := Lib.hid (RB.next HS.out hb9); have HV' := Lib.hid (Blk.next HV.out hb9); have HO' := Lib.hid (own_below HO.out hb9 (fun g hg => (HO.out.lt g hg).2)); have HB' := Lib.hid (below_next HB.out hb9); clear hb9 HR HS HV HO HB; have HR := HR'; have HS := HS'; have HV := HV'; have HO := HO'; have HB := HB'; clear HR' HS' HV' HO' HB'; have d1 := HV.out.cell 1; (simp only [List.getElem?_toArray, List.getElem?_cons_zero, List.getElem?_cons_succ] at d1))
              | (go_at_call 39; (with_reducible refine (kC.out _).mono ?_); rintro e w9 ⟨rfl, hb9⟩; have HR' := Lib.hid (RB.next HR.out hb9); have HS' := Lib.hid (RB.next HS.out hb9); have HV' := Lib.hid (Blk.next HV.out hb9); have HO' := Lib.hid (own_below HO.out hb9 (fun g hg => (HO.out.lt g hg).2)); have HB' := Lib.hid (below_next HB.out hb9); clear hb9 HR HS HV HO HB; have HR := HR'; have HS := HS'; have HV := HV'; have HO := HO'; have HB := HB'; clear HR' HS' HV' HO' HB'; have d1 := HV.out.cell 1; (simp only [List.getElem?_toArray, List.getElem?_cons_zero, List.getElem?_cons_succ] at d1))
              | (go_at_call 39; (with_reducible refine (kD.out _).mono ?_); rintro e w10 ⟨rfl, hb9⟩; have HR' := Lib.hid (RB.next HR.out hb9); have HS' := Lib.hid (RB.next HS.out hb9); have HV' := Lib.hid (Blk.next HV.out hb9); have HO' := Lib.hid (own_below HO.out hb9 (fun g hg => (HO.out.lt g hg).2)); have HB' := Lib.hid (below_next HB.out hb9); clear hb9 HR HS HV HO HB; have HR := HR'; have HS := HS'; have HV := HV'; have HO := HO'; have HB := HB'; clear HR' HS' HV' HO' HB'; have d1 := HV.out.cell 1; (simp only [List.getElem?_toArray, List.getElem?_cons_zero, List.getElem?_cons_succ] at d1)))
            generalize hww : w9 = wc at *
            clear hww
            have hcz := HB.out.size
            have hrz := Blk.lt HR.out
            have hsz := Blk.lt HS.out
            have hcr4 : (cr : Int) ≤ 4 := by omega
            go_loopw [11, 80] (fun s11 i wr => LoopRel L cr wc s11 i wr) (fun _ i _ => L.length - (intOf i).toNat)
            case atStart => exact ⟨0, by omega, rfl, by simp [sumz], Below.refl _ _⟩
            case round =>
              obtain ⟨j, hj, rfl, rfl, hb⟩ := hrel
              have hbz := hb.size
              by_cases hjl : j < L.length
              · exact absurd hjl (by rw [hL0]; exact Nat.not_lt_zero _)
              · obtain rfl : j = L.length := by omega
                have es : (cr : Int) + sumz (L.take L.length) = (cr : Int) := by rw [List.take_length]; exact R4.out
                rw [es]
                have HR2 := Lib.hid (RB.below HR.out hb hrz)
                have HS2 := Lib.hid (RB.below HS.out hb hsz)
                have HB2 := Lib.hid (HB.out.trans (hb.mono hcz))
                clear hb HR HS HV HO HB es
                have HR := HR2
                have HS := HS2
                have HB := HB2
                clear HR2 HS2 HB2
                have t9 : ((cr : Int) != (cr : Int)) = false := by simp
                go_wp2_with (first
                  | (refine wpList_load_at 56 (.tmp 8) rfl rfl w6.heap.size rfl _ (rollC R) _ HS.out Try.underlying56 rfl (by kernel_rfl) ?_)
                  | (go_at_call 39; (with_reducible refine (kC.out _).mono ?_); rintro e w11 ⟨rfl, hb9⟩; have HR' := Lib.hid (RB.next HR.out hb9); have HS' := Lib.hid (RB.next HS.out hb9); have HB' := Lib.hid (below_next HB.out hb9); clear hb9 HR HS HB; have HR := HR'; have HS := HS'; have HB := HB'; clear HR' HS' HB')
                  | (first | (refine wpList_store_blk rfl 56 (.tmp 5) (.tmp 126) rfl gr _ _ (rollC R) rfl rfl HR.out rfl (by kernel_rfl) (rollC_one _) ?_; intro w12 hR3 hg3; have HR3 := Lib.hid hR3; have HG3 := Lib.hid hg3; clear hR3 hg3) | (refine wpList_store_blk rfl 56 (.tmp 5) (.tmp 127) rfl gr _ _ (rollC R) rfl rfl HR.out rfl (by kernel_rfl) (rollC_one _) ?_; intro w12 hR3 hg3; have HR3 := Lib.hid hR3; have HG3 := Lib.hid hg3; clear hR3 hg3) | (refine wpList_store_blk rfl 56 (.tmp 5) (.tmp 128) rfl gr _ _ (rollC R) rfl rfl HR.out rfl (by kernel_rfl) (rollC_one _) ?_; intro w12 hR3 hg3; have HR3 := Lib.hid hR3; have HG3 := Lib.hid hg3; clear hR3 hg3)))
                go_roundw
                case rel =>
                  exact ⟨k + 1, R, by omega, by omega, by go_num, HR3.out, R1.out, by rw [HCS.out]; exact hR2, HB.out.grown HG3.out (by have := HB.out.size; omega) (fun j hj => by cases hj; omega)⟩
                case measure => simp [intOf]; omega
        · have t0 : decide (m ≤ k) = true := by simp; omega
          obtain ⟨r1, r2, r3, r4, r5, r6⟩ := right_all (R := R) (A := M k) true HGd.out HC2.out
          have KS := Lib.hid (Step_any R (M k) 0 true b1 0 cp (w5.alloc (.cells #[.int .i64 0, .bool true, .slice (some ⟨b1, 0, none⟩) 4 cp] 33)) HGd.out (Nat.lt_trans hb2 (by simp)) (fun j hj => (cell_same (Below.heap_alloc w5 _ b1 hb2) _).trans (HAg.out j hj)))
          have HRv : Hid (RB (w5.alloc (.cells #[.int .i64 0, .bool true, .slice (some ⟨b1, 0, none⟩) 4 cp] 33)) gr R) := Lib.hid (Blk.alloc HR.out _)
          generalize hXY : stepAll R (M k) true = XY at *
          obtain ⟨S, L⟩ := XY
          have HXY := Lib.hid hXY
          simp only at r1 r2 r3 r4 r5 r6
          have R1 := Lib.hid r1
          have R3 := Lib.hid r3
          have R6 := Lib.hid r6
          have hL5 := r5
          have hR2 := r2
          clear r1 r3 r6 r5 r2 hXY HAg hb2
          have hcl := cntIn_le R 4
          have hcs := cntIn_le S 4
          have kG := Lib.hid (fun W => good_any S W)
          have kC := Lib.hid (fun W => count_any S W)
          have kD := Lib.hid (fun W => count_any R W)
          generalize hcr : cntIn R 4 = cr at *
          generalize hcS : cntIn S 4 = cs at *
          have R4 := Lib.hid r4
          have HCR := Lib.hid hcr
          have HCS := Lib.hid hcS
          clear r4 hcr hcS
          have q12 := roll_self R
          have t5 : decide ((cs : Int) < 2) = false := by simp; omega
          go_wp2_with (first
            | go_big_skip
            | (refine wpList_load_at 56 (.tmp 5) rfl rfl gr rfl _ (rollC R) _ HRv.out Try.underlying56 rfl (by kernel_rfl) ?_)
            | (go_at_call 35; go_must ((with_reducible refine KS.out.mono ?_); rintro e w6 ⟨v, rfl, hO, hbB⟩; have e1 := HXY.out; rw [e1] at hO; rw [e1]; clear e1; (simp only [] at hO); have hz6 := hbB.size; have HR' := Lib.hid ((Blk.next (Blk.alloc HR.out _) hbB)); have HV := Lib.hid (Blk.next (Blk.new w5 33 #[.int .i64 0, .bool true, .slice (some ⟨b1, 0, none⟩) 4 cp]) hbB); have HB' := Lib.hid (below_next (HB.out.alloc HB.out.size _) hbB); have HO := Lib.hid (own_le hO (Nat.zero_le _)); have HN : Hid (RB (w6.alloc (.cells (rollC R0) 56)) w6.heap.size R0) := Lib.hid (Blk.new _ _ _); clear HR HRv HB hO hbB KS; have HR := HR'; have HB := HB'; clear HR' HB'))
            | (refine wpList_store_at 56 (.tmp 8) (.tmp 46) rfl rfl w6.heap.size _ _ (rollC S) rfl rfl HN.out rfl (by kernel_rfl) (rollC_one _) ?_; intro w7 hR7 hg7; have hz7 := hg7.size; have HS := Lib.hid hR7; have HR' := Lib.hid (Blk.grown (Blk.alloc HR.out _) hg7 (by have := Blk.lt HR.out; simp; omega)); have HV' := Lib.hid (Blk.grown (Blk.alloc HV.out _) hg7 (by have := Blk.lt HV.out; simp; omega)); have HO' := Lib.hid ((HO.out.alloc _).kept hg7 (.inr (fun e => own_blk_ne (HO.out.alloc _) HN.out (by decide) e.symm))); have HB' := Lib.hid ((HB.out.alloc HB.out.size _).grown hg7 (by have := HB.out.size; simp; omega) (fun j hj => by cases hj; exact HB.out.size)); have hnn : w6.heap.size < w7.heap.size := Blk.lt hR7; have hgn : gr < w6.heap.size := Blk.lt HR.out; obtain ⟨Av, cv, ev⟩ := own_shape HO.out; subst ev; clear HR HV HO HB hR7 hg7 HN; have HR := HR'; have HV := HV'; have HO := HO'; have HB := HB'; clear HR' HV' HO' HB'; have d1 := HV.out.cell 1; (simp only [List.getElem?_toArray, List.getElem?_cons_zero, List.getElem?_cons_succ] at d1))
            | (refine wpList_load_at 56 (.tmp 8) rfl rfl w6.heap.size rfl _ (rollC S) _ HS.out Try.underlying56 rfl (by kernel_rfl) ?_)
            | (refine wpList_load_at 56 (.tmp 5) rfl rfl gr rfl _ (rollC R) _ HR.out Try.underlying56 rfl (by kernel_rfl) ?_)
            | (go_at_call 38; (with_reducible refine (kG.out _).mono ?_); rintro e w8 ⟨gb, rfl, hgb, hb9⟩; obtain rfl : gb = true := hgb.2 R1.out; clear hgb; have HR' := Lib.hid (RB.next HR.out hb9); have HS' := Lib.hid (RB.next HS.out hb9); have HV' := Lib.hid (Blk.next HV.out hb9); have HO' := Lib.hid (own_below HO.out hb9 (fun g hg => (HO.out.lt g hg).2)); have HB' := Lib.hid (below_next HB.out hb9); clear hb9 HR HS HV HO HB; have HR := HR'; have HS := HS'; have HV := HV'; have HO := HO'; have HB := HB'; clear HR' HS' HV' HO' HB'; have d1 := HV.out.cell 1; (simp only [List.getElem?_toArray, List.getElem?_cons_zero, List.getElem?_cons_succ] at d1))
            | (go_at_call 39; (with_reducible refine (kC.out _).mono ?_); rintro e w9 ⟨rfl, hb9⟩; have HR' := Lib.hid (RB.next HR.out hb9); have HS' := Lib.hid (RB.next HS.out hb9); have HV' := Lib.hid (Blk.next HV.out hb9); have HO' := Lib.hid (own_below HO.out hb9 (fun g hg => (HO.out.lt g hg).2)); have HB' := Lib.hid (below_next HB.out hb9); clear hb9 HR HS HV HO HB; have HR := HR'; have HS := HS'; have HV := HV'; have HO := HO'; have HB := HB'; clear HR' HS' HV' HO' HB'; have d1 := HV.out.cell 1; (simp only [List.getElem?_toArray, List.getElem?_cons_zero, List.getElem?_cons_succ] at d1))
            | (go_at_call 39; (with_reducible refine (kD.out _).mono ?_); rintro e w10 ⟨rfl, hb9⟩; have HR' := Lib.hid (RB.next HR.out hb9); have HS' := Lib.hid (RB.next HS.out hb9); have HV' := Lib.hid (Blk.next HV.out hb9); have HO' := Lib.hid (own_below HO.out hb9 (fun g hg => (HO.out.lt g hg).2)); have HB' := Lib.hid (below_next HB.out hb9); clear hb9 HR HS HV HO HB; have HR := HR'; have HS := HS'; have HV := HV'; have HO := HO'; have HB := HB'; clear HR' HS' HV' HO' HB'; have d1 := HV.out.cell 1; (simp only [List.getElem?_toArray, List.getElem?_cons_zero, List.getElem?_cons_succ] at d1)))
          generalize hww : w10 = wc at *
          clear hww
          have hcz := HB.out.size
          have hrz := Blk.lt HR.out
          have hsz := Blk.lt HS.out
          have hcr4 : (cr : Int) ≤ 4 := by omega
          go_loopw [11, 80] (fun s11 i wr => LoopRel L cr wc s11 i wr) (fun _ i _ => L.length - (intOf i).toNat)
          case atStart => exact ⟨0, by omega, rfl, by simp [sumz], Below.refl _ _⟩
          case round =>
            obtain ⟨j, hj, rfl, rfl, hb⟩ := hrel
            have hbz := hb.size
            by_cases hjl : j < L.length
            · obtain ⟨g', cap, ea, _, hg', _⟩ := own_form HO.out (by omega)
              injection ea with e1 e2 e3
              subst e1
              clear e2 e3
              have d0 := ((hb.cell (p := ⟨g', j * 2, none⟩) hg').trans (HO.out.cellAt (j * 2) (by omega))).trans (chC_get hjl).1
              have d1 := ((hb.cell (p := ⟨g', j * 2 + 1, none⟩) hg').trans (HO.out.cellAt (j * 2 + 1) (by omega))).trans (chC_get hjl).2
              have hsum := sumz_take hjl
              have hsb := sumz_bd (L.take j)
              have hsl : (L.take j).length ≤ 4 := by rw [List.length_take]; omega
              obtain ⟨jj, hj4, e2, e3, e4⟩ := R3.out L[j] (List.getElem_mem hjl)
              generalize L[j] = p at *
              obtain ⟨p1, p2⟩ := p
              simp only at d0 d1 e2 e3 e4 hsum
              subst e2
              have g0 := (hb.cell hrz).trans (HR.out.inn hj4)
              have s0 := (hb.cell hsz).trans (HS.out.inn hj4)
              have gA := fun o => (cell_same (Below.heap_alloc wr o gr (Nat.lt_of_lt_of_le hrz hbz)) _).trans g0
              have sA := fun o => (cell_same (Below.heap_alloc wr o w6.heap.size (Nat.lt_of_lt_of_le hsz hbz)) _).trans s0
              clear g0 s0
              generalize R.inn jj = ri at *
              generalize S.inn jj = si at *
              subst e3
              have hz1 : (0 : Int) ≤ (jj : Int) := by omega
              have hz2 : (jj : Int) < 4 := by omega
              have v1 : decide ((jj : Int) < 0) = false := decide_eq_false (by omega)
              have v2 : decide ((3 : Int) < (jj : Int)) = false := by simp; omega
              have v3 : decide (3 < jj) = false := by simp; omega
              generalize hz : sumz (L.take j) = z at *
              have hz3 : (-4 : Int) ≤ z := by omega
              have hz4 : z ≤ 4 := by omega
              have HBw := Lib.hid hb
              clear hb hsb hsl
              cases ri
              · have v4 : (p1 == 2) = true := e4.symm
                rw [v4] at hsum
                simp only [if_true] at hsum
                simp only [Bool.not_false] at sA
                clear e4
                go_wp2_with fail
                go_quiet (fail)
                go_wp2_with fail
                go_roundw
                case rel => exact ⟨j + 1, by omega, by go_num, by rw [hsum]; first | go_num | (congr 1; omega), (HBw.out.alloc hbz _).trans (below_drewN _ _ _)⟩
                case measure => simp [intOf]; omega
              · have v4 : (p1 == 2) = false := e4.symm
                rw [v4] at hsum
                simp only [Bool.false_eq_true, if_false] at hsum
                simp only [Bool.not_true] at sA
                clear e4
                go_wp2_with fail
                go_quiet (fail)
                go_wp2_with fail
                go_roundw
                case rel => exact ⟨j + 1, by omega, by go_num, by rw [hsum]; first | go_num | (congr 1; omega), (HBw.out.alloc hbz _).trans (below_drewN _ _ _)⟩
                case measure => simp [intOf]; omega
            · obtain rfl : j = L.length := by omega
              have es : (cr : Int) + sumz (L.take L.length) = (cs : Int) := by rw [List.take_length]; exact R4.out
              rw [es]
              have HR2 := Lib.hid (RB.below HR.out hb hrz)
              have HS2 := Lib.hid (RB.below HS.out hb hsz)
              have HB2 := Lib.hid (HB.out.trans (hb.mono hcz))
              clear hb HR HS HV HO HB es
              have HR := HR2
              have HS := HS2
              have HB := HB2
              clear HR2 HS2 HB2
              have t9 : ((cs : Int) != (cs : Int)) = false := by simp
              go_wp2_with (first
                | (refine wpList_load_at 56 (.tmp 8) rfl rfl w6.heap.size rfl _ (rollC S) _ HS.out Try.underlying56 rfl (by kernel_rfl) ?_)
                | (go_at_call 39; (with_reducible refine (kC.out _).mono ?_); rintro e w11 ⟨rfl, hb9⟩; have HR' := Lib.hid (RB.next HR.out hb9); have HS' := Lib.hid (RB.next HS.out hb9); have HB' := Lib.hid (below_next HB.out hb9); clear hb9 HR HS HB; have HR := HR'; have HS := HS'; have HB := HB'; clear HR' HS' HB')
                | (first | (refine wpList_store_blk rfl 56 (.tmp 5) (.tmp 126) rfl gr _ _ (rollC S) rfl rfl HR.out rfl (by kernel_rfl) (rollC_one _) ?_; intro w12 hR3 hg3; have HR3 := Lib.hid hR3; have HG3 := Lib.hid hg3; clear hR3 hg3) | (refine wpList_store_blk rfl 56 (.tmp 5) (.tmp 127) rfl gr _ _ (rollC S) rfl rfl HR.out rfl (by kernel_rfl) (rollC_one _) ?_; intro w12 hR3 hg3; have HR3 := Lib.hid hR3; have HG3 := Lib.hid hg3; clear hR3 hg3) | (refine wpList_store_blk rfl 56 (.tmp 5) (.tmp 128) rfl gr _ _ (rollC S) rfl rfl HR.out rfl (by kernel_rfl) (rollC_one _) ?_; intro w12 hR3 hg3; have HR3 := Lib.hid hR3; have HG3 := Lib.hid hg3; clear hR3 hg3)))
              go_roundw
              case rel =>
                exact ⟨k + 1, S, by omega, by omega, by go_num, HR3.out, R1.out, by rw [HCS.out]; exact hR2, HB.out.grown HG3.out (by have := HB.out.size; omega) (fun j hj => by cases hj; omega)⟩
              case measure => simp [intOf]; omega
      · clear HGd HC2 hR
        go_wp2_with fail
        refine (keeps_any _).mono ?_
        rintro e w3 ⟨rfl, hB3⟩
        go_wp2_with fail
        go_ret
        exact ⟨rfl, below_next hB hB3⟩
    · clear HGd HC2 hR
      go_wp2_with fail
      refine (keeps_any _).mono ?_
      rintro e w3 ⟨rfl, hB3⟩
      go_wp2_with fail
      go_ret
      exact ⟨rfl, below_next hB hB3⟩

theorem walk {H : Type} {enc : TypeId × Value → H} {d0 d1 : DataW H} {p0 p1 : List MemPlace} (v0 v1 : Value) (W : World) (base : Nat)
    (h0 : Value.okWide Try.prog W .any base 54 v0) (k0 : DataW.Trod enc Try.prog W 0 (fun _ => true) true 54 v0 d0 p0)
    (h1 : Value.okWide Try.prog W .any base 31 v1) (k1 : DataW.Trod enc Try.prog W 0 (fun _ => true) true 31 v1 d1 p1)
    (s0 : ∀ es sp, d0 = .slice es sp → (es.length + sp.length) * Try.prog.bytesOf 28 ≤ reachBytes)
    (s1 : ∀ es sp, d1 = .slice es sp → (es.length + sp.length) * Try.prog.bytesOf 4 ≤ reachBytes) :
    Calls Try.prog 15 #[v0, v1] W fun e w' => e = .returned (.bool true) ∧ Below W.heap.size W w' := by
  obtain ⟨A, n, c, rfl, hnc, hc, hA, _⟩ := ok_slice Try.underlying54 h0
  obtain ⟨A2, m, c2, rfl, hmc, hc2, hA2, _⟩ := ok_slice Try.underlying31 h1
  obtain ⟨M, hM⟩ := rows4_in Try.underlying54 Try.underlying28 Try.underlying4 (by kernel_rfl) (by kernel_rfl) k0
  obtain ⟨B, hB⟩ := bools_in Try.underlying31 Try.underlying4 (by kernel_rfl) k1
  exact walk1 A n c M A2 m c2 B W hM (by omega) hB (by omega)
end Go.Proofs.Ytllgjbjcdenchaa.lawMemberRight
