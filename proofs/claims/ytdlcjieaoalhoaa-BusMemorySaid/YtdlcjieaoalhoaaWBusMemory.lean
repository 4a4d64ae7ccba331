/- The walk of BusMemory. -/
import Derived.Test.YtdlcjieaoalhoaaBusMem0
set_option linter.unusedVariables false
namespace Go.Proofs.Ytdlcjieaoalhoaa.Bs
open Go.RowKit Go.Proofs.Ytdlcjieaoalhoaa Crc Sm Rb

def DCut (w : World) (Bd : Option Addr) (cb : Nat) (Y : World) (s1 : Value) (wx : World) : Prop := ∃ (m : Nat) (zs : List Int), s1 = .slice Bd m cb ∧ m ≤ 220 ∧ Ints w .u8 Bd m zs ∧ (Bd = none → m = 0 ∧ cb = 0) ∧ Byts8 zs ∧ wx = Y
set_option maxRecDepth 100000 in
set_option maxHeartbeats 8000000 in
theorem busmem_walk (A : Option Addr) (n c : Nat) (D : Nat → Ld) (Bd : Option Addr) (m0 cb : Nat) (zs0 : List Int) (s0 s1 : Int) (w : World) (h : LR w A n D) (hn : n ≤ 9223372036854775807) (hI : Ints w .u8 Bd m0 zs0) (hBd : Bd = none → m0 = 0 ∧ cb = 0) (hmc : m0 ≤ cb) (hz : Byts8 zs0) (hm0 : m0 ≤ 140737488355328) :
    Calls Try.prog 6 #[.slice A n c, .slice Bd m0 cb, .int .i64 s0, .int .i64 s1] w fun e w' => e = .returned (.bool true) ∧ Below w.heap.size w w' := by
  obtain ⟨k, hk⟩ : ∃ k, k = min n 100 := ⟨_, rfl⟩
  have hk100 : k ≤ 100 := by omega
  have kl := loaded_any A n c D w h hn
  unfold LdPost at kl
  rw [← hk] at kl
  have KL := Lib.hid kl
  have KR := Lib.hid (fun W => runs_any W)
  have KS1 := Lib.hid (fun W => spot_any s0 1200 W (by omega) (by omega))
  have KS2 := Lib.hid (fun W => spot_any s1 100 W (by omega) (by omega))
  have b1 := Int.emod_nonneg s0 (b := 1200) (by omega)
  have b2 := Int.emod_lt_of_pos s0 (b := 1200) (by omega)
  generalize s0 % 1200 = t at *
  generalize s1 % 100 = sr at *
  have HI := Lib.hid hI
  have HZ := Lib.hid hz
  have HBD := Lib.hid hBd
  clear h kl hk hI hz hBd
  go_enter Try.func6, Try.ntmps6
  go_upto_region 2 with (first
    | (go_at_call 7; (with_reducible refine KL.out.mono ?_); rintro e w1 ⟨A1, c1, L, rfl, hq1, hk1, hB1⟩; go_loud (have HQ1 := Lib.hid hq1; have HK1 := Lib.hid hk1; have HB1 := Lib.hid hB1; clear hq1 hk1 hB1)))
  have hll : L.length = k := by have := congrArg List.length HK1.out; simpa using this
  have hb9 : Blk (w1.alloc (.cells #[.int .i64 0, .int .i64 (k : Nat), .slice A1 k c1] 25)) w1.heap.size 25 #[.int .i64 0, .int .i64 (k : Nat), .slice A1 k c1] := Blk.new _ _ _
  have hB9 : Below w.heap.size w (w1.alloc (.cells #[.int .i64 0, .int .i64 (k : Nat), .slice A1 k c1] 25)) := HB1.out.alloc HB1.out.size _
  have hq9 := HQ1.out.alloc (.cells #[.int .i64 0, .int .i64 (k : Nat), .slice A1 k c1] 25)
  generalize w1.alloc (.cells #[.int .i64 0, .int .i64 (k : Nat), .slice A1 k c1] 25) = w2 at *
  generalize w1.heap.size = q9 at *
  have HB9 := Lib.hid hb9
  have HBW := Lib.hid hB9
  have hqr : QR w2 A1 k c1 L := by have h1 := hq9; rw [← hll] at h1 ⊢; exact h1.reads
  have HQR := Lib.hid hqr
  clear hb9 hB9 hq9 hqr HQ1 HB1 KL
  go_upto_region 4 with (first
    | (go_at_call 8; (with_reducible refine (KR.out _).mono ?_); rintro e w3 ⟨rfl, hB3⟩; have HB3 := Lib.hid hB3; clear hB3)
    | go_big_skip)
  go_upto_if 37 with fail
  go_cut [1] (fun s1 wx => DCut w Bd cb w3 s1 wx)
  case first =>
    by_cases hm : 220 < m0
    · have e1 : decide ((220 : Int) < (m0 : Int)) = true := by rw [decide_eq_true_eq]; omega
      have e2 : (220 : Int) ≤ (cb : Int) := by omega
      go_wp2_with fail
      go_meet
      refine ⟨220, zs0.take 220, rfl, Nat.le_refl _, ?_, fun e => ?_, fun z hz => HZ.out z (List.mem_of_mem_take hz), rfl⟩
      · obtain ⟨hl, hr⟩ := HI.out
        refine ⟨by rw [List.length_take]; omega, fun _ => ?_⟩
        obtain ⟨b, off, e, hlt, hc⟩ := hr (by omega)
        refine ⟨b, off, e, hlt, fun j hj => ?_⟩
        rw [hc j (by omega)]
        simp [List.getD, List.getElem?_take, hj]
      · have := HBD.out e; omega
    · have e1 : decide ((220 : Int) < (m0 : Int)) = false := by rw [decide_eq_false_iff_not]; omega
      go_wp2_with fail
      go_meet
      exact ⟨m0, zs0, rfl, by omega, HI.out, HBD.out, HZ.out, rfl⟩
  case rest =>
    obtain ⟨m, zs, rfl, hm, hI, hBd, hz, hw⟩ := hcut
    have hw' := hw.symm
    subst hw'
    clear hw
    have HI := Lib.hid hI
    have HZ := Lib.hid hz
    have HBD := Lib.hid hBd
    clear hI hz hBd
    have hq3 := HQR.out.next HB3.out
    have hb3 := HB9.out.next HB3.out
    have d0 := hb3.cell 0
    have d1 := hb3.cell 1
    have d2 := hb3.cell 2
    simp only [List.getElem?_toArray, List.getElem?_cons_zero, List.getElem?_cons_succ] at d0 d1 d2
    have KRB := Lib.hid (roomyBus_any 0 (k : Nat) A1 k c1 L w3 hq3 (by omega))
    have HQ3 := Lib.hid hq3
    have HB93 := Lib.hid hb3
    have hB3w := HBW.out.trans (HB3.out.mono HBW.out.size)
    have HB3W := Lib.hid hB3w
    clear hq3 hb3 hB3w HBW HB3 HB9 HQR
    go_upto_region 7 with (first
      | (go_at_call 13; (with_reducible refine KRB.out.mono ?_); rintro e w4 ⟨g, cq, gs, cs, rfl, hr4, hB4⟩; have HR4 := Lib.hid hr4; have HB4 := Lib.hid hB4; clear hr4 hB4))
    have hbV : Blk (w4.alloc (.cells #[.int .i64 0, .int .i64 (k : Nat), .slice (some ⟨g, 0, none⟩) k cq] 25)) w4.heap.size 25 #[.int .i64 0, .int .i64 (k : Nat), .slice (some ⟨g, 0, none⟩) k cq] := Blk.new _ _ _
    have haV : Below w4.heap.size w4 (w4.alloc (.cells #[.int .i64 0, .int .i64 (k : Nat), .slice (some ⟨g, 0, none⟩) k cq] 25)) := (Below.refl _ _).alloc (Nat.le_refl _) _
    have hB3V := HB4.out.trans (haV.mono HB4.out.size)
    have HRV := Lib.hid (HR4.out.next haV)
    have h4V : w4.heap.size < (w4.alloc (.cells #[.int .i64 0, .int .i64 (k : Nat), .slice (some ⟨g, 0, none⟩) k cq] 25)).heap.size := by simp
    have h34 : w3.heap.size ≤ w4.heap.size := HB4.out.size
    generalize w4.alloc (.cells #[.int .i64 0, .int .i64 (k : Nat), .slice (some ⟨g, 0, none⟩) k cq] 25) = V at *
    generalize w4.heap.size = q11 at *
    have KRD := Lib.hid (roomyBytes_any Bd m cb zs V (HI.out.next (HB3W.out.trans (hB3V.mono HB3W.out.size))) HBD.out (by omega))
    have HBV := Lib.hid hbV
    have HB3V := Lib.hid hB3V
    clear hbV hB3V haV HR4 HB4 KRB d0 d1 d2
    go_upto_region 8 with (first
      | (go_at_call 14; (with_reducible refine KRD.out.mono ?_); rintro e w5 ⟨gd, cd, cur, rfl, hcd, hkd, hr8, hgd, hB5⟩; have HKD := Lib.hid hkd; have HR8 := Lib.hid hr8; have HB5 := Lib.hid hB5; clear hkd hr8 hB5))
    have hb5 := HBV.out.next HB5.out
    have d0 := hb5.cell 0
    have d1 := hb5.cell 1
    have d2 := hb5.cell 2
    simp only [List.getElem?_toArray, List.getElem?_cons_zero, List.getElem?_cons_succ] at d0 d1 d2
    have hr5 := HRV.out.next HB5.out
    have hq5 := hr5.qr HQ3.out
    have KSE := Lib.hid (Send_any 0 (k : Nat) 0 1 5 (some ⟨g, 0, none⟩) k cq _ (some ⟨gd, 0, none⟩) m cd zs w5 hq5 (HR8.out.ints HI.out.1 HKD.out) (fun e => by cases e) HZ.out hm (by omega) (by decide) (by decide) (by decide) (by decide) (by decide) (by omega))
    have HB5B := Lib.hid hb5
    have HR5 := Lib.hid hr5
    clear hb5 hr5 hq5 KRD
    go_upto_region 9 with (first
      | (go_at_call 15; (with_reducible refine KSE.out.mono ?_); rintro e w6 ⟨A6, c6, L6, rfl, hq6, hk6, hB6⟩; have HQ6 := Lib.hid hq6; have HK6 := Lib.hid hk6; have HB6 := Lib.hid hB6; clear hq6 hk6 hB6))
    have h13 : Blk (w6.alloc (.cells #[.int .i64 0, .int .i64 ((k : Nat) + 1), .slice A6 (k + 1) c6] 25)) w6.heap.size 25 #[.int .i64 0, .int .i64 ((k : Nat) + 1), .slice A6 (k + 1) c6] := Blk.new _ _ _
    have ha13 : Below w6.heap.size w6 (w6.alloc (.cells #[.int .i64 0, .int .i64 ((k : Nat) + 1), .slice A6 (k + 1) c6] 25)) := (Below.refl _ _).alloc (Nat.le_refl _) _
    have h5Y := HB6.out.trans (ha13.mono HB6.out.size)
    have HQS := Lib.hid (HQ6.out.next ha13)
    have HBC := Lib.hid (HB5B.out.next h5Y)
    have HRY := Lib.hid (HR5.out.next h5Y)
    have HKY := Lib.hid (HKD.out.next h5Y)
    have h3Y := HB3V.out.trans ((HB5.out.trans (h5Y.mono HB5.out.size)).mono HB3V.out.size)
    generalize (w6.alloc (.cells #[.int .i64 0, .int .i64 ((k : Nat) + 1), .slice A6 (k + 1) c6] 25)) = Y at *
    generalize w6.heap.size = q13 at *
    have hq13 := h13.lt
    have hl6 : L6.length = k + 1 := by have := congrArg List.length HK6.out; simpa [rbL_len k (Nat.le_of_eq hll.symm)] using this
    have H13 := Lib.hid h13
    have H5Y := Lib.hid h5Y
    have H35 := Lib.hid (HB3V.out.trans (HB5.out.mono HB3V.out.size))
    clear h13 ha13 h5Y h3Y HQ6 HB6 HB5 HBV HRV HB3V d0 d1 d2 KSE
    have KM := Lib.hid (fun W (hW : Below Y.heap.size Y W) => Step_all (k : Nat) t (some ⟨g, 0, none⟩) k cq _ W ((HRY.out.next hW).qr HQ3.out) (by omega) (by omega) (by omega))
    have HC := Lib.hid (fun W (hW : Below Y.heap.size Y W) => (show W.cell? ⟨q11, 0, none⟩ = some (.int .i64 0) ∧ W.cell? ⟨q11, 1, none⟩ = some (.int .i64 (k : Nat)) ∧ W.cell? ⟨q11, 2, none⟩ = some (.slice (some ⟨g, 0, none⟩) k cq) from ⟨(HBC.out.next hW).cell 0, (HBC.out.next hW).cell 1, (HBC.out.next hW).cell 2⟩))
    go_upto_region 9 with fail
    go_cut [15, 16, 17] (fun s15 s16 s17 wx => SCut Y s15 s16 s17 wx)
    case first =>
      refine wp_region_G 11 (fun w' => Below Y.heap.size Y w') (by kernel_rfl) ((Below.refl Y.heap.size Y).drew) (fun hS => ?_)
      refine wpAnyG_take (i := 0) (v := .agg #[.int .i64 0, .int .i64 (k : Nat), .slice (some ⟨g, 0, none⟩) k cq]) rfl (by kernel_rfl) (by kernel_rfl) (by kernel_rfl) (by kernel_rfl) (by kernel_rfl) (by kernel_rfl) (fun _ _ _ h => h) (Or.inl ⟨by rfl, fun wx hSw => by have hd := HC.out _ hSw; have h0 := hd.1; have h1 := hd.2.1; have h2 := hd.2.2; go_simp⟩) hS ?_
      try simp only [Act.put, List.setIfInBounds_toArray, List.set_cons_zero, List.set_cons_succ]
      refine wpAnyG_pure (i := 1) (v := ?_) rfl (by kernel_rfl) (by kernel_rfl) (by kernel_rfl) (by kernel_rfl) (fun _ _ _ h => h) (Or.inl ⟨by rfl, fun wx _ => ?_⟩) hS ?_
      rotate_left
      · go_simp; (try with_reducible rfl)
      try simp only [Act.put, List.setIfInBounds_toArray, List.set_cons_zero, List.set_cons_succ]
      refine wpAnyG_two (i := 2) (j := 8) rfl rfl (by kernel_rfl) (fun K hK => ?_) (fun K hK => ?_)
      · go_simp
        (with_reducible refine (KS1.out _).mono ?_)
        rintro e w2 ⟨rfl, rfl⟩
        refine hK.out _ _ hS ?_
        clear hK K
        try simp only [Act.put, List.setIfInBounds_toArray, List.set_cons_zero, List.set_cons_succ]
        refine wpAnyG_two (i := 3) (j := 8) rfl rfl (by kernel_rfl) (fun K hK => ?_) (fun K hK => ?_)
        · go_simp
          have hY0 := hS.size
          (with_reducible refine (KM.out _ hS).mono ?_)
          rintro e w3' ⟨now', ser', er, A', n', c', L', A3, n3, c3, M, rfl, hq0, hl', hn', hq1, hl3, hn3, hb3⟩
          have hq := hq0.down hY0
          have hq3 := hq1.down hY0
          have hS3 := hS.trans (hb3.mono hY0)
          clear hS
          have hS := hS3
          refine hK.out _ _ hS ?_
          clear hK K
          try simp only [Act.put, List.setIfInBounds_toArray, List.set_cons_zero, List.set_cons_succ]
          refine wpAnyG_pure (i := 4) (v := ?_) rfl (by kernel_rfl) (by kernel_rfl) (by kernel_rfl) (by kernel_rfl) (fun _ _ _ h => h) (Or.inl ⟨by rfl, fun wx _ => ?_⟩) hS ?_
          rotate_left
          · go_simp; (try with_reducible rfl)
          try simp only [Act.put, List.setIfInBounds_toArray, List.set_cons_zero, List.set_cons_succ]
          refine wpAnyG_pure (i := 5) (v := ?_) rfl (by kernel_rfl) (by kernel_rfl) (by kernel_rfl) (by kernel_rfl) (fun _ _ _ h => h) (Or.inl ⟨by rfl, fun wx _ => ?_⟩) hS ?_
          rotate_left
          · go_simp; (try with_reducible rfl)
          try simp only [Act.put, List.setIfInBounds_toArray, List.set_cons_zero, List.set_cons_succ]
          refine wpAnyG_pure (i := 6) (v := ?_) rfl (by kernel_rfl) (by kernel_rfl) (by kernel_rfl) (by kernel_rfl) (fun _ _ _ h => h) (Or.inl ⟨by rfl, fun wx _ => ?_⟩) hS ?_
          rotate_left
          · go_simp; (try with_reducible rfl)
          try simp only [Act.put, List.setIfInBounds_toArray, List.set_cons_zero, List.set_cons_succ]
          refine wpAnyG_pure (i := 7) (v := ?_) rfl (by kernel_rfl) (by kernel_rfl) (by kernel_rfl) (by kernel_rfl) (fun _ _ _ h => h) (Or.inl ⟨by rfl, fun wx _ => ?_⟩) hS ?_
          rotate_left
          · go_simp; (try with_reducible rfl)
          try simp only [Act.put, List.setIfInBounds_toArray, List.set_cons_zero, List.set_cons_succ]
          refine wpAnyG_one (i := 8) rfl (by kernel_rfl) (fun K hK => ?_)
          go_simp
          have hX1 := hS.size
          have hz : Blk (w3'.alloc (.cells #[.int .i64 0, .int .i64 0, .slice none 0 0] 25)) w3'.heap.size 25 #[.int .i64 0, .int .i64 0, .slice none 0 0] := Blk.new _ _ _
          have hS3 : Below Y.heap.size Y (w3'.alloc (.cells #[.int .i64 0, .int .i64 0, .slice none 0 0] 25)) := hS.alloc hS.size _
          have hq4 := hq.alloc (.cells #[.int .i64 0, .int .i64 0, .slice none 0 0] 25)
          clear hq
          have hq := hq4
          have hq5 := hq3.alloc (.cells #[.int .i64 0, .int .i64 0, .slice none 0 0] 25)
          clear hq3
          have hq3 := hq5
          clear hS
          have hS := hS3
          refine hK.out _ _ hS ?_
          clear hK K
          try simp only [Act.put, List.setIfInBounds_toArray, List.set_cons_zero, List.set_cons_succ]
          refine wpAnyG_one (i := 9) rfl (by kernel_rfl) (fun K hK => ?_)
          rw [if_pos (by rfl)]
          refine wp_store_pc 25 (.tmp 15) (.tmp 55) rfl (w3'.heap.size) _ _ #[.int .i64 now', .int .i64 ser', .slice A' n' c'] rfl rfl hz rfl (by kernel_rfl) (by simp [Value.oneCell']) (fun w8 hN8 hg8 => ?_)
          have hq8 := hq.grown hg8 hz (by decide) (by decide)
          have hq9 := hq3.grown hg8 hz (by decide) (by decide)
          have hS8 := hS.grown hg8 hS.size (fun j hj => by cases hj; omega)
          clear hS
          have hS := hS8
          refine hK.out _ _ hS ?_
          clear hK K
          try simp only [Act.put, List.setIfInBounds_toArray, List.set_cons_zero, List.set_cons_succ]
          refine wpAnyG_pure (i := 10) (v := ?_) rfl (by kernel_rfl) (by kernel_rfl) (by kernel_rfl) (by kernel_rfl) (fun _ _ _ h => h) (Or.inl ⟨by rfl, fun wx _ => ?_⟩) hS ?_
          rotate_left
          · go_simp; (try with_reducible rfl)
          try simp only [Act.put, List.setIfInBounds_toArray, List.set_cons_zero, List.set_cons_succ]
          refine wpAnyG_last rfl (by kernel_rfl) (by kernel_rfl) (by kernel_rfl) (fun K hK => ?_)
          go_simp
          refine hK.out _ _ ?_
          clear hK K
          try simp only [Act.put, List.setIfInBounds_toArray, List.set_cons_zero, List.set_cons_succ]
          go_wp2_with fail
          go_meet
          exact ⟨w3'.heap.size, now', ser', er, A', n', c', L', A3, n3, c3, M, rfl, rfl, rfl, hN8, hq8, hl', hn', hq9, hl3, hn3, hS, by omega⟩
        · go_simp
          have hX1 := hS.size
          have hz : Blk (Y.alloc (.cells #[.int .i64 0, .int .i64 0, .slice none 0 0] 25)).drew Y.heap.size 25 #[.int .i64 0, .int .i64 0, .slice none 0 0] := Blk.new _ _ _
          have hS3 : Below Y.heap.size Y (Y.alloc (.cells #[.int .i64 0, .int .i64 0, .slice none 0 0] 25)).drew := ((Below.refl _ _).alloc (Nat.le_refl _) _).drew
          clear hS
          have hS := hS3
          refine hK.out _ _ hS ?_
          clear hK K
          try simp only [Act.put, List.setIfInBounds_toArray, List.set_cons_zero, List.set_cons_succ]
          refine wpAnyG_one (i := 3) rfl (by kernel_rfl) (fun K hK => ?_)
          go_simp
          have hY0 := hS.size
          (with_reducible refine (KM.out _ hS).mono ?_)
          rintro e w3' ⟨now', ser', er, A', n', c', L', A3, n3, c3, M, rfl, hq0, hl', hn', hq1, hl3, hn3, hb3⟩
          have hq := hq0.down hY0
          have hq3 := hq1.down hY0
          have hS3 := hS.trans (hb3.mono hY0)
          have hz3 := hz.next hb3
          clear hz
          have hz := hz3
          clear hS
          have hS := hS3
          refine hK.out _ _ hS ?_
          clear hK K
          try simp only [Act.put, List.setIfInBounds_toArray, List.set_cons_zero, List.set_cons_succ]
          refine wpAnyG_pure (i := 4) (v := ?_) rfl (by kernel_rfl) (by kernel_rfl) (by kernel_rfl) (by kernel_rfl) (fun _ _ _ h => h) (Or.inl ⟨by rfl, fun wx _ => ?_⟩) hS ?_
          rotate_left
          · go_simp; (try with_reducible rfl)
          try simp only [Act.put, List.setIfInBounds_toArray, List.set_cons_zero, List.set_cons_succ]
          refine wpAnyG_pure (i := 5) (v := ?_) rfl (by kernel_rfl) (by kernel_rfl) (by kernel_rfl) (by kernel_rfl) (fun _ _ _ h => h) (Or.inl ⟨by rfl, fun wx _ => ?_⟩) hS ?_
          rotate_left
          · go_simp; (try with_reducible rfl)
          try simp only [Act.put, List.setIfInBounds_toArray, List.set_cons_zero, List.set_cons_succ]
          refine wpAnyG_pure (i := 6) (v := ?_) rfl (by kernel_rfl) (by kernel_rfl) (by kernel_rfl) (by kernel_rfl) (fun _ _ _ h => h) (Or.inl ⟨by rfl, fun wx _ => ?_⟩) hS ?_
          rotate_left
          · go_simp; (try with_reducible rfl)
          try simp only [Act.put, List.setIfInBounds_toArray, List.set_cons_zero, List.set_cons_succ]
          refine wpAnyG_pure (i := 7) (v := ?_) rfl (by kernel_rfl) (by kernel_rfl) (by kernel_rfl) (by kernel_rfl) (fun _ _ _ h => h) (Or.inl ⟨by rfl, fun wx _ => ?_⟩) hS ?_
          rotate_left
          · go_simp; (try with_reducible rfl)
          try simp only [Act.put, List.setIfInBounds_toArray, List.set_cons_zero, List.set_cons_succ]
          refine wpAnyG_one (i := 9) rfl (by kernel_rfl) (fun K hK => ?_)
          rw [if_pos (by rfl)]
          refine wp_store_pc 25 (.tmp 15) (.tmp 55) rfl (Y.heap.size) _ _ #[.int .i64 now', .int .i64 ser', .slice A' n' c'] rfl rfl hz rfl (by kernel_rfl) (by simp [Value.oneCell']) (fun w8 hN8 hg8 => ?_)
          have hq8 := hq.grown hg8 hz (by decide) (by decide)
          have hq9 := hq3.grown hg8 hz (by decide) (by decide)
          have hS8 := hS.grown hg8 hS.size (fun j hj => by cases hj; omega)
          clear hS
          have hS := hS8
          refine hK.out _ _ hS ?_
          clear hK K
          try simp only [Act.put, List.setIfInBounds_toArray, List.set_cons_zero, List.set_cons_succ]
          refine wpAnyG_pure (i := 10) (v := ?_) rfl (by kernel_rfl) (by kernel_rfl) (by kernel_rfl) (by kernel_rfl) (fun _ _ _ h => h) (Or.inl ⟨by rfl, fun wx _ => ?_⟩) hS ?_
          rotate_left
          · go_simp; (try with_reducible rfl)
          try simp only [Act.put, List.setIfInBounds_toArray, List.set_cons_zero, List.set_cons_succ]
          refine wpAnyG_last rfl (by kernel_rfl) (by kernel_rfl) (by kernel_rfl) (fun K hK => ?_)
          go_simp
          refine hK.out _ _ ?_
          clear hK K
          try simp only [Act.put, List.setIfInBounds_toArray, List.set_cons_zero, List.set_cons_succ]
          go_wp2_with fail
          go_meet
          exact ⟨Y.heap.size, now', ser', er, A', n', c', L', A3, n3, c3, M, rfl, rfl, rfl, hN8, hq8, hl', hn', hq9, hl3, hn3, hS, by omega⟩
      · go_simp
        have hX1 := hS.size
        have hz : Blk (Y.alloc (.cells #[.int .i64 0, .int .i64 0, .slice none 0 0] 25)).drew Y.heap.size 25 #[.int .i64 0, .int .i64 0, .slice none 0 0] := Blk.new _ _ _
        have hS3 : Below Y.heap.size Y (Y.alloc (.cells #[.int .i64 0, .int .i64 0, .slice none 0 0] 25)).drew := ((Below.refl _ _).alloc (Nat.le_refl _) _).drew
        clear hS
        have hS := hS3
        refine hK.out _ _ hS ?_
        clear hK K
        try simp only [Act.put, List.setIfInBounds_toArray, List.set_cons_zero, List.set_cons_succ]
        refine wpAnyG_one (i := 2) rfl (by kernel_rfl) (fun K hK => ?_)
        go_simp
        (with_reducible refine (KS1.out _).mono ?_)
        rintro e w2 ⟨rfl, rfl⟩
        refine hK.out _ _ hS ?_
        clear hK K
        try simp only [Act.put, List.setIfInBounds_toArray, List.set_cons_zero, List.set_cons_succ]
        refine wpAnyG_one (i := 3) rfl (by kernel_rfl) (fun K hK => ?_)
        go_simp
        have hY0 := hS.size
        (with_reducible refine (KM.out _ hS).mono ?_)
        rintro e w3' ⟨now', ser', er, A', n', c', L', A3, n3, c3, M, rfl, hq0, hl', hn', hq1, hl3, hn3, hb3⟩
        have hq := hq0.down hY0
        have hq3 := hq1.down hY0
        have hS3 := hS.trans (hb3.mono hY0)
        have hz3 := hz.next hb3
        clear hz
        have hz := hz3
        clear hS
        have hS := hS3
        refine hK.out _ _ hS ?_
        clear hK K
        try simp only [Act.put, List.setIfInBounds_toArray, List.set_cons_zero, List.set_cons_succ]
        refine wpAnyG_pure (i := 4) (v := ?_) rfl (by kernel_rfl) (by kernel_rfl) (by kernel_rfl) (by kernel_rfl) (fun _ _ _ h => h) (Or.inl ⟨by rfl, fun wx _ => ?_⟩) hS ?_
        rotate_left
        · go_simp; (try with_reducible rfl)
        try simp only [Act.put, List.setIfInBounds_toArray, List.set_cons_zero, List.set_cons_succ]
        refine wpAnyG_pure (i := 5) (v := ?_) rfl (by kernel_rfl) (by kernel_rfl) (by kernel_rfl) (by kernel_rfl) (fun _ _ _ h => h) (Or.inl ⟨by rfl, fun wx _ => ?_⟩) hS ?_
        rotate_left
        · go_simp; (try with_reducible rfl)
        try simp only [Act.put, List.setIfInBounds_toArray, List.set_cons_zero, List.set_cons_succ]
        refine wpAnyG_pure (i := 6) (v := ?_) rfl (by kernel_rfl) (by kernel_rfl) (by kernel_rfl) (by kernel_rfl) (fun _ _ _ h => h) (Or.inl ⟨by rfl, fun wx _ => ?_⟩) hS ?_
        rotate_left
        · go_simp; (try with_reducible rfl)
        try simp only [Act.put, List.setIfInBounds_toArray, List.set_cons_zero, List.set_cons_succ]
        refine wpAnyG_pure (i := 7) (v := ?_) rfl (by kernel_rfl) (by kernel_rfl) (by kernel_rfl) (by kernel_rfl) (fun _ _ _ h => h) (Or.inl ⟨by rfl, fun wx _ => ?_⟩) hS ?_
        rotate_left
        · go_simp; (try with_reducible rfl)
        try simp only [Act.put, List.setIfInBounds_toArray, List.set_cons_zero, List.set_cons_succ]
        refine wpAnyG_one (i := 9) rfl (by kernel_rfl) (fun K hK => ?_)
        rw [if_pos (by rfl)]
        refine wp_store_pc 25 (.tmp 15) (.tmp 55) rfl (Y.heap.size) _ _ #[.int .i64 now', .int .i64 ser', .slice A' n' c'] rfl rfl hz rfl (by kernel_rfl) (by simp [Value.oneCell']) (fun w8 hN8 hg8 => ?_)
        have hq8 := hq.grown hg8 hz (by decide) (by decide)
        have hq9 := hq3.grown hg8 hz (by decide) (by decide)
        have hS8 := hS.grown hg8 hS.size (fun j hj => by cases hj; omega)
        clear hS
        have hS := hS8
        refine hK.out _ _ hS ?_
        clear hK K
        try simp only [Act.put, List.setIfInBounds_toArray, List.set_cons_zero, List.set_cons_succ]
        refine wpAnyG_pure (i := 10) (v := ?_) rfl (by kernel_rfl) (by kernel_rfl) (by kernel_rfl) (by kernel_rfl) (fun _ _ _ h => h) (Or.inl ⟨by rfl, fun wx _ => ?_⟩) hS ?_
        rotate_left
        · go_simp; (try with_reducible rfl)
        try simp only [Act.put, List.setIfInBounds_toArray, List.set_cons_zero, List.set_cons_succ]
        refine wpAnyG_last rfl (by kernel_rfl) (by kernel_rfl) (by kernel_rfl) (fun K hK => ?_)
        go_simp
        refine hK.out _ _ ?_
        clear hK K
        try simp only [Act.put, List.setIfInBounds_toArray, List.set_cons_zero, List.set_cons_succ]
        go_wp2_with fail
        go_meet
        exact ⟨Y.heap.size, now', ser', er, A', n', c', L', A3, n3, c3, M, rfl, rfl, rfl, hN8, hq8, hl', hn', hq9, hl3, hn3, hS, by omega⟩
    case rest =>
      obtain ⟨q15, nu, su, eu, Au, ku, cu, Lu, Ap, kp, cp, M, rfl, rfl, rfl, h15, hqu, hlu, hnu, hqp, hlp, hnp, hY1, hl15⟩ := hcut
      obtain ⟨Y1, hren⟩ : ∃ W : World, W = wc := ⟨_, rfl⟩
      subst hren
      have HBC1 := HBC.out.next hY1
      have HRY1 := HRY.out.next hY1
      have H131 := H13.out.next hY1
      clear HBC HRY H13 KM HC
      have HBC := Lib.hid HBC1
      have HRY := Lib.hid HRY1
      have H13 := Lib.hid H131
      clear HBC1 HRY1 H131
      have H15 := Lib.hid h15
      have HQU := Lib.hid hqu
      have HQP := Lib.hid hqp
      have HY1 := Lib.hid hY1
      clear h15 hqu hqp hY1
      have KM := Lib.hid (fun W (hW : Below Y1.heap.size Y1 W) => Lose_all 0 (k : Nat) sr (some ⟨g, 0, none⟩) k cq _ W ((HRY.out.next hW).qr HQ3.out) (by omega))
      have HC := Lib.hid (fun W (hW : Below Y1.heap.size Y1 W) => (show W.cell? ⟨q11, 0, none⟩ = some (.int .i64 0) ∧ W.cell? ⟨q11, 1, none⟩ = some (.int .i64 (k : Nat)) ∧ W.cell? ⟨q11, 2, none⟩ = some (.slice (some ⟨g, 0, none⟩) k cq) from ⟨(HBC.out.next hW).cell 0, (HBC.out.next hW).cell 1, (HBC.out.next hW).cell 2⟩))
      go_upto_region 10 with fail
      go_cut [18, 19] (fun s18 s19 wx => NCut Y1 s18 s19 wx)
      case first =>
        refine wp_region_G 9 (fun w' => Below Y1.heap.size Y1 w') (by kernel_rfl) ((Below.refl Y1.heap.size Y1).drew) (fun hS => ?_)
        refine wpAnyG_take (i := 0) (v := .agg #[.int .i64 0, .int .i64 (k : Nat), .slice (some ⟨g, 0, none⟩) k cq]) rfl (by kernel_rfl) (by kernel_rfl) (by kernel_rfl) (by kernel_rfl) (by kernel_rfl) (by kernel_rfl) (fun _ _ _ h => h) (Or.inl ⟨by rfl, fun wx hSw => by have hd := HC.out _ hSw; have h0 := hd.1; have h1 := hd.2.1; have h2 := hd.2.2; go_simp⟩) hS ?_
        try simp only [Act.put, List.setIfInBounds_toArray, List.set_cons_zero, List.set_cons_succ]
        refine wpAnyG_pure (i := 1) (v := ?_) rfl (by kernel_rfl) (by kernel_rfl) (by kernel_rfl) (by kernel_rfl) (fun _ _ _ h => h) (Or.inl ⟨by rfl, fun wx _ => ?_⟩) hS ?_
        rotate_left
        · go_simp; (try with_reducible rfl)
        try simp only [Act.put, List.setIfInBounds_toArray, List.set_cons_zero, List.set_cons_succ]
        refine wpAnyG_two (i := 2) (j := 7) rfl rfl (by kernel_rfl) (fun K hK => ?_) (fun K hK => ?_)
        · go_simp
          (with_reducible refine (KS2.out _).mono ?_)
          rintro e w2 ⟨rfl, rfl⟩
          refine hK.out _ _ hS ?_
          clear hK K
          try simp only [Act.put, List.setIfInBounds_toArray, List.set_cons_zero, List.set_cons_succ]
          refine wpAnyG_two (i := 3) (j := 7) rfl rfl (by kernel_rfl) (fun K hK => ?_) (fun K hK => ?_)
          · go_simp
            have hY0 := hS.size
            (with_reducible refine (KM.out _ hS).mono ?_)
            rintro e w3' ⟨now', ser', er, A', n', c', L', rfl, hq0, hl', hn', hb3⟩
            have hq := hq0.down hY0
            have hS3 := hS.trans (hb3.mono hY0)
            clear hS
            have hS := hS3
            refine hK.out _ _ hS ?_
            clear hK K
            try simp only [Act.put, List.setIfInBounds_toArray, List.set_cons_zero, List.set_cons_succ]
            refine wpAnyG_pure (i := 4) (v := ?_) rfl (by kernel_rfl) (by kernel_rfl) (by kernel_rfl) (by kernel_rfl) (fun _ _ _ h => h) (Or.inl ⟨by rfl, fun wx _ => ?_⟩) hS ?_
            rotate_left
            · go_simp; (try with_reducible rfl)
            try simp only [Act.put, List.setIfInBounds_toArray, List.set_cons_zero, List.set_cons_succ]
            refine wpAnyG_pure (i := 5) (v := ?_) rfl (by kernel_rfl) (by kernel_rfl) (by kernel_rfl) (by kernel_rfl) (fun _ _ _ h => h) (Or.inl ⟨by rfl, fun wx _ => ?_⟩) hS ?_
            rotate_left
            · go_simp; (try with_reducible rfl)
            try simp only [Act.put, List.setIfInBounds_toArray, List.set_cons_zero, List.set_cons_succ]
            refine wpAnyG_pure (i := 6) (v := ?_) rfl (by kernel_rfl) (by kernel_rfl) (by kernel_rfl) (by kernel_rfl) (fun _ _ _ h => h) (Or.inl ⟨by rfl, fun wx _ => ?_⟩) hS ?_
            rotate_left
            · go_simp; (try with_reducible rfl)
            try simp only [Act.put, List.setIfInBounds_toArray, List.set_cons_zero, List.set_cons_succ]
            refine wpAnyG_one (i := 7) rfl (by kernel_rfl) (fun K hK => ?_)
            go_simp
            have hX1 := hS.size
            have hz : Blk (w3'.alloc (.cells #[.int .i64 0, .int .i64 0, .slice none 0 0] 25)) w3'.heap.size 25 #[.int .i64 0, .int .i64 0, .slice none 0 0] := Blk.new _ _ _
            have hS3 : Below Y1.heap.size Y1 (w3'.alloc (.cells #[.int .i64 0, .int .i64 0, .slice none 0 0] 25)) := hS.alloc hS.size _
            have hq4 := hq.alloc (.cells #[.int .i64 0, .int .i64 0, .slice none 0 0] 25)
            clear hq
            have hq := hq4
            clear hS
            have hS := hS3
            refine hK.out _ _ hS ?_
            clear hK K
            try simp only [Act.put, List.setIfInBounds_toArray, List.set_cons_zero, List.set_cons_succ]
            refine wpAnyG_one (i := 8) rfl (by kernel_rfl) (fun K hK => ?_)
            rw [if_pos (by rfl)]
            refine wp_store_pc 25 (.tmp 18) (.tmp 63) rfl (w3'.heap.size) _ _ #[.int .i64 now', .int .i64 ser', .slice A' n' c'] rfl rfl hz rfl (by kernel_rfl) (by simp [Value.oneCell']) (fun w8 hN8 hg8 => ?_)
            have hq8 := hq.grown hg8 hz (by decide) (by decide)
            have hS8 := hS.grown hg8 hS.size (fun j hj => by cases hj; omega)
            clear hS
            have hS := hS8
            refine hK.out _ _ hS ?_
            clear hK K
            try simp only [Act.put, List.setIfInBounds_toArray, List.set_cons_zero, List.set_cons_succ]
            refine wpAnyG_last rfl (by kernel_rfl) (by kernel_rfl) (by kernel_rfl) (fun K hK => ?_)
            go_simp
            refine hK.out _ _ ?_
            clear hK K
            try simp only [Act.put, List.setIfInBounds_toArray, List.set_cons_zero, List.set_cons_succ]
            go_wp2_with fail
            go_meet
            exact ⟨w3'.heap.size, now', ser', er, A', n', c', L', rfl, rfl, hN8, hq8, hl', hn', hS, by omega⟩
          · go_simp
            have hX1 := hS.size
            have hz : Blk (Y1.alloc (.cells #[.int .i64 0, .int .i64 0, .slice none 0 0] 25)).drew Y1.heap.size 25 #[.int .i64 0, .int .i64 0, .slice none 0 0] := Blk.new _ _ _
            have hS3 : Below Y1.heap.size Y1 (Y1.alloc (.cells #[.int .i64 0, .int .i64 0, .slice none 0 0] 25)).drew := ((Below.refl _ _).alloc (Nat.le_refl _) _).drew
            clear hS
            have hS := hS3
            refine hK.out _ _ hS ?_
            clear hK K
            try simp only [Act.put, List.setIfInBounds_toArray, List.set_cons_zero, List.set_cons_succ]
            refine wpAnyG_one (i := 3) rfl (by kernel_rfl) (fun K hK => ?_)
            go_simp
            have hY0 := hS.size
            (with_reducible refine (KM.out _ hS).mono ?_)
            rintro e w3' ⟨now', ser', er, A', n', c', L', rfl, hq0, hl', hn', hb3⟩
            have hq := hq0.down hY0
            have hS3 := hS.trans (hb3.mono hY0)
            have hz3 := hz.next hb3
            clear hz
            have hz := hz3
            clear hS
            have hS := hS3
            refine hK.out _ _ hS ?_
            clear hK K
            try simp only [Act.put, List.setIfInBounds_toArray, List.set_cons_zero, List.set_cons_succ]
            refine wpAnyG_pure (i := 4) (v := ?_) rfl (by kernel_rfl) (by kernel_rfl) (by kernel_rfl) (by kernel_rfl) (fun _ _ _ h => h) (Or.inl ⟨by rfl, fun wx _ => ?_⟩) hS ?_
            rotate_left
            · go_simp; (try with_reducible rfl)
            try simp only [Act.put, List.setIfInBounds_toArray, List.set_cons_zero, List.set_cons_succ]
            refine wpAnyG_pure (i := 5) (v := ?_) rfl (by kernel_rfl) (by kernel_rfl) (by kernel_rfl) (by kernel_rfl) (fun _ _ _ h => h) (Or.inl ⟨by rfl, fun wx _ => ?_⟩) hS ?_
            rotate_left
            · go_simp; (try with_reducible rfl)
            try simp only [Act.put, List.setIfInBounds_toArray, List.set_cons_zero, List.set_cons_succ]
            refine wpAnyG_pure (i := 6) (v := ?_) rfl (by kernel_rfl) (by kernel_rfl) (by kernel_rfl) (by kernel_rfl) (fun _ _ _ h => h) (Or.inl ⟨by rfl, fun wx _ => ?_⟩) hS ?_
            rotate_left
            · go_simp; (try with_reducible rfl)
            try simp only [Act.put, List.setIfInBounds_toArray, List.set_cons_zero, List.set_cons_succ]
            refine wpAnyG_one (i := 8) rfl (by kernel_rfl) (fun K hK => ?_)
            rw [if_pos (by rfl)]
            refine wp_store_pc 25 (.tmp 18) (.tmp 63) rfl (Y1.heap.size) _ _ #[.int .i64 now', .int .i64 ser', .slice A' n' c'] rfl rfl hz rfl (by kernel_rfl) (by simp [Value.oneCell']) (fun w8 hN8 hg8 => ?_)
            have hq8 := hq.grown hg8 hz (by decide) (by decide)
            have hS8 := hS.grown hg8 hS.size (fun j hj => by cases hj; omega)
            clear hS
            have hS := hS8
            refine hK.out _ _ hS ?_
            clear hK K
            try simp only [Act.put, List.setIfInBounds_toArray, List.set_cons_zero, List.set_cons_succ]
            refine wpAnyG_last rfl (by kernel_rfl) (by kernel_rfl) (by kernel_rfl) (fun K hK => ?_)
            go_simp
            refine hK.out _ _ ?_
            clear hK K
            try simp only [Act.put, List.setIfInBounds_toArray, List.set_cons_zero, List.set_cons_succ]
            go_wp2_with fail
            go_meet
            exact ⟨Y1.heap.size, now', ser', er, A', n', c', L', rfl, rfl, hN8, hq8, hl', hn', hS, by omega⟩
        · go_simp
          have hX1 := hS.size
          have hz : Blk (Y1.alloc (.cells #[.int .i64 0, .int .i64 0, .slice none 0 0] 25)).drew Y1.heap.size 25 #[.int .i64 0, .int .i64 0, .slice none 0 0] := Blk.new _ _ _
          have hS3 : Below Y1.heap.size Y1 (Y1.alloc (.cells #[.int .i64 0, .int .i64 0, .slice none 0 0] 25)).drew := ((Below.refl _ _).alloc (Nat.le_refl _) _).drew
          clear hS
          have hS := hS3
          refine hK.out _ _ hS ?_
          clear hK K
          try simp only [Act.put, List.setIfInBounds_toArray, List.set_cons_zero, List.set_cons_succ]
          refine wpAnyG_one (i := 2) rfl (by kernel_rfl) (fun K hK => ?_)
          go_simp
          (with_reducible refine (KS2.out _).mono ?_)
          rintro e w2 ⟨rfl, rfl⟩
          refine hK.out _ _ hS ?_
          clear hK K
          try simp only [Act.put, List.setIfInBounds_toArray, List.set_cons_zero, List.set_cons_succ]
          refine wpAnyG_one (i := 3) rfl (by kernel_rfl) (fun K hK => ?_)
          go_simp
          have hY0 := hS.size
          (with_reducible refine (KM.out _ hS).mono ?_)
          rintro e w3' ⟨now', ser', er, A', n', c', L', rfl, hq0, hl', hn', hb3⟩
          have hq := hq0.down hY0
          have hS3 := hS.trans (hb3.mono hY0)
          have hz3 := hz.next hb3
          clear hz
          have hz := hz3
          clear hS
          have hS := hS3
          refine hK.out _ _ hS ?_
          clear hK K
          try simp only [Act.put, List.setIfInBounds_toArray, List.set_cons_zero, List.set_cons_succ]
          refine wpAnyG_pure (i := 4) (v := ?_) rfl (by kernel_rfl) (by kernel_rfl) (by kernel_rfl) (by kernel_rfl) (fun _ _ _ h => h) (Or.inl ⟨by rfl, fun wx _ => ?_⟩) hS ?_
          rotate_left
          · go_simp; (try with_reducible rfl)
          try simp only [Act.put, List.setIfInBounds_toArray, List.set_cons_zero, List.set_cons_succ]
          refine wpAnyG_pure (i := 5) (v := ?_) rfl (by kernel_rfl) (by kernel_rfl) (by kernel_rfl) (by kernel_rfl) (fun _ _ _ h => h) (Or.inl ⟨by rfl, fun wx _ => ?_⟩) hS ?_
          rotate_left
          · go_simp; (try with_reducible rfl)
          try simp only [Act.put, List.setIfInBounds_toArray, List.set_cons_zero, List.set_cons_succ]
          refine wpAnyG_pure (i := 6) (v := ?_) rfl (by kernel_rfl) (by kernel_rfl) (by kernel_rfl) (by kernel_rfl) (fun _ _ _ h => h) (Or.inl ⟨by rfl, fun wx _ => ?_⟩) hS ?_
          rotate_left
          · go_simp; (try with_reducible rfl)
          try simp only [Act.put, List.setIfInBounds_toArray, List.set_cons_zero, List.set_cons_succ]
          refine wpAnyG_one (i := 8) rfl (by kernel_rfl) (fun K hK => ?_)
          rw [if_pos (by rfl)]
          refine wp_store_pc 25 (.tmp 18) (.tmp 63) rfl (Y1.heap.size) _ _ #[.int .i64 now', .int .i64 ser', .slice A' n' c'] rfl rfl hz rfl (by kernel_rfl) (by simp [Value.oneCell']) (fun w8 hN8 hg8 => ?_)
          have hq8 := hq.grown hg8 hz (by decide) (by decide)
          have hS8 := hS.grown hg8 hS.size (fun j hj => by cases hj; omega)
          clear hS
          have hS := hS8
          refine hK.out _ _ hS ?_
          clear hK K
          try simp only [Act.put, List.setIfInBounds_toArray, List.set_cons_zero, List.set_cons_succ]
          refine wpAnyG_last rfl (by kernel_rfl) (by kernel_rfl) (by kernel_rfl) (fun K hK => ?_)
          go_simp
          refine hK.out _ _ ?_
          clear hK K
          try simp only [Act.put, List.setIfInBounds_toArray, List.set_cons_zero, List.set_cons_succ]
          go_wp2_with fail
          go_meet
          exact ⟨Y1.heap.size, now', ser', er, A', n', c', L', rfl, rfl, hN8, hq8, hl', hn', hS, by omega⟩
      case rest =>
        obtain ⟨q18, nv, sv, ev, Av, kv, cv, Lv, rfl, rfl, h18, hqv, hlv, hnv, hY2, hl18⟩ := hcut
        obtain ⟨Y2, hren⟩ : ∃ W : World, W = wc := ⟨_, rfl⟩
        subst hren
        have HBC1 := HBC.out.next hY2
        have HRY1 := HRY.out.next hY2
        have H131 := H13.out.next hY2
        clear HBC HRY H13 KM HC
        have HBC := Lib.hid HBC1
        have HRY := Lib.hid HRY1
        have H13 := Lib.hid H131
        clear HBC1 HRY1 H131
        have H151 := H15.out.next hY2
        clear H15
        have H15 := Lib.hid H151
        have H18 := Lib.hid h18
        have HQV := Lib.hid hqv
        have HY2 := Lib.hid hY2
        clear h18 hqv hY2 H151
        have KM := Lib.hid (fun W (hW : Below Y2.heap.size Y2 W) => Turn_all 0 (k : Nat) sr (some ⟨g, 0, none⟩) k cq _ W ((HRY.out.next hW).qr HQ3.out) (by omega))
        have HC := Lib.hid (fun W (hW : Below Y2.heap.size Y2 W) => (show W.cell? ⟨q11, 0, none⟩ = some (.int .i64 0) ∧ W.cell? ⟨q11, 1, none⟩ = some (.int .i64 (k : Nat)) ∧ W.cell? ⟨q11, 2, none⟩ = some (.slice (some ⟨g, 0, none⟩) k cq) from ⟨(HBC.out.next hW).cell 0, (HBC.out.next hW).cell 1, (HBC.out.next hW).cell 2⟩))
        go_upto_region 11 with fail
        go_cut [20, 21] (fun s20 s21 wx => NCut Y2 s20 s21 wx)
        case first =>
          refine wp_region_G 9 (fun w' => Below Y2.heap.size Y2 w') (by kernel_rfl) ((Below.refl Y2.heap.size Y2).drew) (fun hS => ?_)
          refine wpAnyG_take (i := 0) (v := .agg #[.int .i64 0, .int .i64 (k : Nat), .slice (some ⟨g, 0, none⟩) k cq]) rfl (by kernel_rfl) (by kernel_rfl) (by kernel_rfl) (by kernel_rfl) (by kernel_rfl) (by kernel_rfl) (fun _ _ _ h => h) (Or.inl ⟨by rfl, fun wx hSw => by have hd := HC.out _ hSw; have h0 := hd.1; have h1 := hd.2.1; have h2 := hd.2.2; go_simp⟩) hS ?_
          try simp only [Act.put, List.setIfInBounds_toArray, List.set_cons_zero, List.set_cons_succ]
          refine wpAnyG_pure (i := 1) (v := ?_) rfl (by kernel_rfl) (by kernel_rfl) (by kernel_rfl) (by kernel_rfl) (fun _ _ _ h => h) (Or.inl ⟨by rfl, fun wx _ => ?_⟩) hS ?_
          rotate_left
          · go_simp; (try with_reducible rfl)
          try simp only [Act.put, List.setIfInBounds_toArray, List.set_cons_zero, List.set_cons_succ]
          refine wpAnyG_two (i := 2) (j := 7) rfl rfl (by kernel_rfl) (fun K hK => ?_) (fun K hK => ?_)
          · go_simp
            (with_reducible refine (KS2.out _).mono ?_)
            rintro e w2 ⟨rfl, rfl⟩
            refine hK.out _ _ hS ?_
            clear hK K
            try simp only [Act.put, List.setIfInBounds_toArray, List.set_cons_zero, List.set_cons_succ]
            refine wpAnyG_two (i := 3) (j := 7) rfl rfl (by kernel_rfl) (fun K hK => ?_) (fun K hK => ?_)
            · go_simp
              have hY0 := hS.size
              (with_reducible refine (KM.out _ hS).mono ?_)
              rintro e w3' ⟨now', ser', er, A', n', c', L', rfl, hq0, hl', hn', hb3⟩
              have hq := hq0.down hY0
              have hS3 := hS.trans (hb3.mono hY0)
              clear hS
              have hS := hS3
              refine hK.out _ _ hS ?_
              clear hK K
              try simp only [Act.put, List.setIfInBounds_toArray, List.set_cons_zero, List.set_cons_succ]
              refine wpAnyG_pure (i := 4) (v := ?_) rfl (by kernel_rfl) (by kernel_rfl) (by kernel_rfl) (by kernel_rfl) (fun _ _ _ h => h) (Or.inl ⟨by rfl, fun wx _ => ?_⟩) hS ?_
              rotate_left
              · go_simp; (try with_reducible rfl)
              try simp only [Act.put, List.setIfInBounds_toArray, List.set_cons_zero, List.set_cons_succ]
              refine wpAnyG_pure (i := 5) (v := ?_) rfl (by kernel_rfl) (by kernel_rfl) (by kernel_rfl) (by kernel_rfl) (fun _ _ _ h => h) (Or.inl ⟨by rfl, fun wx _ => ?_⟩) hS ?_
              rotate_left
              · go_simp; (try with_reducible rfl)
              try simp only [Act.put, List.setIfInBounds_toArray, List.set_cons_zero, List.set_cons_succ]
              refine wpAnyG_pure (i := 6) (v := ?_) rfl (by kernel_rfl) (by kernel_rfl) (by kernel_rfl) (by kernel_rfl) (fun _ _ _ h => h) (Or.inl ⟨by rfl, fun wx _ => ?_⟩) hS ?_
              rotate_left
              · go_simp; (try with_reducible rfl)
              try simp only [Act.put, List.setIfInBounds_toArray, List.set_cons_zero, List.set_cons_succ]
              refine wpAnyG_one (i := 7) rfl (by kernel_rfl) (fun K hK => ?_)
              go_simp
              have hX1 := hS.size
              have hz : Blk (w3'.alloc (.cells #[.int .i64 0, .int .i64 0, .slice none 0 0] 25)) w3'.heap.size 25 #[.int .i64 0, .int .i64 0, .slice none 0 0] := Blk.new _ _ _
              have hS3 : Below Y2.heap.size Y2 (w3'.alloc (.cells #[.int .i64 0, .int .i64 0, .slice none 0 0] 25)) := hS.alloc hS.size _
              have hq4 := hq.alloc (.cells #[.int .i64 0, .int .i64 0, .slice none 0 0] 25)
              clear hq
              have hq := hq4
              clear hS
              have hS := hS3
              refine hK.out _ _ hS ?_
              clear hK K
              try simp only [Act.put, List.setIfInBounds_toArray, List.set_cons_zero, List.set_cons_succ]
              refine wpAnyG_one (i := 8) rfl (by kernel_rfl) (fun K hK => ?_)
              rw [if_pos (by rfl)]
              refine wp_store_pc 25 (.tmp 20) (.tmp 70) rfl (w3'.heap.size) _ _ #[.int .i64 now', .int .i64 ser', .slice A' n' c'] rfl rfl hz rfl (by kernel_rfl) (by simp [Value.oneCell']) (fun w8 hN8 hg8 => ?_)
              have hq8 := hq.grown hg8 hz (by decide) (by decide)
              have hS8 := hS.grown hg8 hS.size (fun j hj => by cases hj; omega)
              clear hS
              have hS := hS8
              refine hK.out _ _ hS ?_
              clear hK K
              try simp only [Act.put, List.setIfInBounds_toArray, List.set_cons_zero, List.set_cons_succ]
              refine wpAnyG_last rfl (by kernel_rfl) (by kernel_rfl) (by kernel_rfl) (fun K hK => ?_)
              go_simp
              refine hK.out _ _ ?_
              clear hK K
              try simp only [Act.put, List.setIfInBounds_toArray, List.set_cons_zero, List.set_cons_succ]
              go_wp2_with fail
              go_meet
              exact ⟨w3'.heap.size, now', ser', er, A', n', c', L', rfl, rfl, hN8, hq8, hl', hn', hS, by omega⟩
            · go_simp
              have hX1 := hS.size
              have hz : Blk (Y2.alloc (.cells #[.int .i64 0, .int .i64 0, .slice none 0 0] 25)).drew Y2.heap.size 25 #[.int .i64 0, .int .i64 0, .slice none 0 0] := Blk.new _ _ _
              have hS3 : Below Y2.heap.size Y2 (Y2.alloc (.cells #[.int .i64 0, .int .i64 0, .slice none 0 0] 25)).drew := ((Below.refl _ _).alloc (Nat.le_refl _) _).drew
              clear hS
              have hS := hS3
              refine hK.out _ _ hS ?_
              clear hK K
              try simp only [Act.put, List.setIfInBounds_toArray, List.set_cons_zero, List.set_cons_succ]
              refine wpAnyG_one (i := 3) rfl (by kernel_rfl) (fun K hK => ?_)
              go_simp
              have hY0 := hS.size
              (with_reducible refine (KM.out _ hS).mono ?_)
              rintro e w3' ⟨now', ser', er, A', n', c', L', rfl, hq0, hl', hn', hb3⟩
              have hq := hq0.down hY0
              have hS3 := hS.trans (hb3.mono hY0)
              have hz3 := hz.next hb3
              clear hz
              have hz := hz3
              clear hS
              have hS := hS3
              refine hK.out _ _ hS ?_
              clear hK K
              try simp only [Act.put, List.setIfInBounds_toArray, List.set_cons_zero, List.set_cons_succ]
              refine wpAnyG_pure (i := 4) (v := ?_) rfl (by kernel_rfl) (by kernel_rfl) (by kernel_rfl) (by kernel_rfl) (fun _ _ _ h => h) (Or.inl ⟨by rfl, fun wx _ => ?_⟩) hS ?_
              rotate_left
              · go_simp; (try with_reducible rfl)
              try simp only [Act.put, List.setIfInBounds_toArray, List.set_cons_zero, List.set_cons_succ]
              refine wpAnyG_pure (i := 5) (v := ?_) rfl (by kernel_rfl) (by kernel_rfl) (by kernel_rfl) (by kernel_rfl) (fun _ _ _ h => h) (Or.inl ⟨by rfl, fun wx _ => ?_⟩) hS ?_
              rotate_left
              · go_simp; (try with_reducible rfl)
              try simp only [Act.put, List.setIfInBounds_toArray, List.set_cons_zero, List.set_cons_succ]
              refine wpAnyG_pure (i := 6) (v := ?_) rfl (by kernel_rfl) (by kernel_rfl) (by kernel_rfl) (by kernel_rfl) (fun _ _ _ h => h) (Or.inl ⟨by rfl, fun wx _ => ?_⟩) hS ?_
              rotate_left
              · go_simp; (try with_reducible rfl)
              try simp only [Act.put, List.setIfInBounds_toArray, List.set_cons_zero, List.set_cons_succ]
              refine wpAnyG_one (i := 8) rfl (by kernel_rfl) (fun K hK => ?_)
              rw [if_pos (by rfl)]
              refine wp_store_pc 25 (.tmp 20) (.tmp 70) rfl (Y2.heap.size) _ _ #[.int .i64 now', .int .i64 ser', .slice A' n' c'] rfl rfl hz rfl (by kernel_rfl) (by simp [Value.oneCell']) (fun w8 hN8 hg8 => ?_)
              have hq8 := hq.grown hg8 hz (by decide) (by decide)
              have hS8 := hS.grown hg8 hS.size (fun j hj => by cases hj; omega)
              clear hS
              have hS := hS8
              refine hK.out _ _ hS ?_
              clear hK K
              try simp only [Act.put, List.setIfInBounds_toArray, List.set_cons_zero, List.set_cons_succ]
              refine wpAnyG_last rfl (by kernel_rfl) (by kernel_rfl) (by kernel_rfl) (fun K hK => ?_)
              go_simp
              refine hK.out _ _ ?_
              clear hK K
              try simp only [Act.put, List.setIfInBounds_toArray, List.set_cons_zero, List.set_cons_succ]
              go_wp2_with fail
              go_meet
              exact ⟨Y2.heap.size, now', ser', er, A', n', c', L', rfl, rfl, hN8, hq8, hl', hn', hS, by omega⟩
          · go_simp
            have hX1 := hS.size
            have hz : Blk (Y2.alloc (.cells #[.int .i64 0, .int .i64 0, .slice none 0 0] 25)).drew Y2.heap.size 25 #[.int .i64 0, .int .i64 0, .slice none 0 0] := Blk.new _ _ _
            have hS3 : Below Y2.heap.size Y2 (Y2.alloc (.cells #[.int .i64 0, .int .i64 0, .slice none 0 0] 25)).drew := ((Below.refl _ _).alloc (Nat.le_refl _) _).drew
            clear hS
            have hS := hS3
            refine hK.out _ _ hS ?_
            clear hK K
            try simp only [Act.put, List.setIfInBounds_toArray, List.set_cons_zero, List.set_cons_succ]
            refine wpAnyG_one (i := 2) rfl (by kernel_rfl) (fun K hK => ?_)
            go_simp
            (with_reducible refine (KS2.out _).mono ?_)
            rintro e w2 ⟨rfl, rfl⟩
            refine hK.out _ _ hS ?_
            clear hK K
            try simp only [Act.put, List.setIfInBounds_toArray, List.set_cons_zero, List.set_cons_succ]
            refine wpAnyG_one (i := 3) rfl (by kernel_rfl) (fun K hK => ?_)
            go_simp
            have hY0 := hS.size
            (with_reducible refine (KM.out _ hS).mono ?_)
            rintro e w3' ⟨now', ser', er, A', n', c', L', rfl, hq0, hl', hn', hb3⟩
            have hq := hq0.down hY0
            have hS3 := hS.trans (hb3.mono hY0)
            have hz3 := hz.next hb3
            clear hz
            have hz := hz3
            clear hS
            have hS := hS3
            refine hK.out _ _ hS ?_
            clear hK K
            try simp only [Act.put, List.setIfInBounds_toArray, List.set_cons_zero, List.set_cons_succ]
            refine wpAnyG_pure (i := 4) (v := ?_) rfl (by kernel_rfl) (by kernel_rfl) (by kernel_rfl) (by kernel_rfl) (fun _ _ _ h => h) (Or.inl ⟨by rfl, fun wx _ => ?_⟩) hS ?_
            rotate_left
            · go_simp; (try with_reducible rfl)
            try simp only [Act.put, List.setIfInBounds_toArray, List.set_cons_zero, List.set_cons_succ]
            refine wpAnyG_pure (i := 5) (v := ?_) rfl (by kernel_rfl) (by kernel_rfl) (by kernel_rfl) (by kernel_rfl) (fun _ _ _ h => h) (Or.inl ⟨by rfl, fun wx _ => ?_⟩) hS ?_
            rotate_left
            · go_simp; (try with_reducible rfl)
            try simp only [Act.put, List.setIfInBounds_toArray, List.set_cons_zero, List.set_cons_succ]
            refine wpAnyG_pure (i := 6) (v := ?_) rfl (by kernel_rfl) (by kernel_rfl) (by kernel_rfl) (by kernel_rfl) (fun _ _ _ h => h) (Or.inl ⟨by rfl, fun wx _ => ?_⟩) hS ?_
            rotate_left
            · go_simp; (try with_reducible rfl)
            try simp only [Act.put, List.setIfInBounds_toArray, List.set_cons_zero, List.set_cons_succ]
            refine wpAnyG_one (i := 8) rfl (by kernel_rfl) (fun K hK => ?_)
            rw [if_pos (by rfl)]
            refine wp_store_pc 25 (.tmp 20) (.tmp 70) rfl (Y2.heap.size) _ _ #[.int .i64 now', .int .i64 ser', .slice A' n' c'] rfl rfl hz rfl (by kernel_rfl) (by simp [Value.oneCell']) (fun w8 hN8 hg8 => ?_)
            have hq8 := hq.grown hg8 hz (by decide) (by decide)
            have hS8 := hS.grown hg8 hS.size (fun j hj => by cases hj; omega)
            clear hS
            have hS := hS8
            refine hK.out _ _ hS ?_
            clear hK K
            try simp only [Act.put, List.setIfInBounds_toArray, List.set_cons_zero, List.set_cons_succ]
            refine wpAnyG_last rfl (by kernel_rfl) (by kernel_rfl) (by kernel_rfl) (fun K hK => ?_)
            go_simp
            refine hK.out _ _ ?_
            clear hK K
            try simp only [Act.put, List.setIfInBounds_toArray, List.set_cons_zero, List.set_cons_succ]
            go_wp2_with fail
            go_meet
            exact ⟨Y2.heap.size, now', ser', er, A', n', c', L', rfl, rfl, hN8, hq8, hl', hn', hS, by omega⟩
        case rest =>
          obtain ⟨q20, nw, sw, ew, Aw, kw, cw, Lw, rfl, rfl, h20, hqw, hlw, hnw, hY3, hl20⟩ := hcut
          obtain ⟨Y3, hren⟩ : ∃ W : World, W = wc := ⟨_, rfl⟩
          subst hren
          have HBC1 := HBC.out.next hY3
          have HRY1 := HRY.out.next hY3
          have H131 := H13.out.next hY3
          clear HBC HRY H13 KM HC
          have HBC := Lib.hid HBC1
          have HRY := Lib.hid HRY1
          have H13 := Lib.hid H131
          clear HBC1 HRY1 H131
          have H151 := H15.out.next hY3
          have H181 := H18.out.next hY3
          clear H15 H18
          have H15 := Lib.hid H151
          have H18 := Lib.hid H181
          have H20 := Lib.hid h20
          have HQWW := Lib.hid hqw
          have HY3 := Lib.hid hY3
          clear h20 hqw hY3 H151 H181
          have hwu : QW Y3 Y.heap.size Y1.heap.size (.slice Au ku cu) Lu := (HQU.out.weak.next HY2.out).next HY3.out
          have hwp : QW Y3 Y.heap.size Y1.heap.size (.slice Ap kp cp) M := (HQP.out.weak.next HY2.out).next HY3.out
          have HPI : Hid (PIn Y3 Y.heap.size Y1.heap.size q15 #[.int .i64 nu, .int .i64 su, .slice Au ku cu] (.slice Au ku cu) (.slice Ap kp cp) Lu M Y3) := Lib.hid ⟨Same.refl _ _, H15.out, hwu, hwp⟩
          clear hwu hwp
          go_wp2_with fail
          go_loopw [22] (fun iv wr => ∃ i : Nat, iv = .int .i64 i ∧ i ≤ kp ∧ PIn Y3 Y.heap.size Y1.heap.size q15 #[.int .i64 nu, .int .i64 su, .slice Au ku cu] (.slice Au ku cu) (.slice Ap kp cp) Lu M wr) (fun iv _ => kp - (intOf iv).toNat)
          case atStart => exact ⟨0, rfl, Nat.zero_le _, HPI.out⟩
          case round =>
            clear HPI
            obtain ⟨Z, rfl⟩ : ∃ W : World, W = wr := ⟨_, rfl⟩
            obtain ⟨i, rfl, hi, hP⟩ := hrel
            by_cases hik : i < kp
            · obtain ⟨p, hp⟩ : ∃ p, M[i]? = some p := ⟨_, List.getElem?_eq_getElem (by omega)⟩
              have hpm := List.mem_of_getElem? hp
              have hpn := hP.2.2.2.len p hpm
              have hrow : ∀ W, PIn Y3 Y.heap.size Y1.heap.size q15 #[.int .i64 nu, .int .i64 su, .slice Au ku cu] (.slice Au ku cu) (.slice Ap kp cp) Lu M W → ∃ gq, Ap = some ⟨gq, 0, none⟩ ∧ W.cell? ⟨gq, i * 5 + 4, none⟩ = some (.slice p.A p.n p.c) := fun W hW => by
                obtain ⟨xs, ho, hx⟩ := hW.2.2.2.row
                rw [hlp] at ho
                obtain ⟨gq, _, rfl, _⟩ := own_at ho (by omega)
                exact ⟨gq, rfl, (ho.cellAt (i * 5 + 4) (by omega)).trans (hx i p hp)⟩
              have HROW := Lib.hid hrow
              obtain ⟨gq, eAp, c4⟩ := hrow Z hP
              have HPM := Lib.hid hpm
              have HP := Lib.hid hP
              have HEA := Lib.hid eAp
              have z1 : (0 : Int) ≤ (i : Int) := by omega
              have z2 : (i : Int) < (kp : Int) := by omega
              clear hrow hp hpm hP eAp c4
              go_wp2_with fail
              go_loopw [23] (fun kv wr => ∃ j : Nat, kv = .int .i64 j ∧ j ≤ p.n ∧ PIn Y3 Y.heap.size Y1.heap.size q15 #[.int .i64 nu, .int .i64 su, .slice Au ku cu] (.slice Au ku cu) (.slice Ap kp cp) Lu M wr) (fun kv _ => p.n - (intOf kv).toNat)
              case atStart => exact ⟨0, rfl, Nat.zero_le _, HP.out⟩
              case round =>
                obtain ⟨Z2, rfl⟩ : ∃ W : World, W = wr := ⟨_, rfl⟩
                obtain ⟨j, rfl, hj, hP2⟩ := hrel
                obtain ⟨gq2, e2, c4⟩ := HROW.out Z2 hP2
                have e1 := HEA.out
                subst e1
                obtain rfl : gq = gq2 := by injection e2 with e2; injection e2
                clear e2
                have HP2 := Lib.hid hP2
                clear hP2
                by_cases hjp : j < p.n
                · obtain ⟨ys, hy⟩ := HP2.out.2.2.2.own p HPM.out
                  have hy0 := hy
                  unfold Pc.sl at hy0
                  obtain ⟨g3, eA, _, _⟩ := (own_parts hy0).2.2 (by omega)
                  rw [eA] at c4 hy0
                  obtain ⟨u, f0⟩ := own_cell hy0 hjp
                  have f1 : Z2.frozen? ⟨g3, j, none⟩ = false := own_frozen hy0 j
                  have y1 : (0 : Int) ≤ (j : Int) := by omega
                  have y2 : (j : Int) < (p.n : Int) := by omega
                  have HY := Lib.hid hy
                  have HA := Lib.hid eA
                  clear hy hy0 eA
                  go_wp2_with fail
                  go_roundw
                  case rel => exact ⟨j + 1, by go_num, by omega, HP2.out.put HPM.out HA.out HY.out _⟩
                  case measure => simp [intOf]; omega
                · obtain rfl : p.n = j := by omega
                  go_wp2_with fail
                  go_roundw
                  case rel => exact ⟨i + 1, by go_num, by omega, HP2.out⟩
                  case measure => simp [intOf]; omega
            · obtain rfl : kp = i := by omega
              clear hik
              have sY1 := HY1.out.size
              have sY2 := HY2.out.size
              have sY3 := HY3.out.size
              have s5Y := H5Y.out.size
              have sZ := hP.1.2.2.2.1
              have qs : QW Z w5.heap.size Y.heap.size (.slice A6 (k + 1) c6) L6 := (((HQS.out.weak.next HY1.out).next HY2.out).next HY3.out).same hP.1 (fun k h1 h2 h3 => by omega)
              have qv : QW Z Y1.heap.size Y2.heap.size (.slice Av kv cv) Lv := (HQV.out.weak.next HY3.out).same hP.1 (fun k h1 h2 h3 => by omega)
              have qw : QW Z Y2.heap.size Y3.heap.size (.slice Aw kw cw) Lw := HQWW.out.weak.same hP.1 (fun k h1 h2 h3 => by omega)
              have b13 := hP.1.blk H13.out (fun h => by omega)
              have b18 := hP.1.blk H18.out (fun h => by omega)
              have b20 := hP.1.blk H20.out (fun h => by omega)
              have d2 := b13.cell 2
              have d0 := b13.cell 0
              have d1 := b13.cell 1
              simp only [List.getElem?_toArray, List.getElem?_cons_zero, List.getElem?_cons_succ] at d0 d1 d2
              have B0 := Lib.hid (show Below w5.heap.size w5 Z from hP.1.below ((H5Y.out.trans (HY1.out.mono s5Y)).trans ((HY2.out.trans (HY3.out.mono sY2)).mono (by omega))) (by omega) (fun k hk => by omega))
              have KA := Lib.hid (smear_any 0 ((k : Nat) + 1) A6 (k + 1) c6 w5.heap.size Y.heap.size L6 Z qs hl6 (by omega) (by omega))
              have QU := Lib.hid hP.2.2.1
              have B15 := Lib.hid hP.2.1
              have QV := Lib.hid qv
              have QX := Lib.hid qw
              have B18 := Lib.hid b18
              have B20 := Lib.hid b20
              clear qs qv qw b13 b18 b20 hP
              go_upto_region 20 with (first
                | (go_at_call 16; (with_reducible refine KA.out.mono ?_); rintro e Z1 ⟨rfl, hs20⟩; have HS20 := Lib.hid hs20; clear hs20))
              clear d0 d1 d2 KA
              have tB15 := HS20.out.blk B15.out (fun h => by omega)
              clear B15
              have B15 := Lib.hid tB15
              clear tB15
              have tQU := QU.out.same HS20.out (fun k h1 h2 h3 => by omega)
              clear QU
              have QU := Lib.hid tQU
              clear tQU
              have tB18 := HS20.out.blk B18.out (fun h => by omega)
              clear B18
              have B18 := Lib.hid tB18
              clear tB18
              have tQV := QV.out.same HS20.out (fun k h1 h2 h3 => by omega)
              clear QV
              have QV := Lib.hid tQV
              clear tQV
              have tB20 := HS20.out.blk B20.out (fun h => by omega)
              clear B20
              have B20 := Lib.hid tB20
              clear tB20
              have tQX := QX.out.same HS20.out (fun k h1 h2 h3 => by omega)
              clear QX
              have QX := Lib.hid tQX
              clear tQX
              have sz20 := HS20.out.2.2.2.1
              have d2 := B15.out.cell 2
              have d0 := B15.out.cell 0
              have d1 := B15.out.cell 1
              simp only [List.getElem?_toArray, List.getElem?_cons_zero, List.getElem?_cons_succ] at d0 d1 d2
              have KA := Lib.hid (smear_any nu su Au ku cu Y.heap.size Y1.heap.size Lu Z1 QU.out hlu (by omega) (by omega))
              go_upto_region 21 with (first
                | (go_at_call 16; (with_reducible refine KA.out.mono ?_); rintro e Z2 ⟨rfl, hs21⟩; have HS21 := Lib.hid hs21; clear hs21))
              clear d0 d1 d2 KA
              have tB18 := HS21.out.blk B18.out (fun h => by omega)
              clear B18
              have B18 := Lib.hid tB18
              clear tB18
              have tQV := QV.out.same HS21.out (fun k h1 h2 h3 => by omega)
              clear QV
              have QV := Lib.hid tQV
              clear tQV
              have tB20 := HS21.out.blk B20.out (fun h => by omega)
              clear B20
              have B20 := Lib.hid tB20
              clear tB20
              have tQX := QX.out.same HS21.out (fun k h1 h2 h3 => by omega)
              clear QX
              have QX := Lib.hid tQX
              clear tQX
              have sz21 := HS21.out.2.2.2.1
              have d2 := B18.out.cell 2
              have d0 := B18.out.cell 0
              have d1 := B18.out.cell 1
              simp only [List.getElem?_toArray, List.getElem?_cons_zero, List.getElem?_cons_succ] at d0 d1 d2
              have KA := Lib.hid (smear_any nv sv Av kv cv Y1.heap.size Y2.heap.size Lv Z2 QV.out hlv (by omega) (by omega))
              go_upto_region 22 with (first
                | (go_at_call 16; (with_reducible refine KA.out.mono ?_); rintro e Z3 ⟨rfl, hs22⟩; have HS22 := Lib.hid hs22; clear hs22))
              clear d0 d1 d2 KA
              have tB20 := HS22.out.blk B20.out (fun h => by omega)
              clear B20
              have B20 := Lib.hid tB20
              clear tB20
              have tQX := QX.out.same HS22.out (fun k h1 h2 h3 => by omega)
              clear QX
              have QX := Lib.hid tQX
              clear tQX
              have sz22 := HS22.out.2.2.2.1
              have d2 := B20.out.cell 2
              have d0 := B20.out.cell 0
              have d1 := B20.out.cell 1
              simp only [List.getElem?_toArray, List.getElem?_cons_zero, List.getElem?_cons_succ] at d0 d1 d2
              have KA := Lib.hid (smear_any nw sw Aw kw cw Y2.heap.size Y3.heap.size Lw Z3 QX.out hlw (by omega) (by omega))
              go_upto_region 23 with (first
                | (go_at_call 16; (with_reducible refine KA.out.mono ?_); rintro e Z4 ⟨rfl, hs23⟩; have HS23 := Lib.hid hs23; clear hs23))
              clear d0 d1 d2 KA
              have sz23 := HS23.out.2.2.2.1
              have hBE := HS23.out.below (HS22.out.below (HS21.out.below (HS20.out.below B0.out (by omega) (fun k hk => by omega)) (by omega) (fun k hk => by omega)) (by omega) (fun k hk => by omega)) (by omega) (fun k hk => by omega)
              have h3E := H35.out.trans (hBE.mono H35.out.size)
              have b9 := HB93.out.next h3E
              have b11 := HB5B.out.next hBE
              have d0 := b9.cell 0
              have d1 := b9.cell 1
              have d2 := b9.cell 2
              have e0 := b11.cell 0
              have e1 := b11.cell 1
              have e2 := b11.cell 2
              simp only [List.getElem?_toArray, List.getElem?_cons_zero, List.getElem?_cons_succ] at d0 d1 d2 e0 e1 e2
              have KT := Lib.hid (stayedBus_any 0 (k : Nat) A1 k c1 g cq w3.heap.size gs cs L Z4 (HQ3.out.next h3E) (HR5.out.next hBE) (by omega))
              have KU := Lib.hid (fun W (hW : Below Z4.heap.size Z4 W) => stayedBytes_any Bd gd m cb cd zs cur W ((HKD.out.next hBE).next hW) HR8.out hcd ((HI.out.next (HB3W.out.trans (h3E.mono HB3W.out.size))).next hW) HBD.out (by omega))
              have HE := Lib.hid (HB3W.out.trans (h3E.mono HB3W.out.size))
              clear b9 b11 h3E hBE
              go_wp2_with (first
                | (go_at_call 17; (with_reducible refine KT.out.mono ?_); rintro e Z5 ⟨rfl, hB5⟩; have HB5 := Lib.hid hB5; clear hB5)
                | (go_at_call 18; (with_reducible refine (KU.out _ HB5.out).mono ?_); rintro e Z6 ⟨rfl, rfl⟩)
                | go_big_skip)
              go_ret
              exact ⟨rfl, HE.out.trans (HB5.out.mono HE.out.size)⟩
end Go.Proofs.Ytdlcjieaoalhoaa.Bs
