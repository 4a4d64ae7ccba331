/- The walk of WireMemory: nothing that is handed in is changed, answers are memory of their own. -/
import Derived.Test.YtccebaadpjflkaaWireMem
set_option linter.unusedVariables false
namespace Go.Proofs.Ytccebaadpjflkaa.lawWireMemory
open Go.RowKit Go.Proofs.Ytccebaadpjflkaa Crc Ro Wr Sm Sc

set_option maxRecDepth 100000 in
set_option maxHeartbeats 8000000 in
theorem walk1 (A : Option Addr) (n c : Nat) (zs : List Int) (k f r : Int) (Am : Option Addr) (nm cm : Nat) (vs : List Int) (w : World) (h : Ints w .u8 A n zs) (hA : A = none → n = 0 ∧ c = 0) (hn : n ≤ 140737488351232) (hz : Byts zs)
    (h' : Ints w .i64 Am nm vs) (hv : ∀ v ∈ vs, In64 v) (hnm : nm * 8 ≤ 140737488355328) :
    Calls Try.prog 8 #[.slice A n c, .agg #[.int .i64 k, .int .i64 f, .int .i64 r, .slice Am nm cm]] w fun e w' => e = .returned (.bool true) ∧ Below w.heap.size w w' := by
  obtain ⟨i0, hi, hz0, hz1, hz2⟩ := info_parts infoByte
  have hl1 := h.1
  have hl2 := h'.1
  have HL1 := Lib.hid hl1
  have HL2 := Lib.hid hl2
  have hAlt : ∀ ad, A = some ad → 0 < n → ad.block < w.heap.size := fun ad e hn => by obtain ⟨b, off, e2, hlt, _⟩ := h.2 hn; rw [e] at e2; cases e2; exact hlt
  have hBlt : ∀ ad, Am = some ad → 0 < nm → ad.block < w.heap.size := fun ad e hn => by obtain ⟨b, off, e2, hlt, _⟩ := h'.2 hn; rw [e] at e2; cases e2; exact hlt
  have HALT := Lib.hid hAlt
  have HBLT := Lib.hid hBlt
  have HA := Lib.hid hA
  have HZ := Lib.hid hz
  have HV := Lib.hid hv
  have B0 := Lib.hid (h.alloc (.cells #[.int .i64 k, .int .i64 f, .int .i64 r, .slice Am nm cm] 57))
  have V0 := Lib.hid (h'.alloc (.cells #[.int .i64 k, .int .i64 f, .int .i64 r, .slice Am nm cm] 57))
  have P0 := Lib.hid (Blk.new w 57 #[.int .i64 k, .int .i64 f, .int .i64 r, .slice Am nm cm])
  have BW0 := Lib.hid ((Below.refl w.heap.size w).alloc (Nat.le_refl _) (.cells #[.int .i64 k, .int .i64 f, .int .i64 r, .slice Am nm cm] 57))
  have s0 : w.heap.size + 1 = (w.alloc (.cells #[.int .i64 k, .int .i64 f, .int .i64 r, .slice Am nm cm] 57)).heap.size := by simp
  have S0 := Lib.hid s0
  clear h h' hA hz hv hl1 hl2 hAlt hBlt s0
  go_enter Try.func8, Try.ntmps8
  go_wp2_with fail
  refine (roomyBytes_any A n c zs _ B0.out HA.out hn).mono ?_
  rintro e W1 ⟨gc, cc, cur, rfl, hcc, hC, hRm, hgc, hB⟩
  have s1 : w.heap.size + 1 ≤ W1.heap.size := by have := hB.size; have := S0.out; omega
  have hgc1 : gc < W1.heap.size := hC.lt
  have hgc0 : w.heap.size + 1 ≤ gc := by have := S0.out; omega
  have HRM := Lib.hid hRm
  clear hgc
  have B1 := Lib.hid (B0.out.next hB)
  clear B0
  have V1 := Lib.hid (V0.out.next hB)
  clear V0
  have P1 := Lib.hid (P0.out.next hB)
  clear P0
  have BW1 := Lib.hid (below_next BW0.out hB)
  clear BW0 hB
  have C1 := Lib.hid (hC)
  clear hC hRm
  go_wp2_with fail
  refine (seal_any (some ⟨gc, 0, none⟩) n cc zs _ (HRM.out.ints HL1.out C1.out) (fun e => by cases e) hn HZ.out).mono ?_
  rintro e W2 ⟨A2, c2, rfl, hown, hB⟩
  have s2 := hB.size
  have ra := fun k (hk : (Value.slice A2 (n + 4) c2).ownBlock = some k) => hown.lt k hk
  have B2 := Lib.hid (B1.out.next hB)
  clear B1
  have V2 := Lib.hid (V1.out.next hB)
  clear V1
  have P2 := Lib.hid (P1.out.next hB)
  clear P1
  have C2 := Lib.hid (C1.out.next hB)
  clear C1
  have BW2 := Lib.hid (below_next BW1.out hB)
  clear BW1 hB
  have S1 := Lib.hid (hown)
  clear hown
  go_wp2_with fail
  refine (open_own (some ⟨gc, 0, none⟩) n cc zs _ (HRM.out.ints HL1.out C2.out) (fun e => by cases e) (by omega) (by omega) HZ.out).mono ?_
  rintro e W3 ⟨A3, m3, c3, o3, rfl, ⟨x3, hown⟩, hm3, hB⟩
  have s3 := hB.size
  have rb := fun k (hk : (Value.slice A3 m3 c3).ownBlock = some k) => hown.lt k hk
  have B3 := Lib.hid (B2.out.next hB)
  clear B2
  have V3 := Lib.hid (V2.out.next hB)
  clear V2
  have P3 := Lib.hid (P2.out.next hB)
  clear P2
  have C3 := Lib.hid (C2.out.next hB)
  clear C2
  have S2 := Lib.hid (own_below S1.out hB (fun g hg => (S1.out.lt g hg).2))
  clear S1
  have BW3 := Lib.hid (below_next BW2.out hB)
  clear BW2 hB
  have O1 := Lib.hid (hown)
  clear hown
  go_wp2_with fail
  refine (dec_own (some ⟨gc, 0, none⟩) n cc zs _ (HRM.out.ints HL1.out C3.out) (by omega) (by omega) HZ.out).mono ?_
  rintro e W4 ⟨k4, f4, r4, A4, m4, c4, er4, rfl, ⟨x4, hown⟩, hm4, hB⟩
  have s4 := hB.size
  have rc := fun k (hk : (Value.slice A4 m4 c4).ownBlock = some k) => hown.lt k hk
  have B4 := Lib.hid ((B3.out.next hB).alloc (.cells #[.int .i64 k4, .int .i64 f4, .int .i64 r4, .slice A4 m4 c4] 57))
  clear B3
  have V4 := Lib.hid ((V3.out.next hB).alloc (.cells #[.int .i64 k4, .int .i64 f4, .int .i64 r4, .slice A4 m4 c4] 57))
  clear V3
  have P4 := Lib.hid ((P3.out.next hB).alloc (.cells #[.int .i64 k4, .int .i64 f4, .int .i64 r4, .slice A4 m4 c4] 57))
  clear P3
  have C4 := Lib.hid ((C3.out.next hB).alloc (.cells #[.int .i64 k4, .int .i64 f4, .int .i64 r4, .slice A4 m4 c4] 57))
  clear C3
  have S3 := Lib.hid ((own_below S2.out hB (fun g hg => (S2.out.lt g hg).2)).alloc (.cells #[.int .i64 k4, .int .i64 f4, .int .i64 r4, .slice A4 m4 c4] 57))
  clear S2
  have O2 := Lib.hid ((own_below O1.out hB (fun g hg => (O1.out.lt g hg).2)).alloc (.cells #[.int .i64 k4, .int .i64 f4, .int .i64 r4, .slice A4 m4 c4] 57))
  clear O1
  have BW4 := Lib.hid ((below_next BW3.out hB).alloc (below_next BW3.out hB).size (.cells #[.int .i64 k4, .int .i64 f4, .int .i64 r4, .slice A4 m4 c4] 57))
  clear BW3 hB
  have E1 := Lib.hid (hown.alloc (.cells #[.int .i64 k4, .int .i64 f4, .int .i64 r4, .slice A4 m4 c4] 57))
  have D1 := Lib.hid (Blk.new W4 57 #[.int .i64 k4, .int .i64 f4, .int .i64 r4, .slice A4 m4 c4])
  clear hown
  have sX : (W4.alloc (.cells #[.int .i64 k4, .int .i64 f4, .int .i64 r4, .slice A4 m4 c4] 57)).heap.size = W4.heap.size + 1 := by simp
  have SX := Lib.hid sX
  clear sX
  go_wp2_with fail
  go_loopw [11] (fun iv W => WrRel (W4.alloc (.cells #[.int .i64 k4, .int .i64 f4, .int .i64 r4, .slice A4 m4 c4] 57)) 5 W1.heap.size (n + 4) (.slice A2 (n + 4) c2) iv W) (fun iv _ => (n + 4) - (intOf iv).toNat)
  case atStart => exact WrRel.start (S3.out)
  case round =>
    obtain ⟨i, hin, rfl, ⟨xs, hown⟩, hG⟩ := hrel
    obtain ⟨Y1, rfl⟩ : ∃ W : World, W = wr := ⟨_, rfl⟩
    have HO := Lib.hid hown
    have HG := Lib.hid hG
    clear hown hG
    by_cases hlt : i < (n + 4)
    · obtain ⟨g, e0, hg, hgl⟩ := (own_parts HO.out).2.2 (by omega)
      subst e0
      obtain ⟨u, d0⟩ := own_cell HO.out hlt
      have f0 : Y1.frozen? ⟨g, i, none⟩ = false := own_frozen HO.out i
      have z1 : (0 : Int) ≤ (i : Int) := by omega
      have z2 : (i : Int) < (n : Int) + 4 := by omega
      go_wp2_with fail
      go_roundw
      case rel => exact ⟨i + 1, by omega, by go_num, ⟨_, own_set_in HO.out hlt _⟩, grown_trans HG.out (grown_set _ _ _ _)⟩
      case measure => simp [intOf]; omega
    · obtain rfl : (n + 4) = i := by omega
      clear hlt
      have SA1 : Hid (Same (W4.alloc (.cells #[.int .i64 k4, .int .i64 f4, .int .i64 r4, .slice A4 m4 c4] 57)) (InOwn [.slice A2 (n + 4) c2]) Y1) := Lib.hid ((Same.refl _ _).grown HG.out (fun k hk _ => .inl hk))
      clear HG HO
      have ia : ∀ k, InOwn [.slice A2 (n + 4) c2] k → W1.heap.size ≤ k ∧ k < W2.heap.size := by
        intro k h
        rcases h with h | h
        · have := ra k h; omega
        · exact h.elim
      go_wp2_with fail
      have ho := SA1.out.own O2.out (fun k hk hin => by have := ia k hin; have := rb k hk; omega)
      have HOO := Lib.hid ho
      clear ho
      go_loopw [12] (fun iv W => WrRel Y1 5 W2.heap.size m3 (.slice A3 m3 c3) iv W) (fun iv _ => m3 - (intOf iv).toNat)
      case atStart => exact WrRel.start (HOO.out)
      case round =>
        obtain ⟨i, hin, rfl, ⟨xs, hown⟩, hG⟩ := hrel
        obtain ⟨Y2, rfl⟩ : ∃ W : World, W = wr := ⟨_, rfl⟩
        have HO := Lib.hid hown
        have HG := Lib.hid hG
        clear hown hG
        by_cases hlt : i < m3
        · obtain ⟨g, e0, hg, hgl⟩ := (own_parts HO.out).2.2 (by omega)
          subst e0
          obtain ⟨u, d0⟩ := own_cell HO.out hlt
          have f0 : Y2.frozen? ⟨g, i, none⟩ = false := own_frozen HO.out i
          have z1 : (0 : Int) ≤ (i : Int) := by omega
          have z2 : (i : Int) < (m3 : Int) := by omega
          go_wp2_with fail
          go_roundw
          case rel => exact ⟨i + 1, by omega, by go_num, ⟨_, own_set_in HO.out hlt _⟩, grown_trans HG.out (grown_set _ _ _ _)⟩
          case measure => simp [intOf]; omega
        · obtain rfl : m3 = i := by omega
          clear hlt
          have SA2 : Hid (Same (W4.alloc (.cells #[.int .i64 k4, .int .i64 f4, .int .i64 r4, .slice A4 m4 c4] 57)) (InOwn [.slice A3 m3 c3, .slice A2 (n + 4) c2]) Y2) := Lib.hid ((SA1.out.mono (fun k hk => .inr hk)).grown HG.out (fun k hk _ => .inl hk))
          clear HG HO HOO SA1
          have ib : ∀ k, InOwn [.slice A3 m3 c3, .slice A2 (n + 4) c2] k → W1.heap.size ≤ k ∧ k < W3.heap.size := by
            intro k h
            rcases h with h | h
            · have := rb k h; omega
            · have := ia k h; omega
          have e3 := (SA2.out.blk D1.out (fun hin => by have := ib _ hin; omega)).cell 3
          simp only [List.getElem?_toArray, List.getElem?_cons_zero, List.getElem?_cons_succ] at e3
          go_wp2_with fail
          refine (scribble_own _ (SA2.out.own E1.out (fun k hk hin => by have := ib k hin; have := rc k hk; omega)) (by omega)).mono ?_
          rintro e Y3 ⟨rfl, hG⟩
          clear e3
          have SA3 : Hid (Same (W4.alloc (.cells #[.int .i64 k4, .int .i64 f4, .int .i64 r4, .slice A4 m4 c4] 57)) (InOwn [.slice A4 m4 c4, .slice A3 m3 c3, .slice A2 (n + 4) c2]) Y3) := Lib.hid ((SA2.out.mono (fun k hk => .inr hk)).grown hG (fun k hk _ => .inl hk))
          clear hG SA2
          have ic : ∀ k, InOwn [.slice A4 m4 c4, .slice A3 m3 c3, .slice A2 (n + 4) c2] k → W1.heap.size ≤ k ∧ k < W4.heap.size := by
            intro k h
            rcases h with h | h
            · have := rc k h; omega
            · have := ib k h; omega
          have iw : ∀ k, k < W1.heap.size → ¬ InOwn [.slice A4 m4 c4, .slice A3 m3 c3, .slice A2 (n + 4) c2] k := fun k hk hin => by have := ic k hin; omega
          have hsY : W4.heap.size + 1 ≤ Y3.heap.size := by have := SA3.out.2.2.2.1; have := SX.out; omega
          have By := Lib.hid (SA3.out.ints B4.out (fun ad e hn => iw _ (by have := HALT.out ad e hn; omega)))
          have Vy := Lib.hid (SA3.out.ints V4.out (fun ad e hn => iw _ (by have := HBLT.out ad e hn; omega)))
          have Py := Lib.hid (SA3.out.blk P4.out (iw _ (by omega)))
          have Cy := Lib.hid (SA3.out.blk C4.out (iw _ hgc1))
          have BWy := Lib.hid (SA3.out.below BW4.out (by have := BW4.out.size; exact this) (fun k hk => by have := ic k hk; omega))
          clear SA3 B4 V4 P4 C4 BW4 S3 O2 E1 D1
          have p0 := (Py.out).cell 0
          have p1 := (Py.out).cell 1
          have p2 := (Py.out).cell 2
          have p3 := (Py.out).cell 3
          simp only [List.getElem?_toArray, List.getElem?_cons_zero, List.getElem?_cons_succ] at p0 p1 p2 p3
          have B1 := Lib.hid (By.out.alloc (.cells #[.int .i64 k, .int .i64 f, .int .i64 r, .slice Am nm cm] 57))
          have V1 := Lib.hid (Vy.out.alloc (.cells #[.int .i64 k, .int .i64 f, .int .i64 r, .slice Am nm cm] 57))
          have P1 := Lib.hid (Py.out.alloc (.cells #[.int .i64 k, .int .i64 f, .int .i64 r, .slice Am nm cm] 57))
          have C1 := Lib.hid (Cy.out.alloc (.cells #[.int .i64 k, .int .i64 f, .int .i64 r, .slice Am nm cm] 57))
          have BW1 := Lib.hid (BWy.out.alloc BWy.out.size (.cells #[.int .i64 k, .int .i64 f, .int .i64 r, .slice Am nm cm] 57))
          have N1 := Lib.hid (Blk.new Y3 57 #[.int .i64 k, .int .i64 f, .int .i64 r, .slice Am nm cm])
          have sN : (Y3.alloc (.cells #[.int .i64 k, .int .i64 f, .int .i64 r, .slice Am nm cm] 57)).heap.size = Y3.heap.size + 1 := by simp
          have SN := Lib.hid sN
          clear sN By Vy Py Cy BWy
          clear p0 p1 p2 p3
          have q3 := P1.out.cell 3
          have Pz : Hid (∀ j, (Y3.cell? ⟨w.heap.size, j, none⟩ = (#[Value.int .i64 k, .int .i64 f, .int .i64 r, .slice Am nm cm])[j]?)) := Lib.hid (fun j => ((((Below.refl Y3.heap.size Y3).alloc (Nat.le_refl _) (.cells #[.int .i64 k, .int .i64 f, .int .i64 r, .slice Am nm cm] 57)).cell (p := ⟨w.heap.size, j, none⟩) (by simp; omega)).symm.trans (P1.out.cell j)))
          have p0 := Pz.out 0
          have p1 := Pz.out 1
          have p2 := Pz.out 2
          have p3 := Pz.out 3
          simp only [List.getElem?_toArray, List.getElem?_cons_zero, List.getElem?_cons_succ] at p0 p1 p2 p3 q3
          clear Pz
          go_wp2_with fail
          refine (roomy_any Am nm cm vs _ V1.out hnm).mono ?_
          rintro e W8 ⟨rfl, hQ, hB⟩
          clear p0 p1 p2 p3 q3
          have s8 : Y3.heap.size + 1 ≤ W8.heap.size := by have := hB.size; have := SN.out; omega
          have B2 := Lib.hid (B1.out.next hB)
          clear B1
          have V2 := Lib.hid (V1.out.next hB)
          clear V1
          have P2 := Lib.hid (P1.out.next hB)
          clear P1
          have C2 := Lib.hid (C1.out.next hB)
          clear C1
          have N2 := Lib.hid (N1.out.next hB)
          clear N1
          have BW2 := Lib.hid (below_next BW1.out hB)
          clear BW1 hB
          have Q1 := Lib.hid hQ
          clear hQ
          rw [SN.out] at Q1
          have hQlt : Y3.heap.size + 1 < W8.heap.size := Q1.out.lt
          have hqN : Y3.heap.size + 1 ≠ Y3.heap.size := by omega
          have SB0 : Hid (Same W8 (fun k => k = Y3.heap.size) (W8.setCell ⟨Y3.heap.size, 3, none⟩ (.slice (some ⟨Y3.heap.size + 1, 0, none⟩) nm (nm + 2)))) := Lib.hid ((Same.refl _ _).grown (grown_set _ _ _ _) (fun k e _ => by simpa using e.symm))
          have B9 := Lib.hid (SB0.out.ints B2.out (fun ad e hn h => by have := HALT.out ad e hn; omega))
          have V9 := Lib.hid (SB0.out.ints V2.out (fun ad e hn h => by have := HBLT.out ad e hn; omega))
          have P9 := Lib.hid (SB0.out.blk P2.out (by omega))
          have C9 := Lib.hid (SB0.out.blk C2.out (by omega))
          have Q9 := Lib.hid (SB0.out.blk Q1.out hqN)
          have N9 : Hid (Blk (W8.setCell ⟨Y3.heap.size, 3, none⟩ (.slice (some ⟨Y3.heap.size + 1, 0, none⟩) nm (nm + 2))) Y3.heap.size 57 #[.int .i64 k, .int .i64 f, .int .i64 r, .slice (some ⟨Y3.heap.size + 1, 0, none⟩) nm (nm + 2)]) := Lib.hid (N2.out.set_ 3 _)
          have BW9 := Lib.hid (BW2.out.setCell (p := ⟨Y3.heap.size, 3, none⟩) (show w.heap.size ≤ Y3.heap.size by omega) (.slice (some ⟨Y3.heap.size + 1, 0, none⟩) nm (nm + 2)))
          have fN := N2.out.frozen 3
          have cN0 := (N2.out).cell 0
          have cN1 := (N2.out).cell 1
          have cN2 := (N2.out).cell 2
          have cN3 := (N2.out).cell 3
          simp only [List.getElem?_toArray, List.getElem?_cons_zero, List.getElem?_cons_succ] at cN0 cN1 cN2 cN3
          have s9 : (W8.setCell ⟨Y3.heap.size, 3, none⟩ (.slice (some ⟨Y3.heap.size + 1, 0, none⟩) nm (nm + 2))).heap.size = W8.heap.size := by simp [World.setCell]
          have S9 := Lib.hid s9
          clear s9
          clear B2 V2 P2 C2 N2 BW2 Q1
          go_wp2_with fail
          refine (enc_own k f r (some ⟨Y3.heap.size + 1, 0, none⟩) nm (nm + 2) vs _ (room_ints HL2.out Q9.out) HV.out (by omega)).mono ?_
          rintro e W9 ⟨A9, m9, c9, rfl, ⟨x9, hown⟩, hm9, hB⟩
          have s9 : W8.heap.size ≤ W9.heap.size := by have := hB.size; have := S9.out; omega
          have rx := fun k (hk : (Value.slice A9 m9 c9).ownBlock = some k) => hown.lt k hk
          rw [S9.out] at rx
          clear fN cN0 cN1 cN2 cN3 SB0
          have B10 := Lib.hid (B9.out.next hB)
          clear B9
          have V10 := Lib.hid (V9.out.next hB)
          clear V9
          have P10 := Lib.hid (P9.out.next hB)
          clear P9
          have C10 := Lib.hid (C9.out.next hB)
          clear C9
          have N10 := Lib.hid (N9.out.next hB)
          clear N9
          have Q10 := Lib.hid (Q9.out.next hB)
          clear Q9
          have BW10 := Lib.hid (below_next BW9.out hB)
          clear BW9 hB
          have Xx1 := Lib.hid (hown)
          clear hown
          have n0 := (N10.out).cell 0
          have n1 := (N10.out).cell 1
          have n2 := (N10.out).cell 2
          have n3 := (N10.out).cell 3
          simp only [List.getElem?_toArray, List.getElem?_cons_zero, List.getElem?_cons_succ] at n0 n1 n2 n3
          go_wp2_with fail
          refine (enc_own k f r (some ⟨Y3.heap.size + 1, 0, none⟩) nm (nm + 2) vs _ (room_ints HL2.out Q10.out) HV.out (by omega)).mono ?_
          rintro e W10 ⟨A10, m10, c10, rfl, ⟨y10, hown⟩, hm10, hB⟩
          have s10 := hB.size
          have ry := fun k (hk : (Value.slice A10 m10 c10).ownBlock = some k) => hown.lt k hk
          clear n0 n1 n2 n3
          have B11 := Lib.hid (B10.out.next hB)
          clear B10
          have V11 := Lib.hid (V10.out.next hB)
          clear V10
          have P11 := Lib.hid (P10.out.next hB)
          clear P10
          have C11 := Lib.hid (C10.out.next hB)
          clear C10
          have N11 := Lib.hid (N10.out.next hB)
          clear N10
          have Q11 := Lib.hid (Q10.out.next hB)
          clear Q10
          have Xx2 := Lib.hid (own_below Xx1.out hB (fun g hg => (Xx1.out.lt g hg).2))
          clear Xx1
          have BW11 := Lib.hid (below_next BW10.out hB)
          clear BW10 hB
          have Yy1 := Lib.hid (hown)
          clear hown
          have cv := conv_ints (P := Try.prog) (dst := 9) Try.underlying58 Try.underlying5 Try.underlying9 (Ints.own Yy1.out) (own_none Yy1.out).1
          generalize hST : strOfNums y10 = st at *
          have HST := Lib.hid hST
          clear hST
          go_wp2_with fail
          clear cv
          go_loopw [19] (fun iv W => WrRel W10 5 W8.heap.size m9 (.slice A9 m9 c9) iv W) (fun iv _ => m9 - (intOf iv).toNat)
          case atStart => exact WrRel.start (own_le Xx2.out (Nat.le_of_eq S9.out.symm))
          case round =>
            obtain ⟨i, hin, rfl, ⟨xs, hown⟩, hG⟩ := hrel
            obtain ⟨Y4, rfl⟩ : ∃ W : World, W = wr := ⟨_, rfl⟩
            have HO := Lib.hid hown
            have HG := Lib.hid hG
            clear hown hG
            by_cases hlt : i < m9
            · obtain ⟨g, e0, hg, hgl⟩ := (own_parts HO.out).2.2 (by omega)
              subst e0
              obtain ⟨u, d0⟩ := own_cell HO.out hlt
              have f0 : Y4.frozen? ⟨g, i, none⟩ = false := own_frozen HO.out i
              have z1 : (0 : Int) ≤ (i : Int) := by omega
              have z2 : (i : Int) < (m9 : Int) := by omega
              go_wp2_with fail
              go_roundw
              case rel => exact ⟨i + 1, by omega, by go_num, ⟨_, own_set_in HO.out hlt _⟩, grown_trans HG.out (grown_set _ _ _ _)⟩
              case measure => simp [intOf]; omega
            · obtain rfl : m9 = i := by omega
              clear hlt
              have SB1 : Hid (Same W10 (InOwn [.slice A9 m9 c9]) Y4) := Lib.hid ((Same.refl _ _).grown HG.out (fun k hk _ => .inl hk))
              have ix : ∀ k, InOwn [.slice A9 m9 c9] k → W8.heap.size ≤ k ∧ k < W9.heap.size := by
                intro k h
                rcases h with h | h
                · have := rx k h; omega
                · exact h.elim
              have hs4 := SB1.out.2.2.2.1
              go_wp2_with (at_builtin; refine wpList_append_own_at _ rfl (.tmp 81) (.tmp 82) 58 rfl W8.heap.size 5 i0 (.int .u8 0) 1 1 Try.underlying58 hi hz0 hz1 hz2 rfl (by decide) (.slice A9 m9 c9) m9 _ rfl (HO.out.alloc _) ⟨Y4.heap.size, 0, none⟩ 2 2 [.int .u8 55, .int .u8 55] rfl rfl (World.news_of_block (Blk.new Y4 5 #[.int .u8 55, .int .u8 55])) (by intro u hu; simp at hu; rcases hu with rfl | rfl <;> rfl) (by unfold maxLen; omega) (by omega) (by simp; omega) ?_; intro v5 Y5 hown5 hg5 _ hat5; (obtain ⟨g5, c5, rfl, hg5b, hg5l, _⟩ := own_form hown5 (by omega)); (obtain ⟨u5, d5⟩ := own_cell hown5 (i := 0) (by omega)); have f5 := own_frozen hown5 0; have HG5 := Lib.hid hg5; have HAT5 := Lib.hid hat5; clear hown5 hg5 hat5)
              have SB2 : Hid (Same W10 (InOwn [.slice A9 m9 c9]) (Y5.setCell ⟨g5, 0, none⟩ (.int .u8 54))) := Lib.hid (((SB1.out.alloc _).grown HG5.out (fun k hk _ => .inl hk)).grown (grown_set _ _ _ _) (fun k e hk => by
                rcases HAT5.out with h | h
                · exact .inl (h.symm.trans e)
                · have h2 := h.symm.trans e; simp at h2; omega))
              clear HG HO HG5 HAT5 SB1
              refine (tells_any _).mono ?_
              rintro e Z1 ⟨rfl, hB⟩
              have T1 := Lib.hid (SB2.out.next hB)
              clear SB2 hB d5 f5
              go_wp2_with fail
              refine (sums_any _).mono ?_
              rintro e Z2 ⟨rfl, hB⟩
              have T2 := Lib.hid (T1.out.next hB)
              clear T1 hB
              have iy : ∀ k, k < W8.heap.size ∨ W9.heap.size ≤ k → ¬ InOwn [.slice A9 m9 c9] k := fun k hk hin => by have := ix k hin; omega
              go_wp2_with fail
              refine (stayedBytes_any A gc n c cc zs cur _ (T2.out.blk C11.out (iy _ (by omega))) HRM.out hcc (T2.out.ints B11.out (fun ad e hn => iy _ (by have := HALT.out ad e hn; omega))) HA.out (by omega)).mono ?_
              rintro e Z3 ⟨rfl, rfl⟩
              have a3 := (T2.out.blk N11.out (iy _ (by omega))).cell 3
              have b3 := (T2.out.blk P11.out (iy _ (by omega))).cell 3
              simp only [List.getElem?_toArray, List.getElem?_cons_zero, List.getElem?_cons_succ] at a3 b3
              go_wp2_with fail
              refine (stayed_any Am (Y3.heap.size + 1) nm cm vs _ (T2.out.blk Q11.out (iy _ (by omega))) (T2.out.ints V11.out (fun ad e hn => iy _ (by have := HBLT.out ad e hn; omega))) (by omega)).mono ?_
              rintro e Z4 ⟨rfl, hB⟩
              have T4 := Lib.hid (T2.out.next hB)
              clear T2 hB a3 b3
              have cv := conv_ints (P := Try.prog) (dst := 9) Try.underlying58 Try.underlying5 Try.underlying9 (Ints.own (T4.out.own Yy1.out (fun k hk => iy k (.inr (by have := ry k hk; omega))))) (own_none Yy1.out).1
              rw [HST.out] at cv
              have hBe := T4.out.below BW11.out (by have := BW11.out.size; exact this) (fun k hk => by have := ix k hk; omega)
              have HBE := Lib.hid hBe
              clear hBe T4
              by_cases her : rightE k f r nm = 0
              · have t1 : (rightE k f r nm != 0) = false := by rw [bne_eq_false_iff_eq]; exact her
                clear her
                generalize rightE k f r nm = er at *
                go_wp2_with fail
                go_ret
                exact ⟨rfl, HBE.out⟩
              · have t1 : (rightE k f r nm != 0) = true := by rw [bne_iff_ne]; exact her
                clear her
                generalize rightE k f r nm = er at *
                go_wp2_with fail
                go_ret
                exact ⟨rfl, HBE.out⟩

set_option maxRecDepth 100000 in
theorem walk {H : Type} {enc : TypeId × Value → H} {d0 d1 : DataW H} {p0 p1 : List MemPlace} (v0 v1 : Value) (W : World) (base : Nat)
    (h0 : Value.okWide Try.prog W .any base 58 v0) (k0 : DataW.Trod enc Try.prog W 0 (fun _ => true) true 58 v0 d0 p0)
    (h1 : Value.okWide Try.prog W .any base 57 v1) (k1 : DataW.Trod enc Try.prog W 0 (fun _ => true) true 57 v1 d1 p1)
    (s0 : ∀ x ∈ d0.weights Try.prog 58, x ≤ reachBytes) (s1 : ∀ x ∈ d1.weights Try.prog 57, x ≤ reachBytes) :
    Calls Try.prog 8 #[v0, v1] W fun e w' => e = .returned (.bool true) ∧ Below W.heap.size W w' := by
  obtain ⟨A, n, c, rfl, hnc, _, hA, _⟩ := ok_slice Try.underlying58 h0
  have hb : Try.prog.bytesOf 5 = 1 := by kernel_rfl
  obtain ⟨zs, hI, hw, _, hr⟩ := ints_in Try.underlying58 Try.underlying5 (by kernel_rfl) k0 (fun es sp he => s0 _ (by rw [he]; simp [DataW.weights, Try.underlying58]))
  rw [hb] at hr
  obtain ⟨K, F, R, B, m, d, vs, rfl, hJ, hv, _, _, hm, _⟩ := msg_in h1 k1 s1
  exact walk1 A n c zs K F R B m d vs W hI hA (by unfold reachBytes at hr; omega) (fun z hz => bounds_u8 (hw z hz)) hJ hv (by omega)
end Go.Proofs.Ytccebaadpjflkaa.lawWireMemory
