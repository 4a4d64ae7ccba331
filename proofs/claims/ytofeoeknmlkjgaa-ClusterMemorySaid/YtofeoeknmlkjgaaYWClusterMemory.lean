/- WClusterMemory, over merged texts. -/
import Derived.Test.YtofeoeknmlkjgaaZ04
import Derived.Test.YtofeoeknmlkjgaaZ25
import Derived.Test.YtofeoeknmlkjgaaZ48
set_option linter.unusedVariables false
set_option linter.unusedSimpArgs false
section
/- The walk of ClusterMemory. -/
set_option linter.unusedVariables false
namespace Go.Proofs.Ytofeoeknmlkjgaa.Nk
open Go.RowKit Go.Proofs.Ytofeoeknmlkjgaa Mb Fi Sm

set_option maxRecDepth 100000 in
set_option maxHeartbeats 8000000 in
theorem clmem_walk (t : Tu) (ht : t.In) (A : Option Addr) (m c : Nat) (L : List Inp) (w : World) (h : IR w A m c L) (hbd : ∀ u ∈ L, u.Bd) (hm : m ≤ 17592186044416) :
    Calls Try.prog 7 #[t.val, .slice A m c] w fun e w' => e = .returned (.bool true) ∧ Below w.heap.size w w' := by
  obtain ⟨i0, hi0, hz0, hz1, hz2⟩ := info_parts infoBoolC
  obtain ⟨k0, hk0, kz0, kz1, kz2⟩ := info_parts infoLie
  have KS := Lib.hid (fun W => crun_nil t W)
  have hT0 : TB (w.alloc (.cells #[.int .i64 t.dt, .int .i64 t.q, .int .i64 t.r, .int .i64 t.g] 23)) w.heap.size t := Blk.new _ _ _
  have hB0 : Below w.heap.size w (w.alloc (.cells #[.int .i64 t.dt, .int .i64 t.q, .int .i64 t.r, .int .i64 t.g] 23)) := (Below.refl _ _).alloc (Nat.le_refl _) _
  have HT0 := Lib.hid hT0
  have HB0 := Lib.hid hB0
  have HI := Lib.hid (h.next hB0)
  have HBD := Lib.hid hbd
  have HT := Lib.hid ht
  have hlm := h.1
  clear hT0 hB0 h hbd ht
  unfold Tu.val at KS
  unfold Tu.val
  go_enter Try.func7, Try.ntmps7
  go_upto_region 1 with fail
  generalize (w.alloc (.cells #[.int .i64 t.dt, .int .i64 t.q, .int .i64 t.r, .int .i64 t.g] 23)) = w1 at *
  obtain ⟨t0, t1, t2, t3⟩ := TB.c HT0.out
  have hzs : (Try.zeroCells48).size = 297 := by rw [zeroCl, CA_size]
  have HZS := Lib.hid hzs
  clear hzs
  go_upto_region 2 with (first
    | (go_at_call 25; (with_reducible refine (KS.out _).mono ?_); rintro e w2 ⟨rfl, hb2⟩; have HB2 := Lib.hid hb2; clear hb2)
    | (refine wpList_store_at 48 (.tmp 5) (.tmp 26) rfl rfl w2.heap.size _ _ (CA (begC t)) rfl rfl (Blk.new _ _ _) (by rw [CA_size, HZS.out]) (by rw [CA_size]; exact infoCl) (CA_one (fun i hi => rfl)) ?_; intro w3 hN3 hg3; have HN3 : Hid (CB w3 w2.heap.size (begC t)) := hN3; have HG3 := Lib.hid hg3; clear hN3 hg3))
  have hb3 : Below w2.heap.size w2 w3 := ((Below.refl w2.heap.size w2).alloc (Nat.le_refl _) _).grown HG3.out (by simp) (fun j hj => by cases hj; exact Nat.le_refl _)
  have hf3 : FlX w3 w2.heap.size (begC t).va (fun _ => 0) := fun i hi => ⟨⟨[], World.ownsRow_nil _ _ _ _⟩, Nat.zero_le _⟩
  have HB3 := Lib.hid hb3
  have HF3 := Lib.hid hf3
  have HB12 := Lib.hid (HB0.out.trans (HB2.out.mono HB0.out.size))
  have HIR := Lib.hid (HI.out.next HB2.out)
  have k3 : w3.cell? ⟨w2.heap.size, 223, none⟩ = some (.int .i64 3) := HN3.out.at_ (k := 223) (by decide)
  clear HG3 hb3 hf3 HB2 HT0 HB0 HI t0 t1 t2 t3 KS
  obtain ⟨gc, hgc⟩ : ∃ gc, gc = w2.heap.size := ⟨_, rfl⟩
  rw [← hgc] at HN3 k3 ⊢
  have hgc2 : w2.heap.size ≤ gc := by omega
  clear hgc
  go_wp2_with (first | go_big_skip)
  clear k3
  go_loopw [8] (fun iv wr => CmRel w2 gc m iv wr) (fun iv _ => 6 - (intOf iv).toNat)
  case atStart => exact ⟨0, begC t, fun _ => 0, rfl, Nat.zero_le _, by omega, HN3.out, HF3.out, begC_ok t HT.out, Int.le_refl _, Int.le_refl _, HB3.out⟩
  case round =>
    clear HN3 HF3 HB3
    obtain ⟨i, x, ns, rfl, him, hi6, hC, hF, hok, hf0, hf1, hB⟩ := hrel
    obtain ⟨wb, hren⟩ : ∃ wb, wb = wr := ⟨_, rfl⟩
    subst hren
    have HBb := Lib.hid hB
    have HCb := Lib.hid hC
    have HFb := Lib.hid hF
    have HOK := Lib.hid hok
    clear hC hF hok hB
    by_cases hil : i < m
    · have q0 : (i : Int) < (m : Int) := by omega
      have qq : (0 : Int) ≤ (i : Int) := by omega
      by_cases hi3 : i < 6
      · have q1 : (i : Int) < 6 := by omega
        obtain ⟨b, off, u, rfl, hlt, hu, hok, hra⟩ := (HIR.out.next HBb.out).row hil
        have hbu := HBD.out u (List.mem_of_getElem? hu)
        have HU := Lib.hid hok
        have HBU := Lib.hid hbu
        have HRA := Lib.hid (fun W (h : Below wb.heap.size wb W) => (range_next hra hlt h : W.rangeAt b (off + i * 14) (IA u.y).toList))
        clear hu hok hra hbu
        go_upto_region 8 with (first | go_big_skip)
        have hI4 : IB (wb.alloc (.cells #[.int .i64 0, .int .i64 0, .int .i64 0, .int .i64 0, .int .i64 0, .int .i64 0, .int .i64 0, .int .i64 0, .int .i64 0, .int .i64 0, .int .i64 0, .int .i64 0, .int .i64 0, .slice none 0 0] 51)) wb.heap.size ⟨0, fun _ => 0, .slice none 0 0⟩ := by rw [zeroIn]; exact Blk.new _ _ _
        have hb4 : Below wb.heap.size wb (wb.alloc (.cells #[.int .i64 0, .int .i64 0, .int .i64 0, .int .i64 0, .int .i64 0, .int .i64 0, .int .i64 0, .int .i64 0, .int .i64 0, .int .i64 0, .int .i64 0, .int .i64 0, .int .i64 0, .slice none 0 0] 51)) := (Below.refl _ _).alloc (Nat.le_refl _) _
        generalize (wb.alloc (.cells #[.int .i64 0, .int .i64 0, .int .i64 0, .int .i64 0, .int .i64 0, .int .i64 0, .int .i64 0, .int .i64 0, .int .i64 0, .int .i64 0, .int .i64 0, .int .i64 0, .int .i64 0, .slice none 0 0] 51)) = w4 at *
        have HI4 := Lib.hid hI4
        have HB4 := Lib.hid hb4
        clear hI4 hb4
        refine wp_region_G 13 (fun w' => w'.rangeAt b (off + i * 14) (IA u.y).toList) (by kernel_rfl) (HRA.out _ HB4.out.drew) (fun hS => ?_)
        refine wpG 0 ?_ rfl (by kernel_rfl) (fun _ _ _ h => h) (by rfl) (fun wx => ?_) hS ?_
        rotate_left
        · go_simp; (try with_reducible rfl)
        try simp only [pts]
        refine wpG 1 ?_ rfl (by kernel_rfl) (fun _ _ _ h => h) (by rfl) (fun wx => ?_) hS ?_
        rotate_left
        · go_simp; (try with_reducible rfl)
        try simp only [pts]
        refine wpG 2 ?_ rfl (by kernel_rfl) (fun _ _ _ h => h) (by rfl) (fun wx => ?_) hS ?_
        rotate_left
        · go_simp; (try with_reducible rfl)
        try simp only [pts]
        refine wpG 3 ?_ rfl (by kernel_rfl) (fun _ _ _ h => h) (by rfl) (fun wx => ?_) hS ?_
        rotate_left
        · go_simp; (try with_reducible rfl)
        try simp only [pts]
        refine wpT 4 (.agg (rdA u.rd)) rfl (by kernel_rfl) (fun _ _ _ h => h) (Or.inl ⟨by rfl, fun wx hSw => (exec_load_mid 40 (.tmp 51) rfl b (off + i * 14) rfl _ _ (rowRd hSw) Try.underlying40 rfl (by rw [Array.length_toList, rdA_size]; exact infoRd)).trans (by rw [Array.toArray_toList]; rfl)⟩) hS ?_
        try simp only [pts]
        refine wpG 5 ?_ rfl (by kernel_rfl) (fun _ _ _ h => h) (by rfl) (fun wx => ?_) hS ?_
        rotate_left
        · go_simp; (try with_reducible rfl)
        try simp only [pts]
        refine wpG 6 ?_ rfl (by kernel_rfl) (fun _ _ _ h => h) (by rfl) (fun wx => ?_) hS ?_
        rotate_left
        · go_simp; (try with_reducible rfl)
        try simp only [pts]
        refine wpG 7 ?_ rfl (by kernel_rfl) (fun _ _ _ h => h) (by rfl) (fun wx => ?_) hS ?_
        rotate_left
        · go_simp; (try with_reducible rfl)
        try simp only [pts]
        refine wpG 8 ?_ rfl (by kernel_rfl) (fun _ _ _ h => h) (by rfl) (fun wx => ?_) hS ?_
        rotate_left
        · go_simp; (try with_reducible rfl)
        try simp only [pts]
        refine wpT 9 ?_ rfl (by kernel_rfl) (fun _ _ _ h => h) (Or.inl ⟨by rfl, fun wx hSw => ?_⟩) hS ?_
        rotate_left
        · have hq := (show wx.cell? ⟨b, off + i * 14 + 12, none⟩ = some (.int .i64 u.bad) from rowBad hSw); (try dsimp only at hSw); go_simp; (try with_reducible rfl)
        try simp only [pts]
        refine wpG 10 ?_ rfl (by kernel_rfl) (fun _ _ _ h => h) (by rfl) (fun wx => ?_) hS ?_
        rotate_left
        · go_simp; (try with_reducible rfl)
        try simp only [pts]
        refine wpAnyG_one (i := 11) rfl (by kernel_rfl) (fun K hK => ?_)
        have hI4 : IB w4.drew wb.heap.size ⟨0, fun _ => 0, .slice none 0 0⟩ := HI4.out.next (Below.refl _ _).drew
        refine wp_store_mid 40 (.tmp 58) (.tmp 52) rfl wb.heap.size 0 (rdA u.rd) rfl rfl (hI4.thereR (by rw [rdA_size]; decide)) (by rw [rdA_size]; exact infoRd) (rdA_one _) ?_
        have hI5 : IB (w4.drew.setCells wb.heap.size 0 (rdA u.rd).toList) wb.heap.size ⟨0, u.rd, .slice none 0 0⟩ := hI4.setRd u.rd
        have hb5 : Below wb.heap.size wb (w4.drew.setCells wb.heap.size 0 (rdA u.rd).toList) := (HB4.out.drew).grown (grown_setCells _ _ _ _) HB4.out.size (fun j hj => by cases hj; exact Nat.le_refl _)
        have hS5 := HRA.out _ hb5
        generalize w4.drew.setCells wb.heap.size 0 (rdA u.rd).toList = w5 at *
        refine hK.out _ _ hS5 ?_
        clear hK K hS
        have hS := hS5
        clear hS5 hI4
        have HI5 := Lib.hid hI5
        have HB5 := Lib.hid hb5
        clear hI5 hb5
        try simp only [pts]
        refine wpG 12 ?_ rfl (by kernel_rfl) (fun _ _ _ h => h) (by rfl) (fun wx => ?_) hS ?_
        rotate_left
        · go_simp; (try with_reducible rfl)
        try simp only [pts]
        refine wpAnyG_last rfl (by kernel_rfl) (by kernel_rfl) (by kernel_rfl) (fun K hK => ?_)
        have f12 := Blk.frozen HI5.out 12
        have c12 := HI5.out.bad
        go_simp
        refine hK.out _ _ ?_
        clear hK K
        try simp only [pts]
        have hI6 : IB (w5.setCell ⟨wb.heap.size, 12, none⟩ (.int .i64 u.bad)) wb.heap.size ⟨u.bad, u.rd, .slice none 0 0⟩ := HI5.out.setBad u.bad
        have hb6 : Below wb.heap.size wb (w5.setCell ⟨wb.heap.size, 12, none⟩ (.int .i64 u.bad)) := HB5.out.setCell (p := ⟨wb.heap.size, 12, none⟩) (Nat.le_refl _) _
        clear f12 c12 hS
        generalize w5.setCell ⟨wb.heap.size, 12, none⟩ (.int .i64 u.bad) = w6 at *
        have HI6 := Lib.hid hI6
        have HB6 := Lib.hid hb6
        clear hI6 hb6 HI4 HB4 HI5 HB5
        obtain ⟨gi, hgi⟩ : ∃ gi, gi = wb.heap.size := ⟨_, rfl⟩
        rw [← hgi] at HI6 ⊢
        have hgi2 : wb.heap.size ≤ gi := by omega
        clear hgi
        go_wp2_with fail
        go_loopw [10] (fun kv wr => LmRel wb gi u.y u.Ls kv wr) (fun kv _ => u.n - (intOf kv).toNat)
        case atStart => exact LmRel.start HI6.out HB6.out
        case round =>
          obtain ⟨k, gs, cs, v, rfl, hk, hIn⟩ := hrel
          obtain ⟨Av, cv, rfl⟩ := own_shape hIn.2.1
          have HIN := Lib.hid hIn
          have hbk := hIn.2.2.2
          clear hIn
          have hln : u.Ls.length = u.n := HU.out.1.1
          rw [hln] at hk
          have d13 : wr.cell? ⟨b, off + i * 14 + 13, none⟩ = some (.slice u.A u.n u.c) := rowLv (HRA.out _ hbk)
          have p0 : (0 : Int) ≤ (k : Int) := by omega
          by_cases hkn : k < u.n
          · obtain ⟨bl, ol, l, hA, hll, hl, hlr, c0, c1, c2⟩ := (HU.out.1.next hbk).row hkn
            have p1 : (k : Int) < (u.n : Int) := by omega
            rw [hA] at d13
            have hlb := HBU.out.2 l (List.mem_of_getElem? hl)
            have hn40 := HBU.out.1
            have HX := Lib.hid hl
            have HXR := Lib.hid hlr
            have HXB := Lib.hid hlb
            clear hl hlr hlb
            go_upto_region 13 with (first | go_big_skip)
            have hG : Blk (wr.alloc (.cells #[.int .i64 l.ph, .int .i64 l.tt, .slice l.A l.n l.c] 80)) wr.heap.size 80 #[.int .i64 l.ph, .int .i64 l.tt, .slice l.A l.n l.c] := Blk.new _ _ _
            have hb5 : Below wr.heap.size wr (wr.alloc (.cells #[.int .i64 l.ph, .int .i64 l.tt, .slice l.A l.n l.c] 80)) := (Below.refl _ _).alloc (Nat.le_refl _) _
            have hs5 : wr.heap.size < (wr.alloc (.cells #[.int .i64 l.ph, .int .i64 l.tt, .slice l.A l.n l.c] 80)).heap.size := by simp
            generalize (wr.alloc (.cells #[.int .i64 l.ph, .int .i64 l.tt, .slice l.A l.n l.c] 80)) = w5 at *
            clear c0 c1 c2 d13
            have c2 : w5.cell? ⟨wr.heap.size, 2, none⟩ = some (.slice l.A l.n l.c) := hG.cell 2
            have KR := Lib.hid (Rb.roomyBytes_any l.A l.n l.c l.zs w5 (HXR.out.next hb5).1 HXB.out.2 HXB.out.1)
            have HG := Lib.hid hG
            have HB5 := Lib.hid hb5
            clear hG hb5
            go_upto_region 14 with (first
              | (go_at_call 26; (with_reducible refine KR.out.mono ?_); rintro e w6' ⟨gr, cr, cur, rfl, hcr, hgr, hro, hge, hb6⟩; have h7 := HG.out.next hb6; have d2 := h7.cell 2; have f2 := h7.frozen 2; have HG7 := Lib.hid h7; have HR6 := Lib.hid hgr; have HRO := Lib.hid hro; have HB6' := Lib.hid hb6; have hs6 := hb6.size; clear h7 hgr hro hb6))
            have hG8 : Blk (w6'.setCell ⟨wr.heap.size, 2, none⟩ (.slice (some ⟨gr, 0, none⟩) l.n cr)) wr.heap.size 80 #[.int .i64 l.ph, .int .i64 l.tt, .slice (some ⟨gr, 0, none⟩) l.n cr] := HG7.out.set_ 2 _
            have hR8 : Blk (w6'.setCell ⟨wr.heap.size, 2, none⟩ (.slice (some ⟨gr, 0, none⟩) l.n cr)) gr 5 cur := HR6.out.grown (grown_set _ _ _ _) (by intro e; have := Option.some.inj e; omega)
            have hb8 : Below wr.heap.size wr (w6'.setCell ⟨wr.heap.size, 2, none⟩ (.slice (some ⟨gr, 0, none⟩) l.n cr)) := (HB5.out.trans (HB6'.out.mono (Nat.le_of_lt hs5))).setCell (p := ⟨wr.heap.size, 2, none⟩) (Nat.le_refl _) _
            clear d2 f2 c2
            generalize (w6'.setCell ⟨wr.heap.size, 2, none⟩ (.slice (some ⟨gr, 0, none⟩) l.n cr)) = w8 at *
            have hs8 := hb8.size
            have hn9 : Blk (w8.alloc (.cells #[.int .i64 l.ph, .int .i64 l.tt, .slice (some ⟨gr, 0, none⟩) l.n cr] 80)) w8.heap.size 80 #[.int .i64 l.ph, .int .i64 l.tt, .slice (some ⟨gr, 0, none⟩) l.n cr] := Blk.new _ _ _
            have hb9 : Below wr.heap.size wr (w8.alloc (.cells #[.int .i64 l.ph, .int .i64 l.tt, .slice (some ⟨gr, 0, none⟩) l.n cr] 80)) := hb8.alloc hs8 _
            have hr9 : RmOne (w8.alloc (.cells #[.int .i64 l.ph, .int .i64 l.tt, .slice (some ⟨gr, 0, none⟩) l.n cr] 80)) wb.heap.size l gr cr := ⟨by have := hbk.size; omega, hcr, cur, hR8.alloc _, HRO.out⟩
            have hv9 : VR (w8.alloc (.cells #[.int .i64 l.ph, .int .i64 l.tt, .slice (some ⟨gr, 0, none⟩) l.n cr] 80)) 3 (some ⟨w8.heap.size, 0, none⟩) 1 1 (rmY l gr cr).cells := ⟨rfl, (fun e => by cases e), fun _ => ⟨w8.heap.size, 0, rfl, hn9.lt, fun j z hz => by rw [Nat.zero_add, hn9.cell]; rw [← hz]; exact (List.getElem?_toArray ..)⟩⟩
            have ho9 := own_below HIN.out.2.1 hb9 (fun z hz => (HIN.out.2.1.lt z hz).2)
            have k13 : w8.cell? ⟨gi, 13, none⟩ = some (.slice Av k cv) := IB.lv (HIN.out.1.next hb8)
            have hsw4 : wb.heap.size ≤ (w8.alloc (.cells #[.int .i64 l.ph, .int .i64 l.tt, .slice (some ⟨gr, 0, none⟩) l.n cr] 80)).heap.size := Nat.le_trans hbk.size hb9.size
            have HG8 := Lib.hid hG8
            have HB9 := Lib.hid hb9
            have HR9 := Lib.hid hr9
            have HV9 := Lib.hid hv9
            have HO9 := Lib.hid ho9
            clear hG8 hb8 hb9 hr9 hv9 ho9 hn9 hR8 HG7 HR6 HB6' HB5 HG HRO
            go_wp2_with (first
              | (refine wpList_load_at 80 (.tmp 11) rfl rfl wr.heap.size rfl _ #[.int .i64 l.ph, .int .i64 l.tt, .slice (some ⟨gr, 0, none⟩) l.n cr] _ HG8.out Try.underlying80 rfl infoLieS ?_)
              | (refine wpList_buildSlice1 49 (.tmp 84) rfl rfl 80 k0 _ #[.int .i64 l.ph, .int .i64 l.tt, .slice (some ⟨gr, 0, none⟩) l.n cr] Try.underlying49 hk0 kz1 kz0 rfl (by decide) (by decide) rfl ?_)
              | (at_builtin; go_loud (refine wpList_append_vr _ _ 49 rfl rfl wb.heap.size 80 k0 _ 3 40 Try.underlying49 hk0 kz0 kz1 kz2 rfl (by decide) (.slice Av k cv) k (flatLi (rmLs u.Ls gs cs k)) rfl HO9.out (some ⟨w8.heap.size, 0, none⟩) 1 1 (rmY l gr cr).cells rfl HV9.out (by intro z hz; simp [rmY, Li.cells] at hz; rcases hz with rfl | rfl | rfl <;> rfl) (by unfold maxLen; omega) (by omega) hsw4 ?_); intro v10 w10 ho10 hg10; (obtain ⟨A10, c10, rfl⟩ := own_shape ho10); have h10 := LmIn.at13 HIN.out HB9.out hg10; have f13 := Blk.frozen h10 13; have c13 := h10.lv; have HO10 := Lib.hid ho10; have HG10 := Lib.hid hg10; clear ho10 hg10 h10))
            go_roundw
            case rel => exact LmRel.put HIN.out hgi2 HX.out HB9.out HO10.out HG10.out HR9.out (by go_num)
            case measure => simp [intOf]; omega
          · obtain rfl : k = u.n := by omega
            clear hkn
            obtain ⟨wz, hren⟩ : ∃ wz, wz = wr := ⟨_, rfl⟩
            subst hren
            have HBZ := Lib.hid hbk
            clear hbk
            obtain ⟨bs, hFl, hbl⟩ := (HFb.out.below HBZ.out).b
            have hC8 := CB.next HCb.out HBZ.out
            have hv1 : ∀ j, j < 4 → (x.va j).oneCell' = true := fun j hj => by obtain ⟨Aj, cj, e⟩ := own_shape (hFl.1 j hj); rw [e]; rfl
            have HV1 := Lib.hid hv1
            have HFL := Lib.hid hFl
            have HC8 := Lib.hid hC8
            clear hFl hbl hC8 hv1
            go_upto_region 16 with (first
              | (refine wpList_load_at 48 (.tmp 5) rfl rfl gc rfl _ (CA x) _ HC8.out Try.underlying48 rfl (by rw [CA_size]; exact infoCl) ?_)
              | (refine wpList_store_at 48 (.tmp 12) (.tmp 88) rfl rfl wz.heap.size _ _ (CA x) rfl rfl (Blk.new _ _ _) (by rw [CA_size, HZS.out]) (by rw [CA_size]; exact infoCl) (CA_one HV1.out) ?_; intro w9 hN9 hg9; have HN9 : Hid (CB w9 wz.heap.size ⟨x.fr, x.N, x.va⟩) := hN9; have HG9 := Lib.hid hg9; clear hN9 hg9))
            have hb9 : Below wz.heap.size wz w9 := ((Below.refl wz.heap.size wz).alloc (Nat.le_refl _) _).grown HG9.out (by simp) (fun j hj => by cases hj; exact Nat.le_refl _)
            have HB9 := Lib.hid hb9
            clear hb9 HG9
            obtain ⟨gw, hgw⟩ : ∃ gw, gw = wz.heap.size := ⟨_, rfl⟩
            rw [← hgw] at HN9 ⊢
            have hgw2 : wz.heap.size ≤ gw := by omega
            clear hgw
            go_wp2_with fail
            go_loopw [13] (fun jv wr => WsRel wz gw x bs jv wr) (fun jv _ => 4 - (intOf jv).toNat)
            case atStart => exact ⟨0, x.va, rfl, by omega, HN9.out, fun j hj => absurd hj (Nat.not_lt_zero _), HB9.out⟩
            case round =>
              obtain ⟨j, va', rfl, hj4, hCw, hO, hBw⟩ := hrel
              have HCW := Lib.hid hCw
              have HOW := Lib.hid hO
              have HBW := Lib.hid hBw
              clear hCw hO hBw
              by_cases hj : j < 4
              · have p2 : (j : Int) < 4 := by omega
                have p3 : (0 : Int) ≤ (j : Int) := by omega
                have ho := own_below (HFL.out.1 j hj) HBW.out (fun z hz => ((HFL.out.1 j hj).lt z hz).2)
                obtain ⟨Aj, cj, hvj⟩ := own_shape ho
                rw [hvj] at ho
                have hvr := VR.own ho
                have cj0 := CB.agr (CB.next HC8.out HBW.out) hj
                rw [hvj] at cj0
                have hbl := HFL.out.2 j hj
                rw [List.length_map] at cj0 hvr
                have HVR := Lib.hid hvr
                clear ho hvr hvj
                go_wp2_with (first
                  | (at_builtin; go_loud (refine wpList_append_vr _ _ 41 rfl rfl wz.heap.size 4 i0 (.bool false) 1 1 Try.underlying41 hi0 hz0 hz1 hz2 rfl (by decide) (.slice none 0 0) 0 [] rfl (World.ownsRow_nil _ _ _ _) Aj _ cj ((bs j).map Value.bool) rfl HVR.out (bools_one _) (by unfold maxLen; omega) (by omega) HBW.out.size ?_); intro v4 w4 ho4 hg4; (obtain ⟨A4, c4', rfl⟩ := own_shape ho4); have h4 : CB w4 gw ⟨x.fr, x.N, va'⟩ := Blk.grown HCW.out hg4 (fun e => by cases e); have f4 := Blk.frozen h4 (1 + j * 74 + 73); have c4 := CB.agr h4 hj; have HO4 := Lib.hid ho4; have HG4 := Lib.hid hg4; clear ho4 hg4 h4))
                go_roundw
                case rel => exact WsRel.put hj (by go_num) HCW.out HOW.out HBW.out (by have := HO4.out; rw [List.nil_append, Nat.zero_add] at this; exact this) HG4.out hgw2
                case measure => simp [intOf]; omega
              · obtain rfl : j = 4 := by omega
                obtain ⟨wf, hren⟩ : ∃ wf, wf = wr := ⟨_, rfl⟩
                subst hren
                have hbf := HBZ.out.trans (HBW.out.mono HBZ.out.size)
                have hLR := HIN.out.lr HU.out.1 hln.symm HBW.out
                have hFf : FlB wf w2.heap.size x.va bs := HFL.out.below HBW.out
                have hIf : IB wf gi ⟨u.bad, u.rd, .slice Av u.n cv⟩ := HIN.out.1.next HBW.out
                have hCf : CB wf gc x := CB.next HC8.out HBW.out
                have hn40 := HBU.out.1
                have hi6' : x.fr < 1073741824 := by omega
                have KF := Lib.hid (frame_all x ⟨u.bad, u.rd, .slice Av u.n cv⟩ bs Av u.n cv (rmLs u.Ls gs cs u.n) wf w2.heap.size HOK.out hf0 hi6' rfl (by omega) hLR HU.out.2.2 hFf)
                have HBF := Lib.hid hbf
                have HFF := Lib.hid (fun W (h : Below wf.heap.size wf W) => hFf.below h)
                have HIF := Lib.hid hIf
                have HCF := Lib.hid hCf
                clear hbf hLR hFf hIf hCf
                go_upto_region 21 with (first
                  | (refine wpList_load_at 48 (.tmp 5) rfl rfl gc rfl _ (CA x) _ HCF.out Try.underlying48 rfl (by rw [CA_size]; exact infoCl) ?_)
                  | (refine wpList_load_at 51 (.tmp 9) rfl rfl gi rfl _ (IA ⟨u.bad, u.rd, .slice Av u.n cv⟩) _ HIF.out Try.underlying51 rfl (by rw [IA_size]; exact infoIn) ?_)
                  | (go_at_call 27; (with_reducible refine KF.out.mono ?_); rintro e w10 ⟨x', Ar, mr, cr, ef, bs', rfl, hb10, hF10, hef⟩; have HB10 := Lib.hid hb10; have HF10 := Lib.hid hF10; have HEF := Lib.hid hef; clear hb10 hF10 hef)
                  | (refine wpList_store_at 48 (.tmp 14) (.tmp 109) rfl rfl w10.heap.size _ _ (CA x') rfl rfl (Blk.new _ _ _) (by rw [CA_size, HZS.out]) (by rw [CA_size]; exact infoCl) (CA_one HF10.out.one) ?_; intro w11 hN11 hg11; have HN11 : Hid (CB w11 w10.heap.size x') := hN11; have HG11 := Lib.hid hg11; clear hN11 hg11))
                have hb11 : Below w10.heap.size w10 w11 := ((Below.refl w10.heap.size w10).alloc (Nat.le_refl _) _).grown HG11.out (by simp) (fun j hj => by cases hj; exact Nat.le_refl _)
                have HB11 := Lib.hid (HB10.out.trans (hb11.mono HB10.out.size))
                have HF11 := Lib.hid ((FlB.x HF10.out).below hb11)
                clear HG11 hb11 HB10 HF10 KF
                obtain ⟨gd, hgd⟩ : ∃ gd, gd = w10.heap.size := ⟨_, rfl⟩
                rw [← hgd] at HN11 ⊢
                clear hgd
                generalize (fun i => (bs' i).length) = ns' at HF11
                have HIN4 := Lib.hid (fun W (h : Below wf.heap.size wf W) => HIN.out.next (HBW.out.trans (h.mono HBW.out.size)))
                have HRW := Lib.hid (fun W (h : Below wf.heap.size wf W) => HRA.out W (HBF.out.trans (h.mono HBF.out.size)))
                have HLW := Lib.hid (fun W (h : Below wf.heap.size wf W) => HU.out.1.next (HBF.out.trans (h.mono HBF.out.size)))
                have HCW4 := Lib.hid (fun W (h : Below wf.heap.size wf W) => (And.intro (CB.next HCF.out h) (CB.next HCW.out h) : CB W gc x ∧ CB W gw ⟨x.fr, x.N, va'⟩))
                have HOW4 := Lib.hid (fun W (h : Below wf.heap.size wf W) (j : Nat) (hj : j < 4) => own_below (HOW.out j hj) h (fun z hz => ((HOW.out j hj).lt z hz).2))
                clear HIN HIF HCF HCW HOW HBW HC8 HFL HV1 HN9 HB9 HI6 HB6 HCb HFb
                go_wp2_with fail
                go_loopw [17] (fun kv wr => LkRel w11 u.n kv wr) (fun kv _ => u.n - (intOf kv).toNat)
                case atStart => exact ⟨0, rfl, Nat.zero_le _, Below.refl _ _⟩
                case round =>
                  obtain ⟨k, rfl, hk, hB⟩ := hrel
                  obtain ⟨wl, hren⟩ : ∃ wl, wl = wr := ⟨_, rfl⟩
                  subst hren
                  have HL := Lib.hid hB
                  have hbl := HB11.out.trans (hB.mono HB11.out.size)
                  have HLF := Lib.hid hbl
                  clear hB hbl
                  have k13 : wl.cell? ⟨gi, 13, none⟩ = some (.slice Av u.n cv) := (HIN4.out _ HLF.out).1.lv
                  by_cases hkn : k < u.n
                  · obtain ⟨bl, ol, l, hA, hll, hl, hlr, c0, c1, c2⟩ := (HLW.out _ HLF.out).row hkn
                    have h4 := HIN4.out _ HLF.out
                    obtain ⟨bm, om, hbm, hlm2, d2⟩ := LmIn.cell2 h4 hl hkn (by omega)
                    subst hbm
                    obtain ⟨hgs, hcs, cur, hcb, hro⟩ := h4.2.2.1 k l hkn hl
                    have hlb := HBU.out.2 l (List.mem_of_getElem? hl)
                    have e13 := rowLv (HRW.out _ HLF.out)
                    rw [show (u.y).lv = .slice u.A u.n u.c from rfl, hA] at e13
                    have hI := hlr.1
                    have KT := Lib.hid (fun W (h : Below wl.heap.size wl W) => Rb.stayedBytes_any l.A (gs k) l.n l.c (cs k) l.zs cur W (hcb.next h) hro hcs (hI.next h) hlb.2 (by have := hlb.1; omega))
                    have HR := Lib.hid (fun W (h : Below wl.heap.size wl W) => (And.intro ((h.cell (p := ⟨gi, 13, none⟩) h4.1.lt).trans k13) (And.intro ((h.cell (p := ⟨bm, om + k * 3 + 2, none⟩) hlm2).trans d2) (And.intro ((h.cell (p := ⟨b, off + i * 14 + 13, none⟩) (Nat.lt_of_lt_of_le hlt (Nat.le_trans HBF.out.size HLF.out.size))).trans e13) ((h.cell (p := ⟨bl, ol + k * 3 + 2, none⟩) hll).trans c2)))))
                    have p0 : (0 : Int) ≤ (k : Int) := by omega
                    have p1 : (k : Int) < (u.n : Int) := by omega
                    clear c0 c1 c2 d2 e13 h4 hl hlr hI hcb hro hcs hlb hA
                    go_wp2_with fail
                    refine wp_region_held (S := fun w' => Below wl.heap.size wl w') (by kernel_rfl) ?_
                    have hS := (Below.refl wl.heap.size wl).drew
                    refine wpAnyH_takeL (i := 0) (v := ?_) rfl (by kernel_rfl) (by kernel_rfl) (by kernel_rfl) (fun _ _ _ h => h) (Or.inl ⟨by rfl, fun wx hSw => ?_⟩) hS ?_
                    rotate_left
                    · go_simp; (try with_reducible rfl)
                    try simp only [pts]
                    refine wpAnyH_takeL (i := 1) (v := .slice (some ⟨bm, om, none⟩) u.n cv) rfl (by kernel_rfl) (by kernel_rfl) (by kernel_rfl) (fun _ _ _ h => h) (Or.inl ⟨by rfl, fun wx hSw => by have hc := (HR.out _ hSw).1; go_simp⟩) hS ?_
                    try simp only [pts]
                    refine wpAnyH_takeL (i := 2) (v := ?_) rfl (by kernel_rfl) (by kernel_rfl) (by kernel_rfl) (fun _ _ _ h => h) (Or.inl ⟨by rfl, fun wx hSw => ?_⟩) hS ?_
                    rotate_left
                    · go_simp; (try with_reducible rfl)
                    try simp only [pts]
                    refine wpAnyH_takeL (i := 3) (v := ?_) rfl (by kernel_rfl) (by kernel_rfl) (by kernel_rfl) (fun _ _ _ h => h) (Or.inl ⟨by rfl, fun wx hSw => ?_⟩) hS ?_
                    rotate_left
                    · go_simp; (try with_reducible rfl)
                    try simp only [pts]
                    refine wpAnyH_takeL (i := 4) (v := ?_) rfl (by kernel_rfl) (by kernel_rfl) (by kernel_rfl) (fun _ _ _ h => h) (Or.inl ⟨by rfl, fun wx hSw => ?_⟩) hS ?_
                    rotate_left
                    · go_simp; (try with_reducible rfl)
                    try simp only [pts]
                    refine wpAnyH_takeL (i := 5) (v := .slice (some ⟨gs k, 0, none⟩) l.n (cs k)) rfl (by kernel_rfl) (by kernel_rfl) (by kernel_rfl) (fun _ _ _ h => h) (Or.inl ⟨by rfl, fun wx hSw => by have hc := (HR.out _ hSw).2.1; go_simp⟩) hS ?_
                    try simp only [pts]
                    refine wpAnyH_takeL (i := 6) (v := ?_) rfl (by kernel_rfl) (by kernel_rfl) (by kernel_rfl) (fun _ _ _ h => h) (Or.inl ⟨by rfl, fun wx hSw => ?_⟩) hS ?_
                    rotate_left
                    · go_simp; (try with_reducible rfl)
                    try simp only [pts]
                    refine wpAnyH_takeL (i := 7) (v := ?_) rfl (by kernel_rfl) (by kernel_rfl) (by kernel_rfl) (fun _ _ _ h => h) (Or.inl ⟨by rfl, fun wx hSw => ?_⟩) hS ?_
                    rotate_left
                    · go_simp; (try with_reducible rfl)
                    try simp only [pts]
                    refine wpAnyH_takeL (i := 8) (v := ?_) rfl (by kernel_rfl) (by kernel_rfl) (by kernel_rfl) (fun _ _ _ h => h) (Or.inl ⟨by rfl, fun wx hSw => ?_⟩) hS ?_
                    rotate_left
                    · go_simp; (try with_reducible rfl)
                    try simp only [pts]
                    refine wpAnyH_takeL (i := 9) (v := ?_) rfl (by kernel_rfl) (by kernel_rfl) (by kernel_rfl) (fun _ _ _ h => h) (Or.inl ⟨by rfl, fun wx hSw => ?_⟩) hS ?_
                    rotate_left
                    · go_simp; (try with_reducible rfl)
                    try simp only [pts]
                    refine wpAnyH_takeL (i := 10) (v := .slice (some ⟨bl, ol, none⟩) u.n u.c) rfl (by kernel_rfl) (by kernel_rfl) (by kernel_rfl) (fun _ _ _ h => h) (Or.inl ⟨by rfl, fun wx hSw => by have hc := (HR.out _ hSw).2.2.1; go_simp⟩) hS ?_
                    try simp only [pts]
                    refine wpAnyH_takeL (i := 11) (v := ?_) rfl (by kernel_rfl) (by kernel_rfl) (by kernel_rfl) (fun _ _ _ h => h) (Or.inl ⟨by rfl, fun wx hSw => ?_⟩) hS ?_
                    rotate_left
                    · go_simp; (try with_reducible rfl)
                    try simp only [pts]
                    refine wpAnyH_takeL (i := 12) (v := ?_) rfl (by kernel_rfl) (by kernel_rfl) (by kernel_rfl) (fun _ _ _ h => h) (Or.inl ⟨by rfl, fun wx hSw => ?_⟩) hS ?_
                    rotate_left
                    · go_simp; (try with_reducible rfl)
                    try simp only [pts]
                    refine wpAnyH_takeL (i := 13) (v := ?_) rfl (by kernel_rfl) (by kernel_rfl) (by kernel_rfl) (fun _ _ _ h => h) (Or.inl ⟨by rfl, fun wx hSw => ?_⟩) hS ?_
                    rotate_left
                    · go_simp; (try with_reducible rfl)
                    try simp only [pts]
                    refine wpAnyH_takeL (i := 14) (v := .slice l.A l.n l.c) rfl (by kernel_rfl) (by kernel_rfl) (by kernel_rfl) (fun _ _ _ h => h) (Or.inl ⟨by rfl, fun wx hSw => by have hc := (HR.out _ hSw).2.2.2; go_simp⟩) hS ?_
                    try simp only [pts]
                    refine wpAnyH_one (i := 15) rfl (by kernel_rfl) (fun K hK => ?_)
                    go_simp
                    (with_reducible refine (KT.out _ hS).mono ?_)
                    rintro e w6 ⟨rfl, rfl⟩
                    refine hK.out _ _ hS ?_
                    clear hK K
                    try simp only [pts]
                    refine wpAnyH_takeL (i := 16) (v := ?_) rfl (by kernel_rfl) (by kernel_rfl) (by kernel_rfl) (fun _ _ _ h => h) (Or.inl ⟨by rfl, fun wx hSw => ?_⟩) hS ?_
                    rotate_left
                    · go_simp; (try with_reducible rfl)
                    try simp only [pts]
                    refine wpAnyH_done (by kernel_rfl) ?_ _
                    have HS6 := Lib.hid (HL.out.trans (hS.mono HL.out.size))
                    clear hS HR KT k13
                    go_wp2_with fail
                    go_roundw
                    case rel => exact LkRel.put hkn (by go_num) HS6.out
                    case measure => simp [intOf]; omega
                  · obtain rfl : k = u.n := by omega
                    have hC := CB.next HN11.out HL.out
                    have hF := HF11.out.below HL.out
                    have HC5 := Lib.hid hC
                    have HF5 := Lib.hid hF
                    have HB5 := HLF
                    clear hC hF hkn
                    go_wp2_with fail
                    go_loopw [18] (fun kv wr => CsRel wf gd x' ns' kv wr) (fun kv _ => 4 - (intOf kv).toNat)
                    case atStart => exact ⟨0, rfl, by omega, HC5.out, HF5.out, HB5.out⟩
                    case round =>
                      obtain ⟨q, rfl, hq4, hC, hF, hB⟩ := hrel
                      obtain ⟨wq, hren⟩ : ∃ wq, wq = wr := ⟨_, rfl⟩
                      subst hren
                      have HCq := Lib.hid hC
                      have HFq := Lib.hid hF
                      have HBq := Lib.hid hB
                      clear hC hF hB
                      by_cases hq : q < 4
                      · have p0 : (q : Int) < 4 := by omega
                        have p1 : (0 : Int) ≤ (q : Int) := by omega
                        have hrq := (HFq.out q hq).1
                        have hn1 := (HFq.out q hq).2
                        obtain ⟨A2, c2, hva⟩ := hrq.shape
                        rw [hva] at hrq
                        have c73 := CB.agr HCq.out hq
                        rw [hva] at c73
                        obtain ⟨ys, hys⟩ := hrq
                        have hvr := VR.own hys
                        have HVR := Lib.hid hvr
                        have HVA := Lib.hid hva
                        clear hvr hva
                        have hnb : ns' q ≤ 1000 := hn1
                        go_upto_region 31 with (first
                          | (at_builtin; go_loud (refine wpList_append_vr _ _ 41 rfl rfl wq.heap.size 4 i0 (.bool false) 1 1 Try.underlying41 hi0 hz0 hz1 hz2 rfl (by decide) (.slice none 0 0) 0 [] rfl (World.ownsRow_nil _ _ _ _) A2 (ns' q) c2 (ys.map Value.bool) rfl HVR.out (bools_one _) (by unfold maxLen; omega) (by omega) (Nat.le_refl _) ?_); intro v6 w6 ho6 hg6; rw [Nat.zero_add, List.nil_append] at ho6; have HO6 := Lib.hid ho6; have HG6 := Lib.hid hg6; clear ho6 hg6))
                        have hb6 := (Below.refl wq.heap.size wq).grown HG6.out (Nat.le_refl _) (fun j hj => by cases hj)
                        obtain ⟨A3, c3, rfl⟩ := own_shape HO6.out
                        have hy6 : BRow w6 wq.heap.size (.slice A3 (ns' q) c3) (ns' q) := ⟨ys, HO6.out⟩
                        have HC6 := Lib.hid (CB.next HCq.out hb6)
                        have HF6 := Lib.hid (HFq.out.below hb6)
                        have HY6 := Lib.hid hy6
                        have HB6q := Lib.hid (HBq.out.trans (hb6.mono HBq.out.size))
                        clear hb6 hy6 hys HO6 HG6 HVR c73
                        go_wp2_with fail
                        go_loopw [21] (fun jv wr => FpRel wf gd x' ns' wq.heap.size (.slice A3 (ns' q) c3) (ns' q) jv wr) (fun jv _ => ns' q - (intOf jv).toNat)
                        case atStart => exact ⟨0, rfl, Nat.zero_le _, HC6.out, HF6.out, HY6.out, HB6q.out⟩
                        case round =>
                          obtain ⟨j, rfl, hj, hC, hF, hY, hB⟩ := hrel
                          have HCz := Lib.hid hC
                          have HFz := Lib.hid hF
                          have HYz := Lib.hid hY
                          have HBz := Lib.hid hB
                          clear hC hF hY hB
                          have hrz := (HFz.out q hq).1
                          rw [HVA.out] at hrz
                          by_cases hjn : j < ns' q
                          · obtain ⟨zs, hzs⟩ := hrz
                            obtain ⟨bb, hbb⟩ := bools_at hzs.1 hjn
                            obtain ⟨_, _, hAg⟩ := Sm.own_parts hzs
                            obtain ⟨g, rfl, hgB, hgl⟩ := hAg (by omega)
                            obtain ⟨cur, hcur, _⟩ := Sm.own_blk hzs
                            have cz := (hzs.cellAt j (by omega)).trans hbb
                            have fz := Sm.own_frozen hzs j
                            have hj1 : (0 : Int) ≤ (j : Int) := by omega
                            have hj2 : (j : Int) < ((ns' q : Nat) : Int) := by omega
                            have HCUR := Lib.hid hcur
                            clear hzs hbb hcur
                            go_wp2_with fail
                            go_roundw
                            case rel => exact FpRel.put HCz.out HFz.out HYz.out HBz.out HCUR.out hgB _ hjn (by go_num)
                            case measure => simp [intOf]; omega
                          · obtain rfl : j = ns' q := by omega
                            obtain ⟨wx, hren⟩ : ∃ wx, wx = wr := ⟨_, rfl⟩
                            subst hren
                            clear hjn
                            go_wp2_with fail
                            go_loopw [22] (fun jv wr => LkRel wx (bs q).length jv wr) (fun jv _ => (bs q).length - (intOf jv).toNat)
                            case atStart => exact ⟨0, rfl, Nat.zero_le _, Below.refl _ _⟩
                            case round =>
                              obtain ⟨j, rfl, hj, hB⟩ := hrel
                              obtain ⟨wl, hren⟩ : ∃ wl, wl = wr := ⟨_, rfl⟩
                              subst hren
                              have HL := Lib.hid hB
                              have hbl := HBz.out.trans (hB.mono HBz.out.size)
                              clear hB
                              obtain ⟨hCc, hCw⟩ := HCW4.out _ hbl
                              have hrc := (HFF.out _ hbl).1 q hq
                              have hrw := HOW4.out _ hbl q hq
                              obtain ⟨Ac, cc, hvc⟩ := own_shape hrc
                              obtain ⟨Aw, cw, hvw⟩ := own_shape hrw
                              rw [hvc] at hrc
                              rw [hvw] at hrw
                              have k1 := CB.agr hCc hq
                              have k2 := CB.agr hCw hq
                              rw [hvc] at k1
                              rw [show (⟨x.fr, x.N, va'⟩ : Cl).va q = va' q from rfl, hvw] at k2
                              rw [List.length_map] at k1 hrc
                              have hbn : (bs q).length ≤ 1000 := (HFF.out _ hbl).2 q hq
                              by_cases hjn : j < (bs q).length
                              · obtain ⟨_, _, hA1⟩ := Sm.own_parts hrc
                                obtain ⟨g1, rfl, _, _⟩ := hA1 (by omega)
                                obtain ⟨_, _, hA2⟩ := Sm.own_parts hrw
                                obtain ⟨g2, rfl, _, _⟩ := hA2 (by omega)
                                obtain ⟨bb, hbb⟩ := bools_at hrw.1 hjn
                                have k3 := (hrc.cellAt j (by omega)).trans hbb
                                have k4 := (hrw.cellAt j (by omega)).trans hbb
                                have HC := Lib.hid (And.intro k1 (And.intro k2 (And.intro k3 k4)))
                                have hj1 : (0 : Int) ≤ (j : Int) := by omega
                                have hj2 : (j : Int) < (((bs q).length : Nat) : Int) := by omega
                                clear k2 k3 k4 hbb hrc hrw hCc hCw hvc hvw
                                go_wp2_with fail
                                refine wp_region_held (S := fun w' => w'.cell? ⟨gc, 1 + q * 74 + 73, none⟩ = some (.slice (some ⟨g1, 0, none⟩) (bs q).length cc) ∧ w'.cell? ⟨gw, 1 + q * 74 + 73, none⟩ = some (.slice (some ⟨g2, 0, none⟩) (bs q).length cw) ∧ w'.cell? ⟨g1, j, none⟩ = some (.bool bb) ∧ w'.cell? ⟨g2, j, none⟩ = some (.bool bb)) (by kernel_rfl) ?_
                                have hS := HC.out
                                refine wpAnyH_takeL (i := 0) (v := ?_) rfl (by kernel_rfl) (by kernel_rfl) (by kernel_rfl) (fun _ _ _ h => h) (Or.inl ⟨by rfl, fun wx hSw => ?_⟩) hS ?_
                                rotate_left
                                · go_simp; (try with_reducible rfl)
                                try simp only [pts]
                                refine wpAnyH_takeL (i := 1) (v := ?_) rfl (by kernel_rfl) (by kernel_rfl) (by kernel_rfl) (fun _ _ _ h => h) (Or.inl ⟨by rfl, fun wx hSw => ?_⟩) hS ?_
                                rotate_left
                                · go_simp; (try with_reducible rfl)
                                try simp only [pts]
                                refine wpAnyH_takeL (i := 2) (v := ?_) rfl (by kernel_rfl) (by kernel_rfl) (by kernel_rfl) (fun _ _ _ h => h) (Or.inl ⟨by rfl, fun wx hSw => ?_⟩) hS ?_
                                rotate_left
                                · go_simp; (try with_reducible rfl)
                                try simp only [pts]
                                refine wpAnyH_takeL (i := 3) (v := ?_) rfl (by kernel_rfl) (by kernel_rfl) (by kernel_rfl) (fun _ _ _ h => h) (Or.inl ⟨by rfl, fun wx hSw => ?_⟩) hS ?_
                                rotate_left
                                · go_simp; (try with_reducible rfl)
                                try simp only [pts]
                                refine wpAnyH_takeL (i := 4) (v := ?_) rfl (by kernel_rfl) (by kernel_rfl) (by kernel_rfl) (fun _ _ _ h => h) (Or.inl ⟨by rfl, fun wx hSw => ?_⟩) hS ?_
                                rotate_left
                                · go_simp; (try with_reducible rfl)
                                try simp only [pts]
                                refine wpAnyH_takeL (i := 5) (v := .slice (some ⟨g1, 0, none⟩) (bs q).length cc) rfl (by kernel_rfl) (by kernel_rfl) (by kernel_rfl) (fun _ _ _ h => h) (Or.inl ⟨by rfl, fun wx hSw => by have hc := hSw.1; go_simp⟩) hS ?_
                                try simp only [pts]
                                refine wpAnyH_takeL (i := 6) (v := ?_) rfl (by kernel_rfl) (by kernel_rfl) (by kernel_rfl) (fun _ _ _ h => h) (Or.inl ⟨by rfl, fun wx hSw => ?_⟩) hS ?_
                                rotate_left
                                · go_simp; (try with_reducible rfl)
                                try simp only [pts]
                                refine wpAnyH_takeL (i := 7) (v := ?_) rfl (by kernel_rfl) (by kernel_rfl) (by kernel_rfl) (fun _ _ _ h => h) (Or.inl ⟨by rfl, fun wx hSw => ?_⟩) hS ?_
                                rotate_left
                                · go_simp; (try with_reducible rfl)
                                try simp only [pts]
                                refine wpAnyH_takeL (i := 8) (v := .bool bb) rfl (by kernel_rfl) (by kernel_rfl) (by kernel_rfl) (fun _ _ _ h => h) (Or.inl ⟨by rfl, fun wx hSw => by have hc := hSw.2.2.1; go_simp⟩) hS ?_
                                try simp only [pts]
                                refine wpAnyH_takeL (i := 9) (v := ?_) rfl (by kernel_rfl) (by kernel_rfl) (by kernel_rfl) (fun _ _ _ h => h) (Or.inl ⟨by rfl, fun wx hSw => ?_⟩) hS ?_
                                rotate_left
                                · go_simp; (try with_reducible rfl)
                                try simp only [pts]
                                refine wpAnyH_takeL (i := 10) (v := ?_) rfl (by kernel_rfl) (by kernel_rfl) (by kernel_rfl) (fun _ _ _ h => h) (Or.inl ⟨by rfl, fun wx hSw => ?_⟩) hS ?_
                                rotate_left
                                · go_simp; (try with_reducible rfl)
                                try simp only [pts]
                                refine wpAnyH_takeL (i := 11) (v := ?_) rfl (by kernel_rfl) (by kernel_rfl) (by kernel_rfl) (fun _ _ _ h => h) (Or.inl ⟨by rfl, fun wx hSw => ?_⟩) hS ?_
                                rotate_left
                                · go_simp; (try with_reducible rfl)
                                try simp only [pts]
                                refine wpAnyH_takeL (i := 12) (v := ?_) rfl (by kernel_rfl) (by kernel_rfl) (by kernel_rfl) (fun _ _ _ h => h) (Or.inl ⟨by rfl, fun wx hSw => ?_⟩) hS ?_
                                rotate_left
                                · go_simp; (try with_reducible rfl)
                                try simp only [pts]
                                refine wpAnyH_takeL (i := 13) (v := ?_) rfl (by kernel_rfl) (by kernel_rfl) (by kernel_rfl) (fun _ _ _ h => h) (Or.inl ⟨by rfl, fun wx hSw => ?_⟩) hS ?_
                                rotate_left
                                · go_simp; (try with_reducible rfl)
                                try simp only [pts]
                                refine wpAnyH_takeL (i := 14) (v := .slice (some ⟨g2, 0, none⟩) (bs q).length cw) rfl (by kernel_rfl) (by kernel_rfl) (by kernel_rfl) (fun _ _ _ h => h) (Or.inl ⟨by rfl, fun wx hSw => by have hc := hSw.2.1; go_simp⟩) hS ?_
                                try simp only [pts]
                                refine wpAnyH_takeL (i := 15) (v := ?_) rfl (by kernel_rfl) (by kernel_rfl) (by kernel_rfl) (fun _ _ _ h => h) (Or.inl ⟨by rfl, fun wx hSw => ?_⟩) hS ?_
                                rotate_left
                                · go_simp; (try with_reducible rfl)
                                try simp only [pts]
                                refine wpAnyH_takeL (i := 16) (v := ?_) rfl (by kernel_rfl) (by kernel_rfl) (by kernel_rfl) (fun _ _ _ h => h) (Or.inl ⟨by rfl, fun wx hSw => ?_⟩) hS ?_
                                rotate_left
                                · go_simp; (try with_reducible rfl)
                                try simp only [pts]
                                refine wpAnyH_takeL (i := 17) (v := .bool bb) rfl (by kernel_rfl) (by kernel_rfl) (by kernel_rfl) (fun _ _ _ h => h) (Or.inl ⟨by rfl, fun wx hSw => by have hc := hSw.2.2.2; go_simp⟩) hS ?_
                                try simp only [pts]
                                refine wpAnyH_takeL (i := 18) (v := .bool false) rfl (by kernel_rfl) (by kernel_rfl) (by kernel_rfl) (fun _ _ _ h => h) (Or.inl ⟨by rfl, fun wx hSw => by go_simp⟩) hS ?_
                                try simp only [pts]
                                refine wpAnyH_done (by kernel_rfl) ?_ _
                                clear HC k1
                                go_wp2_with fail
                                go_roundw
                                case rel => exact LkRel.put hjn (by go_num) (HL.out.trans (below_drewN _ _ _))
                                case measure => simp [intOf]; omega
                              · obtain rfl : j = (bs q).length := by omega
                                clear k2 hrc hrw hCc hCw hvc hvw hjn
                                have hx0 := hrz.below HL.out
                                have hy0 := HYz.out.below HL.out
                                have HX0 := Lib.hid hx0
                                have HY0 := Lib.hid hy0
                                clear hx0 hy0
                                go_upto_region 40 with fail
                                go_wp2_with (first
                                  | (refine wpList_copy_kb wf.heap.size rfl (.tmp 192) (.tmp 193) 41 41 rfl 4 Try.underlying41 (by kernel_rfl) A2 A3 (ns' q) c2 c3 wf.heap.size wq.heap.size rfl rfl HX0.out HY0.out (Nat.le_refl _) hbl.size ?_; intro v9 w9 hk9; have HK9 := Lib.hid hk9; clear hk9))
                                go_roundw
                                case rel => exact ⟨q + 1, by go_num, hq, (CB.next HCz.out HL.out).kb HK9.out, (HFz.out.below HL.out).kb HK9.out, hbl.trans HK9.out.2.2⟩
                                case measure => simp [intOf]; omega
                      · obtain rfl : q = 4 := by omega
                        have hbq := HBF.out.trans (HBq.out.mono HBF.out.size)
                        have hbq2 := HBb.out.trans (hbq.mono HBb.out.size)
                        by_cases hef : ef = 0
                        · subst hef
                          have hone := FlX.one HFq.out
                          have hCe := (HCW4.out _ HBq.out).1
                          have HCe := Lib.hid hCe
                          have HONE := Lib.hid hone
                          clear hCe hone
                          go_wp2_with (first
                            | (refine wpList_load_at 48 (.tmp 14) rfl rfl gd rfl _ (CA x') _ HCq.out Try.underlying48 rfl (by rw [CA_size]; exact infoCl) ?_)
                            | (refine wpList_store_at 48 (.tmp 5) (.tmp 197) rfl rfl gc _ (CA x) (CA x') rfl rfl HCe.out (by rw [CA_size, CA_size]) (by rw [CA_size]; exact infoCl) (CA_one HONE.out) ?_; intro w12 hN12 hg12; have HN12 : Hid (CB w12 gc x') := hN12; have HG12 := Lib.hid hg12; clear hN12 hg12))
                          go_roundw
                          case rel => exact ⟨i + 1, x', ns', by go_num, by omega, by omega, HN12.out, (HFq.out.le (Nat.le_trans HBb.out.size HBF.out.size)).other HG12.out HCe.out (by decide), (HEF.out rfl).1, by have := (HEF.out rfl).2; omega, by have := (HEF.out rfl).2; omega, hbq2.grown HG12.out hbq2.size (fun j hj => by cases hj; exact hgc2)⟩
                          case measure => simp [intOf]; omega
                        · have e9 : (ef == 0) = false := by simpa using hef
                          have e8 : decide (ef = 0) = false := by simpa using hef
                          have hCe := (HCW4.out _ HBq.out).1
                          have hFe := FlB.x (HFF.out _ HBq.out)
                          have HCe := Lib.hid hCe
                          have HFe := Lib.hid hFe
                          clear hCe hFe
                          go_wp2_with fail
                          go_roundw
                          case rel => exact ⟨i + 1, x, _, by go_num, by omega, by omega, HCe.out, HFe.out, HOK.out, hf0, by omega, hbq2⟩
                          case measure => simp [intOf]; omega
      · have q1 : decide ((i : Int) < 6) = false := by rw [decide_eq_false_iff_not]; omega
        go_wp2_with (first | go_big_skip)
        go_ret
        exact ⟨rfl, HB12.out.trans (HBb.out.mono HB12.out.size)⟩
    · have q0 : decide ((i : Int) < (m : Int)) = false := by rw [decide_eq_false_iff_not]; omega
      go_wp2_with (first | go_big_skip)
      go_ret
      exact ⟨rfl, HB12.out.trans (HBb.out.mono HB12.out.size)⟩
end Go.Proofs.Ytofeoeknmlkjgaa.Nk
end
