/- Merged: ClPhJudge ClPhRelay. -/
import Derived.Test.YtofeoeknmlkjgaaZ41
set_option linter.unusedVariables false
set_option linter.unusedSimpArgs false
section
/- (*run).phase with node.Judge. -/
set_option linter.unusedVariables false
namespace Go.Proofs.Ytofeoeknmlkjgaa.Nk
open Go.RowKit Go.Proofs.Ytofeoeknmlkjgaa Mb Fi Sm

set_option maxRecDepth 100000 in
set_option maxHeartbeats 4000000 in
theorem phase_Judge (kd r : Int) (k : Nat) (A : Option Addr) (m c : Nat) (Ls : List Li) (B g : Nat) (fr : Int) (n0 n1 : Nat → Nd) (bs0 bs1 : Nat → List Value) (va obx : Nat → Value) (OMs : Nat → List Mg) (vals : Nat → List Int) (y : InD) (w : World)
    (hR : RunB w g ⟨fr, n0, va⟩ y obx) (hB : Bx w B g obx OMs) (hA : AgR w B va bs0) (hlv : y.lv = .slice A m c) (hL : ∀ W, Below B w W → LiR W A m c Ls) (hBg : B ≤ g) (hB0 : B ≤ w.heap.size) (hm : m ≤ 400)
    (hr : ∀ i : Nat, i < 4 → Wr.rightE kd (i : Int) r (vals i).length = 0) (hv : ∀ i : Nat, i < 4 → ¬ (i : Int) = y.bad → ∀ z ∈ vals i, In64 z)
    (hf : ∀ i : Nat, i < 4 → ¬ (i : Int) = y.bad → ∀ W A m c Am mm cm, w.grownBy W (some g) → VR W 1 A m c (bs0 i) → MR W Am mm cm (OMs i) → Calls Try.prog 20 #[.agg (NA (n0 i) (.slice A m c)), .slice Am mm cm] W (PhPost (n1 i) (bs1 i) kd (i : Int) r (vals i) W)) :
    Calls Try.prog 50 #[.pointer (some ⟨g, 0, none⟩), .int .i64 k, .func (.func 20) #[] #[]] w (PhsPost g B y k Ls fr n0 n1 bs0 bs1 (fun i : Nat => ⟨kd, i, r, vals i⟩) w) := by
  have hg0 := Blk.lt hR
  have hbx := hR.boxR
  have hB1 := hB
  have hZ0 : Blk (w.alloc (.cells #[.slice none 0 0, .slice none 0 0, .slice none 0 0, .slice none 0 0] 113)) w.heap.size 113 #[.slice none 0 0, .slice none 0 0, .slice none 0 0, .slice none 0 0] := Blk.new _ _ _
  have hR1 := hR.next ((Below.refl _ _).alloc (Nat.le_refl _) (.cells #[.slice none 0 0, .slice none 0 0, .slice none 0 0, .slice none 0 0] 113))
  have HG1 := Lib.hid (grown_below (row := some g) ((Below.refl w.heap.size w).alloc (Nat.le_refl _) (.cells #[.slice none 0 0, .slice none 0 0, .slice none 0 0, .slice none 0 0] 113)))
  have HZ0 := Lib.hid hZ0
  have HR1 := Lib.hid hR1
  have HBX0 := Lib.hid hbx
  have HA0 := Lib.hid hA
  have HR0 := Lib.hid hR
  have HB0 := Lib.hid hB
  have HL := Lib.hid hL
  have HF := Lib.hid hf
  have HRI := Lib.hid hr
  have HVI := Lib.hid hv
  clear hbx hB1 hZ0 hR1 hA hR hB hL hf hr hv
  go_enter Try.func50, Try.ntmps50
  go_upto_region 1 with (first
    | (refine wpList_load_mid rfl 113 (.tmp 12) rfl g 311 rfl (AN 4 obx).toList _ HBX0.out Try.underlying113 rfl (by rw [Array.length_toList, AN_size]; exact info4b) ?_; rw [show (AN 4 obx).toList.toArray = AN 4 obx from Array.toArray_toList ..])
    | (refine wpList_store_at 113 (.tmp 6) (.tmp 13) rfl rfl w.heap.size _ _ (AN 4 obx) rfl rfl HZ0.out (by rw [AN_size]; rfl) (by rw [AN_size]; exact info4b) (AN_one (fun i hi => own_one4 HB0.out hi)) ?_; intro w2 hN2 hg2; have HO2 := Lib.hid hN2; have HG2 := Lib.hid hg2; clear hN2 hg2))
  go_upto_region 3 with (first
    | (refine wpList_store_boxes rfl (.tmp 17) (.tmp 15) rfl g rfl rfl (HR1.out.grown HG2.out (by intro e; have := Option.some.inj e; omega)) ?_; intro w3 hN3 hg3; have HR3 := Lib.hid hN3; have HG3 := Lib.hid hg3; clear hN3 hg3))
  have hg13 : w.grownBy w3 (some g) := ⟨HG3.out.os.trans (HG2.out.os.trans HG1.out.os), HG3.out.tape.trans (HG2.out.tape.trans HG1.out.tape), HG3.out.output.trans (HG2.out.output.trans HG1.out.output), Nat.le_trans HG1.out.size (Nat.le_trans HG2.out.size HG3.out.size), fun q hq hne => by
    have h1 := HG1.out.size
    have h2 := HG2.out.size
    rw [HG3.out.block q (by omega) hne, HG2.out.block q (by omega) (by intro e; have := Option.some.inj e; omega), HG1.out.block q hq hne]⟩
  have hO3 := HO2.out.grown HG3.out (by intro e; have := Option.some.inj e; omega)
  have hA3 : AgR w3 B va bs0 := fun j hj => (HA0.out j hj).kept hg13 (.inr fun e => own_blk_ne (HA0.out j hj) HR0.out (by decide) e.symm)
  have HS : Hid (PhRel g B y k Ls fr n0 n1 bs0 bs1 obx (fun i : Nat => ⟨kd, i, r, vals i⟩) w (.int .i64 0) w3) :=
    ⟨0, va, fun _ => .slice none 0 0, fun _ => [], rfl, by omega, by rw [mixN_zero]; exact HR3.out, Bx.start _ _ _, by rw [mixN_zero]; exact hA3, fun t ht => rfl, hg13, hO3⟩
  clear HR1 HG1 HZ0 HBX0 HO2 HG2 HR3 HG3 hg13 hO3 hA3 HA0
  go_loopw [18] (fun iv wr => PhRel g B y k Ls fr n0 n1 bs0 bs1 obx (fun i : Nat => ⟨kd, i, r, vals i⟩) w iv wr) (fun iv _ => 4 - (intOf iv).toNat)
  case atStart => exact HS.out
  case round =>
    clear HS
    obtain ⟨i, va', bx', Ms', rfl, hi4, hR, hBx, hAg, hM, hG, hO⟩ := hrel
    have c1 := hR.bad
    have HR := Lib.hid hR
    have HBx := Lib.hid hBx
    have HAg := Lib.hid hAg
    have HMs := Lib.hid hM
    have HG := Lib.hid hG
    have HO := Lib.hid hO
    clear hR hBx hAg hM hG hO
    by_cases hi : i < 4
    · have q0 : (i : Int) < 4 := by omega
      have z0 : (0 : Int) ≤ (i : Int) := by omega
      have hml : ∀ t, t < 4 → (Ms' t).length ≤ 8000 := fun t ht => by
        have h1 : ((Ms' t).map Mg.pm).length = _ := congrArg List.length (HMs.out t ht)
        rw [List.length_map] at h1
        have h2 := boxF_len y.bad (lieL y.bad k t (Ls.map Li.ly)) (fun i : Nat => ⟨kd, i, r, vals i⟩) t i
        have h3 := lieL_le y.bad k t (Ls.map Li.ly)
        rw [List.length_map, (HL.out w (Below.refl _ _)).1] at h3
        have h4 : i * ((lieL y.bad k t (Ls.map Li.ly)).length + 1) ≤ 4 * 401 := Nat.mul_le_mul hi4 (by omega)
        omega
      have HML := Lib.hid hml
      clear hml
      by_cases hb : (i : Int) = y.bad
      · have q1 : ((i : Int) == y.bad) = true := by simpa using hb
        have HBD := Lib.hid hb
        have KL := Lib.hid (lie_any k A m c Ls B g w.heap.size ⟨fr, mixN y.bad n0 n1 i, va'⟩ y bx' Ms' wr HR.out HBx.out hlv (by omega) (fun W hW => HL.out W ((grown_bel HG.out hBg hB0).trans hW)) hBg hB0 HG.out.size hm (fun t ht => Nat.le_trans (HML.out t ht) (by decide)))
        clear hb
        go_wp2_with (first
          | (go_at_call 64; (with_reducible refine KL.out.mono ?_); rintro e w3 hp; obtain rfl := hp.1; have HP := Lib.hid hp; clear hp))
        go_roundw
        case rel => exact PhRel.bad hi hg0 HR.out HBx.out HAg.out HMs.out HG.out HO.out HBD.out HP.out
        case measure => simp [intOf]; omega
      · have q1 : ((i : Int) == y.bad) = false := by simpa using hb
        have HBD := Lib.hid hb
        clear hb
        go_upto_region 7 with fail
        obtain ⟨Av, cv, hva⟩ := own_shape (HAg.out i hi)
        have hvr : VR wr 1 Av (bs0 i).length cv (bs0 i) := by
          have h := HAg.out i hi
          rw [mixN_at] at h
          rw [mixN_at] at hva
          rw [hva] at h
          exact VR.own h
        rw [mixN_at] at hva
        obtain ⟨Ab, cb, hob, hmr⟩ := (HB0.out.run HR0.out (by decide) HG.out).mr hi
        have KF := Lib.hid (fun W (hW : Below wr.heap.size wr W) => HF.out i hi HBD.out W Av (bs0 i).length cv Ab (OMs i).length cb (grown_trans HG.out (grown_below hW)) (hvr.next hW) (hmr.next hW))
        have HNR := Lib.hid (fun W (hW : Below wr.heap.size wr W) => show W.rangeAt g (1 + i * 74) (NA (n0 i) (.slice Av (bs0 i).length cv)).toList from by
          have h := (HR.out.next hW).nodeR hi
          simp only [mixN_at] at h
          rw [hva] at h
          exact h)
        have HOB := Lib.hid (fun W (hW : Below wr.heap.size wr W) => show W.cell? ⟨w.heap.size, i, none⟩ = some (.slice Ab (OMs i).length cb) from by
          have h := Blk.cell (HO.out.next hW) i
          rw [AN_get hi, hob] at h
          exact h)
        clear hva hvr hob hmr
        go_cut [8, 9] (fun s8 s9 wx => PhCut wr (n1 i) (bs1 i) kd (i : Int) r (vals i) s8 s9 wx)
        case first =>
          refine wp_region_G 18 (fun w' => Below wr.heap.size wr w') (by kernel_rfl) ((Below.refl _ _).drew) (fun hS => ?_)
          refine wpG 0 ?_ rfl (by kernel_rfl) (fun _ _ _ h => h) (by rfl) (fun wx => ?_) hS ?_
          rotate_left
          · go_simp; (try with_reducible rfl)
          try simp only [pts]
          refine wpG 1 ?_ rfl (by kernel_rfl) (fun _ _ _ h => h) (by rfl) (fun wx => ?_) hS ?_
          rotate_left
          · go_simp; (try with_reducible rfl)
          try simp only [pts]
          refine wpG 2 ?_ rfl (by kernel_rfl) (fun _ _ _ h => h) (by rfl) (fun wx => ?_) hS ?_
          rotate_left
          · go_simp; (try with_reducible rfl)
          try simp only [pts]
          refine wpG 3 ?_ rfl (by kernel_rfl) (fun _ _ _ h => h) (by rfl) (fun wx => ?_) hS ?_
          rotate_left
          · go_simp; (try with_reducible rfl)
          try simp only [pts]
          refine wpG 4 ?_ rfl (by kernel_rfl) (fun _ _ _ h => h) (by rfl) (fun wx => ?_) hS ?_
          rotate_left
          · go_simp; (try with_reducible rfl)
          try simp only [pts]
          refine wpG 5 ?_ rfl (by kernel_rfl) (fun _ _ _ h => h) (by rfl) (fun wx => ?_) hS ?_
          rotate_left
          · go_simp; (try with_reducible rfl)
          try simp only [pts]
          refine wpG 6 ?_ rfl (by kernel_rfl) (fun _ _ _ h => h) (by rfl) (fun wx => ?_) hS ?_
          rotate_left
          · go_simp; (try with_reducible rfl)
          try simp only [pts]
          refine wpT 7 (.agg (NA (n0 i) (.slice Av (bs0 i).length cv))) rfl (by kernel_rfl) (fun _ _ _ h => h) (Or.inl ⟨by rfl, fun wx hSw => exec_load_node (.tmp 38) rfl g (1 + i * 74) rfl (n0 i) _ (HNR.out _ hSw)⟩) hS ?_
          try simp only [pts]
          refine wpG 8 ?_ rfl (by kernel_rfl) (fun _ _ _ h => h) (by rfl) (fun wx => ?_) hS ?_
          rotate_left
          · go_simp; (try with_reducible rfl)
          try simp only [pts]
          refine wpG 9 ?_ rfl (by kernel_rfl) (fun _ _ _ h => h) (by rfl) (fun wx => ?_) hS ?_
          rotate_left
          · go_simp; (try with_reducible rfl)
          try simp only [pts]
          refine wpT 10 ?_ rfl (by kernel_rfl) (fun _ _ _ h => h) (Or.inl ⟨by rfl, fun wx hSw => ?_⟩) hS ?_
          rotate_left
          · have hq := HOB.out _ hSw; (try dsimp only at hSw); go_simp; (try with_reducible rfl)
          try simp only [pts]
          refine wpAnyG_three (i := 11) (j := 15) (k := 16) rfl rfl rfl (by kernel_rfl) (fun K hK => ?_) (fun K hK => ?_) (fun K hK => ?_)
          · go_simp
            (with_reducible refine (KF.out _ hS).mono ?_)
            rintro e w6 ⟨A', c', Am, cm, rfl, hO6, hV6, hB6⟩
            have hs0 := hS.size
            have hS6 := hS.trans (hB6.mono hs0)
            have hs6 := hS6.size
            have hsz6 := hB6.size
            have hne6 : ∀ ad, Am = some ad → (wr.drew).heap.size ≤ ad.block ∧ ad.block < w6.heap.size := fun ad e => ⟨(hV6.2.2.2 ad e).2.1, (hV6.2.2.2 ad e).2.2.1⟩
            have hO := own_le hO6 hs0
            have hV := hV6.down hs0
            clear hO6 hV6 hB6 hS
            have hS := hS6
            refine hK.out _ _ hS ?_
            clear hK K
            try simp only [pts]
            refine wpG 12 ?_ rfl (by kernel_rfl) (fun _ _ _ h => h) (by rfl) (fun wx => ?_) hS ?_
            rotate_left
            · go_simp; (try with_reducible rfl)
            try simp only [pts]
            refine wpG 13 ?_ rfl (by kernel_rfl) (fun _ _ _ h => h) (by rfl) (fun wx => ?_) hS ?_
            rotate_left
            · go_simp; (try with_reducible rfl)
            try simp only [pts]
            refine wpG 14 ?_ rfl (by kernel_rfl) (fun _ _ _ h => h) (by rfl) (fun wx => ?_) hS ?_
            rotate_left
            · go_simp; (try with_reducible rfl)
            try simp only [pts]
            refine wpAnyG_two (i := 15) (j := 16) rfl rfl (by kernel_rfl) (fun K hK => ?_) (fun K hK => ?_)
            · go_simp
              have hX1c : Below wr.heap.size wr (w6.alloc (.cells Try.zeroCells45 45)) := hS6.alloc hS6.size _
              clear hS
              have hS : Below wr.heap.size wr (w6.alloc (.cells Try.zeroCells45 45)) := hX1c
              have hz : Blk (w6.alloc (.cells Try.zeroCells45 45)) (w6.heap.size) 45 Try.zeroCells45 := Blk.at_ w6 (w6.heap.size) _ _ (by simp)
              have hO1 := own_below hO ((Below.refl _ _).alloc (Nat.le_refl _) (.cells Try.zeroCells45 45)) (fun x hx => (hO.lt x hx).2)
              have hV1 := hV.next ((Below.refl _ _).alloc (Nat.le_refl _) (.cells Try.zeroCells45 45))
              clear hO hV
              have hO := hO1
              have hV := hV1
              clear hO1 hV1
              refine hK.out _ _ hS ?_
              clear hK K
              try simp only [pts]
              refine wpAnyG_one (i := 16) rfl (by kernel_rfl) (fun K hK => ?_)
              go_simp
              have hX2c : Below wr.heap.size wr ((w6.alloc (.cells Try.zeroCells45 45)).alloc (.cells #[.int .i64 0, .int .i64 0, .int .i64 0, .slice none 0 0] 64)) := hX1c.alloc hX1c.size _
              clear hS
              have hS : Below wr.heap.size wr ((w6.alloc (.cells Try.zeroCells45 45)).alloc (.cells #[.int .i64 0, .int .i64 0, .int .i64 0, .slice none 0 0] 64)) := hX2c
              have hz1 : Blk ((w6.alloc (.cells Try.zeroCells45 45)).alloc (.cells #[.int .i64 0, .int .i64 0, .int .i64 0, .slice none 0 0] 64)) (w6.heap.size) 45 _ := hz.alloc _
              clear hz
              have hz := hz1
              have hm : Blk ((w6.alloc (.cells Try.zeroCells45 45)).alloc (.cells #[.int .i64 0, .int .i64 0, .int .i64 0, .slice none 0 0] 64)) (w6.heap.size + 1) 64 #[.int .i64 0, .int .i64 0, .int .i64 0, .slice none 0 0] := Blk.at_ (w6.alloc (.cells Try.zeroCells45 45)) (w6.heap.size + 1) _ _ (by simp)
              have hO1 := own_below hO ((Below.refl _ _).alloc (Nat.le_refl _) (.cells #[.int .i64 0, .int .i64 0, .int .i64 0, .slice none 0 0] 64)) (fun x hx => (hO.lt x hx).2)
              have hV1 := hV.next ((Below.refl _ _).alloc (Nat.le_refl _) (.cells #[.int .i64 0, .int .i64 0, .int .i64 0, .slice none 0 0] 64))
              clear hO hV
              have hO := hO1
              have hV := hV1
              clear hO1 hV1
              refine hK.out _ _ hS ?_
              clear hK K
              try simp only [pts]
              have hsz : (Try.zeroCells45).size = 74 := by kernel_rfl
              refine wpAnyG_one (i := 17) rfl (by kernel_rfl) (fun K hK => ?_)
              rw [if_pos (by rfl)]
              refine wp_store_row 45 (.tmp 8) (.tmp 44) rfl (w6.heap.size) _ _ (NA (n1 i) (.slice A' (bs1 i).length c')) rfl rfl hz (by rw [NA_size, hsz]) (by rw [NA_size]; exact infoNode) (NA_one _ _ _ _) (fun w7 hN7 hg7 => ?_)
              have hS7 := hS.grown hg7 hS.size (fun j hj => by cases hj; omega)
              refine hK.out _ _ hS7 ?_
              clear hK K
              try simp only [pts]
              refine wpAnyG_last rfl (by kernel_rfl) (by kernel_rfl) (by kernel_rfl) (fun K hK => ?_)
              rw [if_pos (by rfl)]
              refine wp_store_row 64 (.tmp 9) (.tmp 45) rfl (w6.heap.size + 1) _ _ #[.int .i64 kd, .int .i64 (i : Int), .int .i64 r, .slice Am (vals i).length cm] rfl rfl (hm.grown hg7 (by intro e; have := Option.some.inj e; omega)) rfl infoMsg4 (by simp [Value.oneCell']) (fun w8 hM8 hg8 => ?_)
              refine hK.out _ _ ?_
              clear hK K
              try simp only [pts]
              go_wp2_with fail
              go_meet
              exact ph_cut (by omega) (by omega) (by omega) hz hm hO hV hS hN7 hg7 hM8 hg8 (fun ad e => by have := hne6 ad e; simp at this; omega)
            · go_simp
              have hX1c : Below wr.heap.size wr (w6.alloc (.cells #[.int .i64 0, .int .i64 0, .int .i64 0, .slice none 0 0] 64)) := hS6.alloc hS6.size _
              clear hS
              have hS : Below wr.heap.size wr (w6.alloc (.cells #[.int .i64 0, .int .i64 0, .int .i64 0, .slice none 0 0] 64)) := hX1c
              have hm : Blk (w6.alloc (.cells #[.int .i64 0, .int .i64 0, .int .i64 0, .slice none 0 0] 64)) (w6.heap.size) 64 #[.int .i64 0, .int .i64 0, .int .i64 0, .slice none 0 0] := Blk.at_ w6 (w6.heap.size) _ _ (by simp)
              have hO1 := own_below hO ((Below.refl _ _).alloc (Nat.le_refl _) (.cells #[.int .i64 0, .int .i64 0, .int .i64 0, .slice none 0 0] 64)) (fun x hx => (hO.lt x hx).2)
              have hV1 := hV.next ((Below.refl _ _).alloc (Nat.le_refl _) (.cells #[.int .i64 0, .int .i64 0, .int .i64 0, .slice none 0 0] 64))
              clear hO hV
              have hO := hO1
              have hV := hV1
              clear hO1 hV1
              refine hK.out _ _ hS ?_
              clear hK K
              try simp only [pts]
              refine wpAnyG_one (i := 15) rfl (by kernel_rfl) (fun K hK => ?_)
              go_simp
              have hX2c : Below wr.heap.size wr ((w6.alloc (.cells #[.int .i64 0, .int .i64 0, .int .i64 0, .slice none 0 0] 64)).alloc (.cells Try.zeroCells45 45)) := hX1c.alloc hX1c.size _
              clear hS
              have hS : Below wr.heap.size wr ((w6.alloc (.cells #[.int .i64 0, .int .i64 0, .int .i64 0, .slice none 0 0] 64)).alloc (.cells Try.zeroCells45 45)) := hX2c
              have hm1 : Blk ((w6.alloc (.cells #[.int .i64 0, .int .i64 0, .int .i64 0, .slice none 0 0] 64)).alloc (.cells Try.zeroCells45 45)) (w6.heap.size) 64 _ := hm.alloc _
              clear hm
              have hm := hm1
              have hz : Blk ((w6.alloc (.cells #[.int .i64 0, .int .i64 0, .int .i64 0, .slice none 0 0] 64)).alloc (.cells Try.zeroCells45 45)) (w6.heap.size + 1) 45 Try.zeroCells45 := Blk.at_ (w6.alloc (.cells #[.int .i64 0, .int .i64 0, .int .i64 0, .slice none 0 0] 64)) (w6.heap.size + 1) _ _ (by simp)
              have hO1 := own_below hO ((Below.refl _ _).alloc (Nat.le_refl _) (.cells Try.zeroCells45 45)) (fun x hx => (hO.lt x hx).2)
              have hV1 := hV.next ((Below.refl _ _).alloc (Nat.le_refl _) (.cells Try.zeroCells45 45))
              clear hO hV
              have hO := hO1
              have hV := hV1
              clear hO1 hV1
              refine hK.out _ _ hS ?_
              clear hK K
              try simp only [pts]
              have hsz : (Try.zeroCells45).size = 74 := by kernel_rfl
              refine wpAnyG_one (i := 17) rfl (by kernel_rfl) (fun K hK => ?_)
              rw [if_pos (by rfl)]
              refine wp_store_row 45 (.tmp 8) (.tmp 44) rfl (w6.heap.size + 1) _ _ (NA (n1 i) (.slice A' (bs1 i).length c')) rfl rfl hz (by rw [NA_size, hsz]) (by rw [NA_size]; exact infoNode) (NA_one _ _ _ _) (fun w7 hN7 hg7 => ?_)
              have hS7 := hS.grown hg7 hS.size (fun j hj => by cases hj; omega)
              refine hK.out _ _ hS7 ?_
              clear hK K
              try simp only [pts]
              refine wpAnyG_last rfl (by kernel_rfl) (by kernel_rfl) (by kernel_rfl) (fun K hK => ?_)
              rw [if_pos (by rfl)]
              refine wp_store_row 64 (.tmp 9) (.tmp 45) rfl (w6.heap.size) _ _ #[.int .i64 kd, .int .i64 (i : Int), .int .i64 r, .slice Am (vals i).length cm] rfl rfl (hm.grown hg7 (by intro e; have := Option.some.inj e; omega)) rfl infoMsg4 (by simp [Value.oneCell']) (fun w8 hM8 hg8 => ?_)
              refine hK.out _ _ ?_
              clear hK K
              try simp only [pts]
              go_wp2_with fail
              go_meet
              exact ph_cut (by omega) (by omega) (by omega) hz hm hO hV hS hN7 hg7 hM8 hg8 (fun ad e => by have := hne6 ad e; simp at this; omega)
          · go_simp
            have hX1 : Below wr.heap.size wr (wr.alloc (.cells Try.zeroCells45 45)) := (Below.refl wr.heap.size wr).alloc (Below.refl wr.heap.size wr).size _
            clear hS
            have hS : Below wr.heap.size wr (wr.alloc (.cells Try.zeroCells45 45)).drew := hX1.drew
            have hz : Blk (wr.alloc (.cells Try.zeroCells45 45)).drew (wr.heap.size) 45 Try.zeroCells45 := Blk.at_ wr (wr.heap.size) _ _ (by simp)
            refine hK.out _ _ hS ?_
            clear hK K
            try simp only [pts]
            refine wpAnyG_two (i := 11) (j := 16) rfl rfl (by kernel_rfl) (fun K hK => ?_) (fun K hK => ?_)
            · go_simp
              (with_reducible refine (KF.out _ hS).mono ?_)
              rintro e w6 ⟨A', c', Am, cm, rfl, hO6, hV6, hB6⟩
              have hs0 := hS.size
              have hS6 := hS.trans (hB6.mono hs0)
              have hs6 := hS6.size
              have hsz6 := hB6.size
              have hlz := Blk.lt hz
              have hz6 := hz.next hB6
              clear hz
              have hz := hz6
              have hne6 : ∀ ad, Am = some ad → ((wr.alloc (.cells Try.zeroCells45 45)).drew).heap.size ≤ ad.block ∧ ad.block < w6.heap.size := fun ad e => ⟨(hV6.2.2.2 ad e).2.1, (hV6.2.2.2 ad e).2.2.1⟩
              have hO := own_le hO6 hs0
              have hV := hV6.down hs0
              clear hO6 hV6 hB6 hS
              have hS := hS6
              refine hK.out _ _ hS ?_
              clear hK K
              try simp only [pts]
              refine wpG 12 ?_ rfl (by kernel_rfl) (fun _ _ _ h => h) (by rfl) (fun wx => ?_) hS ?_
              rotate_left
              · go_simp; (try with_reducible rfl)
              try simp only [pts]
              refine wpG 13 ?_ rfl (by kernel_rfl) (fun _ _ _ h => h) (by rfl) (fun wx => ?_) hS ?_
              rotate_left
              · go_simp; (try with_reducible rfl)
              try simp only [pts]
              refine wpG 14 ?_ rfl (by kernel_rfl) (fun _ _ _ h => h) (by rfl) (fun wx => ?_) hS ?_
              rotate_left
              · go_simp; (try with_reducible rfl)
              try simp only [pts]
              refine wpAnyG_one (i := 16) rfl (by kernel_rfl) (fun K hK => ?_)
              go_simp
              have hX1c : Below wr.heap.size wr (w6.alloc (.cells #[.int .i64 0, .int .i64 0, .int .i64 0, .slice none 0 0] 64)) := hS6.alloc hS6.size _
              clear hS
              have hS : Below wr.heap.size wr (w6.alloc (.cells #[.int .i64 0, .int .i64 0, .int .i64 0, .slice none 0 0] 64)) := hX1c
              have hz1 : Blk (w6.alloc (.cells #[.int .i64 0, .int .i64 0, .int .i64 0, .slice none 0 0] 64)) (wr.heap.size) 45 _ := hz.alloc _
              clear hz
              have hz := hz1
              have hm : Blk (w6.alloc (.cells #[.int .i64 0, .int .i64 0, .int .i64 0, .slice none 0 0] 64)) (w6.heap.size) 64 #[.int .i64 0, .int .i64 0, .int .i64 0, .slice none 0 0] := Blk.at_ w6 (w6.heap.size) _ _ (by simp)
              have hO1 := own_below hO ((Below.refl _ _).alloc (Nat.le_refl _) (.cells #[.int .i64 0, .int .i64 0, .int .i64 0, .slice none 0 0] 64)) (fun x hx => (hO.lt x hx).2)
              have hV1 := hV.next ((Below.refl _ _).alloc (Nat.le_refl _) (.cells #[.int .i64 0, .int .i64 0, .int .i64 0, .slice none 0 0] 64))
              clear hO hV
              have hO := hO1
              have hV := hV1
              clear hO1 hV1
              refine hK.out _ _ hS ?_
              clear hK K
              try simp only [pts]
              have hsz : (Try.zeroCells45).size = 74 := by kernel_rfl
              refine wpAnyG_one (i := 17) rfl (by kernel_rfl) (fun K hK => ?_)
              rw [if_pos (by rfl)]
              refine wp_store_row 45 (.tmp 8) (.tmp 44) rfl (wr.heap.size) _ _ (NA (n1 i) (.slice A' (bs1 i).length c')) rfl rfl hz (by rw [NA_size, hsz]) (by rw [NA_size]; exact infoNode) (NA_one _ _ _ _) (fun w7 hN7 hg7 => ?_)
              have hS7 := hS.grown hg7 hS.size (fun j hj => by cases hj; omega)
              refine hK.out _ _ hS7 ?_
              clear hK K
              try simp only [pts]
              refine wpAnyG_last rfl (by kernel_rfl) (by kernel_rfl) (by kernel_rfl) (fun K hK => ?_)
              rw [if_pos (by rfl)]
              refine wp_store_row 64 (.tmp 9) (.tmp 45) rfl (w6.heap.size) _ _ #[.int .i64 kd, .int .i64 (i : Int), .int .i64 r, .slice Am (vals i).length cm] rfl rfl (hm.grown hg7 (by intro e; have := Option.some.inj e; omega)) rfl infoMsg4 (by simp [Value.oneCell']) (fun w8 hM8 hg8 => ?_)
              refine hK.out _ _ ?_
              clear hK K
              try simp only [pts]
              go_wp2_with fail
              go_meet
              exact ph_cut (by omega) (by omega) (by omega) hz hm hO hV hS hN7 hg7 hM8 hg8 (fun ad e => by have := hne6 ad e; simp at this; omega)
            · go_simp
              have hX2 : Below wr.heap.size wr ((wr.alloc (.cells Try.zeroCells45 45)).alloc (.cells #[.int .i64 0, .int .i64 0, .int .i64 0, .slice none 0 0] 64)) := hX1.alloc hX1.size _
              clear hS
              have hS : Below wr.heap.size wr ((wr.alloc (.cells Try.zeroCells45 45)).alloc (.cells #[.int .i64 0, .int .i64 0, .int .i64 0, .slice none 0 0] 64)).drew := hX2.drew
              have hz1 : Blk ((wr.alloc (.cells Try.zeroCells45 45)).alloc (.cells #[.int .i64 0, .int .i64 0, .int .i64 0, .slice none 0 0] 64)).drew (wr.heap.size) 45 _ := hz.alloc _
              clear hz
              have hz := hz1
              have hm : Blk ((wr.alloc (.cells Try.zeroCells45 45)).alloc (.cells #[.int .i64 0, .int .i64 0, .int .i64 0, .slice none 0 0] 64)).drew (wr.heap.size + 1) 64 #[.int .i64 0, .int .i64 0, .int .i64 0, .slice none 0 0] := Blk.at_ (wr.alloc (.cells Try.zeroCells45 45)) (wr.heap.size + 1) _ _ (by simp)
              refine hK.out _ _ hS ?_
              clear hK K
              try simp only [pts]
              refine wpAnyG_one (i := 11) rfl (by kernel_rfl) (fun K hK => ?_)
              go_simp
              (with_reducible refine (KF.out _ hS).mono ?_)
              rintro e w6 ⟨A', c', Am, cm, rfl, hO6, hV6, hB6⟩
              have hs0 := hS.size
              have hS6 := hS.trans (hB6.mono hs0)
              have hs6 := hS6.size
              have hsz6 := hB6.size
              have hlz := Blk.lt hz
              have hz6 := hz.next hB6
              clear hz
              have hz := hz6
              have hlm := Blk.lt hm
              have hm6 := hm.next hB6
              clear hm
              have hm := hm6
              have hne6 : ∀ ad, Am = some ad → (((wr.alloc (.cells Try.zeroCells45 45)).alloc (.cells #[.int .i64 0, .int .i64 0, .int .i64 0, .slice none 0 0] 64)).drew).heap.size ≤ ad.block ∧ ad.block < w6.heap.size := fun ad e => ⟨(hV6.2.2.2 ad e).2.1, (hV6.2.2.2 ad e).2.2.1⟩
              have hO := own_le hO6 hs0
              have hV := hV6.down hs0
              clear hO6 hV6 hB6 hS
              have hS := hS6
              refine hK.out _ _ hS ?_
              clear hK K
              try simp only [pts]
              refine wpG 12 ?_ rfl (by kernel_rfl) (fun _ _ _ h => h) (by rfl) (fun wx => ?_) hS ?_
              rotate_left
              · go_simp; (try with_reducible rfl)
              try simp only [pts]
              refine wpG 13 ?_ rfl (by kernel_rfl) (fun _ _ _ h => h) (by rfl) (fun wx => ?_) hS ?_
              rotate_left
              · go_simp; (try with_reducible rfl)
              try simp only [pts]
              refine wpG 14 ?_ rfl (by kernel_rfl) (fun _ _ _ h => h) (by rfl) (fun wx => ?_) hS ?_
              rotate_left
              · go_simp; (try with_reducible rfl)
              try simp only [pts]
              have hsz : (Try.zeroCells45).size = 74 := by kernel_rfl
              refine wpAnyG_one (i := 17) rfl (by kernel_rfl) (fun K hK => ?_)
              rw [if_pos (by rfl)]
              refine wp_store_row 45 (.tmp 8) (.tmp 44) rfl (wr.heap.size) _ _ (NA (n1 i) (.slice A' (bs1 i).length c')) rfl rfl hz (by rw [NA_size, hsz]) (by rw [NA_size]; exact infoNode) (NA_one _ _ _ _) (fun w7 hN7 hg7 => ?_)
              have hS7 := hS.grown hg7 hS.size (fun j hj => by cases hj; omega)
              refine hK.out _ _ hS7 ?_
              clear hK K
              try simp only [pts]
              refine wpAnyG_last rfl (by kernel_rfl) (by kernel_rfl) (by kernel_rfl) (fun K hK => ?_)
              rw [if_pos (by rfl)]
              refine wp_store_row 64 (.tmp 9) (.tmp 45) rfl (wr.heap.size + 1) _ _ #[.int .i64 kd, .int .i64 (i : Int), .int .i64 r, .slice Am (vals i).length cm] rfl rfl (hm.grown hg7 (by intro e; have := Option.some.inj e; omega)) rfl infoMsg4 (by simp [Value.oneCell']) (fun w8 hM8 hg8 => ?_)
              refine hK.out _ _ ?_
              clear hK K
              try simp only [pts]
              go_wp2_with fail
              go_meet
              exact ph_cut (by omega) (by omega) (by omega) hz hm hO hV hS hN7 hg7 hM8 hg8 (fun ad e => by have := hne6 ad e; simp at this; omega)
          · go_simp
            have hX1 : Below wr.heap.size wr (wr.alloc (.cells #[.int .i64 0, .int .i64 0, .int .i64 0, .slice none 0 0] 64)) := (Below.refl wr.heap.size wr).alloc (Below.refl wr.heap.size wr).size _
            clear hS
            have hS : Below wr.heap.size wr (wr.alloc (.cells #[.int .i64 0, .int .i64 0, .int .i64 0, .slice none 0 0] 64)).drew := hX1.drew
            have hm : Blk (wr.alloc (.cells #[.int .i64 0, .int .i64 0, .int .i64 0, .slice none 0 0] 64)).drew (wr.heap.size) 64 #[.int .i64 0, .int .i64 0, .int .i64 0, .slice none 0 0] := Blk.at_ wr (wr.heap.size) _ _ (by simp)
            refine hK.out _ _ hS ?_
            clear hK K
            try simp only [pts]
            refine wpAnyG_two (i := 11) (j := 15) rfl rfl (by kernel_rfl) (fun K hK => ?_) (fun K hK => ?_)
            · go_simp
              (with_reducible refine (KF.out _ hS).mono ?_)
              rintro e w6 ⟨A', c', Am, cm, rfl, hO6, hV6, hB6⟩
              have hs0 := hS.size
              have hS6 := hS.trans (hB6.mono hs0)
              have hs6 := hS6.size
              have hsz6 := hB6.size
              have hlm := Blk.lt hm
              have hm6 := hm.next hB6
              clear hm
              have hm := hm6
              have hne6 : ∀ ad, Am = some ad → ((wr.alloc (.cells #[.int .i64 0, .int .i64 0, .int .i64 0, .slice none 0 0] 64)).drew).heap.size ≤ ad.block ∧ ad.block < w6.heap.size := fun ad e => ⟨(hV6.2.2.2 ad e).2.1, (hV6.2.2.2 ad e).2.2.1⟩
              have hO := own_le hO6 hs0
              have hV := hV6.down hs0
              clear hO6 hV6 hB6 hS
              have hS := hS6
              refine hK.out _ _ hS ?_
              clear hK K
              try simp only [pts]
              refine wpG 12 ?_ rfl (by kernel_rfl) (fun _ _ _ h => h) (by rfl) (fun wx => ?_) hS ?_
              rotate_left
              · go_simp; (try with_reducible rfl)
              try simp only [pts]
              refine wpG 13 ?_ rfl (by kernel_rfl) (fun _ _ _ h => h) (by rfl) (fun wx => ?_) hS ?_
              rotate_left
              · go_simp; (try with_reducible rfl)
              try simp only [pts]
              refine wpG 14 ?_ rfl (by kernel_rfl) (fun _ _ _ h => h) (by rfl) (fun wx => ?_) hS ?_
              rotate_left
              · go_simp; (try with_reducible rfl)
              try simp only [pts]
              refine wpAnyG_one (i := 15) rfl (by kernel_rfl) (fun K hK => ?_)
              go_simp
              have hX1c : Below wr.heap.size wr (w6.alloc (.cells Try.zeroCells45 45)) := hS6.alloc hS6.size _
              clear hS
              have hS : Below wr.heap.size wr (w6.alloc (.cells Try.zeroCells45 45)) := hX1c
              have hm1 : Blk (w6.alloc (.cells Try.zeroCells45 45)) (wr.heap.size) 64 _ := hm.alloc _
              clear hm
              have hm := hm1
              have hz : Blk (w6.alloc (.cells Try.zeroCells45 45)) (w6.heap.size) 45 Try.zeroCells45 := Blk.at_ w6 (w6.heap.size) _ _ (by simp)
              have hO1 := own_below hO ((Below.refl _ _).alloc (Nat.le_refl _) (.cells Try.zeroCells45 45)) (fun x hx => (hO.lt x hx).2)
              have hV1 := hV.next ((Below.refl _ _).alloc (Nat.le_refl _) (.cells Try.zeroCells45 45))
              clear hO hV
              have hO := hO1
              have hV := hV1
              clear hO1 hV1
              refine hK.out _ _ hS ?_
              clear hK K
              try simp only [pts]
              have hsz : (Try.zeroCells45).size = 74 := by kernel_rfl
              refine wpAnyG_one (i := 17) rfl (by kernel_rfl) (fun K hK => ?_)
              rw [if_pos (by rfl)]
              refine wp_store_row 45 (.tmp 8) (.tmp 44) rfl (w6.heap.size) _ _ (NA (n1 i) (.slice A' (bs1 i).length c')) rfl rfl hz (by rw [NA_size, hsz]) (by rw [NA_size]; exact infoNode) (NA_one _ _ _ _) (fun w7 hN7 hg7 => ?_)
              have hS7 := hS.grown hg7 hS.size (fun j hj => by cases hj; omega)
              refine hK.out _ _ hS7 ?_
              clear hK K
              try simp only [pts]
              refine wpAnyG_last rfl (by kernel_rfl) (by kernel_rfl) (by kernel_rfl) (fun K hK => ?_)
              rw [if_pos (by rfl)]
              refine wp_store_row 64 (.tmp 9) (.tmp 45) rfl (wr.heap.size) _ _ #[.int .i64 kd, .int .i64 (i : Int), .int .i64 r, .slice Am (vals i).length cm] rfl rfl (hm.grown hg7 (by intro e; have := Option.some.inj e; omega)) rfl infoMsg4 (by simp [Value.oneCell']) (fun w8 hM8 hg8 => ?_)
              refine hK.out _ _ ?_
              clear hK K
              try simp only [pts]
              go_wp2_with fail
              go_meet
              exact ph_cut (by omega) (by omega) (by omega) hz hm hO hV hS hN7 hg7 hM8 hg8 (fun ad e => by have := hne6 ad e; simp at this; omega)
            · go_simp
              have hX2 : Below wr.heap.size wr ((wr.alloc (.cells #[.int .i64 0, .int .i64 0, .int .i64 0, .slice none 0 0] 64)).alloc (.cells Try.zeroCells45 45)) := hX1.alloc hX1.size _
              clear hS
              have hS : Below wr.heap.size wr ((wr.alloc (.cells #[.int .i64 0, .int .i64 0, .int .i64 0, .slice none 0 0] 64)).alloc (.cells Try.zeroCells45 45)).drew := hX2.drew
              have hm1 : Blk ((wr.alloc (.cells #[.int .i64 0, .int .i64 0, .int .i64 0, .slice none 0 0] 64)).alloc (.cells Try.zeroCells45 45)).drew (wr.heap.size) 64 _ := hm.alloc _
              clear hm
              have hm := hm1
              have hz : Blk ((wr.alloc (.cells #[.int .i64 0, .int .i64 0, .int .i64 0, .slice none 0 0] 64)).alloc (.cells Try.zeroCells45 45)).drew (wr.heap.size + 1) 45 Try.zeroCells45 := Blk.at_ (wr.alloc (.cells #[.int .i64 0, .int .i64 0, .int .i64 0, .slice none 0 0] 64)) (wr.heap.size + 1) _ _ (by simp)
              refine hK.out _ _ hS ?_
              clear hK K
              try simp only [pts]
              refine wpAnyG_one (i := 11) rfl (by kernel_rfl) (fun K hK => ?_)
              go_simp
              (with_reducible refine (KF.out _ hS).mono ?_)
              rintro e w6 ⟨A', c', Am, cm, rfl, hO6, hV6, hB6⟩
              have hs0 := hS.size
              have hS6 := hS.trans (hB6.mono hs0)
              have hs6 := hS6.size
              have hsz6 := hB6.size
              have hlz := Blk.lt hz
              have hz6 := hz.next hB6
              clear hz
              have hz := hz6
              have hlm := Blk.lt hm
              have hm6 := hm.next hB6
              clear hm
              have hm := hm6
              have hne6 : ∀ ad, Am = some ad → (((wr.alloc (.cells #[.int .i64 0, .int .i64 0, .int .i64 0, .slice none 0 0] 64)).alloc (.cells Try.zeroCells45 45)).drew).heap.size ≤ ad.block ∧ ad.block < w6.heap.size := fun ad e => ⟨(hV6.2.2.2 ad e).2.1, (hV6.2.2.2 ad e).2.2.1⟩
              have hO := own_le hO6 hs0
              have hV := hV6.down hs0
              clear hO6 hV6 hB6 hS
              have hS := hS6
              refine hK.out _ _ hS ?_
              clear hK K
              try simp only [pts]
              refine wpG 12 ?_ rfl (by kernel_rfl) (fun _ _ _ h => h) (by rfl) (fun wx => ?_) hS ?_
              rotate_left
              · go_simp; (try with_reducible rfl)
              try simp only [pts]
              refine wpG 13 ?_ rfl (by kernel_rfl) (fun _ _ _ h => h) (by rfl) (fun wx => ?_) hS ?_
              rotate_left
              · go_simp; (try with_reducible rfl)
              try simp only [pts]
              refine wpG 14 ?_ rfl (by kernel_rfl) (fun _ _ _ h => h) (by rfl) (fun wx => ?_) hS ?_
              rotate_left
              · go_simp; (try with_reducible rfl)
              try simp only [pts]
              have hsz : (Try.zeroCells45).size = 74 := by kernel_rfl
              refine wpAnyG_one (i := 17) rfl (by kernel_rfl) (fun K hK => ?_)
              rw [if_pos (by rfl)]
              refine wp_store_row 45 (.tmp 8) (.tmp 44) rfl (wr.heap.size + 1) _ _ (NA (n1 i) (.slice A' (bs1 i).length c')) rfl rfl hz (by rw [NA_size, hsz]) (by rw [NA_size]; exact infoNode) (NA_one _ _ _ _) (fun w7 hN7 hg7 => ?_)
              have hS7 := hS.grown hg7 hS.size (fun j hj => by cases hj; omega)
              refine hK.out _ _ hS7 ?_
              clear hK K
              try simp only [pts]
              refine wpAnyG_last rfl (by kernel_rfl) (by kernel_rfl) (by kernel_rfl) (fun K hK => ?_)
              rw [if_pos (by rfl)]
              refine wp_store_row 64 (.tmp 9) (.tmp 45) rfl (wr.heap.size) _ _ #[.int .i64 kd, .int .i64 (i : Int), .int .i64 r, .slice Am (vals i).length cm] rfl rfl (hm.grown hg7 (by intro e; have := Option.some.inj e; omega)) rfl infoMsg4 (by simp [Value.oneCell']) (fun w8 hM8 hg8 => ?_)
              refine hK.out _ _ ?_
              clear hK K
              try simp only [pts]
              go_wp2_with fail
              go_meet
              exact ph_cut (by omega) (by omega) (by omega) hz hm hO hV hS hN7 hg7 hM8 hg8 (fun ad e => by have := hne6 ad e; simp at this; omega)
        case rest =>
          obtain ⟨q8, q9, A', c', Am, cm, rfl, rfl, hN8, hM9, hO9, hV9, hB9, hq9⟩ := hcut
          have HN8 := Lib.hid hN8
          have HM9 := Lib.hid hM9
          have HO9 := Lib.hid hO9
          have HV9 := Lib.hid hV9
          have HB9 := Lib.hid hB9
          have HRc := Lib.hid (HR.out.next hB9)
          clear hN8 hM9 hO9 hV9 hB9 KF HNR HOB
          go_upto_region 8 with fail
          refine wp_region_G 7 (fun w' => RunB w' g ⟨fr, mixN y.bad n0 n1 i, va'⟩ y bx' ∧ Blk w' q8 45 (NA (n1 i) (.slice A' (bs1 i).length c'))) (by kernel_rfl) (⟨HRc.out.next (Below.refl _ _).drew, HN8.out.next (Below.refl _ _).drew⟩) (fun hS => ?_)
          refine wpG 0 ?_ rfl (by kernel_rfl) (fun _ _ _ h => h) (by rfl) (fun wx => ?_) hS ?_
          rotate_left
          · go_simp; (try with_reducible rfl)
          try simp only [pts]
          refine wpG 1 ?_ rfl (by kernel_rfl) (fun _ _ _ h => h) (by rfl) (fun wx => ?_) hS ?_
          rotate_left
          · go_simp; (try with_reducible rfl)
          try simp only [pts]
          refine wpT 2 (.agg (NA (n1 i) (.slice A' (bs1 i).length c'))) rfl (by kernel_rfl) (fun _ _ _ h => h) (Or.inl ⟨by rfl, fun wx hSw => exec_load_row 45 (.tmp 8) rfl q8 rfl _ _ _ hSw.2 Try.underlying45 rfl (by rw [NA_size]; exact infoNode)⟩) hS ?_
          try simp only [pts]
          refine wpG 3 ?_ rfl (by kernel_rfl) (fun _ _ _ h => h) (by rfl) (fun wx => ?_) hS ?_
          rotate_left
          · go_simp; (try with_reducible rfl)
          try simp only [pts]
          refine wpG 4 ?_ rfl (by kernel_rfl) (fun _ _ _ h => h) (by rfl) (fun wx => ?_) hS ?_
          rotate_left
          · go_simp; (try with_reducible rfl)
          try simp only [pts]
          refine wpG 5 ?_ rfl (by kernel_rfl) (fun _ _ _ h => h) (by rfl) (fun wx => ?_) hS ?_
          rotate_left
          · go_simp; (try with_reducible rfl)
          try simp only [pts]
          refine wpG 6 ?_ rfl (by kernel_rfl) (fun _ _ _ h => h) (by rfl) (fun wx => ?_) hS ?_
          rotate_left
          · go_simp; (try with_reducible rfl)
          try simp only [pts]
          refine wpAnyG_last rfl (by kernel_rfl) (by kernel_rfl) (by kernel_rfl) (fun K hK => ?_)
          rw [if_pos (by rfl)]
          refine wp_store_run (.tmp 52) (.tmp 48) rfl g i (n1 i) A' (bs1 i).length c' hi rfl rfl hS.1 (fun w9 hR9 hg9 => ?_)
          have HR9 := Lib.hid hR9
          have HG9 := Lib.hid hg9
          clear hR9 hg9 hS
          refine hK.out _ _ ?_
          clear hK K
          try simp only [pts]
          have hbc : Below wr.heap.size wr wc.drew := HB9.out.drew
          have hgl := Blk.lt HR.out
          have hm9 : Blk w9 q9 64 #[.int .i64 kd, .int .i64 (i : Int), .int .i64 r, .slice Am (vals i).length cm] := (HM9.out.next (Below.refl wc.heap.size wc).drew).grown HG9.out (by intro e; have h1 := Option.some.inj e; omega)
          have hv9 := (HV9.out.next (Below.refl wc.heap.size wc).drew).grown HG9.out (fun ad e => by have := (HV9.out.2.2.2 ad e).2.1; omega)
          have ho9 : wc.drew.ownsRow wr.heap.size 4 1 (.slice A' (bs1 i).length c') (bs1 i).length (bs1 i) := HO9.out
          have hb9 := (HBx.out.next hbc).run (HR.out.next hbc) (by decide) HG9.out
          have KP := Lib.hid (post_any kd (i : Int) r Am (vals i).length cm (vals i) i g w.heap.size _ y bx' Ms' w9 rfl hi HR9.out hb9 hv9.1 (HVI.out i hi HBD.out) (HRI.out i hi) (Nat.le_trans HG.out.size (Nat.le_trans hbc.size HG9.out.size)) (fun t ht => Nat.le_trans (HML.out t ht) (by decide)))
          have m0 := hm9.cell 0
          have m1 := hm9.cell 1
          have m2 := hm9.cell 2
          have m3 := hm9.cell 3
          (simp only [List.getElem?_toArray, List.getElem?_cons_zero, List.getElem?_cons_succ] at m0 m1 m2 m3)
          have HBC := Lib.hid hbc
          have HO9' := Lib.hid ho9
          clear hbc hm9 hv9 ho9 hb9 HO9 HV9 HM9 HN8 HB9 HRc
          go_wp2_with (first
            | (go_at_call 65; (with_reducible refine KP.out.mono ?_); rintro e w10 hp; obtain rfl := hp.1; have HP := Lib.hid hp; clear hp))
          go_roundw
          case rel => exact PhRel.good hi hg0 hB0 HR.out HBx.out HAg.out HMs.out HG.out HO.out HBD.out HBC.out HO9'.out HR9.out HG9.out rfl HP.out
          case measure => simp [intOf]; omega
    · obtain rfl : i = 4 := by omega
      have hD := PhRel.done (⟨4, va', bx', Ms', rfl, by omega, HR.out, HBx.out, HAg.out, HMs.out, HG.out, HO.out⟩ : PhRel g B y k Ls fr n0 n1 bs0 bs1 obx (fun i : Nat => ⟨kd, i, r, vals i⟩) w (.int .i64 4) wr) hBg hB0
      have HD := Lib.hid hD
      clear hD
      go_wp2_with fail
      go_end0
      exact HD.out
end Go.Proofs.Ytofeoeknmlkjgaa.Nk
end
section
/- (*run).phase with node.Relay. -/
set_option linter.unusedVariables false
namespace Go.Proofs.Ytofeoeknmlkjgaa.Nk
open Go.RowKit Go.Proofs.Ytofeoeknmlkjgaa Mb Fi Sm

set_option maxRecDepth 100000 in
set_option maxHeartbeats 4000000 in
theorem phase_Relay (kd r : Int) (k : Nat) (A : Option Addr) (m c : Nat) (Ls : List Li) (B g : Nat) (fr : Int) (n0 n1 : Nat → Nd) (bs0 bs1 : Nat → List Value) (va obx : Nat → Value) (OMs : Nat → List Mg) (vals : Nat → List Int) (y : InD) (w : World)
    (hR : RunB w g ⟨fr, n0, va⟩ y obx) (hB : Bx w B g obx OMs) (hA : AgR w B va bs0) (hlv : y.lv = .slice A m c) (hL : ∀ W, Below B w W → LiR W A m c Ls) (hBg : B ≤ g) (hB0 : B ≤ w.heap.size) (hm : m ≤ 400)
    (hr : ∀ i : Nat, i < 4 → Wr.rightE kd (i : Int) r (vals i).length = 0) (hv : ∀ i : Nat, i < 4 → ¬ (i : Int) = y.bad → ∀ z ∈ vals i, In64 z)
    (hf : ∀ i : Nat, i < 4 → ¬ (i : Int) = y.bad → ∀ W A m c Am mm cm, w.grownBy W (some g) → VR W 1 A m c (bs0 i) → MR W Am mm cm (OMs i) → Calls Try.prog 17 #[.agg (NA (n0 i) (.slice A m c)), .slice Am mm cm] W (PhPost (n1 i) (bs1 i) kd (i : Int) r (vals i) W)) :
    Calls Try.prog 50 #[.pointer (some ⟨g, 0, none⟩), .int .i64 k, .func (.func 17) #[] #[]] w (PhsPost g B y k Ls fr n0 n1 bs0 bs1 (fun i : Nat => ⟨kd, i, r, vals i⟩) w) := by
  have hg0 := Blk.lt hR
  have hbx := hR.boxR
  have hB1 := hB
  have hZ0 : Blk (w.alloc (.cells #[.slice none 0 0, .slice none 0 0, .slice none 0 0, .slice none 0 0] 113)) w.heap.size 113 #[.slice none 0 0, .slice none 0 0, .slice none 0 0, .slice none 0 0] := Blk.new _ _ _
  have hR1 := hR.next ((Below.refl _ _).alloc (Nat.le_refl _) (.cells #[.slice none 0 0, .slice none 0 0, .slice none 0 0, .slice none 0 0] 113))
  have HG1 := Lib.hid (grown_below (row := some g) ((Below.refl w.heap.size w).alloc (Nat.le_refl _) (.cells #[.slice none 0 0, .slice none 0 0, .slice none 0 0, .slice none 0 0] 113)))
  have HZ0 := Lib.hid hZ0
  have HR1 := Lib.hid hR1
  have HBX0 := Lib.hid hbx
  have HA0 := Lib.hid hA
  have HR0 := Lib.hid hR
  have HB0 := Lib.hid hB
  have HL := Lib.hid hL
  have HF := Lib.hid hf
  have HRI := Lib.hid hr
  have HVI := Lib.hid hv
  clear hbx hB1 hZ0 hR1 hA hR hB hL hf hr hv
  go_enter Try.func50, Try.ntmps50
  go_upto_region 1 with (first
    | (refine wpList_load_mid rfl 113 (.tmp 12) rfl g 311 rfl (AN 4 obx).toList _ HBX0.out Try.underlying113 rfl (by rw [Array.length_toList, AN_size]; exact info4b) ?_; rw [show (AN 4 obx).toList.toArray = AN 4 obx from Array.toArray_toList ..])
    | (refine wpList_store_at 113 (.tmp 6) (.tmp 13) rfl rfl w.heap.size _ _ (AN 4 obx) rfl rfl HZ0.out (by rw [AN_size]; rfl) (by rw [AN_size]; exact info4b) (AN_one (fun i hi => own_one4 HB0.out hi)) ?_; intro w2 hN2 hg2; have HO2 := Lib.hid hN2; have HG2 := Lib.hid hg2; clear hN2 hg2))
  go_upto_region 3 with (first
    | (refine wpList_store_boxes rfl (.tmp 17) (.tmp 15) rfl g rfl rfl (HR1.out.grown HG2.out (by intro e; have := Option.some.inj e; omega)) ?_; intro w3 hN3 hg3; have HR3 := Lib.hid hN3; have HG3 := Lib.hid hg3; clear hN3 hg3))
  have hg13 : w.grownBy w3 (some g) := ⟨HG3.out.os.trans (HG2.out.os.trans HG1.out.os), HG3.out.tape.trans (HG2.out.tape.trans HG1.out.tape), HG3.out.output.trans (HG2.out.output.trans HG1.out.output), Nat.le_trans HG1.out.size (Nat.le_trans HG2.out.size HG3.out.size), fun q hq hne => by
    have h1 := HG1.out.size
    have h2 := HG2.out.size
    rw [HG3.out.block q (by omega) hne, HG2.out.block q (by omega) (by intro e; have := Option.some.inj e; omega), HG1.out.block q hq hne]⟩
  have hO3 := HO2.out.grown HG3.out (by intro e; have := Option.some.inj e; omega)
  have hA3 : AgR w3 B va bs0 := fun j hj => (HA0.out j hj).kept hg13 (.inr fun e => own_blk_ne (HA0.out j hj) HR0.out (by decide) e.symm)
  have HS : Hid (PhRel g B y k Ls fr n0 n1 bs0 bs1 obx (fun i : Nat => ⟨kd, i, r, vals i⟩) w (.int .i64 0) w3) :=
    ⟨0, va, fun _ => .slice none 0 0, fun _ => [], rfl, by omega, by rw [mixN_zero]; exact HR3.out, Bx.start _ _ _, by rw [mixN_zero]; exact hA3, fun t ht => rfl, hg13, hO3⟩
  clear HR1 HG1 HZ0 HBX0 HO2 HG2 HR3 HG3 hg13 hO3 hA3 HA0
  go_loopw [18] (fun iv wr => PhRel g B y k Ls fr n0 n1 bs0 bs1 obx (fun i : Nat => ⟨kd, i, r, vals i⟩) w iv wr) (fun iv _ => 4 - (intOf iv).toNat)
  case atStart => exact HS.out
  case round =>
    clear HS
    obtain ⟨i, va', bx', Ms', rfl, hi4, hR, hBx, hAg, hM, hG, hO⟩ := hrel
    have c1 := hR.bad
    have HR := Lib.hid hR
    have HBx := Lib.hid hBx
    have HAg := Lib.hid hAg
    have HMs := Lib.hid hM
    have HG := Lib.hid hG
    have HO := Lib.hid hO
    clear hR hBx hAg hM hG hO
    by_cases hi : i < 4
    · have q0 : (i : Int) < 4 := by omega
      have z0 : (0 : Int) ≤ (i : Int) := by omega
      have hml : ∀ t, t < 4 → (Ms' t).length ≤ 8000 := fun t ht => by
        have h1 : ((Ms' t).map Mg.pm).length = _ := congrArg List.length (HMs.out t ht)
        rw [List.length_map] at h1
        have h2 := boxF_len y.bad (lieL y.bad k t (Ls.map Li.ly)) (fun i : Nat => ⟨kd, i, r, vals i⟩) t i
        have h3 := lieL_le y.bad k t (Ls.map Li.ly)
        rw [List.length_map, (HL.out w (Below.refl _ _)).1] at h3
        have h4 : i * ((lieL y.bad k t (Ls.map Li.ly)).length + 1) ≤ 4 * 401 := Nat.mul_le_mul hi4 (by omega)
        omega
      have HML := Lib.hid hml
      clear hml
      by_cases hb : (i : Int) = y.bad
      · have q1 : ((i : Int) == y.bad) = true := by simpa using hb
        have HBD := Lib.hid hb
        have KL := Lib.hid (lie_any k A m c Ls B g w.heap.size ⟨fr, mixN y.bad n0 n1 i, va'⟩ y bx' Ms' wr HR.out HBx.out hlv (by omega) (fun W hW => HL.out W ((grown_bel HG.out hBg hB0).trans hW)) hBg hB0 HG.out.size hm (fun t ht => Nat.le_trans (HML.out t ht) (by decide)))
        clear hb
        go_wp2_with (first
          | (go_at_call 64; (with_reducible refine KL.out.mono ?_); rintro e w3 hp; obtain rfl := hp.1; have HP := Lib.hid hp; clear hp))
        go_roundw
        case rel => exact PhRel.bad hi hg0 HR.out HBx.out HAg.out HMs.out HG.out HO.out HBD.out HP.out
        case measure => simp [intOf]; omega
      · have q1 : ((i : Int) == y.bad) = false := by simpa using hb
        have HBD := Lib.hid hb
        clear hb
        go_upto_region 7 with fail
        obtain ⟨Av, cv, hva⟩ := own_shape (HAg.out i hi)
        have hvr : VR wr 1 Av (bs0 i).length cv (bs0 i) := by
          have h := HAg.out i hi
          rw [mixN_at] at h
          rw [mixN_at] at hva
          rw [hva] at h
          exact VR.own h
        rw [mixN_at] at hva
        obtain ⟨Ab, cb, hob, hmr⟩ := (HB0.out.run HR0.out (by decide) HG.out).mr hi
        have KF := Lib.hid (fun W (hW : Below wr.heap.size wr W) => HF.out i hi HBD.out W Av (bs0 i).length cv Ab (OMs i).length cb (grown_trans HG.out (grown_below hW)) (hvr.next hW) (hmr.next hW))
        have HNR := Lib.hid (fun W (hW : Below wr.heap.size wr W) => show W.rangeAt g (1 + i * 74) (NA (n0 i) (.slice Av (bs0 i).length cv)).toList from by
          have h := (HR.out.next hW).nodeR hi
          simp only [mixN_at] at h
          rw [hva] at h
          exact h)
        have HOB := Lib.hid (fun W (hW : Below wr.heap.size wr W) => show W.cell? ⟨w.heap.size, i, none⟩ = some (.slice Ab (OMs i).length cb) from by
          have h := Blk.cell (HO.out.next hW) i
          rw [AN_get hi, hob] at h
          exact h)
        clear hva hvr hob hmr
        go_cut [8, 9] (fun s8 s9 wx => PhCut wr (n1 i) (bs1 i) kd (i : Int) r (vals i) s8 s9 wx)
        case first =>
          refine wp_region_G 18 (fun w' => Below wr.heap.size wr w') (by kernel_rfl) ((Below.refl _ _).drew) (fun hS => ?_)
          refine wpG 0 ?_ rfl (by kernel_rfl) (fun _ _ _ h => h) (by rfl) (fun wx => ?_) hS ?_
          rotate_left
          · go_simp; (try with_reducible rfl)
          try simp only [pts]
          refine wpG 1 ?_ rfl (by kernel_rfl) (fun _ _ _ h => h) (by rfl) (fun wx => ?_) hS ?_
          rotate_left
          · go_simp; (try with_reducible rfl)
          try simp only [pts]
          refine wpG 2 ?_ rfl (by kernel_rfl) (fun _ _ _ h => h) (by rfl) (fun wx => ?_) hS ?_
          rotate_left
          · go_simp; (try with_reducible rfl)
          try simp only [pts]
          refine wpG 3 ?_ rfl (by kernel_rfl) (fun _ _ _ h => h) (by rfl) (fun wx => ?_) hS ?_
          rotate_left
          · go_simp; (try with_reducible rfl)
          try simp only [pts]
          refine wpG 4 ?_ rfl (by kernel_rfl) (fun _ _ _ h => h) (by rfl) (fun wx => ?_) hS ?_
          rotate_left
          · go_simp; (try with_reducible rfl)
          try simp only [pts]
          refine wpG 5 ?_ rfl (by kernel_rfl) (fun _ _ _ h => h) (by rfl) (fun wx => ?_) hS ?_
          rotate_left
          · go_simp; (try with_reducible rfl)
          try simp only [pts]
          refine wpG 6 ?_ rfl (by kernel_rfl) (fun _ _ _ h => h) (by rfl) (fun wx => ?_) hS ?_
          rotate_left
          · go_simp; (try with_reducible rfl)
          try simp only [pts]
          refine wpT 7 (.agg (NA (n0 i) (.slice Av (bs0 i).length cv))) rfl (by kernel_rfl) (fun _ _ _ h => h) (Or.inl ⟨by rfl, fun wx hSw => exec_load_node (.tmp 38) rfl g (1 + i * 74) rfl (n0 i) _ (HNR.out _ hSw)⟩) hS ?_
          try simp only [pts]
          refine wpG 8 ?_ rfl (by kernel_rfl) (fun _ _ _ h => h) (by rfl) (fun wx => ?_) hS ?_
          rotate_left
          · go_simp; (try with_reducible rfl)
          try simp only [pts]
          refine wpG 9 ?_ rfl (by kernel_rfl) (fun _ _ _ h => h) (by rfl) (fun wx => ?_) hS ?_
          rotate_left
          · go_simp; (try with_reducible rfl)
          try simp only [pts]
          refine wpT 10 ?_ rfl (by kernel_rfl) (fun _ _ _ h => h) (Or.inl ⟨by rfl, fun wx hSw => ?_⟩) hS ?_
          rotate_left
          · have hq := HOB.out _ hSw; (try dsimp only at hSw); go_simp; (try with_reducible rfl)
          try simp only [pts]
          refine wpAnyG_three (i := 11) (j := 15) (k := 16) rfl rfl rfl (by kernel_rfl) (fun K hK => ?_) (fun K hK => ?_) (fun K hK => ?_)
          · go_simp
            (with_reducible refine (KF.out _ hS).mono ?_)
            rintro e w6 ⟨A', c', Am, cm, rfl, hO6, hV6, hB6⟩
            have hs0 := hS.size
            have hS6 := hS.trans (hB6.mono hs0)
            have hs6 := hS6.size
            have hsz6 := hB6.size
            have hne6 : ∀ ad, Am = some ad → (wr.drew).heap.size ≤ ad.block ∧ ad.block < w6.heap.size := fun ad e => ⟨(hV6.2.2.2 ad e).2.1, (hV6.2.2.2 ad e).2.2.1⟩
            have hO := own_le hO6 hs0
            have hV := hV6.down hs0
            clear hO6 hV6 hB6 hS
            have hS := hS6
            refine hK.out _ _ hS ?_
            clear hK K
            try simp only [pts]
            refine wpG 12 ?_ rfl (by kernel_rfl) (fun _ _ _ h => h) (by rfl) (fun wx => ?_) hS ?_
            rotate_left
            · go_simp; (try with_reducible rfl)
            try simp only [pts]
            refine wpG 13 ?_ rfl (by kernel_rfl) (fun _ _ _ h => h) (by rfl) (fun wx => ?_) hS ?_
            rotate_left
            · go_simp; (try with_reducible rfl)
            try simp only [pts]
            refine wpG 14 ?_ rfl (by kernel_rfl) (fun _ _ _ h => h) (by rfl) (fun wx => ?_) hS ?_
            rotate_left
            · go_simp; (try with_reducible rfl)
            try simp only [pts]
            refine wpAnyG_two (i := 15) (j := 16) rfl rfl (by kernel_rfl) (fun K hK => ?_) (fun K hK => ?_)
            · go_simp
              have hX1c : Below wr.heap.size wr (w6.alloc (.cells Try.zeroCells45 45)) := hS6.alloc hS6.size _
              clear hS
              have hS : Below wr.heap.size wr (w6.alloc (.cells Try.zeroCells45 45)) := hX1c
              have hz : Blk (w6.alloc (.cells Try.zeroCells45 45)) (w6.heap.size) 45 Try.zeroCells45 := Blk.at_ w6 (w6.heap.size) _ _ (by simp)
              have hO1 := own_below hO ((Below.refl _ _).alloc (Nat.le_refl _) (.cells Try.zeroCells45 45)) (fun x hx => (hO.lt x hx).2)
              have hV1 := hV.next ((Below.refl _ _).alloc (Nat.le_refl _) (.cells Try.zeroCells45 45))
              clear hO hV
              have hO := hO1
              have hV := hV1
              clear hO1 hV1
              refine hK.out _ _ hS ?_
              clear hK K
              try simp only [pts]
              refine wpAnyG_one (i := 16) rfl (by kernel_rfl) (fun K hK => ?_)
              go_simp
              have hX2c : Below wr.heap.size wr ((w6.alloc (.cells Try.zeroCells45 45)).alloc (.cells #[.int .i64 0, .int .i64 0, .int .i64 0, .slice none 0 0] 64)) := hX1c.alloc hX1c.size _
              clear hS
              have hS : Below wr.heap.size wr ((w6.alloc (.cells Try.zeroCells45 45)).alloc (.cells #[.int .i64 0, .int .i64 0, .int .i64 0, .slice none 0 0] 64)) := hX2c
              have hz1 : Blk ((w6.alloc (.cells Try.zeroCells45 45)).alloc (.cells #[.int .i64 0, .int .i64 0, .int .i64 0, .slice none 0 0] 64)) (w6.heap.size) 45 _ := hz.alloc _
              clear hz
              have hz := hz1
              have hm : Blk ((w6.alloc (.cells Try.zeroCells45 45)).alloc (.cells #[.int .i64 0, .int .i64 0, .int .i64 0, .slice none 0 0] 64)) (w6.heap.size + 1) 64 #[.int .i64 0, .int .i64 0, .int .i64 0, .slice none 0 0] := Blk.at_ (w6.alloc (.cells Try.zeroCells45 45)) (w6.heap.size + 1) _ _ (by simp)
              have hO1 := own_below hO ((Below.refl _ _).alloc (Nat.le_refl _) (.cells #[.int .i64 0, .int .i64 0, .int .i64 0, .slice none 0 0] 64)) (fun x hx => (hO.lt x hx).2)
              have hV1 := hV.next ((Below.refl _ _).alloc (Nat.le_refl _) (.cells #[.int .i64 0, .int .i64 0, .int .i64 0, .slice none 0 0] 64))
              clear hO hV
              have hO := hO1
              have hV := hV1
              clear hO1 hV1
              refine hK.out _ _ hS ?_
              clear hK K
              try simp only [pts]
              have hsz : (Try.zeroCells45).size = 74 := by kernel_rfl
              refine wpAnyG_one (i := 17) rfl (by kernel_rfl) (fun K hK => ?_)
              rw [if_pos (by rfl)]
              refine wp_store_row 45 (.tmp 8) (.tmp 44) rfl (w6.heap.size) _ _ (NA (n1 i) (.slice A' (bs1 i).length c')) rfl rfl hz (by rw [NA_size, hsz]) (by rw [NA_size]; exact infoNode) (NA_one _ _ _ _) (fun w7 hN7 hg7 => ?_)
              have hS7 := hS.grown hg7 hS.size (fun j hj => by cases hj; omega)
              refine hK.out _ _ hS7 ?_
              clear hK K
              try simp only [pts]
              refine wpAnyG_last rfl (by kernel_rfl) (by kernel_rfl) (by kernel_rfl) (fun K hK => ?_)
              rw [if_pos (by rfl)]
              refine wp_store_row 64 (.tmp 9) (.tmp 45) rfl (w6.heap.size + 1) _ _ #[.int .i64 kd, .int .i64 (i : Int), .int .i64 r, .slice Am (vals i).length cm] rfl rfl (hm.grown hg7 (by intro e; have := Option.some.inj e; omega)) rfl infoMsg4 (by simp [Value.oneCell']) (fun w8 hM8 hg8 => ?_)
              refine hK.out _ _ ?_
              clear hK K
              try simp only [pts]
              go_wp2_with fail
              go_meet
              exact ph_cut (by omega) (by omega) (by omega) hz hm hO hV hS hN7 hg7 hM8 hg8 (fun ad e => by have := hne6 ad e; simp at this; omega)
            · go_simp
              have hX1c : Below wr.heap.size wr (w6.alloc (.cells #[.int .i64 0, .int .i64 0, .int .i64 0, .slice none 0 0] 64)) := hS6.alloc hS6.size _
              clear hS
              have hS : Below wr.heap.size wr (w6.alloc (.cells #[.int .i64 0, .int .i64 0, .int .i64 0, .slice none 0 0] 64)) := hX1c
              have hm : Blk (w6.alloc (.cells #[.int .i64 0, .int .i64 0, .int .i64 0, .slice none 0 0] 64)) (w6.heap.size) 64 #[.int .i64 0, .int .i64 0, .int .i64 0, .slice none 0 0] := Blk.at_ w6 (w6.heap.size) _ _ (by simp)
              have hO1 := own_below hO ((Below.refl _ _).alloc (Nat.le_refl _) (.cells #[.int .i64 0, .int .i64 0, .int .i64 0, .slice none 0 0] 64)) (fun x hx => (hO.lt x hx).2)
              have hV1 := hV.next ((Below.refl _ _).alloc (Nat.le_refl _) (.cells #[.int .i64 0, .int .i64 0, .int .i64 0, .slice none 0 0] 64))
              clear hO hV
              have hO := hO1
              have hV := hV1
              clear hO1 hV1
              refine hK.out _ _ hS ?_
              clear hK K
              try simp only [pts]
              refine wpAnyG_one (i := 15) rfl (by kernel_rfl) (fun K hK => ?_)
              go_simp
              have hX2c : Below wr.heap.size wr ((w6.alloc (.cells #[.int .i64 0, .int .i64 0, .int .i64 0, .slice none 0 0] 64)).alloc (.cells Try.zeroCells45 45)) := hX1c.alloc hX1c.size _
              clear hS
              have hS : Below wr.heap.size wr ((w6.alloc (.cells #[.int .i64 0, .int .i64 0, .int .i64 0, .slice none 0 0] 64)).alloc (.cells Try.zeroCells45 45)) := hX2c
              have hm1 : Blk ((w6.alloc (.cells #[.int .i64 0, .int .i64 0, .int .i64 0, .slice none 0 0] 64)).alloc (.cells Try.zeroCells45 45)) (w6.heap.size) 64 _ := hm.alloc _
              clear hm
              have hm := hm1
              have hz : Blk ((w6.alloc (.cells #[.int .i64 0, .int .i64 0, .int .i64 0, .slice none 0 0] 64)).alloc (.cells Try.zeroCells45 45)) (w6.heap.size + 1) 45 Try.zeroCells45 := Blk.at_ (w6.alloc (.cells #[.int .i64 0, .int .i64 0, .int .i64 0, .slice none 0 0] 64)) (w6.heap.size + 1) _ _ (by simp)
              have hO1 := own_below hO ((Below.refl _ _).alloc (Nat.le_refl _) (.cells Try.zeroCells45 45)) (fun x hx => (hO.lt x hx).2)
              have hV1 := hV.next ((Below.refl _ _).alloc (Nat.le_refl _) (.cells Try.zeroCells45 45))
              clear hO hV
              have hO := hO1
              have hV := hV1
              clear hO1 hV1
              refine hK.out _ _ hS ?_
              clear hK K
              try simp only [pts]
              have hsz : (Try.zeroCells45).size = 74 := by kernel_rfl
              refine wpAnyG_one (i := 17) rfl (by kernel_rfl) (fun K hK => ?_)
              rw [if_pos (by rfl)]
              refine wp_store_row 45 (.tmp 8) (.tmp 44) rfl (w6.heap.size + 1) _ _ (NA (n1 i) (.slice A' (bs1 i).length c')) rfl rfl hz (by rw [NA_size, hsz]) (by rw [NA_size]; exact infoNode) (NA_one _ _ _ _) (fun w7 hN7 hg7 => ?_)
              have hS7 := hS.grown hg7 hS.size (fun j hj => by cases hj; omega)
              refine hK.out _ _ hS7 ?_
              clear hK K
              try simp only [pts]
              refine wpAnyG_last rfl (by kernel_rfl) (by kernel_rfl) (by kernel_rfl) (fun K hK => ?_)
              rw [if_pos (by rfl)]
              refine wp_store_row 64 (.tmp 9) (.tmp 45) rfl (w6.heap.size) _ _ #[.int .i64 kd, .int .i64 (i : Int), .int .i64 r, .slice Am (vals i).length cm] rfl rfl (hm.grown hg7 (by intro e; have := Option.some.inj e; omega)) rfl infoMsg4 (by simp [Value.oneCell']) (fun w8 hM8 hg8 => ?_)
              refine hK.out _ _ ?_
              clear hK K
              try simp only [pts]
              go_wp2_with fail
              go_meet
              exact ph_cut (by omega) (by omega) (by omega) hz hm hO hV hS hN7 hg7 hM8 hg8 (fun ad e => by have := hne6 ad e; simp at this; omega)
          · go_simp
            have hX1 : Below wr.heap.size wr (wr.alloc (.cells Try.zeroCells45 45)) := (Below.refl wr.heap.size wr).alloc (Below.refl wr.heap.size wr).size _
            clear hS
            have hS : Below wr.heap.size wr (wr.alloc (.cells Try.zeroCells45 45)).drew := hX1.drew
            have hz : Blk (wr.alloc (.cells Try.zeroCells45 45)).drew (wr.heap.size) 45 Try.zeroCells45 := Blk.at_ wr (wr.heap.size) _ _ (by simp)
            refine hK.out _ _ hS ?_
            clear hK K
            try simp only [pts]
            refine wpAnyG_two (i := 11) (j := 16) rfl rfl (by kernel_rfl) (fun K hK => ?_) (fun K hK => ?_)
            · go_simp
              (with_reducible refine (KF.out _ hS).mono ?_)
              rintro e w6 ⟨A', c', Am, cm, rfl, hO6, hV6, hB6⟩
              have hs0 := hS.size
              have hS6 := hS.trans (hB6.mono hs0)
              have hs6 := hS6.size
              have hsz6 := hB6.size
              have hlz := Blk.lt hz
              have hz6 := hz.next hB6
              clear hz
              have hz := hz6
              have hne6 : ∀ ad, Am = some ad → ((wr.alloc (.cells Try.zeroCells45 45)).drew).heap.size ≤ ad.block ∧ ad.block < w6.heap.size := fun ad e => ⟨(hV6.2.2.2 ad e).2.1, (hV6.2.2.2 ad e).2.2.1⟩
              have hO := own_le hO6 hs0
              have hV := hV6.down hs0
              clear hO6 hV6 hB6 hS
              have hS := hS6
              refine hK.out _ _ hS ?_
              clear hK K
              try simp only [pts]
              refine wpG 12 ?_ rfl (by kernel_rfl) (fun _ _ _ h => h) (by rfl) (fun wx => ?_) hS ?_
              rotate_left
              · go_simp; (try with_reducible rfl)
              try simp only [pts]
              refine wpG 13 ?_ rfl (by kernel_rfl) (fun _ _ _ h => h) (by rfl) (fun wx => ?_) hS ?_
              rotate_left
              · go_simp; (try with_reducible rfl)
              try simp only [pts]
              refine wpG 14 ?_ rfl (by kernel_rfl) (fun _ _ _ h => h) (by rfl) (fun wx => ?_) hS ?_
              rotate_left
              · go_simp; (try with_reducible rfl)
              try simp only [pts]
              refine wpAnyG_one (i := 16) rfl (by kernel_rfl) (fun K hK => ?_)
              go_simp
              have hX1c : Below wr.heap.size wr (w6.alloc (.cells #[.int .i64 0, .int .i64 0, .int .i64 0, .slice none 0 0] 64)) := hS6.alloc hS6.size _
              clear hS
              have hS : Below wr.heap.size wr (w6.alloc (.cells #[.int .i64 0, .int .i64 0, .int .i64 0, .slice none 0 0] 64)) := hX1c
              have hz1 : Blk (w6.alloc (.cells #[.int .i64 0, .int .i64 0, .int .i64 0, .slice none 0 0] 64)) (wr.heap.size) 45 _ := hz.alloc _
              clear hz
              have hz := hz1
              have hm : Blk (w6.alloc (.cells #[.int .i64 0, .int .i64 0, .int .i64 0, .slice none 0 0] 64)) (w6.heap.size) 64 #[.int .i64 0, .int .i64 0, .int .i64 0, .slice none 0 0] := Blk.at_ w6 (w6.heap.size) _ _ (by simp)
              have hO1 := own_below hO ((Below.refl _ _).alloc (Nat.le_refl _) (.cells #[.int .i64 0, .int .i64 0, .int .i64 0, .slice none 0 0] 64)) (fun x hx => (hO.lt x hx).2)
              have hV1 := hV.next ((Below.refl _ _).alloc (Nat.le_refl _) (.cells #[.int .i64 0, .int .i64 0, .int .i64 0, .slice none 0 0] 64))
              clear hO hV
              have hO := hO1
              have hV := hV1
              clear hO1 hV1
              refine hK.out _ _ hS ?_
              clear hK K
              try simp only [pts]
              have hsz : (Try.zeroCells45).size = 74 := by kernel_rfl
              refine wpAnyG_one (i := 17) rfl (by kernel_rfl) (fun K hK => ?_)
              rw [if_pos (by rfl)]
              refine wp_store_row 45 (.tmp 8) (.tmp 44) rfl (wr.heap.size) _ _ (NA (n1 i) (.slice A' (bs1 i).length c')) rfl rfl hz (by rw [NA_size, hsz]) (by rw [NA_size]; exact infoNode) (NA_one _ _ _ _) (fun w7 hN7 hg7 => ?_)
              have hS7 := hS.grown hg7 hS.size (fun j hj => by cases hj; omega)
              refine hK.out _ _ hS7 ?_
              clear hK K
              try simp only [pts]
              refine wpAnyG_last rfl (by kernel_rfl) (by kernel_rfl) (by kernel_rfl) (fun K hK => ?_)
              rw [if_pos (by rfl)]
              refine wp_store_row 64 (.tmp 9) (.tmp 45) rfl (w6.heap.size) _ _ #[.int .i64 kd, .int .i64 (i : Int), .int .i64 r, .slice Am (vals i).length cm] rfl rfl (hm.grown hg7 (by intro e; have := Option.some.inj e; omega)) rfl infoMsg4 (by simp [Value.oneCell']) (fun w8 hM8 hg8 => ?_)
              refine hK.out _ _ ?_
              clear hK K
              try simp only [pts]
              go_wp2_with fail
              go_meet
              exact ph_cut (by omega) (by omega) (by omega) hz hm hO hV hS hN7 hg7 hM8 hg8 (fun ad e => by have := hne6 ad e; simp at this; omega)
            · go_simp
              have hX2 : Below wr.heap.size wr ((wr.alloc (.cells Try.zeroCells45 45)).alloc (.cells #[.int .i64 0, .int .i64 0, .int .i64 0, .slice none 0 0] 64)) := hX1.alloc hX1.size _
              clear hS
              have hS : Below wr.heap.size wr ((wr.alloc (.cells Try.zeroCells45 45)).alloc (.cells #[.int .i64 0, .int .i64 0, .int .i64 0, .slice none 0 0] 64)).drew := hX2.drew
              have hz1 : Blk ((wr.alloc (.cells Try.zeroCells45 45)).alloc (.cells #[.int .i64 0, .int .i64 0, .int .i64 0, .slice none 0 0] 64)).drew (wr.heap.size) 45 _ := hz.alloc _
              clear hz
              have hz := hz1
              have hm : Blk ((wr.alloc (.cells Try.zeroCells45 45)).alloc (.cells #[.int .i64 0, .int .i64 0, .int .i64 0, .slice none 0 0] 64)).drew (wr.heap.size + 1) 64 #[.int .i64 0, .int .i64 0, .int .i64 0, .slice none 0 0] := Blk.at_ (wr.alloc (.cells Try.zeroCells45 45)) (wr.heap.size + 1) _ _ (by simp)
              refine hK.out _ _ hS ?_
              clear hK K
              try simp only [pts]
              refine wpAnyG_one (i := 11) rfl (by kernel_rfl) (fun K hK => ?_)
              go_simp
              (with_reducible refine (KF.out _ hS).mono ?_)
              rintro e w6 ⟨A', c', Am, cm, rfl, hO6, hV6, hB6⟩
              have hs0 := hS.size
              have hS6 := hS.trans (hB6.mono hs0)
              have hs6 := hS6.size
              have hsz6 := hB6.size
              have hlz := Blk.lt hz
              have hz6 := hz.next hB6
              clear hz
              have hz := hz6
              have hlm := Blk.lt hm
              have hm6 := hm.next hB6
              clear hm
              have hm := hm6
              have hne6 : ∀ ad, Am = some ad → (((wr.alloc (.cells Try.zeroCells45 45)).alloc (.cells #[.int .i64 0, .int .i64 0, .int .i64 0, .slice none 0 0] 64)).drew).heap.size ≤ ad.block ∧ ad.block < w6.heap.size := fun ad e => ⟨(hV6.2.2.2 ad e).2.1, (hV6.2.2.2 ad e).2.2.1⟩
              have hO := own_le hO6 hs0
              have hV := hV6.down hs0
              clear hO6 hV6 hB6 hS
              have hS := hS6
              refine hK.out _ _ hS ?_
              clear hK K
              try simp only [pts]
              refine wpG 12 ?_ rfl (by kernel_rfl) (fun _ _ _ h => h) (by rfl) (fun wx => ?_) hS ?_
              rotate_left
              · go_simp; (try with_reducible rfl)
              try simp only [pts]
              refine wpG 13 ?_ rfl (by kernel_rfl) (fun _ _ _ h => h) (by rfl) (fun wx => ?_) hS ?_
              rotate_left
              · go_simp; (try with_reducible rfl)
              try simp only [pts]
              refine wpG 14 ?_ rfl (by kernel_rfl) (fun _ _ _ h => h) (by rfl) (fun wx => ?_) hS ?_
              rotate_left
              · go_simp; (try with_reducible rfl)
              try simp only [pts]
              have hsz : (Try.zeroCells45).size = 74 := by kernel_rfl
              refine wpAnyG_one (i := 17) rfl (by kernel_rfl) (fun K hK => ?_)
              rw [if_pos (by rfl)]
              refine wp_store_row 45 (.tmp 8) (.tmp 44) rfl (wr.heap.size) _ _ (NA (n1 i) (.slice A' (bs1 i).length c')) rfl rfl hz (by rw [NA_size, hsz]) (by rw [NA_size]; exact infoNode) (NA_one _ _ _ _) (fun w7 hN7 hg7 => ?_)
              have hS7 := hS.grown hg7 hS.size (fun j hj => by cases hj; omega)
              refine hK.out _ _ hS7 ?_
              clear hK K
              try simp only [pts]
              refine wpAnyG_last rfl (by kernel_rfl) (by kernel_rfl) (by kernel_rfl) (fun K hK => ?_)
              rw [if_pos (by rfl)]
              refine wp_store_row 64 (.tmp 9) (.tmp 45) rfl (wr.heap.size + 1) _ _ #[.int .i64 kd, .int .i64 (i : Int), .int .i64 r, .slice Am (vals i).length cm] rfl rfl (hm.grown hg7 (by intro e; have := Option.some.inj e; omega)) rfl infoMsg4 (by simp [Value.oneCell']) (fun w8 hM8 hg8 => ?_)
              refine hK.out _ _ ?_
              clear hK K
              try simp only [pts]
              go_wp2_with fail
              go_meet
              exact ph_cut (by omega) (by omega) (by omega) hz hm hO hV hS hN7 hg7 hM8 hg8 (fun ad e => by have := hne6 ad e; simp at this; omega)
          · go_simp
            have hX1 : Below wr.heap.size wr (wr.alloc (.cells #[.int .i64 0, .int .i64 0, .int .i64 0, .slice none 0 0] 64)) := (Below.refl wr.heap.size wr).alloc (Below.refl wr.heap.size wr).size _
            clear hS
            have hS : Below wr.heap.size wr (wr.alloc (.cells #[.int .i64 0, .int .i64 0, .int .i64 0, .slice none 0 0] 64)).drew := hX1.drew
            have hm : Blk (wr.alloc (.cells #[.int .i64 0, .int .i64 0, .int .i64 0, .slice none 0 0] 64)).drew (wr.heap.size) 64 #[.int .i64 0, .int .i64 0, .int .i64 0, .slice none 0 0] := Blk.at_ wr (wr.heap.size) _ _ (by simp)
            refine hK.out _ _ hS ?_
            clear hK K
            try simp only [pts]
            refine wpAnyG_two (i := 11) (j := 15) rfl rfl (by kernel_rfl) (fun K hK => ?_) (fun K hK => ?_)
            · go_simp
              (with_reducible refine (KF.out _ hS).mono ?_)
              rintro e w6 ⟨A', c', Am, cm, rfl, hO6, hV6, hB6⟩
              have hs0 := hS.size
              have hS6 := hS.trans (hB6.mono hs0)
              have hs6 := hS6.size
              have hsz6 := hB6.size
              have hlm := Blk.lt hm
              have hm6 := hm.next hB6
              clear hm
              have hm := hm6
              have hne6 : ∀ ad, Am = some ad → ((wr.alloc (.cells #[.int .i64 0, .int .i64 0, .int .i64 0, .slice none 0 0] 64)).drew).heap.size ≤ ad.block ∧ ad.block < w6.heap.size := fun ad e => ⟨(hV6.2.2.2 ad e).2.1, (hV6.2.2.2 ad e).2.2.1⟩
              have hO := own_le hO6 hs0
              have hV := hV6.down hs0
              clear hO6 hV6 hB6 hS
              have hS := hS6
              refine hK.out _ _ hS ?_
              clear hK K
              try simp only [pts]
              refine wpG 12 ?_ rfl (by kernel_rfl) (fun _ _ _ h => h) (by rfl) (fun wx => ?_) hS ?_
              rotate_left
              · go_simp; (try with_reducible rfl)
              try simp only [pts]
              refine wpG 13 ?_ rfl (by kernel_rfl) (fun _ _ _ h => h) (by rfl) (fun wx => ?_) hS ?_
              rotate_left
              · go_simp; (try with_reducible rfl)
              try simp only [pts]
              refine wpG 14 ?_ rfl (by kernel_rfl) (fun _ _ _ h => h) (by rfl) (fun wx => ?_) hS ?_
              rotate_left
              · go_simp; (try with_reducible rfl)
              try simp only [pts]
              refine wpAnyG_one (i := 15) rfl (by kernel_rfl) (fun K hK => ?_)
              go_simp
              have hX1c : Below wr.heap.size wr (w6.alloc (.cells Try.zeroCells45 45)) := hS6.alloc hS6.size _
              clear hS
              have hS : Below wr.heap.size wr (w6.alloc (.cells Try.zeroCells45 45)) := hX1c
              have hm1 : Blk (w6.alloc (.cells Try.zeroCells45 45)) (wr.heap.size) 64 _ := hm.alloc _
              clear hm
              have hm := hm1
              have hz : Blk (w6.alloc (.cells Try.zeroCells45 45)) (w6.heap.size) 45 Try.zeroCells45 := Blk.at_ w6 (w6.heap.size) _ _ (by simp)
              have hO1 := own_below hO ((Below.refl _ _).alloc (Nat.le_refl _) (.cells Try.zeroCells45 45)) (fun x hx => (hO.lt x hx).2)
              have hV1 := hV.next ((Below.refl _ _).alloc (Nat.le_refl _) (.cells Try.zeroCells45 45))
              clear hO hV
              have hO := hO1
              have hV := hV1
              clear hO1 hV1
              refine hK.out _ _ hS ?_
              clear hK K
              try simp only [pts]
              have hsz : (Try.zeroCells45).size = 74 := by kernel_rfl
              refine wpAnyG_one (i := 17) rfl (by kernel_rfl) (fun K hK => ?_)
              rw [if_pos (by rfl)]
              refine wp_store_row 45 (.tmp 8) (.tmp 44) rfl (w6.heap.size) _ _ (NA (n1 i) (.slice A' (bs1 i).length c')) rfl rfl hz (by rw [NA_size, hsz]) (by rw [NA_size]; exact infoNode) (NA_one _ _ _ _) (fun w7 hN7 hg7 => ?_)
              have hS7 := hS.grown hg7 hS.size (fun j hj => by cases hj; omega)
              refine hK.out _ _ hS7 ?_
              clear hK K
              try simp only [pts]
              refine wpAnyG_last rfl (by kernel_rfl) (by kernel_rfl) (by kernel_rfl) (fun K hK => ?_)
              rw [if_pos (by rfl)]
              refine wp_store_row 64 (.tmp 9) (.tmp 45) rfl (wr.heap.size) _ _ #[.int .i64 kd, .int .i64 (i : Int), .int .i64 r, .slice Am (vals i).length cm] rfl rfl (hm.grown hg7 (by intro e; have := Option.some.inj e; omega)) rfl infoMsg4 (by simp [Value.oneCell']) (fun w8 hM8 hg8 => ?_)
              refine hK.out _ _ ?_
              clear hK K
              try simp only [pts]
              go_wp2_with fail
              go_meet
              exact ph_cut (by omega) (by omega) (by omega) hz hm hO hV hS hN7 hg7 hM8 hg8 (fun ad e => by have := hne6 ad e; simp at this; omega)
            · go_simp
              have hX2 : Below wr.heap.size wr ((wr.alloc (.cells #[.int .i64 0, .int .i64 0, .int .i64 0, .slice none 0 0] 64)).alloc (.cells Try.zeroCells45 45)) := hX1.alloc hX1.size _
              clear hS
              have hS : Below wr.heap.size wr ((wr.alloc (.cells #[.int .i64 0, .int .i64 0, .int .i64 0, .slice none 0 0] 64)).alloc (.cells Try.zeroCells45 45)).drew := hX2.drew
              have hm1 : Blk ((wr.alloc (.cells #[.int .i64 0, .int .i64 0, .int .i64 0, .slice none 0 0] 64)).alloc (.cells Try.zeroCells45 45)).drew (wr.heap.size) 64 _ := hm.alloc _
              clear hm
              have hm := hm1
              have hz : Blk ((wr.alloc (.cells #[.int .i64 0, .int .i64 0, .int .i64 0, .slice none 0 0] 64)).alloc (.cells Try.zeroCells45 45)).drew (wr.heap.size + 1) 45 Try.zeroCells45 := Blk.at_ (wr.alloc (.cells #[.int .i64 0, .int .i64 0, .int .i64 0, .slice none 0 0] 64)) (wr.heap.size + 1) _ _ (by simp)
              refine hK.out _ _ hS ?_
              clear hK K
              try simp only [pts]
              refine wpAnyG_one (i := 11) rfl (by kernel_rfl) (fun K hK => ?_)
              go_simp
              (with_reducible refine (KF.out _ hS).mono ?_)
              rintro e w6 ⟨A', c', Am, cm, rfl, hO6, hV6, hB6⟩
              have hs0 := hS.size
              have hS6 := hS.trans (hB6.mono hs0)
              have hs6 := hS6.size
              have hsz6 := hB6.size
              have hlz := Blk.lt hz
              have hz6 := hz.next hB6
              clear hz
              have hz := hz6
              have hlm := Blk.lt hm
              have hm6 := hm.next hB6
              clear hm
              have hm := hm6
              have hne6 : ∀ ad, Am = some ad → (((wr.alloc (.cells #[.int .i64 0, .int .i64 0, .int .i64 0, .slice none 0 0] 64)).alloc (.cells Try.zeroCells45 45)).drew).heap.size ≤ ad.block ∧ ad.block < w6.heap.size := fun ad e => ⟨(hV6.2.2.2 ad e).2.1, (hV6.2.2.2 ad e).2.2.1⟩
              have hO := own_le hO6 hs0
              have hV := hV6.down hs0
              clear hO6 hV6 hB6 hS
              have hS := hS6
              refine hK.out _ _ hS ?_
              clear hK K
              try simp only [pts]
              refine wpG 12 ?_ rfl (by kernel_rfl) (fun _ _ _ h => h) (by rfl) (fun wx => ?_) hS ?_
              rotate_left
              · go_simp; (try with_reducible rfl)
              try simp only [pts]
              refine wpG 13 ?_ rfl (by kernel_rfl) (fun _ _ _ h => h) (by rfl) (fun wx => ?_) hS ?_
              rotate_left
              · go_simp; (try with_reducible rfl)
              try simp only [pts]
              refine wpG 14 ?_ rfl (by kernel_rfl) (fun _ _ _ h => h) (by rfl) (fun wx => ?_) hS ?_
              rotate_left
              · go_simp; (try with_reducible rfl)
              try simp only [pts]
              have hsz : (Try.zeroCells45).size = 74 := by kernel_rfl
              refine wpAnyG_one (i := 17) rfl (by kernel_rfl) (fun K hK => ?_)
              rw [if_pos (by rfl)]
              refine wp_store_row 45 (.tmp 8) (.tmp 44) rfl (wr.heap.size + 1) _ _ (NA (n1 i) (.slice A' (bs1 i).length c')) rfl rfl hz (by rw [NA_size, hsz]) (by rw [NA_size]; exact infoNode) (NA_one _ _ _ _) (fun w7 hN7 hg7 => ?_)
              have hS7 := hS.grown hg7 hS.size (fun j hj => by cases hj; omega)
              refine hK.out _ _ hS7 ?_
              clear hK K
              try simp only [pts]
              refine wpAnyG_last rfl (by kernel_rfl) (by kernel_rfl) (by kernel_rfl) (fun K hK => ?_)
              rw [if_pos (by rfl)]
              refine wp_store_row 64 (.tmp 9) (.tmp 45) rfl (wr.heap.size) _ _ #[.int .i64 kd, .int .i64 (i : Int), .int .i64 r, .slice Am (vals i).length cm] rfl rfl (hm.grown hg7 (by intro e; have := Option.some.inj e; omega)) rfl infoMsg4 (by simp [Value.oneCell']) (fun w8 hM8 hg8 => ?_)
              refine hK.out _ _ ?_
              clear hK K
              try simp only [pts]
              go_wp2_with fail
              go_meet
              exact ph_cut (by omega) (by omega) (by omega) hz hm hO hV hS hN7 hg7 hM8 hg8 (fun ad e => by have := hne6 ad e; simp at this; omega)
        case rest =>
          obtain ⟨q8, q9, A', c', Am, cm, rfl, rfl, hN8, hM9, hO9, hV9, hB9, hq9⟩ := hcut
          have HN8 := Lib.hid hN8
          have HM9 := Lib.hid hM9
          have HO9 := Lib.hid hO9
          have HV9 := Lib.hid hV9
          have HB9 := Lib.hid hB9
          have HRc := Lib.hid (HR.out.next hB9)
          clear hN8 hM9 hO9 hV9 hB9 KF HNR HOB
          go_upto_region 8 with fail
          refine wp_region_G 7 (fun w' => RunB w' g ⟨fr, mixN y.bad n0 n1 i, va'⟩ y bx' ∧ Blk w' q8 45 (NA (n1 i) (.slice A' (bs1 i).length c'))) (by kernel_rfl) (⟨HRc.out.next (Below.refl _ _).drew, HN8.out.next (Below.refl _ _).drew⟩) (fun hS => ?_)
          refine wpG 0 ?_ rfl (by kernel_rfl) (fun _ _ _ h => h) (by rfl) (fun wx => ?_) hS ?_
          rotate_left
          · go_simp; (try with_reducible rfl)
          try simp only [pts]
          refine wpG 1 ?_ rfl (by kernel_rfl) (fun _ _ _ h => h) (by rfl) (fun wx => ?_) hS ?_
          rotate_left
          · go_simp; (try with_reducible rfl)
          try simp only [pts]
          refine wpT 2 (.agg (NA (n1 i) (.slice A' (bs1 i).length c'))) rfl (by kernel_rfl) (fun _ _ _ h => h) (Or.inl ⟨by rfl, fun wx hSw => exec_load_row 45 (.tmp 8) rfl q8 rfl _ _ _ hSw.2 Try.underlying45 rfl (by rw [NA_size]; exact infoNode)⟩) hS ?_
          try simp only [pts]
          refine wpG 3 ?_ rfl (by kernel_rfl) (fun _ _ _ h => h) (by rfl) (fun wx => ?_) hS ?_
          rotate_left
          · go_simp; (try with_reducible rfl)
          try simp only [pts]
          refine wpG 4 ?_ rfl (by kernel_rfl) (fun _ _ _ h => h) (by rfl) (fun wx => ?_) hS ?_
          rotate_left
          · go_simp; (try with_reducible rfl)
          try simp only [pts]
          refine wpG 5 ?_ rfl (by kernel_rfl) (fun _ _ _ h => h) (by rfl) (fun wx => ?_) hS ?_
          rotate_left
          · go_simp; (try with_reducible rfl)
          try simp only [pts]
          refine wpG 6 ?_ rfl (by kernel_rfl) (fun _ _ _ h => h) (by rfl) (fun wx => ?_) hS ?_
          rotate_left
          · go_simp; (try with_reducible rfl)
          try simp only [pts]
          refine wpAnyG_last rfl (by kernel_rfl) (by kernel_rfl) (by kernel_rfl) (fun K hK => ?_)
          rw [if_pos (by rfl)]
          refine wp_store_run (.tmp 52) (.tmp 48) rfl g i (n1 i) A' (bs1 i).length c' hi rfl rfl hS.1 (fun w9 hR9 hg9 => ?_)
          have HR9 := Lib.hid hR9
          have HG9 := Lib.hid hg9
          clear hR9 hg9 hS
          refine hK.out _ _ ?_
          clear hK K
          try simp only [pts]
          have hbc : Below wr.heap.size wr wc.drew := HB9.out.drew
          have hgl := Blk.lt HR.out
          have hm9 : Blk w9 q9 64 #[.int .i64 kd, .int .i64 (i : Int), .int .i64 r, .slice Am (vals i).length cm] := (HM9.out.next (Below.refl wc.heap.size wc).drew).grown HG9.out (by intro e; have h1 := Option.some.inj e; omega)
          have hv9 := (HV9.out.next (Below.refl wc.heap.size wc).drew).grown HG9.out (fun ad e => by have := (HV9.out.2.2.2 ad e).2.1; omega)
          have ho9 : wc.drew.ownsRow wr.heap.size 4 1 (.slice A' (bs1 i).length c') (bs1 i).length (bs1 i) := HO9.out
          have hb9 := (HBx.out.next hbc).run (HR.out.next hbc) (by decide) HG9.out
          have KP := Lib.hid (post_any kd (i : Int) r Am (vals i).length cm (vals i) i g w.heap.size _ y bx' Ms' w9 rfl hi HR9.out hb9 hv9.1 (HVI.out i hi HBD.out) (HRI.out i hi) (Nat.le_trans HG.out.size (Nat.le_trans hbc.size HG9.out.size)) (fun t ht => Nat.le_trans (HML.out t ht) (by decide)))
          have m0 := hm9.cell 0
          have m1 := hm9.cell 1
          have m2 := hm9.cell 2
          have m3 := hm9.cell 3
          (simp only [List.getElem?_toArray, List.getElem?_cons_zero, List.getElem?_cons_succ] at m0 m1 m2 m3)
          have HBC := Lib.hid hbc
          have HO9' := Lib.hid ho9
          clear hbc hm9 hv9 ho9 hb9 HO9 HV9 HM9 HN8 HB9 HRc
          go_wp2_with (first
            | (go_at_call 65; (with_reducible refine KP.out.mono ?_); rintro e w10 hp; obtain rfl := hp.1; have HP := Lib.hid hp; clear hp))
          go_roundw
          case rel => exact PhRel.good hi hg0 hB0 HR.out HBx.out HAg.out HMs.out HG.out HO.out HBD.out HBC.out HO9'.out HR9.out HG9.out rfl HP.out
          case measure => simp [intOf]; omega
    · obtain rfl : i = 4 := by omega
      have hD := PhRel.done (⟨4, va', bx', Ms', rfl, by omega, HR.out, HBx.out, HAg.out, HMs.out, HG.out, HO.out⟩ : PhRel g B y k Ls fr n0 n1 bs0 bs1 obx (fun i : Nat => ⟨kd, i, r, vals i⟩) w (.int .i64 4) wr) hBg hB0
      have HD := Lib.hid hD
      clear hD
      go_wp2_with fail
      go_end0
      exact HD.out
end Go.Proofs.Ytofeoeknmlkjgaa.Nk
end
