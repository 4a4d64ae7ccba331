/- The walk of AgreeSame: all good nodes take the same for said. -/
import Derived.Test.YtllgjbjcdenchaaAgreeLaw
set_option linter.unusedVariables false
namespace Go.Proofs.Ytllgjbjcdenchaa.lawAgreeSame
open Go.RowKit Go.Proofs.Ytllgjbjcdenchaa Mj Ag
attribute [local go_sem ↓] Go.wp_at_zero Go.wp_at_succ

set_option maxRecDepth 100000 in
set_option maxHeartbeats 4000000 in
theorem walk1 (A : Option Addr) (n c : Nat) (zs : List Int) (x0 x1 x2 x3 bad : Int) (w : World) (h : Ints w .i64 A n zs) (hA : A = none → n = 0 ∧ c = 0) (hn : n ≤ 17592186044416) :
    Calls Try.prog 12 #[.agg #[.int .i64 x0, .int .i64 x1, .int .i64 x2, .int .i64 x3], .int .i64 bad, .slice A n c] w fun e w' => e = .returned (.bool true) ∧ Below w.heap.size w w' := by
  obtain ⟨i0, hi, hz0, hz1, hz2⟩ := info_parts infoInt
  have h16 := size16
  have q16 := eq16
  have H0 := Lib.hid (h.alloc (.cells #[.int .i64 x0, .int .i64 x1, .int .i64 x2, .int .i64 x3] 30))
  have HA := Lib.hid hA
  have HS := Lib.hid (fun w' hb => vals_of (w := w) (w' := w') (x0 := x0) (x1 := x1) (x2 := x2) (x3 := x3) hb)
  clear h hA
  go_enter Try.func12, Try.ntmps12
  go_upto_region 1 with fail
  go_cut [7] (fun s7 wx => Cut1 w x0 x1 x2 x3 bad s7 wx)
  case first =>
    have hb : Below (w.heap.size + 1) (w.alloc (.cells #[.int .i64 x0, .int .i64 x1, .int .i64 x2, .int .i64 x3] 30)) (w.alloc (.cells #[.int .i64 x0, .int .i64 x1, .int .i64 x2, .int .i64 x3] 30)).drew := (Below.refl _ _).drew
    have hz : w.heap.size + 1 ≤ (w.alloc (.cells #[.int .i64 x0, .int .i64 x1, .int .i64 x2, .int .i64 x3] 30)).drew.heap.size := by show _ ≤ (w.heap.push _).size; simp
    have hb0 := Below.refl (w.heap.size + 1) (w.alloc (.cells #[.int .i64 x0, .int .i64 x1, .int .i64 x2, .int .i64 x3] 30))
    have hz' : w.heap.size + 1 ≤ ((w.alloc (.cells #[.int .i64 x0, .int .i64 x1, .int .i64 x2, .int .i64 x3] 30)).alloc (.cells #[Value.int .i64 0, Value.int .i64 0, Value.int .i64 0, Value.int .i64 0, Value.int .i64 0, Value.int .i64 0, Value.int .i64 0, Value.int .i64 0, Value.int .i64 0, Value.int .i64 0, Value.int .i64 0, Value.int .i64 0, Value.int .i64 0, Value.int .i64 0, Value.int .i64 0, Value.int .i64 0] 51)).drew.heap.size := by show _ ≤ ((w.heap.push _).push _).size; simp
    go_region_held3 (fun w' => w'.cell? ⟨w.heap.size, 0, none⟩ = some (.int .i64 x0) ∧ w'.cell? ⟨w.heap.size, 1, none⟩ = some (.int .i64 x1) ∧ w'.cell? ⟨w.heap.size, 2, none⟩ = some (.int .i64 x2) ∧ w'.cell? ⟨w.heap.size, 3, none⟩ = some (.int .i64 x3))
      ((refine HS.out _ ?_; first | with_reducible exact hb | ((with_reducible refine b1_alloc ?_); with_reducible exact hb) | ((with_reducible refine b1_set ?_ hgz); first | with_reducible exact hb | ((with_reducible refine b1_alloc ?_); with_reducible exact hb)) | ((with_reducible refine b1_drew ?_); (with_reducible refine b1_alloc ?_); with_reducible exact hb0)))
      (first
        | (refine step_append_ints rfl (.const (.slice none 0 0)) (.tmp 13) 38 rfl (w.heap.size + 1) 3 i0 (.int .i64 0) .i64 8 Try.underlying38 hi hz0 hz1 hz2 rfl (.slice none 0 0) 0 [] (by simp [Act.eval]) (World.ownsRow_nil _ _ _ _) A n c zs (by simp [Act.eval]) HA.out (by first | exact H0.out.drew | exact (H0.out.alloc _).drew) (by unfold maxLen; omega) (by omega) (by first | exact hz | exact hz') ?_; intro v2 w2 hown2 hg2; (simp only [Nat.zero_add, List.nil_append] at hown2); obtain ⟨A2, c2, rfl⟩ := own_shape hown2; have hI2 := Ints.own hown2; have hA2 := own_addr_lt hown2; (first | (have hb2 := hb.grown hg2 hz (fun j hj => by cases hj)) | (have hb2 := (b1_drew (b1_alloc hb0)).grown hg2 hz' (fun j hj => by cases hj); have hB1 := (Blk.at_ _ (w.heap.size + 1) 51 #[Value.int .i64 0, Value.int .i64 0, Value.int .i64 0, Value.int .i64 0, Value.int .i64 0, Value.int .i64 0, Value.int .i64 0, Value.int .i64 0, Value.int .i64 0, Value.int .i64 0, Value.int .i64 0, Value.int .i64 0, Value.int .i64 0, Value.int .i64 0, Value.int .i64 0, Value.int .i64 0] (by show _ = (w.heap.push _).size; simp)).drew.grown hg2 (by intro e; cases e))); clear hb; have hb := hb2; clear hb2)
        | (go_at_call 33; (with_reducible refine (vectors_any x0 x1 x2 x3 bad A2 n c2 zs _ ?hi ?hA (by omega)).mono ?_); (case hi => first | exact hI2 | exact hI2.alloc _); (case hA => first | exact hA2 | exact fun ad e => Nat.lt_trans (hA2 ad e) (by simp)); rintro e w3 ⟨M, rfl, hag, hbV⟩; have HAG := Lib.hid hag; clear hag; have hts : (tab M).size = 16 := rfl;
            (first
              | (have hb3 := hb.trans (hbV.mono (below_sz hb)); (first | (have hBk := hB1.next hbV) | (have hBk := Blk.new w3 51 #[Value.int .i64 0, Value.int .i64 0, Value.int .i64 0, Value.int .i64 0, Value.int .i64 0, Value.int .i64 0, Value.int .i64 0, Value.int .i64 0, Value.int .i64 0, Value.int .i64 0, Value.int .i64 0, Value.int .i64 0, Value.int .i64 0, Value.int .i64 0, Value.int .i64 0, Value.int .i64 0])))
              | (have hb3 := (hb.alloc (below_sz hb) _).trans (hbV.mono (below_sz (hb.alloc (below_sz hb) _))); have hBk := (Blk.new w2 51 #[Value.int .i64 0, Value.int .i64 0, Value.int .i64 0, Value.int .i64 0, Value.int .i64 0, Value.int .i64 0, Value.int .i64 0, Value.int .i64 0, Value.int .i64 0, Value.int .i64 0, Value.int .i64 0, Value.int .i64 0, Value.int .i64 0, Value.int .i64 0, Value.int .i64 0, Value.int .i64 0]).next hbV));
            have hst := run_storeCells_blk (P := Try.prog) hBk (show (tab M).size = 16 from rfl) (tab_one M); have hs3 := below_sz hb3; have hgz := gz_of hBk (b := w.heap.size + 1) (by first | exact hs3 | exact below_sz hb | exact Nat.le_refl _); have HBk := Lib.hid hBk; clear hBk; clear hb; have hb := hb3; clear hb3 hbV))
    all_goals (go_wp2_with fail; go_meet; have hov := HBk.out.over (vs := tab M) rfl; refine ⟨_, M, rfl, hgz, ?_, HAG.out, ?_⟩)
    all_goals first | with_reducible exact hov | with_reducible exact b1_set hb hgz | with_reducible exact b1_set (b1_alloc hb) hgz
  case rest =>
    obtain ⟨g, M, rfl, hgw, hT, hM, hB⟩ := hcut
    have HT := Lib.hid hT
    have HM := Lib.hid hM
    have HB := Lib.hid hB
    have hgl := hT.lt
    clear hT hM hB HS H0 HA
    go_wp2_with fail
    refine (vectors_any 5 6 7 8 (-1) none 0 0 [] wc (Ints.nil _ _ _) (fun _ e => by cases e) (by omega)).mono ?_
    rintro e w1 ⟨M1, rfl, hM1, hB1⟩
    have h5 := agr5 M1 hM1
    have HT2 := Lib.hid ((HT.out.next hB1).alloc (.cells #[Value.int .i64 0, Value.int .i64 0, Value.int .i64 0, Value.int .i64 0, Value.int .i64 0, Value.int .i64 0, Value.int .i64 0, Value.int .i64 0, Value.int .i64 0, Value.int .i64 0, Value.int .i64 0, Value.int .i64 0, Value.int .i64 0, Value.int .i64 0, Value.int .i64 0, Value.int .i64 0] 51))
    have HB2 := Lib.hid (b1_alloc (o' := .cells #[Value.int .i64 0, Value.int .i64 0, Value.int .i64 0, Value.int .i64 0, Value.int .i64 0, Value.int .i64 0, Value.int .i64 0, Value.int .i64 0, Value.int .i64 0, Value.int .i64 0, Value.int .i64 0, Value.int .i64 0, Value.int .i64 0, Value.int .i64 0, Value.int .i64 0, Value.int .i64 0] 51) (HB.out.trans (hB1.mono (below_sz HB.out))))
    have hn1 := Blk.new w1 51 #[Value.int .i64 0, Value.int .i64 0, Value.int .i64 0, Value.int .i64 0, Value.int .i64 0, Value.int .i64 0, Value.int .i64 0, Value.int .i64 0, Value.int .i64 0, Value.int .i64 0, Value.int .i64 0, Value.int .i64 0, Value.int .i64 0, Value.int .i64 0, Value.int .i64 0, Value.int .i64 0]
    have HN1 := Lib.hid hn1
    have hz1 := hB1.size
    have H5 := Lib.hid h5
    clear hM1 hB1 hn1 h5 HT HB
    go_wp2_with (refine wpList_store_blk rfl 51 (.tmp 8) (.tmp 17) rfl w1.heap.size _ _ (tab M1) rfl rfl HN1.out rfl (by kernel_rfl) (tab_one M1) ?_; intro w2 hR2 hg2; have HT3 := Lib.hid (HT2.out.grown hg2 (by intro e; cases e; omega)); have HB3 := Lib.hid (HB2.out.grown hg2 (below_sz HB2.out) (fun j hj => by cases hj; have := hgl; omega)); rw [tab5 M1 H5.out] at hR2; have e0 := hR2.cell 0; have e1 := hR2.cell 1; have e2 := hR2.cell 2; have e3 := hR2.cell 3; have e4 := hR2.cell 4; have e5 := hR2.cell 5; have e6 := hR2.cell 6; have e7 := hR2.cell 7; have e8 := hR2.cell 8; have e9 := hR2.cell 9; have e10 := hR2.cell 10; have e11 := hR2.cell 11; have e12 := hR2.cell 12; have e13 := hR2.cell 13; have e14 := hR2.cell 14; have e15 := hR2.cell 15; (simp only [List.getElem?_toArray, List.getElem?_cons_zero, List.getElem?_cons_succ] at e0 e1 e2 e3 e4 e5 e6 e7 e8 e9 e10 e11 e12 e13 e14 e15); clear hg2 hR2 HT2 HB2 HN1)
    go_loopw [9] (fun i wr => ∃ k m : Nat, k ≤ 4 ∧ i = .int .i64 k ∧ wr = w2.drewN m) (fun i _ => 4 - (intOf i).toNat)
    case atStart => exact ⟨0, 0, by omega, rfl, rfl⟩
    case round =>
      obtain ⟨p, m, hp, rfl, rfl⟩ := hrel
      by_cases hp4 : p < 4
      · go_wp2_with fail
        go_loopw [10] (fun i wr => ∃ k m : Nat, k ≤ 4 ∧ i = .int .i64 k ∧ wr = w2.drewN m) (fun i _ => 4 - (intOf i).toNat)
        case atStart => exact ⟨0, m, by omega, rfl, rfl⟩
        case round =>
          obtain ⟨s, m, hs, rfl, rfl⟩ := hrel
          by_cases hs4 : s < 4
          · have z1 : (0 : Int) ≤ (p : Int) := by omega
            have z2 : (0 : Int) ≤ (s : Int) := by omega
            have z3 : (p : Int) < 4 := by omega
            have z4 : (s : Int) < 4 := by omega
            by_cases hpb : (p : Int) = bad
            · have t1 : ((p : Int) != bad) = false := by rw [hpb]; simp
              clear hpb
              go_wp2_with fail
              go_quiet (fail)
              go_wp2_with fail
              go_roundw
              case rel => exact ⟨s + 1, _, by omega, by go_num, rfl⟩
              case measure => simp [intOf]; omega
            · have t1 : ((p : Int) != bad) = true := by rw [bne_iff_ne]; exact hpb
              have HPB := Lib.hid hpb
              clear hpb
              by_cases hsb : (s : Int) = bad
              · have t2 : ((s : Int) != bad) = false := by rw [hsb]; simp
                clear hsb
                go_wp2_with fail
                go_quiet (fail)
                go_wp2_with fail
                go_roundw
                case rel => exact ⟨s + 1, _, by omega, by go_num, rfl⟩
                case measure => simp [intOf]; omega
              · have t2 : ((s : Int) != bad) = true := by rw [bne_iff_ne]; exact hsb
                have hM0 := (HM.out 0 (by omega)).2 p s hp4 hs4 HPB.out hsb
                have hM1 := (HM.out 1 (by omega)).2 p s hp4 hs4 HPB.out hsb
                have hM2 := (HM.out 2 (by omega)).2 p s hp4 hs4 HPB.out hsb
                have hM3 := (HM.out 3 (by omega)).2 p s hp4 hs4 HPB.out hsb
                have c0 := (HT3.out.cell (p * 4 + 0)).trans (tab_get M hp4 (show 0 < 4 by omega))
                have c1 := (HT3.out.cell (p * 4 + 1)).trans (tab_get M hp4 (show 1 < 4 by omega))
                have c2 := (HT3.out.cell (p * 4 + 2)).trans (tab_get M hp4 (show 2 < 4 by omega))
                have c3 := (HT3.out.cell (p * 4 + 3)).trans (tab_get M hp4 (show 3 < 4 by omega))
                have d0 := (HT3.out.cell (s * 4 + 0)).trans (tab_get M hs4 (show 0 < 4 by omega))
                have d1 := (HT3.out.cell (s * 4 + 1)).trans (tab_get M hs4 (show 1 < 4 by omega))
                have d2 := (HT3.out.cell (s * 4 + 2)).trans (tab_get M hs4 (show 2 < 4 by omega))
                have d3 := (HT3.out.cell (s * 4 + 3)).trans (tab_get M hs4 (show 3 < 4 by omega))
                simp only [Nat.add_zero] at hM0 hM1 hM2 hM3 c0 d0
                rw [← hM0] at d0
                rw [← hM1] at d1
                rw [← hM2] at d2
                rw [← hM3] at d3
                have q4 := eq4 (M p 0) (M p 1) (M p 2) (M p 3)
                generalize M p 0 = y0 at *
                generalize M p 1 = y1 at *
                generalize M p 2 = y2 at *
                generalize M p 3 = y3 at *
                clear hM0 hM1 hM2 hM3 hsb
                go_wp2_with fail
                go_quiet (fail)
                go_wp2_with fail
                go_roundw
                case rel => exact ⟨s + 1, _, by omega, by go_num, rfl⟩
                case measure => simp [intOf]; omega
          · obtain rfl : s = 4 := by omega
            go_wp2_with fail
            go_roundw
            case rel => exact ⟨p + 1, _, by omega, by go_num, rfl⟩
            case measure => simp [intOf]; omega
      · obtain rfl : p = 4 := by omega
        go_wp2_with fail
        go_ret
        exact ⟨rfl, ((((Below.refl w.heap.size w).alloc (Nat.le_refl _) _).trans (HB3.out.mono (by omega))).trans (below_drewN _ _ _))⟩

theorem walk {H : Type} {enc : TypeId × Value → H} {d0 d1 d2 : DataW H} {p0 p1 p2 : List MemPlace} (v0 v1 v2 : Value) (W : World) (base : Nat)
    (h0 : Value.okWide Try.prog W .any base 30 v0) (_ : DataW.Trod enc Try.prog W 0 (fun _ => true) true 30 v0 d0 p0)
    (h1 : Value.okWide Try.prog W .any base 3 v1) (_ : DataW.Trod enc Try.prog W 0 (fun _ => true) true 3 v1 d1 p1)
    (h2 : Value.okWide Try.prog W .any base 38 v2) (k2 : DataW.Trod enc Try.prog W 0 (fun _ => true) true 38 v2 d2 p2)
    (s2 : ∀ es sp, d2 = .slice es sp → (es.length + sp.length) * Try.prog.bytesOf 3 ≤ reachBytes) :
    Calls Try.prog 12 #[v0, v1, v2] W fun e w' => e = .returned (.bool true) ∧ Below W.heap.size W w' := by
  obtain ⟨x0, x1, x2, x3, rfl, _⟩ := ok_ints4 (.inr ⟨_, _, Try.underlying30⟩) (by kernel_rfl) (by kernel_rfl) Try.underlying3 h0
  obtain ⟨y, rfl, _⟩ := ok_int Try.underlying3 h1
  obtain ⟨A, n, c, rfl, hnc, _, hA, _⟩ := ok_slice Try.underlying38 h2
  obtain ⟨zs, hI, _, _, hr⟩ := ints_in Try.underlying38 Try.underlying3 (by kernel_rfl) k2 s2
  have hb : Try.prog.bytesOf 3 = 8 := by kernel_rfl
  rw [hb] at hr
  exact walk1 A n c zs x0 x1 x2 x3 y W hI hA (by unfold reachBytes at hr; omega)
end Go.Proofs.Ytllgjbjcdenchaa.lawAgreeSame
