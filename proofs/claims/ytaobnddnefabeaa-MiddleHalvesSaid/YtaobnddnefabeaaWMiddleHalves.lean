/- The walk of MiddleHalves: two lies move the middle by at most half of what the good ones are apart, and a half. -/
import Derived.Test.YtaobnddnefabeaaMidLaw
import Derived.Deep.CutRange
import Derived.Deep.DeepCutAuto
set_option linter.unusedVariables false
namespace Go.Proofs.Ytaobnddnefabeaa.lawMiddleHalves
open Go.RowKit Go.Proofs.Ytaobnddnefabeaa Md

theorem in64_of {x : Int} (h : IntKind.i64.has x) : In64 x := by unfold In64; unfold IntKind.has at h; simp [IntKind.min, IntKind.max, IntKind.signed, IntKind.bits] at h; omega
theorem ints4 {W : World} {g : Nat} {t : TypeId} {a b c d : Int} (h : Blk W g t #[.int .i64 a, .int .i64 b, .int .i64 c, .int .i64 d]) : Ints W .i64 (some ⟨g, 0, none⟩) 4 [a, b, c, d] :=
  ⟨rfl, fun _ => ⟨g, 0, rfl, h.lt, fun j hj => by
    rw [Nat.zero_add, h.cell j]
    match j, hj with
    | 0, _ => rfl
    | 1, _ => rfl
    | 2, _ => rfl
    | 3, _ => rfl⟩⟩
/-- the first k numbers counted round -/
def gk (p q r : Int) (k : Nat) : Array Value := #[.int .i64 (if 0 < k then p else 0), .int .i64 (if 1 < k then q else 0), .int .i64 (if 2 < k then r else 0)]
def Rel (w : World) (x y z p q r : Int) (iv : Value) (W : World) : Prop := ∃ k : Nat, k ≤ 3 ∧ iv = .int .i64 k ∧ Blk W w.heap.size 57 #[.int .i64 x, .int .i64 y, .int .i64 z] ∧ Blk W (w.heap.size + 1) 57 (gk p q r k) ∧ Below w.heap.size w W

def Cut13 (p q r : Int) (w : World) (s : Value) (wx : World) : Prop := ∃ v, s = .int .i64 v ∧ v = max (max p q) r - min (min p q) r ∧ w = wx
theorem Cut13.mk {p q r : Int} {w : World} (v : Int) (h : v = max (max p q) r - min (min p q) r) : Cut13 p q r w (.int .i64 v) w := ⟨v, rfl, h, rfl⟩

set_option maxRecDepth 100000 in
set_option maxHeartbeats 2000000 in
theorem walk1 (x y z a b : Int) (ia : In64 a) (ib : In64 b) (w : World) :
    Calls Try.prog 11 #[.agg #[.int .i64 x, .int .i64 y, .int .i64 z], .int .i64 a, .int .i64 b] w fun e w' => e = .returned (.bool true) ∧ Below w.heap.size w w' := by
  have kp := fun W => spot_any x 1099511627776 W (by omega) (by omega)
  have kq := fun W => spot_any y 1099511627776 W (by omega) (by omega)
  have kr := fun W => spot_any z 1099511627776 W (by omega) (by omega)
  have p1 := Int.emod_nonneg x (b := 1099511627776) (by omega)
  have p2 := Int.emod_lt_of_pos x (b := 1099511627776) (by omega)
  have q1 := Int.emod_nonneg y (b := 1099511627776) (by omega)
  have q2 := Int.emod_lt_of_pos y (b := 1099511627776) (by omega)
  have r1 := Int.emod_nonneg z (b := 1099511627776) (by omega)
  have r2 := Int.emod_lt_of_pos z (b := 1099511627776) (by omega)
  generalize x % 1099511627776 = p at *
  generalize y % 1099511627776 = q at *
  generalize z % 1099511627776 = r at *
  have ip : In64 p := by unfold In64; omega
  have iq : In64 q := by unfold In64; omega
  have ir : In64 r := by unfold In64; omega
  have hh := mid_halves p q r a b
  have gm := mid_guard (lies := [a]) (good := [p, q, r]) (by simp) (lo := 0) (hi := 1099511627775) (by simp; omega)
  have gn := mid_guard (lies := [b]) (good := [p, q, r]) (by simp) (lo := 0) (hi := 1099511627775) (by simp; omega)
  rw [mid_perm (List.perm_append_comm (l₁ := [a]) (l₂ := [p, q, r]))] at gm
  simp only [List.cons_append, List.nil_append] at gm gn
  have km := fun W g (hI : Ints W .i64 (some ⟨g, 0, none⟩) 4 [p, q, r, a]) => Middle_ok (some ⟨g, 0, none⟩) 4 4 [p, q, r, a] (by omega) (by omega) W hI (by simp; exact ⟨ip, iq, ir, ia⟩)
  have kn := fun W g (hI : Ints W .i64 (some ⟨g, 0, none⟩) 4 [b, p, q, r]) => Middle_ok (some ⟨g, 0, none⟩) 4 4 [b, p, q, r] (by omega) (by omega) W hI (by simp; exact ⟨ib, ip, iq, ir⟩)
  generalize midZ [p, q, r, a] = m at *
  generalize midZ [b, p, q, r] = n at *
  obtain ⟨gm1, gm2⟩ := gm
  obtain ⟨gn1, gn2⟩ := gn
  obtain ⟨h1, h2⟩ := hh
  have KP := Lib.hid kp
  have KQ := Lib.hid kq
  have KR := Lib.hid kr
  have KM := Lib.hid km
  have KN := Lib.hid kn
  have H1 := Lib.hid h1
  have H2 := Lib.hid h2
  have P0 := Lib.hid ((Blk.new w 57 #[.int .i64 x, .int .i64 y, .int .i64 z]).alloc (.cells #[.int .i64 0, .int .i64 0, .int .i64 0] 57))
  have G0 := Lib.hid (Blk.at_ (w.alloc (.cells #[.int .i64 x, .int .i64 y, .int .i64 z] 57)) (w.heap.size + 1) 57 #[.int .i64 0, .int .i64 0, .int .i64 0] (by simp))
  have B0 := Lib.hid (((Below.refl w.heap.size w).alloc (Nat.le_refl _) (.cells #[.int .i64 x, .int .i64 y, .int .i64 z] 57)).alloc (by simp) (.cells #[.int .i64 0, .int .i64 0, .int .i64 0] 57))
  clear kp kq kr km kn h1 h2 ip iq ir ia ib
  go_enter Try.func11, Try.ntmps11
  go_wp2_with fail
  go_loopw [8] (fun i wr => Rel w x y z p q r i wr) (fun i _ => 3 - (intOf i).toNat)
  case atStart => exact ⟨0, by omega, rfl, P0.out, G0.out, B0.out⟩
  case round =>
    obtain ⟨k, hk, rfl, hP, hG, hB⟩ := hrel
    by_cases hk3 : k < 3
    · have HP := Lib.hid hP
      have HG := Lib.hid hG
      have HB := Lib.hid hB
      unfold gk at HG
      have e0 := hP.cell 0
      have e1 := hP.cell 1
      have e2 := hP.cell 2
      have d0 := hG.cell 0
      have d1 := hG.cell 1
      have d2 := hG.cell 2
      have f0 := hG.frozen 0
      have f1 := hG.frozen 1
      have f2 := hG.frozen 2
      simp only [gk, List.getElem?_toArray, List.getElem?_cons_zero, List.getElem?_cons_succ] at e0 e1 e2 d0 d1 d2
      clear hP hG hB
      rcases (show k = 0 ∨ k = 1 ∨ k = 2 by omega) with rfl | rfl | rfl
      · go_wp2_with (go_at_call 16; (with_reducible refine (KP.out _).mono ?_); rintro e w1 ⟨rfl, rfl⟩)
        go_roundw
        case rel => exact ⟨1, by omega, rfl, HP.out.far (by simp) _, HG.out.set_ 0 _, HB.out.setCell (by simp) _⟩
        case measure => simp [intOf]
      · go_wp2_with (go_at_call 16; (with_reducible refine (KQ.out _).mono ?_); rintro e w1 ⟨rfl, rfl⟩)
        go_roundw
        case rel => exact ⟨2, by omega, rfl, HP.out.far (by simp) _, HG.out.set_ 1 _, HB.out.setCell (by simp) _⟩
        case measure => simp [intOf]
      · go_wp2_with (go_at_call 16; (with_reducible refine (KR.out _).mono ?_); rintro e w1 ⟨rfl, rfl⟩)
        go_roundw
        case rel => exact ⟨3, by omega, rfl, HP.out.far (by simp) _, HG.out.set_ 2 _, HB.out.setCell (by simp) _⟩
        case measure => simp [intOf]
    · obtain rfl : k = 3 := by omega
      have d0 := hG.cell 0
      have d1 := hG.cell 1
      have d2 := hG.cell 2
      simp only [gk, List.getElem?_toArray, List.getElem?_cons_zero, List.getElem?_cons_succ, Nat.reduceLT, if_true] at d0 d1 d2
      have J1 := Lib.hid (fun W (hW : Below wr.heap.size wr W) => (show W.cell? ⟨w.heap.size + 1, 0, none⟩ = some (.int .i64 p) ∧ W.cell? ⟨w.heap.size + 1, 1, none⟩ = some (.int .i64 q) ∧ W.cell? ⟨w.heap.size + 1, 2, none⟩ = some (.int .i64 r) from
        ⟨(hG.next hW).cell 0, (hG.next hW).cell 1, (hG.next hW).cell 2⟩))
      have HB := Lib.hid hB
      clear hP hG hB P0 G0 B0
      go_wp2_with fail
      refine (KM.out _ _ (ints4 (Blk.new wr 3 _))).mono ?_
      rintro e w1 ⟨rfl, hB1⟩
      have hF1 := below_next ((Below.refl wr.heap.size wr).alloc (Nat.le_refl _) _) hB1
      clear hB1 d0 d1 d2
      obtain ⟨d0, d1, d2⟩ := J1.out _ hF1
      have F1 := Lib.hid hF1
      clear hF1
      go_wp2_with fail
      refine (KN.out _ _ (ints4 (Blk.new w1 3 _))).mono ?_
      rintro e w2 ⟨rfl, hB2⟩
      have hF2 := below_next (F1.out.alloc F1.out.size _) hB2
      clear hB2 d0 d1 d2 F1
      obtain ⟨d0, d1, d2⟩ := J1.out _ hF2
      have F2 := Lib.hid hF2
      clear hF2
      go_upto_region 8 with fail
      go_cut [13] (fun s13 wx => Cut13 p q r w2 s13 wx)
      case first =>
        have hS := Cut13.mk (p := p) (q := q) (r := r) (w := w2)
        go_wp2_with fail
        all_goals go_meet
        all_goals exact hS _ (by (try split) <;> (try split) <;> (try split) <;> (try split) <;> omega)
      case rest =>
       obtain ⟨v, rfl, v3, rfl⟩ := hcut
       have v12 : 0 ≤ v ∧ v ≤ 1099511627775 := by omega
       obtain ⟨v1, v2⟩ := v12
       have t1 : decide (2 * (m - n) ≤ v + 1) = true := by rw [v3]; exact decide_eq_true H1.out
       have t2 : decide (-2 * (m - n) ≤ v + 1) = true := by rw [v3]; exact decide_eq_true H2.out
       have B2 := Lib.hid (below_next HB.out F2.out)
       clear v3 d0 d1 d2 J1 F2 HB
       go_wp2_with fail
       refine (middles_any _).mono ?_
       rintro e w3 ⟨rfl, hB3⟩
       have B3 := Lib.hid (below_next B2.out hB3)
       clear hB3
       go_wp2_with fail
       go_ret
       exact ⟨rfl, B3.out⟩

set_option maxRecDepth 100000 in
theorem walk {H : Type} {enc : TypeId × Value → H} {d0 d1 d2 : DataW H} {p0 p1 p2 : List MemPlace} (v0 v1 v2 : Value) (W : World) (base : Nat)
    (h0 : Value.okWide Try.prog W .any base 57 v0) (_ : DataW.Trod enc Try.prog W 0 (fun _ => true) true 57 v0 d0 p0)
    (h1 : Value.okWide Try.prog W .any base 3 v1) (_ : DataW.Trod enc Try.prog W 0 (fun _ => true) true 3 v1 d1 p1)
    (h2 : Value.okWide Try.prog W .any base 3 v2) (_ : DataW.Trod enc Try.prog W 0 (fun _ => true) true 3 v2 d2 p2) :
    Calls Try.prog 11 #[v0, v1, v2] W fun e w' => e = .returned (.bool true) ∧ Below W.heap.size W w' := by
  obtain ⟨x, y, z, rfl, _, _, _⟩ := ok_ints3 (u := 3) (.inr ⟨_, _, Try.underlying57⟩) (by kernel_rfl) (by kernel_rfl) Try.underlying3 h0
  obtain ⟨a, rfl, ha⟩ := ok_int Try.underlying3 h1
  obtain ⟨b, rfl, hb⟩ := ok_int Try.underlying3 h2
  exact walk1 x y z a b (in64_of ha) (in64_of hb) W
end Go.Proofs.Ytaobnddnefabeaa.lawMiddleHalves
