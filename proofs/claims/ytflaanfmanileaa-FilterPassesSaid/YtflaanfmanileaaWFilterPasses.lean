/- The walk of FilterPasses: a reading that is passed over changes nothing but the count, and one that is taken sets it to 0. -/
import Derived.Test.YtflaanfmanileaaFilOpen
set_option linter.unusedVariables false
namespace Go.Proofs.Ytflaanfmanileaa.lawFilterPasses
open Go.RowKit Go.Proofs.Ytflaanfmanileaa Fx Fi
attribute [local go_sem ↓] Go.wp_at_zero Go.wp_at_succ

theorem updS_yes {s : St} {z R gate : Int} (h : updOk s z R gate = true) : (updS s z R gate).m = 0 := by
  unfold updS; rw [if_pos h]; rfl
theorem updS_no {s : St} {z R gate : Int} (h : updOk s z R gate = false) : updS s z R gate = updN s := by
  unfold updS; rw [if_neg (by rw [h]; simp)]

set_option maxRecDepth 100000 in
set_option maxHeartbeats 2000000 in
theorem walk1 (s : St) (z R gate : Int) (hs : s.In) (iz : Fx.In z) (iR : Fx.In R) (ig : Fx.In gate) (w : World) :
    Calls Try.prog 17 #[s.val, .int .i64 z, .int .i64 R, .int .i64 gate] w fun e w' => e = .returned (.bool true) ∧ Below w.heap.size w w' := by
  have ku := fun W => Update_any s z R gate hs iz iR ig W
  have hm := @updS_yes s z R gate
  have hn := @updS_no s z R gate
  have hb := updS_bent s z R gate
  generalize updS s z R gate = u at *
  generalize updOk s z R gate = ok at *
  unfold St.val at ku
  cases ok with
  | true =>
    obtain ⟨ux, uv, up, uq, ur, ub, um⟩ := u
    obtain ⟨x, v, p, q, r, b, m⟩ := s
    obtain rfl : um = 0 := hm rfl
    simp only at hb ku
    have hbb : (!b || ub) = true := by cases b; rfl; rw [hb rfl]; rfl
    have KU := Lib.hid ku
    have P := Lib.hid (Blk.new w 57 #[.int .i64 x, .int .i64 v, .int .i64 p, .int .i64 q, .int .i64 r, .bool b, .int .i64 m])
    have B := Lib.hid ((Below.refl w.heap.size w).alloc (Nat.le_refl _) (.cells #[.int .i64 x, .int .i64 v, .int .i64 p, .int .i64 q, .int .i64 r, .bool b, .int .i64 m] 57))
    unfold St.val
    clear ku hm hn hb hs iz iR ig
    go_enter Try.func17, Try.ntmps17
    go_wp2_with fail
    refine (KU.out _).mono ?_
    rintro e w1 ⟨rfl, hB1⟩
    have h1 := below_next B.out hB1
    have B1 := Lib.hid (h1.alloc h1.size (.cells #[.int .i64 ux, .int .i64 uv, .int .i64 up, .int .i64 uq, .int .i64 ur, .bool ub, .int .i64 0] 57))
    have P1 := Lib.hid ((P.out.next hB1).alloc (.cells #[.int .i64 ux, .int .i64 uv, .int .i64 up, .int .i64 uq, .int .i64 ur, .bool ub, .int .i64 0] 57))
    have Q1 := Lib.hid (Blk.new w1 57 #[.int .i64 ux, .int .i64 uv, .int .i64 up, .int .i64 uq, .int .i64 ur, .bool ub, .int .i64 0])
    clear hB1 h1 P B
    go_wp2_with fail
    refine (follows_any _).mono ?_
    rintro e w2 ⟨rfl, hB2⟩
    have c5 := (P1.out.next hB2).cell 5
    have d5 := (Q1.out.next hB2).cell 5
    have d6 := (Q1.out.next hB2).cell 6
    simp only [List.getElem?_toArray, List.getElem?_cons_zero, List.getElem?_cons_succ] at c5 d5 d6
    have B2 := Lib.hid (below_next B1.out hB2)
    clear hB2 P1 Q1 B1
    cases b
    · go_wp2_with fail
      go_ret
      exact ⟨rfl, B2.out⟩
    · obtain rfl : ub = true := by simpa using hbb
      go_wp2_with fail
      go_ret
      exact ⟨rfl, B2.out⟩
  | false =>
    obtain rfl := hn rfl
    obtain ⟨x, v, p, q, r, b, m⟩ := s
    unfold updN at ku
    simp only at ku
    have KU := Lib.hid ku
    have P := Lib.hid (Blk.new w 57 #[.int .i64 x, .int .i64 v, .int .i64 p, .int .i64 q, .int .i64 r, .bool b, .int .i64 m])
    have B := Lib.hid ((Below.refl w.heap.size w).alloc (Nat.le_refl _) (.cells #[.int .i64 x, .int .i64 v, .int .i64 p, .int .i64 q, .int .i64 r, .bool b, .int .i64 m] 57))
    unfold St.val
    clear ku hm hn hb hs iz iR ig
    go_enter Try.func17, Try.ntmps17
    go_wp2_with fail
    refine (KU.out _).mono ?_
    rintro e w1 ⟨rfl, hB1⟩
    have h1 := below_next B.out hB1
    have p0 := P.out.next hB1
    have c6 := (p0.alloc (.cells #[.int .i64 x, .int .i64 v, .int .i64 p, .int .i64 q, .int .i64 r, .bool b, .int .i64 (wrap64 (m + 1))] 57)).cell 6
    have f6 := (p0.alloc (.cells #[.int .i64 x, .int .i64 v, .int .i64 p, .int .i64 q, .int .i64 r, .bool b, .int .i64 (wrap64 (m + 1))] 57)).frozen 6
    simp only [List.getElem?_toArray, List.getElem?_cons_zero, List.getElem?_cons_succ] at c6
    have hlt := p0.lt
    have P1 := Lib.hid ((p0.set_ 6 (.int .i64 (wrap64 (m + 1)))).alloc (.cells #[.int .i64 x, .int .i64 v, .int .i64 p, .int .i64 q, .int .i64 r, .bool b, .int .i64 (wrap64 (m + 1))] 57))
    have Q1 := Lib.hid (Blk.at_ (w1.setCell ⟨w.heap.size, 6, none⟩ (.int .i64 (wrap64 (m + 1)))) w1.heap.size 57 #[.int .i64 x, .int .i64 v, .int .i64 p, .int .i64 q, .int .i64 r, .bool b, .int .i64 (wrap64 (m + 1))] (by simp))
    have B2 := Lib.hid ((h1.setCell (p := ⟨w.heap.size, 6, none⟩) (by simp) (.int .i64 (wrap64 (m + 1)))).alloc (by simp; exact h1.size) (.cells #[.int .i64 x, .int .i64 v, .int .i64 p, .int .i64 q, .int .i64 r, .bool b, .int .i64 (wrap64 (m + 1))] 57))
    clear hB1 h1 P B p0
    go_wp2_with fail
    refine (follows_any _).mono ?_
    rintro e w2 ⟨rfl, hB2⟩
    obtain ⟨c0, c1, c2, c3, c4, c5, c6'⟩ := SB.c (s := ⟨x, v, p, q, r, b, wrap64 (m + 1)⟩) (P1.out.next hB2)
    obtain ⟨d0, d1, d2, d3, d4, d5, d6⟩ := SB.c (s := ⟨x, v, p, q, r, b, wrap64 (m + 1)⟩) (Q1.out.next hB2)
    simp only at c0 c1 c2 c3 c4 c5 c6' d0 d1 d2 d3 d4 d5 d6
    have B3 := Lib.hid (below_next B2.out hB2)
    have hq := state_eq x v p q r (wrap64 (m + 1)) b
    clear hB2 P1 Q1 B2 c6 f6
    go_wp2_with fail
    go_ret
    exact ⟨rfl, B3.out⟩

set_option maxRecDepth 100000 in
theorem walk {H : Type} {enc : TypeId × Value → H} {d0 d1 d2 d3 : DataW H} {p0 p1 p2 p3 : List MemPlace} (v0 v1 v2 v3 : Value) (W : World) (base : Nat)
    (h0 : Value.okWide Try.prog W .any base 57 v0) (_ : DataW.Trod enc Try.prog W 0 (fun _ => true) true 57 v0 d0 p0)
    (h1 : Value.okWide Try.prog W .any base 3 v1) (_ : DataW.Trod enc Try.prog W 0 (fun _ => true) true 3 v1 d1 p1)
    (h2 : Value.okWide Try.prog W .any base 3 v2) (_ : DataW.Trod enc Try.prog W 0 (fun _ => true) true 3 v2 d2 p2)
    (h3 : Value.okWide Try.prog W .any base 3 v3) (_ : DataW.Trod enc Try.prog W 0 (fun _ => true) true 3 v3 d3 p3) :
    Calls Try.prog 17 #[v0, v1, v2, v3] W fun e w' => e = .returned (.bool true) ∧ Below W.heap.size W w' := by
  obtain ⟨s, rfl, hs⟩ := state_in h0
  obtain ⟨x, rfl, i1⟩ := ok_int Try.underlying3 h1
  obtain ⟨y, rfl, i2⟩ := ok_int Try.underlying3 h2
  obtain ⟨z, rfl, i3⟩ := ok_int Try.underlying3 h3
  exact walk1 s x y z hs (in_of i1) (in_of i2) (in_of i3) W
end Go.Proofs.Ytflaanfmanileaa.lawFilterPasses
