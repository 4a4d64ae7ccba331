/- The walk of FilterStill: a reading at the place itself moves nothing. -/
import Derived.Test.YtflaanfmanileaaFilOpen
set_option linter.unusedVariables false
namespace Go.Proofs.Ytflaanfmanileaa.lawFilterStill
open Go.RowKit Go.Proofs.Ytflaanfmanileaa Fx Fi
attribute [local go_sem ↓] Go.wp_at_zero Go.wp_at_succ

theorem mul_nought (a : Int) : cl (mulZ a 0) = 0 := by unfold mulZ cl; simp
theorem nought_mul (a : Int) : cl (mulZ 0 a) = 0 := by unfold mulZ cl; simp
theorem still {s : St} {t : Tu} (hx : Fx.In s.x) (hv : s.v = 0) (hok : stepOk s t s.x = true) : (stepS s t s.x).x = s.x ∧ (stepS s t s.x).v = 0 := by
  have hp : (predS s t.dt t.q).x = s.x ∧ (predS s t.dt t.q).v = 0 := by
    unfold predS
    simp only
    rw [hv, nought_mul, Int.add_zero]
    exact ⟨(cl_in hx).1, rfl⟩
  unfold stepS
  unfold stepOk at hok
  generalize predS s t.dt t.q = u at *
  obtain ⟨h1, h2⟩ := hp
  unfold updS
  rw [if_pos hok]
  unfold updY
  simp only
  have hz : cl (s.x - u.x) = 0 := by rw [h1, Int.sub_self]; unfold cl; simp
  rw [hz, mul_nought, mul_nought, Int.add_zero, Int.add_zero, h1, h2]
  exact ⟨(cl_in hx).1, by unfold cl; simp⟩

set_option maxRecDepth 100000 in
set_option maxHeartbeats 2000000 in
theorem walk1 (x v p q r m dt Q R g : Int) (b : Bool) (hs : (St.mk x v p q r b m).In) (ht : (Tu.mk dt Q R g).In) (w : World) :
    Calls Try.prog 18 #[(St.mk x v p q r b m).val, (Tu.mk dt Q R g).val] w fun e w' => e = .returned (.bool true) ∧ Below w.heap.size w w' := by
  have hs' : (St.mk x 0 p q r b m).In := ⟨hs.1, by show Fx.In 0; unfold Fx.In; omega, hs.2.2⟩
  have ht' : (Tu.mk dt Q R 4294967296).In := ⟨ht.1, ht.2.1, ht.2.2.1, by show Fx.In 4294967296; unfold Fx.In; omega⟩
  have ks := fun W => Step_any ⟨x, 0, p, q, r, b, m⟩ ⟨dt, Q, R, 4294967296⟩ x hs' ht' hs.1 W
  have hst := still (s := ⟨x, 0, p, q, r, b, m⟩) (t := ⟨dt, Q, R, 4294967296⟩) hs.1 rfl
  simp only at hst
  generalize stepS ⟨x, 0, p, q, r, b, m⟩ ⟨dt, Q, R, 4294967296⟩ x = u at *
  generalize stepOk ⟨x, 0, p, q, r, b, m⟩ ⟨dt, Q, R, 4294967296⟩ x = ok at *
  unfold St.val Tu.val at ks
  obtain ⟨ux, uv, up, uq, ur, ub, um⟩ := u
  simp only at hst ks
  have KS := Lib.hid ks
  have HST := Lib.hid hst
  have P := Lib.hid ((Blk.new w 57 #[.int .i64 x, .int .i64 0, .int .i64 p, .int .i64 q, .int .i64 r, .bool b, .int .i64 m]).alloc (.cells #[.int .i64 dt, .int .i64 Q, .int .i64 R, .int .i64 4294967296] 62))
  have B := Lib.hid (((Below.refl w.heap.size w).alloc (Nat.le_refl _) (.cells #[.int .i64 x, .int .i64 0, .int .i64 p, .int .i64 q, .int .i64 r, .bool b, .int .i64 m] 57)).alloc (by simp) (.cells #[.int .i64 dt, .int .i64 Q, .int .i64 R, .int .i64 4294967296] 62))
  unfold St.val Tu.val
  clear ks hst hs ht hs' ht'
  go_enter Try.func18, Try.ntmps18
  go_wp2_with fail
  refine (KS.out _).mono ?_
  rintro e w1 ⟨rfl, hB1⟩
  have h1 := below_next B.out hB1
  have P1 := Lib.hid ((P.out.next hB1).alloc (.cells #[.int .i64 ux, .int .i64 uv, .int .i64 up, .int .i64 uq, .int .i64 ur, .bool ub, .int .i64 um] 57))
  have Q1 := Lib.hid (Blk.new w1 57 #[.int .i64 ux, .int .i64 uv, .int .i64 up, .int .i64 uq, .int .i64 ur, .bool ub, .int .i64 um])
  have B1 := Lib.hid (h1.alloc h1.size (.cells #[.int .i64 ux, .int .i64 uv, .int .i64 up, .int .i64 uq, .int .i64 ur, .bool ub, .int .i64 um] 57))
  clear hB1 h1 P B
  go_wp2_with fail
  refine (follows_any _).mono ?_
  rintro e w2 ⟨rfl, hB2⟩
  have c0 := (P1.out.next hB2).cell 0
  have d0 := (Q1.out.next hB2).cell 0
  have d1 := (Q1.out.next hB2).cell 1
  simp only [List.getElem?_toArray, List.getElem?_cons_zero, List.getElem?_cons_succ] at c0 d0 d1
  have B2 := Lib.hid (below_next B1.out hB2)
  clear hB2 P1 Q1 B1
  cases ok
  · go_wp2_with fail
    go_ret
    exact ⟨rfl, B2.out⟩
  · obtain ⟨rfl, rfl⟩ := HST.out rfl
    have tx : (ux == ux) = true := by simp
    go_wp2_with fail
    go_ret
    exact ⟨rfl, B2.out⟩

set_option maxRecDepth 100000 in
theorem walk {H : Type} {enc : TypeId × Value → H} {d0 d1 : DataW H} {p0 p1 : List MemPlace} (v0 v1 : Value) (W : World) (base : Nat)
    (h0 : Value.okWide Try.prog W .any base 57 v0) (_ : DataW.Trod enc Try.prog W 0 (fun _ => true) true 57 v0 d0 p0)
    (h1 : Value.okWide Try.prog W .any base 62 v1) (_ : DataW.Trod enc Try.prog W 0 (fun _ => true) true 62 v1 d1 p1) :
    Calls Try.prog 18 #[v0, v1] W fun e w' => e = .returned (.bool true) ∧ Below W.heap.size W w' := by
  obtain ⟨⟨x, v, p, q, r, b, m⟩, rfl, hs⟩ := state_in h0
  obtain ⟨⟨dt, Q, R, g⟩, rfl, ht⟩ := tun_in h1
  exact walk1 x v p q r m dt Q R g b hs ht W
end Go.Proofs.Ytflaanfmanileaa.lawFilterStill
