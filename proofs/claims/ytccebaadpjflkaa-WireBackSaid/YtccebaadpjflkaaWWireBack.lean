/- The walk of WireBack: a message that can be encoded is decoded as it was. -/
import Derived.Test.YtccebaadpjflkaaWireLaw
set_option linter.unusedVariables false
namespace Go.Proofs.Ytccebaadpjflkaa.lawWireBack
open Go.RowKit Go.Proofs.Ytccebaadpjflkaa Crc Ro Wr

set_option maxRecDepth 100000 in
set_option maxHeartbeats 1000000 in
theorem walk1 (k f r : Int) (A : Option Addr) (n c : Nat) (vs : List Int) (w : World) (h : Ints w .i64 A n vs) (hv : ∀ v ∈ vs, In64 v) (hA : A = none → n = 0 ∧ c = 0) (hn : n * 8 ≤ 140737488355328) :
    Calls Try.prog 5 #[.agg #[.int .i64 k, .int .i64 f, .int .i64 r, .slice A n c]] w fun e w' => e = .returned (.bool true) ∧ Below w.heap.size w w' := by
  have HP := Lib.hid (Blk.new w 57 #[.int .i64 k, .int .i64 f, .int .i64 r, .slice A n c])
  have HB := Lib.hid ((Below.refl w.heap.size w).alloc (Nat.le_refl _) (.cells #[.int .i64 k, .int .i64 f, .int .i64 r, .slice A n c] 57))
  have HI := Lib.hid (h.alloc (.cells #[.int .i64 k, .int .i64 f, .int .i64 r, .slice A n c] 57))
  have HA := Lib.hid hA
  have HV := Lib.hid hv
  have HL := Lib.hid h.1
  clear h hA hv
  go_enter Try.func5, Try.ntmps5
  go_wp2_with fail
  refine (message_any k f r A n c vs _ HI.out HA.out hn).mono ?_
  rintro e w1 ⟨A1, c1, rfl, hown1, hB1⟩
  have P1 := Lib.hid (HP.out.next hB1)
  have I1 := Lib.hid (HI.out.next hB1)
  have B1 := Lib.hid (below_next HB.out hB1)
  have O1 := Lib.hid hown1
  clear hB1 hown1 HP HI HB
  by_cases hr : rightE k f r n = 0
  · have hn24 := (right0.1 hr).2.2.2.2.2.2
    have HR := Lib.hid hr
    clear hr
    go_wp2_with fail
    refine (enc_ok k f r A1 n c1 vs _ (Ints.own O1.out) HV.out HR.out).mono ?_
    rintro e w2 ⟨A2, c2, rfl, hown2, hB2⟩
    have P2 := Lib.hid (P1.out.next hB2)
    have I2 := Lib.hid (I1.out.next hB2)
    have B2 := Lib.hid (below_next B1.out hB2)
    have O2 := Lib.hid hown2
    clear hB2 hown2 P1 I1 B1 O1
    go_wp2_with fail
    refine (dec_ok A2 n c2 k f r vs _ w (by rw [HL.out]; exact HR.out) HV.out HL.out (own_le O2.out (Nat.zero_le _))).mono ?_
    rintro e w3 ⟨A3, c3, rfl, hown3, hB3⟩
    have P3 := Lib.hid ((P2.out.next hB3).alloc (.cells #[.int .i64 k, .int .i64 f, .int .i64 r, .slice A3 n c3] 57))
    have I3 := Lib.hid ((I2.out.next hB3).alloc (.cells #[.int .i64 k, .int .i64 f, .int .i64 r, .slice A3 n c3] 57))
    have B3 := Lib.hid ((below_next B2.out hB3).alloc (below_next B2.out hB3).size (.cells #[.int .i64 k, .int .i64 f, .int .i64 r, .slice A3 n c3] 57))
    have J3 := Lib.hid ((Ints.own hown3).alloc (.cells #[.int .i64 k, .int .i64 f, .int .i64 r, .slice A3 n c3] 57))
    have Q3 := Lib.hid (Blk.new w3 57 #[.int .i64 k, .int .i64 f, .int .i64 r, .slice A3 n c3])
    clear hB3 hown3 P2 I2 B2 O2
    go_wp2_with fail
    refine (tells_any _).mono ?_
    rintro e w4 ⟨rfl, hB4⟩
    have P4 := P3.out.next hB4
    have Q4 := Q3.out.next hB4
    have I4 := Lib.hid (I3.out.next hB4)
    have J4 := Lib.hid (J3.out.next hB4)
    have B4 := Lib.hid (below_next B3.out hB4)
    have d0 := P4.cell 0
    have d1 := P4.cell 1
    have d2 := P4.cell 2
    have d3 := P4.cell 3
    have e0 := Q4.cell 0
    have e1 := Q4.cell 1
    have e2 := Q4.cell 2
    have e3 := Q4.cell 3
    simp only [List.getElem?_toArray, List.getElem?_cons_zero, List.getElem?_cons_succ] at d0 d1 d2 d3 e0 e1 e2 e3
    clear hB4 P4 Q4 P3 I3 B3 J3 Q3
    go_wp2_with fail
    refine (sameMsg_true k f r A A3 n c c3 vs _ I4.out J4.out (by omega)).mono ?_
    rintro e w5 ⟨rfl, hB5⟩
    have B5 := Lib.hid (below_next B4.out hB5)
    have hle : (8 : Int) + 8 * (n : Int) + 4 ≤ 220 := by omega
    clear hB5
    go_wp2_with fail
    go_ret
    exact ⟨rfl, B5.out⟩
  · have hb : (rightE k f r n != 0) = true := by rw [bne_iff_ne]; exact hr
    have HR := Lib.hid hr
    clear hr
    go_wp2_with fail
    refine (Encode_any k f r A1 n c1 vs _ (Ints.own O1.out) HV.out (by omega)).mono ?_
    rintro e w2 hp
    rcases hp with ⟨h0, _⟩ | ⟨_, rfl, hB2⟩
    · exact absurd h0 HR.out
    have B2 := Lib.hid (below_next B1.out hB2)
    clear hB2
    generalize rightE k f r n = er at *
    go_wp2_with fail
    refine (tells_any _).mono ?_
    rintro e w3 ⟨rfl, hB3⟩
    have B3 := Lib.hid (below_next B2.out hB3)
    clear hB3
    go_wp2_with fail
    go_ret
    exact ⟨rfl, B3.out⟩

set_option maxRecDepth 100000 in
theorem walk {H : Type} {enc : TypeId × Value → H} {d0 : DataW H} {p0 : List MemPlace} (v0 : Value) (W : World) (base : Nat)
    (h0 : Value.okWide Try.prog W .any base 57 v0) (k0 : DataW.Trod enc Try.prog W 0 (fun _ => true) true 57 v0 d0 p0)
    (s0 : ∀ x ∈ d0.weights Try.prog 57, x ≤ reachBytes) :
    Calls Try.prog 5 #[v0] W fun e w' => e = .returned (.bool true) ∧ Below W.heap.size W w' := by
  obtain ⟨K, F, R, A, n, c, zs, rfl, hI, hz, hA, _, hn, _⟩ := msg_in h0 k0 s0
  exact walk1 K F R A n c zs W hI hz hA (by omega)
end Go.Proofs.Ytccebaadpjflkaa.lawWireBack
