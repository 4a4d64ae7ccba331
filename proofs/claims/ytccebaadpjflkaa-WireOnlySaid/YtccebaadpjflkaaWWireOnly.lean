/- The walk of WireOnly: bytes that are decoded as a message are that message's bytes. -/
import Derived.Test.YtccebaadpjflkaaWireLaw
set_option linter.unusedVariables false
namespace Go.Proofs.Ytccebaadpjflkaa.lawWireOnly
open Go.RowKit Go.Proofs.Ytccebaadpjflkaa Crc Ro Wr

set_option maxRecDepth 100000 in
set_option maxHeartbeats 1000000 in
theorem walk1 (A : Option Addr) (n c : Nat) (zs : List Int) (w : World) (h : Ints w .u8 A n zs) (hA : A = none → n = 0 ∧ c = 0) (hn : n ≤ 140737488351232) (hz : Byts zs) :
    Calls Try.prog 6 #[.slice A n c] w fun e w' => e = .returned (.bool true) ∧ Below w.heap.size w w' := by
  have H := Lib.hid h
  have HA := Lib.hid hA
  have HZ := Lib.hid hz
  clear h hA hz
  go_enter Try.func6, Try.ntmps6
  go_wp2_with fail
  refine (bytes_any A n c zs _ H.out HA.out (by omega)).mono ?_
  rintro e w1 ⟨A1, c1, rfl, hown1, hB1⟩
  go_wp2_with fail
  refine (Decode_any A1 n c1 zs _ (Ints.own hown1) (own_none hown1).2.2 (by omega) HZ.out).mono ?_
  rintro e w2 hp
  rcases hp with ⟨k, f, r, vs, A2, c2, hm, rfl, hown2, hB2⟩ | ⟨er, her, _, rfl, hB2⟩
  · have B2 := below_next hB1 hB2
    have B3 := Lib.hid (B2.alloc B2.size (.cells #[.int .i64 k, .int .i64 f, .int .i64 r, .slice A2 vs.length c2] 57))
    have J3 := Lib.hid ((Ints.own hown2).alloc (.cells #[.int .i64 k, .int .i64 f, .int .i64 r, .slice A2 vs.length c2] 57))
    have HM := Lib.hid hm
    clear hown1 hown2 hB1 hB2 B2 hm
    generalize hN : vs.length = N at *
    have HN := Lib.hid hN
    clear hN
    go_wp2_with fail
    refine (enc_ok k f r A2 N c2 vs _ J3.out HM.out.2.1 (by have := HM.out.1; rw [HN.out] at this; exact this)).mono ?_
    rintro e w4 ⟨A4, c4, rfl, hown4, hB4⟩
    have B4 := Lib.hid (below_next B3.out hB4)
    have O4 := Lib.hid hown4
    clear hown4 hB4
    go_wp2_with fail
    refine (tells_any _).mono ?_
    rintro e w5 ⟨rfl, hB5⟩
    have B5 := Lib.hid (below_next B4.out hB5)
    have q1 := conv_ints (P := Try.prog) (dst := 9) Try.underlying58 Try.underlying5 Try.underlying9 ((Ints.own O4.out).next hB5) (own_none O4.out).1
    have q2 := conv_ints (P := Try.prog) (dst := 9) Try.underlying58 Try.underlying5 Try.underlying9 (H.out.next B5.out) HA.out
    rw [← HM.out.2.2] at q1
    generalize strOfNums zs = str at q1 q2
    clear hB5
    go_wp2_with fail
    go_ret
    exact ⟨rfl, B5.out⟩
  · have hb : (er != 0) = true := by rw [bne_iff_ne]; exact her
    have B2 := below_next hB1 hB2
    have B3 := Lib.hid (B2.alloc B2.size (.cells #[.int .i64 0, .int .i64 0, .int .i64 0, .slice none 0 0] 57))
    have Q3 := Lib.hid (Blk.new w2 57 #[.int .i64 0, .int .i64 0, .int .i64 0, .slice none 0 0])
    clear hown1 hB1 hB2 B2 her
    unfold zMsg
    go_wp2_with fail
    refine (tells_any _).mono ?_
    rintro e w4 ⟨rfl, hB4⟩
    have B4 := Lib.hid (below_next B3.out hB4)
    have Q4 := Q3.out.next hB4
    have e0 := Q4.cell 0
    have e1 := Q4.cell 1
    have e2 := Q4.cell 2
    have e3 := Q4.cell 3
    simp only [List.getElem?_toArray, List.getElem?_cons_zero, List.getElem?_cons_succ] at e0 e1 e2 e3
    clear hB4 Q4
    go_wp2_with fail
    refine (sameMsg_true 0 0 0 none none 0 0 0 [] _ (Ints.nil _ _ _) (Ints.nil _ _ _) (by omega)).mono ?_
    rintro e w5 ⟨rfl, hB5⟩
    have B5 := Lib.hid (below_next B4.out hB5)
    clear hB5
    go_wp2_with fail
    go_ret
    exact ⟨rfl, B5.out⟩

set_option maxRecDepth 100000 in
theorem walk {H : Type} {enc : TypeId × Value → H} {d0 : DataW H} {p0 : List MemPlace} (v0 : Value) (W : World) (base : Nat)
    (h0 : Value.okWide Try.prog W .any base 58 v0) (k0 : DataW.Trod enc Try.prog W 0 (fun _ => true) true 58 v0 d0 p0)
    (s0 : ∀ x ∈ d0.weights Try.prog 58, x ≤ reachBytes) :
    Calls Try.prog 6 #[v0] W fun e w' => e = .returned (.bool true) ∧ Below W.heap.size W w' := by
  obtain ⟨A, n, c, rfl, hnc, _, hA, _⟩ := ok_slice Try.underlying58 h0
  have hb : Try.prog.bytesOf 5 = 1 := by kernel_rfl
  obtain ⟨zs, hI, hw, _, hr⟩ := ints_in Try.underlying58 Try.underlying5 (by kernel_rfl) k0 (fun es sp he => s0 _ (by rw [he]; simp [DataW.weights, Try.underlying58]))
  rw [hb] at hr
  exact walk1 A n c zs W hI hA (by unfold reachBytes at hr; omega) (fun z hz => bounds_u8 (hw z hz))
end Go.Proofs.Ytccebaadpjflkaa.lawWireOnly
