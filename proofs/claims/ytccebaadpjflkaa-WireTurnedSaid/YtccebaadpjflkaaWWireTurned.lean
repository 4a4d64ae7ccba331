/- The walk of WireTurned: bytes of a message of which up to 32 bits in a row are turned are refused. -/
import Derived.Test.YtccebaadpjflkaaWireLaw
import Derived.Test.YtccebaadpjflkaaBurst
set_option linter.unusedVariables false
namespace Go.Proofs.Ytccebaadpjflkaa.lawWireTurned
open Go.RowKit Go.Proofs.Ytccebaadpjflkaa Crc Ro Wr

set_option maxRecDepth 100000 in
set_option maxHeartbeats 1000000 in
theorem walk1 (k f r : Int) (A : Option Addr) (n c : Nat) (vs : List Int) (x mask : Int) (w : World) (h : Ints w .i64 A n vs) (hv : ∀ v ∈ vs, In64 v) (hA : A = none → n = 0 ∧ c = 0) (hn : n * 8 ≤ 140737488355328) :
    Calls Try.prog 7 #[.agg #[.int .i64 k, .int .i64 f, .int .i64 r, .slice A n c], .int .i64 x, .int .i64 mask] w fun e w' => e = .returned (.bool true) ∧ Below w.heap.size w w' := by
  have HB := Lib.hid ((Below.refl w.heap.size w).alloc (Nat.le_refl _) (.cells #[.int .i64 k, .int .i64 f, .int .i64 r, .slice A n c] 57))
  have HI := Lib.hid (h.alloc (.cells #[.int .i64 k, .int .i64 f, .int .i64 r, .slice A n c] 57))
  have HA := Lib.hid hA
  have HV := Lib.hid hv
  have HL := Lib.hid h.1
  clear h hA hv
  go_enter Try.func7, Try.ntmps7
  go_wp2_with fail
  refine (message_any k f r A n c vs _ HI.out HA.out hn).mono ?_
  rintro e w1 ⟨A1, c1, rfl, hown1, hB1⟩
  have B1 := Lib.hid (below_next HB.out hB1)
  have O1 := Lib.hid hown1
  clear hB1 hown1 HI HB
  by_cases hr : rightE k f r n = 0
  · have hn24 := (right0.1 hr).2.2.2.2.2.2
    have HR := Lib.hid hr
    clear hr
    go_wp2_with fail
    refine (enc_ok k f r A1 n c1 vs _ (Ints.own O1.out) HV.out HR.out).mono ?_
    rintro e w2 ⟨A2, c2, rfl, hown2, hB2⟩
    have B2 := Lib.hid (below_next B1.out hB2)
    have O2 := Lib.hid hown2
    clear hB2 hown2 B1 O1
    go_wp2_with fail
    refine (burst_any A2 (8 + 8 * n + 4) c2 (sealed (encB k f r vs)) x mask _ (Ints.own O2.out) (own_none O2.out).1 (by omega) (by omega) (sealed_in _ (encB_in k f r vs (by rw [HL.out]; exact HR.out)))).mono ?_
    rintro e w3 ⟨A3, c3, zs', N, q, rfl, ⟨hown3, hB3⟩, hst, hq⟩
    have B3 := Lib.hid (below_next B2.out hB3)
    have hlen : zs'.length = (8 + 8 * n) + 4 := by rw [hst.1, sealed_len, encB_len, HL.out]
    have hno : ∀ k f r vs, ¬ IsMsg zs' k f r vs := by
      intro k' f' r' vs' hm
      have ht := hm.tail
      rw [hlen, Nat.add_sub_cancel] at ht
      exact turned _ zs' N q hst hq (8 + 8 * n) hlen ht
    have HNO := Lib.hid hno
    have HZ := Lib.hid hst.2.1
    have O3 := Lib.hid hown3
    clear hB3 hown3 B2 O2 hst hq hlen hno
    go_wp2_with fail
    refine (Decode_any A3 (8 + 8 * n + 4) c3 zs' _ (Ints.own O3.out) (own_none O3.out).2.2 (by omega) HZ.out).mono ?_
    rintro e w4 hp
    obtain ⟨er, her, rfl, hB4⟩ := hp.bad HNO.out
    have hb : (er != 0) = true := by rw [bne_iff_ne]; exact her
    have B4 := below_next B3.out hB4
    have B5 := Lib.hid (B4.alloc B4.size (.cells #[.int .i64 0, .int .i64 0, .int .i64 0, .slice none 0 0] 57))
    have Q5 := Lib.hid (Blk.new w4 57 #[.int .i64 0, .int .i64 0, .int .i64 0, .slice none 0 0])
    clear hp hB4 B4 her
    unfold zMsg
    go_wp2_with fail
    refine (tells_any _).mono ?_
    rintro e w6 ⟨rfl, hB6⟩
    have B6 := Lib.hid (below_next B5.out hB6)
    have Q6 := Q5.out.next hB6
    have e0 := Q6.cell 0
    have e1 := Q6.cell 1
    have e2 := Q6.cell 2
    have e3 := Q6.cell 3
    simp only [List.getElem?_toArray, List.getElem?_cons_zero, List.getElem?_cons_succ] at e0 e1 e2 e3
    clear hB6 Q6
    go_wp2_with fail
    refine (sameMsg_true 0 0 0 none none 0 0 0 [] _ (Ints.nil _ _ _) (Ints.nil _ _ _) (by omega)).mono ?_
    rintro e w7 ⟨rfl, hB7⟩
    have B7 := Lib.hid (below_next B6.out hB7)
    clear hB7
    go_wp2_with fail
    go_ret
    exact ⟨rfl, B7.out⟩
  · have hb : (rightE k f r n != 0) = true := by rw [bne_iff_ne]; exact hr
    have HR := Lib.hid hr
    clear hr
    go_wp2_with fail
    refine (Encode_any k f r A1 n c1 vs _ (Ints.own O1.out) HV.out (by omega)).mono ?_
    rintro e w2 hp
    rcases hp with ⟨h0, _⟩ | ⟨_, rfl, hB2⟩
    · exact absurd h0 HR.out
    have B2 := Lib.hid (below_next B1.out hB2)
    clear hB2
    generalize rightE k f r n = er at *
    go_wp2_with fail
    refine (tells_any _).mono ?_
    rintro e w3 ⟨rfl, hB3⟩
    have B3 := Lib.hid (below_next B2.out hB3)
    clear hB3
    go_wp2_with fail
    go_ret
    exact ⟨rfl, B3.out⟩

set_option maxRecDepth 100000 in
theorem walk {H : Type} {enc : TypeId × Value → H} {d0 d1 d2 : DataW H} {p0 p1 p2 : List MemPlace} (v0 v1 v2 : Value) (W : World) (base : Nat)
    (h0 : Value.okWide Try.prog W .any base 57 v0) (k0 : DataW.Trod enc Try.prog W 0 (fun _ => true) true 57 v0 d0 p0)
    (h1 : Value.okWide Try.prog W .any base 3 v1) (_ : DataW.Trod enc Try.prog W 0 (fun _ => true) true 3 v1 d1 p1)
    (h2 : Value.okWide Try.prog W .any base 3 v2) (_ : DataW.Trod enc Try.prog W 0 (fun _ => true) true 3 v2 d2 p2)
    (s0 : ∀ x ∈ d0.weights Try.prog 57, x ≤ reachBytes) (_ : ∀ x ∈ d1.weights Try.prog 3, x ≤ reachBytes) (_ : ∀ x ∈ d2.weights Try.prog 3, x ≤ reachBytes) :
    Calls Try.prog 7 #[v0, v1, v2] W fun e w' => e = .returned (.bool true) ∧ Below W.heap.size W w' := by
  obtain ⟨K, F, R, A, n, c, zs, rfl, hI, hz, hA, _, hn, _⟩ := msg_in h0 k0 s0
  obtain ⟨x, rfl, _⟩ := ok_int Try.underlying3 h1
  obtain ⟨y, rfl, _⟩ := ok_int Try.underlying3 h2
  exact walk1 K F R A n c zs x y W hI hz hA (by omega)
end Go.Proofs.Ytccebaadpjflkaa.lawWireTurned
