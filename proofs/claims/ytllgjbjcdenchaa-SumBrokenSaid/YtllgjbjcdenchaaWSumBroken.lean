/- The walk of SumBroken: sealed bytes of which up to 32 bits in a row are turned are not opened. -/
import Derived.Test.YtllgjbjcdenchaaSealPlain
import Derived.Test.YtllgjbjcdenchaaOpen
import Derived.Test.YtllgjbjcdenchaaKit2
import Derived.Test.YtllgjbjcdenchaaBurst
set_option linter.unusedVariables false
namespace Go.Proofs.Ytllgjbjcdenchaa.lawSumBroken
open Go.RowKit Go.Proofs.Ytllgjbjcdenchaa Crc

theorem open_turned (A : Option Addr) (n c N k : Nat) (zs zs' : List Int) (w : World) (hn : zs.length = n) (h : w.ownsRow 0 5 1 (.slice A (n + 4) c) (n + 4) (zs'.map (Value.int .u8))) (hl : n + 4 ≤ 140737488355328) (hb : Bst (sealed zs) zs' N k) (hk : 0 < k) :
    Calls Try.prog 32 #[.slice A (n + 4) c] w fun e w' => e = .returned (.tuple #[.slice none 0 0, .bool false]) ∧ Below w.heap.size w w' := by
  subst hn
  have hlen : zs'.length = zs.length + 4 := by rw [hb.1, sealed_len]
  refine (open_any A (zs.length + 4) c zs' w (Ints.own h) (own_none h).1 (own_none h).2.2 hl hb.2.1).mono ?_
  intro e w' ho
  unfold Opened at ho
  rw [hlen, Nat.add_sub_cancel] at ho
  rcases ho with ⟨_, h1, _⟩ | ⟨_, h1⟩
  · exact absurd h1 (turned zs zs' N k hb hk _ hlen)
  · exact h1

set_option maxRecDepth 100000 in
set_option maxHeartbeats 1000000 in
theorem walk1 (A : Option Addr) (n c : Nat) (zs : List Int) (x mask : Int) (w : World) (h : Ints w .u8 A n zs) (hA : A = none → n = 0 ∧ c = 0) (hn : n ≤ 140737488351232) (hz : ∀ z ∈ zs, 0 ≤ z ∧ z ≤ 255) :
    Calls Try.prog 11 #[.slice A n c, .int .i64 x, .int .i64 mask] w fun e w' => e = .returned (.bool true) ∧ Below w.heap.size w w' := by
  have H := Lib.hid h
  have HA := Lib.hid hA
  have HZ := Lib.hid hz
  have HL := Lib.hid h.1
  clear h hA hz
  go_enter Try.func11, Try.ntmps11
  go_wp2_with fail
  refine (bytes_any A n c zs _ H.out HA.out (by omega)).mono ?_
  rintro e w1 ⟨A1, c1, rfl, hown1, hB1⟩
  go_wp2_with fail
  refine (seal_any A1 n c1 zs _ (Ints.own hown1) (own_none hown1).1 (by omega) HZ.out).mono ?_
  rintro e w2 ⟨A2, c2, rfl, hown2, hB2⟩
  have B2 := below_next hB1 hB2
  go_wp2_with fail
  refine (burst_any A2 (n + 4) c2 (sealed zs) x mask _ (Ints.own hown2) (own_none hown2).1 (by omega) (by omega) (sealed_in zs HZ.out)).mono ?_
  rintro e w3 ⟨A3, c3, zs', N, k, rfl, ⟨hown3, hB3⟩, hst, hk⟩
  have B3 := below_next B2 hB3
  go_wp2_with fail
  refine (open_turned A3 n c3 N k zs zs' _ HL.out (own_le hown3 (Nat.zero_le _)) (by omega) hst hk).mono ?_
  rintro e w4 ⟨rfl, hB4⟩
  have B4 := below_next B3 hB4
  clear hst hk
  go_wp2_with fail
  refine (sums_any _).mono ?_
  rintro e w5 ⟨rfl, hB5⟩
  have B5 := below_next B4 hB5
  go_wp2_with fail
  go_ret
  exact ⟨rfl, B5⟩

theorem walk {H : Type} {enc : TypeId × Value → H} {d0 d1 d2 : DataW H} {p0 p1 p2 : List MemPlace} (v0 v1 v2 : Value) (W : World) (base : Nat)
    (h0 : Value.okWide Try.prog W .any base 41 v0) (k0 : DataW.Trod enc Try.prog W 0 (fun _ => true) true 41 v0 d0 p0)
    (h1 : Value.okWide Try.prog W .any base 3 v1) (_ : DataW.Trod enc Try.prog W 0 (fun _ => true) true 3 v1 d1 p1)
    (h2 : Value.okWide Try.prog W .any base 3 v2) (_ : DataW.Trod enc Try.prog W 0 (fun _ => true) true 3 v2 d2 p2)
    (s0 : ∀ es sp, d0 = .slice es sp → (es.length + sp.length) * Try.prog.bytesOf 5 ≤ reachBytes) :
    Calls Try.prog 11 #[v0, v1, v2] W fun e w' => e = .returned (.bool true) ∧ Below W.heap.size W w' := by
  obtain ⟨A, n, c, rfl, hnc, _, hA, _⟩ := ok_slice Try.underlying41 h0
  obtain ⟨zs, hI, hw, _, hr⟩ := ints_in Try.underlying41 Try.underlying5 (by kernel_rfl) k0 s0
  have hb : Try.prog.bytesOf 5 = 1 := by kernel_rfl
  rw [hb] at hr
  obtain ⟨x, rfl, _⟩ := ok_int Try.underlying3 h1
  obtain ⟨y, rfl, _⟩ := ok_int Try.underlying3 h2
  exact walk1 A n c zs x y W hI hA (by unfold reachBytes at hr; omega) (fun z hz => bounds_u8 (hw z hz))
end Go.Proofs.Ytllgjbjcdenchaa.lawSumBroken
