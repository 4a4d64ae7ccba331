/- The walk of ClockMemory: Middle changes nothing of a list, spare room too. -/
import Derived.Test.YtaobnddnefabeaaMidLaw
import Derived.Test.YtaobnddnefabeaaRoomy
set_option linter.unusedVariables false
namespace Go.Proofs.Ytaobnddnefabeaa.lawClockMemory
open Go.RowKit Go.Proofs.Ytaobnddnefabeaa Md Ro

set_option maxRecDepth 100000 in
set_option maxHeartbeats 1000000 in
theorem walk1 (A : Option Addr) (n c : Nat) (zs : List Int) (w : World) (h : Ints w .i64 A n zs) (hz : ∀ z ∈ zs, In64 z) (hn : n * 8 ≤ 140737488355328) :
    Calls Try.prog 12 #[.slice A n c] w fun e w' => e = .returned (.bool true) ∧ Below w.heap.size w w' := by
  have hzl := h.1
  have kr := roomy_any A n c zs w h hn
  have km := fun W (hI : Ints W .i64 (some ⟨w.heap.size, 0, none⟩) n zs) => Middle_any (some ⟨w.heap.size, 0, none⟩) n (n + 2) zs W hI hz (by omega)
  have ks := fun W (hg : Blk W w.heap.size 3 (roomC zs)) (hI : Ints W .i64 A n zs) => stayed_any A w.heap.size n c zs W hg hI (by omega)
  have KR := Lib.hid kr
  have KM := Lib.hid km
  have KS := Lib.hid ks
  have H := Lib.hid h
  have HL := Lib.hid hzl
  clear kr km ks h hzl hz
  go_enter Try.func12, Try.ntmps12
  go_wp2_with fail
  refine KR.out.mono ?_
  rintro e w1 ⟨rfl, hb, hB1⟩
  have HB := Lib.hid hb
  have B1 := Lib.hid hB1
  clear hb hB1
  go_wp2_with fail
  refine (KM.out _ (room_ints HL.out HB.out)).mono ?_
  rintro e w2 ⟨rfl, hB2⟩
  have HB2 := Lib.hid (HB.out.next hB2)
  have B2 := Lib.hid (below_next B1.out hB2)
  clear hB2 HB B1
  go_wp2_with fail
  refine (middles_any _).mono ?_
  rintro e w3 ⟨rfl, hB3⟩
  have HB3 := Lib.hid (HB2.out.next hB3)
  have B3 := Lib.hid (below_next B2.out hB3)
  clear hB3 HB2 B2
  go_wp2_with fail
  refine (KS.out _ HB3.out (H.out.next B3.out)).mono ?_
  rintro e w4 ⟨rfl, hB4⟩
  have B4 := Lib.hid (below_next B3.out hB4)
  clear hB4
  go_wp2_with fail
  go_ret
  exact ⟨rfl, B4.out⟩

set_option maxRecDepth 100000 in
theorem walk {H : Type} {enc : TypeId × Value → H} {d0 : DataW H} {p0 : List MemPlace} (v0 : Value) (W : World) (base : Nat)
    (h0 : Value.okWide Try.prog W .any base 51 v0) (k0 : DataW.Trod enc Try.prog W 0 (fun _ => true) true 51 v0 d0 p0)
    (s0 : ∀ es sp, d0 = .slice es sp → (es.length + sp.length) * Try.prog.bytesOf 3 ≤ reachBytes) :
    Calls Try.prog 12 #[v0] W fun e w' => e = .returned (.bool true) ∧ Below W.heap.size W w' := by
  obtain ⟨A, n, c, zs, rfl, hI, hz, hA, hnc, hc⟩ := list_in h0 k0 s0
  exact walk1 A n c zs W hI hz (by omega)
end Go.Proofs.Ytaobnddnefabeaa.lawClockMemory
