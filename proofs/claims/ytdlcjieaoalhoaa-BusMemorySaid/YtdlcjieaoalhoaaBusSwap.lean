/- slices.swapRangeCmpFunc, rotateCmpFunc at parcels. -/
import Derived.Test.YtdlcjieaoalhoaaBusCmp2
import Derived.Test.YtdlcjieaoalhoaaSymPlain
import Derived.Test.YtdlcjieaoalhoaaHeldF
set_option linter.unusedVariables false
namespace Go.Proofs.Ytdlcjieaoalhoaa.Bs
open Go.RowKit Go.Sort Go.Proofs.Ytdlcjieaoalhoaa Crc Sm Sy

instance : Inhabited Pc := ⟨⟨0, 0, 0, 0, none, 0, 0, []⟩⟩
abbrev SP (w0 : World) (blk off : Nat) (d : Array Pc) (w : World) : Prop := SWK Pc.cells 5 w0 blk off d w
abbrev RP (w0 : World) (blk off : Nat) (d0 : Array Pc) : Prop := RowK Pc.cells 5 w0 blk off d0

theorem SP.cells {w0 w : World} {blk off : Nat} {d0 d : Array Pc} (h : SP w0 blk off d w) (R : RP w0 blk off d0) (hs : d.size = d0.size) {i : Nat} (hi : i < d.size) :
    w.cell? ⟨blk, off + i * 5, none⟩ = some (.int .i64 d[i]!.fr) ∧ w.cell? ⟨blk, off + i * 5 + 1, none⟩ = some (.int .i64 d[i]!.to) ∧ w.cell? ⟨blk, off + i * 5 + 2, none⟩ = some (.int .i64 d[i]!.du) ∧ w.cell? ⟨blk, off + i * 5 + 3, none⟩ = some (.int .i64 d[i]!.se) ∧ w.cell? ⟨blk, off + i * 5 + 4, none⟩ = some (.slice d[i]!.A d[i]!.n d[i]!.c) := by
  have hc := fun c v (hv : d[i]!.cells[c]? = some v) => HoldsK.cells (SWK.holds h R.hblk R.hH hs) R.hk hi c v hv
  simp only [Addr.add_lit] at hc
  exact ⟨hc 0 _ rfl, hc 1 _ rfl, hc 2 _ rfl, hc 3 _ rfl, hc 4 _ rfl⟩
theorem SP.there {w0 w : World} {blk off : Nat} {d0 d : Array Pc} (h : SP w0 blk off d w) (R : RP w0 blk off d0) (hs : d.size = d0.size) {i : Nat} (hi : i < d.size) : w.there blk (off + i * 5) 5 := fun c hc => by
  have := (SWK.holds h R.hblk R.hH hs).cell hi hc
  rw [this.1]
  exact ⟨rfl, this.2⟩
set_option maxRecDepth 100000 in
set_option maxHeartbeats 2000000 in
theorem swapRange_any {w0 : World} {blk off N : Nat} {d0 d : Array Pc} (R : RP w0 blk off d0) (hd0 : d0.size = N) (hd : d.size = N) (w : World) (h : SP w0 blk off d w) (a b n cap : Nat) (f : Value) (h1 : a + n ≤ b) (h2 : b + n ≤ N) (hsz : N < 4611686018427387904) :
    Calls Try.prog 36 #[.slice (some ⟨blk, off, none⟩) N cap, .int .i64 a, .int .i64 b, .int .i64 n, f] w fun e w' => e = .returned (.tuple #[]) ∧ SP w0 blk off (sw d a b n) w' := by
  have HR := Lib.hid R
  have H := Lib.hid h
  have HD := Lib.hid hd
  have HD0 := Lib.hid hd0
  clear R h hd hd0
  go_enter Try.func36, Try.ntmps36
  go_wp2_with fail
  go_loopw [10] (fun iv wr => ∃ i : Nat, i ≤ n ∧ iv = .int .i64 i ∧ SP w0 blk off (sw d a b i) wr) (fun iv _ => n - (intOf iv).toNat)
  case atStart => exact ⟨0, Nat.zero_le _, rfl, H.out⟩
  case round =>
    obtain ⟨i, hi, rfl, hS⟩ := hrel
    by_cases hin : i < n
    · have hss : (sw d a b i).size = N := (size_sw d a b i).trans HD.out
      have hs0 := hss.trans HD0.out.symm
      have q1 : (i : Int) < (n : Int) := by omega
      have x1 : IntKind.i64.wrap ((a : Int) + (i : Int)) = (a : Int) + (i : Int) := by rw [IntKind.wrap_i64]; omega
      have x2 : IntKind.i64.wrap ((b : Int) + (i : Int)) = (b : Int) + (i : Int) := by rw [IntKind.wrap_i64]; omega
      have x3 : (0 : Int) ≤ (a : Int) + (i : Int) := by omega
      have x4 : (0 : Int) ≤ (b : Int) + (i : Int) := by omega
      have x5 : (a : Int) + (i : Int) < (N : Int) := by omega
      have x6 : (b : Int) + (i : Int) < (N : Int) := by omega
      have x7 : ((a : Int) + (i : Int)).toNat = a + i := by omega
      have x8 : ((b : Int) + (i : Int)).toNat = b + i := by omega
      obtain ⟨b0, b1, b2, b3, b4⟩ := SP.cells hS HR.out hs0 (i := b + i) (by omega)
      obtain ⟨a0, a1, a2, a3, a4⟩ := SP.cells hS HR.out hs0 (i := a + i) (by omega)
      have ta := Lib.hid (SP.there hS HR.out hs0 (i := a + i) (by omega))
      have tb := Lib.hid (SP.there hS HR.out hs0 (i := b + i) (by omega))
      have HSW := Lib.hid (hS.swapped HR.out (a + i) (b + i) (by omega) (by omega))
      clear hS hss hs0
      generalize (sw d a b i)[b + i]! = pb at *
      generalize (sw d a b i)[a + i]! = pa at *
      go_upto_region 3 with fail
      --SWAP 13 24 (a + i) (b + i) 36 29 37 35
      refine wp_region_F 23 (fun w' => w'.cell? ⟨blk, off + (b + i) * 5, none⟩ = some (.int .i64 pb.fr) ∧ w'.cell? ⟨blk, off + (b + i) * 5 + 1, none⟩ = some (.int .i64 pb.to) ∧ w'.cell? ⟨blk, off + (b + i) * 5 + 2, none⟩ = some (.int .i64 pb.du) ∧ w'.cell? ⟨blk, off + (b + i) * 5 + 3, none⟩ = some (.int .i64 pb.se) ∧ w'.cell? ⟨blk, off + (b + i) * 5 + 4, none⟩ = some (.slice pb.A pb.n pb.c)) insA.mixed ⟨b0, b1, b2, b3, b4⟩ (fun hS => ?_)
      refine wpAnyF_take (i := 0) (v := ?_) rfl (by kernel_rfl) (by kernel_rfl) (by kernel_rfl) (by kernel_rfl) (fun _ _ _ h => h) (Or.inl ⟨by rfl, fun wx hSw => ?_⟩) hS ?_
      rotate_left
      · (try dsimp only at hSw); go_simp; (try with_reducible rfl)
      try simp only [Act.put, List.setIfInBounds_toArray, List.set_cons_zero, List.set_cons_succ]
      refine wpAnyF_take (i := 1) (v := ?_) rfl (by kernel_rfl) (by kernel_rfl) (by kernel_rfl) (by kernel_rfl) (fun _ _ _ h => h) (Or.inl ⟨by rfl, fun wx hSw => ?_⟩) hS ?_
      rotate_left
      · (try dsimp only at hSw); go_simp; (try with_reducible rfl)
      try simp only [Act.put, List.setIfInBounds_toArray, List.set_cons_zero, List.set_cons_succ]
      refine wpAnyF_take (i := 2) (v := ?_) rfl (by kernel_rfl) (by kernel_rfl) (by kernel_rfl) (by kernel_rfl) (fun _ _ _ h => h) (Or.inl ⟨by rfl, fun wx hSw => ?_⟩) hS ?_
      rotate_left
      · (try dsimp only at hSw); go_simp; (try with_reducible rfl)
      try simp only [Act.put, List.setIfInBounds_toArray, List.set_cons_zero, List.set_cons_succ]
      refine wpAnyF_take (i := 3) (v := ?_) rfl (by kernel_rfl) (by kernel_rfl) (by kernel_rfl) (by kernel_rfl) (fun _ _ _ h => h) (Or.inl ⟨by rfl, fun wx hSw => ?_⟩) hS ?_
      rotate_left
      · (try dsimp only at hSw); go_simp; (try with_reducible rfl)
      try simp only [Act.put, List.setIfInBounds_toArray, List.set_cons_zero, List.set_cons_succ]
      refine wpAnyF_take (i := 4) (v := ?_) rfl (by kernel_rfl) (by kernel_rfl) (by kernel_rfl) (by kernel_rfl) (fun _ _ _ h => h) (Or.inl ⟨by rfl, fun wx hSw => ?_⟩) hS ?_
      rotate_left
      · (try dsimp only at hSw); go_simp; (try with_reducible rfl)
      try simp only [Act.put, List.setIfInBounds_toArray, List.set_cons_zero, List.set_cons_succ]
      refine wpAnyF_take (i := 5) (v := ?_) rfl (by kernel_rfl) (by kernel_rfl) (by kernel_rfl) (by kernel_rfl) (fun _ _ _ h => h) (Or.inl ⟨by rfl, fun wx hSw => ?_⟩) hS ?_
      rotate_left
      · (try dsimp only at hSw); go_simp; (try with_reducible rfl)
      try simp only [Act.put, List.setIfInBounds_toArray, List.set_cons_zero, List.set_cons_succ]
      refine wpAnyF_take (i := 6) (v := ?_) rfl (by kernel_rfl) (by kernel_rfl) (by kernel_rfl) (by kernel_rfl) (fun _ _ _ h => h) (Or.inl ⟨by rfl, fun wx hSw => ?_⟩) hS ?_
      rotate_left
      · (try dsimp only at hSw); go_simp; (try with_reducible rfl)
      try simp only [Act.put, List.setIfInBounds_toArray, List.set_cons_zero, List.set_cons_succ]
      refine wpAnyF_take (i := 7) (v := ?_) rfl (by kernel_rfl) (by kernel_rfl) (by kernel_rfl) (by kernel_rfl) (fun _ _ _ h => h) (Or.inl ⟨by rfl, fun wx hSw => ?_⟩) hS ?_
      rotate_left
      · (try dsimp only at hSw); go_simp; (try with_reducible rfl)
      try simp only [Act.put, List.setIfInBounds_toArray, List.set_cons_zero, List.set_cons_succ]
      refine wpAnyF_take (i := 8) (v := ?_) rfl (by kernel_rfl) (by kernel_rfl) (by kernel_rfl) (by kernel_rfl) (fun _ _ _ h => h) (Or.inl ⟨by rfl, fun wx hSw => ?_⟩) hS ?_
      rotate_left
      · (try dsimp only at hSw); go_simp; (try with_reducible rfl)
      try simp only [Act.put, List.setIfInBounds_toArray, List.set_cons_zero, List.set_cons_succ]
      refine wpAnyF_take (i := 9) (v := ?_) rfl (by kernel_rfl) (by kernel_rfl) (by kernel_rfl) (by kernel_rfl) (fun _ _ _ h => h) (Or.inl ⟨by rfl, fun wx hSw => ?_⟩) hS ?_
      rotate_left
      · (try dsimp only at hSw); go_simp; (try with_reducible rfl)
      try simp only [Act.put, List.setIfInBounds_toArray, List.set_cons_zero, List.set_cons_succ]
      refine wpAnyF_take (i := 10) (v := ?_) rfl (by kernel_rfl) (by kernel_rfl) (by kernel_rfl) (by kernel_rfl) (fun _ _ _ h => h) (Or.inl ⟨by rfl, fun wx hSw => ?_⟩) hS ?_
      rotate_left
      · (try dsimp only at hSw); go_simp; (try with_reducible rfl)
      try simp only [Act.put, List.setIfInBounds_toArray, List.set_cons_zero, List.set_cons_succ]
      refine wpAnyF_take (i := 11) (v := ?_) rfl (by kernel_rfl) (by kernel_rfl) (by kernel_rfl) (by kernel_rfl) (fun _ _ _ h => h) (Or.inl ⟨by rfl, fun wx hSw => ?_⟩) hS ?_
      rotate_left
      · (try dsimp only at hSw); go_simp; (try with_reducible rfl)
      try simp only [Act.put, List.setIfInBounds_toArray, List.set_cons_zero, List.set_cons_succ]
      refine wpAnyF_take (i := 12) (v := ?_) rfl (by kernel_rfl) (by kernel_rfl) (by kernel_rfl) (by kernel_rfl) (fun _ _ _ h => h) (Or.inl ⟨by rfl, fun wx hSw => ?_⟩) hS ?_
      rotate_left
      · (try dsimp only at hSw); go_simp; (try with_reducible rfl)
      try simp only [Act.put, List.setIfInBounds_toArray, List.set_cons_zero, List.set_cons_succ]
      refine wpAnyF_take (i := 13) (v := ?_) rfl (by kernel_rfl) (by kernel_rfl) (by kernel_rfl) (by kernel_rfl) (fun _ _ _ h => h) (Or.inl ⟨by rfl, fun wx hSw => ?_⟩) hS ?_
      rotate_left
      · (try dsimp only at hSw); go_simp; (try with_reducible rfl)
      try simp only [Act.put, List.setIfInBounds_toArray, List.set_cons_zero, List.set_cons_succ]
      refine wpAnyF_take (i := 14) (v := ?_) rfl (by kernel_rfl) (by kernel_rfl) (by kernel_rfl) (by kernel_rfl) (fun _ _ _ h => h) (Or.inl ⟨by rfl, fun wx hSw => ?_⟩) hS ?_
      rotate_left
      · (try dsimp only at hSw); go_simp; (try with_reducible rfl)
      try simp only [Act.put, List.setIfInBounds_toArray, List.set_cons_zero, List.set_cons_succ]
      refine wpAnyF_take (i := 15) (v := ?_) rfl (by kernel_rfl) (by kernel_rfl) (by kernel_rfl) (by kernel_rfl) (fun _ _ _ h => h) (Or.inl ⟨by rfl, fun wx hSw => ?_⟩) hS ?_
      rotate_left
      · (try dsimp only at hSw); go_simp; (try with_reducible rfl)
      try simp only [Act.put, List.setIfInBounds_toArray, List.set_cons_zero, List.set_cons_succ]
      refine wpAnyF_take (i := 16) (v := ?_) rfl (by kernel_rfl) (by kernel_rfl) (by kernel_rfl) (by kernel_rfl) (fun _ _ _ h => h) (Or.inl ⟨by rfl, fun wx hSw => ?_⟩) hS ?_
      rotate_left
      · (try dsimp only at hSw); go_simp; (try with_reducible rfl)
      try simp only [Act.put, List.setIfInBounds_toArray, List.set_cons_zero, List.set_cons_succ]
      refine wpAnyF_take (i := 17) (v := ?_) rfl (by kernel_rfl) (by kernel_rfl) (by kernel_rfl) (by kernel_rfl) (fun _ _ _ h => h) (Or.inl ⟨by rfl, fun wx hSw => ?_⟩) hS ?_
      rotate_left
      · (try dsimp only at hSw); go_simp; (try with_reducible rfl)
      try simp only [Act.put, List.setIfInBounds_toArray, List.set_cons_zero, List.set_cons_succ]
      refine wpAnyF_take (i := 18) (v := ?_) rfl (by kernel_rfl) (by kernel_rfl) (by kernel_rfl) (by kernel_rfl) (fun _ _ _ h => h) (Or.inl ⟨by rfl, fun wx hSw => ?_⟩) hS ?_
      rotate_left
      · (try dsimp only at hSw); go_simp; (try with_reducible rfl)
      try simp only [Act.put, List.setIfInBounds_toArray, List.set_cons_zero, List.set_cons_succ]
      refine wpAnyF_one (i := 19) rfl (by kernel_rfl) (fun K hK => ?_)
      go_simp
      refine hK.out _ _ hS ?_
      clear hK K
      try simp only [Act.put, List.setIfInBounds_toArray, List.set_cons_zero, List.set_cons_succ]
      refine wpAnyF_one (i := 20) rfl (by kernel_rfl) (fun K hK => ?_)
      go_simp
      refine hK.out _ _ hS ?_
      clear hK K
      try simp only [Act.put, List.setIfInBounds_toArray, List.set_cons_zero, List.set_cons_succ]
      clear hS
      have ho : ∀ c, c < 5 → (wr.drew.setCells blk (off + (a + i) * 5) pb.cells.toArray.toList).cell? ⟨blk, off + (b + i) * 5 + c, none⟩ = wr.drew.cell? ⟨blk, off + (b + i) * 5 + c, none⟩ := fun c hc => World.cell?_setCells_out blk _ _ _ _ (fun _ _ => by show off + (b + i) * 5 + c < off + (a + i) * 5 ∨ off + (a + i) * 5 + 5 ≤ off + (b + i) * 5 + c; omega)
      have hS : (fun w' => w'.cell? ⟨blk, off + (b + i) * 5, none⟩ = some (.int .i64 pb.fr) ∧ w'.cell? ⟨blk, off + (b + i) * 5 + 1, none⟩ = some (.int .i64 pb.to) ∧ w'.cell? ⟨blk, off + (b + i) * 5 + 2, none⟩ = some (.int .i64 pb.du) ∧ w'.cell? ⟨blk, off + (b + i) * 5 + 3, none⟩ = some (.int .i64 pb.se) ∧ w'.cell? ⟨blk, off + (b + i) * 5 + 4, none⟩ = some (.slice pb.A pb.n pb.c)) (wr.drew.setCells blk (off + (a + i) * 5) pb.cells.toArray.toList) := ⟨(ho 0 (by omega)).trans b0, (ho 1 (by omega)).trans b1, (ho 2 (by omega)).trans b2, (ho 3 (by omega)).trans b3, (ho 4 (by omega)).trans b4⟩
      clear ho
      refine wpAnyF_one (i := 21) rfl (by kernel_rfl) (fun K hK => ?_)
      rw [if_pos (by rfl)]
      refine wp_store_mid 35 (.tmp 36) (.tmp 29) rfl blk (off + (a + i) * 5) pb.cells.toArray rfl rfl ((World.there_drew _ _ _ _).2 ta.out) (by kernel_rfl) (all_oneCell_toArray (HR.out.h1 pb)) ?_
      refine hK.out _ _ hS ?_
      clear hK K
      try simp only [Act.put, List.setIfInBounds_toArray, List.set_cons_zero, List.set_cons_succ]
      refine wpAnyF_one (i := 22) rfl (by kernel_rfl) (fun K hK => ?_)
      go_simp
      refine hK.out _ _ hS ?_
      clear hK K
      try simp only [Act.put, List.setIfInBounds_toArray, List.set_cons_zero, List.set_cons_succ]
      refine wpAnyF_last rfl (by kernel_rfl) (by kernel_rfl) (fun K hK => ?_)
      rw [if_pos (by rfl)]
      refine wp_store_mid 35 (.tmp 37) (.tmp 35) rfl blk (off + (b + i) * 5) pa.cells.toArray rfl rfl (World.there_setCells ((World.there_drew _ _ _ _).2 tb.out) _ _ _) (by kernel_rfl) (all_oneCell_toArray (HR.out.h1 pa)) ?_
      refine hK.out _ _ ?_
      clear hK K hS
      try simp only [Act.put, List.setIfInBounds_toArray, List.set_cons_zero, List.set_cons_succ]
      --END
      have HSW2 : Hid (SP w0 blk off (sw d a b (i + 1)) ((wr.drew.setCells blk (off + (a + i) * 5) pb.cells.toArray.toList).setCells blk (off + (b + i) * 5) pa.cells.toArray.toList)) := HSW
      clear HSW ta tb
      generalize (wr.drew.setCells blk (off + (a + i) * 5) pb.cells.toArray.toList).setCells blk (off + (b + i) * 5) pa.cells.toArray.toList = wn at *
      clear a0 a1 a2 a3 a4 b0 b1 b2 b3 b4
      go_wp2_with fail
      go_roundw
      case rel => exact ⟨i + 1, by omega, by go_num, HSW2.out⟩
      case measure => simp [intOf]; omega
    · obtain rfl : i = n := by omega
      go_wp2_with fail
      go_end0
      exact ⟨rfl, hS⟩
end Go.Proofs.Ytdlcjieaoalhoaa.Bs
