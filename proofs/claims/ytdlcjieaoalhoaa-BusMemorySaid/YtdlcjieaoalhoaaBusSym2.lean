/- slices.symMergeCmpFunc at parcels: where the right part has one row. -/
import Derived.Test.YtdlcjieaoalhoaaBusSym1
set_option linter.unusedVariables false
namespace Go.Proofs.Ytdlcjieaoalhoaa.Bs
open Go.RowKit Go.Sort Go.Proofs.Ytdlcjieaoalhoaa Crc Sm Sy

def BsRel2 (w0 : World) (blk off : Nat) (d : Array Pc) (x lo hi : Nat) (iv jv : Value) (wr : World) : Prop :=
  ∃ i j : Nat, iv = .int .i64 i ∧ jv = .int .i64 j ∧ lo ≤ i ∧ i ≤ j ∧ j ≤ hi ∧ SP w0 blk off d wr ∧ (i = lo ∨ lp d[x]! d[i - 1]! = false) ∧ (j = hi ∨ lp d[x]! d[j]! = true)
def DnRel (w0 : World) (blk off N : Nat) (d : Array Pc) (a m i : Nat) (kv : Value) (wr : World) : Prop :=
  ∃ (k : Nat) (dk : Array Pc), kv = .int .i64 k ∧ i ≤ k ∧ k ≤ m ∧ dk.size = N ∧ SP w0 blk off dk wr ∧ Dn d dk m k ∧ PermIn a (m + 1) d dk

set_option maxRecDepth 100000 in
set_option maxHeartbeats 4000000 in
theorem sym_right {w0 : World} {blk off N : Nat} {d0 d : Array Pc} (R : RP w0 blk off d0) (hd0 : d0.size = N) (hd : d.size = N) (w : World) (h : SP w0 blk off d w) (a m cap : Nat) (h1 : a + 1 < m) (h3 : m + 1 ≤ N) (hsz : N < 4611686018427387904) :
    Calls Try.prog 34 #[.slice (some ⟨blk, off, none⟩) N cap, .int .i64 a, .int .i64 m, .int .i64 ((m : Int) + 1), .func (.func 22) #[] #[]] w fun e w' => e = .returned (.tuple #[]) ∧ ∃ d', Mg lp d d' a m (m + 1) ∧ SP w0 blk off d' w' := by
  have mixed := insA.mixed
  have HR := Lib.hid R
  have H := Lib.hid h
  have HD := Lib.hid hd
  have HD0 := Lib.hid hd0
  have y1 : IntKind.i64.wrap ((m : Int) + 1 - (m : Int)) = 1 := by rw [IntKind.wrap_i64]; omega
  have y2 : ((m : Int) + 1 - (m : Int)) = 1 := by omega
  have y3 : ((m : Int) - (a : Int) == 1) = false := by simp; omega
  clear R h hd hd0
  go_enter Try.func34, Try.ntmps34
  go_wp2_with fail
  clear y1 y2 y3
  go_loopw [14, 15] (fun iv jv wr => BsRel2 w0 blk off d m a m iv jv wr) (fun iv jv _ => (intOf jv).toNat - (intOf iv).toNat)
  case atStart => exact ⟨a, m, rfl, rfl, Nat.le_refl _, by omega, Nat.le_refl _, H.out, .inl rfl, .inl rfl⟩
  case round =>
    obtain ⟨i, j, rfl, rfl, hi, hij, hj, hS, hL, hR⟩ := hrel
    by_cases c : i < j
    · have q1 : (i : Int) < (j : Int) := by omega
      obtain ⟨hh, ehh⟩ : ∃ hh, hh = (i + j) / 2 := ⟨_, rfl⟩
      have e0 : (0 : Int) ≤ ((i : Int) + (j : Int)) / 2 := by omega
      have e1 : ((i : Int) + (j : Int)) / 2 < (N : Int) := by omega
      have e2 : (((i : Int) + (j : Int)) / 2).toNat = hh := by omega
      have e3 : (m : Int) < (N : Int) := by omega
      have e4 : (((i : Int) + (j : Int)) / 2) = (hh : Int) := by omega
      obtain ⟨y, hy⟩ : ∃ x, d[hh]! = x := ⟨_, rfl⟩
      obtain ⟨x, hx⟩ : ∃ y, d[m]! = y := ⟨_, rfl⟩
      have ly := fun n os => SP.grown_cells hS HR.out (HD.out.trans HD0.out.symm) (i := hh) (by rw [HD.out]; omega) hy n os
      have lx := fun n os => SP.grown_cells hS HR.out (HD.out.trans HD0.out.symm) (i := m) (by rw [HD.out]; omega) hx n os
      have x0 := fun n os => (lx n os).1
      have x1 := fun n os => (lx n os).2.1
      have x2 := fun n os => (lx n os).2.2.1
      have x3 := fun n os => (lx n os).2.2.2.1
      have x4 := fun n os => (lx n os).2.2.2.2
      have y0 := fun n os => (ly n os).1
      have y1 := fun n os => (ly n os).2.1
      have y2 := fun n os => (ly n os).2.2.1
      have y3 := fun n os => (ly n os).2.2.2.1
      have y4 := fun n os => (ly n os).2.2.2.2
      have KC := Lib.hid (fun n os => cmp_grown x y wr n os)
      have HS := Lib.hid hS
      have HX := Lib.hid hx
      have HY := Lib.hid hy
      have HL := Lib.hid hL
      have HRR := Lib.hid hR
      have HHH := Lib.hid ehh
      have HE4 := Lib.hid e4
      clear lx ly hS hx hy hL hR ehh e4
      by_cases hc : cf x y < 0
      · go_upto_region 17 with fail
        go_quiet_grown (first | (go_at_call 22; refine Calls.grown_of (KC.out _ _)))
        clear x0 x1 x2 x3 x4 y0 y1 y2 y3 y4
        have hG := SWK.grown HS.out nq osq
        generalize grow (wr.drewN nq) osq = wg at hG ⊢
        have HG := Lib.hid hG
        clear hG
        go_wp2_with fail
        go_roundw
        case rel => exact ⟨i, hh, rfl, by rw [HE4.out], hi, by have := HHH.out; omega, by have := HHH.out; omega, HG.out, HL.out, .inr (by rw [HX.out, HY.out]; exact decide_eq_true hc)⟩
        case measure => have := HE4.out; simp [intOf]; omega
      · go_upto_region 17 with fail
        go_quiet_grown (first | (go_at_call 22; refine Calls.grown_of (KC.out _ _)))
        clear x0 x1 x2 x3 x4 y0 y1 y2 y3 y4
        have hG := SWK.grown HS.out nq osq
        generalize grow (wr.drewN nq) osq = wg at hG ⊢
        have HG := Lib.hid hG
        clear hG
        have z1 : IntKind.i64.wrap (((i : Int) + (j : Int)) / 2 + 1) = ((i : Int) + (j : Int)) / 2 + 1 := by rw [IntKind.wrap_i64]; omega
        go_wp2_with fail
        go_roundw
        case rel => exact ⟨hh + 1, j, by rw [HE4.out]; go_num, rfl, by have := HHH.out; omega, by have := HHH.out; omega, hj, HG.out, .inr (by rw [Nat.add_sub_cancel, HX.out, HY.out]; exact decide_eq_false hc), HRR.out⟩
        case measure => have := HE4.out; simp [intOf]; omega
    · obtain rfl : i = j := by omega
      have HS := Lib.hid hS
      have HL := Lib.hid hL
      have HRR := Lib.hid hR
      clear hS hL hR
      go_wp2_with fail
      go_loopw [17] (fun kv wr => DnRel w0 blk off N d a m i kv wr) (fun kv _ => (intOf kv).toNat)
      case atStart => exact ⟨m, d, rfl, hj, Nat.le_refl _, HD.out, HS.out, ⟨fun t h1 h2 => by omega, rfl, fun t _ => rfl⟩, permIn_refl _ _ _⟩
      case round =>
        obtain ⟨k, dk, rfl, hk, hki, hdk, hS, hU, hP⟩ := hrel
        by_cases c2 : i < k
        · obtain ⟨k, rfl⟩ : ∃ t, k = t + 1 := ⟨k - 1, by omega⟩
          have ek : ((k + 1 : Nat) : Int) = (k : Int) + 1 := by omega
          rw [ek]
          clear ek
          have q1 : (i : Int) < (k : Int) + 1 := by omega
          have v1 : IntKind.i64.wrap ((k : Int) + 1 - 1) = (k : Int) := by rw [IntKind.wrap_i64]; omega
          have v6 : (k : Int) + 1 - 1 = (k : Int) := by omega
          have v7 : IntKind.i64.wrap (k : Int) = (k : Int) := by rw [IntKind.wrap_i64]; omega
          have v8 : (0 : Int) ≤ (k : Int) := by omega
          have v2 : (0 : Int) ≤ (k : Int) + 1 := by omega
          have v3 : (k : Int) + 1 < (N : Int) := by omega
          have v4 : (k : Int) < (N : Int) := by omega
          have v5 : ((k : Int) + 1).toNat = k + 1 := by omega
          have hs0 := hdk.trans HD0.out.symm
          obtain ⟨b0, b1, b2, b3, b4⟩ := SP.cells hS HR.out hs0 (i := k) (by omega)
          obtain ⟨a0, a1, a2, a3, a4⟩ := SP.cells hS HR.out hs0 (i := k + 1) (by omega)
          have ta := Lib.hid (SP.there hS HR.out hs0 (i := k + 1) (by omega))
          have tb := Lib.hid (SP.there hS HR.out hs0 (i := k) (by omega))
          have HSW := Lib.hid (hS.swapped HR.out (k + 1) k (by omega) (by omega))
          have HU := Lib.hid (hU.next (by omega) (hdk.trans HD.out.symm) (by rw [HD.out]; omega))
          have HP := Lib.hid (permIn_trans _ _ _ _ _ hP (swp_permIn dk a (m + 1) (k + 1) k (by omega) (by omega) (by omega) (by omega) (by omega)))
          have HDK := Lib.hid hdk
          clear hS hs0 hU hP hdk
          generalize dk[k]! = pb at *
          generalize dk[k + 1]! = pa at *
          go_upto_region 23 with fail
          --SWAP 9 18 (k + 1) (k) 127 122 128 126
          refine wp_region_F 17 (fun w' => w'.cell? ⟨blk, off + (k) * 5, none⟩ = some (.int .i64 pb.fr) ∧ w'.cell? ⟨blk, off + (k) * 5 + 1, none⟩ = some (.int .i64 pb.to) ∧ w'.cell? ⟨blk, off + (k) * 5 + 2, none⟩ = some (.int .i64 pb.du) ∧ w'.cell? ⟨blk, off + (k) * 5 + 3, none⟩ = some (.int .i64 pb.se) ∧ w'.cell? ⟨blk, off + (k) * 5 + 4, none⟩ = some (.slice pb.A pb.n pb.c)) insA.mixed ⟨b0, b1, b2, b3, b4⟩ (fun hS => ?_)
          refine wpAnyF_take (i := 0) (v := ?_) rfl (by kernel_rfl) (by kernel_rfl) (by kernel_rfl) (by kernel_rfl) (fun _ _ _ h => h) (Or.inl ⟨by rfl, fun wx hSw => ?_⟩) hS ?_
          rotate_left
          · (try dsimp only at hSw); go_simp; (try with_reducible rfl)
          try simp only [Act.put, List.setIfInBounds_toArray, List.set_cons_zero, List.set_cons_succ]
          refine wpAnyF_take (i := 1) (v := ?_) rfl (by kernel_rfl) (by kernel_rfl) (by kernel_rfl) (by kernel_rfl) (fun _ _ _ h => h) (Or.inl ⟨by rfl, fun wx hSw => ?_⟩) hS ?_
          rotate_left
          · (try dsimp only at hSw); go_simp; (try with_reducible rfl)
          try simp only [Act.put, List.setIfInBounds_toArray, List.set_cons_zero, List.set_cons_succ]
          refine wpAnyF_take (i := 2) (v := ?_) rfl (by kernel_rfl) (by kernel_rfl) (by kernel_rfl) (by kernel_rfl) (fun _ _ _ h => h) (Or.inl ⟨by rfl, fun wx hSw => ?_⟩) hS ?_
          rotate_left
          · (try dsimp only at hSw); go_simp; (try with_reducible rfl)
          try simp only [Act.put, List.setIfInBounds_toArray, List.set_cons_zero, List.set_cons_succ]
          refine wpAnyF_take (i := 3) (v := ?_) rfl (by kernel_rfl) (by kernel_rfl) (by kernel_rfl) (by kernel_rfl) (fun _ _ _ h => h) (Or.inl ⟨by rfl, fun wx hSw => ?_⟩) hS ?_
          rotate_left
          · (try dsimp only at hSw); go_simp; (try with_reducible rfl)
          try simp only [Act.put, List.setIfInBounds_toArray, List.set_cons_zero, List.set_cons_succ]
          refine wpAnyF_take (i := 4) (v := ?_) rfl (by kernel_rfl) (by kernel_rfl) (by kernel_rfl) (by kernel_rfl) (fun _ _ _ h => h) (Or.inl ⟨by rfl, fun wx hSw => ?_⟩) hS ?_
          rotate_left
          · (try dsimp only at hSw); go_simp; (try with_reducible rfl)
          try simp only [Act.put, List.setIfInBounds_toArray, List.set_cons_zero, List.set_cons_succ]
          refine wpAnyF_take (i := 5) (v := ?_) rfl (by kernel_rfl) (by kernel_rfl) (by kernel_rfl) (by kernel_rfl) (fun _ _ _ h => h) (Or.inl ⟨by rfl, fun wx hSw => ?_⟩) hS ?_
          rotate_left
          · (try dsimp only at hSw); go_simp; (try with_reducible rfl)
          try simp only [Act.put, List.setIfInBounds_toArray, List.set_cons_zero, List.set_cons_succ]
          refine wpAnyF_take (i := 6) (v := ?_) rfl (by kernel_rfl) (by kernel_rfl) (by kernel_rfl) (by kernel_rfl) (fun _ _ _ h => h) (Or.inl ⟨by rfl, fun wx hSw => ?_⟩) hS ?_
          rotate_left
          · (try dsimp only at hSw); go_simp; (try with_reducible rfl)
          try simp only [Act.put, List.setIfInBounds_toArray, List.set_cons_zero, List.set_cons_succ]
          refine wpAnyF_take (i := 7) (v := ?_) rfl (by kernel_rfl) (by kernel_rfl) (by kernel_rfl) (by kernel_rfl) (fun _ _ _ h => h) (Or.inl ⟨by rfl, fun wx hSw => ?_⟩) hS ?_
          rotate_left
          · (try dsimp only at hSw); go_simp; (try with_reducible rfl)
          try simp only [Act.put, List.setIfInBounds_toArray, List.set_cons_zero, List.set_cons_succ]
          refine wpAnyF_take (i := 8) (v := ?_) rfl (by kernel_rfl) (by kernel_rfl) (by kernel_rfl) (by kernel_rfl) (fun _ _ _ h => h) (Or.inl ⟨by rfl, fun wx hSw => ?_⟩) hS ?_
          rotate_left
          · (try dsimp only at hSw); go_simp; (try with_reducible rfl)
          try simp only [Act.put, List.setIfInBounds_toArray, List.set_cons_zero, List.set_cons_succ]
          refine wpAnyF_take (i := 9) (v := ?_) rfl (by kernel_rfl) (by kernel_rfl) (by kernel_rfl) (by kernel_rfl) (fun _ _ _ h => h) (Or.inl ⟨by rfl, fun wx hSw => ?_⟩) hS ?_
          rotate_left
          · (try dsimp only at hSw); go_simp; (try with_reducible rfl)
          try simp only [Act.put, List.setIfInBounds_toArray, List.set_cons_zero, List.set_cons_succ]
          refine wpAnyF_take (i := 10) (v := ?_) rfl (by kernel_rfl) (by kernel_rfl) (by kernel_rfl) (by kernel_rfl) (fun _ _ _ h => h) (Or.inl ⟨by rfl, fun wx hSw => ?_⟩) hS ?_
          rotate_left
          · (try dsimp only at hSw); go_simp; (try with_reducible rfl)
          try simp only [Act.put, List.setIfInBounds_toArray, List.set_cons_zero, List.set_cons_succ]
          refine wpAnyF_take (i := 11) (v := ?_) rfl (by kernel_rfl) (by kernel_rfl) (by kernel_rfl) (by kernel_rfl) (fun _ _ _ h => h) (Or.inl ⟨by rfl, fun wx hSw => ?_⟩) hS ?_
          rotate_left
          · (try dsimp only at hSw); go_simp; (try with_reducible rfl)
          try simp only [Act.put, List.setIfInBounds_toArray, List.set_cons_zero, List.set_cons_succ]
          refine wpAnyF_take (i := 12) (v := ?_) rfl (by kernel_rfl) (by kernel_rfl) (by kernel_rfl) (by kernel_rfl) (fun _ _ _ h => h) (Or.inl ⟨by rfl, fun wx hSw => ?_⟩) hS ?_
          rotate_left
          · (try dsimp only at hSw); go_simp; (try with_reducible rfl)
          try simp only [Act.put, List.setIfInBounds_toArray, List.set_cons_zero, List.set_cons_succ]
          refine wpAnyF_one (i := 13) rfl (by kernel_rfl) (fun K hK => ?_)
          go_simp
          refine hK.out _ _ hS ?_
          clear hK K
          try simp only [Act.put, List.setIfInBounds_toArray, List.set_cons_zero, List.set_cons_succ]
          refine wpAnyF_one (i := 14) rfl (by kernel_rfl) (fun K hK => ?_)
          go_simp
          refine hK.out _ _ hS ?_
          clear hK K
          try simp only [Act.put, List.setIfInBounds_toArray, List.set_cons_zero, List.set_cons_succ]
          clear hS
          have ho : ∀ c, c < 5 → (wr.drew.setCells blk (off + (k + 1) * 5) pb.cells.toArray.toList).cell? ⟨blk, off + (k) * 5 + c, none⟩ = wr.drew.cell? ⟨blk, off + (k) * 5 + c, none⟩ := fun c hc => World.cell?_setCells_out blk _ _ _ _ (fun _ _ => by show off + (k) * 5 + c < off + (k + 1) * 5 ∨ off + (k + 1) * 5 + 5 ≤ off + (k) * 5 + c; omega)
          have hS : (fun w' => w'.cell? ⟨blk, off + (k) * 5, none⟩ = some (.int .i64 pb.fr) ∧ w'.cell? ⟨blk, off + (k) * 5 + 1, none⟩ = some (.int .i64 pb.to) ∧ w'.cell? ⟨blk, off + (k) * 5 + 2, none⟩ = some (.int .i64 pb.du) ∧ w'.cell? ⟨blk, off + (k) * 5 + 3, none⟩ = some (.int .i64 pb.se) ∧ w'.cell? ⟨blk, off + (k) * 5 + 4, none⟩ = some (.slice pb.A pb.n pb.c)) (wr.drew.setCells blk (off + (k + 1) * 5) pb.cells.toArray.toList) := ⟨(ho 0 (by omega)).trans b0, (ho 1 (by omega)).trans b1, (ho 2 (by omega)).trans b2, (ho 3 (by omega)).trans b3, (ho 4 (by omega)).trans b4⟩
          clear ho
          refine wpAnyF_one (i := 15) rfl (by kernel_rfl) (fun K hK => ?_)
          rw [if_pos (by rfl)]
          refine wp_store_mid 35 (.tmp 127) (.tmp 122) rfl blk (off + (k + 1) * 5) pb.cells.toArray rfl rfl ((World.there_drew _ _ _ _).2 ta.out) (by kernel_rfl) (all_oneCell_toArray (HR.out.h1 pb)) ?_
          refine hK.out _ _ hS ?_
          clear hK K
          try simp only [Act.put, List.setIfInBounds_toArray, List.set_cons_zero, List.set_cons_succ]
          refine wpAnyF_one (i := 16) rfl (by kernel_rfl) (fun K hK => ?_)
          go_simp
          refine hK.out _ _ hS ?_
          clear hK K
          try simp only [Act.put, List.setIfInBounds_toArray, List.set_cons_zero, List.set_cons_succ]
          refine wpAnyF_last rfl (by kernel_rfl) (by kernel_rfl) (fun K hK => ?_)
          rw [if_pos (by rfl)]
          refine wp_store_mid 35 (.tmp 128) (.tmp 126) rfl blk (off + (k) * 5) pa.cells.toArray rfl rfl (World.there_setCells ((World.there_drew _ _ _ _).2 tb.out) _ _ _) (by kernel_rfl) (all_oneCell_toArray (HR.out.h1 pa)) ?_
          refine hK.out _ _ ?_
          clear hK K hS
          try simp only [Act.put, List.setIfInBounds_toArray, List.set_cons_zero, List.set_cons_succ]
          --END
          have HSW2 : Hid (SP w0 blk off (swp dk (k + 1) k) ((wr.drew.setCells blk (off + (k + 1) * 5) pb.cells.toArray.toList).setCells blk (off + k * 5) pa.cells.toArray.toList)) := HSW
          clear HSW ta tb
          generalize (wr.drew.setCells blk (off + (k + 1) * 5) pb.cells.toArray.toList).setCells blk (off + k * 5) pa.cells.toArray.toList = wn at *
          clear a0 a1 a2 a3 a4 b0 b1 b2 b3 b4
          go_wp2_with fail
          go_roundw
          case rel => exact ⟨k, _, by first | rfl | go_num, by omega, by omega, (size_swp _ _ _).trans HDK.out, HSW2.out, HU.out, HP.out⟩
          case measure => simp [intOf]
        · obtain rfl : k = i := by omega
          have HU := Lib.hid hU
          have HP := Lib.hid hP
          have HS2 := Lib.hid hS
          clear hU hP hS
          go_wp2_with fail
          (try simp only [Exit.inBlock, Exit.then]); refine bodyPost_ret (results_none rfl _ _ _) rfl ?_
          exact ⟨rfl, dk, mg_dn swo_lp HU.out HP.out hi hj HL.out HRR.out, HS2.out⟩
end Go.Proofs.Ytdlcjieaoalhoaa.Bs
