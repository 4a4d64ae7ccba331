/- bus.node, bus.Send. -/
import Derived.Test.YtdlcjieaoalhoaaBusCopy
import Derived.Test.YtdlcjieaoalhoaaHeldF
import Derived.BigGuard
set_option linter.unusedVariables false
namespace Go.Proofs.Ytdlcjieaoalhoaa.Bs
open Go.RowKit Go.Proofs.Ytdlcjieaoalhoaa Crc Sm

set_option maxRecDepth 100000 in
theorem node_any (x : Int) (h : 0 ≤ x ∧ x < 4) (w : World) : Calls Try.prog 27 #[.int .i64 x] w fun e w' => e = .returned (.bool true) ∧ w' = w := by
  obtain ⟨h0, h1⟩ := h
  go_enter Try.func27, Try.ntmps27
  go_wp2_with fail
  go_ret
  exact ⟨rfl, rfl⟩

theorem send_results {W : World} {g : Nat} {cs : Array Value} (h : Blk W g 25 cs) (h3c : cs.size = 3) (e : Value) (tmps : Array Value) (h2 : tmps.getD 10 undef = .pointer (some ⟨g, 0, none⟩)) (h3 : tmps.getD 11 undef = e) :
    (results Try.f15 tmps).run Try.prog W = .ok (.tuple #[.agg cs, e]) W := by
  have h2' : tmps[10]?.getD undef = .pointer (some ⟨g, 0, none⟩) := by simpa using h2
  have h3' : tmps[11]?.getD undef = e := by simpa using h3
  simp [results, Try.results15, h2', h3', asAddr, run_loadVar_row (P := Try.prog) W g _ 25 cs (0, 0) _ h Try.underlying25 rfl (by rw [h3c]; kernel_rfl)]

set_option maxRecDepth 100000 in
set_option maxHeartbeats 8000000 in
theorem Send_any (now ser fr to dl : Int) (A : Option Addr) (n c : Nat) (L : List Pc) (B : Option Addr) (m cb : Nat) (zs : List Int) (w : World) (h : QR w A n c L) (hb : Ints w .u8 B m zs) (hB : B = none → m = 0 ∧ cb = 0) (hz : Byts8 zs) (hm : m ≤ 220) (hn : n < 400)
    (hf : 0 ≤ fr ∧ fr < 4) (ht : 0 ≤ to ∧ to < 4) (hne : fr ≠ to) (hd : 0 ≤ dl ∧ dl ≤ 1000) (hnow : 0 ≤ now ∧ now ≤ 1099511627776) (hser : 0 ≤ ser ∧ ser ≤ 100000) :
    Calls Try.prog 15 #[.agg #[.int .i64 now, .int .i64 ser, .slice A n c], .int .i64 fr, .int .i64 to, .slice B m cb, .int .i64 dl] w fun e w' =>
      ∃ A' c' L', e = .returned (.tuple #[.agg #[.int .i64 now, .int .i64 (ser + 1), .slice A' (n + 1) c'], .int .i64 0]) ∧
        QO w' w.heap.size (.slice A' (n + 1) c') L' ∧ L'.map Pc.key = L.map Pc.key ++ [(fr, to, now + dl, ser, zs)] ∧ Below w.heap.size w w' := by
  obtain ⟨i0, hi, hz0, hz1, hz2⟩ := info_parts infoParcel
  have hBl : Below w.heap.size w ((w.alloc (.cells #[.int .i64 now, .int .i64 ser, .slice A n c] 25)).alloc (.cells #[.int .i64 0, .int .i64 0, .slice none 0 0] 25)) := ((Below.refl _ _).alloc (by omega) _).alloc (by simp) _
  have hb0 : Blk ((w.alloc (.cells #[.int .i64 now, .int .i64 ser, .slice A n c] 25)).alloc (.cells #[.int .i64 0, .int .i64 0, .slice none 0 0] 25)) w.heap.size 25 #[.int .i64 now, .int .i64 ser, .slice A n c] := (Blk.new _ _ _).alloc _
  have hb1 : Blk ((w.alloc (.cells #[.int .i64 now, .int .i64 ser, .slice A n c] 25)).alloc (.cells #[.int .i64 0, .int .i64 0, .slice none 0 0] 25)) (w.heap.size + 1) 25 #[.int .i64 0, .int .i64 0, .slice none 0 0] := Blk.at_ _ _ _ _ (by simp)
  have KF := Lib.hid (fun W => node_any fr hf W)
  have KT := Lib.hid (fun W => node_any to ht W)
  have hkc := fun W (hW : Below w.heap.size w W) => copied_any now ser A n c L W (h.next hW) (by omega)
  have hkb := fun W (hW : Below w.heap.size w W) => Clone8_any B m cb zs W (hb.next hW) hB (by omega)
  have hkl := h.1
  have HKL := Lib.hid hkl
  have KC := Lib.hid hkc
  have KB := Lib.hid hkb
  have HBl := Lib.hid hBl
  have HB0 := Lib.hid hb0
  have HB1 := Lib.hid hb1
  have HZ := Lib.hid hz
  clear hkc hkb hBl hb0 hb1 h hb hkl hB hz
  obtain ⟨hf0, hf1⟩ := hf
  obtain ⟨ht0, ht1⟩ := ht
  obtain ⟨hd0, hd1⟩ := hd
  obtain ⟨hn0, hn1⟩ := hnow
  obtain ⟨hs0, hs1⟩ := hser
  have q1 : (fr == to) = false := by simpa using hne
  have q2 : decide (dl < 0) = false := by simpa using hd0
  have q3 : decide (1000 < dl) = false := by simpa using hd1
  have q4 : decide (now < 0) = false := by simpa using hn0
  have q5 : decide (1099511627776 < now) = false := by simpa using hn1
  have q6 : decide (220 < (m : Int)) = false := by simp; omega
  have q7 : decide (400 ≤ (n : Int)) = false := by simp; omega
  go_enter Try.func15, Try.ntmps15
  go_wp2_with (first
    | go_big_skip
    | (go_at_call 27; (with_reducible refine (KF.out _).mono ?_); rintro e w2 ⟨rfl, rfl⟩)
    | (go_at_call 27; (with_reducible refine (KT.out _).mono ?_); rintro e w2 ⟨rfl, rfl⟩)
    | (go_at_call 20; (with_reducible refine (KC.out _ HBl.out).mono ?_); rintro e w2 ⟨A', c', L', rfl, hO, hkey, hB2⟩; go_loud (have N0 := Lib.hid (HB0.out.next hB2); have N1 := Lib.hid (HB1.out.next hB2); have NB := Lib.hid (HBl.out.trans (hB2.mono (by simp; omega))); have HO := Lib.hid hO; have HY := Lib.hid hkey; clear hO hkey hB2; have e0 := N0.out.cell 0; have e1 := N0.out.cell 1; have e2 := N0.out.cell 2; have f0 := N0.out.frozen 0; have f1 := N0.out.frozen 1; have f2 := N0.out.frozen 2; (simp only [List.getElem?_toArray, List.getElem?_cons_zero, List.getElem?_cons_succ] at e0 e1 e2))))
  have hp : Blk (((w2.setCell ⟨w.heap.size, 0, none⟩ (.int .i64 now)).setCell ⟨w.heap.size, 1, none⟩ (.int .i64 ser)).setCell ⟨w.heap.size, 2, none⟩ (.slice A' n c')) w.heap.size 25 #[.int .i64 now, .int .i64 ser, .slice A' n c'] := ((N0.out.set_ 0 _).set_ 1 _).set_ 2 _
  have hl : L'.length = n := by have := congrArg List.length HY.out; simpa [HKL.out] using this
  have hq : QO (((w2.setCell ⟨w.heap.size, 0, none⟩ (.int .i64 now)).setCell ⟨w.heap.size, 1, none⟩ (.int .i64 ser)).setCell ⟨w.heap.size, 2, none⟩ (.slice A' n c')) (w.heap.size + 1 + 1) (.slice A' n c') L' :=
    (((HO.out.down (by simp)).grown (grown_set _ w.heap.size 0 _) N0.out (by decide) (by decide)).grown (grown_set _ w.heap.size 1 _) (N0.out.set_ 0 _) (by decide) (by decide)).grown (grown_set _ w.heap.size 2 _) ((N0.out.set_ 0 _).set_ 1 _) (by decide) (by decide)
  have hB : Below w.heap.size w (((w2.setCell ⟨w.heap.size, 0, none⟩ (.int .i64 now)).setCell ⟨w.heap.size, 1, none⟩ (.int .i64 ser)).setCell ⟨w.heap.size, 2, none⟩ (.slice A' n c')) := ((NB.out.setCell (p := ⟨w.heap.size, 0, none⟩) (Nat.le_refl _) _).setCell (p := ⟨w.heap.size, 1, none⟩) (Nat.le_refl _) _).setCell (p := ⟨w.heap.size, 2, none⟩) (Nat.le_refl _) _
  have hz1 : Blk (((w2.setCell ⟨w.heap.size, 0, none⟩ (.int .i64 now)).setCell ⟨w.heap.size, 1, none⟩ (.int .i64 ser)).setCell ⟨w.heap.size, 2, none⟩ (.slice A' n c')) (w.heap.size + 1) 25 #[.int .i64 0, .int .i64 0, .slice none 0 0] := ((N1.out.far (by simp) _).far (by simp) _).far (by simp) _
  clear e0 e1 e2 f0 f1 f2 N0 N1 NB HO
  generalize ((w2.setCell ⟨w.heap.size, 0, none⟩ (.int .i64 now)).setCell ⟨w.heap.size, 1, none⟩ (.int .i64 ser)).setCell ⟨w.heap.size, 2, none⟩ (.slice A' n c') = wz at *
  have hP := hp.drew
  have hQ := hq.next (Below.refl _ wz).drew
  have hBB := hB.drew
  have hZ1 := hz1.drew
  clear hp hq hB hz1
  have hsz := hZ1.lt
  have HKB := Lib.hid (KB.out _ hBB)
  refine wp_region_F 16 (fun w' => w'.cell? ⟨w.heap.size, 0, none⟩ = some (.int .i64 now) ∧ w'.cell? ⟨w.heap.size, 1, none⟩ = some (.int .i64 ser) ∧ w'.cell? ⟨w.heap.size, 2, none⟩ = some (.slice A' n c')) (by kernel_rfl) ⟨hP.cell 0, hP.cell 1, hP.cell 2⟩ (fun hS => ?_)
  generalize wz.drew = wd at *
  have hwr : IntKind.i64.wrap (now + dl) = now + dl := IntWalk.i64_in _ (by omega)
  refine wpAnyF_take (i := 0) (v := ?_) rfl (by kernel_rfl) (by kernel_rfl) (by kernel_rfl) (by kernel_rfl) (fun _ _ _ h => h) (Or.inl ⟨by rfl, fun wx hSw => ?_⟩) hS ?_
  rotate_left
  · (try dsimp only at hSw); go_simp; (try with_reducible rfl)
  try simp only [Act.put, List.setIfInBounds_toArray, List.set_cons_zero, List.set_cons_succ]
  refine wpAnyF_take (i := 1) (v := ?_) rfl (by kernel_rfl) (by kernel_rfl) (by kernel_rfl) (by kernel_rfl) (fun _ _ _ h => h) (Or.inl ⟨by rfl, fun wx hSw => ?_⟩) hS ?_
  rotate_left
  · (try dsimp only at hSw); go_simp; (try with_reducible rfl)
  try simp only [Act.put, List.setIfInBounds_toArray, List.set_cons_zero, List.set_cons_succ]
  refine wpAnyF_take (i := 2) (v := ?_) rfl (by kernel_rfl) (by kernel_rfl) (by kernel_rfl) (by kernel_rfl) (fun _ _ _ h => h) (Or.inl ⟨by rfl, fun wx hSw => ?_⟩) hS ?_
  rotate_left
  · (try dsimp only at hSw); go_simp; (try with_reducible rfl)
  try simp only [Act.put, List.setIfInBounds_toArray, List.set_cons_zero, List.set_cons_succ]
  refine wpAnyF_take (i := 3) (v := ?_) rfl (by kernel_rfl) (by kernel_rfl) (by kernel_rfl) (by kernel_rfl) (fun _ _ _ h => h) (Or.inl ⟨by rfl, fun wx hSw => ?_⟩) hS ?_
  rotate_left
  · (try dsimp only at hSw); go_simp; (try with_reducible rfl)
  try simp only [Act.put, List.setIfInBounds_toArray, List.set_cons_zero, List.set_cons_succ]
  refine wpAnyF_take (i := 4) (v := ?_) rfl (by kernel_rfl) (by kernel_rfl) (by kernel_rfl) (by kernel_rfl) (fun _ _ _ h => h) (Or.inl ⟨by rfl, fun wx hSw => ?_⟩) hS ?_
  rotate_left
  · (try dsimp only at hSw); go_simp; (try with_reducible rfl)
  try simp only [Act.put, List.setIfInBounds_toArray, List.set_cons_zero, List.set_cons_succ]
  refine wpAnyF_take (i := 5) (v := ?_) rfl (by kernel_rfl) (by kernel_rfl) (by kernel_rfl) (by kernel_rfl) (fun _ _ _ h => h) (Or.inl ⟨by rfl, fun wx hSw => ?_⟩) hS ?_
  rotate_left
  · (try dsimp only at hSw); go_simp; (try with_reducible rfl)
  try simp only [Act.put, List.setIfInBounds_toArray, List.set_cons_zero, List.set_cons_succ]
  refine wpAnyF_take (i := 6) (v := ?_) rfl (by kernel_rfl) (by kernel_rfl) (by kernel_rfl) (by kernel_rfl) (fun _ _ _ h => h) (Or.inl ⟨by rfl, fun wx hSw => ?_⟩) hS ?_
  rotate_left
  · (try dsimp only at hSw); go_simp; (try with_reducible rfl)
  try simp only [Act.put, List.setIfInBounds_toArray, List.set_cons_zero, List.set_cons_succ]
  refine wpAnyF_take (i := 7) (v := ?_) rfl (by kernel_rfl) (by kernel_rfl) (by kernel_rfl) (by kernel_rfl) (fun _ _ _ h => h) (Or.inl ⟨by rfl, fun wx hSw => ?_⟩) hS ?_
  rotate_left
  · (try dsimp only at hSw); go_simp; (try with_reducible rfl)
  try simp only [Act.put, List.setIfInBounds_toArray, List.set_cons_zero, List.set_cons_succ]
  try simp only [hwr]
  refine wpAnyF_take (i := 8) (v := ?_) rfl (by kernel_rfl) (by kernel_rfl) (by kernel_rfl) (by kernel_rfl) (fun _ _ _ h => h) (Or.inl ⟨by rfl, fun wx hSw => ?_⟩) hS ?_
  rotate_left
  · (try dsimp only at hSw); go_simp; (try with_reducible rfl)
  try simp only [Act.put, List.setIfInBounds_toArray, List.set_cons_zero, List.set_cons_succ]
  refine wpAnyF_take (i := 9) (v := ?_) rfl (by kernel_rfl) (by kernel_rfl) (by kernel_rfl) (by kernel_rfl) (fun _ _ _ h => h) (Or.inl ⟨by rfl, fun wx hSw => ?_⟩) hS ?_
  rotate_left
  · (try dsimp only at hSw); go_simp; (try with_reducible rfl)
  try simp only [Act.put, List.setIfInBounds_toArray, List.set_cons_zero, List.set_cons_succ]
  refine wpAnyF_take (i := 10) (v := ?_) rfl (by kernel_rfl) (by kernel_rfl) (by kernel_rfl) (by kernel_rfl) (fun _ _ _ h => h) (Or.inl ⟨by rfl, fun wx hSw => ?_⟩) hS ?_
  rotate_left
  · (try dsimp only at hSw); go_simp; (try with_reducible rfl)
  try simp only [Act.put, List.setIfInBounds_toArray, List.set_cons_zero, List.set_cons_succ]
  refine wpAnyF_one (i := 11) rfl (by kernel_rfl) (fun K hK => ?_)
  go_simp
  (with_reducible refine HKB.out.mono ?_)
  rintro e w4 ⟨A1, c1, rfl, hN, hB4⟩
  have hP4 := hP.next hB4
  have hQ4 := hQ.next hB4
  have hZ4 := hZ1.next hB4
  have hBB4 := hBB.trans (hB4.mono (by omega))
  have hsz4 := hZ4.lt
  have hsd := hB4.size
  clear hS
  have hS : (fun w' => w'.cell? ⟨w.heap.size, 0, none⟩ = some (.int .i64 now) ∧ w'.cell? ⟨w.heap.size, 1, none⟩ = some (.int .i64 ser) ∧ w'.cell? ⟨w.heap.size, 2, none⟩ = some (.slice A' n c')) (w4) := ⟨hP4.cell 0, hP4.cell 1, hP4.cell 2⟩
  refine hK.out _ _ hS ?_
  clear hK K
  try simp only [Act.put, List.setIfInBounds_toArray, List.set_cons_zero, List.set_cons_succ]
  refine wpAnyF_take (i := 12) (v := ?_) rfl (by kernel_rfl) (by kernel_rfl) (by kernel_rfl) (by kernel_rfl) (fun _ _ _ h => h) (Or.inl ⟨by rfl, fun wx hSw => ?_⟩) hS ?_
  rotate_left
  · (try dsimp only at hSw); go_simp; (try with_reducible rfl)
  try simp only [Act.put, List.setIfInBounds_toArray, List.set_cons_zero, List.set_cons_succ]
  have hP5 := hP4.alloc (.cells #[.int .i64 fr, .int .i64 to, .int .i64 (now + dl), .int .i64 ser, .slice A1 m c1] 35)
  have hQ5 := hQ4.alloc (.cells #[.int .i64 fr, .int .i64 to, .int .i64 (now + dl), .int .i64 ser, .slice A1 m c1] 35)
  refine wpAnyF_one (i := 13) rfl (by kernel_rfl) (fun K hK => ?_)
  go_simp
  clear hS
  have hS : (fun w' => w'.cell? ⟨w.heap.size, 0, none⟩ = some (.int .i64 now) ∧ w'.cell? ⟨w.heap.size, 1, none⟩ = some (.int .i64 ser) ∧ w'.cell? ⟨w.heap.size, 2, none⟩ = some (.slice A' n c')) (w4.alloc (.cells #[.int .i64 fr, .int .i64 to, .int .i64 (now + dl), .int .i64 ser, .slice A1 m c1] 35)) := ⟨hP5.cell 0, hP5.cell 1, hP5.cell 2⟩
  refine hK.out _ _ hS ?_
  clear hK K
  try simp only [Act.put, List.setIfInBounds_toArray, List.set_cons_zero, List.set_cons_succ]
  refine wpAnyF_one (i := 14) rfl (by kernel_rfl) (fun K hK => ?_)
  rw [if_pos (by rfl)]
  refine wp_append_lies _ _ _ 23 rfl (w.heap.size + 1 + 1) 35 i0 (.agg #[.int .i64 0, .int .i64 0, .int .i64 0, .int .i64 0, .slice none 0 0]) 5 56 Try.underlying23 hi hz0 hz1 hz2 rfl (by decide) (.slice A' n c') n (flat L') rfl (own_n hl hQ5.1) ⟨w4.heap.size, 0, none⟩ 1 1 (Pc.cells ⟨fr, to, now + dl, ser, A1, m, c1, zs⟩) rfl rfl (World.news_of_block (new_at rfl)) (by intro u hu; simp [Pc.cells] at hu; rcases hu with rfl | rfl | rfl | rfl | rfl <;> rfl) (by decide) (by unfold maxLen; omega) (by omega) (by simp; omega) (w4.heap.size + 1) (by simp) ?_
  intro g' cap w5 hown5 hg5 hat hlt
  have hne0 := own_blk_ne hQ5.1 hP5 (by decide)
  have hne1 := own_blk_ne hQ5.1 (hZ4.alloc (.cells #[.int .i64 fr, .int .i64 to, .int .i64 (now + dl), .int .i64 ser, .slice A1 m c1] 35)) (by decide)
  have hP6 := hP5.grown hg5 hne0
  have hZ6 := (hZ4.alloc (.cells #[.int .i64 fr, .int .i64 to, .int .i64 (now + dl), .int .i64 ser, .slice A1 m c1] 35)).grown hg5 hne1
  clear hS
  have hS : (fun w' => w'.cell? ⟨w.heap.size, 0, none⟩ = some (.int .i64 now) ∧ w'.cell? ⟨w.heap.size, 1, none⟩ = some (.int .i64 ser) ∧ w'.cell? ⟨w.heap.size, 2, none⟩ = some (.slice A' n c')) (w5) := ⟨hP6.cell 0, hP6.cell 1, hP6.cell 2⟩
  refine hK.out _ _ hS ?_
  clear hK K
  try simp only [Act.put, List.setIfInBounds_toArray, List.set_cons_zero, List.set_cons_succ]
  refine wpAnyF_take (i := 15) (v := ?_) rfl (by kernel_rfl) (by kernel_rfl) (by kernel_rfl) (by kernel_rfl) (fun _ _ _ h => h) (Or.inl ⟨by rfl, fun wx hSw => ?_⟩) hS ?_
  rotate_left
  · (try dsimp only at hSw); go_simp; (try with_reducible rfl)
  try simp only [Act.put, List.setIfInBounds_toArray, List.set_cons_zero, List.set_cons_succ]
  refine wpAnyF_last rfl (by kernel_rfl) (by kernel_rfl) (fun K hK => ?_)
  have e0 := hP6.cell 0
  have e1 := hP6.cell 1
  have e2 := hP6.cell 2
  have f0 := hP6.frozen 0
  have f1 := hP6.frozen 1
  have f2 := hP6.frozen 2
  have m0 := hZ6.cell 0
  have m1 := hZ6.cell 1
  have m2 := hZ6.cell 2
  have g0 := hZ6.frozen 0
  have g1 := hZ6.frozen 1
  have g2 := hZ6.frozen 2
  simp only [List.getElem?_toArray, List.getElem?_cons_zero, List.getElem?_cons_succ] at e0 e1 e2 m0 m1 m2
  go_simp
  refine hK.out _ _ ?_
  clear hK K hS
  try simp only [Act.put, List.setIfInBounds_toArray, List.set_cons_zero, List.set_cons_succ]
  have HP6 := Lib.hid hP6
  have HZ6 := Lib.hid hZ6
  go_wp2_with fail
  have hqo : Pc.Owns (w4.alloc (.cells #[.int .i64 fr, .int .i64 to, .int .i64 (now + dl), .int .i64 ser, .slice A1 m c1] 35)) wd.heap.size ⟨fr, to, now + dl, ser, A1, m, c1, zs⟩ := Pc.Owns.next (w := w4) ⟨hN, hm, HZ.out⟩ ((Below.refl _ _).alloc (Nat.le_refl _) _)
  have hq5 : QO w5 (w.heap.size + 1 + 1) (.slice (some ⟨g', 0, none⟩) (n + 1) cap) (L' ++ [⟨fr, to, now + dl, ser, A1, m, c1, zs⟩]) := by
    refine hQ5.push (by rw [hl]; exact hown5) hg5 (hqo.down (by omega)) ?_
    intro p' hp' x hx hx2
    have h1 := (hQ.2.1 p' hp').lt hx
    have h2 := hqo.lt hx2
    omega
  have hb5 : Below w.heap.size w w5 := (hBB4.alloc (by omega) _).grown hg5 (by simp; omega) (fun j hj => by have := (hQ5.lt j hj).1; omega)
  have hz7 := (HZ6.out.far (p := ⟨w.heap.size, 2, none⟩) (by simp) (.slice (some ⟨g', 0, none⟩) (n + 1) cap)).far (p := ⟨w.heap.size, 1, none⟩) (by simp) (.int .i64 (ser + 1))
  have hq6 := (hq5.grown (grown_set _ w.heap.size 2 (.slice (some ⟨g', 0, none⟩) (n + 1) cap)) HP6.out (by decide) (by decide)).grown (grown_set _ w.heap.size 1 (.int .i64 (ser + 1))) (HP6.out.set_ 2 _) (by decide) (by decide)
  have hq7 := ((hq6.grown (grown_set _ (w.heap.size + 1) 0 (.int .i64 now)) hz7 (by decide) (by decide)).grown (grown_set _ (w.heap.size + 1) 1 (.int .i64 (ser + 1))) (hz7.set_ 0 _) (by decide) (by decide)).grown (grown_set _ (w.heap.size + 1) 2 (.slice (some ⟨g', 0, none⟩) (n + 1) cap)) ((hz7.set_ 0 _).set_ 1 _) (by decide) (by decide)
  refine bodyPost_ret (v := .tuple #[.agg #[.int .i64 now, .int .i64 (ser + 1), .slice (some ⟨g', 0, none⟩) (n + 1) cap], .int .i64 0]) (send_results (((hz7.set_ 0 _).set_ 1 _).set_ 2 _) rfl _ _ rfl rfl) rfl ⟨_, _, _, rfl, hq7.down (by omega), ?_, ?_⟩
  · rw [List.map_append, HY.out]; rfl
  · exact ((((hb5.setCell (p := ⟨w.heap.size, 2, none⟩) (Nat.le_refl _) _).setCell (p := ⟨w.heap.size, 1, none⟩) (Nat.le_refl _) _).setCell (p := ⟨w.heap.size + 1, 0, none⟩) (Nat.le_succ _) _).setCell (p := ⟨w.heap.size + 1, 1, none⟩) (Nat.le_succ _) _).setCell (p := ⟨w.heap.size + 1, 2, none⟩) (Nat.le_succ _) _
end Go.Proofs.Ytdlcjieaoalhoaa.Bs
