/- fourwatchkeep.loaded: a bus on which parcels are on the way. -/
import Derived.Test.YtdlcjieaoalhoaaBusSend
import Derived.Test.YtdlcjieaoalhoaaSpot
import Derived.Test.YtdlcjieaoalhoaaBusDel
import Derived.Sort.Walk13
set_option linter.unusedVariables false
namespace Go.Proofs.Ytdlcjieaoalhoaa.Bs
open Go.RowKit Go.Proofs.Ytdlcjieaoalhoaa Crc Sm

structure Ld where
  fr : Int
  to : Int
  dl : Int
  A : Option Addr
  n : Nat
  c : Nat
  zs : List Int
/-- a list of loads that is read -/
def LR (w : World) (A : Option Addr) (n : Nat) (D : Nat → Ld) : Prop :=
  (0 < n → ∃ b off, A = some ⟨b, off, none⟩ ∧ b < w.heap.size ∧ ∀ j, j < n → w.cell? ⟨b, off + j * 4, none⟩ = some (.int .i64 (D j).fr) ∧ w.cell? ⟨b, off + j * 4 + 1, none⟩ = some (.int .i64 (D j).to) ∧ w.cell? ⟨b, off + j * 4 + 2, none⟩ = some (.int .i64 (D j).dl) ∧ w.cell? ⟨b, off + j * 4 + 3, none⟩ = some (.slice (D j).A (D j).n (D j).c)) ∧
  ∀ j, j < n → Ints w .u8 (D j).A (D j).n (D j).zs ∧ ((D j).A = none → (D j).n = 0 ∧ (D j).c = 0) ∧ (D j).n ≤ 140737488351232 ∧ Byts8 (D j).zs
theorem LR.next {w w' : World} {A : Option Addr} {n : Nat} {D : Nat → Ld} (h : LR w A n D) (hb : Below w.heap.size w w') : LR w' A n D :=
  ⟨fun hn => by
    obtain ⟨b, off, e, hlt, hc⟩ := h.1 hn
    refine ⟨b, off, e, Nat.lt_of_lt_of_le hlt hb.size, fun j hj => ?_⟩
    obtain ⟨c0, c1, c2, c3⟩ := hc j hj
    exact ⟨(hb.cell (p := ⟨b, _, none⟩) hlt).trans c0, (hb.cell (p := ⟨b, _, none⟩) hlt).trans c1, (hb.cell (p := ⟨b, _, none⟩) hlt).trans c2, (hb.cell (p := ⟨b, _, none⟩) hlt).trans c3⟩,
   fun j hj => ⟨(h.2 j hj).1.next hb, (h.2 j hj).2⟩⟩
/-- what the i-th parcel tells -/
def ldKey (D : Nat → Ld) (i : Nat) : Int × Int × Int × Int × List Int := ((D i).fr % 4, ((D i).fr % 4 + 1 + (D i).to % 3) % 4, (D i).dl % 1001, i, (D i).zs.take 220)
def LdRel (w : World) (D : Nat → Ld) (n : Nat) (i : Value) (wr : World) : Prop :=
  ∃ (k : Nat) (A' : Option Addr) (c' : Nat) (L : List Pc), k ≤ n ∧ k ≤ 100 ∧ i = .int .i64 k ∧ Blk wr (w.heap.size + 1) 25 #[.int .i64 0, .int .i64 k, .slice A' k c'] ∧ Blk wr w.heap.size 25 #[.int .i64 0, .int .i64 0, .slice none 0 0] ∧
    QO wr w.heap.size (.slice A' k c') L ∧ L.map Pc.key = (List.range k).map (ldKey D) ∧ Below w.heap.size w wr
def LdPost (D : Nat → Ld) (n : Nat) (w : World) (e : Ending) (w' : World) : Prop :=
  ∃ (A' : Option Addr) (c' : Nat) (L : List Pc), e = .returned (.tuple #[.agg #[.int .i64 0, .int .i64 (min n 100 : Nat), .slice A' (min n 100) c'], .bool true]) ∧ QO w' w.heap.size (.slice A' (min n 100) c') L ∧ L.map Pc.key = (List.range (min n 100)).map (ldKey D) ∧ Below w.heap.size w w'

theorem load_results {W : World} {g : Nat} {cs : Array Value} (h : Blk W g 25 cs) (h3c : cs.size = 3) (e : Value) (tmps : Array Value) (h2 : tmps.getD 2 undef = .pointer (some ⟨g, 0, none⟩)) (h3 : tmps.getD 3 undef = e) :
    (results Try.f7 tmps).run Try.prog W = .ok (.tuple #[.agg cs, e]) W := by
  have h2' : tmps[2]?.getD undef = .pointer (some ⟨g, 0, none⟩) := by simpa using h2
  have h3' : tmps[3]?.getD undef = e := by simpa using h3
  simp [results, Try.results7, h2', h3', asAddr, run_loadVar_row (P := Try.prog) W g _ 25 cs (0, 0) _ h Try.underlying25 rfl (by rw [h3c]; kernel_rfl)]

theorem sk9 {w9 : World} {g b o1 o2 : Nat} {k : Int} {v x1 x2 : Value} (h : Blk w9 g 25 #[.int .i64 0, .int .i64 k, v]) (h1 : w9.cell? ⟨b, o1, none⟩ = some x1) (h2 : w9.cell? ⟨b, o2, none⟩ = some x2) (W : World) (hB : Below w9.heap.size w9 W) :
    W.cell? ⟨g, 0, none⟩ = some (.int .i64 0) ∧ W.cell? ⟨g, 1, none⟩ = some (.int .i64 k) ∧ W.cell? ⟨g, 2, none⟩ = some v ∧ W.cell? ⟨b, o1, none⟩ = some x1 ∧ W.cell? ⟨b, o2, none⟩ = some x2 :=
  have hb : b < w9.heap.size := World.block_lt_of_cell? _ _ h1
  ⟨(h.next hB).cell 0, (h.next hB).cell 1, (h.next hB).cell 2, (hB.cell (p := ⟨b, o1, none⟩) hb).trans h1, (hB.cell (p := ⟨b, o2, none⟩) hb).trans h2⟩
/-- what stands behind a round's Send -/
def FinL (w : World) (k : Nat) (gB : Nat) (A : Option Addr) (c : Nat) (C : Array Value) (L : List Pc) (wf : World) : Prop :=
  Blk wf gB 25 #[.int .i64 0, .int .i64 ((k : Int) + 1), .slice A (k + 1) c] ∧ Blk wf (w.heap.size + 1) 25 C ∧ Blk wf w.heap.size 25 #[.int .i64 0, .int .i64 0, .slice none 0 0] ∧ QO wf w.heap.size (.slice A (k + 1) c) L ∧ Below w.heap.size w wf
theorem fin_a {w w2 w9 : World} {k c : Nat} {A : Option Addr} {C : Array Value} {L : List Pc} (h1 : Blk w2 (w.heap.size + 1) 25 C) (h0 : Blk w2 w.heap.size 25 #[.int .i64 0, .int .i64 0, .slice none 0 0])
    (hz : Blk w9 w2.heap.size 25 #[.int .i64 0, .int .i64 0, .slice none 0 0]) (hB : Below w2.heap.size w2 w9) (hq : QO w9 w.heap.size (.slice A (k + 1) c) L) (hB2 : Below w.heap.size w w2) :
    FinL w k w2.heap.size A c C L (((w9.setCell ⟨w2.heap.size, 0, none⟩ (.int .i64 0)).setCell ⟨w2.heap.size, 1, none⟩ (.int .i64 ((k : Int) + 1))).setCell ⟨w2.heap.size, 2, none⟩ (.slice A (k + 1) c)) := by
  have l1 := h1.lt
  have l0 := h0.lt
  have hsz := hB2.size
  exact ⟨((hz.set_ 0 _).set_ 1 _).set_ 2 _, (((h1.next hB).far (by simp; omega) _).far (by simp; omega) _).far (by simp; omega) _, (((h0.next hB).far (by simp; omega) _).far (by simp; omega) _).far (by simp; omega) _,
    ((hq.grown (grown_set _ w2.heap.size 0 _) hz (by decide) (by decide)).grown (grown_set _ w2.heap.size 1 _) (hz.set_ 0 _) (by decide) (by decide)).grown (grown_set _ w2.heap.size 2 _) ((hz.set_ 0 _).set_ 1 _) (by decide) (by decide),
    (((hB2.trans (hB.mono hsz)).setCell (p := ⟨w2.heap.size, 0, none⟩) hsz _).setCell (p := ⟨w2.heap.size, 1, none⟩) hsz _).setCell (p := ⟨w2.heap.size, 2, none⟩) hsz _⟩
theorem fin_b {w w2 w9 : World} {k c : Nat} {A : Option Addr} {C : Array Value} {L : List Pc} (h1 : Blk w2 (w.heap.size + 1) 25 C) (h0 : Blk w2 w.heap.size 25 #[.int .i64 0, .int .i64 0, .slice none 0 0])
    (hB : Below w2.heap.size w2 w9) (hq : QO w9 w.heap.size (.slice A (k + 1) c) L) (hB2 : Below w.heap.size w w2) :
    FinL w k w9.heap.size A c C L (w9.alloc (.cells #[.int .i64 0, .int .i64 ((k : Int) + 1), .slice A (k + 1) c] 25)) :=
  ⟨Blk.new _ _ _, (h1.next hB).alloc _, (h0.next hB).alloc _, hq.alloc _, (hB2.trans (hB.mono hB2.size)).alloc (Nat.le_trans hB2.size hB.size) _⟩
theorem ld_rel {w wf : World} {n k c : Nat} {A : Option Addr} {D : Nat → Ld} {L : List Pc} {C : Array Value} (h1 : Blk wf (w.heap.size + 1) 25 C) (h0 : Blk wf w.heap.size 25 #[.int .i64 0, .int .i64 0, .slice none 0 0])
    (hq : QO wf w.heap.size (.slice A (k + 1) c) L) (hB : Below w.heap.size w wf) (hk : L.map Pc.key = (List.range (k + 1)).map (ldKey D)) (hn : k + 1 ≤ n) (h100 : k + 1 ≤ 100) (h3 : C.size = 3 := by rfl) :
    LdRel w D n (.int .i64 ((k : Int) + 1)) (((wf.setCell ⟨w.heap.size + 1, 0, none⟩ (.int .i64 0)).setCell ⟨w.heap.size + 1, 1, none⟩ (.int .i64 ((k : Int) + 1))).setCell ⟨w.heap.size + 1, 2, none⟩ (.slice A (k + 1) c)) := by
  have hc : ((C.setIfInBounds 0 (.int .i64 0)).setIfInBounds 1 (.int .i64 ((k : Int) + 1))).setIfInBounds 2 (.slice A (k + 1) c) = #[.int .i64 0, .int .i64 ((k + 1 : Nat) : Int), .slice A (k + 1) c] := by
    obtain ⟨l⟩ := C
    match l, h3 with
    | [a, b, d], _ => rfl
  refine ⟨k + 1, A, c, L, hn, h100, rfl, ?_, ((h0.far (by simp) _).far (by simp) _).far (by simp) _,
    ((hq.grown (grown_set _ (w.heap.size + 1) 0 _) h1 (by decide) (by decide)).grown (grown_set _ (w.heap.size + 1) 1 _) (h1.set_ 0 _) (by decide) (by decide)).grown (grown_set _ (w.heap.size + 1) 2 _) ((h1.set_ 0 _).set_ 1 _) (by decide) (by decide), hk,
    ((hB.setCell (p := ⟨w.heap.size + 1, 0, none⟩) (Nat.le_succ _) _).setCell (p := ⟨w.heap.size + 1, 1, none⟩) (Nat.le_succ _) _).setCell (p := ⟨w.heap.size + 1, 2, none⟩) (Nat.le_succ _) _⟩
  have := ((h1.set_ 0 (.int .i64 0)).set_ 1 (.int .i64 ((k : Int) + 1))).set_ 2 (.slice A (k + 1) c)
  rw [hc] at this
  exact this
set_option maxRecDepth 100000 in
set_option maxHeartbeats 8000000 in
theorem loaded_any (A : Option Addr) (n c : Nat) (D : Nat → Ld) (w : World) (h : LR w A n D) (hn : n ≤ 9223372036854775807) :
    Calls Try.prog 7 #[.slice A n c] w (LdPost D n w) := by
  obtain ⟨ib, hinf, _, _, _⟩ := info_parts infoByte
  have H := Lib.hid h
  have hb1 : Blk ((w.alloc (.cells #[.int .i64 0, .int .i64 0, .slice none 0 0] 25)).alloc (.cells #[.int .i64 0, .int .i64 0, .slice none 0 0] 25)) (w.heap.size + 1) 25 #[.int .i64 0, .int .i64 0, .slice none 0 0] := Blk.at_ _ _ _ _ (by simp)
  have HS : Hid (LdRel w D n (.int .i64 0) ((w.alloc (.cells #[.int .i64 0, .int .i64 0, .slice none 0 0] 25)).alloc (.cells #[.int .i64 0, .int .i64 0, .slice none 0 0] 25))) :=
    ⟨0, none, 0, [], Nat.zero_le _, Nat.zero_le _, rfl, hb1, (Blk.new _ _ _).alloc _, QO.nil _ _, rfl, ((Below.refl _ _).alloc (Nat.le_refl _) _).alloc (by simp) _⟩
  clear h hb1
  go_enter Try.func7, Try.ntmps7
  go_wp2_with fail
  go_loopw [5] (fun i wr => LdRel w D n i wr) (fun i _ => n - (intOf i).toNat)
  case atStart => exact HS.out
  case round =>
    clear HS
    obtain ⟨k, A', c', L, hkn, hk1, rfl, hb1, hb0, hq, hkey, hB⟩ := hrel
    by_cases hend : k < n ∧ k < 100
    · obtain ⟨hk, hk100⟩ := hend
      have hlr := H.out.next hB
      obtain ⟨b, off, rfl, hlt, hc⟩ := hlr.1 (by omega)
      obtain ⟨c0, c1, c2, c3⟩ := hc k hk
      obtain ⟨hI, hAz, hnz, hbz⟩ := hlr.2 k hk
      obtain ⟨d, hd⟩ : ∃ d, d = D k := ⟨_, rfl⟩
      have hky : ldKey D k = (d.fr % 4, (d.fr % 4 + 1 + d.to % 3) % 4, d.dl % 1001, (k : Int), d.zs.take 220) := by rw [hd]; rfl
      rw [← hd] at c0 c1 c2 c3 hI hAz hnz hbz
      have q1 : (k : Int) < (n : Int) := by omega
      have q2 : (k : Int) < 100 := by omega
      have HKY := Lib.hid hky
      have HB1 := Lib.hid hb1
      have HB0 := Lib.hid hb0
      have HQ := Lib.hid hq
      have HKEY := Lib.hid hkey
      have HB := Lib.hid hB
      have HI := Lib.hid hI
      have HAZ := Lib.hid hAz
      have HBZ := Lib.hid hbz
      have HC1 := Lib.hid c1
      have HC2 := Lib.hid c2
      clear hky hb1 hb0 hq hkey hB hI hAz hbz hlr hc hd
      obtain ⟨fr, to, dl, Az, nz, cz, zs⟩ := d
      simp only at *
      have KF := Lib.hid (fun W => spot_any fr 4 W (by decide) (by decide))
      have KT := Lib.hid (fun W => spot_any to 3 W (by decide) (by decide))
      have KD := Lib.hid (fun W => spot_any dl 1001 W (by decide) (by decide))
      have KB := Lib.hid (bytes_any Az nz cz zs wr HI.out HAZ.out (by omega))
      by_cases hlong : 220 < nz
      · have q3 : decide (220 < (nz : Int)) = true := by simp; omega
        go_upto_region 9 with (first
          | (go_at_call 9; (with_reducible refine (KF.out _).mono ?_); rintro e w2 ⟨rfl, rfl⟩)
          | (go_at_call 19; (with_reducible refine KB.out.mono ?_); rintro e w2 ⟨A2, cz2, rfl, hN2, hB2⟩; have hnc2 := own_nc hN2; have HN2 := Lib.hid hN2; have HB2 := Lib.hid hB2; clear hN2 hB2))
        have hiz := (ints_own HN2.out).1
        have hia := (ints_own HN2.out).2
        have hzl := hiz.1
        have hi2 : Ints w2 .u8 A2 220 (zs.take 220) := (cut_to (kd := .i64) Try.underlying33 hinf hiz (by omega) (by omega)).2
        have hz3 : Byts8 (zs.take 220) := fun z hz => HBZ.out z (List.mem_of_mem_take hz)
        have hb3 := (HB1.out.next HB2.out)
        have hb4 := (HB0.out.next HB2.out)
        have hq3 := (HQ.out.next HB2.out)
        have hB3 := (HB.out.trans (HB2.out.mono HB.out.size))
        have x1 := (HB2.out.cell (p := ⟨b, off + k * 4 + 1, none⟩) hlt).trans HC1.out
        have x2 := (HB2.out.cell (p := ⟨b, off + k * 4 + 2, none⟩) hlt).trans HC2.out
        have SK := Lib.hid (sk9 hb3 x1 x2)
        have hfm := Int.emod_nonneg fr (b := 4) (by decide)
        have hfm2 := Int.emod_lt_of_pos fr (b := 4) (by decide)
        have htm := Int.emod_nonneg to (b := 3) (by decide)
        have htm2 := Int.emod_lt_of_pos to (b := 3) (by decide)
        have hdm := Int.emod_nonneg dl (b := 1001) (by decide)
        have hdm2 := Int.emod_lt_of_pos dl (b := 1001) (by decide)
        have hqr : QR w2 A' k c' L := by
          have hl : L.length = k := by have := congrArg List.length HKEY.out; simpa using this
          have h := hq3
          rw [← hl] at h ⊢
          exact h.reads
        have hto : (IntKind.i64.wrap (IntKind.i64.wrap (fr % 4 + 1) + to % 3)).tmod 4 = (fr % 4 + 1 + to % 3) % 4 := by
          rw [IntWalk.i64_in (fr % 4 + 1) (by omega), IntWalk.i64_in _ (by omega), Int.tmod_eq_emod_of_nonneg (by omega)]
        have ks := fun W (hW : Below w2.heap.size w2 W) => (Send_any 0 k (fr % 4) ((fr % 4 + 1 + to % 3) % 4) (dl % 1001) A' k c' L A2 220 cz2 (zs.take 220) W (hqr.next hW) (hi2.next hW) (fun e => by have := hia e; omega) hz3 (by omega) (by omega) ⟨hfm, hfm2⟩ ⟨by omega, by omega⟩ (by omega) ⟨hdm, by omega⟩ ⟨by decide, by decide⟩ ⟨by omega, by omega⟩)
        simp only [← hto] at ks
        have KS := Lib.hid ks
        have HTO := Lib.hid hto
        clear ks hto
        have hKY := HKY.out
        clear x1 x2 hi2 hiz hia hz3 hqr c0 c1 c2 c3
        have HQ3 := Lib.hid hq3
        have HBZ3 := Lib.hid hB3
        have HX3 := Lib.hid hb3
        have HX4 := Lib.hid hb4
        clear hq3 hB3 hb3 hb4 HQ HB1 HB0 HN2
        go_region_held3 (fun w' => w'.cell? ⟨w.heap.size + 1, 0, none⟩ = some (.int .i64 0) ∧ w'.cell? ⟨w.heap.size + 1, 1, none⟩ = some (.int .i64 k) ∧ w'.cell? ⟨w.heap.size + 1, 2, none⟩ = some (.slice A' k c') ∧ w'.cell? ⟨b, off + k * 4 + 1, none⟩ = some (.int .i64 to) ∧ w'.cell? ⟨b, off + k * 4 + 2, none⟩ = some (.int .i64 dl)) (first | with_reducible exact SK.out _ (Below.refl _ _).drew | with_reducible exact SK.out _ ((Below.refl _ _).alloc (Nat.le_refl _) _).drew | with_reducible exact SK.out _ hBx | with_reducible exact SK.out _ (hBx.alloc hBx.size _) | with_reducible exact SK.out _ (((hBx.setCell (Nat.le_refl _) _).setCell (Nat.le_refl _) _).setCell (Nat.le_refl _) _) | exact SK.out _ ((((hBx.alloc hBx.size _).setCell hBx.size _).setCell hBx.size _).setCell hBx.size _)) (first
          | (go_at_call 9; (with_reducible refine (KT.out _).mono ?_); rintro e w9 ⟨rfl, rfl⟩)
          | (go_at_call 9; (with_reducible refine (KD.out _).mono ?_); rintro e w9 ⟨rfl, rfl⟩)
          | (go_at_call 15; (with_reducible refine (KS.out _ (Below.refl _ _).drew).mono ?_); rintro e w9 ⟨A9, c9, L9, rfl, hq9, hk9, hB9⟩; have hBx : Below w2.heap.size w2 w9 := ((Below.refl _ _).drew).trans (hB9.mono (Nat.le_refl _)))
          | (go_at_call 15; (with_reducible refine (KS.out _ ((Below.refl _ _).alloc (Nat.le_refl _) _).drew).mono ?_); rintro e w9 ⟨A9, c9, L9, rfl, hq9, hk9, hB9⟩; have hBx : Below w2.heap.size w2 w9 := (((Below.refl _ _).alloc (Nat.le_refl _) _).drew).trans (hB9.mono (by simp)); have hz9 : Blk w9 w2.heap.size 25 #[.int .i64 0, .int .i64 0, .slice none 0 0] := (Blk.new w2 _ _).drew.next hB9; have m0 := hz9.cell 0; have m1 := hz9.cell 1; have m2 := hz9.cell 2; have g0 := hz9.frozen 0; have g1 := hz9.frozen 1; have g2 := hz9.frozen 2; (simp only [List.getElem?_toArray, List.getElem?_cons_zero, List.getElem?_cons_succ] at m0 m1 m2)))
        all_goals first
          | (have hF := fin_a HX3.out HX4.out hz9 (hBx) (hq9.down (by simp; have := HB.out.size; have := HB2.out.size; omega)) HBZ3.out (A := A9) (c := c9); generalize ((w9.setCell ⟨w2.heap.size, 0, none⟩ (.int .i64 0)).setCell ⟨w2.heap.size, 1, none⟩ (.int .i64 ((k : Int) + 1))).setCell ⟨w2.heap.size, 2, none⟩ (.slice A9 (k + 1) c9) = wf at *; generalize w2.heap.size = gB at *; clear KF KT KD KB KS SK HB HB2 HX3 HX4 HQ3 HBZ3; obtain ⟨hG, hX1, hX0, hQ9, hBf⟩ := hF; have t0 := hG.cell 0; have t1 := hG.cell 1; have t2 := hG.cell 2; have m0 := hX1.cell 0; have m1 := hX1.cell 1; have m2 := hX1.cell 2; have g0 := hX1.frozen 0; have g1 := hX1.frozen 1; have g2 := hX1.frozen 2; (simp only [List.getElem?_toArray, List.getElem?_cons_zero, List.getElem?_cons_succ] at t0 t1 t2 m0 m1 m2); have HX1 := Lib.hid hX1; have HX0 := Lib.hid hX0; have HQ9 := Lib.hid hQ9; have HBF := Lib.hid hBf; clear hG hX1 hX0 hQ9 hBf; go_wp2_with fail; go_roundw; (case rel => exact ld_rel HX1.out HX0.out HQ9.out HBF.out (by rw [hk9, HKEY.out, HTO.out, Int.zero_add, ← hKY, List.range_succ, List.map_append]; rfl) (by omega) (by omega)); (case measure => simp [intOf]; omega))
          | (have hF := fin_b HX3.out HX4.out (hBx) (hq9.down (by simp; have := HB.out.size; have := HB2.out.size; omega)) HBZ3.out (A := A9) (c := c9); generalize w9.alloc (.cells #[.int .i64 0, .int .i64 ((k : Int) + 1), .slice A9 (k + 1) c9] 25) = wf at *; generalize w9.heap.size = gB at *; clear KF KT KD KB KS SK HB HB2 HX3 HX4 HQ3 HBZ3; obtain ⟨hG, hX1, hX0, hQ9, hBf⟩ := hF; have t0 := hG.cell 0; have t1 := hG.cell 1; have t2 := hG.cell 2; have m0 := hX1.cell 0; have m1 := hX1.cell 1; have m2 := hX1.cell 2; have g0 := hX1.frozen 0; have g1 := hX1.frozen 1; have g2 := hX1.frozen 2; (simp only [List.getElem?_toArray, List.getElem?_cons_zero, List.getElem?_cons_succ] at t0 t1 t2 m0 m1 m2); have HX1 := Lib.hid hX1; have HX0 := Lib.hid hX0; have HQ9 := Lib.hid hQ9; have HBF := Lib.hid hBf; clear hG hX1 hX0 hQ9 hBf; go_wp2_with fail; go_roundw; (case rel => exact ld_rel HX1.out HX0.out HQ9.out HBF.out (by rw [hk9, HKEY.out, HTO.out, Int.zero_add, ← hKY, List.range_succ, List.map_append]; rfl) (by omega) (by omega)); (case measure => simp [intOf]; omega))
      · have q3 : decide (220 < (nz : Int)) = false := by simp; omega
        go_upto_region 9 with (first
          | (go_at_call 9; (with_reducible refine (KF.out _).mono ?_); rintro e w2 ⟨rfl, rfl⟩)
          | (go_at_call 19; (with_reducible refine KB.out.mono ?_); rintro e w2 ⟨A2, cz2, rfl, hN2, hB2⟩; have hnc2 := own_nc hN2; have HN2 := Lib.hid hN2; have HB2 := Lib.hid hB2; clear hN2 hB2))
        have hiz := (ints_own HN2.out).1
        have hia := (ints_own HN2.out).2
        have hzl := hiz.1
        have hi2 : Ints w2 .u8 A2 nz (zs.take 220) := by rw [List.take_of_length_le (by omega)]; exact hiz
        have hz3 : Byts8 (zs.take 220) := fun z hz => HBZ.out z (List.mem_of_mem_take hz)
        have hb3 := (HB1.out.next HB2.out)
        have hb4 := (HB0.out.next HB2.out)
        have hq3 := (HQ.out.next HB2.out)
        have hB3 := (HB.out.trans (HB2.out.mono HB.out.size))
        have x1 := (HB2.out.cell (p := ⟨b, off + k * 4 + 1, none⟩) hlt).trans HC1.out
        have x2 := (HB2.out.cell (p := ⟨b, off + k * 4 + 2, none⟩) hlt).trans HC2.out
        have SK := Lib.hid (sk9 hb3 x1 x2)
        have hfm := Int.emod_nonneg fr (b := 4) (by decide)
        have hfm2 := Int.emod_lt_of_pos fr (b := 4) (by decide)
        have htm := Int.emod_nonneg to (b := 3) (by decide)
        have htm2 := Int.emod_lt_of_pos to (b := 3) (by decide)
        have hdm := Int.emod_nonneg dl (b := 1001) (by decide)
        have hdm2 := Int.emod_lt_of_pos dl (b := 1001) (by decide)
        have hqr : QR w2 A' k c' L := by
          have hl : L.length = k := by have := congrArg List.length HKEY.out; simpa using this
          have h := hq3
          rw [← hl] at h ⊢
          exact h.reads
        have hto : (IntKind.i64.wrap (IntKind.i64.wrap (fr % 4 + 1) + to % 3)).tmod 4 = (fr % 4 + 1 + to % 3) % 4 := by
          rw [IntWalk.i64_in (fr % 4 + 1) (by omega), IntWalk.i64_in _ (by omega), Int.tmod_eq_emod_of_nonneg (by omega)]
        have ks := fun W (hW : Below w2.heap.size w2 W) => (Send_any 0 k (fr % 4) ((fr % 4 + 1 + to % 3) % 4) (dl % 1001) A' k c' L A2 nz cz2 (zs.take 220) W (hqr.next hW) (hi2.next hW) (fun e => by have := hia e; omega) hz3 (by omega) (by omega) ⟨hfm, hfm2⟩ ⟨by omega, by omega⟩ (by omega) ⟨hdm, by omega⟩ ⟨by decide, by decide⟩ ⟨by omega, by omega⟩)
        simp only [← hto] at ks
        have KS := Lib.hid ks
        have HTO := Lib.hid hto
        clear ks hto
        have hKY := HKY.out
        clear x1 x2 hi2 hiz hia hz3 hqr c0 c1 c2 c3
        have HQ3 := Lib.hid hq3
        have HBZ3 := Lib.hid hB3
        have HX3 := Lib.hid hb3
        have HX4 := Lib.hid hb4
        clear hq3 hB3 hb3 hb4 HQ HB1 HB0 HN2
        go_region_held3 (fun w' => w'.cell? ⟨w.heap.size + 1, 0, none⟩ = some (.int .i64 0) ∧ w'.cell? ⟨w.heap.size + 1, 1, none⟩ = some (.int .i64 k) ∧ w'.cell? ⟨w.heap.size + 1, 2, none⟩ = some (.slice A' k c') ∧ w'.cell? ⟨b, off + k * 4 + 1, none⟩ = some (.int .i64 to) ∧ w'.cell? ⟨b, off + k * 4 + 2, none⟩ = some (.int .i64 dl)) (first | with_reducible exact SK.out _ (Below.refl _ _).drew | with_reducible exact SK.out _ ((Below.refl _ _).alloc (Nat.le_refl _) _).drew | with_reducible exact SK.out _ hBx | with_reducible exact SK.out _ (hBx.alloc hBx.size _) | with_reducible exact SK.out _ (((hBx.setCell (Nat.le_refl _) _).setCell (Nat.le_refl _) _).setCell (Nat.le_refl _) _) | exact SK.out _ ((((hBx.alloc hBx.size _).setCell hBx.size _).setCell hBx.size _).setCell hBx.size _)) (first
          | (go_at_call 9; (with_reducible refine (KT.out _).mono ?_); rintro e w9 ⟨rfl, rfl⟩)
          | (go_at_call 9; (with_reducible refine (KD.out _).mono ?_); rintro e w9 ⟨rfl, rfl⟩)
          | (go_at_call 15; (with_reducible refine (KS.out _ (Below.refl _ _).drew).mono ?_); rintro e w9 ⟨A9, c9, L9, rfl, hq9, hk9, hB9⟩; have hBx : Below w2.heap.size w2 w9 := ((Below.refl _ _).drew).trans (hB9.mono (Nat.le_refl _)))
          | (go_at_call 15; (with_reducible refine (KS.out _ ((Below.refl _ _).alloc (Nat.le_refl _) _).drew).mono ?_); rintro e w9 ⟨A9, c9, L9, rfl, hq9, hk9, hB9⟩; have hBx : Below w2.heap.size w2 w9 := (((Below.refl _ _).alloc (Nat.le_refl _) _).drew).trans (hB9.mono (by simp)); have hz9 : Blk w9 w2.heap.size 25 #[.int .i64 0, .int .i64 0, .slice none 0 0] := (Blk.new w2 _ _).drew.next hB9; have m0 := hz9.cell 0; have m1 := hz9.cell 1; have m2 := hz9.cell 2; have g0 := hz9.frozen 0; have g1 := hz9.frozen 1; have g2 := hz9.frozen 2; (simp only [List.getElem?_toArray, List.getElem?_cons_zero, List.getElem?_cons_succ] at m0 m1 m2)))
        all_goals first
          | (have hF := fin_a HX3.out HX4.out hz9 (hBx) (hq9.down (by simp; have := HB.out.size; have := HB2.out.size; omega)) HBZ3.out (A := A9) (c := c9); generalize ((w9.setCell ⟨w2.heap.size, 0, none⟩ (.int .i64 0)).setCell ⟨w2.heap.size, 1, none⟩ (.int .i64 ((k : Int) + 1))).setCell ⟨w2.heap.size, 2, none⟩ (.slice A9 (k + 1) c9) = wf at *; generalize w2.heap.size = gB at *; clear KF KT KD KB KS SK HB HB2 HX3 HX4 HQ3 HBZ3; obtain ⟨hG, hX1, hX0, hQ9, hBf⟩ := hF; have t0 := hG.cell 0; have t1 := hG.cell 1; have t2 := hG.cell 2; have m0 := hX1.cell 0; have m1 := hX1.cell 1; have m2 := hX1.cell 2; have g0 := hX1.frozen 0; have g1 := hX1.frozen 1; have g2 := hX1.frozen 2; (simp only [List.getElem?_toArray, List.getElem?_cons_zero, List.getElem?_cons_succ] at t0 t1 t2 m0 m1 m2); have HX1 := Lib.hid hX1; have HX0 := Lib.hid hX0; have HQ9 := Lib.hid hQ9; have HBF := Lib.hid hBf; clear hG hX1 hX0 hQ9 hBf; go_wp2_with fail; go_roundw; (case rel => exact ld_rel HX1.out HX0.out HQ9.out HBF.out (by rw [hk9, HKEY.out, HTO.out, Int.zero_add, ← hKY, List.range_succ, List.map_append]; rfl) (by omega) (by omega)); (case measure => simp [intOf]; omega))
          | (have hF := fin_b HX3.out HX4.out (hBx) (hq9.down (by simp; have := HB.out.size; have := HB2.out.size; omega)) HBZ3.out (A := A9) (c := c9); generalize w9.alloc (.cells #[.int .i64 0, .int .i64 ((k : Int) + 1), .slice A9 (k + 1) c9] 25) = wf at *; generalize w9.heap.size = gB at *; clear KF KT KD KB KS SK HB HB2 HX3 HX4 HQ3 HBZ3; obtain ⟨hG, hX1, hX0, hQ9, hBf⟩ := hF; have t0 := hG.cell 0; have t1 := hG.cell 1; have t2 := hG.cell 2; have m0 := hX1.cell 0; have m1 := hX1.cell 1; have m2 := hX1.cell 2; have g0 := hX1.frozen 0; have g1 := hX1.frozen 1; have g2 := hX1.frozen 2; (simp only [List.getElem?_toArray, List.getElem?_cons_zero, List.getElem?_cons_succ] at t0 t1 t2 m0 m1 m2); have HX1 := Lib.hid hX1; have HX0 := Lib.hid hX0; have HQ9 := Lib.hid hQ9; have HBF := Lib.hid hBf; clear hG hX1 hX0 hQ9 hBf; go_wp2_with fail; go_roundw; (case rel => exact ld_rel HX1.out HX0.out HQ9.out HBF.out (by rw [hk9, HKEY.out, HTO.out, Int.zero_add, ← hKY, List.range_succ, List.map_append]; rfl) (by omega) (by omega)); (case measure => simp [intOf]; omega))
    · have hmin : k = min n 100 := by omega
      have hfin : ∀ W, Blk W (w.heap.size + 1) 25 #[.int .i64 0, .int .i64 k, .slice A' k c'] → True := fun _ _ => trivial
      have e0 := hb1.cell 0
      have e1 := hb1.cell 1
      have e2 := hb1.cell 2
      have m0 := hb0.cell 0
      have m1 := hb0.cell 1
      have m2 := hb0.cell 2
      have g0 := hb0.frozen 0
      have g1 := hb0.frozen 1
      have g2 := hb0.frozen 2
      simp only [List.getElem?_toArray, List.getElem?_cons_zero, List.getElem?_cons_succ] at e0 e1 e2 m0 m1 m2
      have HB1 := Lib.hid hb1
      have HB0 := Lib.hid hb0
      have HQ := Lib.hid hq
      have HKEY := Lib.hid hkey
      have HB := Lib.hid hB
      have HM := Lib.hid hmin
      clear hb1 hb0 hq hkey hB hmin hfin H
      have hres := fun (T : Array Value) (h2 : T.getD 2 undef = .pointer (some ⟨w.heap.size, 0, none⟩)) (h3 : T.getD 3 undef = .bool true) => load_results (((HB0.out.set_ 0 (.int .i64 0)).set_ 1 (.int .i64 k)).set_ 2 (.slice A' k c')) rfl _ T h2 h3
      have hpost : LdPost D n w (.returned (.tuple #[.agg #[.int .i64 0, .int .i64 k, .slice A' k c'], .bool true])) (((wr.setCell ⟨w.heap.size, 0, none⟩ (.int .i64 0)).setCell ⟨w.heap.size, 1, none⟩ (.int .i64 k)).setCell ⟨w.heap.size, 2, none⟩ (.slice A' k c')) := by
        unfold LdPost
        rw [← HM.out]
        exact ⟨A', c', L, rfl, ((HQ.out.grown (grown_set _ w.heap.size 0 _) HB0.out (by decide) (by decide)).grown (grown_set _ w.heap.size 1 _) (HB0.out.set_ 0 _) (by decide) (by decide)).grown (grown_set _ w.heap.size 2 _) ((HB0.out.set_ 0 _).set_ 1 _) (by decide) (by decide), HKEY.out,
          ((HB.out.setCell (p := ⟨w.heap.size, 0, none⟩) (Nat.le_refl _) _).setCell (p := ⟨w.heap.size, 1, none⟩) (Nat.le_refl _) _).setCell (p := ⟨w.heap.size, 2, none⟩) (Nat.le_refl _) _⟩
      have HPOST := Lib.hid hpost
      have HRES := Lib.hid hres
      clear hpost hres
      by_cases hk : k < n
      · have q1 : (k : Int) < (n : Int) := by omega
        have q2 : ¬ (k : Int) < 100 := by omega
        go_wp2_with fail
        exact bodyPost_ret (HRES.out _ rfl rfl) rfl HPOST.out
      · have q1 : ¬ (k : Int) < (n : Int) := by omega
        go_wp2_with fail
        exact bodyPost_ret (HRES.out _ rfl rfl) rfl HPOST.out
end Go.Proofs.Ytdlcjieaoalhoaa.Bs
