/- The contracts of fix.fraction and of its closure. -/
import Derived.Test.YtnhklfdchfndjaaTxtRead
import Derived.Lib.ConvBytes
set_option linter.unusedVariables false
namespace Go.Proofs.Ytnhklfdchfndjaa.Tx
open Go.RowKit Go.Proofs.Ytnhklfdchfndjaa

/-- the variable d in block q, its bytes in block g -/
def DB (W : World) (q g n cap : Nat) (zs : List Int) : Prop := Blk W q 49 #[.slice (some ⟨g, 0, none⟩) n cap] ∧ g < W.heap.size ∧ g ≠ q ∧ zs.length = n ∧ ∀ j, j < n → W.cell? ⟨g, j, none⟩ = some (.int .u8 (zs.getD j 0)) ∧ W.frozen? ⟨g, j, none⟩ = false
section
variable {W W' : World} {q g n cap : Nat} {zs : List Int}
theorem DB.set_ (h : DB W q g n cap zs) {i : Nat} (hi : i < n) (u : Int) : DB (W.setCell ⟨g, i, none⟩ (.int .u8 u)) q g n cap (zs.set i u) := by
  obtain ⟨h1, h2, h3, h4, h5⟩ := h
  refine ⟨h1.far (fun e => h3 e.symm) _, by simpa [World.setCell] using h2, h3, by simpa using h4, fun j hj => ⟨?_, by rw [World.frozen?_setCell]; exact (h5 j hj).2⟩⟩
  by_cases e : i = j
  · subst e
    rw [World.cell?_setCell_same _ _ _ (h5 i hj).1]
    simp [List.getD, show i < zs.length by omega]
  · rw [World.cell?_setCell_other _ _ _ _ (by intro h; injection h with _ h; exact e h), (h5 j hj).1]
    simp [List.getD, List.getElem?_set_ne e]
theorem DB.var (h : DB W q g n cap zs) : W.cell? ⟨q, 0, none⟩ = some (.slice (some ⟨g, 0, none⟩) n cap) := by
  have := h.1.cell 0
  simpa using this
theorem DB.grown (h : DB W q g n cap zs) : W.grownBy W (some g) := ⟨rfl, rfl, rfl, Nat.le_refl _, fun _ _ _ => rfl⟩
end
/-- digits as numbers -/
def nz (l : List Nat) : List Int := l.map fun (d : Nat) => (d : Int)
theorem nz_len (l : List Nat) : (nz l).length = l.length := by simp [nz]
theorem nz_at (l : List Nat) (k : Nat) : (nz l).getD k 0 = ((l.getD k 0 : Nat) : Int) := by
  unfold nz
  simp only [List.getD, List.getElem?_map]
  cases l[k]? <;> rfl
/-- k digits doubled, from the lowest on -/
def tw (l : List Nat) (k : Nat) : List Nat := l.take (l.length - k) ++ (twice (l.drop (l.length - k))).2
def twc (l : List Nat) (k : Nat) : Nat := (twice (l.drop (l.length - k))).1
theorem tw_len (l : List Nat) (k : Nat) : (tw l k).length = l.length := by simp [tw, twice_len]
theorem tw_zero (l : List Nat) : tw l 0 = l ∧ twc l 0 = 0 := by simp [tw, twc, twice]
theorem tw_end (l : List Nat) : tw l l.length = (twice l).2 ∧ twc l l.length = (twice l).1 := by simp [tw, twc]
theorem tw_step (l : List Nat) (k : Nat) (h : k < l.length) : (tw l k).getD (l.length - 1 - k) 0 = l.getD (l.length - 1 - k) 0 ∧
    tw l (k + 1) = (tw l k).set (l.length - 1 - k) ((2 * l.getD (l.length - 1 - k) 0 + twc l k) % 10) ∧ twc l (k + 1) = (2 * l.getD (l.length - 1 - k) 0 + twc l k) / 10 := by
  obtain ⟨i, hi⟩ : ∃ i, i = l.length - 1 - k := ⟨_, rfl⟩
  have hi1 : l.length - (k + 1) = i := by omega
  have hi2 : l.length - k = i + 1 := by omega
  have hil : i < l.length := by omega
  rw [← hi]
  have hd : l.drop i = l.getD i 0 :: l.drop (i + 1) := by
    rw [List.drop_eq_getElem_cons hil]
    simp [List.getD, List.getElem?_eq_getElem hil]
  have ht : l.take (i + 1) = l.take i ++ [l.getD i 0] := take_snocN l i hil
  have hli : (l.take i).length = i := by simp; omega
  refine ⟨?_, ?_, ?_⟩
  · unfold tw
    rw [hi2, ht]
    simp [List.getD, hli]
  · unfold tw twc
    rw [hi1, hi2, hd, twice, ht]
    simp [List.set_append, hli]
  · unfold twc
    rw [hi1, hi2, hd, twice]
theorem getD_lt {l : List Nat} (h : ∀ d ∈ l, d < 10) (i : Nat) : l.getD i 0 < 10 := by
  by_cases hi : i < l.length
  · simp only [List.getD, List.getElem?_eq_getElem hi, Option.getD_some]
    exact h _ (List.getElem_mem hi)
  · simp only [List.getD, List.getElem?_eq_none (Nat.le_of_not_lt hi), Option.getD_none]
    decide
theorem nz_set (l : List Nat) (i v : Nat) : nz (l.set i v) = (nz l).set i (v : Int) := by simp [nz, List.map_set]

def TwRel (w : World) (q g n cap : Nat) (ds : List Nat) (s2 s3 : Value) (W : World) : Prop :=
  ∃ k : Nat, k ≤ n ∧ s3 = .int .i64 ((n : Int) - 1 - k) ∧ s2 = .int .u8 ((twc ds k : Nat) : Int) ∧ DB W q g n cap (nz (tw ds k)) ∧ w.grownBy W (some g)
def TwPost (q g n cap : Nat) (ds : List Nat) (w : World) (e : Ending) (w' : World) : Prop := e = .returned (.int .u64 (((twice ds).1 : Nat) : Int)) ∧ DB w' q g n cap (nz (twice ds).2) ∧ w.grownBy w' (some g)

set_option maxRecDepth 100000 in
set_option maxHeartbeats 1000000 in
theorem twice_any (q g n cap : Nat) (ds : List Nat) (w : World) (h : DB w q g n cap (nz ds)) (hd : ∀ d ∈ ds, d < 10) (hn : n ≤ 32) :
    Calls Try.prog 36 #[.pointer (some ⟨q, 0, none⟩)] w (TwPost q g n cap ds w) := by
  have hl : ds.length = n := by have := h.2.2.2.1; rw [nz_len] at this; exact this
  have hv := h.var
  have H := Lib.hid h
  have HD := Lib.hid hd
  have HL := Lib.hid hl
  clear h hd hl
  go_enter Try.func36, Try.ntmps36
  go_wp2_with fail
  go_loopw [2, 3] (fun s2 s3 W => TwRel w q g n cap ds s2 s3 W) (fun _ s3 _ => (intOf s3 + 1).toNat)
  case atStart => exact ⟨0, by omega, by simp, by rw [(tw_zero ds).2]; rfl, by rw [(tw_zero ds).1]; exact H.out, H.out.grown⟩
  case round =>
    obtain ⟨k, hk, rfl, rfl, hDB, hG⟩ := hrel
    have hv1 := hDB.var
    have HB := Lib.hid hDB
    have HG := Lib.hid hG
    clear hDB hG
    by_cases hlt : k < n
    · obtain ⟨hs1, hs2, hs3⟩ := tw_step ds k (by have := HL.out; omega)
      rw [HL.out] at hs1 hs2 hs3
      have hc := (HB.out.2.2.2.2 (n - 1 - k) (by omega))
      rw [nz_at, hs1] at hc
      obtain ⟨hc0, hf0⟩ := hc
      have hx := getD_lt HD.out (n - 1 - k)
      have hcl : twc ds k ≤ 1 := by
        unfold twc
        exact (twice_c _ (fun d h => HD.out d (List.mem_of_mem_drop h))).2.2
      generalize ds.getD (n - 1 - k) 0 = x at *
      have HS2 := Lib.hid hs2
      have HS3 := Lib.hid hs3
      generalize twc ds k = c at *
      have z1 : (0 : Int) ≤ (n : Int) - 1 - (k : Int) := by omega
      have z2 : (n : Int) - 1 - (k : Int) < (n : Int) := by omega
      have z3 : ((n : Int) - 1 - (k : Int)).toNat = n - 1 - k := by omega
      clear hs1 hs2 hs3
      go_wp2_with fail
      go_roundw
      case rel => exact ⟨k + 1, by omega, by go_num, by rw [HS3.out]; go_num, by rw [HS2.out, nz_set]; exact HB.out.set_ (by omega) _, grown_trans HG.out (grown_set _ _ _ _)⟩
      case measure => simp [intOf]; omega
    · obtain rfl : n = k := by omega
      have he := tw_end ds
      rw [HL.out] at he
      have HE := Lib.hid he
      clear he
      generalize hcc : twc ds n = cc at *
      have HCC := Lib.hid hcc
      clear hcc
      have hcl : cc ≤ 1 := by
        rw [← HCC.out]
        unfold twc
        exact (twice_c _ (fun d h => HD.out d (List.mem_of_mem_drop h))).2.2
      go_wp2_with fail
      go_ret
      exact ⟨ret_u64 (by rw [← HE.out.2]), by rw [← HE.out.1]; exact HB.out, HG.out⟩

theorem or_bit (u c : Nat) (hu : u < 4294967296) (hc : c ≤ 1) : bits .or .u64 ((u : Int) * 2) (c : Int) = ((2 * u + c : Nat) : Int) := by
  have h := bits_or_u64_nat (u * 2) c (by omega) (by omega)
  have e : u * 2 ||| c = 2 * u + c := by
    have h2 := Nat.shiftLeft_add_eq_or_of_lt (a := u) (b := c) (i := 1) (by omega)
    rw [Nat.shiftLeft_eq, Nat.pow_one] at h2
    omega
  rw [e, Int.natCast_mul] at h
  exact h
/-- bytes of which the first k are digits as numbers already -/
def half_ (ds : List Nat) (k : Nat) : List Int := nz (ds.take k) ++ dg (ds.drop k)
theorem half_zero (ds : List Nat) : half_ ds 0 = dg ds := rfl
theorem half_end (ds : List Nat) : half_ ds ds.length = nz ds := by simp [half_, dg]
theorem half_step (ds : List Nat) (k : Nat) (h : k < ds.length) : (half_ ds k).getD k 0 = 48 + ((ds.getD k 0 : Nat) : Int) ∧ half_ ds (k + 1) = (half_ ds k).set k ((ds.getD k 0 : Nat) : Int) := by
  have hl : (nz (ds.take k)).length = k := by rw [nz_len]; simp; omega
  have hd : ds.drop k = ds.getD k 0 :: ds.drop (k + 1) := by
    rw [List.drop_eq_getElem_cons h]
    simp [List.getD, List.getElem?_eq_getElem h]
  constructor
  · unfold half_
    rw [hd]
    simp [List.getD, dg, hl]
  · unfold half_
    rw [hd, take_snocN ds k h]
    simp [nz, dg, List.set_append]
    rw [if_neg (by omega)]
    simp [show k - min k ds.length = 0 by omega]
def SubRel (w : World) (q g n cap : Nat) (ds : List Nat) (s15 : Value) (W : World) : Prop := ∃ k : Nat, k ≤ n ∧ s15 = .int .i64 k ∧ DB W q g n cap (half_ ds k) ∧ Below w.heap.size w W
def DblRel (w : World) (q g n cap : Nat) (ds : List Nat) (s7 s26 : Value) (W : World) : Prop := ∃ k : Nat, k ≤ 32 ∧ s26 = .int .i64 k ∧ s7 = .int .u64 (((dbl ds k).1 : Nat) : Int) ∧ DB W q g n cap (nz (dbl ds k).2) ∧ Below w.heap.size w W
def LastRel (w5 w : World) (q g n cap : Nat) (s8 s39 : Value) (W : World) : Prop := ∃ k : Nat, k ≤ n ∧ s8 = .int .i64 (-1) ∧ s39 = .int .i64 k ∧ (∃ zs : List Int, DB W q g n cap zs ∧ ∀ j, zs.getD j 0 = 0) ∧ Below w.heap.size w W

theorem conv_world (ds : List Nat) (S : ByteArray) (hS : S = strOfNums (dg ds)) (hd : ∀ d ∈ ds, d < 10) (w : World) :
    ∃ W0 cap, (convert 9 49 (.string S)).run Try.prog w = .ok (.slice (some ⟨w.heap.size, 0, none⟩) ds.length cap) W0 ∧ W0.heap.size = w.heap.size + 1 ∧ Below w.heap.size w W0 ∧
      ∀ j, j < ds.length → W0.cell? ⟨w.heap.size, j, none⟩ = some (.int .u8 ((dg ds).getD j 0)) ∧ W0.frozen? ⟨w.heap.size, j, none⟩ = false := by
  have hsz : S.size = ds.length := by rw [hS, strOfNums_size, dg_len]
  have hcv := Lib.run_convert_string_bytes (P := Try.prog) w 9 49 5 S (u := .string) Try.underlying9 Try.underlying49 Try.underlying5
  have w1 := Lib.bytesWorld_size w 5 S
  refine ⟨_, _, by rw [hcv, hsz], w1, ⟨rfl, rfl, rfl, by rw [w1]; omega, fun k hk => Lib.bytesWorld_at_old w _ S k hk⟩, fun j hj => ⟨?_, ?_⟩⟩
  · rw [Lib.bytesWorld_cell _ _ _ _ (by omega), hS, strOfNums_data]
    have hj2 : j < (dg ds).length := by rw [dg_len]; exact hj
    have hb := (dg_dgt ds hd).byts _ (List.getElem_mem hj2)
    simp only [List.getD, List.getElem?_map, List.getElem?_eq_getElem hj2, Option.map_some, Option.getD_some]
    generalize (dg ds)[j] = z at *
    have e : ((UInt8.ofNat z.toNat).toNat : Int) = z := by
      rw [UInt8.toNat_ofNat']
      omega
    rw [e]
  · have h1 := Lib.bytesWorld_at_new w 5 S
    have h2 : j < (Lib.bytesCells w 5 S).size := by unfold Lib.bytesCells; simp; omega
    simp [World.frozen?, h1]
    omega

set_option maxRecDepth 100000 in
set_option maxHeartbeats 2000000 in
theorem frac_any (ds : List Nat) (S : ByteArray) (hS : S = strOfNums (dg ds)) (hd : ∀ d ∈ ds, d < 10) (hl : ds.length ≤ 32) (U : Nat) (hU : ∀ k, k = 32 → (dbl ds k).1 = U ∧ num (dbl ds k).2 = 0) (w : World) :
    Calls Try.prog 19 #[.string S] w fun e w' => e = .returned (.tuple #[.int .u64 (U : Int), .int .i64 (-1)]) ∧ Below w.heap.size w w' := by
  obtain ⟨W0, cap, hcv, w1, w3, w2⟩ := conv_world ds S hS hd w
  have hq : W0.heap.size = w.heap.size + 1 := w1
  have hDB : DB (W0.alloc (.cells #[.slice (some ⟨w.heap.size, 0, none⟩) ds.length cap] 49)) W0.heap.size w.heap.size ds.length cap (dg ds) := by
    have hbl := (Below.refl W0.heap.size W0).alloc (Nat.le_refl _) (.cells #[.slice (some ⟨w.heap.size, 0, none⟩) ds.length cap] 49)
    exact ⟨Blk.new _ _ _, by simp; omega, by omega, dg_len ds, fun j hj => ⟨(hbl.cell (p := ⟨w.heap.size, j, none⟩) (by simp; omega)).trans (w2 j hj).1, (hbl.frozen (p := ⟨w.heap.size, j, none⟩) (by simp; omega)).trans (w2 j hj).2⟩⟩
  have hB0 := w3.alloc w3.size (.cells #[.slice (some ⟨w.heap.size, 0, none⟩) ds.length cap] 49)
  have HDB := Lib.hid hDB
  have HB0 := Lib.hid hB0
  have HD := Lib.hid hd
  have H0 := Lib.hid hU
  have HQ := Lib.hid hq
  have hn : ds.length ≤ 32 := hl
  obtain ⟨n, hN⟩ : ∃ n, n = ds.length := ⟨_, rfl⟩
  rw [← hN] at hcv HDB HB0 hn
  have HN := Lib.hid hN
  clear hS hd hU w1 w2 w3 hq hDB hB0 hN hl
  go_enter Try.func19, Try.ntmps19
  go_wp2_with fail
  go_loopw [15] (fun s15 W => SubRel w W0.heap.size w.heap.size n cap ds s15 W) (fun s15 _ => n - (intOf s15).toNat)
  case atStart => exact ⟨0, by omega, rfl, by rw [half_zero]; exact HDB.out, HB0.out⟩
  case round =>
    obtain ⟨k, hk, rfl, hDB, hB⟩ := hrel
    have hv := hDB.var
    have HDB1 := Lib.hid hDB
    have HB1 := Lib.hid hB
    clear hDB hB
    by_cases hlt : k < n
    · obtain ⟨hs1, hs2⟩ := half_step ds k (by have := HN.out; omega)
      obtain ⟨d0, f0⟩ := HDB1.out.2.2.2.2 k hlt
      rw [hs1] at d0
      have hx := getD_lt HD.out k
      generalize ds.getD k 0 = x at *
      have HS2 := Lib.hid hs2
      have z1 : (0 : Int) ≤ (k : Int) := by omega
      have z2 : (k : Int) < (n : Int) := by omega
      clear hs1 hs2
      go_wp2_with fail
      go_roundw
      case rel => exact ⟨k + 1, by omega, by go_num, by rw [HS2.out]; have h := HDB1.out.set_ hlt (48 + (x : Int) - 48); rw [show (48 + (x : Int) - 48) = (x : Int) by omega] at h ⊢; exact h, HB1.out.setCell (Nat.le_refl _) _⟩
      case measure => simp [intOf]; omega
    · obtain rfl : n = k := by omega
      have hDB2 := HDB1.out
      have he := half_end ds
      rw [← HN.out] at he
      rw [he] at hDB2
      have HDB2 := Lib.hid hDB2
      clear hDB2 he HDB1
      go_wp2_with fail
      go_loopw [7, 26] (fun s7 s26 W => DblRel w W0.heap.size w.heap.size n cap ds s7 s26 W) (fun _ s26 _ => 32 - (intOf s26).toNat)
      case atStart => exact ⟨0, by omega, rfl, rfl, HDB2.out, HB1.out⟩
      case round =>
        obtain ⟨k, hk, rfl, rfl, hDB, hB⟩ := hrel
        obtain ⟨wi, rfl⟩ : ∃ wi : World, wi = wr := ⟨_, rfl⟩
        have hv := hDB.var
        have HDB3 := Lib.hid hDB
        have HB3 := Lib.hid hB
        have hdl := dbl_lt ds HD.out k
        have hnum := (dbl_num ds HD.out k).2
        have HDL := Lib.hid hdl
        clear hDB hB hdl
        by_cases hlt : k < 32
        · have hu : (dbl ds k).1 < 4294967296 := Nat.lt_of_lt_of_le hnum (Nat.le_trans (Nat.pow_le_pow_right (by decide) (show k ≤ 32 by omega)) (by decide))
          have hds : dbl ds (k + 1) = (2 * (dbl ds k).1 + (twice (dbl ds k).2).1, (twice (dbl ds k).2).2) := rfl
          have hc := (twice_c _ HDL.out).2.2
          have hob := or_bit (dbl ds k).1 (twice (dbl ds k).2).1 hu hc
          have HDS := Lib.hid hds
          generalize hU : (dbl ds k).1 = u at *
          generalize hC : (twice (dbl ds k).2).1 = cc at *
          generalize hDD : (dbl ds k).2 = dd at *
          have kt := (twice_any W0.heap.size w.heap.size n cap dd wi HDB3.out HDL.out hn).mono (R' := fun e w' => e = .returned (.int .u64 (cc : Int)) ∧ DB w' W0.heap.size w.heap.size n cap (nz (twice dd).2) ∧ wi.grownBy w' (some w.heap.size)) (fun e w' h => ⟨by rw [h.1, hC], h.2.1, h.2.2⟩)
          have KT := Lib.hid kt
          have HU := Lib.hid hU
          have HCC := Lib.hid hC
          have HDD := Lib.hid hDD
          clear hds hnum hU hC hDD kt
          go_wp2_with (go_at_call 36; refine KT.out.mono ?_; rintro e w5 ⟨rfl, hDB5, hG5⟩; have HDB5 := Lib.hid hDB5; have HG5 := Lib.hid hG5; clear hDB5 hG5)
          have hg := HG5.out.size
          go_roundw
          case rel => exact ⟨k + 1, by omega, by go_num, by rw [HDS.out]; show _ = Value.int .u64 ((2 * u + cc : Nat) : Int); go_num, by rw [HDS.out]; exact HDB5.out, HB3.out.grown HG5.out (by have := HB3.out.size; omega) (fun j hj => by cases hj; exact Nat.le_refl _)⟩
          case measure => simp [intOf]; omega
        · have hk32 : k = 32 := by omega
          obtain ⟨h1, h2⟩ := H0.out k hk32
          have hz := num_zero _ h2
          rw [h1]
          have htz : (twice (dbl ds k).2).1 = 0 := by have h := (twice_c _ HDL.out).1; rw [h2] at h; simpa using h
          have htn := (twice_c _ HDL.out).2.1
          rw [h2] at htn
          have hz2 := num_zero _ (show num (twice (dbl ds k).2).2 = 0 by rw [htn]; simp)
          have HZ2 := Lib.hid hz2
          have kt := (twice_any W0.heap.size w.heap.size n cap (dbl ds k).2 wi HDB3.out HDL.out hn).mono (R' := fun e w' => e = .returned (.int .u64 0) ∧ (∃ zs : List Int, DB w' W0.heap.size w.heap.size n cap zs ∧ ∀ j, zs.getD j 0 = 0) ∧ wi.grownBy w' (some w.heap.size)) (fun e w' h => by
            refine ⟨by rw [h.1, htz]; rfl, ⟨_, h.2.1, fun j => ?_⟩, h.2.2⟩
            rw [nz_at]
            by_cases hj : j < (twice (dbl ds k).2).2.length
            · simp only [List.getD, List.getElem?_eq_getElem hj, Option.getD_some]
              exact congrArg _ (HZ2.out _ (List.getElem_mem hj))
            · simp only [List.getD, List.getElem?_eq_none (Nat.le_of_not_lt hj), Option.getD_none]
              rfl)
          have KT := Lib.hid kt
          have hk32i : ¬ k < 32 := hlt
          clear h1 h2 hz htz htn hz2 HZ2 kt hnum HDL hlt
          subst hk32
          go_wp2_with (go_at_call 36; refine KT.out.mono ?_; rintro e w5 ⟨rfl, hZ5, hG5⟩; (obtain ⟨zs, hDB5, hz5⟩ := hZ5); have hv5 := hDB5.var; have HDB5 := Lib.hid hDB5; have HG5 := Lib.hid hG5; have HZ5 := Lib.hid hz5; clear hDB5 hG5 hz5)
          have hB5 := HB3.out.grown HG5.out (by have := HB3.out.size; omega) (fun j hj => by cases hj; exact Nat.le_refl _)
          have HB5 := Lib.hid hB5
          clear hB5
          go_loopw [8, 39] (fun s8 s39 W => LastRel w5 w W0.heap.size w.heap.size n cap s8 s39 W) (fun _ s39 _ => n - (intOf s39).toNat)
          case atStart => exact ⟨0, by omega, rfl, rfl, ⟨zs, HDB5.out, HZ5.out⟩, HB5.out⟩
          case round =>
            obtain ⟨j, hj, rfl, rfl, ⟨zs, hDB, hzz⟩, hB⟩ := hrel
            by_cases hjn : j < n
            · obtain ⟨d0, f0⟩ := hDB.2.2.2.2 j hjn
              rw [hzz j] at d0
              have z1 : (0 : Int) ≤ (j : Int) := by omega
              have z2 : (j : Int) < (n : Int) := by omega
              have HDBJ := Lib.hid hDB
              have HZJ := Lib.hid hzz
              have HBJ := Lib.hid hB
              clear hDB hzz hB
              go_wp2_with fail
              go_roundw
              case rel => exact ⟨j + 1, by omega, rfl, by go_num, ⟨zs, HDBJ.out, HZJ.out⟩, HBJ.out⟩
              case measure => simp [intOf]; omega
            · obtain rfl : n = j := by omega
              have HBJ := Lib.hid hB
              clear hDB hzz hB
              go_wp2_with fail
              go_ret2
              exact ⟨rfl, HBJ.out⟩
end Go.Proofs.Ytnhklfdchfndjaa.Tx
