/- The contract of fix.Read at a number's text. -/
import Derived.Test.YtnhklfdchfndjaaTxtFrac
set_option linter.unusedVariables false
namespace Go.Proofs.Ytnhklfdchfndjaa.Tx
open Go.RowKit Go.Proofs.Ytnhklfdchfndjaa

def CutU (AL FR : List Nat) (w : World) (e : Ending) (w' : World) : Prop := ∃ AH BH : ByteArray, e = .returned (.tuple #[.string AH, .string BH, .bool true]) ∧ AH = strOfNums (dg AL) ∧ BH = strOfNums (dg FR) ∧ ∃ n, w' = w.drewN n
theorem cut_any (AL FR : List Nat) (T : ByteArray) (hT : T = strOfNums (dg AL ++ if FR = [] then [] else 46 :: dg FR)) (ha0 : 0 < AL.length) (ha : ∀ d ∈ AL, d < 10) (hf : ∀ d ∈ FR, d < 10) (hla : AL.length ≤ 10) (hlf : FR.length ≤ 32) (w : World) :
    Calls Try.prog 18 #[.string T] w (CutU AL FR w) := by
  by_cases h : FR = []
  · subst h
    rw [if_pos rfl, List.append_nil] at hT
    refine (cut_no (dg AL) T hT (by rw [dg_len]; exact ha0) (dg_dgt AL ha) (by rw [dg_len]; omega) w).mono ?_
    rintro e w' ⟨rfl, rfl⟩
    exact ⟨T, ⟨#[]⟩, rfl, hT, rfl, 0, rfl⟩
  · rw [if_neg h] at hT
    have h2 := List.length_pos_iff.2 h
    refine (cut_pt (dg AL) (dg FR) T hT (by rw [dg_len]; exact ha0) (by rw [dg_len]; exact h2) (dg_dgt AL ha) (dg_dgt FR hf) (by rw [dg_len, dg_len]; omega) w).mono ?_
    rintro e w' ⟨rfl, hn⟩
    exact ⟨_, _, rfl, rfl, rfl, hn⟩

theorem neStr {S : ByteArray} (h : 0 < S.size) : (¬ S.toList = []) ∧ (!S.toList.isEmpty) = true := by
  have hnn2 : ¬ S.toList = [] := by
    intro h1
    rw [ByteArray.toList_eq] at h1
    have h2 : S.data.toList.length = S.size := by simp
    rw [h1] at h2
    simp at h2
    omega
  refine ⟨hnn2, ?_⟩
  cases h : S.toList with
  | nil => exact absurd h hnn2
  | cons x l => rfl
def ReadRel (AL : List Nat) (s9 s10 : Value) : Prop := ∃ k : Nat, k ≤ AL.length ∧ s10 = .int .i64 k ∧ s9 = .int .u64 ((num (AL.take k) : Nat) : Int)
theorem num_take_lt (AL : List Nat) (h : ∀ d ∈ AL, d < 10) (hl : AL.length ≤ 10) (k : Nat) : num (AL.take k) < 10000000000 := by
  have h1 := num_lt (AL.take k) (fun d hd => h d (List.mem_of_mem_take hd))
  have h2 : 10 ^ (AL.take k).length ≤ 10 ^ 10 := Nat.pow_le_pow_right (by decide) (by simp; omega)
  have h3 : (10 : Nat) ^ 10 = 10000000000 := by decide
  omega

theorem ret2e {a b : Int} (h : a = b) : Ending.returned (.tuple #[.int .i64 a, .int .i64 0]) = .returned (.tuple #[.int .i64 b, .int .i64 0]) := by rw [h]
theorem wrapNeg (x : Int) (h0 : 0 ≤ x) (h1 : x ≤ 9223372036854775808) : wrap64 (IntKind.u64.wrap (-x)) = -x := by
  rw [IntKind.wrap_u64]
  unfold wrap64
  omega
-- walks
set_option maxRecDepth 100000 in
set_option maxHeartbeats 4000000 in
theorem read_pos (AL FR : List Nat) (S : ByteArray) (hS : S = strOfNums (dg AL ++ if FR = [] then [] else 46 :: dg FR)) (ha0 : 0 < AL.length) (ha : ∀ d ∈ AL, d < 10) (hf : ∀ d ∈ FR, d < 10) (hla : AL.length ≤ 10) (hlf : FR.length ≤ 32)
    (hz : 1 < AL.length → AL.getD 0 0 ≠ 0) (wh p : Nat) (hwh : num AL = wh) (hU : ∀ k, k = 32 → (dbl FR k).1 = p ∧ num (dbl FR k).2 = 0) (hw : wh < 2147483648) (hp : p < 4294967296) (w : World) :
    Calls Try.prog 5 #[.string S] w fun e w' => e = .returned (.tuple #[.int .i64 ((wh : Int) * 4294967296 + (p : Int)), .int .i64 0]) ∧ Below w.heap.size w w' := by
  have hbyt : ∀ z ∈ dg AL ++ (if FR = [] then [] else 46 :: dg FR), 0 ≤ z ∧ z ≤ 255 := by
    intro z hz
    rcases List.mem_append.1 hz with h | h
    · exact (dg_dgt AL ha).byts z h
    · split at h
      · cases h
      · rcases List.mem_cons.1 h with rfl | h
        · omega
        · exact (dg_dgt FR hf).byts z h
  have hszb : (if FR = [] then [] else 46 :: dg FR).length ≤ 33 := by split <;> simp [dg_len]; omega
  have hsz : S.size = AL.length + (if FR = [] then [] else 46 :: dg FR).length := by rw [hS, strOfNums_size, List.length_append, dg_len]
  have hl : S.size ≤ 60 := by omega
  have hl0 : 0 < S.size := by omega
  obtain ⟨n1, n2⟩ := neStr hl0
  have h0 := str_at _ hbyt S hS 0 hl0
  have hd0 : 48 ≤ ((S[0]).toNat : Int) := by
    rw [h0]
    have hk : 0 < (dg AL).length := by rw [dg_len]; exact ha0
    simp only [List.getD, List.getElem?_append_left hk, List.getElem?_eq_getElem hk, Option.getD_some]
    exact (dg_dgt AL ha _ (List.getElem_mem hk)).1
  have t0 : (((S[0]).toNat : Int) == 45) = false := by rw [beq_eq_false_iff_ne]; omega
  have KC := Lib.hid (fun W => cut_any AL FR S hS ha0 ha hf hla hlf W)
  clear hd0
  have HA := Lib.hid ha
  have KF := Lib.hid (fun W S h => frac_any FR S h hf hlf p hU W)
  have HWH := Lib.hid hwh
  have HZ := Lib.hid hz
  clear hS hf hbyt hsz hszb h0 hwh hz hU ha
  go_enter Try.func5, Try.ntmps5
  go_wp2_with fail
  refine (KC.out _).mono ?_
  rintro e w1 ⟨AH, BH, rfl, hAH, hBH, m1, rfl⟩
  have hah : AH.size = AL.length := by rw [hAH, strOfNums_size, dg_len]
  have hat : ∀ k (h : k < AH.size), ((AH[k]).toNat : Int) = 48 + ((AL.getD k 0 : Nat) : Int) := fun k h => by
    rw [str_at _ (dg_dgt AL HA.out).byts AH hAH k h]
    unfold dg
    have hk : k < AL.length := by omega
    simp [List.getD, hk]
  have HAT := Lib.hid hat
  have HBH := Lib.hid hBH
  have HAH := Lib.hid hah
  have hl1 : AH.size ≤ 10 := by omega
  have hl2 : 0 < AH.size := by omega
  clear hat hAH hBH hah n1 n2 t0
  by_cases h1 : 1 < AH.size
  · have ta : decide (1 < (AH.size : Int)) = true := by simp; omega
    have hx := HAT.out 0 hl2
    have hy := HZ.out (by have := HAH.out; omega)
    have tb : (((AH[0]).toNat : Int) == 48) = false := by rw [beq_eq_false_iff_ne, hx]; omega
    clear hx hy
    go_wp2_with fail
    go_loop [9, 10] (fun s9 s10 => ReadRel AL s9 s10) (fun _ s10 => AL.length - (intOf s10).toNat)
    case atStart => exact ⟨0, by omega, rfl, rfl⟩
    case round =>
      obtain ⟨k, hk, rfl, rfl⟩ := hrel
      have hnl := num_take_lt AL HA.out hla k
      by_cases hlt : k < AL.length
      · have hka : k < AH.size := by have := HAH.out; omega
        have hx := HAT.out k hka
        have hd := getD_lt HA.out k
        have hs := num_snoc (AL.take k) (AL.getD k 0)
        rw [← take_snocN AL k hlt] at hs
        have HS := Lib.hid hs
        generalize AL.getD k 0 = d at *
        generalize num (AL.take k) = q at *
        clear hs
        go_wp2_with fail
        go_round
        case rel => exact ⟨k + 1, by omega, by go_num, by rw [HS.out]; go_num⟩
        case measure => simp [intOf]; omega
      · obtain rfl : AL.length = k := by omega
        have hka : AH.size = AL.length := HAH.out
        have hwt : num (AL.take AL.length) = wh := by rw [List.take_of_length_le (Nat.le_refl _)]; exact HWH.out
        rw [hwt]
        have HKA : AH.size ≤ AL.length ∧ AL.length ≤ AH.size := by omega
        obtain ⟨hka1, hka2⟩ := HKA
        clear hka hwt hnl
        go_wp2_with fail
        refine (KF.out _ _ HBH.out).mono ?_
        rintro e w2 ⟨rfl, hB2⟩
        have B2 := Lib.hid ((below_drewN w.heap.size w m1).trans hB2)
        clear hB2
        go_wp2_with fail
        go_ret2
        exact ⟨rfl, B2.out⟩
  · have ta : decide (1 < (AH.size : Int)) = false := by simp; omega
    go_wp2_with fail
    go_loop [9, 10] (fun s9 s10 => ReadRel AL s9 s10) (fun _ s10 => AL.length - (intOf s10).toNat)
    case atStart => exact ⟨0, by omega, rfl, rfl⟩
    case round =>
      obtain ⟨k, hk, rfl, rfl⟩ := hrel
      have hnl := num_take_lt AL HA.out hla k
      by_cases hlt : k < AL.length
      · have hka : k < AH.size := by have := HAH.out; omega
        have hx := HAT.out k hka
        have hd := getD_lt HA.out k
        have hs := num_snoc (AL.take k) (AL.getD k 0)
        rw [← take_snocN AL k hlt] at hs
        have HS := Lib.hid hs
        generalize AL.getD k 0 = d at *
        generalize num (AL.take k) = q at *
        clear hs
        go_wp2_with fail
        go_round
        case rel => exact ⟨k + 1, by omega, by go_num, by rw [HS.out]; go_num⟩
        case measure => simp [intOf]; omega
      · obtain rfl : AL.length = k := by omega
        have hka : AH.size = AL.length := HAH.out
        have hwt : num (AL.take AL.length) = wh := by rw [List.take_of_length_le (Nat.le_refl _)]; exact HWH.out
        rw [hwt]
        have HKA : AH.size ≤ AL.length ∧ AL.length ≤ AH.size := by omega
        obtain ⟨hka1, hka2⟩ := HKA
        clear hka hwt hnl
        go_wp2_with fail
        refine (KF.out _ _ HBH.out).mono ?_
        rintro e w2 ⟨rfl, hB2⟩
        have B2 := Lib.hid ((below_drewN w.heap.size w m1).trans hB2)
        clear hB2
        go_wp2_with fail
        go_ret2
        exact ⟨rfl, B2.out⟩

set_option maxRecDepth 100000 in
set_option maxHeartbeats 4000000 in
theorem read_neg (AL FR : List Nat) (S : ByteArray) (hS : S = strOfNums (45 :: (dg AL ++ if FR = [] then [] else 46 :: dg FR))) (ha0 : 0 < AL.length) (ha : ∀ d ∈ AL, d < 10) (hf : ∀ d ∈ FR, d < 10) (hla : AL.length ≤ 10) (hlf : FR.length ≤ 32)
    (hz : 1 < AL.length → AL.getD 0 0 ≠ 0) (wh p : Nat) (hwh : num AL = wh) (hU : ∀ k, k = 32 → (dbl FR k).1 = p ∧ num (dbl FR k).2 = 0) (hw : (wh : Int) * 4294967296 + (p : Int) ≤ 9223372036854775808) (hp : p < 4294967296) (w : World) :
    Calls Try.prog 5 #[.string S] w fun e w' => e = .returned (.tuple #[.int .i64 (-((wh : Int) * 4294967296 + (p : Int))), .int .i64 0]) ∧ Below w.heap.size w w' := by
  have hbyt : ∀ z ∈ dg AL ++ (if FR = [] then [] else 46 :: dg FR), 0 ≤ z ∧ z ≤ 255 := by
    intro z hz
    rcases List.mem_append.1 hz with h | h
    · exact (dg_dgt AL ha).byts z h
    · split at h
      · cases h
      · rcases List.mem_cons.1 h with rfl | h
        · omega
        · exact (dg_dgt FR hf).byts z h
  have hszb : (if FR = [] then [] else 46 :: dg FR).length ≤ 33 := by split <;> simp [dg_len]; omega
  have hsz : S.size = AL.length + (if FR = [] then [] else 46 :: dg FR).length + 1 := by rw [hS, strOfNums_size, List.length_cons, List.length_append, dg_len]
  have hl : S.size ≤ 60 := by omega
  have hl0 : 0 < S.size := by omega
  have hl1' : 1 < S.size := by omega
  obtain ⟨n1, n2⟩ := neStr hl0
  have h0 := str_at _ (fun z hz => by rcases List.mem_cons.1 hz with rfl | h; · omega
                                      · exact hbyt z h) S hS 0 hl0
  have t0 : (((S[0]).toNat : Int) == 45) = true := by rw [beq_iff_eq, h0]; rfl
  have hT : S.extract 1 S.size = strOfNums (dg AL ++ if FR = [] then [] else 46 :: dg FR) := by rw [hsz, hS, str_drop _ _ _ (by rw [List.length_cons, List.length_append, dg_len])]; rfl
  have KC := Lib.hid (fun W => cut_any AL FR _ hT ha0 ha hf hla hlf W)
  clear hT
  have HA := Lib.hid ha
  have KF := Lib.hid (fun W S h => frac_any FR S h hf hlf p hU W)
  have HWH := Lib.hid hwh
  have HZ := Lib.hid hz
  clear hS hf hbyt hsz hszb h0 hwh hz hU ha
  go_enter Try.func5, Try.ntmps5
  go_wp2_with fail
  refine (KC.out _).mono ?_
  rintro e w1 ⟨AH, BH, rfl, hAH, hBH, m1, rfl⟩
  have hah : AH.size = AL.length := by rw [hAH, strOfNums_size, dg_len]
  have hat : ∀ k (h : k < AH.size), ((AH[k]).toNat : Int) = 48 + ((AL.getD k 0 : Nat) : Int) := fun k h => by
    rw [str_at _ (dg_dgt AL HA.out).byts AH hAH k h]
    unfold dg
    have hk : k < AL.length := by omega
    simp [List.getD, hk]
  have HAT := Lib.hid hat
  have HBH := Lib.hid hBH
  have HAH := Lib.hid hah
  have hl1 : AH.size ≤ 10 := by omega
  have hl2 : 0 < AH.size := by omega
  clear hat hAH hBH hah n1 n2 t0
  by_cases h1 : 1 < AH.size
  · have ta : decide (1 < (AH.size : Int)) = true := by simp; omega
    have hx := HAT.out 0 hl2
    have hy := HZ.out (by have := HAH.out; omega)
    have tb : (((AH[0]).toNat : Int) == 48) = false := by rw [beq_eq_false_iff_ne, hx]; omega
    clear hx hy
    go_wp2_with fail
    go_loop [9, 10] (fun s9 s10 => ReadRel AL s9 s10) (fun _ s10 => AL.length - (intOf s10).toNat)
    case atStart => exact ⟨0, by omega, rfl, rfl⟩
    case round =>
      obtain ⟨k, hk, rfl, rfl⟩ := hrel
      have hnl := num_take_lt AL HA.out hla k
      by_cases hlt : k < AL.length
      · have hka : k < AH.size := by have := HAH.out; omega
        have hx := HAT.out k hka
        have hd := getD_lt HA.out k
        have hs := num_snoc (AL.take k) (AL.getD k 0)
        rw [← take_snocN AL k hlt] at hs
        have HS := Lib.hid hs
        generalize AL.getD k 0 = d at *
        generalize num (AL.take k) = q at *
        clear hs
        go_wp2_with fail
        go_round
        case rel => exact ⟨k + 1, by omega, by go_num, by rw [HS.out]; go_num⟩
        case measure => simp [intOf]; omega
      · obtain rfl : AL.length = k := by omega
        have hka : AH.size = AL.length := HAH.out
        have hwt : num (AL.take AL.length) = wh := by rw [List.take_of_length_le (Nat.le_refl _)]; exact HWH.out
        rw [hwt]
        have HKA : AH.size ≤ AL.length ∧ AL.length ≤ AH.size := by omega
        obtain ⟨hka1, hka2⟩ := HKA
        clear hka hwt hnl
        go_wp2_with fail
        refine (KF.out _ _ HBH.out).mono ?_
        rintro e w2 ⟨rfl, hB2⟩
        have B2 := Lib.hid ((below_drewN w.heap.size w m1).trans hB2)
        clear hB2
        go_wp2_with fail
        go_ret2
        exact ⟨ret2e (wrapNeg _ (by omega) (by omega)), B2.out⟩
  · have ta : decide (1 < (AH.size : Int)) = false := by simp; omega
    go_wp2_with fail
    go_loop [9, 10] (fun s9 s10 => ReadRel AL s9 s10) (fun _ s10 => AL.length - (intOf s10).toNat)
    case atStart => exact ⟨0, by omega, rfl, rfl⟩
    case round =>
      obtain ⟨k, hk, rfl, rfl⟩ := hrel
      have hnl := num_take_lt AL HA.out hla k
      by_cases hlt : k < AL.length
      · have hka : k < AH.size := by have := HAH.out; omega
        have hx := HAT.out k hka
        have hd := getD_lt HA.out k
        have hs := num_snoc (AL.take k) (AL.getD k 0)
        rw [← take_snocN AL k hlt] at hs
        have HS := Lib.hid hs
        generalize AL.getD k 0 = d at *
        generalize num (AL.take k) = q at *
        clear hs
        go_wp2_with fail
        go_round
        case rel => exact ⟨k + 1, by omega, by go_num, by rw [HS.out]; go_num⟩
        case measure => simp [intOf]; omega
      · obtain rfl : AL.length = k := by omega
        have hka : AH.size = AL.length := HAH.out
        have hwt : num (AL.take AL.length) = wh := by rw [List.take_of_length_le (Nat.le_refl _)]; exact HWH.out
        rw [hwt]
        have HKA : AH.size ≤ AL.length ∧ AL.length ≤ AH.size := by omega
        obtain ⟨hka1, hka2⟩ := HKA
        clear hka hwt hnl
        go_wp2_with fail
        refine (KF.out _ _ HBH.out).mono ?_
        rintro e w2 ⟨rfl, hB2⟩
        have B2 := Lib.hid ((below_drewN w.heap.size w m1).trans hB2)
        clear hB2
        go_wp2_with fail
        go_ret2
        exact ⟨ret2e (wrapNeg _ (by omega) (by omega)), B2.out⟩

end Go.Proofs.Ytnhklfdchfndjaa.Tx
