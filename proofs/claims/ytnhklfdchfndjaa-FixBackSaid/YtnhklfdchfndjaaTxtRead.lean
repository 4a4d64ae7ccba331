/- The contracts of fix.digits, cut. -/
import Derived.Test.YtnhklfdchfndjaaTxtText
set_option linter.unusedVariables false
namespace Go.Proofs.Ytnhklfdchfndjaa.Tx
open Go.RowKit Go.Proofs.Ytnhklfdchfndjaa

def Dgt (zs : List Int) : Prop := ∀ z ∈ zs, 48 ≤ z ∧ z ≤ 57
theorem dg_dgt (l : List Nat) (h : ∀ d ∈ l, d < 10) : Dgt (dg l) := by
  intro z hz
  obtain ⟨d, hd, rfl⟩ := List.mem_map.1 hz
  have := h d hd
  omega
/-- the bytes of a string -/
theorem str_at (zs : List Int) (hz : ∀ z ∈ zs, 0 ≤ z ∧ z ≤ 255) (S : ByteArray) (hS : S = strOfNums zs) (k : Nat) (h : k < S.size) : ((S[k]).toNat : Int) = zs.getD k 0 := by
  subst hS
  have hk : k < zs.length := by rw [strOfNums_size] at h; exact h
  have hb := hz _ (List.getElem_mem hk)
  have e : (strOfNums zs)[k] = UInt8.ofNat (zs[k]).toNat := by
    show (strOfNums zs).data[k] = _
    simp [strOfNums]
  rw [e]
  simp only [List.getD, List.getElem?_eq_getElem hk, Option.getD_some, UInt8.toNat_ofNat']
  omega
theorem Dgt.byts {zs : List Int} (h : Dgt zs) : ∀ z ∈ zs, 0 ≤ z ∧ z ≤ 255 := fun z hz => by have := h z hz; omega

set_option maxRecDepth 100000 in
set_option maxHeartbeats 1000000 in
theorem digits_true (zs : List Int) (S : ByteArray) (hS : S = strOfNums zs) (hne : 0 < zs.length) (hz : Dgt zs) (hn : zs.length ≤ 1000) (w : World) :
    Calls Try.prog 35 #[.string S] w fun e w' => e = .returned (.bool true) ∧ w = w' := by
  have hsz : S.size = zs.length := by rw [hS, strOfNums_size]
  have hat : ∀ k (h : k < S.size), 48 ≤ ((S[k]).toNat : Int) ∧ ((S[k]).toNat : Int) ≤ 57 := fun k h => by
    rw [str_at zs hz.byts S hS k h]
    have hk : k < zs.length := by omega
    simp only [List.getD, List.getElem?_eq_getElem hk, Option.getD_some]
    exact hz _ (List.getElem_mem hk)
  have HAT := Lib.hid hat
  have hl : S.size ≤ 1000 := by omega
  have hp : 0 < S.size := by omega
  have hnn2 : ¬ S.toList = [] := by
    intro h
    rw [ByteArray.toList_eq] at h
    have h2 : S.data.toList.length = S.size := by simp
    rw [h] at h2
    simp at h2
    omega
  have hnn : (!S.toList.isEmpty) = true := by
    cases h : S.toList with
    | nil => exact absurd h hnn2
    | cons x l => rfl
  clear hS hz hsz hat hne hn
  go_enter Try.func35, Try.ntmps35
  go_wp2_with fail
  go_loop [3] (fun i => ∃ k : Nat, k ≤ S.size ∧ i = .int .i64 k) (fun i => S.size - (intOf i).toNat)
  case atStart => exact ⟨0, by omega, rfl⟩
  case round =>
    obtain ⟨k, hk, rfl⟩ := hrel
    by_cases hlt : k < S.size
    · obtain ⟨a0, a1⟩ := HAT.out k hlt
      have t0 : decide (((S[k]).toNat : Int) < 48) = false := by simp; omega
      have t1 : decide (57 < ((S[k]).toNat : Int)) = false := by simp; omega
      go_wp2_with fail
      go_round
      case rel => exact ⟨k + 1, by omega, by go_num⟩
      case measure => simp [intOf]; omega
    · obtain rfl : S.size = k := by omega
      go_wp2_with fail
      go_ret
      exact ⟨rfl, rfl⟩

/-- a string's bytes ahead of place k, and behind it -/
theorem str_take (zs : List Int) (k : Nat) : (strOfNums zs).extract 0 k = strOfNums (zs.take k) := by
  apply ByteArray.ext
  apply Array.ext'
  simp [strOfNums, ByteArray.data_extract]
theorem str_drop (zs : List Int) (k n : Nat) (hn : n = zs.length) : (strOfNums zs).extract k n = strOfNums (zs.drop k) := by
  subst hn
  apply ByteArray.ext
  apply Array.ext'
  simp [strOfNums, ByteArray.data_extract]
  rw [List.take_of_length_le (by simp)]

set_option maxRecDepth 100000 in
set_option maxHeartbeats 1000000 in
theorem cut_no (zs : List Int) (S : ByteArray) (hS : S = strOfNums zs) (hne : 0 < zs.length) (hz : Dgt zs) (hn : zs.length ≤ 1000) (w : World) :
    Calls Try.prog 18 #[.string S] w fun e w' => e = .returned (.tuple #[.string S, .string ⟨#[]⟩, .bool true]) ∧ w = w' := by
  have hsz : S.size = zs.length := by rw [hS, strOfNums_size]
  have hat : ∀ k (h : k < S.size), 48 ≤ ((S[k]).toNat : Int) ∧ ((S[k]).toNat : Int) ≤ 57 := fun k h => by
    rw [str_at zs hz.byts S hS k h]
    have hk : k < zs.length := by omega
    simp only [List.getD, List.getElem?_eq_getElem hk, Option.getD_some]
    exact hz _ (List.getElem_mem hk)
  have HAT := Lib.hid hat
  have hl : S.size ≤ 1000 := by omega
  have KD := Lib.hid (fun W => digits_true zs S hS hne hz hn W)
  clear hS hz hsz hat hne hn
  go_enter Try.func18, Try.ntmps18
  go_wp2_with fail
  go_loop [5] (fun i => ∃ k : Nat, k ≤ S.size ∧ i = .int .i64 k) (fun i => S.size - (intOf i).toNat)
  case atStart => exact ⟨0, by omega, rfl⟩
  case round =>
    obtain ⟨k, hk, rfl⟩ := hrel
    by_cases hlt : k < S.size
    · obtain ⟨a0, a1⟩ := HAT.out k hlt
      have t0 : (((S[k]).toNat : Int) == 46) = false := by rw [beq_eq_false_iff_ne]; omega
      go_wp2_with fail
      go_round
      case rel => exact ⟨k + 1, by omega, by go_num⟩
      case measure => simp [intOf]; omega
    · obtain rfl : S.size = k := by omega
      go_wp2_with (go_at_call 35; refine (KD.out _).mono ?_; rintro e w' ⟨rfl, rfl⟩)
      go_ret3
      exact ⟨rfl, rfl⟩

def CutPost (al bl : List Int) (w : World) (e : Ending) (w' : World) : Prop := e = .returned (.tuple #[.string (strOfNums al), .string (strOfNums bl), .bool true]) ∧ ∃ n, w' = w.drewN n
set_option maxRecDepth 100000 in
set_option maxHeartbeats 1000000 in
theorem cut_pt (al bl : List Int) (S : ByteArray) (hS : S = strOfNums (al ++ 46 :: bl)) (ha0 : 0 < al.length) (hb0 : 0 < bl.length) (ha : Dgt al) (hb : Dgt bl) (hn : al.length + bl.length ≤ 900) (w : World) :
    Calls Try.prog 18 #[.string S] w (CutPost al bl w) := by
  have hbyt : ∀ z ∈ al ++ 46 :: bl, 0 ≤ z ∧ z ≤ 255 := by
    intro z hz
    rcases List.mem_append.1 hz with h | h
    · exact ha.byts z h
    · rcases List.mem_cons.1 h with rfl | h
      · omega
      · exact hb.byts z h
  have hsz : S.size = al.length + 1 + bl.length := by rw [hS, strOfNums_size]; simp; omega
  have hat : ∀ k (h : k < S.size), k < al.length → 48 ≤ ((S[k]).toNat : Int) ∧ ((S[k]).toNat : Int) ≤ 57 := fun k h hk => by
    rw [str_at _ hbyt S hS k h]
    simp only [List.getD, List.getElem?_append_left hk, List.getElem?_eq_getElem hk, Option.getD_some]
    exact ha _ (List.getElem_mem hk)
  have hpt : ∀ (h : al.length < S.size), ((S[al.length]).toNat : Int) = 46 := fun h => by
    rw [str_at _ hbyt S hS _ h]
    simp [List.getD]
  have HAT := Lib.hid hat
  have HPT := Lib.hid hpt
  have e1 : S.extract 0 al.length = strOfNums al := by rw [hS, str_take, List.take_left' rfl]
  have e2 : S.extract (al.length + 1) S.size = strOfNums bl := by rw [hsz, hS, str_drop _ _ _ (by simp; omega)]; simp
  have K1 := Lib.hid (fun W => digits_true al (S.extract 0 al.length) e1 ha0 ha (by omega) W)
  have K2 := Lib.hid (fun W => digits_true bl (S.extract (al.length + 1) S.size) e2 hb0 hb (by omega) W)
  have hl : S.size ≤ 1000 := by omega
  have hl2 : al.length + 1 < S.size := by omega
  have E1 := Lib.hid e1
  have E2 := Lib.hid e2
  generalize al.length = m at *
  clear hS ha hb hsz hat ha0 hb0 hn hbyt hpt e1 e2
  go_enter Try.func18, Try.ntmps18
  go_wp2_with fail
  go_loop [5] (fun i => ∃ k : Nat, k ≤ m ∧ i = .int .i64 k) (fun i => S.size - (intOf i).toNat)
  case atStart => exact ⟨0, by omega, rfl⟩
  case round =>
    obtain ⟨k, hk, rfl⟩ := hrel
    by_cases hlt : k < m
    · have hks : k < S.size := by omega
      obtain ⟨a0, a1⟩ := HAT.out k hks hlt
      have t0 : (((S[k]).toNat : Int) == 46) = false := by rw [beq_eq_false_iff_ne]; omega
      go_wp2_with fail
      go_round
      case rel => exact ⟨k + 1, by omega, by go_num⟩
      case measure => simp [intOf]; omega
    · obtain rfl : m = k := by omega
      have hks : m < S.size := by omega
      have t0 : (((S[m]).toNat : Int) == 46) = true := by rw [beq_iff_eq]; exact HPT.out hks
      have q1 : IntKind.i64.wrap ((m : Int) + 1) = (m : Int) + 1 := IntWalk.i64_in _ (by omega)
      have q2 : (0 : Int) ≤ (m : Int) := by omega
      have q3 : (0 : Int) ≤ (m : Int) + 1 := by omega
      have q4 : ((m : Int) + 1).toNat = m + 1 := by omega
      have q5 : (m : Int) ≤ (S.size : Int) := by omega
      have q6 : (m : Int) + 1 ≤ (S.size : Int) := by omega
      clear hk hlt
      go_wp2_with fail
      go_quiet ((first
        | (go_at_call 35; with_reducible exact quietSame (K1.out _))
        | (go_at_call 35; with_reducible exact quietSame (K2.out _))))
      clear q1 q4
      go_wp2_with fail
      go_ret3
      exact ⟨by rw [← E1.out, ← E2.out]; rfl, _, rfl⟩
end Go.Proofs.Ytnhklfdchfndjaa.Tx
