/- BusTwice: a byte turned twice is as it was, and no other parcel changes. -/
import Derived.Test.YtdlcjieaoalhoaaBusIn
import Derived.Test.YtdlcjieaoalhoaaBusRuns
import Derived.Test.YtdlcjieaoalhoaaBusLose
import Derived.Test.YtdlcjieaoalhoaaKit2
import Derived.BigGuard
set_option linter.unusedVariables false
namespace Go.Proofs.Ytdlcjieaoalhoaa.lawBusTwice
open Go.RowKit Go.Proofs.Ytdlcjieaoalhoaa Go.Proofs.Ytdlcjieaoalhoaa.Bs Crc Sm

/-- the key at an index -/
theorem key_at {L : List Pc} {f : Nat → Int × Int × Int × Int × List Int} {m i : Nat} (h : L.map Pc.key = (List.range m).map f) (hi : i < m) : ∃ p, L[i]? = some p ∧ p ∈ L ∧ p.key = f i := by
  have hl : L.length = m := by have := congrArg List.length h; simpa using this
  have hp : L[i]? = some L[i] := List.getElem?_eq_getElem (by omega)
  refine ⟨L[i], hp, List.getElem_mem _, ?_⟩
  have := congrArg (fun l => l[i]?) h
  simp only [List.getElem?_map, hp, Option.map_some] at this
  rw [List.getElem?_range hi] at this
  simpa using this
theorem ser_at {D : Nat → Ld} {L : List Pc} {m i : Nat} {p : Pc} (h : L.map Pc.key = (List.range m).map (ldKey D)) (hp : L[i]? = some p) : p.se = i := by
  have hl : L.length = m := by have := congrArg List.length h; simpa using this
  have hi : i < m := by have := (List.getElem?_eq_some_iff.1 hp).1; omega
  obtain ⟨q, hq, _, hk⟩ := key_at h hi
  rw [hp] at hq
  injection hq with hq
  subst hq
  exact congrArg (fun k => k.2.2.2.1) hk
/-- the serial numbers are the indices -/
def Ser (L : List Pc) : Prop := ∀ (j : Nat) (p : Pc), L[j]? = some p → p.se = j
theorem Ser.first {L : List Pc} (h : Ser L) {i : Nat} (j : Nat) (q : Pc) (hj : j < i) (hq : L[j]? = some q) : q.se ≠ (i : Int) := by
  rw [h j q hq]; omega
theorem Ser.of_map {L M : List Pc} (h : Ser L) (hm : M.map (fun p => p.key.2.2.2.1) = L.map (fun p => p.key.2.2.2.1)) : Ser M := by
  intro j p hp
  have := congrArg (fun l => l[j]?) hm
  simp only [List.getElem?_map, hp, Option.map_some] at this
  cases hL : L[j]? with
  | none => rw [hL] at this; cases this
  | some q =>
    rw [hL] at this
    simp only [Option.map_some, Option.some.injEq] at this
    rw [← h j q hL]; exact this

set_option maxRecDepth 100000 in
set_option maxHeartbeats 8000000 in
theorem walk1 (A : Option Addr) (n c : Nat) (D : Nat → Ld) (s a0 m : Int) (w : World) (h : LR w A n D) (hn : n ≤ 9223372036854775807) :
    Calls Try.prog 5 #[.slice A n c, .int .i64 s, .int .i64 a0, .int .i64 m] w fun e w' => e = .returned (.bool true) ∧ Below w.heap.size w w' := by
  obtain ⟨k, hk⟩ : ∃ k, k = min n 100 := ⟨_, rfl⟩
  have kl := loaded_any A n c D w h hn
  unfold LdPost at kl
  rw [← hk] at kl
  have KL := Lib.hid kl
  have KR := Lib.hid (fun W => runs_any W)
  clear h kl
  by_cases h0 : n = 0
  · have hk0 : k = 0 := by omega
    subst h0 hk0
    clear hk
    go_enter Try.func5, Try.ntmps5
    go_wp2_with (first
      | go_big_skip
      | (go_at_call 7; (with_reducible refine KL.out.mono ?_); rintro e w1 ⟨A1, c1, L, rfl, hq, hk, hB⟩; have HT := Lib.hid (hB.alloc hB.size (.cells #[.int .i64 0, .int .i64 0, .slice A1 0 c1] 25)); clear hq hk hB)
      | (go_at_call 8; (with_reducible refine (KR.out _).mono ?_); rintro e w2 ⟨rfl, hB2⟩; have HT := Lib.hid (HT.out.trans (hB2.mono HT.out.size)); clear hB2))
    go_ret
    exact ⟨rfl, HT.out⟩
  · have q0 : ((n : Int) == 0) = false := by simp; omega
    have qmin : min (n : Int) 100 = (k : Int) := by omega
    have hk1 : 0 < k := by omega
    have hk100 : k ≤ 100 := by omega
    clear hk
    have b1 := Int.emod_nonneg s (b := (k : Int)) (by omega)
    have b2 := Int.emod_lt_of_pos s (b := (k : Int)) (by omega)
    obtain ⟨i, hi⟩ : ∃ i : Nat, s % (k : Int) = i := ⟨(s % (k : Int)).toNat, by omega⟩
    have hik : i < k := by omega
    have ks1 := fun W => spot_any s k W (by omega) (by omega)
    have ks2 := fun W => spot_any m 256 W (by omega) (by omega)
    have b3 := Int.emod_nonneg m (b := 256) (by omega)
    have b4 := Int.emod_lt_of_pos m (b := 256) (by omega)
    rw [hi] at ks1
    generalize m % 256 = mm at *
    have KS1 := Lib.hid ks1
    have KS2 := Lib.hid ks2
    clear ks1 ks2 hi b1 b2
    go_enter Try.func5, Try.ntmps5
    go_upto_region 6 with (first
      | go_big_skip
      | (go_at_call 7; (with_reducible refine KL.out.mono ?_); rintro e w1 ⟨A1, c1, L, rfl, hq, hk, hB⟩; have HT0 := Lib.hid (hB.alloc hB.size (.cells #[.int .i64 0, .int .i64 k, .slice A1 k c1] 25)); have HQ := Lib.hid (hq.alloc (.cells #[.int .i64 0, .int .i64 k, .slice A1 k c1] 25)); have HK := Lib.hid hk; have HX := Lib.hid (Blk.new w1 25 #[.int .i64 0, .int .i64 k, .slice A1 k c1]); clear hq hk hB)
      | (go_at_call 8; (with_reducible refine (KR.out _).mono ?_); rintro e w2 ⟨rfl, hB2⟩; have HT := Lib.hid (HT0.out.trans (hB2.mono HT0.out.size)); clear HT0; have HQ := Lib.hid (HQ.out.next hB2); have HX := Lib.hid (HX.out.next hB2); clear hB2)
      | (go_at_call 9; (with_reducible refine (KS1.out _).mono ?_); rintro e w9 ⟨rfl, rfl⟩)
      | (go_at_call 9; (with_reducible refine (KS2.out _).mono ?_); rintro e w9 ⟨rfl, rfl⟩))
    have hl : L.length = k := by have := congrArg List.length HK.out; simpa using this
    have hser : Ser L := fun j p hp => ser_at HK.out hp
    have hqr : QR w2 A1 k c1 L := rd1 hl HQ.out
    obtain ⟨b, off, p, rfl, hlt, hp, hpm, hR, x0, x1, x2, x3, x4⟩ := hqr.row hik
    have e2 := HX.out.cell 2
    have e1 := HX.out.cell 1
    have e0 := HX.out.cell 0
    simp only [List.getElem?_toArray, List.getElem?_cons_zero, List.getElem?_cons_succ] at e0 e1 e2
    clear x0 x1 x2 x3 KL KR KS1 KS2
    have q5 : (i : Int) < (k : Int) := by omega
    have q6 : (0 : Int) ≤ (i : Int) := by omega
    by_cases hp0 : p.n = 0
    · have q7 : ((p.n : Int) == 0) = true := by simp; omega
      rw [hp0] at x4
      go_wp2_with fail
      go_ret
      exact ⟨rfl, HT.out⟩
    · have q7 : ((p.n : Int) == 0) = false := by simp; omega
      have b1 := Int.emod_nonneg a0 (b := (p.n : Int)) (by omega)
      have b2 := Int.emod_lt_of_pos a0 (b := (p.n : Int)) (by omega)
      obtain ⟨a, ha⟩ : ∃ a : Nat, a0 % (p.n : Int) = a := ⟨(a0 % (p.n : Int)).toNat, by omega⟩
      have hap : a < p.n := by omega
      have ks := fun W => spot_any a0 p.n W (by omega) (by have := hR.2.2.1; omega)
      rw [ha] at ks
      have KS := Lib.hid ks
      have kt := Turn_ok 0 k i mm a i p (some ⟨b, off, none⟩) k c1 L w2 hqr (by omega) hp (hser i p hp) (fun j q hj hq => hser.first j q hj hq) hap b3 (by omega)
      unfold TurnPost at kt
      have KT := Lib.hid kt
      have HP := Lib.hid hp
      have HR := Lib.hid hR
      have HSER := Lib.hid hser
      clear ks kt hp hR hser hqr hpm b1 b2 ha
      go_upto_region 10 with (first
        | (go_at_call 9; (with_reducible refine (KS.out _).mono ?_); rintro e w9 ⟨rfl, rfl⟩)
        | (go_at_call 11; (with_reducible refine KT.out.mono ?_); rintro e w3 ⟨A3, c3, L3, rfl, hq3, hk3, hB3⟩; have HQ3 := Lib.hid hq3; have HK3 := Lib.hid hk3; have HB3 := Lib.hid hB3; clear hq3 hk3 hB3))
      have hl3 : L3.length = k := by have := congrArg List.length HK3.out; simpa [hl] using this
      have hL3 : ∀ j, (L3.map Pc.key)[j]? = if i = j then some (p.fr, p.to, p.du, p.se, p.zs.set a (bits .xor .u8 (p.zs.getD a 0) mm)) else (L.map Pc.key)[j]? := by
        intro j
        rw [HK3.out, List.getElem?_set]
        split
        · rename_i e; subst e; rw [if_pos (by rw [List.length_map]; omega)]
        · rfl
      have hser3 : Ser L3 := by
        intro j q hq
        have h1 := hL3 j
        rw [List.getElem?_map, hq, List.getElem?_map] at h1
        split at h1
        · rename_i e
          have h2 := Option.some.inj h1
          have h3 : q.se = p.se := congrArg (fun (k : Int × Int × Int × Int × List Int) => k.2.2.2.1) h2
          rw [h3, HSER.out i p HP.out, e]
        · cases hL : L[j]? with
          | none => rw [hL] at h1; cases h1
          | some q' =>
            rw [hL] at h1
            have h2 := Option.some.inj h1
            have h3 : q.se = q'.se := congrArg (fun (k : Int × Int × Int × Int × List Int) => k.2.2.2.1) h2
            rw [h3, HSER.out j q' hL]
      have hi3 : i < L3.length := by omega
      have hp3 : L3[i]? = some L3[i] := List.getElem?_eq_getElem hi3
      obtain ⟨p3, hpe⟩ : ∃ p3, p3 = L3[i] := ⟨_, rfl⟩
      rw [← hpe] at hp3
      have hkp3 : p3.key = (p.fr, p.to, p.du, p.se, p.zs.set a (bits .xor .u8 (p.zs.getD a 0) mm)) := by
        have h1 := hL3 i
        rw [List.getElem?_map, hp3, if_pos rfl] at h1
        exact Option.some.inj h1
      have hz3 : p3.zs = p.zs.set a (bits .xor .u8 (p.zs.getD a 0) mm) := congrArg (fun (k : Int × Int × Int × Int × List Int) => k.2.2.2.2) hkp3
      have hr3 := (HQ3.out.2.1 p3 (List.mem_of_getElem? hp3)).reads
      have hn3 : p3.n = p.n := by rw [← hr3.1.1, ← HR.out.1.1, hz3, List.length_set]
      have hq4 := HQ3.out.alloc (.cells #[.int .i64 0, .int .i64 k, .slice A3 k c3] 25)
      have hx4 := Blk.new w3 25 #[.int .i64 0, .int .i64 k, .slice A3 k c3]
      have kt2 := Turn_ok 0 k i mm a i p3 A3 k c3 L3 (w3.alloc (.cells #[.int .i64 0, .int .i64 k, .slice A3 k c3] 25)) (rd1 hl3 hq4) (by omega) hp3 (hser3 i p3 hp3) (fun j q hj hq => hser3.first j q hj hq) (by omega) b3 (by omega)
      unfold TurnPost at kt2
      have KT2 := Lib.hid kt2
      have HQ4 := Lib.hid hq4
      have HX4 := Lib.hid hx4
      have HXb := Lib.hid ((HX.out.next HB3.out).alloc (.cells #[.int .i64 0, .int .i64 k, .slice A3 k c3] 25))
      have HQb := Lib.hid ((HQ.out.next HB3.out).alloc (.cells #[.int .i64 0, .int .i64 k, .slice A3 k c3] 25))
      have HTb := Lib.hid ((HT.out.trans (HB3.out.mono HT.out.size)).alloc (Nat.le_trans HT.out.size HB3.out.size) (.cells #[.int .i64 0, .int .i64 k, .slice A3 k c3] 25))
      have HP3 := Lib.hid hp3
      have HL3 := Lib.hid hL3
      have HZ3 := Lib.hid hz3
      clear kt2 hq4 hx4 hp3 hL3 hz3 hr3 hkp3 hpe e0 e1 e2 x4
      go_upto_region 14 with (first
        | go_big_skip
        | (go_at_call 11; (with_reducible refine KT2.out.mono ?_); rintro e w5 ⟨A5, c5, L5, rfl, hq5, hk5, hB5⟩; have HQ5 := Lib.hid hq5; have HK5 := Lib.hid hk5; have HB5 := Lib.hid hB5; clear hq5 hk5 hB5))
      have hl5 : L5.length = k := by have := congrArg List.length HK5.out; simpa [hl3] using this
      -- one world W0 for all three buses
      have hW0 : Below (w3.alloc (.cells #[.int .i64 0, .int .i64 k, .slice A3 k c3] 25)).heap.size (w3.alloc (.cells #[.int .i64 0, .int .i64 k, .slice A3 k c3] 25)) (w5.alloc (.cells #[.int .i64 0, .int .i64 k, .slice A5 k c5] 25)) := HB5.out.alloc HB5.out.size _
      have XA := Lib.hid (HXb.out.next hW0)
      have XB := Lib.hid (HX4.out.next hW0)
      have XC := Lib.hid (Blk.new w5 25 #[.int .i64 0, .int .i64 k, .slice A5 k c5])
      have QA := Lib.hid (rd1 hl (HQb.out.next hW0))
      have QB := Lib.hid (rd1 hl3 (HQ4.out.next hW0))
      have QC := Lib.hid (rd1 hl5 (HQ5.out.alloc (.cells #[.int .i64 0, .int .i64 k, .slice A5 k c5] 25)))
      have TT := Lib.hid (HTb.out.trans (hW0.mono HTb.out.size))
      clear hW0 HX4 HXb HQb HQ4 HQ5 HTb HB5 HB3 HT HQ HX HQ3
      generalize w5.alloc (.cells #[.int .i64 0, .int .i64 k, .slice A5 k c5] 25) = W0 at *
      generalize w1.heap.size = gA at *
      generalize w3.heap.size = gB at *
      generalize w5.heap.size = gC at *
      go_loopw [16] (fun iv wr => (∃ j : Nat, j ≤ k ∧ iv = .int .i64 j) ∧ Below W0.heap.size W0 wr) (fun iv _ => k - (intOf iv).toNat)
      case atStart => exact ⟨⟨0, Nat.zero_le _, rfl⟩, Below.refl _ _⟩
      case round =>
        obtain ⟨⟨j, hj, rfl⟩, hB⟩ := hrel
        by_cases hjk : j < k
        · have qa := (QA.out.next hB)
          have qb := (QB.out.next hB)
          have qc := (QC.out.next hB)
          have xa := (XA.out.next hB).cell 2
          have xb := (XB.out.next hB).cell 2
          have xc := (XC.out.next hB).cell 2
          simp only [List.getElem?_toArray, List.getElem?_cons_zero, List.getElem?_cons_succ] at xa xb xc
          obtain ⟨ba, oa, pa, hAa, _, ha, _, ra, _, _, _, _, va⟩ := qa.row hjk
          obtain ⟨bb, ob, pb, hAb, _, hb, _, rb, _, _, _, _, vb⟩ := qb.row hjk
          obtain ⟨bc, oc, pc, hAc, _, hc, _, rc, _, _, _, _, vc⟩ := qc.row hjk
          have h3 := HL3.out j
          have hzb : j ≠ i → pb.zs = pa.zs := by
            intro hne
            rw [List.getElem?_map, hb, if_neg (fun e => hne e.symm), List.getElem?_map, ha] at h3
            exact congrArg (fun (k : Int × Int × Int × Int × List Int) => k.2.2.2.2) (Option.some.inj h3)
          have h5 := congrArg (fun (l : List (Int × Int × Int × Int × List Int)) => l[j]?) HK5.out
          simp only [List.getElem?_map, hc, List.getElem?_set, List.length_map, hl3, if_pos hik] at h5
          have hzc : pc.zs = pa.zs := by
            by_cases e : i = j
            · subst e
              rw [if_pos rfl] at h5
              have h6 : pc.zs = p3.zs.set a (bits .xor .u8 (p3.zs.getD a 0) mm) := congrArg (fun (k : Int × Int × Int × Int × List Int) => k.2.2.2.2) (Option.some.inj h5)
              have hpp : pa = p := by rw [HP.out] at ha; exact (Option.some.inj ha).symm
              subst hpp
              have hal : a < pa.zs.length := by rw [HR.out.1.1]; exact hap
              have hg : (pa.zs.set a (bits .xor .u8 (pa.zs.getD a 0) mm)).getD a 0 = bits .xor .u8 (pa.zs.getD a 0) mm := by simp [List.getD, List.getElem?_set, hal]
              have hzb : 0 ≤ pa.zs.getD a 0 ∧ pa.zs.getD a 0 ≤ 255 := by
                have : pa.zs.getD a 0 = pa.zs[a] := by simp [List.getD, List.getElem?_eq_getElem hal]
                rw [this]
                exact HR.out.2.2.2 _ (List.getElem_mem hal)
              rw [h6, HZ3.out, hg, xr_twice _ mm hzb ⟨b3, by omega⟩, List.set_set]
              apply List.ext_getElem?
              intro t
              rw [List.getElem?_set]
              split
              · rename_i e; subst e; simp [hal, List.getD]
              · rfl
            · rw [if_neg e] at h5
              rw [List.getElem?_map, hb, if_neg e, List.getElem?_map, ha] at h3
              rw [hb] at h5
              exact (congrArg (fun (k : Int × Int × Int × Int × List Int) => k.2.2.2.2) (Option.some.inj h5)).trans (congrArg (fun (k : Int × Int × Int × Int × List Int) => k.2.2.2.2) (Option.some.inj h3))
          have ca := fun m' => conv_ints (P := Try.prog) (dst := 9) Try.underlying33 Try.underlying5 Try.underlying9 (c := pa.c) (ra.1.next (below_drewN wr.heap.size wr m')) ra.2.1
          have cb := fun m' => conv_ints (P := Try.prog) (dst := 9) Try.underlying33 Try.underlying5 Try.underlying9 (c := pb.c) (rb.1.next (below_drewN wr.heap.size wr m')) rb.2.1
          have cc := fun m' => conv_ints (P := Try.prog) (dst := 9) Try.underlying33 Try.underlying5 Try.underlying9 (c := pc.c) (rc.1.next (below_drewN wr.heap.size wr m')) rc.2.1
          simp only [hzc] at cc
          injection hAa with hAa
          injection hAa with hA1 hA2 _
          subst hA1 hA2 hAb hAc
          have HB := Lib.hid hB
          have q8 : (j : Int) < (k : Int) := by omega
          obtain ⟨S, hS⟩ : ∃ S, S = strOfNums pa.zs := ⟨_, rfl⟩
          simp only [← hS] at ca cc
          clear h3 h5 HL3 QA QB QC XA XB XC ra rb rc qa qb qc
          by_cases hji : j = i
          · subst hji
            have q9 : ((j : Int) == (j : Int)) = true := by simp
            go_upto_region 16 with fail
            go_quiet (fail)
            go_wp2_with fail
            go_roundw
            case rel => exact ⟨⟨j + 1, by omega, by go_num⟩, HB.out.trans (below_drewN W0.heap.size wr _)⟩
            case measure => simp [intOf]; omega
          · have q9 : ((j : Int) != (i : Int)) = true := by simp; omega
            simp only [hzb hji, ← hS] at cb
            have HJI := Lib.hid hji
            clear hji hzb hS
            go_upto_region 16 with fail
            go_quiet (fail)
            go_wp2_with fail
            go_roundw
            case rel => exact ⟨⟨j + 1, by omega, by go_num⟩, HB.out.trans (below_drewN W0.heap.size wr _)⟩
            case measure => simp [intOf]; omega
        · obtain rfl : j = k := by omega
          have xa := (XA.out.next hB).cell 0
          have xa1 := (XA.out.next hB).cell 1
          have xa2 := (XA.out.next hB).cell 2
          simp only [List.getElem?_toArray, List.getElem?_cons_zero, List.getElem?_cons_succ] at xa xa1 xa2
          have kl := Lose_ok 0 j i i p (some ⟨b, off, none⟩) j c1 L wr (QA.out.next hB) (by omega) HP.out (HSER.out i p HP.out) (fun t q ht hq => HSER.out.first t q ht hq)
          unfold LosePost at kl
          have qj : (((j - 1 : Nat) : Int) == (j : Int) - 1) = true := by simp; omega
          have KLO := Lib.hid kl
          have HB := Lib.hid hB
          clear kl hB
          go_wp2_with (first
            | go_big_skip
            | (go_at_call 12; (with_reducible refine KLO.out.mono ?_); rintro e w8 ⟨A8, c8, L8, rfl, hq8, hk8, hB8⟩; have HB8 := Lib.hid hB8; clear hq8 hk8 hB8))
          go_ret
          have t1 := TT.out.trans (HB.out.mono TT.out.size)
          have t2 := t1.trans (HB8.out.mono t1.size)
          exact ⟨rfl, t2.alloc t2.size _⟩

set_option maxRecDepth 100000 in
theorem walk {H : Type} {enc : TypeId × Value → H} {d0 d1 d2 d3 : DataW H} {p0 p1 p2 p3 : List MemPlace} (v0 v1 v2 v3 : Value) (W : World) (base : Nat)
    (h0 : Value.okWide Try.prog W .any base 22 v0) (k0 : DataW.Trod enc Try.prog W 0 (fun _ => true) true 22 v0 d0 p0)
    (h1 : Value.okWide Try.prog W .any base 3 v1) (k1 : DataW.Trod enc Try.prog W 0 (fun _ => true) true 3 v1 d1 p1)
    (h2 : Value.okWide Try.prog W .any base 3 v2) (k2 : DataW.Trod enc Try.prog W 0 (fun _ => true) true 3 v2 d2 p2)
    (h3 : Value.okWide Try.prog W .any base 3 v3) (k3 : DataW.Trod enc Try.prog W 0 (fun _ => true) true 3 v3 d3 p3)
    (s0 : ∀ x ∈ d0.weights Try.prog 22, x ≤ reachBytes) (s1 : ∀ x ∈ d1.weights Try.prog 3, x ≤ reachBytes) (s2 : ∀ x ∈ d2.weights Try.prog 3, x ≤ reachBytes) (s3 : ∀ x ∈ d3.weights Try.prog 3, x ≤ reachBytes) :
    Calls Try.prog 5 #[v0, v1, v2, v3] W fun e w' => e = .returned (.bool true) ∧ Below W.heap.size W w' := by
  obtain ⟨A, n, c, rfl, hnc, hc, _, _⟩ := ok_slice Try.underlying22 h0
  obtain ⟨x1, rfl, _⟩ := ok_int Try.underlying3 h1
  obtain ⟨x2, rfl, _⟩ := ok_int Try.underlying3 h2
  obtain ⟨x3, rfl, _⟩ := ok_int Try.underlying3 h3
  obtain ⟨D, hD⟩ := loads_in k0 s0
  exact walk1 A n c D x1 x2 x3 W hD (by omega)
end Go.Proofs.Ytdlcjieaoalhoaa.lawBusTwice
