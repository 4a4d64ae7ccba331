/- Merged: NodeDig. -/
import Derived.Test.YtofeoeknmlkjgaaZ03
import Derived.Test.YtofeoeknmlkjgaaZ30
import Derived.Test.YtofeoeknmlkjgaaZ31
set_option linter.unusedVariables false
set_option linter.unusedSimpArgs false
section
/- node.digest. -/
set_option linter.unusedVariables false
namespace Go.Proofs.Ytofeoeknmlkjgaa.Nk
open Go.RowKit Go.Proofs.Ytofeoeknmlkjgaa Mb Fi Sm Crc Wr

theorem infoByte4 : (Try.prog.info? 5).map (fun i => (i.zero, i.size, i.bytes)) = some (some (.int .u8 0), 1, 1) := by kernel_rfl
def dgF (n : Nd) : Int := ((sumFrom 0#32 (valsB (packL n))).toNat : Nat)
def DRel (w : World) (n : Nd) (A : Option Addr) (ca : Nat) (lv iv : Value) (wr : World) : Prop :=
  ∃ (i : Nat) (v : Value), iv = .int .i64 i ∧ i ≤ 24 ∧ lv = v ∧ wr.ownsRow w.heap.size 5 1 v (8 * i) ((valsB ((packL n).take i)).map (Value.int .u8)) ∧ wr.ownsRow w.heap.size 3 1 (.slice A 24 ca) 24 ((packL n).map (Value.int .i64)) ∧ Below w.heap.size w wr
def DIn (w : World) (n : Nd) (A : Option Addr) (ca : Nat) (i : Nat) (z : Int) (lv jv : Value) (wr : World) : Prop :=
  ∃ (k : Nat) (v : Value), jv = .int .i64 (7 - (k : Int)) ∧ k ≤ 8 ∧ lv = v ∧ wr.ownsRow w.heap.size 5 1 v (8 * i + k) ((valsB ((packL n).take i) ++ beTo z 8 k).map (Value.int .u8)) ∧ wr.ownsRow w.heap.size 3 1 (.slice A 24 ca) 24 ((packL n).map (Value.int .i64)) ∧ Below w.heap.size w wr
theorem valsB_snoc (l : List Int) (z : Int) : valsB (l ++ [z]) = valsB l ++ beB z 8 := by unfold valsB; rw [List.flatMap_append]; simp

theorem own_n8 {w : World} {b i : Nat} {e : TypeId} {v : Value} {xs : List Value} (h : w.ownsRow b e 1 v (8 * i + 8) xs) : w.ownsRow b e 1 v (8 * (i + 1)) xs := by rw [Nat.mul_add]; exact h
theorem beB_byts (v : Int) (n : Nat) : ∀ k z, z ∈ beTo v n k → 0 ≤ z ∧ z ≤ 255
  | 0, z, h => by cases h
  | k + 1, z, h => by
    rcases List.mem_append.1 h with h | h
    · exact beB_byts v n k z h
    · rw [List.mem_singleton] at h
      subst h
      omega
theorem valsB_byts (l : List Int) : ∀ z ∈ valsB l, 0 ≤ z ∧ z ≤ 255 := by
  intro z hz
  obtain ⟨v, _, hv⟩ := List.mem_flatMap.1 hz
  exact beB_byts v 8 8 z hv
theorem own_own_ne4 {w : World} {e e' : TypeId} {b b' sz sz' m m' : Nat} {u u' : Value} {xs xs' : List Value} (h : w.ownsRow b e sz u m xs) (h' : w.ownsRow b' e' sz' u' m' xs') (hne : e ≠ e') : u.ownBlock = none ∨ u.ownBlock ≠ u'.ownBlock := by
  rcases h.2 with ⟨rfl, _⟩ | ⟨g, cap, cur, rfl, _, hh, _⟩
  · exact .inl rfl
  · refine .inr fun he => ?_
    rcases h'.2 with ⟨rfl, _⟩ | ⟨g', cap', cur', rfl, _, hh', _⟩
    · cases he
    · have : g = g' := by simpa [Value.ownBlock] using he
      subst this
      rw [hh] at hh'
      injection hh' with hh'
      injection hh' with _ h2 _
      exact hne h2
theorem DIn.more {w wr w3 : World} {n : Nd} {A : Option Addr} {ca i k : Nat} {z : Int} {Av : Option Addr} {cv : Nat} {v3 : Value} {o : Obj} (hk : k < 8)
    (hO : wr.ownsRow w.heap.size 5 1 (.slice Av (8 * i + k) cv) (8 * i + k) ((valsB ((packL n).take i) ++ beTo z 8 k).map (Value.int .u8))) (hI : wr.ownsRow w.heap.size 3 1 (.slice A 24 ca) 24 ((packL n).map (Value.int .i64))) (hB : Below w.heap.size w wr)
    (h3 : w3.ownsRow w.heap.size 5 1 v3 (8 * i + k + 1) ((valsB ((packL n).take i) ++ beTo z 8 k).map (Value.int .u8) ++ [z / 2 ^ (8 * (7 - k)) % 256].map (Value.int .u8))) (hg : (wr.alloc o).grownBy w3 (Value.slice Av (8 * i + k) cv).ownBlock) : DIn w n A ca i z v3 (.int .i64 (7 - (k : Int) - 1)) w3 := by
  have hb2 : Below wr.heap.size wr (wr.alloc o) := (Below.refl wr.heap.size wr).alloc (Nat.le_refl _) o
  have hs2 := hB.size
  have h2 := own_below hI hb2 (fun x hx => (hI.lt x hx).2)
  have h4 := own_below hO hb2 (fun x hx => (hO.lt x hx).2)
  refine ⟨k + 1, v3, by congr 1; omega, hk, rfl, ?_, h2.kept hg (own_own_ne4 h2 h4 (by decide)), (hB.alloc hs2 o).grown hg (by simp; omega) (fun j hj => (hO.lt j hj).1)⟩
  rw [beTo, ← List.append_assoc, List.map_append]
  exact h3
set_option maxRecDepth 100000 in
set_option maxHeartbeats 4000000 in
theorem digest_any (n : Nd) (va : Value) (hin : ∀ z ∈ packL n, Wr.In64 z) (w : World) :
    Calls Try.prog 43 #[.agg (NA n va)] w fun e w' => e = .returned (.int .i64 (dgF n)) ∧ Below w.heap.size w w' := by
  obtain ⟨i0, hi, hz0, hz1, hz2⟩ := info_parts infoByte4
  have hN0 : NB (w.alloc (.cells (NA n va) 45)) w.heap.size n va := Blk.new _ _ _
  have HN0 := Lib.hid hN0
  have HIN := Lib.hid hin
  have KP := Lib.hid (pack_any n va (w.alloc (.cells (NA n va) 45)))
  unfold PackPost at KP
  clear hN0 hin
  go_enter Try.func43, Try.ntmps43
  go_wp2_with (first
    | (refine wpList_load_at 45 (.tmp 1) rfl rfl w.heap.size rfl _ (NA n va) _ HN0.out Try.underlying45 rfl (by rw [NA_size]; exact infoNode) ?_)
    | (go_at_call 46; (with_reducible refine KP.out.mono ?_); rintro e w1 ⟨A, c, rfl, hO1, hB1⟩; have HI1 := Lib.hid (own_le hO1 (show w.heap.size ≤ _ by simp)); have HB1 := Lib.hid (((Below.refl w.heap.size w).alloc (Nat.le_refl _) (.cells (NA n va) 45)).trans (hB1.mono (by simp))); clear hO1 hB1))
  clear HN0 KP
  go_loopw [3, 10] (fun lv iv wr => DRel w n A c lv iv wr) (fun _ iv _ => 24 - (intOf iv).toNat)
  case atStart => exact ⟨0, _, rfl, by omega, rfl, World.ownsRow_nil _ _ _ _, HI1.out, HB1.out⟩
  case round =>
    clear HI1 HB1
    obtain ⟨i, v, rfl, hi3, hv, hO, hI, hB⟩ := hrel
    have hv2 := hv.symm
    clear hv
    subst hv2
    obtain ⟨Av, cv, rfl⟩ := own_shape hO
    by_cases hi' : i < 24
    · obtain ⟨b, off, rfl, hlt, hc⟩ := (Bs_ints_own hI).2 (by omega)
      have c0 := hc i hi'
      have q0 : (i : Int) < 24 := by omega
      have qq : (0 : Int) ≤ (i : Int) := by omega
      have hpl := packL_len n
      have hz : Wr.In64 ((packL n).getD i 0) := by
        simp only [List.getD, List.getElem?_eq_getElem (show i < (packL n).length by omega)]
        exact HIN.out _ (List.getElem_mem _)
      have hsn : (packL n).take (i + 1) = (packL n).take i ++ [(packL n).getD i 0] := by
        rw [List.take_add_one]
        simp [List.getD, List.getElem?_eq_getElem (show i < (packL n).length by omega)]
      have HSN := Lib.hid hsn
      have HO := Lib.hid hO
      have HI := Lib.hid hI
      have HB := Lib.hid hB
      generalize (packL n).getD i 0 = z at *
      unfold Wr.In64 at hz
      clear hO hI hB hsn hc hpl
      obtain ⟨wo, rfl⟩ : ∃ wo : World, wo = wr := ⟨_, rfl⟩
      go_wp2_with fail
      go_loopw [3, 6] (fun lv jv wr => DIn w n (some ⟨b, off, none⟩) c i z lv jv wr) (fun _ jv _ => (intOf jv + 1).toNat)
      case atStart => exact ⟨0, _, by simp, by omega, rfl, by simpa [beTo] using HO.out, HI.out, HB.out⟩
      case round =>
        obtain ⟨k, v, rfl, hk, hv, hO, hI, hB⟩ := hrel
        have hv2 := hv.symm
        clear hv
        subst hv2
        obtain ⟨Av, cv, rfl⟩ := own_shape hO
        clear HO HI HB
        have HO := Lib.hid hO
        have HI := Lib.hid hI
        have HB := Lib.hid hB
        have hwr := hB.size
        clear hO hI hB
        by_cases hk' : k < 8
        · have HO2 := fun o1 => Lib.hid (own_below HO.out ((Below.refl wr.heap.size wr).alloc (Nat.le_refl _) o1) (fun x hx => (HO.out.lt x hx).2))
          go_wp2_with (first
            | (at_builtin; go_loud (refine wpList_append_ints rfl _ _ 78 rfl w.heap.size 5 i0 (.int .u8 0) .u8 1 Try.underlying78 hi hz0 hz1 hz2 rfl (.slice Av (8 * i + k) cv) _ _ rfl (Hid.out (HO2 _)) (some ⟨wr.heap.size, 0, none⟩) 1 1 [z / 2 ^ (8 * (7 - k)) % 256] rfl (fun e => by cases e) (ints_new _ _ _ _) (by unfold maxLen; omega) (by omega) (by simp; omega) ?_); intro v3 w3 hown3 hg3))
          go_roundw
          case rel => exact DIn.more hk' HO.out HI.out HB.out hown3 hg3
          case measure => simp [intOf]; omega
        · obtain rfl : k = 8 := by omega
          go_wp2_with fail
          go_roundw
          case rel => exact ⟨i + 1, _, by go_num, by omega, rfl, by rw [HSN.out, valsB_snoc]; exact own_n8 HO.out, HI.out, HB.out⟩
          case measure => simp [intOf]; omega
    · obtain rfl : i = 24 := by omega
      have hpl := packL_len n
      rw [List.take_of_length_le (by omega)] at hO
      have hIb := Bs_ints_own (c := cv) (n := 8 * 24) hO
      have K := Lib.hid (sum_any Av (8 * 24) cv (valsB (packL n)) wr hIb (valsB_byts _) (by omega))
      have HB := Lib.hid hB
      clear hO hI hB hIb hpl
      go_wp2_with (first | (go_at_call 59; (with_reducible refine K.out.mono ?_); rintro e w2 ⟨rfl, hb2⟩))
      go_ret
      exact ⟨rfl, HB.out.trans (hb2.mono HB.out.size)⟩
end Go.Proofs.Ytofeoeknmlkjgaa.Nk
end
