/- Merged: Bytes Seal Unseal SealPlain WirePlain WirePut WireEnc. -/
import Derived.IntWalk
import Derived.Lib.SlBytesConst
import Derived.Test.YtofeoeknmlkjgaaProg
import Derived.Test.YtofeoeknmlkjgaaZ02
import Derived.Test.YtofeoeknmlkjgaaZ03
import Derived.Test.YtofeoeknmlkjgaaZ11
set_option linter.unusedVariables false
set_option linter.unusedSimpArgs false
section
/- The contracts of the small helpers on bytes: bytes, sums. -/
set_option linter.unusedVariables false
namespace Go.Proofs.Ytofeoeknmlkjgaa
open Go.RowKit Crc

theorem infoByte : (Try.prog.info? 5).map (fun i => (i.zero, i.size, i.bytes)) = some (some (.int .u8 0), 1, 1) := by kernel_rfl

def NewBytes (w w' : World) (A : Option Addr) (n c : Nat) (zs : List Int) : Prop :=
  w'.ownsRow w.heap.size 5 1 (.slice A n c) n (zs.map (Value.int .u8)) ∧ Below w.heap.size w w'

end Go.Proofs.Ytofeoeknmlkjgaa
end
section
/- The contracts of sum.Seal and sum.Open. -/
set_option linter.unusedVariables false
namespace Go.Proofs.Ytofeoeknmlkjgaa
open Go.RowKit Crc

def leTo (s k : Nat) : List Int := (List.range k).map fun j => ((s / 256 ^ j % 256 : Nat) : Int)
theorem leTo_succ (s k : Nat) : leTo s (k + 1) = leTo s k ++ [((s / 256 ^ k % 256 : Nat) : Int)] := by simp [leTo, List.range_succ]
theorem leTo_len (s k : Nat) : (leTo s k).length = k := by simp [leTo]
theorem leTo_in (s k : Nat) : ∀ z ∈ leTo s k, 0 ≤ z ∧ z ≤ 255 := by
  intro z hz
  obtain ⟨j, _, rfl⟩ := List.mem_map.1 hz
  omega

def sealed (zs : List Int) : List Int := zs ++ leTo (sumFrom 0#32 zs).toNat 4

set_option maxRecDepth 100000 in
set_option maxHeartbeats 1000000 in
theorem seal_any (A : Option Addr) (n c : Nat) (zs : List Int) (w : World) (h : Ints w .u8 A n zs) (hA : A = none → n = 0 ∧ c = 0) (hn : n ≤ 140737488351232) (hz : ∀ z ∈ zs, 0 ≤ z ∧ z ≤ 255) :
    Calls Try.prog 97 #[.slice A n c] w fun e w' => ∃ A' c', e = .returned (.slice A' (n + 4) c') ∧ NewBytes w w' A' (n + 4) c' (sealed zs) := by
  obtain ⟨i0, hi, hz0, hz1, hz2⟩ := info_parts infoByte
  have K := fun W (h' : Ints W .u8 A n zs) => Lib.hid (sum_any A n c zs W h' hz (by omega))
  have H := Lib.hid h
  have HA := Lib.hid hA
  have HZ := Lib.hid hz
  unfold sealed
  have hlt := (sumFrom 0#32 zs).isLt
  generalize (sumFrom 0#32 zs).toNat = s0 at *
  clear h hA hz
  go_enter Try.func97, Try.ntmps97
  go_wp2_with fail
  refine ((K _ H.out).out).mono ?_
  rintro e w1 ⟨rfl, hB1⟩
  have H1 := Lib.hid (H.out.next hB1)
  have hs1 := hB1.size
  go_wp2_with (first
    | (at_make; refine wpList_make_own _ rfl _ _ 78 rfl w.heap.size 5 i0 (.int .u8 0) 1 Try.underlying78 hi hz0 hz1 .i64 .i64 _ (n + 4) rfl rfl (by omega) (by rw [hz2]; omega) (by unfold maxLen; omega) (by omega) ?_; intro w2 hown2 hg2)
    | (at_builtin; refine wpList_append_ints rfl (.tmp 11) (.tmp 12) 78 rfl w.heap.size 5 i0 (.int .u8 0) .u8 1 Try.underlying78 hi hz0 hz1 hz2 rfl _ 0 [] rfl hown2 A n c zs rfl HA.out (H1.out.next ((Below.refl _ _).grown hg2 (Nat.le_refl _) (fun j hj => by cases hj))) (by unfold maxLen; omega) (by omega) (by have := hown2.lt _ rfl; omega) ?_; intro v3 w3 hown3 hg3))
  simp only [Nat.zero_add, List.nil_append] at hown3
  have hb2 := hown2.lt _ rfl
  have B3 : Below w.heap.size w w3 := (hB1.grown hg2 (by omega) (fun j hj => by cases hj)).grown hg3 (by have := hg2.size; omega) (fun j hj => (hown2.lt j hj).1)
  clear hown2 hg2 hg3 hb2
  go_loopw [4, 3, 14] (fun v s i wr => ∃ k : Nat, k ≤ 4 ∧ i = .int .i64 (k : Nat) ∧ s = .int .i64 ((s0 / 256 ^ k : Nat) : Int) ∧ wr.ownsRow w.heap.size 5 1 v (n + k) ((zs ++ leTo s0 k).map (Value.int .u8)) ∧ Below w.heap.size w wr) (fun _ _ i _ => 4 - (intOf i).toNat)
  case atStart => exact ⟨0, by omega, rfl, by simp, by simpa [leTo] using hown3, B3⟩
  case round =>
    obtain ⟨k, hk, rfl, rfl, hown, hB⟩ := hrel
    have hsz := hB.size
    have hqe : s0 / 256 ^ (k + 1) = s0 / 256 ^ k / 256 := by rw [Nat.pow_succ, Nat.div_div_eq_div_mul]
    have hle : s0 / 256 ^ k ≤ s0 := Nat.div_le_self _ _
    have hl1 := leTo_succ s0 k
    have HQ := Lib.hid hqe
    have HL := Lib.hid hl1
    clear hqe hl1
    by_cases hlt : k < 4
    · generalize hq : s0 / 256 ^ k = q at *
      have hq2 : q / 256 ≤ q := Nat.div_le_self _ _
      clear hq
      go_wp2_with (first
        | (at_builtin; refine wpList_append_own _ rfl (.tmp 16) (.tmp 19) 78 rfl w.heap.size 5 i0 (.int .u8 0) 1 1 Try.underlying78 hi hz0 hz1 hz2 rfl (by decide) _ _ _ rfl (hown.alloc _) ⟨wr.heap.size, 0, none⟩ 1 1 [.int .u8 ((q % 256 : Nat) : Int)] rfl rfl (cell_one_new _ _ _) (by intro u hu; simp at hu; subst hu; rfl) (by unfold maxLen; omega) (by omega) (by simp; omega) ?_; intro v1 w4 hown1 hgrow1 hnil1))
      go_roundw
      case rel => exact ⟨k + 1, by omega, by go_num, by rw [HQ.out]; go_num, by rw [HL.out]; simpa [← Nat.add_assoc] using hown1, (hB.alloc (by omega) _).grown hgrow1 (by simp; omega) (fun j hj => (hown.lt j hj).1)⟩
      case measure => simp [intOf]; omega
    · obtain rfl : k = 4 := by omega
      clear HQ HL
      go_wp2_with fail
      obtain ⟨A1, c1, rfl⟩ := own_shape hown
      go_ret
      exact ⟨A1, c1, rfl, hown, hB⟩
end Go.Proofs.Ytofeoeknmlkjgaa
end
section
/- The contract of sum.Open. -/
set_option linter.unusedVariables false
namespace Go.Proofs.Ytofeoeknmlkjgaa
open Go.RowKit Crc

def tailTo (zs : List Int) (m : Nat) : Nat → Nat
  | 0 => 0
  | k + 1 => tailTo zs m k * 256 + (zs.getD (m + (3 - k)) 0).toNat
theorem tailTo_lt (zs : List Int) (m k : Nat) (hz : ∀ z ∈ zs, 0 ≤ z ∧ z ≤ 255) : tailTo zs m k < 256 ^ k := by
  induction k with
  | zero => simp [tailTo]
  | succ k ih =>
    have h : (zs.getD (m + (3 - k)) 0).toNat < 256 := by
      by_cases hl : m + (3 - k) < zs.length
      · have := hz _ (List.getElem_mem hl)
        simp only [List.getD, List.getElem?_eq_getElem hl, Option.getD_some]
        omega
      · simp only [List.getD, List.getElem?_eq_none (Nat.le_of_not_lt hl), Option.getD_none]
        decide
    rw [Nat.pow_succ]
    unfold tailTo
    omega

theorem or_byte (a : Nat) (b : Int) (ha : a < 4294967296) (h0 : 0 ≤ b) (h1 : b ≤ 255) : bits .or .i64 ((a : Int) * 256) b = ((a * 256 + b.toNat : Nat) : Int) := by
  obtain ⟨b, rfl⟩ := Int.eq_ofNat_of_zero_le h0
  have key : ∀ x y, bits .or .i64 x y = IntKind.i64.wrap (((BitVec.ofInt 64 x ||| BitVec.ofInt 64 y).toNat : Nat) : Int) := fun _ _ => rfl
  have e1 : (BitVec.ofInt 64 ((a : Int) * 256)).toNat = a <<< 8 := by
    rw [BitVec.toNat_ofInt, Nat.shiftLeft_eq]; omega
  have e2 : (BitVec.ofInt 64 (b : Int)).toNat = b := by
    rw [BitVec.toNat_ofInt]; omega
  rw [key, BitVec.toNat_or, e1, e2, ← Nat.shiftLeft_add_eq_or_of_lt (by omega), Nat.shiftLeft_eq]
  rw [IntWalk.i64_in _ (by omega)]
  omega

def Opened (zs : List Int) (w w' : World) (e : Ending) : Prop :=
  (4 ≤ zs.length ∧ tailTo zs (zs.length - 4) 4 = (sumFrom 0#32 (zs.take (zs.length - 4))).toNat ∧ ∃ A' c', e = .returned (.tuple #[.slice A' (zs.length - 4) c', .bool true]) ∧ NewBytes w w' A' (zs.length - 4) c' (zs.take (zs.length - 4))) ∨
  ((4 ≤ zs.length → tailTo zs (zs.length - 4) 4 ≠ (sumFrom 0#32 (zs.take (zs.length - 4))).toNat) ∧ e = .returned (.tuple #[.slice none 0 0, .bool false]) ∧ Below w.heap.size w w')

set_option maxRecDepth 100000 in
set_option maxHeartbeats 1000000 in
theorem open_any (A : Option Addr) (n c : Nat) (zs : List Int) (w : World) (h : Ints w .u8 A n zs) (hA : A = none → n = 0 ∧ c = 0) (hnc : n ≤ c) (hn : n ≤ 140737488355328) (hz : ∀ z ∈ zs, 0 ≤ z ∧ z ≤ 255) :
    Calls Try.prog 109 #[.slice A n c] w fun e w' => Opened zs w w' e := by
  obtain ⟨i0, hi, hz0, hz1, hz2⟩ := info_parts infoByte
  obtain rfl : zs.length = n := h.1
  by_cases h4 : 4 ≤ zs.length
  · obtain ⟨m, hm⟩ : ∃ m, zs.length = m + 4 := ⟨zs.length - 4, by omega⟩
    unfold Opened
    obtain ⟨r1, s1⟩ := cut_to (P := Try.prog) (kd := .i64) Try.underlying78 hi h (show m ≤ zs.length by omega) hnc
    have K := fun W (h' : Ints W .u8 A m (zs.take m)) => Lib.hid (sum_any A m c (zs.take m) W h' (fun z h2 => hz z (List.mem_of_mem_take h2)) (by omega))
    have ht := fun k => tailTo_lt zs m k hz
    obtain ⟨b, off, rfl, hlt, hcell⟩ := h.2 (by omega)
    have hx : ∀ k, k < 4 → w.cell? ⟨b, off + (m + (3 - k)), none⟩ = some (.int .u8 (zs.getD (m + (3 - k)) 0)) ∧ 0 ≤ zs.getD (m + (3 - k)) 0 ∧ zs.getD (m + (3 - k)) 0 ≤ 255 := by
      intro k hk
      refine ⟨hcell _ (by omega), ?_⟩
      simp only [List.getD, List.getElem?_eq_getElem (show m + (3 - k) < zs.length by omega)]
      exact hz _ (List.getElem_mem _)
    have H := Lib.hid h
    have S1 := Lib.hid s1
    have HX := Lib.hid hx
    have HT := Lib.hid ht
    have HE := Lib.hid (show ∀ k, tailTo zs m (k + 1) = tailTo zs m k * 256 + (zs.getD (m + (3 - k)) 0).toNat from fun k => rfl)
    have h00 : tailTo zs m 0 = 0 := rfl
    have hm4 : zs.length - 4 = m := by omega
    rw [hm4]
    have hw4 : ((zs.length : Int) - 4) = (m : Int) := by omega
    have HM := Lib.hid hm
    generalize zs.length = n at *
    generalize (sumFrom 0#32 (zs.take m)).toNat = S at *
    clear h s1 hx ht hcell hz hA hm
    have HM := HM.out
    subst HM
    generalize hT : tailTo zs m = T at *
    clear hT
    go_enter Try.func109, Try.ntmps109
    go_wp2_with fail
    go_loop [5, 6] (fun s i => ∃ k : Nat, k ≤ 4 ∧ i = .int .i64 (3 - (k : Int)) ∧ s = .int .i64 ((T k : Nat) : Int)) (fun _ i => (intOf i + 1).toNat)
    case atStart => exact ⟨0, by omega, rfl, by rw [h00]; rfl⟩
    case round =>
      obtain ⟨k, hk, rfl, rfl⟩ := hrel
      by_cases hk4 : k < 4
      · obtain ⟨hc, hy0, hy1⟩ := HX.out k hk4
        have hts := HE.out k
        have htk := HT.out k
        have hp : 256 ^ k ≤ 16777216 := Nat.le_trans (Nat.pow_le_pow_right (by decide) (show k ≤ 3 by omega)) (by decide)
        have hlt2 : T k < 4294967296 := by omega
        generalize zs.getD (m + (3 - k)) 0 = y at *
        have hob := or_byte (T k) y hlt2 hy0 hy1
        rw [← hts] at hob
        generalize hT1 : T (k + 1) = t1 at *
        generalize T k = t0 at *
        clear hts htk hp
        go_wp2
        go_round
        case rel => exact ⟨k + 1, by omega, by go_num, by go_num⟩
        case measure => simp [intOf]; omega
      · obtain rfl : k = 4 := by omega
        simp only [Int.cast_ofNat_Int, Int.reduceSub]
        have R1 := Lib.hid r1
        generalize hT4 : T 4 = t4 at *
        have HT4 := Lib.hid hT4
        clear hT4
        by_cases hs : t4 = S
        · subst hs
          have hb : (((t4 : Nat) : Int) != ((t4 : Nat) : Int)) = false := by simp
          go_wp2_with fail
          refine ((K _ (S1.out.next (Below.refl _ _))).out).mono ?_
          rintro e w1 ⟨rfl, hB1⟩
          have H1 := Lib.hid (S1.out.next hB1)
          go_wp2_with (at_builtin; refine wpList_append_ints rfl (.tmp 32) (.tmp 35) 78 rfl w.heap.size 5 i0 (.int .u8 0) .u8 1 Try.underlying78 hi hz0 hz1 hz2 rfl _ 0 [] rfl (World.ownsRow_made w1 #[] 0 (by have := hB1.size; omega) (by unfold maxLen; omega) rfl) (some ⟨b, off, none⟩) m c (zs.take m) rfl (by simp) (H1.out.alloc _) (by unfold maxLen; omega) (by omega) (by have := hB1.size; simp; omega) ?_; intro v2 w2 hown2 hg2)
          simp only [Nat.zero_add, List.nil_append] at hown2
          obtain ⟨A1, c1, rfl⟩ := own_shape hown2
          go_ret2
          exact .inl ⟨by omega, HT4.out, A1, c1, rfl, hown2, (hB1.alloc hB1.size _).grown hg2 (by have := hB1.size; simp; omega) (fun j hj => by cases hj; exact hB1.size)⟩
        · have hb : (((t4 : Nat) : Int) != ((S : Nat) : Int)) = true := by rw [bne_iff_ne]; omega
          go_wp2_with fail
          refine ((K _ (S1.out.next (Below.refl _ _))).out).mono ?_
          rintro e w1 ⟨rfl, hB1⟩
          go_wp2_with fail
          go_ret2
          exact .inr ⟨fun _ => by rw [HT4.out]; exact hs, rfl, hB1⟩
  · unfold Opened
    have hlt : ((zs.length : Int) - 4) < 0 := by omega
    generalize zs.length = n at *
    clear h hA hz
    go_enter Try.func109, Try.ntmps109
    go_wp2_with fail
    go_ret2
    exact .inr ⟨fun h => absurd h h4, rfl, Below.refl _ _⟩
end Go.Proofs.Ytofeoeknmlkjgaa
end
section
/- The plain laws of sealed bytes. -/
set_option linter.unusedVariables false
namespace Go.Proofs.Ytofeoeknmlkjgaa.Crc

def low (d k : Nat) : BitVec 32 := BitVec.ofNat 32 (d % 2 ^ (8 * k))
theorem low_succ (d k : Nat) (hk : k < 4) : low d (k + 1) = low d k ^^^ (BitVec.ofNat 32 (d / 256 ^ k % 256) <<< (8 * k)) := by
  have e : 256 ^ k = 2 ^ (8 * k) := by rw [Nat.pow_mul]
  unfold low
  rw [e]
  apply BitVec.eq_of_getLsbD_eq
  intro i hi
  rw [BitVec.getLsbD_xor, BitVec.getLsbD_shiftLeft, BitVec.getLsbD_ofNat, BitVec.getLsbD_ofNat, BitVec.getLsbD_ofNat, Nat.testBit_mod_two_pow, Nat.testBit_mod_two_pow, show 256 = 2 ^ 8 from rfl, Nat.testBit_mod_two_pow, Nat.testBit_div_two_pow]
  by_cases h1 : i < 8 * k
  · simp [hi, h1, show i < 8 * (k + 1) by omega]
  · by_cases h2 : i < 8 * (k + 1)
    · simp [hi, h1, h2, show i - 8 * k < 8 by omega, show i - 8 * k < 32 by omega, show i - 8 * k + 8 * k = i by omega]
    · simp [hi, h1, h2, show ¬ i - 8 * k < 8 by omega]
theorem go_le (c : BitVec 32) (d k : Nat) (hk : k ≤ 4) : go c (leTo d k) = it (8 * k) (c ^^^ low d k) := by
  induction k with
  | zero => simp [leTo, go, it, low, Nat.mod_one]
  | succ k ih =>
    rw [leTo_succ, go_append, ih (by omega), low_succ d k (by omega)]
    have hx : d / 256 ^ k % 256 < 256 := Nat.mod_lt _ (by decide)
    generalize d / 256 ^ k % 256 = x at hx
    have e1 : BitVec.ofInt 32 ((x : Nat) : Int) = BitVec.ofNat 32 x := by simp
    have e2 : it (8 * k) (BitVec.ofNat 32 x <<< (8 * k)) = BitVec.ofNat 32 x := by
      refine it_shl _ _ (fun i h1 h2 => ?_) (by omega)
      rw [BitVec.getLsbD_ofNat, Nat.testBit_lt_two_pow (Nat.lt_of_lt_of_le (show x < 2 ^ 8 by omega) (Nat.pow_le_pow_right (by decide) (by omega)))]
      simp
    rw [go_cons, go_nil]
    unfold by1
    rw [e1, show 8 * (k + 1) = 8 * k + 8 by omega, it_add (8 * k) 8, ← BitVec.xor_assoc, it_xor (8 * k) (c ^^^ low d k), e2]

theorem go_sealed (zs : List Int) : go (~~~ 0#32) (sealed zs) = it 32 (BitVec.allOnes 32) := by
  unfold sealed
  rw [go_append, go_le _ _ 4 (by decide)]
  congr 1
  have e : low (sumFrom 0#32 zs).toNat 4 = sumFrom 0#32 zs := by
    unfold low
    rw [Nat.mod_eq_of_lt (BitVec.isLt _)]
    simp
  rw [e]
  unfold sumFrom
  generalize go (~~~ 0#32) zs = q
  apply BitVec.eq_of_getLsbD_eq
  intro i hi
  rw [BitVec.getLsbD_xor, BitVec.getLsbD_not, BitVec.getLsbD_allOnes]
  cases q.getLsbD i <;> simp [hi]
theorem tail_le (zs : List Int) (s : Nat) (hs : s < 4294967296) : tailTo (zs ++ leTo s 4) zs.length 4 = s := by
  have hg : ∀ j, j < 4 → (zs ++ leTo s 4).getD (zs.length + j) 0 = ((s / 256 ^ j % 256 : Nat) : Int) := by
    intro j hj
    simp [List.getD, leTo, hj]
  simp only [tailTo, hg 3 (by decide), hg 2 (by decide), hg 1 (by decide), hg 0 (by decide), Nat.sub_zero, Nat.reduceSub, Int.toNat_natCast, Nat.sub_self]
  omega
theorem sealed_len (zs : List Int) : (sealed zs).length = zs.length + 4 := by simp [sealed, leTo_len]
theorem sealed_take (zs : List Int) : (sealed zs).take zs.length = zs := by simp [sealed]
theorem sealed_tail (zs : List Int) : tailTo (sealed zs) zs.length 4 = (sumFrom 0#32 zs).toNat := tail_le zs _ (BitVec.isLt _)
theorem sealed_in (zs : List Int) (hz : ∀ z ∈ zs, 0 ≤ z ∧ z ≤ 255) : ∀ z ∈ sealed zs, 0 ≤ z ∧ z ≤ 255 := by
  intro z h
  rcases List.mem_append.1 h with h | h
  · exact hz z h
  · exact leTo_in _ _ z h

theorem le_tail (zs : List Int) (m : Nat) (hl : zs.length = m + 4) (hz : ∀ z ∈ zs, 0 ≤ z ∧ z ≤ 255) : zs = zs.take m ++ leTo (tailTo zs m 4) 4 := by
  obtain ⟨a, b, c, d, hd⟩ : ∃ a b c d, zs.drop m = [a, b, c, d] := by
    have h4 : (zs.drop m).length = 4 := by simp [hl]
    match zs.drop m, h4 with
    | [a, b, c, d], _ => exact ⟨a, b, c, d, rfl⟩
  have hm : ∀ z ∈ [a, b, c, d], 0 ≤ z ∧ z ≤ 255 := fun z h => hz z (by rw [← hd] at h; exact List.mem_of_mem_drop h)
  have h1 := hm a (by simp)
  have h2 := hm b (by simp)
  have h3 := hm c (by simp)
  have h4 := hm d (by simp)
  have hg : ∀ j, zs.getD (m + j) 0 = [a, b, c, d].getD j 0 := by
    intro j
    rw [← hd]
    simp [List.getD, List.getElem?_drop]
  have ht : tailTo zs m 4 = ((d.toNat * 256 + c.toNat) * 256 + b.toNat) * 256 + a.toNat := by
    simp only [tailTo, hg]
    simp
  conv => lhs; rw [← List.take_append_drop m zs, hd]
  congr 1
  rw [ht]
  simp only [leTo, List.range_succ, List.range_zero, List.nil_append, List.cons_append, List.map_cons, List.map_nil, List.cons.injEq]
  refine ⟨by omega, by omega, by omega, by omega, trivial⟩

theorem turned (zs zs' : List Int) (N k : Nat) (h : Bst (sealed zs) zs' N k) (hk : 0 < k) (m : Nat) (hl : zs'.length = m + 4) : tailTo zs' m 4 ≠ (sumFrom 0#32 (zs'.take m)).toNat := by
  intro e
  have h1 := le_tail zs' m hl h.2.1
  rw [e] at h1
  have h2 := go_sealed (zs'.take m)
  have h3 := go_sealed zs
  unfold sealed at h2
  rw [← h1] at h2
  exact h.differs hk _ (h2.trans h3.symm)
end Go.Proofs.Ytofeoeknmlkjgaa.Crc
end
section
/- Messages as bytes, in plain Lean: what put and get reckon, what a message's bytes are, that no two messages have the same bytes. -/
set_option linter.unusedVariables false
namespace Go.Proofs.Ytofeoeknmlkjgaa.Wr
open Go.RowKit Go.Proofs.Ytofeoeknmlkjgaa Crc

def Byts (zs : List Int) : Prop := ∀ z ∈ zs, 0 ≤ z ∧ z ≤ 255
def In64 (z : Int) : Prop := -9223372036854775808 ≤ z ∧ z ≤ 9223372036854775807

def beTo (v : Int) (n : Nat) : Nat → List Int
  | 0 => []
  | k + 1 => beTo v n k ++ [v / 2 ^ (8 * (n - 1 - k)) % 256]
theorem two_pow (j : Nat) : (2 : Int) ^ (8 * j) = ((256 ^ j : Nat) : Int) := by
  rw [show (256 : Nat) = 2 ^ 8 from rfl, ← Nat.pow_mul, Int.natCast_pow]
  rfl
def beB (v : Int) (n : Nat) : List Int := beTo v n n
theorem beTo_len (v : Int) (n k : Nat) : (beTo v n k).length = k := by
  induction k with
  | zero => rfl
  | succ k ih => simp [beTo, ih]
theorem beTo_in (v : Int) (n k : Nat) : Byts (beTo v n k) := by
  induction k with
  | zero => intro z h; cases h
  | succ k ih =>
    intro z h
    rcases List.mem_append.1 h with h | h
    · exact ih z h
    · simp at h; omega
theorem beB_len (v : Int) (n : Nat) : (beB v n).length = n := beTo_len v n n
theorem beB_in (v : Int) (n : Nat) : Byts (beB v n) := beTo_in v n n

def nv (zs : List Int) : Int := zs.foldl (fun a c => a * 256 + c) 0
theorem nv_snoc (zs : List Int) (c : Int) : nv (zs ++ [c]) = nv zs * 256 + c := by simp [nv, List.foldl_append]
theorem mod_step (q M : Int) (hM : 0 < M) : (q / 256 % M) * 256 + q % 256 = q % (256 * M) := by
  rw [Int.emod_def (q / 256) M, Int.emod_def q (256 * M), Int.emod_def q 256, ← Int.ediv_ediv_of_nonneg (by decide : (0 : Int) ≤ 256)]
  generalize q / 256 / M = t
  rw [Int.sub_mul, Int.mul_assoc 256 M t, Int.mul_comm (M * t) 256]
  generalize M * t = u
  omega
theorem nv_beTo (v : Int) (n k : Nat) (hk : k ≤ n) : nv (beTo v n k) = v / ((256 ^ (n - k) : Nat) : Int) % ((256 ^ k : Nat) : Int) := by
  induction k with
  | zero => rw [show ((256 ^ 0 : Nat) : Int) = 1 from rfl, Int.emod_one]; rfl
  | succ k ih =>
    rw [beTo, nv_snoc, ih (by omega), two_pow]
    have e1 : n - k = (n - (k + 1)) + 1 := by omega
    have e2 : n - 1 - k = n - (k + 1) := by omega
    rw [e1, e2, Nat.pow_succ, Nat.pow_succ]
    have hq : 0 < 256 ^ k := Nat.pow_pos (by decide)
    generalize (256 ^ k : Nat) = q at *
    generalize (256 ^ (n - (k + 1)) : Nat) = p at *
    rw [Int.natCast_mul, Int.natCast_mul, ← Int.ediv_ediv_of_nonneg (Int.natCast_nonneg p), Int.mul_comm (q : Int)]
    exact mod_step _ _ (by omega)
theorem nv_beB (v : Int) (n : Nat) : nv (beB v n) = v % ((256 ^ n : Nat) : Int) := by
  unfold beB
  rw [nv_beTo v n n (Nat.le_refl _), Nat.sub_self]
  simp
theorem nv_bd (zs : List Int) (h : Byts zs) : 0 ≤ nv zs ∧ nv zs < ((256 ^ zs.length : Nat) : Int) := by
  obtain ⟨n, hn⟩ : ∃ n, zs.length = n := ⟨_, rfl⟩
  rw [hn]
  induction n generalizing zs with
  | zero => rw [List.eq_nil_of_length_eq_zero hn]; decide
  | succ n ih =>
    obtain ⟨zs, c, rfl⟩ : ∃ l a, zs = l ++ [a] := ⟨zs.dropLast, zs.getLast (by intro e; simp [e] at hn), (List.dropLast_concat_getLast _).symm⟩
    have hc := h c (by simp)
    have hz := ih zs (fun z hz => h z (by simp [hz])) (by simpa using hn)
    rw [nv_snoc, Nat.pow_succ]
    generalize (256 ^ n : Nat) = q at *
    omega
theorem nv_inj (n : Nat) : ∀ (xs ys : List Int), xs.length = n → ys.length = n → Byts xs → Byts ys → nv xs = nv ys → xs = ys := by
  induction n with
  | zero => intro xs ys h1 h2 _ _ _; rw [List.eq_nil_of_length_eq_zero h1, List.eq_nil_of_length_eq_zero h2]
  | succ n ih =>
    intro xs ys h1 h2 b1 b2 h
    obtain ⟨xs', a, rfl⟩ : ∃ l a, xs = l ++ [a] := ⟨xs.dropLast, xs.getLast (by intro e; simp [e] at h1), (List.dropLast_concat_getLast _).symm⟩
    obtain ⟨ys', b, rfl⟩ : ∃ l a, ys = l ++ [a] := ⟨ys.dropLast, ys.getLast (by intro e; simp [e] at h2), (List.dropLast_concat_getLast _).symm⟩
    rw [nv_snoc, nv_snoc] at h
    have ha := b1 a (by simp)
    have hb := b2 b (by simp)
    rw [ih xs' ys' (by simpa using h1) (by simpa using h2) (fun z hz => b1 z (by simp [hz])) (fun z hz => b2 z (by simp [hz])) (by omega), show a = b by omega]
theorem beB_nv (zs : List Int) (n : Nat) (hl : zs.length = n) (h : Byts zs) (v : Int) (hv : v % ((256 ^ n : Nat) : Int) = nv zs % ((256 ^ n : Nat) : Int)) : beB v n = zs := by
  refine nv_inj n _ _ (beB_len v n) hl (beB_in v n) h ?_
  have hb := nv_bd zs h
  rw [hl] at hb
  rw [nv_beB, hv, Int.emod_eq_of_lt hb.1 hb.2]

def gv (zs : List Int) : Int := IntKind.i64.wrap (nv zs)
theorem wrap_eq (x : Int) : IntKind.i64.wrap x = if x % 18446744073709551616 < 9223372036854775808 then x % 18446744073709551616 else x % 18446744073709551616 - 18446744073709551616 := by
  have e : (2 : Int) ^ 64 = 18446744073709551616 := by decide
  have e2 : (2 : Int) ^ (64 - 1) = 9223372036854775808 := by decide
  simp only [IntKind.wrap, IntKind.signed, IntKind.bits, Bool.true_and, decide_eq_true_eq, ge_iff_le, e, e2]
  split <;> split <;> omega
theorem gv_in (zs : List Int) : In64 (gv zs) := by
  unfold gv In64
  rw [wrap_eq]
  split <;> omega
theorem gv_beB8 (v : Int) (h : In64 v) : gv (beB v 8) = v := by
  unfold gv In64 at *
  rw [nv_beB, wrap_eq]
  simp only [show ((256 ^ 8 : Nat) : Int) = 18446744073709551616 by decide]
  split <;> omega
theorem gv_beB4 (v : Int) (h0 : 0 ≤ v) (h : v < 4294967296) : gv (beB v 4) = v := by
  unfold gv
  rw [nv_beB, wrap_eq]
  simp only [show ((256 ^ 4 : Nat) : Int) = 4294967296 by decide]
  split <;> omega
theorem beB8_gv (zs : List Int) (hl : zs.length = 8) (h : Byts zs) : beB (gv zs) 8 = zs := by
  refine beB_nv zs 8 hl h _ ?_
  unfold gv
  rw [wrap_eq]
  simp only [show ((256 ^ 8 : Nat) : Int) = 18446744073709551616 by decide]
  split <;> omega
theorem beB4_gv (zs : List Int) (hl : zs.length = 4) (h : Byts zs) : beB (gv zs) 4 = zs ∧ 0 ≤ gv zs ∧ gv zs < 4294967296 := by
  have hb := nv_bd zs h
  rw [hl] at hb
  simp only [show ((256 ^ 4 : Nat) : Int) = 4294967296 by decide] at hb
  have e : gv zs = nv zs := by
    unfold gv
    rw [wrap_eq]
    split <;> omega
  rw [e]
  exact ⟨beB_nv zs 4 hl h _ rfl, hb.1, hb.2⟩
theorem or_low (x c : Int) (hx : x % 256 = 0) (h0 : 0 ≤ c) (h1 : c ≤ 255) : bits .or .i64 x c = IntKind.i64.wrap (x + c) := by
  obtain ⟨c, rfl⟩ := Int.eq_ofNat_of_zero_le h0
  have key : ∀ x y, bits .or .i64 x y = IntKind.i64.wrap (((BitVec.ofInt 64 x ||| BitVec.ofInt 64 y).toNat : Nat) : Int) := fun _ _ => rfl
  have e1 : (BitVec.ofInt 64 x).toNat = ((x % 18446744073709551616).toNat / 256) <<< 8 := by
    rw [BitVec.toNat_ofInt, Nat.shiftLeft_eq]; omega
  have e2 : (BitVec.ofInt 64 (c : Int)).toNat = c := by
    rw [BitVec.toNat_ofInt]; omega
  rw [key, BitVec.toNat_or, e1, e2, ← Nat.shiftLeft_add_eq_or_of_lt (by omega), Nat.shiftLeft_eq, wrap_eq, wrap_eq]
  split <;> split <;> omega
theorem gv_snoc (zs : List Int) (c : Int) (h0 : 0 ≤ c) (h1 : c ≤ 255) : bits .or .i64 (IntKind.i64.wrap (gv zs * 256)) c = gv (zs ++ [c]) := by
  rw [or_low _ _ (by unfold gv; rw [wrap_eq, wrap_eq]; split <;> split <;> omega) h0 h1]
  unfold gv
  rw [nv_snoc]
  simp only [wrap_eq]
  split <;> split <;> split <;> omega

def rightE (k f r : Int) (n : Nat) : Int := if k < 1 ∨ 5 < k then 4 else if f < 0 ∨ 4 ≤ f ∨ r < 0 ∨ 2147483648 ≤ r then 3 else if 24 < n then 6 else 0
theorem right0 {k f r : Int} {n : Nat} : rightE k f r n = 0 ↔ 1 ≤ k ∧ k ≤ 5 ∧ 0 ≤ f ∧ f ≤ 3 ∧ 0 ≤ r ∧ r < 2147483648 ∧ n ≤ 24 := by
  unfold rightE
  constructor
  · intro h
    split at h
    · cases h
    · split at h
      · cases h
      · split at h
        · cases h
        · omega
  · intro h
    rw [if_neg (by omega), if_neg (by omega), if_neg (by omega)]

def valsB (vs : List Int) : List Int := vs.flatMap (beB · 8)
theorem valsB_len (vs : List Int) : (valsB vs).length = 8 * vs.length := by
  induction vs with
  | nil => rfl
  | cons v vs ih => simp only [valsB, List.flatMap_cons, List.length_append, beB_len, List.length_cons] at *; omega
theorem valsB_snoc (vs : List Int) (v : Int) : valsB (vs ++ [v]) = valsB vs ++ beB v 8 := by simp [valsB]
theorem valsB_in (vs : List Int) : Byts (valsB vs) := by
  intro z h
  obtain ⟨v, _, h⟩ := List.mem_flatMap.1 h
  exact beB_in v 8 z h
def encB (k f r : Int) (vs : List Int) : List Int := [87, k, f] ++ beB r 4 ++ [(vs.length : Int)] ++ valsB vs
theorem encB_len (k f r : Int) (vs : List Int) : (encB k f r vs).length = 8 + 8 * vs.length := by
  simp [encB, beB_len, valsB_len]; omega
theorem encB_in (k f r : Int) (vs : List Int) (h : rightE k f r vs.length = 0) : Byts (encB k f r vs) := by
  obtain ⟨h1, h2, h3, h4, h5, h6, h7⟩ := right0.1 h
  intro z hz
  simp only [encB, List.mem_append, List.mem_cons, List.not_mem_nil, or_false] at hz
  rcases hz with ((((rfl | rfl | rfl) | hz) | rfl) | hz)
  · omega
  · omega
  · omega
  · exact beB_in _ _ z hz
  · omega
  · exact valsB_in _ z hz

def chop : Nat → List Int → List Int
  | 0, _ => []
  | n + 1, zs => gv (zs.take 8) :: chop n (zs.drop 8)
theorem chop_len (n : Nat) (zs : List Int) : (chop n zs).length = n := by
  induction n generalizing zs with
  | zero => rfl
  | succ n ih => simp [chop, ih]
theorem chop_in (n : Nat) (zs : List Int) : ∀ z ∈ chop n zs, In64 z := by
  induction n generalizing zs with
  | zero => intro z h; cases h
  | succ n ih =>
    intro z h
    simp only [chop, List.mem_cons] at h
    rcases h with rfl | h
    · exact gv_in _
    · exact ih _ z h
theorem chop_vals (vs : List Int) (hv : ∀ v ∈ vs, In64 v) : chop vs.length (valsB vs) = vs := by
  induction vs with
  | nil => rfl
  | cons v vs ih =>
    have e : valsB (v :: vs) = beB v 8 ++ valsB vs := by simp [valsB]
    rw [e, List.length_cons, chop, List.take_left' (beB_len v 8), List.drop_left' (beB_len v 8), gv_beB8 v (hv v (by simp)), ih (fun z hz => hv z (by simp [hz]))]
theorem vals_chop (n : Nat) (zs : List Int) (hl : zs.length = 8 * n) (h : Byts zs) : valsB (chop n zs) = zs := by
  induction n generalizing zs with
  | zero => rw [List.eq_nil_of_length_eq_zero (l := zs) (by omega)]; rfl
  | succ n ih =>
    have e : valsB (chop (n + 1) zs) = beB (gv (zs.take 8)) 8 ++ valsB (chop n (zs.drop 8)) := by simp [valsB, chop]
    rw [e, beB8_gv _ (by simp; omega) (fun z hz => h z (List.mem_of_mem_take hz)), ih _ (by simp; omega) (fun z hz => h z (List.mem_of_mem_drop hz)), List.take_append_drop]
theorem chop_snoc (n : Nat) (zs : List Int) : chop (n + 1) zs = chop n zs ++ [gv ((zs.drop (8 * n)).take 8)] := by
  induction n generalizing zs with
  | zero => simp [chop]
  | succ n ih =>
    rw [chop, ih, chop, List.cons_append, List.drop_drop, show 8 * (n + 1) = 8 + 8 * n by omega]

def IsMsg (zs : List Int) (k f r : Int) (vs : List Int) : Prop := rightE k f r vs.length = 0 ∧ (∀ v ∈ vs, In64 v) ∧ zs = sealed (encB k f r vs)
theorem IsMsg.len {zs : List Int} {k f r : Int} {vs : List Int} (h : IsMsg zs k f r vs) : zs.length = 12 + 8 * vs.length ∧ vs.length ≤ 24 := by
  obtain ⟨h1, h2, rfl⟩ := h
  have := (right0.1 h1).2.2.2.2.2.2
  rw [sealed_len, encB_len]
  omega
theorem IsMsg.take {zs : List Int} {k f r : Int} {vs : List Int} (h : IsMsg zs k f r vs) : zs.take (zs.length - 4) = encB k f r vs := by
  obtain ⟨h1, h2, rfl⟩ := h
  rw [sealed_len, Nat.add_sub_cancel, sealed_take]
theorem IsMsg.tail {zs : List Int} {k f r : Int} {vs : List Int} (h : IsMsg zs k f r vs) : tailTo zs (zs.length - 4) 4 = (sumFrom 0#32 (zs.take (zs.length - 4))).toNat := by
  rw [h.take]
  obtain ⟨h1, h2, rfl⟩ := h
  rw [sealed_len, Nat.add_sub_cancel, sealed_tail]
theorem getD_app {xs ys : List Int} {i : Nat} (h : i < xs.length) : (xs ++ ys).getD i 0 = xs.getD i 0 := by simp [List.getD, List.getElem?_append_left h]
theorem encB_at (k f r : Int) (vs : List Int) : (encB k f r vs).getD 0 0 = 87 ∧ (encB k f r vs).getD 1 0 = k ∧ (encB k f r vs).getD 2 0 = f ∧ (encB k f r vs).getD 7 0 = vs.length ∧ ((encB k f r vs).drop 3).take 4 = beB r 4 ∧ (encB k f r vs).drop 8 = valsB vs := by
  obtain ⟨a, b, c, d, hd⟩ : ∃ a b c d, beB r 4 = [a, b, c, d] := by
    have h4 := beB_len r 4
    match beB r 4, h4 with
    | [a, b, c, d], _ => exact ⟨a, b, c, d, rfl⟩
  unfold encB
  rw [hd]
  exact ⟨rfl, rfl, rfl, rfl, rfl, rfl⟩
theorem IsMsg.at0 {zs : List Int} {k f r : Int} {vs : List Int} (h : IsMsg zs k f r vs) : zs.getD 0 0 = 87 := by
  obtain ⟨h1, h2, rfl⟩ := h
  unfold sealed
  rw [getD_app (by rw [encB_len]; omega)]
  exact (encB_at k f r vs).1
theorem IsMsg.same {zs : List Int} {k f r k' f' r' : Int} {vs vs' : List Int} (h : IsMsg zs k f r vs) (h' : IsMsg zs k' f' r' vs') : k = k' ∧ f = f' ∧ r = r' ∧ vs = vs' := by
  have e : encB k f r vs = encB k' f' r' vs' := by rw [← h.take, h'.take]
  obtain ⟨-, a1, a2, a3, a4, a5⟩ := encB_at k f r vs
  obtain ⟨-, b1, b2, b3, b4, b5⟩ := encB_at k' f' r' vs'
  rw [e] at a1 a2 a3 a4 a5
  obtain ⟨-, -, -, -, hr0, hr1, -⟩ := right0.1 h.1
  obtain ⟨-, -, -, -, gr0, gr1, -⟩ := right0.1 h'.1
  have hl : vs.length = vs'.length := by have := a3.symm.trans b3; omega
  refine ⟨a1.symm.trans b1, a2.symm.trans b2, ?_, ?_⟩
  · rw [← gv_beB4 r hr0 (by omega), ← gv_beB4 r' gr0 (by omega), ← a4, ← b4]
  · rw [← chop_vals vs h.2.1, ← chop_vals vs' h'.2.1, ← a5, ← b5, hl]
theorem isMsg_of (zs : List Int) (hz : Byts zs) (hl : 12 ≤ zs.length) (h0 : zs.getD 0 0 = 87) (ht : tailTo zs (zs.length - 4) 4 = (sumFrom 0#32 (zs.take (zs.length - 4))).toNat) (n : Nat) (hn : (zs.take (zs.length - 4)).getD 7 0 = n) (hlen : zs.length - 4 = 8 + 8 * n)
    (hr : rightE ((zs.take (zs.length - 4)).getD 1 0) ((zs.take (zs.length - 4)).getD 2 0) (gv (((zs.take (zs.length - 4)).drop 3).take 4)) n = 0) :
    IsMsg zs ((zs.take (zs.length - 4)).getD 1 0) ((zs.take (zs.length - 4)).getD 2 0) (gv (((zs.take (zs.length - 4)).drop 3).take 4)) (chop n ((zs.take (zs.length - 4)).drop 8)) := by
  have hs : zs = sealed (zs.take (zs.length - 4)) := by
    have h1 := le_tail zs (zs.length - 4) (by omega) hz
    rw [ht] at h1
    exact h1
  have hb : Byts (zs.take (zs.length - 4)) := fun z h => hz z (List.mem_of_mem_take h)
  have h0' : (zs.take (zs.length - 4)).getD 0 0 = 87 := by
    rw [← h0]
    simp only [List.getD]
    rw [List.getElem?_take, if_pos (by omega)]
  have hL : (zs.take (zs.length - 4)).length = 8 + 8 * n := by rw [List.length_take]; omega
  refine ⟨by rw [chop_len]; exact hr, chop_in _ _, ?_⟩
  generalize zs.take (zs.length - 4) = ys at *
  rw [hs]
  congr 1
  obtain ⟨a0, a1, a2, a3, a4, a5, a6, a7, hd⟩ : ∃ a0 a1 a2 a3 a4 a5 a6 a7, ys.take 8 = [a0, a1, a2, a3, a4, a5, a6, a7] := by
    have h8 : (ys.take 8).length = 8 := by simp; omega
    match ys.take 8, h8 with
    | [a0, a1, a2, a3, a4, a5, a6, a7], _ => exact ⟨a0, a1, a2, a3, a4, a5, a6, a7, rfl⟩
  have hy : ys = [a0, a1, a2, a3, a4, a5, a6, a7] ++ ys.drop 8 := by rw [← hd, List.take_append_drop]
  have hd8 : ys.drop 8 = ys.drop 8 := rfl
  have hb8 : Byts (ys.drop 8) := fun z h => hb z (List.mem_of_mem_drop h)
  have hl8 : (ys.drop 8).length = 8 * n := by simp; omega
  generalize ys.drop 8 = ds at *
  subst hy
  simp only [List.getD, List.cons_append, List.getElem?_cons_zero, List.getElem?_cons_succ, Option.getD_some, List.drop_succ_cons, List.drop_zero, List.take_succ_cons, List.take_zero] at *
  have h4 := (beB4_gv [a3, a4, a5, a6] rfl (fun z hz => hb z (by simp at hz ⊢; rcases hz with h | h | h | h <;> simp [h]))).1
  unfold encB
  rw [h4, chop_len, vals_chop n ds hl8 hb8, h0', hn]
  rfl
end Go.Proofs.Ytofeoeknmlkjgaa.Wr
end
section
/- The contracts of wire.put, get, right. -/
set_option linter.unusedVariables false
namespace Go.Proofs.Ytofeoeknmlkjgaa.Wr
open Go.RowKit Go.Proofs.Ytofeoeknmlkjgaa Crc

def PutRel (w : World) (base m : Nat) (xs : List Value) (v : Int) (n : Nat) (b i : Value) (wr : World) : Prop :=
  ∃ k : Nat, k ≤ n ∧ i = .int .i64 ((n : Int) - 1 - k) ∧ wr.ownsRow base 5 1 b (m + k) (xs ++ (beTo v n k).map (Value.int .u8)) ∧ Below base w wr ∧ w.heap.size ≤ wr.heap.size

set_option maxRecDepth 100000 in
set_option maxHeartbeats 1000000 in
theorem put_any (base m n q : Nat) (hq : m + n = q) (u : Value) (xs : List Value) (v : Int) (w : World) (hown : w.ownsRow base 5 1 u m xs) (hn : n ≤ 8) (hm : m ≤ 100000) (hb : base ≤ w.heap.size) (hv : In64 v) :
    Calls Try.prog 96 #[u, .int .i64 v, .int .i64 n] w fun e w' => ∃ A c, e = .returned (.slice A q c) ∧ w'.ownsRow base 5 1 (.slice A q c) q (xs ++ (beB v n).map (Value.int .u8)) ∧ Below base w w' := by
  obtain ⟨i0, hi, hz0, hz1, hz2⟩ := info_parts infoByte
  subst hq
  obtain ⟨A0, c0, rfl⟩ := own_shape hown
  have HO := Lib.hid hown
  clear hown
  go_enter Try.func96, Try.ntmps96
  go_wp2_with fail
  go_loopw [0, 7] (fun b i wr => PutRel w base m xs v n b i wr) (fun _ i _ => (intOf i + 1).toNat)
  case atStart => exact ⟨0, by omega, by simp, by simpa [beTo] using HO.out, Below.refl _ _, Nat.le_refl _⟩
  case round =>
    obtain ⟨k, hk, rfl, hown, hB, hsz⟩ := hrel
    by_cases hlt : k < n
    · obtain ⟨A1, c1, rfl⟩ := own_shape hown
      have HO1 := Lib.hid hown
      clear hown
      go_wp2_with (first
        | (at_builtin; refine wpList_append_own _ rfl (.tmp 14) (.tmp 21) 78 rfl base 5 i0 (.int .u8 0) 1 1 Try.underlying78 hi hz0 hz1 hz2 rfl (by decide) _ _ _ rfl (HO1.out.alloc _) ⟨wr.heap.size, 0, none⟩ 1 1 [.int .u8 (v / 2 ^ (8 * (n - 1 - k)) % 256)] rfl rfl (cell_one_new _ _ _) (by intro u hu; simp at hu; subst hu; rfl) (by unfold maxLen; omega) (by omega) (by simp; omega) ?_; intro v1 w4 hown1 hgrow1 hnil1))
      have hB4 : Below base w w4 := (hB.alloc (by omega) _).grown hgrow1 (by simp; omega) (fun j hj => (HO1.out.lt j hj).1)
      have hs4 : w.heap.size ≤ w4.heap.size := by have := hgrow1.size; simp at this; omega
      have HO2 := Lib.hid hown1
      clear hown1 hgrow1 hnil1
      go_wp2_with fail
      go_roundw
      case rel => exact ⟨k + 1, by omega, by go_num, by simpa [beTo, ← Nat.add_assoc] using HO2.out, hB4, hs4⟩
      case measure => simp [intOf]; omega
    · obtain rfl : k = n := by omega
      obtain ⟨A1, c1, rfl⟩ := own_shape hown
      have HO1 := Lib.hid hown
      clear hown
      go_wp2_with fail
      go_ret
      exact ⟨A1, c1, rfl, HO1.out, hB⟩

def GetRel (zs : List Int) (v i : Value) : Prop := ∃ k : Nat, k ≤ zs.length ∧ i = .int .i64 k ∧ v = .int .i64 (gv (zs.take k))
set_option maxRecDepth 100000 in
set_option maxHeartbeats 1000000 in
theorem get_any (A : Option Addr) (n c : Nat) (zs : List Int) (w : World) (h : Ints w .u8 A n zs) (hz : Byts zs) (hn : n ≤ 1000) :
    Calls Try.prog 110 #[.slice A n c] w fun e w' => e = .returned (.int .i64 (gv zs)) ∧ w = w' := by
  have hl := h.1
  have H := Lib.hid h
  have HZ := Lib.hid hz
  have HL := Lib.hid hl
  have h0 : gv (zs.take 0) = 0 := rfl
  have H0 := Lib.hid h0
  clear h hz hl h0
  go_enter Try.func110, Try.ntmps110
  go_wp2_with fail
  go_loop [3, 8] (fun v i => GetRel zs v i) (fun _ i => n - (intOf i).toNat)
  case atStart => exact ⟨0, by omega, rfl, by rw [H0.out]⟩
  case round =>
    obtain ⟨k, hk, rfl, rfl⟩ := hrel
    have hkn : k ≤ n := by have := HL.out; omega
    clear hk
    by_cases hlt : k < n
    · obtain ⟨b, off, rfl, _, hc⟩ := H.out.2 (by omega)
      have hx := hc k hlt
      have hb : 0 ≤ zs.getD k 0 ∧ zs.getD k 0 ≤ 255 := by
        have hkl : k < zs.length := by have := HL.out; omega
        simp only [List.getD, List.getElem?_eq_getElem hkl]
        exact HZ.out _ (List.getElem_mem _)
      have hs : bits .or .i64 (IntKind.i64.wrap (gv (zs.take k) * 256)) (zs.getD k 0) = gv (zs.take (k + 1)) := by
        rw [gv_snoc _ _ hb.1 hb.2]
        congr 1
        have hkl : k < zs.length := by have := HL.out; omega
        rw [List.take_succ_eq_append_getElem hkl]
        simp [List.getD, List.getElem?_eq_getElem hkl]
      have hg := gv_in (zs.take k)
      unfold In64 at hg
      obtain ⟨y0, y1⟩ := hb
      generalize zs.getD k 0 = y at *
      generalize hg1 : gv (zs.take (k + 1)) = g1 at *
      have HG1 := Lib.hid hg1
      have HS := Lib.hid hs
      clear hs
      generalize gv (zs.take k) = g0 at *
      clear hc hg1
      go_wp2_with fail
      go_round
      case rel => exact ⟨k + 1, by have := HL.out; omega, by go_num, by rw [HG1.out]; rw [← IntWalk.i64_left]; exact congrArg (Value.int .i64) HS.out⟩
      case measure => simp [intOf]; omega
    · obtain rfl : k = n := by omega
      go_wp2_with fail
      go_ret
      exact ⟨ret_i64 (by rw [List.take_of_length_le (by have := HL.out; omega)]), rfl⟩

set_option maxRecDepth 100000 in
set_option maxHeartbeats 1000000 in
theorem right_any (k f r : Int) (A : Option Addr) (n c : Nat) (hn : n ≤ 9223372036854775807) (w : World) :
    Calls Try.prog 95 #[.agg #[.int .i64 k, .int .i64 f, .int .i64 r, .slice A n c]] w fun e w' => e = .returned (.int .i64 (rightE k f r n)) ∧ Below w.heap.size w w' := by
  have hB := (Below.refl w.heap.size w).alloc (Nat.le_refl _) (.cells #[.int .i64 k, .int .i64 f, .int .i64 r, .slice A n c] 64)
  have HB := Lib.hid hB
  clear hB
  by_cases h1 : k < 1 ∨ 5 < k
  · have hr : rightE k f r n = 4 := by unfold rightE; rw [if_pos h1]
    rw [hr]
    clear hr
    by_cases h2 : k < 1
    · go_enter Try.func95, Try.ntmps95
      go_wp2_with fail
      go_ret
      exact ⟨rfl, HB.out⟩
    · have h3 : 5 < k := by omega
      clear h1
      go_enter Try.func95, Try.ntmps95
      go_wp2_with fail
      go_ret
      exact ⟨rfl, HB.out⟩
  · have k1 : 1 ≤ k := by omega
    have k2 : k ≤ 5 := by omega
    by_cases h2 : f < 0 ∨ 4 ≤ f ∨ r < 0 ∨ 2147483648 ≤ r
    · have hr : rightE k f r n = 3 := by unfold rightE; rw [if_neg h1, if_pos h2]
      rw [hr]
      clear hr h1
      by_cases f1 : f < 0
      · clear h2
        go_enter Try.func95, Try.ntmps95
        go_wp2_with fail
        go_ret
        exact ⟨rfl, HB.out⟩
      · by_cases f2 : 4 ≤ f
        · have f3 : 0 ≤ f := by omega
          clear h2 f1
          go_enter Try.func95, Try.ntmps95
          go_wp2_with fail
          go_ret
          exact ⟨rfl, HB.out⟩
        · have f3 : 0 ≤ f := by omega
          have f4 : f ≤ 3 := by omega
          by_cases r1 : r < 0
          · clear h2 f1 f2
            go_enter Try.func95, Try.ntmps95
            go_wp2_with fail
            go_ret
            exact ⟨rfl, HB.out⟩
          · have r2 : 0 ≤ r := by omega
            have r3 : 2147483648 ≤ r := by omega
            clear h2 f1 f2 r1
            go_enter Try.func95, Try.ntmps95
            go_wp2_with fail
            go_ret
            exact ⟨rfl, HB.out⟩
    · have f3 : 0 ≤ f := by omega
      have f4 : f ≤ 3 := by omega
      have r2 : 0 ≤ r := by omega
      have r3 : r < 2147483648 := by omega
      by_cases h3 : 24 < n
      · have hr : rightE k f r n = 6 := by unfold rightE; rw [if_neg h1, if_neg h2, if_pos h3]
        rw [hr]
        clear hr h1 h2
        go_enter Try.func95, Try.ntmps95
        go_wp2_with fail
        go_ret
        exact ⟨rfl, HB.out⟩
      · have hr : rightE k f r n = 0 := by unfold rightE; rw [if_neg h1, if_neg h2, if_neg h3]
        rw [hr]
        have n1 : n ≤ 24 := by omega
        clear hr h1 h2 h3
        go_enter Try.func95, Try.ntmps95
        go_wp2_with fail
        go_ret
        exact ⟨rfl, HB.out⟩
end Go.Proofs.Ytofeoeknmlkjgaa.Wr
end
section
/- The contract of wire.Encode. -/
set_option linter.unusedVariables false
namespace Go.Proofs.Ytofeoeknmlkjgaa.Wr
open Go.RowKit Go.Proofs.Ytofeoeknmlkjgaa Crc

theorem own_new (w : World) (t : TypeId) (xs : List Value) (n base : Nat) (hn : xs.length = n) (hb : base ≤ w.heap.size) (hl : n ≤ maxLen) : (w.alloc (.cells xs.toArray t)).ownsRow base t 1 (.slice (some ⟨w.heap.size, 0, none⟩) n n) n xs := by
  subst hn
  exact ⟨by simp, .inr ⟨w.heap.size, xs.length, xs.toArray, rfl, hb, Blk.new w t _, Nat.le_refl _, hl, by simp, by simp⟩⟩

def EncPost (k f r : Int) (n : Nat) (vs : List Int) (w : World) (e : Ending) (w' : World) : Prop :=
  (rightE k f r n = 0 ∧ ∃ A c, e = .returned (.tuple #[.slice A (8 + 8 * n + 4) c, .int .i64 0]) ∧ NewBytes w w' A (8 + 8 * n + 4) c (sealed (encB k f r vs))) ∨
  (rightE k f r n ≠ 0 ∧ e = .returned (.tuple #[.slice none 0 0, .int .i64 (rightE k f r n)]) ∧ Below w.heap.size w w')

def hdB (k f r : Int) (n : Nat) : List Int := [87, k, f] ++ beB r 4 ++ [(n : Int)]
def EncRel (W0 : World) (B : Nat) (k f r : Int) (n : Nat) (vs : List Int) (b i : Value) (W : World) : Prop :=
  ∃ j : Nat, j ≤ n ∧ i = .int .i64 j ∧ W.ownsRow B 5 1 b (8 + 8 * j) ((hdB k f r n ++ valsB (vs.take j)).map (Value.int .u8)) ∧ Below B W0 W ∧ B ≤ W.heap.size

set_option maxRecDepth 100000 in
set_option maxHeartbeats 1000000 in
theorem Encode_any (k f r : Int) (A : Option Addr) (n c : Nat) (vs : List Int) (w : World) (h : Ints w .i64 A n vs) (hv : ∀ v ∈ vs, In64 v) (hn : n ≤ 9223372036854775807) :
    Calls Try.prog 76 #[.agg #[.int .i64 k, .int .i64 f, .int .i64 r, .slice A n c]] w (EncPost k f r n vs w) := by
  obtain ⟨i0, hi, hz0, hz1, hz2⟩ := info_parts infoByte
  have hP := Blk.new w 64 #[.int .i64 k, .int .i64 f, .int .i64 r, .slice A n c]
  have hB := (Below.refl w.heap.size w).alloc (Nat.le_refl _) (.cells #[.int .i64 k, .int .i64 f, .int .i64 r, .slice A n c] 64)
  have HP := Lib.hid hP
  have HB := Lib.hid hB
  have kr := fun W => right_any k f r A n c hn W
  have KR := Lib.hid kr
  have H := Lib.hid h
  have HV := Lib.hid hv
  clear hP hB kr h hv
  by_cases hr : rightE k f r n = 0
  · obtain ⟨k1, k2, f1, f2, r1, r2, n1⟩ := right0.1 hr
    have HR := Lib.hid hr
    clear hr
    go_enter Try.func76, Try.ntmps76
    go_wp2_with fail
    refine (KR.out _).mono ?_
    rintro e w1 ⟨rfl, hB1⟩
    rw [HR.out]
    have P1 := Lib.hid (HP.out.next hB1)
    have c0 := P1.out.cell 0
    have c1 := P1.out.cell 1
    have c2 := fun o => (P1.out.alloc o).cell 2
    simp only [List.getElem?_toArray, List.getElem?_cons_zero, List.getElem?_cons_succ] at c0 c1 c2
    have B1 := Lib.hid (below_next HB.out hB1)
    have H1 := Lib.hid ((H.out.alloc (.cells #[.int .i64 k, .int .i64 f, .int .i64 r, .slice A n c] 64)).next hB1)
    have hs1 : w.heap.size + 1 ≤ w1.heap.size := by have := hB1.size; simpa using this
    have hB1' : Below (w.heap.size + 1) (w.alloc (.cells #[.int .i64 k, .int .i64 f, .int .i64 r, .slice A n c] 64)) w1 := by have := hB1; simpa using this
    have HB1 := Lib.hid hB1'
    have H0 := Lib.hid (H.out.alloc (.cells #[.int .i64 k, .int .i64 f, .int .i64 r, .slice A n c] 64))
    clear hB1 hB1' H H1
    go_wp2_with fail
    refine (put_any (w.heap.size + 1) 3 4 7 rfl _ [.int .u8 87, .int .u8 k, .int .u8 f] r _ (own_new w1 5 _ 3 _ rfl hs1 (by decide)) (by omega) (by omega) (by simp; omega) (by unfold In64; omega)).mono ?_
    rintro e w2 ⟨A2, c2, rfl, hown2, hB2⟩
    have hs2 : w.heap.size + 1 ≤ w2.heap.size := by have := hB2.size; simp at this; omega
    have hP2 := (P1.out.alloc (.cells #[.int .u8 87, .int .u8 k, .int .u8 f] 5)).below hB2 (Nat.lt_succ_self _)
    have P2 := Lib.hid hP2
    have c3 := P2.out.cell 3
    simp only [List.getElem?_toArray, List.getElem?_cons_zero, List.getElem?_cons_succ] at c3
    have hB20 := ((HB1.out.alloc hs1 (.cells #[.int .u8 87, .int .u8 k, .int .u8 f] 5)).trans hB2)
    have HB20 := Lib.hid hB20
    have O2 := Lib.hid hown2
    clear hB2 hP2 hB20 hown2 P1 HB1 B1
    go_wp2_with (at_builtin; refine wpList_append_own _ rfl (.tmp 23) (.tmp 28) 78 rfl (w.heap.size + 1) 5 i0 (.int .u8 0) 1 1 Try.underlying78 hi hz0 hz1 hz2 rfl (by decide) _ 7 _ rfl (O2.out.alloc _) ⟨w2.heap.size, 0, none⟩ 1 1 [.int .u8 (n : Int)] rfl rfl (cell_one_new _ _ _) (by intro u hu; simp at hu; subst hu; rfl) (by unfold maxLen; omega) (by omega) (by simp; omega) ?_; intro v3 w3 hown3 hg3 _; have hB3 := (HB20.out.alloc (by simpa using hs2) (.cells #[.int .u8 (n : Int)] 5)).grown hg3 (by simp; omega) (fun j hj => (O2.out.lt j hj).1); have HB3 := Lib.hid hB3; have c4 := (((P2.out.alloc (.cells #[.int .u8 (n : Int)] 5)).grown hg3 (own_blk_ne O2.out P2.out (by decide))).cell 3); simp only [List.getElem?_toArray, List.getElem?_cons_zero, List.getElem?_cons_succ] at c4; have hs3 := hg3.size; clear hB3 hg3 c3; have O3 := Lib.hid hown3; clear hown3)
    have hW0 : (w.alloc (.cells #[.int .i64 k, .int .i64 f, .int .i64 r, .slice A n c] 64)).heap.size = w.heap.size + 1 := by simp
    obtain ⟨W0, hW⟩ : ∃ W0, W0 = w.alloc (.cells #[.int .i64 k, .int .i64 f, .int .i64 r, .slice A n c] 64) := ⟨_, rfl⟩
    have HW := Lib.hid hW
    have HI := Lib.hid (fun W (hb : Below (w.heap.size + 1) (w.alloc (.cells #[.int .i64 k, .int .i64 f, .int .i64 r, .slice A n c] 64)) W) => (H0.out).next (by rw [hW0]; exact hb))
    clear hW0 hW c4
    go_loopw [5, 33] (fun b i W => EncRel W0 (w.heap.size + 1) k f r n vs b i W) (fun _ i _ => n - (intOf i).toNat)
    case atStart => exact ⟨0, by omega, rfl, by simpa [hdB, valsB] using O3.out, by rw [HW.out]; exact HB3.out, by simp at hs3; omega⟩
    case round =>
      obtain ⟨j, hj, rfl, hown, hB, hsz⟩ := hrel
      obtain ⟨A5, c5, rfl⟩ := own_shape hown
      have O5 := Lib.hid hown
      have B5 := Lib.hid hB
      clear hown hB
      by_cases hlt : j < n
      · have hb0 := B5.out
        rw [HW.out] at hb0
        have hI := HI.out _ hb0
        obtain ⟨hvl, hI2⟩ := hI
        obtain ⟨b, off, rfl, _, hc⟩ := hI2 (by omega)
        have hx := hc j hlt
        have hv : In64 (vs.getD j 0) := by
          simp only [List.getD, List.getElem?_eq_getElem (show j < vs.length by omega)]
          exact HV.out _ (List.getElem_mem _)
        have hs : vs.take (j + 1) = vs.take j ++ [vs.getD j 0] := by
          rw [List.take_succ_eq_append_getElem (show j < vs.length by omega)]
          simp [List.getD, List.getElem?_eq_getElem (show j < vs.length by omega)]
        have HVJ := Lib.hid hv
        have HS := Lib.hid hs
        generalize vs.getD j 0 = y at *
        clear hc hI2 hvl hb0 hv hs
        go_wp2_with fail
        refine (put_any (w.heap.size + 1) (8 + 8 * j) 8 (8 + 8 * (j + 1)) (by omega) _ _ y _ O5.out (by omega) (by omega) hsz HVJ.out).mono ?_
        rintro e w6 ⟨A6, c6, rfl, hown6, hB6⟩
        have O6 := Lib.hid hown6
        have hs6 := hB6.size
        have B6 := Lib.hid (B5.out.trans hB6)
        clear hown6 hB6
        go_wp2_with fail
        go_roundw
        case rel => exact ⟨j + 1, by omega, by go_num, by rw [HS.out, valsB_snoc, ← List.append_assoc, List.map_append]; exact O6.out, B6.out, by omega⟩
        case measure => simp [intOf]; omega
      · obtain rfl : j = n := by omega
        have hb0 := B5.out
        rw [HW.out] at hb0
        have hI := HI.out _ hb0
        have hvl := hI.1
        have O6 := O5.out
        have he : hdB k f r j ++ valsB (vs.take j) = encB k f r vs := by
          rw [List.take_of_length_le (by omega)]
          unfold hdB encB
          rw [hvl]
        rw [he] at O6
        have HR2 : Hid (rightE k f r vs.length = 0) := Lib.hid (by rw [hvl]; exact HR.out)
        have O7 := Lib.hid O6
        have HVL := Lib.hid hvl
        have HB0 := Lib.hid hb0
        clear hI hb0 he O6 hvl
        go_wp2_with fail
        refine (seal_any A5 (8 + 8 * j) c5 (encB k f r vs) _ (Ints.own O7.out) (own_none O7.out).1 (by omega) (encB_in k f r vs HR2.out)).mono ?_
        rintro e w8 ⟨A8, c8, rfl, hown8, hB8⟩
        go_wp2_with fail
        go_ret2
        have hle : w.heap.size ≤ wr.heap.size := by omega
        exact .inl ⟨HR.out, A8, c8, rfl, own_le hown8 hle, (HB.out.trans (HB0.out.mono (by omega))).trans (hB8.mono hle)⟩
  · have hb : (rightE k f r n != 0) = true := by rw [bne_iff_ne]; exact hr
    have HR := Lib.hid hr
    clear hr
    generalize hg : rightE k f r n = q at *
    have HG := Lib.hid hg
    clear hg
    go_enter Try.func76, Try.ntmps76
    go_wp2_with fail
    refine (KR.out _).mono ?_
    rintro e w1 ⟨rfl, hB1⟩
    have B1 := Lib.hid (below_next HB.out hB1)
    clear hB1
    go_wp2_with fail
    go_ret2
    exact .inr ⟨by rw [HG.out]; exact HR.out, by rw [HG.out]; rfl, B1.out⟩
end Go.Proofs.Ytofeoeknmlkjgaa.Wr
end
