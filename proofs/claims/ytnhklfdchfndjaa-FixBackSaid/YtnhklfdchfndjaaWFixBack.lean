/- The walk of FixBack: what is written of a number is read as it. -/
import Derived.Test.YtnhklfdchfndjaaTxtBack
import Derived.Test.YtnhklfdchfndjaaFixAwake
import Derived.Test.YtnhklfdchfndjaaFixOpen
import Derived.Test.YtnhklfdchfndjaaOpen
set_option linter.unusedVariables false
namespace Go.Proofs.Ytnhklfdchfndjaa.lawFixBack
open Go.RowKit Go.Proofs.Ytnhklfdchfndjaa Tx

theorem fr_nil {p : Nat} : fr 32 p = [] ↔ p = 0 := by
  constructor
  · intro h
    rcases Nat.eq_zero_or_pos p with h0 | h0
    · exact h0
    · exact absurd h (fr_ne h0)
  · rintro rfl; exact fr_zero 32
theorem rev_head (n : Nat) (h : 1 < (low n).length) : (low n).reverse.getD 0 0 ≠ 0 := by
  have h2 := low_last n h
  have hpos : 0 < (low n).length := by omega
  intro e
  apply h2
  have hne := low_ne n
  rw [List.getLast?_eq_some_getLast hne]
  have h3 : (low n).reverse[0]? = some ((low n).getLast hne) := by
    rw [List.getElem?_reverse (by omega)]
    rw [show (low n).length - 1 - 0 = (low n).length - 1 by omega, ← List.getLast?_eq_getElem?, List.getLast?_eq_some_getLast hne]
  simp only [List.getD, h3, Option.getD_some] at e
  rw [e]
theorem read_txt (a : Int) (h0 : -9223372036854775808 ≤ a) (h1 : a ≤ 9223372036854775807) (w : World) :
    Calls Try.prog 5 #[.string (strOfNums (txt a))] w fun e w' => e = .returned (.tuple #[.int .i64 a, .int .i64 0]) ∧ Below w.heap.size w w' := by
  obtain ⟨u, hu⟩ : ∃ u, u = a.natAbs := ⟨_, rfl⟩
  have hub : u ≤ 9223372036854775808 := by omega
  have hp : u % 4294967296 < 4294967296 := Nat.mod_lt _ (by decide)
  have hlow : ∀ d ∈ (low (u / 4294967296)).reverse, d < 10 := fun d hd => low_lt _ d (List.mem_reverse.1 hd)
  have hlen := low_len 9 (u / 4294967296) (by omega)
  have hpos := List.length_pos_iff.2 (low_ne (u / 4294967296))
  have hfr : ∀ d ∈ fr 32 (u % 4294967296), d < 10 := fr_lt 32 _ hp
  have hfl := fr_len 32 (u % 4294967296)
  have hU : ∀ k, k = 32 → (dbl (fr 32 (u % 4294967296)) k).1 = u % 4294967296 ∧ num (dbl (fr 32 (u % 4294967296)) k).2 = 0 := by
    rintro k rfl
    exact dbl_end hp
  have hdiv := Nat.div_add_mod u 4294967296
  have htail : (if 0 < u % 4294967296 then 46 :: dg (fr 32 (u % 4294967296)) else []) = (if fr 32 (u % 4294967296) = [] then [] else 46 :: dg (fr 32 (u % 4294967296))) := by
    by_cases h : u % 4294967296 = 0
    · rw [if_neg (by omega), if_pos (fr_nil.2 h)]
    · rw [if_pos (by omega), if_neg (fun e => h (fr_nil.1 e))]
  have hz : 1 < (low (u / 4294967296)).reverse.length → (low (u / 4294967296)).reverse.getD 0 0 ≠ 0 := fun h => rev_head _ (by simpa using h)
  by_cases ha : a < 0
  · have ht : txt a = 45 :: (dg (low (u / 4294967296)).reverse ++ if fr 32 (u % 4294967296) = [] then [] else 46 :: dg (fr 32 (u % 4294967296))) := by
      unfold txt
      rw [if_pos ha, ← hu, htail]
      rfl
    have k := read_neg (low (u / 4294967296)).reverse (fr 32 (u % 4294967296)) (strOfNums (txt a)) (by rw [ht]) (by simpa using hpos) hlow hfr (by simpa using hlen) hfl hz (u / 4294967296) (u % 4294967296) (num_low _) hU (by omega) hp w
    rw [show -(((u / 4294967296 : Nat) : Int) * 4294967296 + ((u % 4294967296 : Nat) : Int)) = a by omega] at k
    exact k
  · have ht : txt a = dg (low (u / 4294967296)).reverse ++ if fr 32 (u % 4294967296) = [] then [] else 46 :: dg (fr 32 (u % 4294967296)) := by
      unfold txt
      rw [if_neg ha, ← hu, htail]
      rfl
    have k := read_pos (low (u / 4294967296)).reverse (fr 32 (u % 4294967296)) (strOfNums (txt a)) (by rw [ht]) (by simpa using hpos) hlow hfr (by simpa using hlen) hfl hz (u / 4294967296) (u % 4294967296) (num_low _) hU (by omega) hp w
    rw [show ((u / 4294967296 : Nat) : Int) * 4294967296 + ((u % 4294967296 : Nat) : Int) = a by omega] at k
    exact k

set_option maxRecDepth 100000 in
set_option maxHeartbeats 1000000 in
theorem walk1 (a : Int) (h0 : -9223372036854775808 ≤ a) (h1 : a ≤ 9223372036854775807) (w : World) :
    Calls Try.prog 3 #[.int .i64 a] w fun e w' => e = .returned (.bool true) ∧ Below w.heap.size w w' := by
  have KT := Lib.hid (fun W => Text_any a h0 h1 W)
  have KR := Lib.hid (fun W => read_txt a h0 h1 W)
  have t0 : (a == a) = true := by simp
  clear h0 h1
  generalize strOfNums (txt a) = st at *
  go_enter Try.func3, Try.ntmps3
  go_wp2_with fail
  refine (KT.out _).mono ?_
  rintro e w1 ⟨rfl, hB1⟩
  have B1 := Lib.hid hB1
  clear hB1
  go_wp2_with fail
  refine (KR.out _).mono ?_
  rintro e w2 ⟨rfl, hB2⟩
  have B2 := Lib.hid (below_next B1.out hB2)
  clear hB2
  go_wp2_with fail
  refine (awake_any _).mono ?_
  rintro e w3 ⟨rfl, hB3⟩
  have B3 := Lib.hid (below_next B2.out hB3)
  clear hB3
  go_wp2_with fail
  go_ret
  exact ⟨rfl, B3.out⟩

theorem walk {H : Type} {enc : TypeId × Value → H} {d0 : DataW H} {p0 : List MemPlace} (v0 : Value) (W : World) (base : Nat)
    (h0 : Value.okWide Try.prog W .any base 3 v0) (_ : DataW.Trod enc Try.prog W 0 (fun _ => true) true 3 v0 d0 p0) :
    Calls Try.prog 3 #[v0] W fun e w' => e = .returned (.bool true) ∧ Below W.heap.size W w' := by
  obtain ⟨x, rfl, hx⟩ := ok_int Try.underlying3 h0
  exact walk1 x (in_i64 hx).1 (in_i64 hx).2 W
end Go.Proofs.Ytnhklfdchfndjaa.lawFixBack
