/- Messages as bytes, in plain Lean: what put and get reckon, what a message's bytes are, that no two messages have the same bytes. -/
import Derived.Test.YtccebaadpjflkaaSealPlain
set_option linter.unusedVariables false
namespace Go.Proofs.Ytccebaadpjflkaa.Wr
open Go.RowKit Go.Proofs.Ytccebaadpjflkaa Crc

def Byts (zs : List Int) : Prop := ∀ z ∈ zs, 0 ≤ z ∧ z ≤ 255
def In64 (z : Int) : Prop := -9223372036854775808 ≤ z ∧ z ≤ 9223372036854775807

/-- the first k of the n lowest bytes of v, the highest first -/
def beTo (v : Int) (n : Nat) : Nat → List Int
  | 0 => []
  | k + 1 => beTo v n k ++ [v / 2 ^ (8 * (n - 1 - k)) % 256]
theorem two_pow (j : Nat) : (2 : Int) ^ (8 * j) = ((256 ^ j : Nat) : Int) := by
  rw [show (256 : Nat) = 2 ^ 8 from rfl, ← Nat.pow_mul, Int.natCast_pow]
  rfl
def beB (v : Int) (n : Nat) : List Int := beTo v n n
theorem beTo_len (v : Int) (n k : Nat) : (beTo v n k).length = k := by
  induction k with
  | zero => rfl
  | succ k ih => simp [beTo, ih]
theorem beTo_in (v : Int) (n k : Nat) : Byts (beTo v n k) := by
  induction k with
  | zero => intro z h; cases h
  | succ k ih =>
    intro z h
    rcases List.mem_append.1 h with h | h
    · exact ih z h
    · simp at h; omega
theorem beB_len (v : Int) (n : Nat) : (beB v n).length = n := beTo_len v n n
theorem beB_in (v : Int) (n : Nat) : Byts (beB v n) := beTo_in v n n

/-- the number of bytes, unbounded -/
def nv (zs : List Int) : Int := zs.foldl (fun a c => a * 256 + c) 0
theorem nv_snoc (zs : List Int) (c : Int) : nv (zs ++ [c]) = nv zs * 256 + c := by simp [nv, List.foldl_append]
theorem mod_step (q M : Int) (hM : 0 < M) : (q / 256 % M) * 256 + q % 256 = q % (256 * M) := by
  rw [Int.emod_def (q / 256) M, Int.emod_def q (256 * M), Int.emod_def q 256, ← Int.ediv_ediv_of_nonneg (by decide : (0 : Int) ≤ 256)]
  generalize q / 256 / M = t
  rw [Int.sub_mul, Int.mul_assoc 256 M t, Int.mul_comm (M * t) 256]
  generalize M * t = u
  omega
theorem nv_beTo (v : Int) (n k : Nat) (hk : k ≤ n) : nv (beTo v n k) = v / ((256 ^ (n - k) : Nat) : Int) % ((256 ^ k : Nat) : Int) := by
  induction k with
  | zero => rw [show ((256 ^ 0 : Nat) : Int) = 1 from rfl, Int.emod_one]; rfl
  | succ k ih =>
    rw [beTo, nv_snoc, ih (by omega), two_pow]
    have e1 : n - k = (n - (k + 1)) + 1 := by omega
    have e2 : n - 1 - k = n - (k + 1) := by omega
    rw [e1, e2, Nat.pow_succ, Nat.pow_succ]
    have hq : 0 < 256 ^ k := Nat.pow_pos (by decide)
    generalize (256 ^ k : Nat) = q at *
    generalize (256 ^ (n - (k + 1)) : Nat) = p at *
    rw [Int.natCast_mul, Int.natCast_mul, ← Int.ediv_ediv_of_nonneg (Int.natCast_nonneg p), Int.mul_comm (q : Int)]
    exact mod_step _ _ (by omega)
theorem nv_beB (v : Int) (n : Nat) : nv (beB v n) = v % ((256 ^ n : Nat) : Int) := by
  unfold beB
  rw [nv_beTo v n n (Nat.le_refl _), Nat.sub_self]
  simp
theorem nv_bd (zs : List Int) (h : Byts zs) : 0 ≤ nv zs ∧ nv zs < ((256 ^ zs.length : Nat) : Int) := by
  obtain ⟨n, hn⟩ : ∃ n, zs.length = n := ⟨_, rfl⟩
  rw [hn]
  induction n generalizing zs with
  | zero => rw [List.eq_nil_of_length_eq_zero hn]; decide
  | succ n ih =>
    obtain ⟨zs, c, rfl⟩ : ∃ l a, zs = l ++ [a] := ⟨zs.dropLast, zs.getLast (by intro e; simp [e] at hn), (List.dropLast_concat_getLast _).symm⟩
    have hc := h c (by simp)
    have hz := ih zs (fun z hz => h z (by simp [hz])) (by simpa using hn)
    rw [nv_snoc, Nat.pow_succ]
    generalize (256 ^ n : Nat) = q at *
    omega
theorem nv_inj (n : Nat) : ∀ (xs ys : List Int), xs.length = n → ys.length = n → Byts xs → Byts ys → nv xs = nv ys → xs = ys := by
  induction n with
  | zero => intro xs ys h1 h2 _ _ _; rw [List.eq_nil_of_length_eq_zero h1, List.eq_nil_of_length_eq_zero h2]
  | succ n ih =>
    intro xs ys h1 h2 b1 b2 h
    obtain ⟨xs', a, rfl⟩ : ∃ l a, xs = l ++ [a] := ⟨xs.dropLast, xs.getLast (by intro e; simp [e] at h1), (List.dropLast_concat_getLast _).symm⟩
    obtain ⟨ys', b, rfl⟩ : ∃ l a, ys = l ++ [a] := ⟨ys.dropLast, ys.getLast (by intro e; simp [e] at h2), (List.dropLast_concat_getLast _).symm⟩
    rw [nv_snoc, nv_snoc] at h
    have ha := b1 a (by simp)
    have hb := b2 b (by simp)
    rw [ih xs' ys' (by simpa using h1) (by simpa using h2) (fun z hz => b1 z (by simp [hz])) (fun z hz => b2 z (by simp [hz])) (by omega), show a = b by omega]
/-- bytes out of a number out of bytes -/
theorem beB_nv (zs : List Int) (n : Nat) (hl : zs.length = n) (h : Byts zs) (v : Int) (hv : v % ((256 ^ n : Nat) : Int) = nv zs % ((256 ^ n : Nat) : Int)) : beB v n = zs := by
  refine nv_inj n _ _ (beB_len v n) hl (beB_in v n) h ?_
  have hb := nv_bd zs h
  rw [hl] at hb
  rw [nv_beB, hv, Int.emod_eq_of_lt hb.1 hb.2]

/-- what get answers -/
def gv (zs : List Int) : Int := IntKind.i64.wrap (nv zs)
theorem wrap_eq (x : Int) : IntKind.i64.wrap x = if x % 18446744073709551616 < 9223372036854775808 then x % 18446744073709551616 else x % 18446744073709551616 - 18446744073709551616 := by
  have e : (2 : Int) ^ 64 = 18446744073709551616 := by decide
  have e2 : (2 : Int) ^ (64 - 1) = 9223372036854775808 := by decide
  simp only [IntKind.wrap, IntKind.signed, IntKind.bits, Bool.true_and, decide_eq_true_eq, ge_iff_le, e, e2]
  split <;> split <;> omega
theorem gv_in (zs : List Int) : In64 (gv zs) := by
  unfold gv In64
  rw [wrap_eq]
  split <;> omega
theorem gv_beB8 (v : Int) (h : In64 v) : gv (beB v 8) = v := by
  unfold gv In64 at *
  rw [nv_beB, wrap_eq]
  simp only [show ((256 ^ 8 : Nat) : Int) = 18446744073709551616 by decide]
  split <;> omega
theorem gv_beB4 (v : Int) (h0 : 0 ≤ v) (h : v < 4294967296) : gv (beB v 4) = v := by
  unfold gv
  rw [nv_beB, wrap_eq]
  simp only [show ((256 ^ 4 : Nat) : Int) = 4294967296 by decide]
  split <;> omega
theorem beB8_gv (zs : List Int) (hl : zs.length = 8) (h : Byts zs) : beB (gv zs) 8 = zs := by
  refine beB_nv zs 8 hl h _ ?_
  unfold gv
  rw [wrap_eq]
  simp only [show ((256 ^ 8 : Nat) : Int) = 18446744073709551616 by decide]
  split <;> omega
theorem beB4_gv (zs : List Int) (hl : zs.length = 4) (h : Byts zs) : beB (gv zs) 4 = zs ∧ 0 ≤ gv zs ∧ gv zs < 4294967296 := by
  have hb := nv_bd zs h
  rw [hl] at hb
  simp only [show ((256 ^ 4 : Nat) : Int) = 4294967296 by decide] at hb
  have e : gv zs = nv zs := by
    unfold gv
    rw [wrap_eq]
    split <;> omega
  rw [e]
  exact ⟨beB_nv zs 4 hl h _ rfl, hb.1, hb.2⟩
/-- get's step -/
theorem or_low (x c : Int) (hx : x % 256 = 0) (h0 : 0 ≤ c) (h1 : c ≤ 255) : bits .or .i64 x c = IntKind.i64.wrap (x + c) := by
  obtain ⟨c, rfl⟩ := Int.eq_ofNat_of_zero_le h0
  have key : ∀ x y, bits .or .i64 x y = IntKind.i64.wrap (((BitVec.ofInt 64 x ||| BitVec.ofInt 64 y).toNat : Nat) : Int) := fun _ _ => rfl
  have e1 : (BitVec.ofInt 64 x).toNat = ((x % 18446744073709551616).toNat / 256) <<< 8 := by
    rw [BitVec.toNat_ofInt, Nat.shiftLeft_eq]; omega
  have e2 : (BitVec.ofInt 64 (c : Int)).toNat = c := by
    rw [BitVec.toNat_ofInt]; omega
  rw [key, BitVec.toNat_or, e1, e2, ← Nat.shiftLeft_add_eq_or_of_lt (by omega), Nat.shiftLeft_eq, wrap_eq, wrap_eq]
  split <;> split <;> omega
theorem gv_snoc (zs : List Int) (c : Int) (h0 : 0 ≤ c) (h1 : c ≤ 255) : bits .or .i64 (IntKind.i64.wrap (gv zs * 256)) c = gv (zs ++ [c]) := by
  rw [or_low _ _ (by unfold gv; rw [wrap_eq, wrap_eq]; split <;> split <;> omega) h0 h1]
  unfold gv
  rw [nv_snoc]
  simp only [wrap_eq]
  split <;> split <;> split <;> omega

/-- what is wrong with a message -/
def rightE (k f r : Int) (n : Nat) : Int := if k < 1 ∨ 5 < k then 4 else if f < 0 ∨ 4 ≤ f ∨ r < 0 ∨ 2147483648 ≤ r then 3 else if 24 < n then 6 else 0
theorem right0 {k f r : Int} {n : Nat} : rightE k f r n = 0 ↔ 1 ≤ k ∧ k ≤ 5 ∧ 0 ≤ f ∧ f ≤ 3 ∧ 0 ≤ r ∧ r < 2147483648 ∧ n ≤ 24 := by
  unfold rightE
  constructor
  · intro h
    split at h
    · cases h
    · split at h
      · cases h
      · split at h
        · cases h
        · omega
  · intro h
    rw [if_neg (by omega), if_neg (by omega), if_neg (by omega)]

/-- the numbers' bytes -/
def valsB (vs : List Int) : List Int := vs.flatMap (beB · 8)
theorem valsB_len (vs : List Int) : (valsB vs).length = 8 * vs.length := by
  induction vs with
  | nil => rfl
  | cons v vs ih => simp only [valsB, List.flatMap_cons, List.length_append, beB_len, List.length_cons] at *; omega
theorem valsB_snoc (vs : List Int) (v : Int) : valsB (vs ++ [v]) = valsB vs ++ beB v 8 := by simp [valsB]
theorem valsB_in (vs : List Int) : Byts (valsB vs) := by
  intro z h
  obtain ⟨v, _, h⟩ := List.mem_flatMap.1 h
  exact beB_in v 8 z h
/-- a message's bytes ahead of the sum -/
def encB (k f r : Int) (vs : List Int) : List Int := [87, k, f] ++ beB r 4 ++ [(vs.length : Int)] ++ valsB vs
theorem encB_len (k f r : Int) (vs : List Int) : (encB k f r vs).length = 8 + 8 * vs.length := by
  simp [encB, beB_len, valsB_len]; omega
theorem encB_in (k f r : Int) (vs : List Int) (h : rightE k f r vs.length = 0) : Byts (encB k f r vs) := by
  obtain ⟨h1, h2, h3, h4, h5, h6, h7⟩ := right0.1 h
  intro z hz
  simp only [encB, List.mem_append, List.mem_cons, List.not_mem_nil, or_false] at hz
  rcases hz with ((((rfl | rfl | rfl) | hz) | rfl) | hz)
  · omega
  · omega
  · omega
  · exact beB_in _ _ z hz
  · omega
  · exact valsB_in _ z hz

/-- the numbers of bytes, eight each -/
def chop : Nat → List Int → List Int
  | 0, _ => []
  | n + 1, zs => gv (zs.take 8) :: chop n (zs.drop 8)
theorem chop_len (n : Nat) (zs : List Int) : (chop n zs).length = n := by
  induction n generalizing zs with
  | zero => rfl
  | succ n ih => simp [chop, ih]
theorem chop_in (n : Nat) (zs : List Int) : ∀ z ∈ chop n zs, In64 z := by
  induction n generalizing zs with
  | zero => intro z h; cases h
  | succ n ih =>
    intro z h
    simp only [chop, List.mem_cons] at h
    rcases h with rfl | h
    · exact gv_in _
    · exact ih _ z h
theorem chop_vals (vs : List Int) (hv : ∀ v ∈ vs, In64 v) : chop vs.length (valsB vs) = vs := by
  induction vs with
  | nil => rfl
  | cons v vs ih =>
    have e : valsB (v :: vs) = beB v 8 ++ valsB vs := by simp [valsB]
    rw [e, List.length_cons, chop, List.take_left' (beB_len v 8), List.drop_left' (beB_len v 8), gv_beB8 v (hv v (by simp)), ih (fun z hz => hv z (by simp [hz]))]
theorem vals_chop (n : Nat) (zs : List Int) (hl : zs.length = 8 * n) (h : Byts zs) : valsB (chop n zs) = zs := by
  induction n generalizing zs with
  | zero => rw [List.eq_nil_of_length_eq_zero (l := zs) (by omega)]; rfl
  | succ n ih =>
    have e : valsB (chop (n + 1) zs) = beB (gv (zs.take 8)) 8 ++ valsB (chop n (zs.drop 8)) := by simp [valsB, chop]
    rw [e, beB8_gv _ (by simp; omega) (fun z hz => h z (List.mem_of_mem_take hz)), ih _ (by simp; omega) (fun z hz => h z (List.mem_of_mem_drop hz)), List.take_append_drop]
theorem chop_snoc (n : Nat) (zs : List Int) : chop (n + 1) zs = chop n zs ++ [gv ((zs.drop (8 * n)).take 8)] := by
  induction n generalizing zs with
  | zero => simp [chop]
  | succ n ih =>
    rw [chop, ih, chop, List.cons_append, List.drop_drop, show 8 * (n + 1) = 8 + 8 * n by omega]

/-- zs are the bytes of the message k f r vs -/
def IsMsg (zs : List Int) (k f r : Int) (vs : List Int) : Prop := rightE k f r vs.length = 0 ∧ (∀ v ∈ vs, In64 v) ∧ zs = sealed (encB k f r vs)
theorem IsMsg.len {zs : List Int} {k f r : Int} {vs : List Int} (h : IsMsg zs k f r vs) : zs.length = 12 + 8 * vs.length ∧ vs.length ≤ 24 := by
  obtain ⟨h1, h2, rfl⟩ := h
  have := (right0.1 h1).2.2.2.2.2.2
  rw [sealed_len, encB_len]
  omega
theorem IsMsg.take {zs : List Int} {k f r : Int} {vs : List Int} (h : IsMsg zs k f r vs) : zs.take (zs.length - 4) = encB k f r vs := by
  obtain ⟨h1, h2, rfl⟩ := h
  rw [sealed_len, Nat.add_sub_cancel, sealed_take]
theorem IsMsg.tail {zs : List Int} {k f r : Int} {vs : List Int} (h : IsMsg zs k f r vs) : tailTo zs (zs.length - 4) 4 = (sumFrom 0#32 (zs.take (zs.length - 4))).toNat := by
  rw [h.take]
  obtain ⟨h1, h2, rfl⟩ := h
  rw [sealed_len, Nat.add_sub_cancel, sealed_tail]
theorem getD_app {xs ys : List Int} {i : Nat} (h : i < xs.length) : (xs ++ ys).getD i 0 = xs.getD i 0 := by simp [List.getD, List.getElem?_append_left h]
theorem encB_at (k f r : Int) (vs : List Int) : (encB k f r vs).getD 0 0 = 87 ∧ (encB k f r vs).getD 1 0 = k ∧ (encB k f r vs).getD 2 0 = f ∧ (encB k f r vs).getD 7 0 = vs.length ∧ ((encB k f r vs).drop 3).take 4 = beB r 4 ∧ (encB k f r vs).drop 8 = valsB vs := by
  obtain ⟨a, b, c, d, hd⟩ : ∃ a b c d, beB r 4 = [a, b, c, d] := by
    have h4 := beB_len r 4
    match beB r 4, h4 with
    | [a, b, c, d], _ => exact ⟨a, b, c, d, rfl⟩
  unfold encB
  rw [hd]
  exact ⟨rfl, rfl, rfl, rfl, rfl, rfl⟩
theorem IsMsg.at0 {zs : List Int} {k f r : Int} {vs : List Int} (h : IsMsg zs k f r vs) : zs.getD 0 0 = 87 := by
  obtain ⟨h1, h2, rfl⟩ := h
  unfold sealed
  rw [getD_app (by rw [encB_len]; omega)]
  exact (encB_at k f r vs).1
/-- no two messages have the same bytes -/
theorem IsMsg.same {zs : List Int} {k f r k' f' r' : Int} {vs vs' : List Int} (h : IsMsg zs k f r vs) (h' : IsMsg zs k' f' r' vs') : k = k' ∧ f = f' ∧ r = r' ∧ vs = vs' := by
  have e : encB k f r vs = encB k' f' r' vs' := by rw [← h.take, h'.take]
  obtain ⟨-, a1, a2, a3, a4, a5⟩ := encB_at k f r vs
  obtain ⟨-, b1, b2, b3, b4, b5⟩ := encB_at k' f' r' vs'
  rw [e] at a1 a2 a3 a4 a5
  obtain ⟨-, -, -, -, hr0, hr1, -⟩ := right0.1 h.1
  obtain ⟨-, -, -, -, gr0, gr1, -⟩ := right0.1 h'.1
  have hl : vs.length = vs'.length := by have := a3.symm.trans b3; omega
  refine ⟨a1.symm.trans b1, a2.symm.trans b2, ?_, ?_⟩
  · rw [← gv_beB4 r hr0 (by omega), ← gv_beB4 r' gr0 (by omega), ← a4, ← b4]
  · rw [← chop_vals vs h.2.1, ← chop_vals vs' h'.2.1, ← a5, ← b5, hl]
/-- bytes that pass all tests are a message's -/
theorem isMsg_of (zs : List Int) (hz : Byts zs) (hl : 12 ≤ zs.length) (h0 : zs.getD 0 0 = 87) (ht : tailTo zs (zs.length - 4) 4 = (sumFrom 0#32 (zs.take (zs.length - 4))).toNat) (n : Nat) (hn : (zs.take (zs.length - 4)).getD 7 0 = n) (hlen : zs.length - 4 = 8 + 8 * n)
    (hr : rightE ((zs.take (zs.length - 4)).getD 1 0) ((zs.take (zs.length - 4)).getD 2 0) (gv (((zs.take (zs.length - 4)).drop 3).take 4)) n = 0) :
    IsMsg zs ((zs.take (zs.length - 4)).getD 1 0) ((zs.take (zs.length - 4)).getD 2 0) (gv (((zs.take (zs.length - 4)).drop 3).take 4)) (chop n ((zs.take (zs.length - 4)).drop 8)) := by
  have hs : zs = sealed (zs.take (zs.length - 4)) := by
    have h1 := le_tail zs (zs.length - 4) (by omega) hz
    rw [ht] at h1
    exact h1
  have hb : Byts (zs.take (zs.length - 4)) := fun z h => hz z (List.mem_of_mem_take h)
  have h0' : (zs.take (zs.length - 4)).getD 0 0 = 87 := by
    rw [← h0]
    simp only [List.getD]
    rw [List.getElem?_take, if_pos (by omega)]
  have hL : (zs.take (zs.length - 4)).length = 8 + 8 * n := by rw [List.length_take]; omega
  refine ⟨by rw [chop_len]; exact hr, chop_in _ _, ?_⟩
  generalize zs.take (zs.length - 4) = ys at *
  rw [hs]
  congr 1
  obtain ⟨a0, a1, a2, a3, a4, a5, a6, a7, hd⟩ : ∃ a0 a1 a2 a3 a4 a5 a6 a7, ys.take 8 = [a0, a1, a2, a3, a4, a5, a6, a7] := by
    have h8 : (ys.take 8).length = 8 := by simp; omega
    match ys.take 8, h8 with
    | [a0, a1, a2, a3, a4, a5, a6, a7], _ => exact ⟨a0, a1, a2, a3, a4, a5, a6, a7, rfl⟩
  have hy : ys = [a0, a1, a2, a3, a4, a5, a6, a7] ++ ys.drop 8 := by rw [← hd, List.take_append_drop]
  have hd8 : ys.drop 8 = ys.drop 8 := rfl
  have hb8 : Byts (ys.drop 8) := fun z h => hb z (List.mem_of_mem_drop h)
  have hl8 : (ys.drop 8).length = 8 * n := by simp; omega
  generalize ys.drop 8 = ds at *
  subst hy
  simp only [List.getD, List.cons_append, List.getElem?_cons_zero, List.getElem?_cons_succ, Option.getD_some, List.drop_succ_cons, List.drop_zero, List.take_succ_cons, List.take_zero] at *
  have h4 := (beB4_gv [a3, a4, a5, a6] rfl (fun z hz => hb z (by simp at hz ⊢; rcases hz with h | h | h | h <;> simp [h]))).1
  unfold encB
  rw [h4, chop_len, vals_chop n ds hl8 hb8, h0', hn]
  rfl
end Go.Proofs.Ytccebaadpjflkaa.Wr
