/- Merged: ClIn NodeBegin NodeRd NodeMem1. -/
import Derived.Test.YtofeoeknmlkjgaaZ09
import Derived.Test.YtofeoeknmlkjgaaZ15
import Derived.Test.YtofeoeknmlkjgaaZ31
import Derived.Test.YtofeoeknmlkjgaaZ36
import Derived.Test.YtofeoeknmlkjgaaZ37
import Derived.Test.YtofeoeknmlkjgaaZ39
import Derived.Test.YtofeoeknmlkjgaaZ41
import Derived.Test.YtofeoeknmlkjgaaZ42
import Derived.Test.YtofeoeknmlkjgaaZ44
import Derived.Test.YtofeoeknmlkjgaaZ46
import Derived.Test.YtofeoeknmlkjgaaZ47
set_option linter.unusedVariables false
set_option linter.unusedSimpArgs false
section
/- A frame's numbers stay within 64 bits (plain). -/
set_option linter.unusedVariables false
namespace Go.Proofs.Ytofeoeknmlkjgaa.Nk
open Go.RowKit Go.Proofs.Ytofeoeknmlkjgaa Mb Fi Sm

def MsIn (L : List Pm) : Prop := ∀ x ∈ L, ∀ v ∈ x.vs, In64 v
theorem hear_in {id fr kind : Int} {many : Nat} {L : List Pm} (h : MsIn L) : ∀ i l, hearF id fr kind many L i = some l → ∀ v ∈ l, In64 v :=
  hearF_in (P := In64) L (fun _ => none) h (fun i l e => by cases e)
theorem told_in {h : Hd} {k d b : Nat} (hh : ∀ i l, h i = some l → ∀ v ∈ l, In64 v) (j : Nat) : In64 (toldF h k d b j) := outO_in zero64 hh 4 j
theorem aF_in {n : Nd} {L : List Pm} (h : MsIn L) (hd : ∀ j, In64 (n.di j)) (d j : Nat) : In64 (aF n (decH n L) d j) := by
  unfold aF
  split
  · exact hd j
  · exact maj3_in (hd j) (told_in (hear_in h) 0) (told_in (hear_in h) 1) zero64
def NOk (n : Nd) : Prop := n.tu.In ∧ ∀ a, a < 3 → (n.ax a).In
section
variable {x : Fr} {N : Nat → Nd}
end
end Go.Proofs.Ytofeoeknmlkjgaa.Nk
end
section
/- node.Begin. -/
set_option linter.unusedVariables false
namespace Go.Proofs.Ytofeoeknmlkjgaa.Nk
open Go.RowKit Go.Proofs.Ytofeoeknmlkjgaa Mb Fi Sm

def begK (id : Int) (t : Tu) (k : Nat) : Nd := ⟨id, 0, t, fun a => if a < k then begS 0 else ⟨0, 0, 0, 0, 0, false, 0⟩, RB0, fun _ => 0, fun _ => 0, fun _ => 0, fun _ => 0, 0, 0, false⟩
def begN (id : Int) (t : Tu) : Nd := begK id t 3
theorem he_axp (n : Nd) (va : Value) (a : Nat) (ha : a < 3) (s : St) : ∀ i, i < 74 → ({ n with ax := upd n.ax a s } : Nd).c va i = if 6 + a * 7 ≤ i ∧ i < 6 + a * 7 + (stL s).toArray.toList.length then (stL s).toArray.toList.getD (i - (6 + a * 7)) undef else n.c va i := by
  intro i hi
  have el : (stL s).toArray.toList.length = 7 := rfl
  rw [el]
  by_cases h : 6 + a * 7 ≤ i ∧ i < 6 + a * 7 + 7
  · rw [if_pos h, c_ax (by omega) (by omega)]
    show stc (upd n.ax a s ((i - 6) / 7)) ((i - 6) % 7) = _
    rw [show (i - 6) / 7 = a by omega, upd_same, show (i - 6) % 7 = i - (6 + a * 7) by omega]
    show _ = (stL s).getD _ undef
    simp only [List.getD]
    rw [stL_get s _ (by omega)]; rfl
  · rw [if_neg h]
    by_cases h2 : 6 ≤ i ∧ i < 27
    · rw [c_ax h2.1 h2.2, c_ax h2.1 h2.2]
      show stc (upd n.ax a s ((i - 6) / 7)) _ = _
      rw [upd_far _ _ (by omega)]
    · exact c_ax_out n _ va i (by omega)
theorem begK_put (id : Int) (t : Tu) (a : Nat) : ({ begK id t a with ax := upd (begK id t a).ax a (begS 0) } : Nd) = begK id t (a + 1) := by
  have e : upd (begK id t a).ax a (begS 0) = (begK id t (a + 1)).ax := by
   funext j
   show upd _ a _ j = (if j < a + 1 then begS 0 else _)
   by_cases e : j = a
   · subst e; rw [upd_same, if_pos (by omega)]
   · rw [upd_far _ _ e]
     show (if j < a then begS 0 else _) = _
     by_cases c : j < a
     · rw [if_pos c, if_pos (by omega)]
     · rw [if_neg c, if_neg (by omega)]
  rw [e]; rfl
theorem results_row_tmp {P : Program} {fn : Func} {p q : Tmp} {ty : TypeId} (h : fn.results = #[.cell p ty, .tmp q]) (tmps : Array Value) (w : World) (g : Nat) (t : TypeId) (cs : Array Value) (d : TypeDesc) (e : Value)
    (hp : tmps.getD p undef = .pointer (some ⟨g, 0, none⟩)) (hq : tmps.getD q undef = e) (hg : Blk w g t cs) (hu : P.underlying ty = some d) (hd : (match d with | .struct _ | .array _ _ => true | _ => false) = true) (hi : (P.info? ty).map (·.size) = some cs.size) :
    (results fn tmps).run P w = .ok (.tuple #[.agg cs, e]) w := by
  have hp' : tmps[p]?.getD undef = .pointer (some ⟨g, 0, none⟩) := by simpa using hp
  have hq' : tmps[q]?.getD undef = e := by simpa using hq
  simp [results, h, hp', hq', asAddr, run_loadVar_row w g t ty cs (0, 0) d hg hu hd hi]
def BgCut (w0 : World) (id : Int) (t : Tu) (s : Value) (wx : World) : Prop := ∃ q, s = .pointer (some ⟨q, 0, none⟩) ∧ NB wx q (begK id t 0) (.slice none 0 0) ∧ Below w0.heap.size w0 wx ∧ w0.heap.size ≤ q
def BgRel (w0 : World) (q : Nat) (id : Int) (t : Tu) (iv : Value) (wr : World) : Prop := ∃ a : Nat, iv = .int .i64 a ∧ a ≤ 3 ∧ NB wr q (begK id t a) (.slice none 0 0) ∧ Below w0.heap.size w0 wr
theorem BgRel.put {w0 wr w1 w2 : World} {q a : Nat} {id : Int} {t : Tu} {iv : Value} (ha : a < 3) (hiv : iv = .int .i64 ((a + 1 : Nat) : Int)) (hB : Below w0.heap.size w0 wr) (hb : Below wr.heap.size wr w1) (hq : w0.heap.size ≤ q) (hN : NB w2 q (begK id t (a + 1)) (.slice none 0 0)) (hg : w1.grownBy w2 (some q)) : BgRel w0 q id t iv w2 :=
  ⟨a + 1, hiv, ha, hN, (hB.trans (hb.mono hB.size)).grown hg (Nat.le_trans hB.size hb.size) (fun j hj => by cases hj; exact hq)⟩

set_option maxRecDepth 100000 in
set_option maxHeartbeats 4000000 in
theorem nbegin_any (id : Nat) (t : Tu) (w : World) (hid : id < 4) :
    Calls Try.prog 24 #[.int .i64 id, t.val] w fun e w' => e = .returned (.tuple #[.agg (NA (begN id t) (.slice none 0 0)), .int .i64 0]) ∧ Below w.heap.size w w' := by
  obtain ⟨td, tq, tr, tg⟩ := t
  have hzs : (Try.zeroCells45).size = 74 := by kernel_rfl
  have HZS := Lib.hid hzs
  have kb := fun W => begin_any W
  have ks := fun W => Begin_any 0 W
  have KB := Lib.hid kb
  have KS := Lib.hid ks
  have q0 : decide ((id : Int) < 0) = false := by rw [decide_eq_false_iff_not]; omega
  have q1 : decide (4 ≤ (id : Int)) = false := by rw [decide_eq_false_iff_not]; omega
  clear hzs kb ks
  unfold Tu.val
  go_enter Try.func24, Try.ntmps24
  go_upto_region 3 with fail
  have HT := Lib.hid (show TB ((w.alloc (.cells #[.int .i64 td, .int .i64 tq, .int .i64 tr, .int .i64 tg] 23)).alloc (.cells Try.zeroCells45 45)) w.heap.size ⟨td, tq, tr, tg⟩ from (Blk.new _ _ _).alloc _)
  have HZ := Lib.hid (show Blk ((w.alloc (.cells #[.int .i64 td, .int .i64 tq, .int .i64 tr, .int .i64 tg] 23)).alloc (.cells Try.zeroCells45 45)) (w.heap.size + 1) 45 Try.zeroCells45 from Blk.at_ _ _ _ _ (by simp))
  have HB := Lib.hid (show Below w.heap.size w ((w.alloc (.cells #[.int .i64 td, .int .i64 tq, .int .i64 tr, .int .i64 tg] 23)).alloc (.cells Try.zeroCells45 45)) from ((Below.refl _ _).alloc (Nat.le_refl _) _).alloc (by simp) _)
  obtain ⟨W0, hW0⟩ : ∃ W0, (w.alloc (.cells #[.int .i64 td, .int .i64 tq, .int .i64 tr, .int .i64 tg] 23)).alloc (.cells Try.zeroCells45 45) = W0 := ⟨_, rfl⟩
  rw [hW0] at HT HZ HB ⊢
  clear hW0
  go_cut [6] (fun s6 wx => BgCut W0 id ⟨td, tq, tr, tg⟩ s6 wx)
  case first =>
    refine wp_region_G 5 (fun w' => Below W0.heap.size W0 w') (by kernel_rfl) ((Below.refl _ _).drew) (fun hS => ?_)
    refine wpG 0 ?_ rfl (by kernel_rfl) (fun _ _ _ h => h) (by rfl) (fun wx => ?_) hS ?_
    rotate_left
    · go_simp; (try with_reducible rfl)
    try simp only [pts]
    refine wpT 1 ?_ rfl (by kernel_rfl) (fun _ _ _ h => h) (Or.inl ⟨by rfl, fun wx hSw => ?_⟩) hS ?_
    rotate_left
    · have hq := TB.c (Blk.next HT.out hSw); (try dsimp only at hSw); go_simp; (try with_reducible rfl)
    try simp only [pts]
    refine wpAnyG_two (i := 2) (j := 4) rfl rfl (by kernel_rfl) (fun K hK => ?_) (fun K hK => ?_)
    · go_simp
      (with_reducible refine (KB.out _).mono ?_)
      rintro e w6 ⟨rfl, hb6⟩
      have hS6 := hS.trans (hb6.mono hS.size)
      clear hS hb6
      have hS := hS6
      refine hK.out _ _ hS ?_
      clear hK K
      try simp only [pts]
      refine wpT 3 (.agg (NA (begK id ⟨td, tq, tr, tg⟩ 0) (.slice none 0 0))) rfl (by kernel_rfl) (fun _ _ _ h => h) (Or.inl ⟨by rfl, fun wx hSw => by kernel_rfl⟩) hS ?_
      try simp only [pts]
      have hs6 := hS.size
      refine wpAnyG_one (i := 4) rfl (by kernel_rfl) (fun K hK => ?_)
      go_simp
      have hX1 : Below W0.heap.size W0 (w6.alloc (.cells Try.zeroCells45 45)) := hS.alloc hS.size _
      clear hS
      have hS : Below W0.heap.size W0 (w6.alloc (.cells Try.zeroCells45 45)) := hX1
      have hz : Blk (w6.alloc (.cells Try.zeroCells45 45)) w6.heap.size 45 Try.zeroCells45 := Blk.new _ _ _
      refine hK.out _ _ hS ?_
      clear hK K
      try simp only [pts]
      refine wpAnyG_last rfl (by kernel_rfl) (by kernel_rfl) (by kernel_rfl) (fun K hK => ?_)
      rw [if_pos (by rfl)]
      refine wp_store_row 45 (.tmp 6) (.tmp 18) rfl (w6.heap.size) _ _ (NA (begK id ⟨td, tq, tr, tg⟩ 0) (.slice none 0 0)) rfl rfl hz (by rw [NA_size, HZS.out]) (by rw [NA_size]; exact infoNode) (NA_one _ _ _ _) (fun w8 hN8 hg8 => ?_)
      refine hK.out _ _ ?_
      clear hK K
      try simp only [pts]
      go_wp2_with fail
      go_meet
      exact ⟨_, rfl, hN8, hS.grown hg8 hS.size (fun j hj => by cases hj; omega), by omega⟩
    · go_simp
      have hX1 : Below W0.heap.size W0 (W0.alloc (.cells Try.zeroCells45 45)) := (Below.refl W0.heap.size W0).alloc (Below.refl W0.heap.size W0).size _
      clear hS
      have hS : Below W0.heap.size W0 (W0.alloc (.cells Try.zeroCells45 45)).drew := hX1.drew
      have hz : Blk (W0.alloc (.cells Try.zeroCells45 45)).drew W0.heap.size 45 Try.zeroCells45 := Blk.new _ _ _
      refine hK.out _ _ hS ?_
      clear hK K
      try simp only [pts]
      refine wpAnyG_one (i := 2) rfl (by kernel_rfl) (fun K hK => ?_)
      go_simp
      (with_reducible refine (KB.out _).mono ?_)
      rintro e w6 ⟨rfl, hb6⟩
      have hS6 := hS.trans (hb6.mono hS.size)
      have hz6 := hz.next hb6
      have hlz := Blk.lt hz
      clear hz
      have hz := hz6
      clear hS hb6
      have hS := hS6
      refine hK.out _ _ hS ?_
      clear hK K
      try simp only [pts]
      refine wpT 3 (.agg (NA (begK id ⟨td, tq, tr, tg⟩ 0) (.slice none 0 0))) rfl (by kernel_rfl) (fun _ _ _ h => h) (Or.inl ⟨by rfl, fun wx hSw => by kernel_rfl⟩) hS ?_
      try simp only [pts]
      refine wpAnyG_last rfl (by kernel_rfl) (by kernel_rfl) (by kernel_rfl) (fun K hK => ?_)
      rw [if_pos (by rfl)]
      refine wp_store_row 45 (.tmp 6) (.tmp 18) rfl (W0.heap.size) _ _ (NA (begK id ⟨td, tq, tr, tg⟩ 0) (.slice none 0 0)) rfl rfl hz (by rw [NA_size, HZS.out]) (by rw [NA_size]; exact infoNode) (NA_one _ _ _ _) (fun w8 hN8 hg8 => ?_)
      refine hK.out _ _ ?_
      clear hK K
      try simp only [pts]
      go_wp2_with fail
      go_meet
      exact ⟨_, rfl, hN8, hS.grown hg8 hS.size (fun j hj => by cases hj; omega), by omega⟩
  case rest =>
    obtain ⟨q6, rfl, hN6, hB6, hq6⟩ := hcut
    have HN6 := Lib.hid hN6
    have HB6 := Lib.hid hB6
    have HQ6 := Lib.hid hq6
    clear hN6 hB6 hq6
    go_wp2_with fail
    go_loopw [19] (fun iv wr => BgRel W0 q6 id ⟨td, tq, tr, tg⟩ iv wr) (fun iv _ => 3 - (intOf iv).toNat)
    case atStart => exact ⟨0, rfl, by omega, HN6.out, HB6.out⟩
    case round =>
      clear HN6 HB6
      obtain ⟨a, rfl, ha3, hN, hB⟩ := hrel
      have HN := Lib.hid hN
      have HBr := Lib.hid hB
      clear hN hB
      by_cases ha : a < 3
      · have p0 : (a : Int) < 3 := by omega
        have p1 : (0 : Int) ≤ (a : Int) := by omega
        go_wp2_with (first
          | (go_at_call 30; (with_reducible refine (KS.out _).mono ?_); rintro e w1 ⟨rfl, hb1⟩; have HN1 := Lib.hid (NB.next HN.out hb1); have HB1 := Lib.hid hb1; clear hb1; unfold St.val)
          | (refine wpList_store_nb 33 (.tmp 25) (.tmp 23) rfl rfl q6 (6 + a * 7) (stL (begS 0)).toArray (begK id ⟨td, tq, tr, tg⟩ a) { begK id ⟨td, tq, tr, tg⟩ a with ax := upd (begK id ⟨td, tq, tr, tg⟩ a).ax a (begS 0) } _ _ rfl rfl HN1.out (by show 6 + a * 7 + 7 ≤ 74; omega) info7 (stL_one _) (he_axp _ _ a ha _) ?_; intro w2 hN2 hg2; (rw [begK_put] at hN2); have HN2 := Lib.hid hN2; have HG2 := Lib.hid hg2; clear hN2 hg2))
        go_roundw
        case rel => exact BgRel.put ha (by go_num) HBr.out HB1.out HQ6.out HN2.out HG2.out
        case measure => simp [intOf]; omega
      · obtain rfl : a = 3 := by omega
        have hzz := HZ.out.next HBr.out
        have HZZ := Lib.hid hzz
        have hlw := Blk.lt HZ.out
        clear hzz
        go_wp2_with (first
          | (refine wpList_load_at 45 (.tmp 6) rfl rfl q6 rfl _ (NA (begK id ⟨td, tq, tr, tg⟩ 3) (.slice none 0 0)) _ HN.out Try.underlying45 rfl (by rw [NA_size]; exact infoNode) ?_)
          | (refine wpList_store_at 45 (.tmp 4) (.tmp 27) rfl rfl (w.heap.size + 1) _ _ (NA (begK id ⟨td, tq, tr, tg⟩ 3) (.slice none 0 0)) rfl rfl HZZ.out (by rw [NA_size, HZS.out]) (by rw [NA_size]; exact infoNode) (NA_one _ _ _ _) ?_; intro w2 hN2 hg2; have HN2 := Lib.hid hN2; have HG2 := Lib.hid hg2; clear hN2 hg2))
        refine bodyPost_ret (results_row_tmp Try.results24 _ _ (w.heap.size + 1) _ _ _ (.int .i64 0) rfl rfl HN2.out Try.underlying45 rfl (by rw [NA_size]; exact infoNode)) rfl ?_
        have hbw := HB.out.trans (HBr.out.mono HB.out.size)
        exact ⟨rfl, hbw.grown HG2.out hbw.size (fun j hj => by cases hj; omega)⟩
end Go.Proofs.Ytofeoeknmlkjgaa.Nk
end
section
/- A computer and messages that came in. -/
set_option linter.unusedVariables false
namespace Go.Proofs.Ytofeoeknmlkjgaa.Nk
open Go.RowKit Go.Proofs.Ytofeoeknmlkjgaa Mb Fi Sm Go.ChangeShapes Go.WideShapes

def nodeT : List TypeId := [3, 3, 3, 3, 3, 3, 3, 3, 3, 3, 3, 4, 3, 3, 3, 3, 3, 3, 4, 3, 3, 3, 3, 3, 3, 4, 3, 4, 4, 4, 4, 3, 3, 3, 3, 3, 3, 3, 3, 3, 3, 3, 3, 3, 3, 3, 3, 3, 3, 3, 3, 3, 3, 3, 3, 3, 3, 3, 3, 3, 3, 3, 3, 3, 3, 3, 3, 3, 3, 3, 3, 3, 4, 41]
def isB (k : Nat) : Bool := k == 11 || k == 18 || k == 25 || k == 27 || k == 28 || k == 29 || k == 30 || k == 72
theorem nodeT_at : ∀ j : Fin 74, nodeT[j.1]? = some (if isB j.1 = true then 4 else if j.1 = 73 then 41 else 3) := by decide
def rdN (f : Nat → Int) (b : Nat → Bool) : Nd := ⟨f 0, f 1, ⟨f 2, f 3, f 4, f 5⟩, fun a => ⟨f (6 + 7 * a), f (7 + 7 * a), f (8 + 7 * a), f (9 + 7 * a), f (10 + 7 * a), b (11 + 7 * a), f (12 + 7 * a)⟩, ⟨fun i => b (27 + i), fun i => f (31 + i), fun i => f (35 + i)⟩,
  fun i => f (39 + i), fun i => f (51 + i), fun i => f (55 + i), fun i => f (67 + i), f 70, f 71, b 72⟩
set_option maxRecDepth 100000 in
theorem rdN_c {f : Nat → Int} {b : Nat → Bool} {va : Value} {l : List Value} (hi : ∀ j, j < 74 → isB j = false → j ≠ 73 → l[j]? = some (.int .i64 (f j))) (hb : ∀ j, j < 74 → isB j = true → l[j]? = some (.bool (b j))) (hv : l[73]? = some va) :
    ∀ k, k < 74 → l[k]? = some ((rdN f b).c va k) := by
  intro k hk
  unfold Nd.c
  by_cases a : k < 1
  · rw [if_pos a]; obtain rfl : k = 0 := by omega
    exact hi 0 (by omega) rfl (by omega)
  rw [if_neg a]
  by_cases a : k < 2
  · rw [if_pos a]; obtain rfl : k = 1 := by omega
    exact hi 1 (by omega) rfl (by omega)
  rw [if_neg a]
  by_cases a : k < 6
  · rw [if_pos a]
    have : k = 2 ∨ k = 3 ∨ k = 4 ∨ k = 5 := by omega
    rcases this with rfl | rfl | rfl | rfl <;> exact hi _ (by omega) rfl (by omega)
  rw [if_neg a]
  by_cases a : k < 27
  · rw [if_pos a]
    have e : k = 6 + 7 * ((k - 6) / 7) + (k - 6) % 7 := by omega
    have h3 : (k - 6) / 7 = 0 ∨ (k - 6) / 7 = 1 ∨ (k - 6) / 7 = 2 := by omega
    have h7 : (k - 6) % 7 = 0 ∨ (k - 6) % 7 = 1 ∨ (k - 6) % 7 = 2 ∨ (k - 6) % 7 = 3 ∨ (k - 6) % 7 = 4 ∨ (k - 6) % 7 = 5 ∨ (k - 6) % 7 = 6 := by omega
    rcases h3 with h3 | h3 | h3 <;> rcases h7 with h7 | h7 | h7 | h7 | h7 | h7 | h7 <;> rw [h3, h7] at e ⊢ <;> subst e <;> first
      | exact hi _ (by omega) rfl (by omega)
      | exact hb _ (by omega) rfl
  rw [if_neg a]
  by_cases a : k < 39
  · rw [if_pos a]
    have h : k = 27 ∨ k = 28 ∨ k = 29 ∨ k = 30 ∨ k = 31 ∨ k = 32 ∨ k = 33 ∨ k = 34 ∨ k = 35 ∨ k = 36 ∨ k = 37 ∨ k = 38 := by omega
    rcases h with rfl | rfl | rfl | rfl | rfl | rfl | rfl | rfl | rfl | rfl | rfl | rfl <;> first
      | exact hi _ (by omega) rfl (by omega)
      | exact hb _ (by omega) rfl
  rw [if_neg a]
  have no : ∀ j, 39 ≤ j → j < 72 → isB j = false := fun j h1 h2 => by simp [isB]; omega
  by_cases a : k < 51
  · rw [if_pos a, hi k hk (no k (by omega) (by omega)) (by omega)]
    show _ = some (Value.int .i64 (f (39 + (k - 39))))
    rw [show 39 + (k - 39) = k by omega]
  rw [if_neg a]
  by_cases a : k < 55
  · rw [if_pos a, hi k hk (no k (by omega) (by omega)) (by omega)]
    show _ = some (Value.int .i64 (f (51 + (k - 51))))
    rw [show 51 + (k - 51) = k by omega]
  rw [if_neg a]
  by_cases a : k < 67
  · rw [if_pos a, hi k hk (no k (by omega) (by omega)) (by omega)]
    show _ = some (Value.int .i64 (f (55 + (k - 55))))
    rw [show 55 + (k - 55) = k by omega]
  rw [if_neg a]
  by_cases a : k < 70
  · rw [if_pos a, hi k hk (no k (by omega) (by omega)) (by omega)]
    show _ = some (Value.int .i64 (f (67 + (k - 67))))
    rw [show 67 + (k - 67) = k by omega]
  rw [if_neg a]
  by_cases a : k < 71
  · rw [if_pos a]; obtain rfl : k = 70 := by omega
    exact hi _ (by omega) rfl (by omega)
  rw [if_neg a]
  by_cases a : k < 72
  · rw [if_pos a]; obtain rfl : k = 71 := by omega
    exact hi _ (by omega) rfl (by omega)
  rw [if_neg a]
  by_cases a : k < 73
  · rw [if_pos a]; obtain rfl : k = 72 := by omega
    exact hb _ (by omega) rfl
  · rw [if_neg a]; obtain rfl : k = 73 := by omega
    exact hv
structure NIn (n : Nd) : Prop where
  ax : ∀ a, a < 3 → (n.ax a).In
  tu : n.tu.In
  di : ∀ j, In64 (n.di j)
  he : ∀ j, In64 (n.he j)
set_option maxRecDepth 100000 in
theorem bool_at {H : Type} {enc : TypeId × Value → H} {W : World} {fuel : Nat} {cs : List Value} {x : DataW H × List MemPlace} (hl : cs.length = 1)
    (h : DataW.trod enc Try.prog W 0 (fun _ => true) true fuel 4 cs = some x) : ∃ b : Bool, cs = [.bool b] := by
  obtain ⟨b, hb, _⟩ := DataW.trod_bool Try.underlying4 h
  exact ⟨b, hb⟩
theorem map_flat : ∀ L : List Bool, L.map Value.bool = L.flatMap (fun b => [Value.bool b])
  | [] => rfl
  | b :: L => by rw [List.map_cons, List.flatMap_cons, map_flat L]; rfl
set_option maxRecDepth 100000 in
theorem node_in {H : Type} {enc : TypeId × Value → H} {W : World} {base : Nat} {v : Value} {d : DataW H} {p : List MemPlace} (h : Value.okWide Try.prog W .any base 45 v)
    (k0 : DataW.Trod enc Try.prog W 0 (fun _ => true) true 45 v d p) (hw : ∀ x ∈ d.weights Try.prog 45, x ≤ reachBytes) :
    ∃ (n : Nd) (A : Option Addr) (m c : Nat) (bs : List Bool), v = .agg (NA n (.slice A m c)) ∧ NIn n ∧ VR W 1 A m c (bs.map Value.bool) ∧ m ≤ c ∧ m ≤ 140737488351232 := by
  obtain ⟨l, hl1, hl2, hl3⟩ := ok_agg (.inl ⟨_, Try.underlying45⟩) (ts := nodeT) (by kernel_rfl) (by kernel_rfl) h
  have hl74 : l.length = 74 := hl2
  have typ := fun j (hj : j < 74) => nodeT_at ⟨j, hj⟩
  have exi : ∀ j, j < 74 → ∃ z : Int, (isB j = false → j ≠ 73 → l[j]? = some (.int .i64 z)) ∧ In64 z := by
    intro j hj
    by_cases c : isB j = false ∧ j ≠ 73
    · have ht := typ j hj
      simp only [c.1, Bool.false_eq_true, if_false, if_neg c.2] at ht
      obtain ⟨z, hz, hi⟩ := okCell_int Try.underlying3 (hl3 j l[j] _ (List.getElem?_eq_getElem (by omega)) ht)
      exact ⟨z, fun _ _ => by rw [List.getElem?_eq_getElem (by omega), hz], in_i64 hi⟩
    · exact ⟨0, fun a b => absurd ⟨a, b⟩ c, by unfold In64; omega⟩
  have exb : ∀ j, j < 74 → ∃ z : Bool, isB j = true → l[j]? = some (.bool z) := by
    intro j hj
    by_cases c : isB j = true
    · have ht := typ j hj
      simp only [c, if_true] at ht
      obtain ⟨z, hz⟩ := okCell_bool Try.underlying4 (hl3 j l[j] _ (List.getElem?_eq_getElem (by omega)) ht)
      exact ⟨z, fun _ => by rw [List.getElem?_eq_getElem (by omega), hz]⟩
    · exact ⟨false, fun a => absurd a c⟩
  obtain ⟨f0, hf⟩ := Go.Deep.choose_lt exi
  obtain ⟨b0, hb⟩ := Go.Deep.choose_lt exb
  obtain ⟨A, m, c, hva, hmc, _, _, _⟩ := okCell_slice Try.underlying41 (hl3 73 l[73] _ (List.getElem?_eq_getElem (by omega)) (typ 73 (by omega)))
  have hin : ∀ j, In64 (if j < 74 then f0 j else 0) := fun j => by
    split
    · rename_i hj; exact (hf j hj).2
    · unfold In64; omega
  have hv73 : l[73]? = some (.slice A m c) := by rw [List.getElem?_eq_getElem (by omega), hva]
  have hc := rdN_c (f := fun j => if j < 74 then f0 j else 0) (b := b0) (fun j hj a b => by rw [if_pos hj]; exact (hf j hj).1 a b) (fun j hj a => hb j hj a) hv73
  have hva2 : v = .agg (NA (rdN (fun j => if j < 74 then f0 j else 0) b0) (.slice A m c)) := by
    rw [hl1]
    congr 1
    refine Array.ext_getElem? fun j => ?_
    by_cases hj : j < 74
    · unfold NA
      rw [AN_get hj, List.getElem?_toArray, hc j hj]
    · rw [Array.getElem?_eq_none (by simp; omega), Array.getElem?_eq_none (by rw [NA_size]; omega)]
  -- the verdict's list
  obtain ⟨fuel, hh⟩ := k0
  have hcs : v.cells.toList = l := by rw [hl1]; simp [Value.cells]
  rw [hcs] at hh
  obtain ⟨xs, k, _, hxx, _, hxl, hfs⟩ := DataW.trod_struct Try.underlying45 hh
  have hxl2 : 10 < xs.length := by rw [hxl]; decide
  obtain ⟨x10, hx10⟩ : ∃ x, xs[10]? = some x := ⟨_, List.getElem?_eq_getElem hxl2⟩
  have g := hfs 10 _ rfl
  rw [hx10] at g
  have cv : Try.prog.cellsOf 43 = 3 := by kernel_rfl
  have g1 : DataW.trod enc Try.prog W 0 (fun _ => true) true k 43 ((l.drop 71).take 3) = some x10 := by rw [← cv]; exact g
  obtain ⟨ys, k2, _, hyy, _, hyl, hfs2⟩ := DataW.trod_struct Try.underlying43 g1
  have hyl2 : 2 < ys.length := by rw [hyl]; decide
  obtain ⟨y2, hy2⟩ : ∃ x, ys[2]? = some x := ⟨_, List.getElem?_eq_getElem hyl2⟩
  have g2 := hfs2 2 _ rfl
  rw [hy2] at g2
  have cb : Try.prog.cellsOf 41 = 1 := by kernel_rfl
  have g3 : DataW.trod enc Try.prog W 0 (fun _ => true) true k2 41 ((((l.drop 71).take 3).drop 2).take 1) = some y2 := by rw [← cb]; exact g2
  have e1 : (((l.drop 71).take 3).drop 2).take 1 = [.slice A m c] := by
    refine List.ext_getElem? fun j => ?_
    match j with
    | 0 => simpa [List.getElem?_take, List.getElem?_drop] using hv73
    | j + 1 => simp [List.getElem?_take]
  rw [e1] at g3
  have c1 : Try.prog.cellsOf 4 = 1 := by kernel_rfl
  have hb1 : Try.prog.bytesOf 4 = 1 := by kernel_rfl
  obtain ⟨L, q1, q2, _, q4, q5⟩ := vr_in (d := y2.1) (p := y2.2) Try.underlying41 c1 (by decide) ⟨k2, g3⟩ (by
    intro y hy
    have hm := DataW.weights_mem_each (P := Try.prog) (ts := [3, 4, 41]) (ds := ys.map (·.1)) (j := 2) rfl (by rw [List.getElem?_map, hy2]; rfl) y hy
    have hv2 : y ∈ x10.1.weights Try.prog 43 := by
      rw [hyy]
      simp only [DataW.weights, Try.underlying43]
      exact hm
    have hm2 := DataW.weights_mem_each (P := Try.prog) (ts := [3, 3, 23, 34, 38, 40, 36, 40, 39, 3, 43]) (ds := xs.map (·.1)) (j := 10) rfl (by rw [List.getElem?_map, hx10]; rfl) y hv2
    refine hw _ ?_
    have hd : d = .agg (xs.map (·.1)) := (Prod.mk.inj hxx).1
    rw [hd]
    simp only [DataW.weights, Try.underlying45]
    exact hm2) (fun b : Bool => [Value.bool b]) (fun _ => rfl) (fun _ => True) (fun fuel cs x hl h hw => by obtain ⟨b, e⟩ := bool_at hl h; exact ⟨b, e, trivial⟩)
  rw [hb1, Nat.mul_one] at q5
  unfold reachBytes at q5
  refine ⟨_, A, m, c, L, hva2, ⟨fun a ha => ⟨hin (6 + 7 * a), hin (7 + 7 * a), hin (8 + 7 * a), hin (9 + 7 * a), hin (10 + 7 * a), hin (12 + 7 * a)⟩, ⟨hin 2, hin 3, hin 4, hin 5⟩, fun j => hin (39 + j), fun j => hin (51 + j)⟩, ?_, q4, by omega⟩
  rw [map_flat]
  exact q2
theorem flatM_map : ∀ L : List Mg, flatM L = L.flatMap Mg.cells
  | [] => rfl
  | l :: L => by rw [flatM, List.flatMap_cons, flatM_map L]
instance : Inhabited Mg := ⟨⟨0, 0, 0, none, 0, 0, []⟩⟩
set_option maxRecDepth 100000 in
theorem mg_at {H : Type} {enc : TypeId × Value → H} {W : World} {fuel : Nat} {cs : List Value} {x : DataW H × List MemPlace} (hl : cs.length = 4)
    (h : DataW.trod enc Try.prog W 0 (fun _ => true) true fuel 64 cs = some x) (hw : ∀ y ∈ x.1.weights Try.prog 64, y ≤ reachBytes) :
    ∃ D : Mg, cs = D.cells ∧ D.Reads W := by
  match cs, hl with
  | [v0, v1, v2, v3], _ =>
    obtain ⟨xs, k, _, hxx, _, hxl, hf⟩ := DataW.trod_struct Try.underlying64 h
    match xs, hxl with
    | [y0, y1, y2, y3], _ =>
      have c1 : Try.prog.cellsOf 3 = 1 := by kernel_rfl
      have c2 : Try.prog.cellsOf 58 = 1 := by kernel_rfl
      have g0 : DataW.trod enc Try.prog W 0 (fun _ => true) true k 3 ((([v0, v1, v2, v3] : List Value).drop 0).take (Try.prog.cellsOf 3)) = some y0 := hf 0 _ rfl
      rw [c1] at g0
      change DataW.trod enc Try.prog W 0 (fun _ => true) true k 3 [v0] = some y0 at g0
      have g1 : DataW.trod enc Try.prog W 0 (fun _ => true) true k 3 ((([v0, v1, v2, v3] : List Value).drop 1).take (Try.prog.cellsOf 3)) = some y1 := hf 1 _ rfl
      rw [c1] at g1
      change DataW.trod enc Try.prog W 0 (fun _ => true) true k 3 [v1] = some y1 at g1
      have g2 : DataW.trod enc Try.prog W 0 (fun _ => true) true k 3 ((([v0, v1, v2, v3] : List Value).drop 2).take (Try.prog.cellsOf 3)) = some y2 := hf 2 _ rfl
      rw [c1] at g2
      change DataW.trod enc Try.prog W 0 (fun _ => true) true k 3 [v2] = some y2 at g2
      have g3 : DataW.trod enc Try.prog W 0 (fun _ => true) true k 58 ((([v0, v1, v2, v3] : List Value).drop 3).take (Try.prog.cellsOf 58)) = some y3 := hf 3 _ rfl
      rw [c2] at g3
      change DataW.trod enc Try.prog W 0 (fun _ => true) true k 58 [v3] = some y3 at g3
      obtain ⟨z0, e0, _, _⟩ := DataW.trod_int Try.underlying3 g0
      obtain ⟨z1, e1, _, _⟩ := DataW.trod_int Try.underlying3 g1
      obtain ⟨z2, e2, _, _⟩ := DataW.trod_int Try.underlying3 g2
      obtain ⟨A, n, c, e3, hA⟩ : ∃ A n c, v3 = .slice A n c ∧ (A = none → n = 0 ∧ c = 0) := by
        rcases DataW.trod_slice Try.underlying58 g3 with ⟨he, _⟩ | ⟨a, len, cap, _, _, _, _, he, _⟩
        · exact ⟨none, 0, 0, by simpa using he, fun _ => ⟨rfl, rfl⟩⟩
        · exact ⟨some a, len, cap, by simpa using he, fun e => by cases e⟩
      injection e0 with e0; injection e1 with e1; injection e2 with e2
      subst e0 e1 e2 e3
      have hb : Try.prog.bytesOf 3 = 8 := by kernel_rfl
      obtain ⟨zs, hI, hz, hnc, hr⟩ := ints_in Try.underlying58 Try.underlying3 (by kernel_rfl) (enc := enc) (d := y3.1) (p := y3.2) ⟨k, g3⟩ (by
        intro es sp he
        have hm := DataW.weights_mem_each (P := Try.prog) (ts := [3, 3, 3, 58]) (ds := [y0.1, y1.1, y2.1, y3.1]) (j := 3) rfl rfl ((es.length + sp.length) * Try.prog.bytesOf 3) (by rw [he]; simp [DataW.weights, Try.underlying58])
        refine hw _ ?_
        rw [hxx]
        simp only [DataW.weights, Try.underlying64]
        exact hm)
      rw [hb] at hr
      exact ⟨⟨z0, z1, z2, A, n, c, zs⟩, rfl, hI, hA, by unfold reachBytes at hr; show n ≤ _; omega, fun z hz2 => in64_of (hz z hz2)⟩
theorem msgs_in {H : Type} {enc : TypeId × Value → H} {W : World} {A : Option Addr} {n c : Nat} {d : DataW H} {p : List MemPlace}
    (h : DataW.Trod enc Try.prog W 0 (fun _ => true) true 62 (.slice A n c) d p) (hw : ∀ x ∈ d.weights Try.prog 62, x ≤ reachBytes) : ∃ L, MR W A n c L ∧ n * 48 ≤ 140737488351232 := by
  have cl : Try.prog.cellsOf 64 = 4 := by kernel_rfl
  have hb : Try.prog.bytesOf 64 = 48 := by kernel_rfl
  obtain ⟨L, h1, h2, h3, h4, h5⟩ := vr_in Try.underlying62 cl (by decide) h hw Mg.cells (fun _ => rfl) (Mg.Reads W) (fun fuel cs x hl h hw => mg_at hl h hw)
  rw [← flatM_map] at h2
  rw [hb] at h5
  unfold reachBytes at h5
  exact ⟨L, ⟨h1, h2, h3⟩, h5⟩
end Go.Proofs.Ytofeoeknmlkjgaa.Nk
end
section
/- NodeMemory: what each phase answers to whatever computer and messages. -/
set_option linter.unusedVariables false
namespace Go.Proofs.Ytofeoeknmlkjgaa.Nk
open Go.RowKit Go.Proofs.Ytofeoeknmlkjgaa Mb Fi Sm

def NmPost (w : World) (e : Ending) (w' : World) : Prop :=
  ∃ (n' : Nd) (A2 : Option Addr) (m2 c2 : Nat) (bs2 : List Bool) (k f r : Int) (Av : Option Addr) (mv cv : Nat) (vs : List Int), e = .returned (.tuple #[.agg (NA n' (.slice A2 m2 c2)), .agg #[.int .i64 k, .int .i64 f, .int .i64 r, .slice Av mv cv]]) ∧
    w'.ownsRow w.heap.size 4 1 (.slice A2 m2 c2) m2 (bs2.map Value.bool) ∧ OwnI w' w.heap.size Av mv cv vs ∧ mv ≤ 100 ∧ Below w.heap.size w w'
def NcPost (w : World) (e : Ending) (w' : World) : Prop :=
  ∃ (n' : Nd) (A2 : Option Addr) (m2 c2 : Nat) (bs2 : List Bool) (rp : Array Value), e = .returned (.tuple #[.agg (NA n' (.slice A2 m2 c2)), .agg rp]) ∧ rp.size = 14 ∧ rp.all (·.oneCell') = true ∧
    w'.ownsRow w.heap.size 4 1 (.slice A2 m2 c2) m2 (bs2.map Value.bool) ∧ Below w.heap.size w w'
theorem nm_of_ph {n' : Nd} {bs : List Bool} {k f r : Int} {vs : List Int} {w w' : World} {e : Ending} (h : PhPost n' (bs.map Value.bool) k f r vs w e w') (hv : vs.length ≤ 100) : NmPost w e w' := by
  obtain ⟨A', c', Am, cm, he, ho, hi, hb⟩ := h
  rw [List.length_map] at he ho
  exact ⟨n', A', bs.length, c', bs, k, f, r, Am, vs.length, cm, vs, he, ho, hi, hv, hb⟩
theorem nm_of_str {n : Nd} {bs : List Bool} {w w' : World} {e : Ending} (h : StrPost n (bs.map Value.bool) #[.int .i64 0, .int .i64 0, .int .i64 0, .slice none 0 0] w e w') : NmPost w e w' := by
  obtain ⟨A', c', he, ho, hb⟩ := h
  rw [List.length_map] at he ho
  exact ⟨n, A', bs.length, c', bs, 0, 0, 0, none, 0, 0, [], he, ho, ⟨Ints.nil _ _ _, fun _ => ⟨rfl, rfl⟩, Nat.le_refl _, fun ad e => by cases e⟩, Nat.zero_le _, hb⟩
theorem nc_of_str {n : Nd} {bs : List Bool} {w w' : World} {e : Ending} (h : StrPost n (bs.map Value.bool) #[.int .i64 0, .int .i64 0, .int .i64 0, .int .i64 0, .int .i64 0, .int .i64 0, .int .i64 0, .int .i64 0, .int .i64 0, .bool false, .bool false, .bool false, .bool false, .bool false] w e w') : NcPost w e w' := by
  obtain ⟨A', c', he, ho, hb⟩ := h
  rw [List.length_map] at he ho
  exact ⟨n, A', bs.length, c', bs, _, he, rfl, by simp [Value.oneCell'], ho, hb⟩
theorem nc_of_close {n : Nd} {bs : List Bool} {w w' : World} {e : Ending} (h : ClosePost n (bs.map Value.bool) w e w') : NcPost w e w' := by
  obtain ⟨n', A', c', he, ho, hb, _, _⟩ := h
  rw [List.length_map] at he ho
  exact ⟨n', A', bs.length, c', bs, _, he, rfl, repTo_one _ _, ho, hb⟩
theorem bools_one (bs : List Bool) : ∀ u ∈ bs.map Value.bool, u.oneCell' = true := fun u hu => by
  obtain ⟨b, _, rfl⟩ := List.mem_map.1 hu
  rfl
theorem judgeB_bool (n : Nd) (Ms : List Pm) (d : Nat) : judgeB n Ms d = [jA n (judgeH n Ms) d 0, jA n (judgeH n Ms) d 1, jA n (judgeH n Ms) d 2, jA n (judgeH n Ms) d 3].map Value.bool := rfl
theorem ms_in {w : World} {A : Option Addr} {m c : Nat} {L : List Mg} (h : MR w A m c L) : MsIn (L.map Mg.pm) := fun x hx v hv => by obtain ⟨y, hy, rfl⟩ := List.mem_map.1 hx; exact (h.2.2 y hy).2.2.2 v hv
section
variable (n : Nd) (A : Option Addr) (m c : Nat) (bs : List Bool) (Am : Option Addr) (mm cm : Nat) (Ms : List Mg) (w : World)
theorem nm_relay (hn : NIn n) (hb : VR w 1 A m c (bs.map Value.bool)) (hm : m ≤ 140737488355328) (hM : MR w Am mm cm Ms) (hmm : mm ≤ 17592186044416) : Calls Try.prog 17 #[.agg (NA n (.slice A m c)), .slice Am mm cm] w (NmPost w) := by
  by_cases h0 : n.id < 0 ∨ 4 ≤ n.id
  · exact (Relay_str n A m c _ _ h0 w hb (bools_one bs) hm).mono fun _ _ => nm_of_str
  · exact (Relay_any n A m c _ Am mm cm Ms (by omega) (by omega) w hb (bools_one bs) hm hM hmm).mono fun _ _ h => nm_of_ph h (by unfold dirL; simp)
theorem nm_pass (hn : NIn n) (hb : VR w 1 A m c (bs.map Value.bool)) (hm : m ≤ 140737488355328) (hM : MR w Am mm cm Ms) (hmm : mm ≤ 17592186044416) : Calls Try.prog 19 #[.agg (NA n (.slice A m c)), .slice Am mm cm] w (NmPost w) := by
  by_cases h0 : n.id < 0 ∨ 4 ≤ n.id
  · exact (Pass_str n A m c _ _ h0 w hb (bools_one bs) hm).mono fun _ _ => nm_of_str
  · exact (Pass_any n A m c _ Am mm cm Ms (by omega) (by omega) w hb (bools_one bs) hm hM hmm).mono fun _ _ h => nm_of_ph h (by simp [heL])
theorem nm_decide (hn : NIn n) (hb : VR w 1 A m c (bs.map Value.bool)) (hm : m ≤ 140737488355328) (hM : MR w Am mm cm Ms) (hmm : mm ≤ 17592186044416) : Calls Try.prog 18 #[.agg (NA n (.slice A m c)), .slice Am mm cm] w (NmPost w) := by
  by_cases h0 : n.id < 0 ∨ 4 ≤ n.id
  · exact (Decide_str n A m c _ _ h0 w hb (bools_one bs) hm).mono fun _ _ => nm_of_str
  · exact (Decide_any n A m c _ Am mm cm Ms n.id.toNat (by omega) (by omega) hn.ax hn.tu (fun j hj => aF_in (ms_in hM) hn.di _ j) w hb (bools_one bs) hm hM hmm).mono fun _ _ h => nm_of_ph h (by simp)
theorem nm_judge (hn : NIn n) (hb : VR w 1 A m c (bs.map Value.bool)) (hm : m ≤ 140737488355328) (hM : MR w Am mm cm Ms) (hmm : mm ≤ 17592186044416) : Calls Try.prog 20 #[.agg (NA n (.slice A m c)), .slice Am mm cm] w (NmPost w) := by
  by_cases h0 : n.id < 0 ∨ 4 ≤ n.id
  · exact (Judge_str n A m c _ _ h0 w hb (bools_one bs) hm).mono fun _ _ => nm_of_str
  · refine (Judge_any n A m c _ Am mm cm Ms n.id.toNat (by omega) (by omega) (fun j _ => hn.he j) w hb (bools_one bs) hm hM hmm).mono fun _ _ h => ?_
    rw [judgeB_bool] at h
    exact nm_of_ph h (by rw [packL_len]; decide)
theorem nc_close (hn : NIn n) (hb : VR w 1 A m c (bs.map Value.bool)) (hm : m ≤ 140737488355328) (hM : MR w Am mm cm Ms) (hmm : mm ≤ 17592186044416) : Calls Try.prog 22 #[.agg (NA n (.slice A m c)), .slice Am mm cm] w (NcPost w) := by
  by_cases h0 : n.id < 0 ∨ 4 ≤ n.id
  · exact (Close_str n A m c _ _ h0 w hb (bools_one bs) hm).mono fun _ _ => nc_of_str
  · exact (Close_any n A m c _ Am mm cm Ms (by omega) (by omega) hn.ax w hb (bools_one bs) hm hM hmm).mono fun _ _ => nc_of_close
end
end Go.Proofs.Ytofeoeknmlkjgaa.Nk
end
