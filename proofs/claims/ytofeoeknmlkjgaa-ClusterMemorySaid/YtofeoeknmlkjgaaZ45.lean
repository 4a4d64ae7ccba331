/- Merged: NodeBegin ClIn NodeStr NodeRd NodeMem1. -/
import Derived.Test.YtofeoeknmlkjgaaZ14
import Derived.Test.YtofeoeknmlkjgaaZ25
import Derived.Test.YtofeoeknmlkjgaaZ29
import Derived.Test.YtofeoeknmlkjgaaZ33
import Derived.Test.YtofeoeknmlkjgaaZ38
import Derived.Test.YtofeoeknmlkjgaaZ39
import Derived.Test.YtofeoeknmlkjgaaZ40
import Derived.Test.YtofeoeknmlkjgaaZ42
set_option linter.unusedVariables false
set_option linter.unusedSimpArgs false
section
/- node.Begin. -/
set_option linter.unusedVariables false
namespace Go.Proofs.Ytofeoeknmlkjgaa.Nk
open Go.RowKit Go.Proofs.Ytofeoeknmlkjgaa Mb Fi Sm

def begK (id : Int) (t : Tu) (k : Nat) : Nd := ⟨id, 0, t, fun a => if a < k then begS 0 else ⟨0, 0, 0, 0, 0, false, 0⟩, RB0, fun _ => 0, fun _ => 0, fun _ => 0, fun _ => 0, 0, 0, false⟩
def begN (id : Int) (t : Tu) : Nd := begK id t 3
theorem he_axp (n : Nd) (va : Value) (a : Nat) (ha : a < 3) (s : St) : ∀ i, i < 74 → ({ n with ax := upd n.ax a s } : Nd).c va i = if 6 + a * 7 ≤ i ∧ i < 6 + a * 7 + (stL s).toArray.toList.length then (stL s).toArray.toList.getD (i - (6 + a * 7)) undef else n.c va i := by
  intro i hi
  have el : (stL s).toArray.toList.length = 7 := rfl
  rw [el]
  by_cases h : 6 + a * 7 ≤ i ∧ i < 6 + a * 7 + 7
  · rw [if_pos h, c_ax (by omega) (by omega)]
    show stc (upd n.ax a s ((i - 6) / 7)) ((i - 6) % 7) = _
    rw [show (i - 6) / 7 = a by omega, upd_same, show (i - 6) % 7 = i - (6 + a * 7) by omega]
    show _ = (stL s).getD _ undef
    simp only [List.getD]
    rw [stL_get s _ (by omega)]; rfl
  · rw [if_neg h]
    by_cases h2 : 6 ≤ i ∧ i < 27
    · rw [c_ax h2.1 h2.2, c_ax h2.1 h2.2]
      show stc (upd n.ax a s ((i - 6) / 7)) _ = _
      rw [upd_far _ _ (by omega)]
    · exact c_ax_out n _ va i (by omega)
theorem begK_put (id : Int) (t : Tu) (a : Nat) : ({ begK id t a with ax := upd (begK id t a).ax a (begS 0) } : Nd) = begK id t (a + 1) := by
  have e : upd (begK id t a).ax a (begS 0) = (begK id t (a + 1)).ax := by
   funext j
   show upd _ a _ j = (if j < a + 1 then begS 0 else _)
   by_cases e : j = a
   · subst e; rw [upd_same, if_pos (by omega)]
   · rw [upd_far _ _ e]
     show (if j < a then begS 0 else _) = _
     by_cases c : j < a
     · rw [if_pos c, if_pos (by omega)]
     · rw [if_neg c, if_neg (by omega)]
  rw [e]; rfl
theorem results_row_tmp {P : Program} {fn : Func} {p q : Tmp} {ty : TypeId} (h : fn.results = #[.cell p ty, .tmp q]) (tmps : Array Value) (w : World) (g : Nat) (t : TypeId) (cs : Array Value) (d : TypeDesc) (e : Value)
    (hp : tmps.getD p undef = .pointer (some ⟨g, 0, none⟩)) (hq : tmps.getD q undef = e) (hg : Blk w g t cs) (hu : P.underlying ty = some d) (hd : (match d with | .struct _ | .array _ _ => true | _ => false) = true) (hi : (P.info? ty).map (·.size) = some cs.size) :
    (results fn tmps).run P w = .ok (.tuple #[.agg cs, e]) w := by
  have hp' : tmps[p]?.getD undef = .pointer (some ⟨g, 0, none⟩) := by simpa using hp
  have hq' : tmps[q]?.getD undef = e := by simpa using hq
  simp [results, h, hp', hq', asAddr, run_loadVar_row w g t ty cs (0, 0) d hg hu hd hi]
def BgCut (w0 : World) (id : Int) (t : Tu) (s : Value) (wx : World) : Prop := ∃ q, s = .pointer (some ⟨q, 0, none⟩) ∧ NB wx q (begK id t 0) (.slice none 0 0) ∧ Below w0.heap.size w0 wx ∧ w0.heap.size ≤ q
def BgRel (w0 : World) (q : Nat) (id : Int) (t : Tu) (iv : Value) (wr : World) : Prop := ∃ a : Nat, iv = .int .i64 a ∧ a ≤ 3 ∧ NB wr q (begK id t a) (.slice none 0 0) ∧ Below w0.heap.size w0 wr
theorem BgRel.put {w0 wr w1 w2 : World} {q a : Nat} {id : Int} {t : Tu} {iv : Value} (ha : a < 3) (hiv : iv = .int .i64 ((a + 1 : Nat) : Int)) (hB : Below w0.heap.size w0 wr) (hb : Below wr.heap.size wr w1) (hq : w0.heap.size ≤ q) (hN : NB w2 q (begK id t (a + 1)) (.slice none 0 0)) (hg : w1.grownBy w2 (some q)) : BgRel w0 q id t iv w2 :=
  ⟨a + 1, hiv, ha, hN, (hB.trans (hb.mono hB.size)).grown hg (Nat.le_trans hB.size hb.size) (fun j hj => by cases hj; exact hq)⟩

set_option maxRecDepth 100000 in
set_option maxHeartbeats 4000000 in
theorem nbegin_any (id : Nat) (t : Tu) (w : World) (hid : id < 4) :
    Calls Try.prog 24 #[.int .i64 id, t.val] w fun e w' => e = .returned (.tuple #[.agg (NA (begN id t) (.slice none 0 0)), .int .i64 0]) ∧ Below w.heap.size w w' := by
  obtain ⟨td, tq, tr, tg⟩ := t
  have hzs : (Try.zeroCells45).size = 74 := by kernel_rfl
  have HZS := Lib.hid hzs
  have kb := fun W => begin_any W
  have ks := fun W => Begin_any 0 W
  have KB := Lib.hid kb
  have KS := Lib.hid ks
  have q0 : decide ((id : Int) < 0) = false := by rw [decide_eq_false_iff_not]; omega
  have q1 : decide (4 ≤ (id : Int)) = false := by rw [decide_eq_false_iff_not]; omega
  clear hzs kb ks
  unfold Tu.val
  go_enter Try.func24, Try.ntmps24
  go_upto_region 3 with fail
  have HT := Lib.hid (show TB ((w.alloc (.cells #[.int .i64 td, .int .i64 tq, .int .i64 tr, .int .i64 tg] 23)).alloc (.cells Try.zeroCells45 45)) w.heap.size ⟨td, tq, tr, tg⟩ from (Blk.new _ _ _).alloc _)
  have HZ := Lib.hid (show Blk ((w.alloc (.cells #[.int .i64 td, .int .i64 tq, .int .i64 tr, .int .i64 tg] 23)).alloc (.cells Try.zeroCells45 45)) (w.heap.size + 1) 45 Try.zeroCells45 from Blk.at_ _ _ _ _ (by simp))
  have HB := Lib.hid (show Below w.heap.size w ((w.alloc (.cells #[.int .i64 td, .int .i64 tq, .int .i64 tr, .int .i64 tg] 23)).alloc (.cells Try.zeroCells45 45)) from ((Below.refl _ _).alloc (Nat.le_refl _) _).alloc (by simp) _)
  obtain ⟨W0, hW0⟩ : ∃ W0, (w.alloc (.cells #[.int .i64 td, .int .i64 tq, .int .i64 tr, .int .i64 tg] 23)).alloc (.cells Try.zeroCells45 45) = W0 := ⟨_, rfl⟩
  rw [hW0] at HT HZ HB ⊢
  clear hW0
  go_cut [6] (fun s6 wx => BgCut W0 id ⟨td, tq, tr, tg⟩ s6 wx)
  case first =>
    refine wp_region_G 5 (fun w' => Below W0.heap.size W0 w') (by kernel_rfl) ((Below.refl _ _).drew) (fun hS => ?_)
    refine wpG 0 ?_ rfl (by kernel_rfl) (fun _ _ _ h => h) (by rfl) (fun wx => ?_) hS ?_
    rotate_left
    · go_simp; (try with_reducible rfl)
    try simp only [pts]
    refine wpT 1 ?_ rfl (by kernel_rfl) (fun _ _ _ h => h) (Or.inl ⟨by rfl, fun wx hSw => ?_⟩) hS ?_
    rotate_left
    · have hq := TB.c (Blk.next HT.out hSw); (try dsimp only at hSw); go_simp; (try with_reducible rfl)
    try simp only [pts]
    refine wpAnyG_two (i := 2) (j := 4) rfl rfl (by kernel_rfl) (fun K hK => ?_) (fun K hK => ?_)
    · go_simp
      (with_reducible refine (KB.out _).mono ?_)
      rintro e w6 ⟨rfl, hb6⟩
      have hS6 := hS.trans (hb6.mono hS.size)
      clear hS hb6
      have hS := hS6
      refine hK.out _ _ hS ?_
      clear hK K
      try simp only [pts]
      refine wpT 3 (.agg (NA (begK id ⟨td, tq, tr, tg⟩ 0) (.slice none 0 0))) rfl (by kernel_rfl) (fun _ _ _ h => h) (Or.inl ⟨by rfl, fun wx hSw => by kernel_rfl⟩) hS ?_
      try simp only [pts]
      have hs6 := hS.size
      refine wpAnyG_one (i := 4) rfl (by kernel_rfl) (fun K hK => ?_)
      go_simp
      have hX1 : Below W0.heap.size W0 (w6.alloc (.cells Try.zeroCells45 45)) := hS.alloc hS.size _
      clear hS
      have hS : Below W0.heap.size W0 (w6.alloc (.cells Try.zeroCells45 45)) := hX1
      have hz : Blk (w6.alloc (.cells Try.zeroCells45 45)) w6.heap.size 45 Try.zeroCells45 := Blk.new _ _ _
      refine hK.out _ _ hS ?_
      clear hK K
      try simp only [pts]
      refine wpAnyG_last rfl (by kernel_rfl) (by kernel_rfl) (by kernel_rfl) (fun K hK => ?_)
      rw [if_pos (by rfl)]
      refine wp_store_row 45 (.tmp 6) (.tmp 18) rfl (w6.heap.size) _ _ (NA (begK id ⟨td, tq, tr, tg⟩ 0) (.slice none 0 0)) rfl rfl hz (by rw [NA_size, HZS.out]) (by rw [NA_size]; exact infoNode) (NA_one _ _ _ _) (fun w8 hN8 hg8 => ?_)
      refine hK.out _ _ ?_
      clear hK K
      try simp only [pts]
      go_wp2_with fail
      go_meet
      exact ⟨_, rfl, hN8, hS.grown hg8 hS.size (fun j hj => by cases hj; omega), by omega⟩
    · go_simp
      have hX1 : Below W0.heap.size W0 (W0.alloc (.cells Try.zeroCells45 45)) := (Below.refl W0.heap.size W0).alloc (Below.refl W0.heap.size W0).size _
      clear hS
      have hS : Below W0.heap.size W0 (W0.alloc (.cells Try.zeroCells45 45)).drew := hX1.drew
      have hz : Blk (W0.alloc (.cells Try.zeroCells45 45)).drew W0.heap.size 45 Try.zeroCells45 := Blk.new _ _ _
      refine hK.out _ _ hS ?_
      clear hK K
      try simp only [pts]
      refine wpAnyG_one (i := 2) rfl (by kernel_rfl) (fun K hK => ?_)
      go_simp
      (with_reducible refine (KB.out _).mono ?_)
      rintro e w6 ⟨rfl, hb6⟩
      have hS6 := hS.trans (hb6.mono hS.size)
      have hz6 := hz.next hb6
      have hlz := Blk.lt hz
      clear hz
      have hz := hz6
      clear hS hb6
      have hS := hS6
      refine hK.out _ _ hS ?_
      clear hK K
      try simp only [pts]
      refine wpT 3 (.agg (NA (begK id ⟨td, tq, tr, tg⟩ 0) (.slice none 0 0))) rfl (by kernel_rfl) (fun _ _ _ h => h) (Or.inl ⟨by rfl, fun wx hSw => by kernel_rfl⟩) hS ?_
      try simp only [pts]
      refine wpAnyG_last rfl (by kernel_rfl) (by kernel_rfl) (by kernel_rfl) (fun K hK => ?_)
      rw [if_pos (by rfl)]
      refine wp_store_row 45 (.tmp 6) (.tmp 18) rfl (W0.heap.size) _ _ (NA (begK id ⟨td, tq, tr, tg⟩ 0) (.slice none 0 0)) rfl rfl hz (by rw [NA_size, HZS.out]) (by rw [NA_size]; exact infoNode) (NA_one _ _ _ _) (fun w8 hN8 hg8 => ?_)
      refine hK.out _ _ ?_
      clear hK K
      try simp only [pts]
      go_wp2_with fail
      go_meet
      exact ⟨_, rfl, hN8, hS.grown hg8 hS.size (fun j hj => by cases hj; omega), by omega⟩
  case rest =>
    obtain ⟨q6, rfl, hN6, hB6, hq6⟩ := hcut
    have HN6 := Lib.hid hN6
    have HB6 := Lib.hid hB6
    have HQ6 := Lib.hid hq6
    clear hN6 hB6 hq6
    go_wp2_with fail
    go_loopw [19] (fun iv wr => BgRel W0 q6 id ⟨td, tq, tr, tg⟩ iv wr) (fun iv _ => 3 - (intOf iv).toNat)
    case atStart => exact ⟨0, rfl, by omega, HN6.out, HB6.out⟩
    case round =>
      clear HN6 HB6
      obtain ⟨a, rfl, ha3, hN, hB⟩ := hrel
      have HN := Lib.hid hN
      have HBr := Lib.hid hB
      clear hN hB
      by_cases ha : a < 3
      · have p0 : (a : Int) < 3 := by omega
        have p1 : (0 : Int) ≤ (a : Int) := by omega
        go_wp2_with (first
          | (go_at_call 30; (with_reducible refine (KS.out _).mono ?_); rintro e w1 ⟨rfl, hb1⟩; have HN1 := Lib.hid (NB.next HN.out hb1); have HB1 := Lib.hid hb1; clear hb1; unfold St.val)
          | (refine wpList_store_nb 33 (.tmp 25) (.tmp 23) rfl rfl q6 (6 + a * 7) (stL (begS 0)).toArray (begK id ⟨td, tq, tr, tg⟩ a) { begK id ⟨td, tq, tr, tg⟩ a with ax := upd (begK id ⟨td, tq, tr, tg⟩ a).ax a (begS 0) } _ _ rfl rfl HN1.out (by show 6 + a * 7 + 7 ≤ 74; omega) info7 (stL_one _) (he_axp _ _ a ha _) ?_; intro w2 hN2 hg2; (rw [begK_put] at hN2); have HN2 := Lib.hid hN2; have HG2 := Lib.hid hg2; clear hN2 hg2))
        go_roundw
        case rel => exact BgRel.put ha (by go_num) HBr.out HB1.out HQ6.out HN2.out HG2.out
        case measure => simp [intOf]; omega
      · obtain rfl : a = 3 := by omega
        have hzz := HZ.out.next HBr.out
        have HZZ := Lib.hid hzz
        have hlw := Blk.lt HZ.out
        clear hzz
        go_wp2_with (first
          | (refine wpList_load_at 45 (.tmp 6) rfl rfl q6 rfl _ (NA (begK id ⟨td, tq, tr, tg⟩ 3) (.slice none 0 0)) _ HN.out Try.underlying45 rfl (by rw [NA_size]; exact infoNode) ?_)
          | (refine wpList_store_at 45 (.tmp 4) (.tmp 27) rfl rfl (w.heap.size + 1) _ _ (NA (begK id ⟨td, tq, tr, tg⟩ 3) (.slice none 0 0)) rfl rfl HZZ.out (by rw [NA_size, HZS.out]) (by rw [NA_size]; exact infoNode) (NA_one _ _ _ _) ?_; intro w2 hN2 hg2; have HN2 := Lib.hid hN2; have HG2 := Lib.hid hg2; clear hN2 hg2))
        refine bodyPost_ret (results_row_tmp Try.results24 _ _ (w.heap.size + 1) _ _ _ (.int .i64 0) rfl rfl HN2.out Try.underlying45 rfl (by rw [NA_size]; exact infoNode)) rfl ?_
        have hbw := HB.out.trans (HBr.out.mono HB.out.size)
        exact ⟨rfl, hbw.grown HG2.out hbw.size (fun j hj => by cases hj; omega)⟩
end Go.Proofs.Ytofeoeknmlkjgaa.Nk
end
section
/- A frame's numbers stay within 64 bits (plain). -/
set_option linter.unusedVariables false
namespace Go.Proofs.Ytofeoeknmlkjgaa.Nk
open Go.RowKit Go.Proofs.Ytofeoeknmlkjgaa Mb Fi Sm

def MsIn (L : List Pm) : Prop := ∀ x ∈ L, ∀ v ∈ x.vs, In64 v
theorem hear_in {id fr kind : Int} {many : Nat} {L : List Pm} (h : MsIn L) : ∀ i l, hearF id fr kind many L i = some l → ∀ v ∈ l, In64 v :=
  hearF_in (P := In64) L (fun _ => none) h (fun i l e => by cases e)
theorem told_in {h : Hd} {k d b : Nat} (hh : ∀ i l, h i = some l → ∀ v ∈ l, In64 v) (j : Nat) : In64 (toldF h k d b j) := outO_in zero64 hh 4 j
theorem sense_in {n : Nd} {d : Nat} {fr r0 r1 r2 : Int} (h0 : In64 r0) (h1 : In64 r1) (h2 : In64 r2) (j : Nat) : In64 ((senseN n d fr r0 r1 r2).di j) := by
  show In64 (if j / 3 = d then (if j % 3 = 0 then r0 else if j % 3 = 1 then r1 else r2) else 0)
  split
  · split
    · exact h0
    · split
      · exact h1
      · exact h2
  · exact zero64
theorem relay_in {n : Nd} {L : List Pm} (h : MsIn L) (hd : ∀ j, In64 (n.di j)) (j : Nat) : In64 ((relayN n L).di j) := by
  show In64 (if j / 3 < 4 then (match relayH n L (j / 3) with | some l => l.getD (j % 3) 0 | none => n.di j) else n.di j)
  split
  · cases e : relayH n L (j / 3) with
    | none => exact hd j
    | some l => exact getD_in zero64 (hear_in h _ _ e) _
  · exact hd j
theorem aF_in {n : Nd} {L : List Pm} (h : MsIn L) (hd : ∀ j, In64 (n.di j)) (d j : Nat) : In64 (aF n (decH n L) d j) := by
  unfold aF
  split
  · exact hd j
  · exact maj3_in (hd j) (told_in (hear_in h) 0) (told_in (hear_in h) 1) zero64
theorem dg_in (n : Nd) : In64 (dgF n) := by
  unfold dgF In64
  have := (Crc.sumFrom 0#32 (Wr.valsB (packL n))).isLt
  omega
theorem pass_in {n : Nd} {L : List Pm} (h : MsIn L) (hd : ∀ j, In64 (n.he j)) (j : Nat) : In64 ((passN n L).he j) := by
  show In64 (if j < 4 then (match passH n L j with | some l => l.getD 0 0 | none => n.he j) else n.he j)
  split
  · cases e : passH n L j with
    | none => exact hd j
    | some l => exact getD_in zero64 (hear_in h _ _ e) _
  · exact hd j
theorem upd_in {f : Nat → Int} {k : Nat} {x : Int} (hf : ∀ j, In64 (f j)) (hx : In64 x) (j : Nat) : In64 (upd f k x j) := by
  unfold upd; split
  · exact hx
  · exact hf j
def NOk (n : Nd) : Prop := n.tu.In ∧ ∀ a, a < 3 → (n.ax a).In
section
variable {x : Fr} {N : Nat → Nd}
theorem N1_di_in {p : Nat} (hb : ¬ (p : Int) = x.bad) (hp : p < 4) (hr : ∀ k, k < 12 → In64 (x.rd k)) (j : Nat) : In64 ((N1 x N p).di j) := by
  rw [N1_good hb]; exact sense_in (hr _ (by omega)) (hr _ (by omega)) (hr _ (by omega)) j
theorem N2_di_in {p : Nat} (hb : ¬ (p : Int) = x.bad) (hp : p < 4) (hr : ∀ k, k < 12 → In64 (x.rd k)) (hM : MsIn (B1 x p)) (j : Nat) : In64 ((N2 x N p).di j) := by
  rw [N2_good hb]; exact relay_in hM (N1_di_in hb hp hr) j
theorem N2_ok {p : Nat} (hb : ¬ (p : Int) = x.bad) (h : NOk (N p)) : NOk (N2 x N p) := by
  obtain ⟨_, _, c, _, e, _⟩ := N2_id (x := x) (N := N) hb
  exact ⟨by rw [e]; exact h.1, by rw [c]; exact h.2⟩
theorem N3_ok {p : Nat} (hb : ¬ (p : Int) = x.bad) (h : NOk (N p)) : NOk (N3 x N p) := by
  refine ⟨by rw [(N3_id hb).2.2.2]; exact h.1, fun a ha => ?_⟩
  rw [N3_ax hb]
  show (if a < 3 then stepS ((N p).ax a) (N p).tu ((N3 x N p).us a) else (N p).ax a).In
  rw [if_pos ha]
  exact stepS_in _ _ _ (h.2 a ha)
theorem N3_dg_in {p : Nat} (hb : ¬ (p : Int) = x.bad) : In64 (N3 x N p).dg := by rw [N3_dg hb]; exact dg_in _
theorem N4_he_in {p : Nat} (hb : ¬ (p : Int) = x.bad) (hM : MsIn (B3 x N p)) (j : Nat) : In64 ((N4 x N p).he j) := by
  rw [N4_good hb]
  refine pass_in hM (fun j => ?_) j
  rw [N3_he hb]
  exact upd_in (fun _ => zero64) (N3_dg_in hb) j
theorem N5_ok {p : Nat} (hb : ¬ (p : Int) = x.bad) (h : NOk (N p)) : NOk (N5 x N p) :=
  ⟨by rw [(N5_keep hb).2.2.1]; exact h.1, by rw [(N5_keep hb).2.2.2.1]; exact (N3_ok hb h).2⟩
end
end Go.Proofs.Ytofeoeknmlkjgaa.Nk
end
section
/- The phases of a computer that is none of the four: it is copied, and says nothing. -/
set_option linter.unusedVariables false
namespace Go.Proofs.Ytofeoeknmlkjgaa.Nk
open Go.RowKit Go.Proofs.Ytofeoeknmlkjgaa Mb Fi Sm

def StrPost (n : Nd) (bs : List Value) (z : Array Value) (w : World) (e : Ending) (w' : World) : Prop :=
  ∃ A' c', e = .returned (.tuple #[.agg (NA n (.slice A' bs.length c')), .agg z]) ∧ w'.ownsRow w.heap.size 4 1 (.slice A' bs.length c') bs.length bs ∧ Below w.heap.size w w'
end Go.Proofs.Ytofeoeknmlkjgaa.Nk
end
section
/- A computer and messages that came in. -/
set_option linter.unusedVariables false
namespace Go.Proofs.Ytofeoeknmlkjgaa.Nk
open Go.RowKit Go.Proofs.Ytofeoeknmlkjgaa Mb Fi Sm Go.ChangeShapes Go.WideShapes

def nodeT : List TypeId := [3, 3, 3, 3, 3, 3, 3, 3, 3, 3, 3, 4, 3, 3, 3, 3, 3, 3, 4, 3, 3, 3, 3, 3, 3, 4, 3, 4, 4, 4, 4, 3, 3, 3, 3, 3, 3, 3, 3, 3, 3, 3, 3, 3, 3, 3, 3, 3, 3, 3, 3, 3, 3, 3, 3, 3, 3, 3, 3, 3, 3, 3, 3, 3, 3, 3, 3, 3, 3, 3, 3, 3, 4, 41]
def isB (k : Nat) : Bool := k == 11 || k == 18 || k == 25 || k == 27 || k == 28 || k == 29 || k == 30 || k == 72
def rdN (f : Nat → Int) (b : Nat → Bool) : Nd := ⟨f 0, f 1, ⟨f 2, f 3, f 4, f 5⟩, fun a => ⟨f (6 + 7 * a), f (7 + 7 * a), f (8 + 7 * a), f (9 + 7 * a), f (10 + 7 * a), b (11 + 7 * a), f (12 + 7 * a)⟩, ⟨fun i => b (27 + i), fun i => f (31 + i), fun i => f (35 + i)⟩,
  fun i => f (39 + i), fun i => f (51 + i), fun i => f (55 + i), fun i => f (67 + i), f 70, f 71, b 72⟩
structure NIn (n : Nd) : Prop where
  ax : ∀ a, a < 3 → (n.ax a).In
  tu : n.tu.In
  di : ∀ j, In64 (n.di j)
  he : ∀ j, In64 (n.he j)
instance : Inhabited Mg := ⟨⟨0, 0, 0, none, 0, 0, []⟩⟩
end Go.Proofs.Ytofeoeknmlkjgaa.Nk
end
section
/- NodeMemory: what each phase answers to whatever computer and messages. -/
set_option linter.unusedVariables false
namespace Go.Proofs.Ytofeoeknmlkjgaa.Nk
open Go.RowKit Go.Proofs.Ytofeoeknmlkjgaa Mb Fi Sm

def NmPost (w : World) (e : Ending) (w' : World) : Prop :=
  ∃ (n' : Nd) (A2 : Option Addr) (m2 c2 : Nat) (bs2 : List Bool) (k f r : Int) (Av : Option Addr) (mv cv : Nat) (vs : List Int), e = .returned (.tuple #[.agg (NA n' (.slice A2 m2 c2)), .agg #[.int .i64 k, .int .i64 f, .int .i64 r, .slice Av mv cv]]) ∧
    w'.ownsRow w.heap.size 4 1 (.slice A2 m2 c2) m2 (bs2.map Value.bool) ∧ OwnI w' w.heap.size Av mv cv vs ∧ mv ≤ 100 ∧ Below w.heap.size w w'
def NcPost (w : World) (e : Ending) (w' : World) : Prop :=
  ∃ (n' : Nd) (A2 : Option Addr) (m2 c2 : Nat) (bs2 : List Bool) (rp : Array Value), e = .returned (.tuple #[.agg (NA n' (.slice A2 m2 c2)), .agg rp]) ∧ rp.size = 14 ∧ rp.all (·.oneCell') = true ∧
    w'.ownsRow w.heap.size 4 1 (.slice A2 m2 c2) m2 (bs2.map Value.bool) ∧ Below w.heap.size w w'
theorem bools_one (bs : List Bool) : ∀ u ∈ bs.map Value.bool, u.oneCell' = true := fun u hu => by
  obtain ⟨b, _, rfl⟩ := List.mem_map.1 hu
  rfl
theorem judgeB_bool (n : Nd) (Ms : List Pm) (d : Nat) : judgeB n Ms d = [jA n (judgeH n Ms) d 0, jA n (judgeH n Ms) d 1, jA n (judgeH n Ms) d 2, jA n (judgeH n Ms) d 3].map Value.bool := rfl
section
variable (n : Nd) (A : Option Addr) (m c : Nat) (bs : List Bool) (Am : Option Addr) (mm cm : Nat) (Ms : List Mg) (w : World)
end
end Go.Proofs.Ytofeoeknmlkjgaa.Nk
end
