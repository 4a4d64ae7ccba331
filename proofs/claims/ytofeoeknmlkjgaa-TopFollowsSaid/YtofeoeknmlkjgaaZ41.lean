/- Merged: NodeBegin ClIn NodeAdopt NodeClose. -/
import Derived.Deep.RegionHeld3
import Derived.Test.YtofeoeknmlkjgaaZ14
import Derived.Test.YtofeoeknmlkjgaaZ25
import Derived.Test.YtofeoeknmlkjgaaZ33
import Derived.Test.YtofeoeknmlkjgaaZ38
import Derived.Test.YtofeoeknmlkjgaaZ40
set_option linter.unusedVariables false
set_option linter.unusedSimpArgs false
section
/- node.Begin. -/
set_option linter.unusedVariables false
namespace Go.Proofs.Ytofeoeknmlkjgaa.Nk
open Go.RowKit Go.Proofs.Ytofeoeknmlkjgaa Mb Fi Sm

def begK (id : Int) (t : Tu) (k : Nat) : Nd := ⟨id, 0, t, fun a => if a < k then begS 0 else ⟨0, 0, 0, 0, 0, false, 0⟩, RB0, fun _ => 0, fun _ => 0, fun _ => 0, fun _ => 0, 0, 0, false⟩
def begN (id : Int) (t : Tu) : Nd := begK id t 3
theorem he_axp (n : Nd) (va : Value) (a : Nat) (ha : a < 3) (s : St) : ∀ i, i < 74 → ({ n with ax := upd n.ax a s } : Nd).c va i = if 6 + a * 7 ≤ i ∧ i < 6 + a * 7 + (stL s).toArray.toList.length then (stL s).toArray.toList.getD (i - (6 + a * 7)) undef else n.c va i := by
  intro i hi
  have el : (stL s).toArray.toList.length = 7 := rfl
  rw [el]
  by_cases h : 6 + a * 7 ≤ i ∧ i < 6 + a * 7 + 7
  · rw [if_pos h, c_ax (by omega) (by omega)]
    show stc (upd n.ax a s ((i - 6) / 7)) ((i - 6) % 7) = _
    rw [show (i - 6) / 7 = a by omega, upd_same, show (i - 6) % 7 = i - (6 + a * 7) by omega]
    show _ = (stL s).getD _ undef
    simp only [List.getD]
    rw [stL_get s _ (by omega)]; rfl
  · rw [if_neg h]
    by_cases h2 : 6 ≤ i ∧ i < 27
    · rw [c_ax h2.1 h2.2, c_ax h2.1 h2.2]
      show stc (upd n.ax a s ((i - 6) / 7)) _ = _
      rw [upd_far _ _ (by omega)]
    · exact c_ax_out n _ va i (by omega)
theorem begK_put (id : Int) (t : Tu) (a : Nat) : ({ begK id t a with ax := upd (begK id t a).ax a (begS 0) } : Nd) = begK id t (a + 1) := by
  have e : upd (begK id t a).ax a (begS 0) = (begK id t (a + 1)).ax := by
   funext j
   show upd _ a _ j = (if j < a + 1 then begS 0 else _)
   by_cases e : j = a
   · subst e; rw [upd_same, if_pos (by omega)]
   · rw [upd_far _ _ e]
     show (if j < a then begS 0 else _) = _
     by_cases c : j < a
     · rw [if_pos c, if_pos (by omega)]
     · rw [if_neg c, if_neg (by omega)]
  rw [e]; rfl
theorem results_row_tmp {P : Program} {fn : Func} {p q : Tmp} {ty : TypeId} (h : fn.results = #[.cell p ty, .tmp q]) (tmps : Array Value) (w : World) (g : Nat) (t : TypeId) (cs : Array Value) (d : TypeDesc) (e : Value)
    (hp : tmps.getD p undef = .pointer (some ⟨g, 0, none⟩)) (hq : tmps.getD q undef = e) (hg : Blk w g t cs) (hu : P.underlying ty = some d) (hd : (match d with | .struct _ | .array _ _ => true | _ => false) = true) (hi : (P.info? ty).map (·.size) = some cs.size) :
    (results fn tmps).run P w = .ok (.tuple #[.agg cs, e]) w := by
  have hp' : tmps[p]?.getD undef = .pointer (some ⟨g, 0, none⟩) := by simpa using hp
  have hq' : tmps[q]?.getD undef = e := by simpa using hq
  simp [results, h, hp', hq', asAddr, run_loadVar_row w g t ty cs (0, 0) d hg hu hd hi]
def BgCut (w0 : World) (id : Int) (t : Tu) (s : Value) (wx : World) : Prop := ∃ q, s = .pointer (some ⟨q, 0, none⟩) ∧ NB wx q (begK id t 0) (.slice none 0 0) ∧ Below w0.heap.size w0 wx ∧ w0.heap.size ≤ q
def BgRel (w0 : World) (q : Nat) (id : Int) (t : Tu) (iv : Value) (wr : World) : Prop := ∃ a : Nat, iv = .int .i64 a ∧ a ≤ 3 ∧ NB wr q (begK id t a) (.slice none 0 0) ∧ Below w0.heap.size w0 wr
theorem BgRel.put {w0 wr w1 w2 : World} {q a : Nat} {id : Int} {t : Tu} {iv : Value} (ha : a < 3) (hiv : iv = .int .i64 ((a + 1 : Nat) : Int)) (hB : Below w0.heap.size w0 wr) (hb : Below wr.heap.size wr w1) (hq : w0.heap.size ≤ q) (hN : NB w2 q (begK id t (a + 1)) (.slice none 0 0)) (hg : w1.grownBy w2 (some q)) : BgRel w0 q id t iv w2 :=
  ⟨a + 1, hiv, ha, hN, (hB.trans (hb.mono hB.size)).grown hg (Nat.le_trans hB.size hb.size) (fun j hj => by cases hj; exact hq)⟩

set_option maxRecDepth 100000 in
set_option maxHeartbeats 4000000 in
theorem nbegin_any (id : Nat) (t : Tu) (w : World) (hid : id < 4) :
    Calls Try.prog 24 #[.int .i64 id, t.val] w fun e w' => e = .returned (.tuple #[.agg (NA (begN id t) (.slice none 0 0)), .int .i64 0]) ∧ Below w.heap.size w w' := by
  obtain ⟨td, tq, tr, tg⟩ := t
  have hzs : (Try.zeroCells45).size = 74 := by kernel_rfl
  have HZS := Lib.hid hzs
  have kb := fun W => begin_any W
  have ks := fun W => Begin_any 0 W
  have KB := Lib.hid kb
  have KS := Lib.hid ks
  have q0 : decide ((id : Int) < 0) = false := by rw [decide_eq_false_iff_not]; omega
  have q1 : decide (4 ≤ (id : Int)) = false := by rw [decide_eq_false_iff_not]; omega
  clear hzs kb ks
  unfold Tu.val
  go_enter Try.func24, Try.ntmps24
  go_upto_region 3 with fail
  have HT := Lib.hid (show TB ((w.alloc (.cells #[.int .i64 td, .int .i64 tq, .int .i64 tr, .int .i64 tg] 23)).alloc (.cells Try.zeroCells45 45)) w.heap.size ⟨td, tq, tr, tg⟩ from (Blk.new _ _ _).alloc _)
  have HZ := Lib.hid (show Blk ((w.alloc (.cells #[.int .i64 td, .int .i64 tq, .int .i64 tr, .int .i64 tg] 23)).alloc (.cells Try.zeroCells45 45)) (w.heap.size + 1) 45 Try.zeroCells45 from Blk.at_ _ _ _ _ (by simp))
  have HB := Lib.hid (show Below w.heap.size w ((w.alloc (.cells #[.int .i64 td, .int .i64 tq, .int .i64 tr, .int .i64 tg] 23)).alloc (.cells Try.zeroCells45 45)) from ((Below.refl _ _).alloc (Nat.le_refl _) _).alloc (by simp) _)
  obtain ⟨W0, hW0⟩ : ∃ W0, (w.alloc (.cells #[.int .i64 td, .int .i64 tq, .int .i64 tr, .int .i64 tg] 23)).alloc (.cells Try.zeroCells45 45) = W0 := ⟨_, rfl⟩
  rw [hW0] at HT HZ HB ⊢
  clear hW0
  go_cut [6] (fun s6 wx => BgCut W0 id ⟨td, tq, tr, tg⟩ s6 wx)
  case first =>
    refine wp_region_G 5 (fun w' => Below W0.heap.size W0 w') (by kernel_rfl) ((Below.refl _ _).drew) (fun hS => ?_)
    refine wpAnyG_p (i := 0) (v := ?_) rfl (by kernel_rfl) (fun _ _ _ h => h) (by rfl) (fun wx => ?_) hS ?_
    rotate_left
    · go_simp; (try with_reducible rfl)
    try simp only [pts]
    refine wpAnyG_take (i := 1) (v := ?_) rfl (by kernel_rfl) (by kernel_rfl) (by kernel_rfl) (by kernel_rfl) (by kernel_rfl) (by kernel_rfl) (fun _ _ _ h => h) (Or.inl ⟨by rfl, fun wx hSw => ?_⟩) hS ?_
    rotate_left
    · have hq := TB.c (Blk.next HT.out hSw); (try dsimp only at hSw); go_simp; (try with_reducible rfl)
    try simp only [pts]
    refine wpAnyG_two (i := 2) (j := 4) rfl rfl (by kernel_rfl) (fun K hK => ?_) (fun K hK => ?_)
    · go_simp
      (with_reducible refine (KB.out _).mono ?_)
      rintro e w6 ⟨rfl, hb6⟩
      have hS6 := hS.trans (hb6.mono hS.size)
      clear hS hb6
      have hS := hS6
      refine hK.out _ _ hS ?_
      clear hK K
      try simp only [pts]
      refine wpAnyG_take (i := 3) (v := .agg (NA (begK id ⟨td, tq, tr, tg⟩ 0) (.slice none 0 0))) rfl (by kernel_rfl) (by kernel_rfl) (by kernel_rfl) (by kernel_rfl) (by kernel_rfl) (by kernel_rfl) (fun _ _ _ h => h) (Or.inl ⟨by rfl, fun wx hSw => by kernel_rfl⟩) hS ?_
      try simp only [pts]
      have hs6 := hS.size
      refine wpAnyG_one (i := 4) rfl (by kernel_rfl) (fun K hK => ?_)
      go_simp
      have hX1 : Below W0.heap.size W0 (w6.alloc (.cells Try.zeroCells45 45)) := hS.alloc hS.size _
      clear hS
      have hS : Below W0.heap.size W0 (w6.alloc (.cells Try.zeroCells45 45)) := hX1
      have hz : Blk (w6.alloc (.cells Try.zeroCells45 45)) w6.heap.size 45 Try.zeroCells45 := Blk.new _ _ _
      refine hK.out _ _ hS ?_
      clear hK K
      try simp only [pts]
      refine wpAnyG_last rfl (by kernel_rfl) (by kernel_rfl) (by kernel_rfl) (fun K hK => ?_)
      rw [if_pos (by rfl)]
      refine wp_store_row 45 (.tmp 6) (.tmp 18) rfl (w6.heap.size) _ _ (NA (begK id ⟨td, tq, tr, tg⟩ 0) (.slice none 0 0)) rfl rfl hz (by rw [NA_size, HZS.out]) (by rw [NA_size]; exact infoNode) (NA_one _ _ _ _) (fun w8 hN8 hg8 => ?_)
      refine hK.out _ _ ?_
      clear hK K
      try simp only [pts]
      go_wp2_with fail
      go_meet
      exact ⟨_, rfl, hN8, hS.grown hg8 hS.size (fun j hj => by cases hj; omega), by omega⟩
    · go_simp
      have hX1 : Below W0.heap.size W0 (W0.alloc (.cells Try.zeroCells45 45)) := (Below.refl W0.heap.size W0).alloc (Below.refl W0.heap.size W0).size _
      clear hS
      have hS : Below W0.heap.size W0 (W0.alloc (.cells Try.zeroCells45 45)).drew := hX1.drew
      have hz : Blk (W0.alloc (.cells Try.zeroCells45 45)).drew W0.heap.size 45 Try.zeroCells45 := Blk.new _ _ _
      refine hK.out _ _ hS ?_
      clear hK K
      try simp only [pts]
      refine wpAnyG_one (i := 2) rfl (by kernel_rfl) (fun K hK => ?_)
      go_simp
      (with_reducible refine (KB.out _).mono ?_)
      rintro e w6 ⟨rfl, hb6⟩
      have hS6 := hS.trans (hb6.mono hS.size)
      have hz6 := hz.next hb6
      have hlz := Blk.lt hz
      clear hz
      have hz := hz6
      clear hS hb6
      have hS := hS6
      refine hK.out _ _ hS ?_
      clear hK K
      try simp only [pts]
      refine wpAnyG_take (i := 3) (v := .agg (NA (begK id ⟨td, tq, tr, tg⟩ 0) (.slice none 0 0))) rfl (by kernel_rfl) (by kernel_rfl) (by kernel_rfl) (by kernel_rfl) (by kernel_rfl) (by kernel_rfl) (fun _ _ _ h => h) (Or.inl ⟨by rfl, fun wx hSw => by kernel_rfl⟩) hS ?_
      try simp only [pts]
      refine wpAnyG_last rfl (by kernel_rfl) (by kernel_rfl) (by kernel_rfl) (fun K hK => ?_)
      rw [if_pos (by rfl)]
      refine wp_store_row 45 (.tmp 6) (.tmp 18) rfl (W0.heap.size) _ _ (NA (begK id ⟨td, tq, tr, tg⟩ 0) (.slice none 0 0)) rfl rfl hz (by rw [NA_size, HZS.out]) (by rw [NA_size]; exact infoNode) (NA_one _ _ _ _) (fun w8 hN8 hg8 => ?_)
      refine hK.out _ _ ?_
      clear hK K
      try simp only [pts]
      go_wp2_with fail
      go_meet
      exact ⟨_, rfl, hN8, hS.grown hg8 hS.size (fun j hj => by cases hj; omega), by omega⟩
  case rest =>
    obtain ⟨q6, rfl, hN6, hB6, hq6⟩ := hcut
    have HN6 := Lib.hid hN6
    have HB6 := Lib.hid hB6
    have HQ6 := Lib.hid hq6
    clear hN6 hB6 hq6
    go_wp2_with fail
    go_loopw [19] (fun iv wr => BgRel W0 q6 id ⟨td, tq, tr, tg⟩ iv wr) (fun iv _ => 3 - (intOf iv).toNat)
    case atStart => exact ⟨0, rfl, by omega, HN6.out, HB6.out⟩
    case round =>
      clear HN6 HB6
      obtain ⟨a, rfl, ha3, hN, hB⟩ := hrel
      have HN := Lib.hid hN
      have HBr := Lib.hid hB
      clear hN hB
      by_cases ha : a < 3
      · have p0 : (a : Int) < 3 := by omega
        have p1 : (0 : Int) ≤ (a : Int) := by omega
        go_wp2_with (first
          | (go_at_call 30; (with_reducible refine (KS.out _).mono ?_); rintro e w1 ⟨rfl, hb1⟩; have HN1 := Lib.hid (NB.next HN.out hb1); have HB1 := Lib.hid hb1; clear hb1; unfold St.val)
          | (refine wpList_store_nb 33 (.tmp 25) (.tmp 23) rfl rfl q6 (6 + a * 7) (stL (begS 0)).toArray (begK id ⟨td, tq, tr, tg⟩ a) { begK id ⟨td, tq, tr, tg⟩ a with ax := upd (begK id ⟨td, tq, tr, tg⟩ a).ax a (begS 0) } _ _ rfl rfl HN1.out (by show 6 + a * 7 + 7 ≤ 74; omega) info7 (stL_one _) (he_axp _ _ a ha _) ?_; intro w2 hN2 hg2; (rw [begK_put] at hN2); have HN2 := Lib.hid hN2; have HG2 := Lib.hid hg2; clear hN2 hg2))
        go_roundw
        case rel => exact BgRel.put ha (by go_num) HBr.out HB1.out HQ6.out HN2.out HG2.out
        case measure => simp [intOf]; omega
      · obtain rfl : a = 3 := by omega
        have hzz := HZ.out.next HBr.out
        have HZZ := Lib.hid hzz
        have hlw := Blk.lt HZ.out
        clear hzz
        go_wp2_with (first
          | (refine wpList_load_at 45 (.tmp 6) rfl rfl q6 rfl _ (NA (begK id ⟨td, tq, tr, tg⟩ 3) (.slice none 0 0)) _ HN.out Try.underlying45 rfl (by rw [NA_size]; exact infoNode) ?_)
          | (refine wpList_store_at 45 (.tmp 4) (.tmp 27) rfl rfl (w.heap.size + 1) _ _ (NA (begK id ⟨td, tq, tr, tg⟩ 3) (.slice none 0 0)) rfl rfl HZZ.out (by rw [NA_size, HZS.out]) (by rw [NA_size]; exact infoNode) (NA_one _ _ _ _) ?_; intro w2 hN2 hg2; have HN2 := Lib.hid hN2; have HG2 := Lib.hid hg2; clear hN2 hg2))
        refine bodyPost_ret (results_row_tmp Try.results24 _ _ (w.heap.size + 1) _ _ _ (.int .i64 0) rfl rfl HN2.out Try.underlying45 rfl (by rw [NA_size]; exact infoNode)) rfl ?_
        have hbw := HB.out.trans (HBr.out.mono HB.out.size)
        exact ⟨rfl, hbw.grown HG2.out hbw.size (fun j hj => by cases hj; omega)⟩
end Go.Proofs.Ytofeoeknmlkjgaa.Nk
end
section
/- A frame's numbers stay within 64 bits (plain). -/
set_option linter.unusedVariables false
namespace Go.Proofs.Ytofeoeknmlkjgaa.Nk
open Go.RowKit Go.Proofs.Ytofeoeknmlkjgaa Mb Fi Sm

def MsIn (L : List Pm) : Prop := ∀ x ∈ L, ∀ v ∈ x.vs, In64 v
theorem hear_in {id fr kind : Int} {many : Nat} {L : List Pm} (h : MsIn L) : ∀ i l, hearF id fr kind many L i = some l → ∀ v ∈ l, In64 v :=
  hearF_in (P := In64) L (fun _ => none) h (fun i l e => by cases e)
theorem told_in {h : Hd} {k d b : Nat} (hh : ∀ i l, h i = some l → ∀ v ∈ l, In64 v) (j : Nat) : In64 (toldF h k d b j) := outO_in zero64 hh 4 j
theorem sense_in {n : Nd} {d : Nat} {fr r0 r1 r2 : Int} (h0 : In64 r0) (h1 : In64 r1) (h2 : In64 r2) (j : Nat) : In64 ((senseN n d fr r0 r1 r2).di j) := by
  show In64 (if j / 3 = d then (if j % 3 = 0 then r0 else if j % 3 = 1 then r1 else r2) else 0)
  split
  · split
    · exact h0
    · split
      · exact h1
      · exact h2
  · exact zero64
theorem relay_in {n : Nd} {L : List Pm} (h : MsIn L) (hd : ∀ j, In64 (n.di j)) (j : Nat) : In64 ((relayN n L).di j) := by
  show In64 (if j / 3 < 4 then (match relayH n L (j / 3) with | some l => l.getD (j % 3) 0 | none => n.di j) else n.di j)
  split
  · cases e : relayH n L (j / 3) with
    | none => exact hd j
    | some l => exact getD_in zero64 (hear_in h _ _ e) _
  · exact hd j
theorem aF_in {n : Nd} {L : List Pm} (h : MsIn L) (hd : ∀ j, In64 (n.di j)) (d j : Nat) : In64 (aF n (decH n L) d j) := by
  unfold aF
  split
  · exact hd j
  · exact maj3_in (hd j) (told_in (hear_in h) 0) (told_in (hear_in h) 1) zero64
theorem dg_in (n : Nd) : In64 (dgF n) := by
  unfold dgF In64
  have := (Crc.sumFrom 0#32 (Wr.valsB (packL n))).isLt
  omega
theorem pass_in {n : Nd} {L : List Pm} (h : MsIn L) (hd : ∀ j, In64 (n.he j)) (j : Nat) : In64 ((passN n L).he j) := by
  show In64 (if j < 4 then (match passH n L j with | some l => l.getD 0 0 | none => n.he j) else n.he j)
  split
  · cases e : passH n L j with
    | none => exact hd j
    | some l => exact getD_in zero64 (hear_in h _ _ e) _
  · exact hd j
theorem upd_in {f : Nat → Int} {k : Nat} {x : Int} (hf : ∀ j, In64 (f j)) (hx : In64 x) (j : Nat) : In64 (upd f k x j) := by
  unfold upd; split
  · exact hx
  · exact hf j
def NOk (n : Nd) : Prop := n.tu.In ∧ ∀ a, a < 3 → (n.ax a).In
section
variable {x : Fr} {N : Nat → Nd}
theorem N1_di_in {p : Nat} (hb : ¬ (p : Int) = x.bad) (hp : p < 4) (hr : ∀ k, k < 12 → In64 (x.rd k)) (j : Nat) : In64 ((N1 x N p).di j) := by
  rw [N1_good hb]; exact sense_in (hr _ (by omega)) (hr _ (by omega)) (hr _ (by omega)) j
theorem N2_di_in {p : Nat} (hb : ¬ (p : Int) = x.bad) (hp : p < 4) (hr : ∀ k, k < 12 → In64 (x.rd k)) (hM : MsIn (B1 x p)) (j : Nat) : In64 ((N2 x N p).di j) := by
  rw [N2_good hb]; exact relay_in hM (N1_di_in hb hp hr) j
theorem N2_ok {p : Nat} (hb : ¬ (p : Int) = x.bad) (h : NOk (N p)) : NOk (N2 x N p) := by
  obtain ⟨_, _, c, _, e, _⟩ := N2_id (x := x) (N := N) hb
  exact ⟨by rw [e]; exact h.1, by rw [c]; exact h.2⟩
theorem N3_ok {p : Nat} (hb : ¬ (p : Int) = x.bad) (h : NOk (N p)) : NOk (N3 x N p) := by
  refine ⟨by rw [(N3_id hb).2.2.2]; exact h.1, fun a ha => ?_⟩
  rw [N3_ax hb]
  show (if a < 3 then stepS ((N p).ax a) (N p).tu ((N3 x N p).us a) else (N p).ax a).In
  rw [if_pos ha]
  exact stepS_in _ _ _ (h.2 a ha)
theorem N3_dg_in {p : Nat} (hb : ¬ (p : Int) = x.bad) : In64 (N3 x N p).dg := by rw [N3_dg hb]; exact dg_in _
theorem N4_he_in {p : Nat} (hb : ¬ (p : Int) = x.bad) (hM : MsIn (B3 x N p)) (j : Nat) : In64 ((N4 x N p).he j) := by
  rw [N4_good hb]
  refine pass_in hM (fun j => ?_) j
  rw [N3_he hb]
  exact upd_in (fun _ => zero64) (N3_dg_in hb) j
theorem N5_ok {p : Nat} (hb : ¬ (p : Int) = x.bad) (h : NOk (N p)) : NOk (N5 x N p) :=
  ⟨by rw [(N5_keep hb).2.2.1]; exact h.1, by rw [(N5_keep hb).2.2.2.1]; exact (N3_ok hb h).2⟩
end
end Go.Proofs.Ytofeoeknmlkjgaa.Nk
end
section
/- node.adopt: of the node only the axes and the roll change. -/
set_option linter.unusedVariables false
namespace Go.Proofs.Ytofeoeknmlkjgaa.Nk
open Go.RowKit Go.Proofs.Ytofeoeknmlkjgaa Mb Fi Sm

theorem run_eql_slice_nil_w {P : Program} (w : World) (t e : TypeId) (a : Option Addr) (l c : Nat) (h : P.underlying t = some (.slice e)) : (binOp .eql t (.slice a l c) (.slice none 0 0)).run P w = .ok (.bool a.isNone) w := by
  simp only [binOp]
  simp [Op.equal, Op.maxDepth, Lib.run_equalIn_slice_nil w 9999 t e a l c 0 0 h]
def AdPost (n : Nd) (va : Value) (g : Nat) (w : World) (e : Ending) (w' : World) : Prop := ∃ n' : Nd, e = .returned (.tuple #[]) ∧ NB w' g n' va ∧ w.grownBy w' (some g) ∧ Lk n n'
def AdCut (wr : World) (s : Value) (wx : World) : Prop := ∃ b : Bool, s = .bool b ∧ Below wr.heap.size wr wx
def AdRel (w : World) (iv : Value) (wr : World) : Prop := ∃ i : Nat, iv = .int .i64 i ∧ i ≤ 4 ∧ Below w.heap.size w wr
def AdIn (w : World) (i : Nat) (kv : Value) (wr : World) : Prop := ∃ k : Nat, kv = .int .i64 k ∧ i < k ∧ k ≤ 4 ∧ Below w.heap.size w wr
def Sl24 (w : World) (sv : Nat → Value) : Prop := ∀ i, i < 4 → sv i = .slice none 0 0 ∨ ∃ l ad c, sv i = .slice (some ad) 24 c ∧ 24 ≤ c ∧ Ints w .i64 (some ad) 24 l ∧ ∀ z ∈ l, In64 z

set_option maxRecDepth 100000 in
set_option maxHeartbeats 4000000 in
theorem adopt_any (n : Nd) (va : Value) (g : Nat) (sv : Nat → Value) (w : World) (hN : NB w g n va) (hS : Sl24 w sv) (hin : ∀ a, a < 3 → (n.ax a).In) :
    Calls Try.prog 47 #[.pointer (some ⟨g, 0, none⟩), .agg (AN 4 sv)] w (AdPost n va g w) := by
  have hb0 : Below w.heap.size w (w.alloc (.cells (AN 4 sv) 94)) := (Below.refl _ _).alloc (Nat.le_refl _) _
  have HBB := Lib.hid (Blk.new w 94 (AN 4 sv))
  have HSV := Lib.hid hS
  have HN := Lib.hid hN
  have HIN := Lib.hid hin
  have hgl := Blk.lt hN
  have HW1 := Lib.hid hb0
  obtain ⟨w1, hw1⟩ : ∃ w1, w.alloc (.cells (AN 4 sv) 94) = w1 := ⟨_, rfl⟩
  clear hS hN hin hb0
  go_enter Try.func47, Try.ntmps47
  go_upto_region 1 with fail
  rw [hw1] at HBB HW1
  clear hw1
  have hs1 := HW1.out.size
  go_wp2_with fail
  go_loopw [6] (fun iv wr => AdRel w1 iv wr) (fun iv _ => 4 - (intOf iv).toNat)
  case atStart => exact ⟨0, rfl, by omega, Below.refl _ _⟩
  case round =>
    obtain ⟨i, rfl, hi4, hB⟩ := hrel
    by_cases hi : i < 4
    · have q0 : (i : Int) < 4 := by omega
      have z0 : (0 : Int) ≤ (i : Int) := by omega
      have HB := Lib.hid hB
      clear hB
      obtain ⟨wo, rfl⟩ : ∃ wo : World, wo = wr := ⟨_, rfl⟩
      go_upto_region 5 with fail
      go_loopw [5] (fun kv wr => AdIn w1 i kv wr) (fun kv _ => 4 - (intOf kv).toNat)
      case atStart => exact ⟨i + 1, by go_num, by omega, by omega, HB.out⟩
      case round =>
        obtain ⟨k, rfl, hik, hk4, hB⟩ := hrel
        have HB := Lib.hid hB
        clear hB
        by_cases hk : k < 4
        · have q1 : (k : Int) < 4 := by omega
          have z1 : (0 : Int) ≤ (k : Int) := by omega
          have q22 : ∀ (w : World) (a : Option Addr) (n c : Nat), (binOp .eql 58 (.slice a n c) (.slice none 0 0)).run Try.prog w = .ok (.bool a.isNone) w := fun w a n c => run_eql_slice_nil_w w _ _ a n c Try.underlying58
          have ci := Blk.cell (HBB.out.next HB.out) i
          have ck := Blk.cell (HBB.out.next HB.out) k
          rw [AN_get hi] at ci
          rw [AN_get hk] at ck
          rcases HSV.out i hi with e1 | ⟨l1, ad1, c1, e1, hc1, hI1, hl1⟩
          · rw [e1] at ci
            go_upto_region 7 with fail
            go_quiet (fail)
            go_wp2_with fail
            go_roundw
            case rel => exact ⟨k + 1, by go_num, by omega, by omega, HB.out.trans ((below_drewN _ _ _).mono HB.out.size)⟩
            case measure => simp [intOf]; omega
          · rw [e1] at ci
            rcases HSV.out k hk with e2 | ⟨l2, ad2, c2, e2, hc2, hI2, hl2⟩
            · rw [e2] at ck
              go_upto_region 7 with fail
              go_quiet (fail)
              go_wp2_with fail
              go_roundw
              case rel => exact ⟨k + 1, by go_num, by omega, by omega, HB.out.trans ((below_drewN _ _ _).mono HB.out.size)⟩
              case measure => simp [intOf]; omega
            · rw [e2] at ck
              have KS := Lib.hid (fun W (h : Below wr.heap.size wr W) => nsame_any (some ad1) (some ad2) 24 c1 c2 l1 l2 W (hI1.next (HW1.out.trans ((HB.out.mono hs1).trans (h.mono (Nat.le_trans hs1 HB.out.size))))) (hI2.next (HW1.out.trans ((HB.out.mono hs1).trans (h.mono (Nat.le_trans hs1 HB.out.size))))) (by omega))
              have hlw := Blk.lt (HBB.out.next HB.out)
              have HLW := Lib.hid hlw
              clear hlw
              go_upto_region 7 with fail
              go_cut [34] (fun s34 wx => AdCut wr s34 wx)
              case first =>
                have cid : wr.drew.cell? ⟨w.heap.size, i, none⟩ = some (.slice (some ad1) 24 c1) := ci
                have ckd : wr.drew.cell? ⟨w.heap.size, k, none⟩ = some (.slice (some ad2) 24 c2) := ck
                go_region_held3 (fun w' => w'.cell? ⟨w.heap.size, i, none⟩ = some (.slice (some ad1) 24 c1) ∧ w'.cell? ⟨w.heap.size, k, none⟩ = some (.slice (some ad2) 24 c2))
                  (first | with_reducible exact ⟨cid, ckd⟩ | with_reducible exact ⟨ci2, ck2⟩) (first
                  | (go_at_call 62; (with_reducible refine (KS.out _ (Below.refl wr.heap.size wr).drew).mono ?_); rintro e w2 ⟨⟨bb, rfl⟩, hb2⟩; have hb3 : Below wr.heap.size wr w2 := (Below.refl wr.heap.size wr).drew.trans hb2; have ci2 := (hb3.cell (p := ⟨w.heap.size, i, none⟩) HLW.out).trans ci; have ck2 := (hb3.cell (p := ⟨w.heap.size, k, none⟩) HLW.out).trans ck; have HB3 := Lib.hid hb3; clear hb2 hb3))
                go_wp2_with fail
                go_meet
                exact ⟨_, rfl, HB3.out⟩
              case rest =>
                obtain ⟨bb, rfl, hbc⟩ := hcut
                have cic := (hbc.cell (p := ⟨w.heap.size, i, none⟩) HLW.out).trans ci
                have HBC := Lib.hid hbc
                clear hbc KS ci ck
                cases bb with
                | true =>
                  go_wp2_with fail
                  go_roundw
                  case rel => exact ⟨k + 1, by go_num, by omega, by omega, HB.out.trans (HBC.out.mono HB.out.size)⟩
                  case measure => simp [intOf]; omega
                | false =>
                  have hbw := HW1.out.trans ((HB.out.trans (HBC.out.mono HB.out.size)).mono hs1)
                  have KU := Lib.hid (unpack_any n va g (some ad1) c1 l1 wc (HN.out.next hbw) hc1 (hI1.next hbw) hl1 HIN.out)
                  have HBW := Lib.hid hbw
                  clear hbw
                  go_wp2_with (first
                    | (go_at_call 63; (with_reducible refine KU.out.mono ?_); rintro e w3 ⟨b3, n3, rfl, hN3, hg3, hl3⟩; have HN3 := Lib.hid hN3; have HG3 := Lib.hid hg3; have HL3 := Lib.hid hl3; clear hN3 hg3 hl3))
                  exact bodyPost_ret (results_none rfl _ _ _) rfl ⟨n3, rfl, HN3.out, grown_trans (grown_below HBW.out) HG3.out, HL3.out⟩
        · obtain rfl : k = 4 := by omega
          go_wp2_with fail
          go_roundw
          case rel => exact ⟨i + 1, by go_num, hi, HB.out⟩
          case measure => simp [intOf]; omega
    · obtain rfl : i = 4 := by omega
      have HB := Lib.hid hB
      clear hB
      go_wp2_with fail
      go_end0
      have hbw := HW1.out.trans (HB.out.mono hs1)
      exact ⟨n, rfl, HN.out.next hbw, grown_below hbw, Lk.refl n⟩
end Go.Proofs.Ytofeoeknmlkjgaa.Nk
end
section
/- node.Close. -/
set_option linter.unusedVariables false
namespace Go.Proofs.Ytofeoeknmlkjgaa.Nk
open Go.RowKit Go.Proofs.Ytofeoeknmlkjgaa Mb Fi Sm

def repTo (n : Nd) (k : Nat) : Array Value := #[.int .i64 n.id, .int .i64 n.fr, .int .i64 (n.us 0), .int .i64 (n.us 1), .int .i64 (n.us 2), .int .i64 (if 0 < k then (n.ax 0).x else 0), .int .i64 (if 1 < k then (n.ax 1).x else 0), .int .i64 (if 2 < k then (n.ax 2).x else 0),
  .int .i64 n.dg, .bool n.vs, .bool (n.ro.inn 0), .bool (n.ro.inn 1), .bool (n.ro.inn 2), .bool (n.ro.inn 3)]
def repC (n : Nd) : Array Value := repTo n 3
theorem info14 : (Try.prog.info? 60).map (·.size) = some 14 := by kernel_rfl
theorem repTo_one (n : Nd) (k : Nat) : (repTo n k).all (·.oneCell') = true := by simp [repTo, Value.oneCell']
def ClosePost (n : Nd) (bs : List Value) (w : World) (e : Ending) (w' : World) : Prop :=
  ∃ n' A' c', e = .returned (.tuple #[.agg (NA n' (.slice A' bs.length c')), .agg (repC n')]) ∧ w'.ownsRow w.heap.size 4 1 (.slice A' bs.length c') bs.length bs ∧ Below w.heap.size w w' ∧ Lk n n' ∧ ((n.vs = true ∧ n.vv ≠ n.dg) ∨ n' = n)
theorem rep_put {w wr : World} {q i : Nat} {n : Nd} (h : Blk wr q 60 (repTo n i)) (hi : i < 3) : Blk (wr.setCell ⟨q, 5 + i, none⟩ (.int .i64 (n.ax i).x)) q 60 (repTo n (i + 1)) := by
  have := h.set_ (5 + i) (.int .i64 (n.ax i).x)
  have hc : i = 0 ∨ i = 1 ∨ i = 2 := by omega
  rcases hc with rfl | rfl | rfl <;> exact this
def CpRel (w7 : World) (q : Nat) (n : Nd) (iv : Value) (wr : World) : Prop := ∃ i : Nat, iv = .int .i64 i ∧ i ≤ 3 ∧ Blk wr q 60 (repTo n i) ∧ w7.grownBy wr (some q)
theorem CpRel.put {w8 wr : World} {q i : Nat} {n : Nd} {iv : Value} (hi : i < 3) (hiv : iv = .int .i64 ((i + 1 : Nat) : Int)) (h : Blk wr q 60 (repTo n i)) (hg : w8.grownBy wr (some q)) (o : Obj) : CpRel w8 q n iv ((wr.alloc o).setCell ⟨q, 5 + i, none⟩ (.int .i64 (n.ax i).x)) :=
  ⟨i + 1, hiv, hi, rep_put (w := wr) (h.alloc o) hi, grown_trans hg (grown_trans (grown_below ((Below.refl _ _).alloc (Nat.le_refl _) _)) (grown_set _ _ _ _))⟩
theorem sl24 {w : World} {B : Nat} {h : Hd} {sv : Nat → Value} (hs : Sl4 w B h sv) (hl : ∀ i l, h i = some l → l.length = 24 ∧ ∀ z ∈ l, In64 z) : Sl24 w sv := by
  intro i hi
  rcases hs i hi with ⟨h1, h2⟩ | ⟨l, ad, c, h1, h2, h3, _, h7⟩
  · exact .inl h2
  · obtain ⟨h5, h6⟩ := hl i l h1
    rw [h5] at h2 h3 h7
    exact .inr ⟨l, ad, c, h2, h7, h3, h6⟩
theorem cl_end {w w7 w9 w10 : World} {n n7 : Nd} {A' : Option Addr} {c' b0 g1 g2 : Nat} {bs : List Value} {zc ms : Array Value} (hg1 : w.heap.size ≤ g1) (hg2 : w.heap.size ≤ g2) (h12 : g2 ≠ g1)
    (hZ : Blk w7 g1 45 zc) (hM : Blk w7 g2 60 ms) (hO : w7.ownsRow b0 4 1 (.slice A' bs.length c') bs.length bs) (hb0 : w.heap.size ≤ b0) (hB : Below w.heap.size w w7)
    (hg9 : w7.grownBy w9 (some g1)) (hg10 : w9.grownBy w10 (some g2)) (hlk : Lk n n7) (heq : (n.vs = true ∧ n.vv ≠ n.dg) ∨ n7 = n) :
    ClosePost n bs w (.returned (.tuple #[.agg (NA n7 (.slice A' bs.length c')), .agg (repC n7)])) w10 := by
  have hmm := hM.grown hg9 (by intro e; exact h12 (Option.some.inj e))
  have ho10 := own_kept_t (own_kept_t hO hg9 hZ (by decide)) hg10 hmm (by decide)
  have b9 := hB.grown hg9 hB.size (fun j hj => by cases hj; exact hg1)
  exact ⟨n7, A', c', rfl, own_le ho10 hb0, b9.grown hg10 b9.size (fun j hj => by cases hj; exact hg2), hlk, heq⟩

set_option maxRecDepth 100000 in
set_option maxHeartbeats 8000000 in
theorem Close_any (n : Nd) (A : Option Addr) (m c : Nat) (bs : List Value) (Am : Option Addr) (mm cm : Nat) (Ms : List Mg) (h0 : 0 ≤ n.id) (h4 : n.id < 4) (hin : ∀ a, a < 3 → (n.ax a).In) (w : World) (hb : VR w 1 A m c bs) (h1 : ∀ u ∈ bs, u.oneCell' = true) (hm : m ≤ 140737488355328) (hM : MR w Am mm cm Ms) (hmm : mm ≤ 17592186044416) :
    Calls Try.prog 22 #[.agg (NA n (.slice A m c)), .slice Am mm cm] w (ClosePost n bs w) := by
  obtain rfl : m = bs.length := by have := hb.1; omega
  have HVB := Lib.hid hb
  have H1 := Lib.hid h1
  have HMR := Lib.hid hM
  have HIN := Lib.hid hin
  clear hb h1 hM hin
  go_enter Try.func22, Try.ntmps22
  go_upto_region 1 with fail
  have hN : NB (((w.alloc (.cells (NA n (.slice A bs.length c)) 45)).alloc (.cells Try.zeroCells45 45)).alloc (.cells #[.int .i64 0, .int .i64 0, .int .i64 0, .int .i64 0, .int .i64 0, .int .i64 0, .int .i64 0, .int .i64 0, .int .i64 0, .bool false, .bool false, .bool false, .bool false, .bool false] 60)) w.heap.size n (.slice A bs.length c) := ((Blk.new _ _ _).alloc _).alloc _
  have hZ : Blk (((w.alloc (.cells (NA n (.slice A bs.length c)) 45)).alloc (.cells Try.zeroCells45 45)).alloc (.cells #[.int .i64 0, .int .i64 0, .int .i64 0, .int .i64 0, .int .i64 0, .int .i64 0, .int .i64 0, .int .i64 0, .int .i64 0, .bool false, .bool false, .bool false, .bool false, .bool false] 60)) (w.heap.size + 1) 45 Try.zeroCells45 := (Blk.at_ _ _ _ _ (by simp)).alloc _
  have hM : Blk (((w.alloc (.cells (NA n (.slice A bs.length c)) 45)).alloc (.cells Try.zeroCells45 45)).alloc (.cells #[.int .i64 0, .int .i64 0, .int .i64 0, .int .i64 0, .int .i64 0, .int .i64 0, .int .i64 0, .int .i64 0, .int .i64 0, .bool false, .bool false, .bool false, .bool false, .bool false] 60)) (w.heap.size + 1 + 1) 60 #[.int .i64 0, .int .i64 0, .int .i64 0, .int .i64 0, .int .i64 0, .int .i64 0, .int .i64 0, .int .i64 0, .int .i64 0, .bool false, .bool false, .bool false, .bool false, .bool false] := Blk.at_ _ _ _ _ (by simp)
  have hB : Below w.heap.size w (((w.alloc (.cells (NA n (.slice A bs.length c)) 45)).alloc (.cells Try.zeroCells45 45)).alloc (.cells #[.int .i64 0, .int .i64 0, .int .i64 0, .int .i64 0, .int .i64 0, .int .i64 0, .int .i64 0, .int .i64 0, .int .i64 0, .bool false, .bool false, .bool false, .bool false, .bool false] 60)) := (((Below.refl _ _).alloc (Nat.le_refl _) _).alloc (by simp) _).alloc (by simp; omega) _
  have hzs : (Try.zeroCells45).size = 74 := by kernel_rfl
  generalize Try.zeroCells45 = zc at *
  generalize ((w.alloc (.cells (NA n (.slice A bs.length c)) 45)).alloc (.cells zc 45)).alloc (.cells #[.int .i64 0, .int .i64 0, .int .i64 0, .int .i64 0, .int .i64 0, .int .i64 0, .int .i64 0, .int .i64 0, .int .i64 0, .bool false, .bool false, .bool false, .bool false, .bool false] 60) = W0 at *
  have hW0 : w.heap.size + 1 + 1 < W0.heap.size := hM.lt
  have HZS := Lib.hid hzs
  have HN := Lib.hid hN
  have HZ := Lib.hid hZ
  have HM := Lib.hid hM
  have HB := Lib.hid hB
  have KC := Lib.hid (copied_any n A bs.length c bs W0 (HVB.out.next hB) H1.out hm)
  unfold CopyPost at KC
  clear hN hZ hM hB hzs
  go_upto_region 4 with (first
    | (refine wpList_load_at 45 (.tmp 2) rfl rfl w.heap.size rfl _ (NA n (.slice A bs.length c)) _ HN.out Try.underlying45 rfl (by rw [NA_size]; exact infoNode) ?_)
    | (go_at_call 35; (with_reducible refine KC.out.mono ?_); rintro e w1 ⟨A', c', rfl, hO1, hB1⟩; have hw1 : W0.heap.size ≤ w1.heap.size := hB1.size; have HN1 := Lib.hid (NB.next HN.out hB1); have HZ1 := Lib.hid (HZ.out.next hB1); have HM1 := Lib.hid (HM.out.next hB1); have HB1 := Lib.hid (HB.out.trans (hB1.mono HB.out.size)); have HO1 := Lib.hid hO1; clear hO1 hB1)
    | (refine wpList_store_at 45 (.tmp 2) (.tmp 11) rfl rfl w.heap.size _ _ (NA n (.slice A' bs.length c')) rfl rfl HN1.out (by rw [NA_size, NA_size]) (by rw [NA_size]; exact infoNode) (NA_one _ _ _ _) ?_; intro w2 hN2 hg2; have HN2 := Lib.hid hN2; have HG2 := Lib.hid hg2; clear hN2 hg2)
    | (refine wpList_load_at 45 (.tmp 2) rfl rfl w.heap.size rfl _ (NA n (.slice A' bs.length c')) _ HN2.out Try.underlying45 rfl (by rw [NA_size]; exact infoNode) ?_)
    | (go_at_call 36; (with_reducible refine (strange_no n (.slice A' bs.length c') w2 h0 h4).mono ?_); rintro e w3 ⟨rfl, hb3⟩; have HN3 := Lib.hid (NB.next HN2.out hb3); have HBs := Lib.hid hb3; clear hb3))
  have HZ3 := Lib.hid ((HZ1.out.grown HG2.out (by intro e; have := Option.some.inj e; omega)).next HBs.out)
  have HM3 := Lib.hid ((HM1.out.grown HG2.out (by intro e; have := Option.some.inj e; omega)).next HBs.out)
  have HO3 := Lib.hid (own_below (own_kept_t HO1.out HG2.out HN1.out (by decide)) HBs.out (fun x hx => ((own_kept_t HO1.out HG2.out HN1.out (by decide)).lt x hx).2))
  have HB3 := Lib.hid ((HB1.out.grown HG2.out HB1.out.size (fun j hj => by cases hj; exact Nat.le_refl _)).trans (HBs.out.mono (by have := HG2.out.size; have := HB1.out.size; omega)))
  have hw3 : W0.heap.size ≤ w3.heap.size := by have := HG2.out.size; have := HBs.out.size; omega
  clear HN HZ HM HB KC HN1 HZ1 HM1 HB1 HO1 HN2 HG2 HBs
  have HMR3 := Lib.hid (HMR.out.next HB3.out)
  have KH := Lib.hid (hear_any n (.slice A' bs.length c') Am mm cm Ms 5 24 24 rfl (by decide) (by decide) h0 h4 w3 HMR3.out hmm)
  unfold HearPost at KH
  go_upto_region 5 with (first
    | (refine wpList_load_at 45 (.tmp 2) rfl rfl w.heap.size rfl _ (NA n (.slice A' bs.length c')) _ HN3.out Try.underlying45 rfl (by rw [NA_size]; exact infoNode) ?_)
    | (go_at_call 37; (with_reducible refine KH.out.mono ?_); rintro e w4 ⟨sv, rfl, hS4, hb4⟩; have HN4 := Lib.hid (NB.next HN3.out hb4); have HSL := Lib.hid hS4; have HB34 := Lib.hid hb4; clear hS4 hb4)
    | (refine wpList_store_at 94 (.tmp 6) (.tmp 18) rfl rfl w4.heap.size _ #[.slice none 0 0, .slice none 0 0, .slice none 0 0, .slice none 0 0] (AN 4 sv) rfl rfl (Blk.new w4 _ _) (by rw [AN_size]; rfl) (by rw [AN_size]; exact info44) (AN_one (fun i hi => sl4_one HSL.out i hi)) ?_; intro w5 hS5 hg5; have HS5 := Lib.hid hS5; have HG5 := Lib.hid hg5; clear hS5 hg5))
  obtain ⟨va7, hva⟩ : ∃ v, v = Value.slice A' bs.length c' := ⟨_, rfl⟩
  have HVA := Lib.hid hva
  have hs34 := HB34.out.size
  have hs45 := HG5.out.size
  have hb45 : Below w4.heap.size w4 w5 := ((Below.refl _ _).alloc (Nat.le_refl _) _).grown HG5.out (by simp) (fun j hj => by cases hj; exact Nat.le_refl _)
  have hb35 := HB34.out.trans (hb45.mono hs34)
  have HN6 := Lib.hid (NB.next HN3.out hb35)
  have HZ6 := Lib.hid (HZ3.out.next hb35)
  have HM6 := Lib.hid (HM3.out.next hb35)
  have HO6 := Lib.hid (own_below HO3.out hb35 (fun x hx => (HO3.out.lt x hx).2))
  have HB6 := Lib.hid (HB3.out.trans (hb35.mono HB3.out.size))
  have h3sz := HM3.out.lt
  have hsl : Sl24 w5 sv := sl24 (HSL.out.next hb45) (fun i l e => ⟨hearF_len (id := n.id) (fr := n.fr) (kind := 5) (many := 24) (Ms.map Mg.pm) (fun _ => none) (fun i l e => by cases e) i l e,
    hearF_in (P := In64) (Ms.map Mg.pm) (fun _ => none) (fun x hx v hv => by obtain ⟨y, hy, rfl⟩ := List.mem_map.1 hx; exact (HMR.out.2.2 y hy).2.2.2 v hv) (fun i l e => by cases e) i l e⟩)
  have HSL6 := Lib.hid hsl
  clear hsl hb45 hb35 HN3 HZ3 HM3 HO3 HB3 HSL HB34 HG5 KH HMR3 HN4 hva
  rw [← HVA.out] at HN6
  have hg6 : w4.heap.size ≠ w.heap.size := by omega
  generalize w4.heap.size = g6 at *
  have k72 : w5.cell? ⟨w.heap.size, 72, none⟩ = some (.bool n.vs) := NB.at_ HN6.out (k := 72) (by decide)
  have k71 : w5.cell? ⟨w.heap.size, 71, none⟩ = some (.int .i64 n.vv) := NB.at_ HN6.out (k := 71) (by decide)
  have k70 : w5.cell? ⟨w.heap.size, 70, none⟩ = some (.int .i64 n.dg) := NB.at_ HN6.out (k := 70) (by decide)
  cases hvs : n.vs with
  | false =>
    rw [hvs] at k72
    clear hvs
    go_upto_region 7 with (first | go_big_skip)
    clear k70 k71 k72
    have HN7 : Hid (NB w5 w.heap.size n va7) := HN6
    have HG7 : Hid (w5.grownBy w5 (some w.heap.size)) := Lib.hid (grown_refl w5 _)
    have HLK : Hid (Lk n n) := Lib.hid (Lk.refl n)
    skip
    have c0 : w5.cell? ⟨w.heap.size, 0, none⟩ = some (.int .i64 n.id) := NB.at_ HN7.out (k := 0) (by decide)
    have c1 : w5.cell? ⟨w.heap.size, 1, none⟩ = some (.int .i64 n.fr) := NB.at_ HN7.out (k := 1) (by decide)
    have c67 : w5.cell? ⟨w.heap.size, 67, none⟩ = some (.int .i64 (n.us 0)) := NB.at_ HN7.out (k := 67) (by decide)
    have c68 : w5.cell? ⟨w.heap.size, 68, none⟩ = some (.int .i64 (n.us 1)) := NB.at_ HN7.out (k := 68) (by decide)
    have c69 : w5.cell? ⟨w.heap.size, 69, none⟩ = some (.int .i64 (n.us 2)) := NB.at_ HN7.out (k := 69) (by decide)
    have c70 : w5.cell? ⟨w.heap.size, 70, none⟩ = some (.int .i64 n.dg) := NB.at_ HN7.out (k := 70) (by decide)
    have c72 : w5.cell? ⟨w.heap.size, 72, none⟩ = some (.bool n.vs) := NB.at_ HN7.out (k := 72) (by decide)
    have c27 : w5.cell? ⟨w.heap.size, 27, none⟩ = some (.bool (n.ro.inn 0)) := NB.at_ HN7.out (k := 27) (by decide)
    have c28 : w5.cell? ⟨w.heap.size, 28, none⟩ = some (.bool (n.ro.inn 1)) := NB.at_ HN7.out (k := 28) (by decide)
    have c29 : w5.cell? ⟨w.heap.size, 29, none⟩ = some (.bool (n.ro.inn 2)) := NB.at_ HN7.out (k := 29) (by decide)
    have c30 : w5.cell? ⟨w.heap.size, 30, none⟩ = some (.bool (n.ro.inn 3)) := NB.at_ HN7.out (k := 30) (by decide)
    go_upto_region 8 with fail
    clear c0 c1 c67 c68 c69 c70 c72 c27 c28 c29 c30
    have hwlt : w.heap.size < w5.heap.size := Blk.lt HN7.out
    have HP8 := Lib.hid (show Blk (w5.alloc (.cells #[.int .i64 n.id, .int .i64 n.fr, .int .i64 (n.us 0), .int .i64 (n.us 1), .int .i64 (n.us 2), .int .i64 0, .int .i64 0, .int .i64 0, .int .i64 n.dg, .bool n.vs, .bool (n.ro.inn 0), .bool (n.ro.inn 1), .bool (n.ro.inn 2), .bool (n.ro.inn 3)] 60)) w5.heap.size 60 (repTo n 0) from Blk.new _ _ _)
    have HB8 := Lib.hid (show Below w5.heap.size w5 (w5.alloc (.cells #[.int .i64 n.id, .int .i64 n.fr, .int .i64 (n.us 0), .int .i64 (n.us 1), .int .i64 (n.us 2), .int .i64 0, .int .i64 0, .int .i64 0, .int .i64 n.dg, .bool n.vs, .bool (n.ro.inn 0), .bool (n.ro.inn 1), .bool (n.ro.inn 2), .bool (n.ro.inn 3)] 60)) from (Below.refl _ _).alloc (Nat.le_refl _) _)
    obtain ⟨w8, hw8⟩ : ∃ w8, w5.alloc (.cells #[.int .i64 n.id, .int .i64 n.fr, .int .i64 (n.us 0), .int .i64 (n.us 1), .int .i64 (n.us 2), .int .i64 0, .int .i64 0, .int .i64 0, .int .i64 n.dg, .bool n.vs, .bool (n.ro.inn 0), .bool (n.ro.inn 1), .bool (n.ro.inn 2), .bool (n.ro.inn 3)] 60) = w8 := ⟨_, rfl⟩
    rw [hw8] at HP8 HB8 ⊢
    clear hw8
    have HN8 := Lib.hid (NB.next HN7.out HB8.out)
    go_upto_region 9 with (first
      | (refine wpList_load_mid rfl 34 (.tmp 47) rfl w.heap.size 6 rfl (axL n) _ HN8.out.axR Try.underlying34 rfl info21 ?_))
    go_loopw [49] (fun iv wr => CpRel w8 w5.heap.size n iv wr) (fun iv _ => 3 - (intOf iv).toNat)
    case atStart => exact ⟨0, rfl, by omega, HP8.out, grown_refl _ _⟩
    case round =>
      obtain ⟨i, rfl, hi3, hP, hG⟩ := hrel
      have HPr := Lib.hid hP
      have HGr := Lib.hid hG
      clear hP hG
      by_cases hi : i < 3
      · have hc : i = 0 ∨ i = 1 ∨ i = 2 := by omega
        rcases hc with rfl | rfl | rfl
        · have ix := fun W => ixA0 n W
          have k5 := fun o => show (wr.alloc o).cell? ⟨w5.heap.size, 5, none⟩ = some _ from (Blk.cell (HPr.out.alloc o) 5).trans rfl
          have f5 := fun o => Blk.frozen (HPr.out.alloc o) 5
          go_wp2_with fail
          go_roundw
          case rel => exact CpRel.put (i := 0) (by decide) rfl HPr.out HGr.out _
          case measure => simp [intOf]
        · have ix := fun W => ixA1 n W
          have k5 := fun o => show (wr.alloc o).cell? ⟨w5.heap.size, 6, none⟩ = some _ from (Blk.cell (HPr.out.alloc o) 6).trans rfl
          have f5 := fun o => Blk.frozen (HPr.out.alloc o) 6
          go_wp2_with fail
          go_roundw
          case rel => exact CpRel.put (i := 1) (by decide) rfl HPr.out HGr.out _
          case measure => simp [intOf]
        · have ix := fun W => ixA2 n W
          have k5 := fun o => show (wr.alloc o).cell? ⟨w5.heap.size, 7, none⟩ = some _ from (Blk.cell (HPr.out.alloc o) 7).trans rfl
          have f5 := fun o => Blk.frozen (HPr.out.alloc o) 7
          go_wp2_with fail
          go_roundw
          case rel => exact CpRel.put (i := 2) (by decide) rfl HPr.out HGr.out _
          case measure => simp [intOf]
      · obtain rfl : i = 3 := by omega
        have hz7 := HZ6.out.grown HG7.out (by intro e; have := Option.some.inj e; omega)
        have hm7 := HM6.out.grown HG7.out (by intro e; have := Option.some.inj e; omega)
        have hb7 := HB6.out.grown HG7.out HB6.out.size (fun j hj => by cases hj; exact Nat.le_refl _)
        have ho7 := own_kept_t HO6.out HG7.out HN6.out (by decide)
        have hzl := Blk.lt hz7
        have hml := Blk.lt hm7
        have hzr := (hz7.next HB8.out).grown HGr.out (by intro e; have := Option.some.inj e; omega)
        have hmr := (hm7.next HB8.out).grown HGr.out (by intro e; have := Option.some.inj e; omega)
        have hnr := Blk.grown HN8.out HGr.out (by intro e; have := Option.some.inj e; omega)
        have hor := own_kept_t (own_below ho7 HB8.out (fun x hx => (ho7.lt x hx).2)) HGr.out HP8.out (by decide)
        have hbr := (hb7.trans (HB8.out.mono hb7.size)).grown HGr.out (Nat.le_trans hb7.size HB8.out.size) (fun j hj => by cases hj; omega)
        have HZr := Lib.hid hzr
        have HMr := Lib.hid hmr
        have HNr := Lib.hid hnr
        have HOr := Lib.hid hor
        have HBr := Lib.hid hbr
        have HVr : Hid ((NA n va7).all (·.oneCell') = true) := by rw [HVA.out]; exact NA_one _ _ _ _
        have hwl := HB6.out.size
        clear hz7 hm7 hb7 ho7 hzr hmr hnr hor hbr
        go_upto_region 13 with fail
        refine wp_region_G 3 (fun w' => NB w' w.heap.size n va7 ∧ Blk w' w5.heap.size 60 (repTo n 3)) (by kernel_rfl) (⟨NB.next HNr.out (Below.refl _ _).drew, HPr.out.next (Below.refl _ _).drew⟩) (fun hS => ?_)
        refine wpAnyG_take (i := 0) (v := .agg (NA n va7)) rfl (by kernel_rfl) (by kernel_rfl) (by kernel_rfl) (by kernel_rfl) (by kernel_rfl) (by kernel_rfl) (fun _ _ _ h => h) (Or.inl ⟨by rfl, fun wx hSw => exec_load_row 45 (.tmp 2) rfl w.heap.size rfl _ _ _ hSw.1 Try.underlying45 rfl (by rw [NA_size]; exact infoNode)⟩) hS ?_
        try simp only [pts]
        refine wpAnyG_take (i := 1) (v := .agg (repTo n 3)) rfl (by kernel_rfl) (by kernel_rfl) (by kernel_rfl) (by kernel_rfl) (by kernel_rfl) (by kernel_rfl) (fun _ _ _ h => h) (Or.inl ⟨by rfl, fun wx hSw => exec_load_row 60 (.tmp 7) rfl w5.heap.size rfl _ _ _ hSw.2 Try.underlying60 rfl info14⟩) hS ?_
        try simp only [pts]
        refine wpAnyG_one (i := 2) rfl (by kernel_rfl) (fun K hK => ?_)
        rw [if_pos (by rfl)]
        refine wp_store_row 45 (.tmp 4) (.tmp 59) rfl (w.heap.size + 1) _ zc (NA n va7) rfl rfl (HZr.out.next (Below.refl _ _).drew) (by rw [NA_size, HZS.out]) (by rw [NA_size]; exact infoNode) HVr.out (fun w9 hN9 hg9 => ?_)
        have hS9 : NB w9 w.heap.size n va7 ∧ Blk w9 w5.heap.size 60 (repTo n 3) := ⟨Blk.grown hS.1 hg9 (by intro e; have := Option.some.inj e; omega), hS.2.grown hg9 (by intro e; have := Option.some.inj e; omega)⟩
        refine hK.out _ _ hS9 ?_
        clear hK K hS
        have hS := hS9
        try simp only [pts]
        refine wpAnyG_last rfl (by kernel_rfl) (by kernel_rfl) (by kernel_rfl) (fun K hK => ?_)
        rw [if_pos (by rfl)]
        refine wp_store_row 60 (.tmp 5) (.tmp 60) rfl (w.heap.size + 1 + 1) _ _ (repTo n 3) rfl rfl ((HMr.out.next (Below.refl _ _).drew).grown hg9 (by intro e; have := Option.some.inj e; omega)) rfl info14 (repTo_one _ _) (fun w10 hM10 hg10 => ?_)
        refine hK.out _ _ ?_
        clear hK K
        try simp only [pts]
        go_wp2_with fail
        have hN10 := hN9.grown hg10 (by intro e; have := Option.some.inj e; omega)
        refine bodyPost_ret (results_two Try.results22 _ _ (w.heap.size + 1) (w.heap.size + 1 + 1) _ _ _ _ _ _ rfl rfl hN10 hM10 Try.underlying45 rfl (by rw [NA_size]; exact infoNode) Try.underlying60 rfl info14) rfl ?_
        rw [HVA.out]
        exact cl_end (by omega) (by omega) (by omega) (HZr.out.next (Below.refl _ _).drew) (HMr.out.next (Below.refl _ _).drew) HOr.out (by omega) HBr.out.drew hg9 hg10 HLK.out (.inr rfl)
  | true =>
    rw [hvs] at k72
    cases hvd : (n.vv != n.dg) with
    | false =>
      have HVS := Lib.hid hvs
      clear hvs
      go_upto_region 7 with (first | go_big_skip)
      clear k70 k71 k72 hvd
      have HN7 : Hid (NB w5 w.heap.size n va7) := HN6
      have HG7 : Hid (w5.grownBy w5 (some w.heap.size)) := Lib.hid (grown_refl w5 _)
      have HLK : Hid (Lk n n) := Lib.hid (Lk.refl n)
      skip
      have c0 : w5.cell? ⟨w.heap.size, 0, none⟩ = some (.int .i64 n.id) := NB.at_ HN7.out (k := 0) (by decide)
      have c1 : w5.cell? ⟨w.heap.size, 1, none⟩ = some (.int .i64 n.fr) := NB.at_ HN7.out (k := 1) (by decide)
      have c67 : w5.cell? ⟨w.heap.size, 67, none⟩ = some (.int .i64 (n.us 0)) := NB.at_ HN7.out (k := 67) (by decide)
      have c68 : w5.cell? ⟨w.heap.size, 68, none⟩ = some (.int .i64 (n.us 1)) := NB.at_ HN7.out (k := 68) (by decide)
      have c69 : w5.cell? ⟨w.heap.size, 69, none⟩ = some (.int .i64 (n.us 2)) := NB.at_ HN7.out (k := 69) (by decide)
      have c70 : w5.cell? ⟨w.heap.size, 70, none⟩ = some (.int .i64 n.dg) := NB.at_ HN7.out (k := 70) (by decide)
      have c72 : w5.cell? ⟨w.heap.size, 72, none⟩ = some (.bool n.vs) := NB.at_ HN7.out (k := 72) (by decide)
      have c27 : w5.cell? ⟨w.heap.size, 27, none⟩ = some (.bool (n.ro.inn 0)) := NB.at_ HN7.out (k := 27) (by decide)
      have c28 : w5.cell? ⟨w.heap.size, 28, none⟩ = some (.bool (n.ro.inn 1)) := NB.at_ HN7.out (k := 28) (by decide)
      have c29 : w5.cell? ⟨w.heap.size, 29, none⟩ = some (.bool (n.ro.inn 2)) := NB.at_ HN7.out (k := 29) (by decide)
      have c30 : w5.cell? ⟨w.heap.size, 30, none⟩ = some (.bool (n.ro.inn 3)) := NB.at_ HN7.out (k := 30) (by decide)
      go_upto_region 8 with fail
      clear c0 c1 c67 c68 c69 c70 c72 c27 c28 c29 c30
      have hwlt : w.heap.size < w5.heap.size := Blk.lt HN7.out
      have HP8 := Lib.hid (show Blk (w5.alloc (.cells #[.int .i64 n.id, .int .i64 n.fr, .int .i64 (n.us 0), .int .i64 (n.us 1), .int .i64 (n.us 2), .int .i64 0, .int .i64 0, .int .i64 0, .int .i64 n.dg, .bool n.vs, .bool (n.ro.inn 0), .bool (n.ro.inn 1), .bool (n.ro.inn 2), .bool (n.ro.inn 3)] 60)) w5.heap.size 60 (repTo n 0) from Blk.new _ _ _)
      have HB8 := Lib.hid (show Below w5.heap.size w5 (w5.alloc (.cells #[.int .i64 n.id, .int .i64 n.fr, .int .i64 (n.us 0), .int .i64 (n.us 1), .int .i64 (n.us 2), .int .i64 0, .int .i64 0, .int .i64 0, .int .i64 n.dg, .bool n.vs, .bool (n.ro.inn 0), .bool (n.ro.inn 1), .bool (n.ro.inn 2), .bool (n.ro.inn 3)] 60)) from (Below.refl _ _).alloc (Nat.le_refl _) _)
      obtain ⟨w8, hw8⟩ : ∃ w8, w5.alloc (.cells #[.int .i64 n.id, .int .i64 n.fr, .int .i64 (n.us 0), .int .i64 (n.us 1), .int .i64 (n.us 2), .int .i64 0, .int .i64 0, .int .i64 0, .int .i64 n.dg, .bool n.vs, .bool (n.ro.inn 0), .bool (n.ro.inn 1), .bool (n.ro.inn 2), .bool (n.ro.inn 3)] 60) = w8 := ⟨_, rfl⟩
      rw [hw8] at HP8 HB8 ⊢
      clear hw8
      have HN8 := Lib.hid (NB.next HN7.out HB8.out)
      go_upto_region 9 with (first
        | (refine wpList_load_mid rfl 34 (.tmp 47) rfl w.heap.size 6 rfl (axL n) _ HN8.out.axR Try.underlying34 rfl info21 ?_))
      go_loopw [49] (fun iv wr => CpRel w8 w5.heap.size n iv wr) (fun iv _ => 3 - (intOf iv).toNat)
      case atStart => exact ⟨0, rfl, by omega, HP8.out, grown_refl _ _⟩
      case round =>
        obtain ⟨i, rfl, hi3, hP, hG⟩ := hrel
        have HPr := Lib.hid hP
        have HGr := Lib.hid hG
        clear hP hG
        by_cases hi : i < 3
        · have hc : i = 0 ∨ i = 1 ∨ i = 2 := by omega
          rcases hc with rfl | rfl | rfl
          · have ix := fun W => ixA0 n W
            have k5 := fun o => show (wr.alloc o).cell? ⟨w5.heap.size, 5, none⟩ = some _ from (Blk.cell (HPr.out.alloc o) 5).trans rfl
            have f5 := fun o => Blk.frozen (HPr.out.alloc o) 5
            go_wp2_with fail
            go_roundw
            case rel => exact CpRel.put (i := 0) (by decide) rfl HPr.out HGr.out _
            case measure => simp [intOf]
          · have ix := fun W => ixA1 n W
            have k5 := fun o => show (wr.alloc o).cell? ⟨w5.heap.size, 6, none⟩ = some _ from (Blk.cell (HPr.out.alloc o) 6).trans rfl
            have f5 := fun o => Blk.frozen (HPr.out.alloc o) 6
            go_wp2_with fail
            go_roundw
            case rel => exact CpRel.put (i := 1) (by decide) rfl HPr.out HGr.out _
            case measure => simp [intOf]
          · have ix := fun W => ixA2 n W
            have k5 := fun o => show (wr.alloc o).cell? ⟨w5.heap.size, 7, none⟩ = some _ from (Blk.cell (HPr.out.alloc o) 7).trans rfl
            have f5 := fun o => Blk.frozen (HPr.out.alloc o) 7
            go_wp2_with fail
            go_roundw
            case rel => exact CpRel.put (i := 2) (by decide) rfl HPr.out HGr.out _
            case measure => simp [intOf]
        · obtain rfl : i = 3 := by omega
          have hz7 := HZ6.out.grown HG7.out (by intro e; have := Option.some.inj e; omega)
          have hm7 := HM6.out.grown HG7.out (by intro e; have := Option.some.inj e; omega)
          have hb7 := HB6.out.grown HG7.out HB6.out.size (fun j hj => by cases hj; exact Nat.le_refl _)
          have ho7 := own_kept_t HO6.out HG7.out HN6.out (by decide)
          have hzl := Blk.lt hz7
          have hml := Blk.lt hm7
          have hzr := (hz7.next HB8.out).grown HGr.out (by intro e; have := Option.some.inj e; omega)
          have hmr := (hm7.next HB8.out).grown HGr.out (by intro e; have := Option.some.inj e; omega)
          have hnr := Blk.grown HN8.out HGr.out (by intro e; have := Option.some.inj e; omega)
          have hor := own_kept_t (own_below ho7 HB8.out (fun x hx => (ho7.lt x hx).2)) HGr.out HP8.out (by decide)
          have hbr := (hb7.trans (HB8.out.mono hb7.size)).grown HGr.out (Nat.le_trans hb7.size HB8.out.size) (fun j hj => by cases hj; omega)
          have HZr := Lib.hid hzr
          have HMr := Lib.hid hmr
          have HNr := Lib.hid hnr
          have HOr := Lib.hid hor
          have HBr := Lib.hid hbr
          have HVr : Hid ((NA n va7).all (·.oneCell') = true) := by rw [HVA.out]; exact NA_one _ _ _ _
          have hwl := HB6.out.size
          clear hz7 hm7 hb7 ho7 hzr hmr hnr hor hbr
          go_upto_region 13 with fail
          refine wp_region_G 3 (fun w' => NB w' w.heap.size n va7 ∧ Blk w' w5.heap.size 60 (repTo n 3)) (by kernel_rfl) (⟨NB.next HNr.out (Below.refl _ _).drew, HPr.out.next (Below.refl _ _).drew⟩) (fun hS => ?_)
          refine wpAnyG_take (i := 0) (v := .agg (NA n va7)) rfl (by kernel_rfl) (by kernel_rfl) (by kernel_rfl) (by kernel_rfl) (by kernel_rfl) (by kernel_rfl) (fun _ _ _ h => h) (Or.inl ⟨by rfl, fun wx hSw => exec_load_row 45 (.tmp 2) rfl w.heap.size rfl _ _ _ hSw.1 Try.underlying45 rfl (by rw [NA_size]; exact infoNode)⟩) hS ?_
          try simp only [pts]
          refine wpAnyG_take (i := 1) (v := .agg (repTo n 3)) rfl (by kernel_rfl) (by kernel_rfl) (by kernel_rfl) (by kernel_rfl) (by kernel_rfl) (by kernel_rfl) (fun _ _ _ h => h) (Or.inl ⟨by rfl, fun wx hSw => exec_load_row 60 (.tmp 7) rfl w5.heap.size rfl _ _ _ hSw.2 Try.underlying60 rfl info14⟩) hS ?_
          try simp only [pts]
          refine wpAnyG_one (i := 2) rfl (by kernel_rfl) (fun K hK => ?_)
          rw [if_pos (by rfl)]
          refine wp_store_row 45 (.tmp 4) (.tmp 59) rfl (w.heap.size + 1) _ zc (NA n va7) rfl rfl (HZr.out.next (Below.refl _ _).drew) (by rw [NA_size, HZS.out]) (by rw [NA_size]; exact infoNode) HVr.out (fun w9 hN9 hg9 => ?_)
          have hS9 : NB w9 w.heap.size n va7 ∧ Blk w9 w5.heap.size 60 (repTo n 3) := ⟨Blk.grown hS.1 hg9 (by intro e; have := Option.some.inj e; omega), hS.2.grown hg9 (by intro e; have := Option.some.inj e; omega)⟩
          refine hK.out _ _ hS9 ?_
          clear hK K hS
          have hS := hS9
          try simp only [pts]
          refine wpAnyG_last rfl (by kernel_rfl) (by kernel_rfl) (by kernel_rfl) (fun K hK => ?_)
          rw [if_pos (by rfl)]
          refine wp_store_row 60 (.tmp 5) (.tmp 60) rfl (w.heap.size + 1 + 1) _ _ (repTo n 3) rfl rfl ((HMr.out.next (Below.refl _ _).drew).grown hg9 (by intro e; have := Option.some.inj e; omega)) rfl info14 (repTo_one _ _) (fun w10 hM10 hg10 => ?_)
          refine hK.out _ _ ?_
          clear hK K
          try simp only [pts]
          go_wp2_with fail
          have hN10 := hN9.grown hg10 (by intro e; have := Option.some.inj e; omega)
          refine bodyPost_ret (results_two Try.results22 _ _ (w.heap.size + 1) (w.heap.size + 1 + 1) _ _ _ _ _ _ rfl rfl hN10 hM10 Try.underlying45 rfl (by rw [NA_size]; exact infoNode) Try.underlying60 rfl info14) rfl ?_
          rw [HVA.out]
          exact cl_end (by omega) (by omega) (by omega) (HZr.out.next (Below.refl _ _).drew) (HMr.out.next (Below.refl _ _).drew) HOr.out (by omega) HBr.out.drew hg9 hg10 HLK.out (.inr rfl)
    | true =>
      have HVS := Lib.hid hvs
      have HVD := Lib.hid (show n.vv ≠ n.dg by simpa using hvd)
      clear hvs
      have KA := Lib.hid (adopt_any n va7 w.heap.size sv w5 HN6.out HSL6.out HIN.out)
      unfold AdPost at KA
      go_upto_region 7 with (first
        | (refine wpList_load_at 94 (.tmp 6) rfl rfl g6 rfl _ (AN 4 sv) _ HS5.out Try.underlying94 rfl (by rw [AN_size]; exact info44) ?_)
        | (go_at_call 47; (with_reducible refine KA.out.mono ?_); rintro e w7 ⟨n7, rfl, hN7, hg7, hlk7⟩; have HN7' := Lib.hid hN7; have HG7' := Lib.hid hg7; have HLK' := Lib.hid hlk7; clear hN7 hg7 hlk7)
        | go_big_skip)
      clear k70 k71 k72 hvd KA
      have HN7 : Hid (NB w7 w.heap.size n7 va7) := HN7'
      have HG7 : Hid (w5.grownBy w7 (some w.heap.size)) := HG7'
      have HLK : Hid (Lk n n7) := HLK'
      have HEQ : Hid ((n.vs = true ∧ n.vv ≠ n.dg) ∨ n7 = n) := Lib.hid (.inl ⟨HVS.out, HVD.out⟩)
      have c0 : w7.cell? ⟨w.heap.size, 0, none⟩ = some (.int .i64 n7.id) := NB.at_ HN7.out (k := 0) (by decide)
      have c1 : w7.cell? ⟨w.heap.size, 1, none⟩ = some (.int .i64 n7.fr) := NB.at_ HN7.out (k := 1) (by decide)
      have c67 : w7.cell? ⟨w.heap.size, 67, none⟩ = some (.int .i64 (n7.us 0)) := NB.at_ HN7.out (k := 67) (by decide)
      have c68 : w7.cell? ⟨w.heap.size, 68, none⟩ = some (.int .i64 (n7.us 1)) := NB.at_ HN7.out (k := 68) (by decide)
      have c69 : w7.cell? ⟨w.heap.size, 69, none⟩ = some (.int .i64 (n7.us 2)) := NB.at_ HN7.out (k := 69) (by decide)
      have c70 : w7.cell? ⟨w.heap.size, 70, none⟩ = some (.int .i64 n7.dg) := NB.at_ HN7.out (k := 70) (by decide)
      have c72 : w7.cell? ⟨w.heap.size, 72, none⟩ = some (.bool n7.vs) := NB.at_ HN7.out (k := 72) (by decide)
      have c27 : w7.cell? ⟨w.heap.size, 27, none⟩ = some (.bool (n7.ro.inn 0)) := NB.at_ HN7.out (k := 27) (by decide)
      have c28 : w7.cell? ⟨w.heap.size, 28, none⟩ = some (.bool (n7.ro.inn 1)) := NB.at_ HN7.out (k := 28) (by decide)
      have c29 : w7.cell? ⟨w.heap.size, 29, none⟩ = some (.bool (n7.ro.inn 2)) := NB.at_ HN7.out (k := 29) (by decide)
      have c30 : w7.cell? ⟨w.heap.size, 30, none⟩ = some (.bool (n7.ro.inn 3)) := NB.at_ HN7.out (k := 30) (by decide)
      go_upto_region 8 with fail
      clear c0 c1 c67 c68 c69 c70 c72 c27 c28 c29 c30
      have hwlt : w.heap.size < w7.heap.size := Blk.lt HN7.out
      have HP8 := Lib.hid (show Blk (w7.alloc (.cells #[.int .i64 n7.id, .int .i64 n7.fr, .int .i64 (n7.us 0), .int .i64 (n7.us 1), .int .i64 (n7.us 2), .int .i64 0, .int .i64 0, .int .i64 0, .int .i64 n7.dg, .bool n7.vs, .bool (n7.ro.inn 0), .bool (n7.ro.inn 1), .bool (n7.ro.inn 2), .bool (n7.ro.inn 3)] 60)) w7.heap.size 60 (repTo n7 0) from Blk.new _ _ _)
      have HB8 := Lib.hid (show Below w7.heap.size w7 (w7.alloc (.cells #[.int .i64 n7.id, .int .i64 n7.fr, .int .i64 (n7.us 0), .int .i64 (n7.us 1), .int .i64 (n7.us 2), .int .i64 0, .int .i64 0, .int .i64 0, .int .i64 n7.dg, .bool n7.vs, .bool (n7.ro.inn 0), .bool (n7.ro.inn 1), .bool (n7.ro.inn 2), .bool (n7.ro.inn 3)] 60)) from (Below.refl _ _).alloc (Nat.le_refl _) _)
      obtain ⟨w8, hw8⟩ : ∃ w8, w7.alloc (.cells #[.int .i64 n7.id, .int .i64 n7.fr, .int .i64 (n7.us 0), .int .i64 (n7.us 1), .int .i64 (n7.us 2), .int .i64 0, .int .i64 0, .int .i64 0, .int .i64 n7.dg, .bool n7.vs, .bool (n7.ro.inn 0), .bool (n7.ro.inn 1), .bool (n7.ro.inn 2), .bool (n7.ro.inn 3)] 60) = w8 := ⟨_, rfl⟩
      rw [hw8] at HP8 HB8 ⊢
      clear hw8
      have HN8 := Lib.hid (NB.next HN7.out HB8.out)
      go_upto_region 9 with (first
        | (refine wpList_load_mid rfl 34 (.tmp 47) rfl w.heap.size 6 rfl (axL n7) _ HN8.out.axR Try.underlying34 rfl info21 ?_))
      go_loopw [49] (fun iv wr => CpRel w8 w7.heap.size n7 iv wr) (fun iv _ => 3 - (intOf iv).toNat)
      case atStart => exact ⟨0, rfl, by omega, HP8.out, grown_refl _ _⟩
      case round =>
        obtain ⟨i, rfl, hi3, hP, hG⟩ := hrel
        have HPr := Lib.hid hP
        have HGr := Lib.hid hG
        clear hP hG
        by_cases hi : i < 3
        · have hc : i = 0 ∨ i = 1 ∨ i = 2 := by omega
          rcases hc with rfl | rfl | rfl
          · have ix := fun W => ixA0 n7 W
            have k5 := fun o => show (wr.alloc o).cell? ⟨w7.heap.size, 5, none⟩ = some _ from (Blk.cell (HPr.out.alloc o) 5).trans rfl
            have f5 := fun o => Blk.frozen (HPr.out.alloc o) 5
            go_wp2_with fail
            go_roundw
            case rel => exact CpRel.put (i := 0) (by decide) rfl HPr.out HGr.out _
            case measure => simp [intOf]
          · have ix := fun W => ixA1 n7 W
            have k5 := fun o => show (wr.alloc o).cell? ⟨w7.heap.size, 6, none⟩ = some _ from (Blk.cell (HPr.out.alloc o) 6).trans rfl
            have f5 := fun o => Blk.frozen (HPr.out.alloc o) 6
            go_wp2_with fail
            go_roundw
            case rel => exact CpRel.put (i := 1) (by decide) rfl HPr.out HGr.out _
            case measure => simp [intOf]
          · have ix := fun W => ixA2 n7 W
            have k5 := fun o => show (wr.alloc o).cell? ⟨w7.heap.size, 7, none⟩ = some _ from (Blk.cell (HPr.out.alloc o) 7).trans rfl
            have f5 := fun o => Blk.frozen (HPr.out.alloc o) 7
            go_wp2_with fail
            go_roundw
            case rel => exact CpRel.put (i := 2) (by decide) rfl HPr.out HGr.out _
            case measure => simp [intOf]
        · obtain rfl : i = 3 := by omega
          have hz7 := HZ6.out.grown HG7.out (by intro e; have := Option.some.inj e; omega)
          have hm7 := HM6.out.grown HG7.out (by intro e; have := Option.some.inj e; omega)
          have hb7 := HB6.out.grown HG7.out HB6.out.size (fun j hj => by cases hj; exact Nat.le_refl _)
          have ho7 := own_kept_t HO6.out HG7.out HN6.out (by decide)
          have hzl := Blk.lt hz7
          have hml := Blk.lt hm7
          have hzr := (hz7.next HB8.out).grown HGr.out (by intro e; have := Option.some.inj e; omega)
          have hmr := (hm7.next HB8.out).grown HGr.out (by intro e; have := Option.some.inj e; omega)
          have hnr := Blk.grown HN8.out HGr.out (by intro e; have := Option.some.inj e; omega)
          have hor := own_kept_t (own_below ho7 HB8.out (fun x hx => (ho7.lt x hx).2)) HGr.out HP8.out (by decide)
          have hbr := (hb7.trans (HB8.out.mono hb7.size)).grown HGr.out (Nat.le_trans hb7.size HB8.out.size) (fun j hj => by cases hj; omega)
          have HZr := Lib.hid hzr
          have HMr := Lib.hid hmr
          have HNr := Lib.hid hnr
          have HOr := Lib.hid hor
          have HBr := Lib.hid hbr
          have HVr : Hid ((NA n7 va7).all (·.oneCell') = true) := by rw [HVA.out]; exact NA_one _ _ _ _
          have hwl := HB6.out.size
          clear hz7 hm7 hb7 ho7 hzr hmr hnr hor hbr
          go_upto_region 13 with fail
          refine wp_region_G 3 (fun w' => NB w' w.heap.size n7 va7 ∧ Blk w' w7.heap.size 60 (repTo n7 3)) (by kernel_rfl) (⟨NB.next HNr.out (Below.refl _ _).drew, HPr.out.next (Below.refl _ _).drew⟩) (fun hS => ?_)
          refine wpAnyG_take (i := 0) (v := .agg (NA n7 va7)) rfl (by kernel_rfl) (by kernel_rfl) (by kernel_rfl) (by kernel_rfl) (by kernel_rfl) (by kernel_rfl) (fun _ _ _ h => h) (Or.inl ⟨by rfl, fun wx hSw => exec_load_row 45 (.tmp 2) rfl w.heap.size rfl _ _ _ hSw.1 Try.underlying45 rfl (by rw [NA_size]; exact infoNode)⟩) hS ?_
          try simp only [pts]
          refine wpAnyG_take (i := 1) (v := .agg (repTo n7 3)) rfl (by kernel_rfl) (by kernel_rfl) (by kernel_rfl) (by kernel_rfl) (by kernel_rfl) (by kernel_rfl) (fun _ _ _ h => h) (Or.inl ⟨by rfl, fun wx hSw => exec_load_row 60 (.tmp 7) rfl w7.heap.size rfl _ _ _ hSw.2 Try.underlying60 rfl info14⟩) hS ?_
          try simp only [pts]
          refine wpAnyG_one (i := 2) rfl (by kernel_rfl) (fun K hK => ?_)
          rw [if_pos (by rfl)]
          refine wp_store_row 45 (.tmp 4) (.tmp 59) rfl (w.heap.size + 1) _ zc (NA n7 va7) rfl rfl (HZr.out.next (Below.refl _ _).drew) (by rw [NA_size, HZS.out]) (by rw [NA_size]; exact infoNode) HVr.out (fun w9 hN9 hg9 => ?_)
          have hS9 : NB w9 w.heap.size n7 va7 ∧ Blk w9 w7.heap.size 60 (repTo n7 3) := ⟨Blk.grown hS.1 hg9 (by intro e; have := Option.some.inj e; omega), hS.2.grown hg9 (by intro e; have := Option.some.inj e; omega)⟩
          refine hK.out _ _ hS9 ?_
          clear hK K hS
          have hS := hS9
          try simp only [pts]
          refine wpAnyG_last rfl (by kernel_rfl) (by kernel_rfl) (by kernel_rfl) (fun K hK => ?_)
          rw [if_pos (by rfl)]
          refine wp_store_row 60 (.tmp 5) (.tmp 60) rfl (w.heap.size + 1 + 1) _ _ (repTo n7 3) rfl rfl ((HMr.out.next (Below.refl _ _).drew).grown hg9 (by intro e; have := Option.some.inj e; omega)) rfl info14 (repTo_one _ _) (fun w10 hM10 hg10 => ?_)
          refine hK.out _ _ ?_
          clear hK K
          try simp only [pts]
          go_wp2_with fail
          have hN10 := hN9.grown hg10 (by intro e; have := Option.some.inj e; omega)
          refine bodyPost_ret (results_two Try.results22 _ _ (w.heap.size + 1) (w.heap.size + 1 + 1) _ _ _ _ _ _ rfl rfl hN10 hM10 Try.underlying45 rfl (by rw [NA_size]; exact infoNode) Try.underlying60 rfl info14) rfl ?_
          rw [HVA.out]
          exact cl_end (by omega) (by omega) (by omega) (HZr.out.next (Below.refl _ _).drew) (HMr.out.next (Below.refl _ _).drew) HOr.out (by omega) HBr.out.drew hg9 hg10 HLK.out HEQ.out
end Go.Proofs.Ytofeoeknmlkjgaa.Nk
end
