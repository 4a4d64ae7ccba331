/- Merged: ClBegin ClFr0 ClPhPass ClFr1. -/
import Derived.Test.YtofeoeknmlkjgaaZ38
import Derived.Test.YtofeoeknmlkjgaaZ41
import Derived.Test.YtofeoeknmlkjgaaZ42
import Derived.Test.YtofeoeknmlkjgaaZ43
import Derived.Test.YtofeoeknmlkjgaaZ44
import Derived.Test.YtofeoeknmlkjgaaZ45
set_option linter.unusedVariables false
set_option linter.unusedSimpArgs false
section
/- cluster.Begin. -/
set_option linter.unusedVariables false
namespace Go.Proofs.Ytofeoeknmlkjgaa.Nk
open Go.RowKit Go.Proofs.Ytofeoeknmlkjgaa Mb Fi Sm

def zN : Nd := ⟨0, 0, ⟨0, 0, 0, 0⟩, fun _ => ⟨0, 0, 0, 0, 0, false, 0⟩, R0, fun _ => 0, fun _ => 0, fun _ => 0, fun _ => 0, 0, 0, false⟩
def begCK (t : Tu) (k : Nat) : Cl := ⟨0, fun j => if j < k then begN j t else zN, fun _ => .slice none 0 0⟩
def begC (t : Tu) : Cl := begCK t 4
theorem infoCl : (Try.prog.info? 48).map (·.size) = some 297 := by kernel_rfl
theorem zeroCl : Try.zeroCells48 = CA ⟨0, fun _ => zN, fun _ => .slice none 0 0⟩ := by kernel_rfl
section
variable {W W' : World} {g i : Nat} {x : Cl}
theorem CB.setR {x' : Cl} {o : Nat} {vs : List Value} (h : CB W g x) (he : ∀ k, k < 297 → x'.c k = if o ≤ k ∧ k < o + vs.length then vs.getD (k - o) undef else x.c k) : CB (W.setCells g o vs) g x' := by
  have := blk_setCells_AN (o := o) (vs := vs) h
  unfold CB CA
  rw [AN_congr he]
  exact this
theorem CB.setNode (h : CB W g x) (hi : i < 4) (n : Nd) (v : Value) : CB (W.setCells g (1 + i * 74) (NA n v).toList) g (x.put i n v) := by
  refine h.setR fun k hk => ?_
  have hl : (NA n v).toList.length = 74 := by rw [Array.length_toList, NA_size]
  rw [hl]
  by_cases a : 1 + i * 74 ≤ k ∧ k < 1 + i * 74 + 74
  · rw [if_pos a]
    unfold NA
    rw [AN_getD (by omega)]
    unfold Cl.c Cl.put
    simp only
    rw [if_neg (by omega), show (k - 1) / 74 = i by omega, upd_same, upd_same, show (k - 1) % 74 = k - (1 + i * 74) by omega]
  · rw [if_neg a]
    unfold Cl.c Cl.put
    simp only
    by_cases c : k < 1
    · rw [if_pos c, if_pos c]
    · rw [if_neg c, if_neg c, upd_far _ _ (by omega), upd_far _ _ (by omega)]
theorem CB.thereR (h : CB W g x) {o k : Nat} (hk : o + k ≤ 297) : W.there g o k := fun j hj => by
  rw [h.at_ (by omega)]
  exact ⟨rfl, Blk.frozen h _⟩
end
theorem wpList_store_cl {ops : Array Oper} {rest : List Oper} {o : Oper} {a : Act} {w : World} {Q : Exit → Act → World → Prop} (hgd : o.guard = none) (q u : Operand) (ho : o.op = .store 45 q u) (g i : Nat) (n : Nd) (A : Option Addr) (m c : Nat) {x : Cl} (hi : i < 4)
    (hq : a.eval q = .pointer (some ⟨g, 1 + i * 74, none⟩)) (hu : a.eval u = .agg (NA n (.slice A m c))) (hR : CB w g x)
    (h : ∀ w', CB w' g (x.put i n (.slice A m c)) → w.grownBy w' (some g) → wpList Try.prog ops Q rest (a.put o.dst undef) w') : wpList Try.prog ops Q (o :: rest) a w :=
  wpList_store_mid hgd 45 q u ho g (1 + i * 74) _ hq hu (hR.thereR (by rw [NA_size]; omega)) (by rw [NA_size]; exact infoNode) (NA_one _ _ _ _) (h _ (hR.setNode hi n _) (grown_setCells _ _ _ _))
theorem begCK_put (t : Tu) (i : Nat) : (begCK t i).put i (begN i t) (.slice none 0 0) = begCK t (i + 1) := by
  unfold begCK Cl.put
  simp only
  congr 1
  · funext j
    show upd _ i _ j = _
    by_cases e : j = i
    · subst e; rw [upd_same, if_pos (by omega)]
    · rw [upd_far _ _ e]
      by_cases c : j < i
      · rw [if_pos c, if_pos (by omega)]
      · rw [if_neg c, if_neg (by omega)]
  · funext j
    show upd _ i _ j = _
    by_cases e : j = i
    · subst e; rw [upd_same]
    · rw [upd_far _ _ e]
theorem CA_one {x : Cl} (h : ∀ i, i < 4 → (x.va i).oneCell' = true) : (CA x).all (·.oneCell') = true := AN_one fun k hk => by
  unfold Cl.c
  refine ite_one rfl ?_
  exact c_one (h _ (by omega))
def CbRel (w0 : World) (q : Nat) (t : Tu) (iv : Value) (wr : World) : Prop := ∃ i : Nat, iv = .int .i64 i ∧ i ≤ 4 ∧ CB wr q (begCK t i) ∧ w0.grownBy wr (some q)
theorem CbRel.put {w0 wr w1 w2 : World} {q i : Nat} {t : Tu} {iv : Value} (hi : i < 4) (hiv : iv = .int .i64 ((i + 1 : Nat) : Int)) (hB : w0.grownBy wr (some q)) (hb : Below wr.heap.size wr w1) (hN : CB w2 q (begCK t (i + 1))) (hg : w1.grownBy w2 (some q)) : CbRel w0 q t iv w2 :=
  ⟨i + 1, hiv, hi, hN, grown_trans hB (grown_trans (grown_below hb) hg)⟩

set_option maxRecDepth 100000 in
set_option maxHeartbeats 4000000 in
theorem cbegin_any (t : Tu) (w : World) :
    Calls Try.prog 31 #[t.val] w fun e w' => e = .returned (.agg (CA (begC t))) ∧ Below w.heap.size w w' := by
  have kn := fun (i : Nat) (hi : i < 4) W => nbegin_any i t W hi
  have KN := Lib.hid kn
  clear kn
  have HT := Lib.hid (show TB (((w.alloc (.cells #[.int .i64 t.dt, .int .i64 t.q, .int .i64 t.r, .int .i64 t.g] 23)).alloc (.cells Try.zeroCells48 48)).alloc (.cells Try.zeroCells48 48)) w.heap.size t from ((Blk.new _ _ _).alloc _).alloc _)
  have HZ := Lib.hid (show Blk (((w.alloc (.cells #[.int .i64 t.dt, .int .i64 t.q, .int .i64 t.r, .int .i64 t.g] 23)).alloc (.cells Try.zeroCells48 48)).alloc (.cells Try.zeroCells48 48)) (w.heap.size + 1) 48 Try.zeroCells48 from (Blk.at_ _ _ _ _ (by simp)).alloc _)
  have hC : Blk (((w.alloc (.cells #[.int .i64 t.dt, .int .i64 t.q, .int .i64 t.r, .int .i64 t.g] 23)).alloc (.cells Try.zeroCells48 48)).alloc (.cells Try.zeroCells48 48)) (w.heap.size + 1 + 1) 48 Try.zeroCells48 := Blk.at_ _ _ _ _ (by simp)
  have HB := Lib.hid (show Below w.heap.size w (((w.alloc (.cells #[.int .i64 t.dt, .int .i64 t.q, .int .i64 t.r, .int .i64 t.g] 23)).alloc (.cells Try.zeroCells48 48)).alloc (.cells Try.zeroCells48 48)) from (((Below.refl _ _).alloc (Nat.le_refl _) _).alloc (by simp) _).alloc (by simp; omega) _)
  obtain ⟨W0, hW0⟩ : ∃ W0, ((w.alloc (.cells #[.int .i64 t.dt, .int .i64 t.q, .int .i64 t.r, .int .i64 t.g] 23)).alloc (.cells Try.zeroCells48 48)).alloc (.cells Try.zeroCells48 48) = W0 := ⟨_, rfl⟩
  rw [hW0] at HT HZ HB hC
  rw [zeroCl] at hC
  have HC := Lib.hid (show CB W0 (w.heap.size + 1 + 1) (begCK t 0) from hC)
  have hsz0 := Blk.lt hC
  clear hC
  unfold Tu.val
  go_enter Try.func31, Try.ntmps31
  go_upto_region 2 with fail
  clear hW0
  go_wp2_with fail
  go_loopw [5] (fun iv wr => CbRel W0 (w.heap.size + 1 + 1) t iv wr) (fun iv _ => 4 - (intOf iv).toNat)
  case atStart => exact ⟨0, rfl, by omega, HC.out, grown_refl _ _⟩
  case round =>
    clear HC
    obtain ⟨i, rfl, hi4, hC, hBr⟩ := hrel
    have HCr := Lib.hid hC
    have HBr := Lib.hid hBr
    obtain ⟨t0, t1, t2, t3⟩ := TB.c (Blk.grown HT.out hBr (by intro e; have := Option.some.inj e; omega))
    clear hC hBr
    by_cases hi : i < 4
    · have p0 : (i : Int) < 4 := by omega
      have p1 : (0 : Int) ≤ (i : Int) := by omega
      have KI := Lib.hid (KN.out i hi)
      unfold Tu.val at KI
      go_wp2_with (first
        | (go_at_call 24; (with_reducible refine (KI.out _).mono ?_); rintro e w1 ⟨rfl, hb1⟩; have HC1 := Lib.hid (CB.next HCr.out hb1); have HB1 := Lib.hid hb1; clear hb1)
        | (refine wpList_store_cl rfl (.tmp 16) (.tmp 13) rfl (w.heap.size + 1 + 1) i (begN i t) none 0 0 hi rfl rfl HC1.out ?_; intro w2 hN2 hg2; (rw [begCK_put] at hN2); have HN2 := Lib.hid hN2; have HG2 := Lib.hid hg2; clear hN2 hg2))
      go_roundw
      case rel => exact CbRel.put hi (by go_num) HBr.out HB1.out HN2.out HG2.out
      case measure => simp [intOf]; omega
    · obtain rfl : i = 4 := by omega
      have hzz := HZ.out.grown HBr.out (by intro e; have := Option.some.inj e; omega)
      have HZZ := Lib.hid hzz
      have hlw := Blk.lt HZ.out
      clear hzz t0 t1 t2 t3
      go_wp2_with (first
        | (refine wpList_load_at 48 (.tmp 3) rfl rfl (w.heap.size + 1 + 1) rfl _ (CA (begCK t 4)) _ HCr.out Try.underlying48 rfl (by rw [CA_size]; exact infoCl) ?_)
        | (refine wpList_store_at 48 (.tmp 2) (.tmp 18) rfl rfl (w.heap.size + 1) _ _ (CA (begCK t 4)) rfl rfl HZZ.out (by rw [zeroCl, CA_size, CA_size]) (by rw [CA_size]; exact infoCl) (CA_one (fun i hi => rfl)) ?_; intro w2 hN2 hg2; have HN2 := Lib.hid hN2; have HG2 := Lib.hid hg2; clear hN2 hg2))
      refine bodyPost_ret (results_cell_row Try.results31 _ _ (w.heap.size + 1) _ _ (0, 0) _ rfl HN2.out Try.underlying48 rfl (by rw [CA_size]; exact infoCl)) rfl ?_
      have hbw := HB.out.grown HBr.out HB.out.size (fun j hj => by cases hj; omega)
      exact ⟨rfl, hbw.grown HG2.out hbw.size (fun j hj => by cases hj; omega)⟩
end Go.Proofs.Ytofeoeknmlkjgaa.Nk
end
section
/- cluster.Frame: what its walk stands on. -/
set_option linter.unusedVariables false
namespace Go.Proofs.Ytofeoeknmlkjgaa.Nk
open Go.RowKit Go.Proofs.Ytofeoeknmlkjgaa Mb Fi Sm

section
variable {X : Fr} {N : Nat → Nd} {i : Nat} {W : World} {A Am : Option Addr} {m c mm cm : Nat} {bs : List Value} {OM : List Mg}
theorem N1_id (hb : ¬ (i : Int) = X.bad) : (N1 X N i).id = (N i).id ∧ (N1 X N i).fr = X.fr := by rw [N1_good hb]; exact ⟨rfl, rfl⟩
theorem hf_relay (hb : ¬ (i : Int) = X.bad) (hi : i < 4) (hid : (N i).id = (i : Int)) (hpm : OM.map Mg.pm = B1 X i) (hV : VR W 1 A m c bs) (h1 : ∀ u ∈ bs, u.oneCell' = true) (hm : m ≤ 140737488355328) (hM : MR W Am mm cm OM) (hmm : mm ≤ 17592186044416) :
    Calls Try.prog 17 #[.agg (NA (N1 X N i) (.slice A m c)), .slice Am mm cm] W (PhPost (N2 X N i) bs 2 (i : Int) X.fr (dirL (N2 X N i).di 12) W) := by
  have e1 : (N1 X N i).id = (i : Int) := (N1_id hb).1.trans hid
  have h := Relay_any (N1 X N i) A m c bs Am mm cm OM (by rw [e1]; omega) (by rw [e1]; omega) W hV h1 hm hM hmm
  rw [hpm, ← N2_good hb, e1, (N1_id hb).2] at h
  exact h
theorem hf_decide (hb : ¬ (i : Int) = X.bad) (hi : i < 4) (hid : (N i).id = (i : Int)) (hok : NOk (N i)) (hd : ∀ j, In64 ((N2 X N i).di j)) (hpm : OM.map Mg.pm = B2 X N i) (hV : VR W 1 A m c bs) (h1 : ∀ u ∈ bs, u.oneCell' = true) (hm : m ≤ 140737488355328) (hM : MR W Am mm cm OM) (hmm : mm ≤ 17592186044416) :
    Calls Try.prog 18 #[.agg (NA (N2 X N i) (.slice A m c)), .slice Am mm cm] W (PhPost (N3 X N i) bs 3 (i : Int) X.fr [(N3 X N i).dg] W) := by
  obtain ⟨e1, e2, _⟩ := N2_id (x := X) (N := N) hb
  rw [hid] at e1
  have hms : MsIn (OM.map Mg.pm) := fun x hx v hv => by obtain ⟨y, hy, rfl⟩ := List.mem_map.1 hx; exact (hM.2.2 y hy).2.2.2 v hv
  have h := Decide_any (N2 X N i) A m c bs Am mm cm OM i e1 hi (N2_ok hb hok).2 (N2_ok hb hok).1 (fun j hj => aF_in hms hd i j) W hV h1 hm hM hmm
  rw [hpm, ← N3_good hb, e1, e2] at h
  exact h
theorem hf_pass (hb : ¬ (i : Int) = X.bad) (hi : i < 4) (hid : (N i).id = (i : Int)) (hpm : OM.map Mg.pm = B3 X N i) (hV : VR W 1 A m c bs) (h1 : ∀ u ∈ bs, u.oneCell' = true) (hm : m ≤ 140737488355328) (hM : MR W Am mm cm OM) (hmm : mm ≤ 17592186044416) :
    Calls Try.prog 19 #[.agg (NA (N3 X N i) (.slice A m c)), .slice Am mm cm] W (PhPost (N4 X N i) bs 2 (i : Int) X.fr (heL (N4 X N i).he) W) := by
  obtain ⟨e1, e2, _⟩ := N3_id (x := X) (N := N) hb
  rw [hid] at e1
  have h := Pass_any (N3 X N i) A m c bs Am mm cm OM (by rw [e1]; omega) (by rw [e1]; omega) W hV h1 hm hM hmm
  rw [hpm, ← N4_good hb, e1, e2] at h
  exact h
theorem hf_judge (hb : ¬ (i : Int) = X.bad) (hi : i < 4) (hid : (N i).id = (i : Int)) (hhe : ∀ j, In64 ((N4 X N i).he j)) (hpm : OM.map Mg.pm = B4 X N i) (hV : VR W 1 A m c bs) (h1 : ∀ u ∈ bs, u.oneCell' = true) (hm : m ≤ 140737488355328) (hM : MR W Am mm cm OM) (hmm : mm ≤ 17592186044416) :
    Calls Try.prog 20 #[.agg (NA (N4 X N i) (.slice A m c)), .slice Am mm cm] W (PhPost (N5 X N i) (judgeB (N4 X N i) (B4 X N i) i) 5 (i : Int) X.fr (packL (N5 X N i)) W) := by
  obtain ⟨e1, e2, _⟩ := N4_id (x := X) (N := N) hb
  rw [hid] at e1
  have h := Judge_any (N4 X N i) A m c bs Am mm cm OM i e1 hi (fun j hj => hhe j) W hV h1 hm hM hmm
  rw [hpm, ← N5_good hb, e1, e2] at h
  exact h
end

/-! parts of clusters -/
def nodesA (x : Cl) : Array Value := AN 296 (fun k => x.c (1 + k))
theorem nodesA_size (x : Cl) : (nodesA x).size = 296 := AN_size _ _
theorem infoN4 : (Try.prog.info? 46).map (·.size) = some 296 := by kernel_rfl
theorem infoIn : (Try.prog.info? 51).map (·.size) = some 14 := by kernel_rfl
theorem ixN0 (x : Cl) (w : World) : (Instr.index 46 (.agg (nodesA x)) (.int .i64 0)).run Try.prog w = .ok (.agg (NA (x.N 0) (x.va 0))) w := by kernel_rfl
theorem ixN1 (x : Cl) (w : World) : (Instr.index 46 (.agg (nodesA x)) (.int .i64 1)).run Try.prog w = .ok (.agg (NA (x.N 1) (x.va 1))) w := by kernel_rfl
theorem ixN2 (x : Cl) (w : World) : (Instr.index 46 (.agg (nodesA x)) (.int .i64 2)).run Try.prog w = .ok (.agg (NA (x.N 2) (x.va 2))) w := by kernel_rfl
theorem ixN3 (x : Cl) (w : World) : (Instr.index 46 (.agg (nodesA x)) (.int .i64 3)).run Try.prog w = .ok (.agg (NA (x.N 3) (x.va 3))) w := by kernel_rfl
theorem ixN (x : Cl) (i : Nat) (hi : i < 4) (w : World) : (Instr.index 46 (.agg (nodesA x)) (.int .i64 (i : Int))).run Try.prog w = .ok (.agg (NA (x.N i) (x.va i))) w := by
  match i, hi with
  | 0, _ => exact ixN0 x w
  | 1, _ => exact ixN1 x w
  | 2, _ => exact ixN2 x w
  | 3, _ => exact ixN3 x w
section
variable {W W' : World} {g i : Nat} {x x' : Cl} {y : InD} {bx : Nat → Value}
theorem CB.nodesR (h : CB W g x) : W.rangeAt g 1 (nodesA x).toList := by
  intro j v hj
  obtain ⟨hlt, e⟩ := AN_list hj
  rw [h.at_ (by omega), ← e]
theorem CB.agr (h : CB W g x) (hi : i < 4) : W.cell? ⟨g, 1 + i * 74 + 73, none⟩ = some (x.va i) := by
  rw [h.at_ (by omega), x.c_node hi (by omega)]
  rfl
theorem RunB.congr (h : RunB W g x y bx) (hf : x'.fr = x.fr) (hN : ∀ i, i < 4 → x'.N i = x.N i) (hv : ∀ i, i < 4 → x'.va i = x.va i) : RunB W g x' y bx := by
  unfold RunB RA at *
  rw [AN_congr (g := runc x y bx)]
  · exact h
  · intro k hk
    unfold runc
    by_cases a : k < 297
    · rw [if_pos a, if_pos a]
      unfold Cl.c
      by_cases c : k < 1
      · rw [if_pos c, if_pos c, hf]
      · rw [if_neg c, if_neg c, hN _ (by omega), hv _ (by omega)]
    · rw [if_neg a, if_neg a]
theorem RunB.setVa (h : RunB W g x y bx) (hi : i < 4) (v : Value) : RunB (W.setCell ⟨g, 1 + i * 74 + 73, none⟩ v) g ⟨x.fr, x.N, upd x.va i v⟩ y bx := by
  have := Blk.set_ h (1 + i * 74 + 73) v
  unfold RA at this
  rw [AN_set] at this
  unfold RunB RA
  rw [AN_congr (g := fun k => if k = 1 + i * 74 + 73 then v else runc x y bx k)]
  · exact this
  · intro k hk
    by_cases e : k = 1 + i * 74 + 73
    · subst e
      rw [if_pos rfl]
      unfold runc
      rw [if_pos (by omega), Cl.c_node _ hi (by omega)]
      show (x.N i).c (upd x.va i v i) 73 = v
      rw [upd_same]; rfl
    · rw [if_neg e]
      unfold runc
      by_cases a : k < 297
      · rw [if_pos a, if_pos a]
        unfold Cl.c
        simp only
        by_cases c : k < 1
        · rw [if_pos c, if_pos c]
        · rw [if_neg c, if_neg c]
          by_cases e2 : (k - 1) / 74 = i
          · rw [e2, upd_same]
            exact c_va_out _ _ _ _ (by omega)
          · rw [upd_far _ _ e2]
      · rw [if_neg a, if_neg a]
theorem RunB.setFr (h : RunB W g x y bx) (z : Int) : RunB (W.setCell ⟨g, 0, none⟩ (.int .i64 z)) g ⟨z, x.N, x.va⟩ y bx := by
  have := Blk.set_ h 0 (.int .i64 z)
  unfold RA at this
  rw [AN_set] at this
  unfold RunB RA
  rw [AN_congr (g := fun k => if k = 0 then .int .i64 z else runc x y bx k)]
  · exact this
  · intro k hk
    by_cases e : k = 0
    · subst e; rfl
    · rw [if_neg e]
      unfold runc
      by_cases a : k < 297
      · rw [if_pos a, if_pos a]
        unfold Cl.c
        rw [if_neg (by omega), if_neg (by omega)]
      · rw [if_neg a, if_neg a]
theorem RunB.clR (h : RunB W g x y bx) : W.rangeAt g 0 (CA x).toList := by
  intro j v hj
  obtain ⟨hlt, e⟩ := AN_list hj
  rw [Nat.zero_add, h.at_ (by omega), ← e]
  unfold runc
  rw [if_pos hlt]
end
def repsL (bad : Int) (N' : Nat → Nd) : Nat → List Value
  | 0 => []
  | k + 1 => repsL bad N' k ++ (if (k : Int) = bad then [] else (repC (N' k)).toList)
def repsN (bad : Int) : Nat → Nat
  | 0 => 0
  | k + 1 => repsN bad k + (if (k : Int) = bad then 0 else 1)
def ClRel (X : Fr) (N : Nat → Nd) (i : Nat) (n' : Nd) : Prop := if (i : Int) = X.bad then n' = N i else Lk (N5 X N i) n' ∧ (((N5 X N i).vs = true ∧ (N5 X N i).vv ≠ (N5 X N i).dg) ∨ n' = N5 X N i)
noncomputable def agB (X : Fr) (N : Nat → Nd) (bs : Nat → List Value) : Nat → List Value := mixN X.bad bs (fun i => judgeB (N4 X N i) (B4 X N i) i) 4
def FramePost (X : Fr) (x : Cl) (bs : Nat → List Value) (w : World) (e : Ending) (w' : World) : Prop :=
  ∃ (x' : Cl) (rv : Value), e = .returned (.tuple #[.agg (CA x'), rv, .int .i64 0]) ∧ Below w.heap.size w w' ∧ x'.fr = x.fr + 1 ∧ (∀ i, i < 4 → ClRel X x.N i (x'.N i)) ∧ AgR w' w.heap.size x'.va (agB X x.N bs) ∧
    w'.ownsRow w.heap.size 60 14 rv (repsN X.bad 4) (repsL X.bad x'.N 4)
theorem mix_self {α : Type} (bad : Int) (b : Nat → α) (k : Nat) : mixN bad b b k = b := by
  funext j; unfold mixN; split <;> rfl
end Go.Proofs.Ytofeoeknmlkjgaa.Nk
end
section
/- (*run).phase with node.Pass. -/
set_option linter.unusedVariables false
namespace Go.Proofs.Ytofeoeknmlkjgaa.Nk
open Go.RowKit Go.Proofs.Ytofeoeknmlkjgaa Mb Fi Sm

set_option maxRecDepth 100000 in
set_option maxHeartbeats 4000000 in
theorem phase_Pass (kd r : Int) (k : Nat) (A : Option Addr) (m c : Nat) (Ls : List Li) (B g : Nat) (fr : Int) (n0 n1 : Nat → Nd) (bs0 bs1 : Nat → List Value) (va obx : Nat → Value) (OMs : Nat → List Mg) (vals : Nat → List Int) (y : InD) (w : World)
    (hR : RunB w g ⟨fr, n0, va⟩ y obx) (hB : Bx w B g obx OMs) (hA : AgR w B va bs0) (hlv : y.lv = .slice A m c) (hL : ∀ W, Below B w W → LiR W A m c Ls) (hBg : B ≤ g) (hB0 : B ≤ w.heap.size) (hm : m ≤ 400)
    (hr : ∀ i : Nat, i < 4 → Wr.rightE kd (i : Int) r (vals i).length = 0) (hv : ∀ i : Nat, i < 4 → ¬ (i : Int) = y.bad → ∀ z ∈ vals i, In64 z)
    (hf : ∀ i : Nat, i < 4 → ¬ (i : Int) = y.bad → ∀ W A m c Am mm cm, w.grownBy W (some g) → VR W 1 A m c (bs0 i) → MR W Am mm cm (OMs i) → Calls Try.prog 19 #[.agg (NA (n0 i) (.slice A m c)), .slice Am mm cm] W (PhPost (n1 i) (bs1 i) kd (i : Int) r (vals i) W)) :
    Calls Try.prog 50 #[.pointer (some ⟨g, 0, none⟩), .int .i64 k, .func (.func 19) #[] #[]] w (PhsPost g B y k Ls fr n0 n1 bs0 bs1 (fun i : Nat => ⟨kd, i, r, vals i⟩) w) := by
  have hg0 := Blk.lt hR
  have hbx := hR.boxR
  have hB1 := hB
  have hZ0 : Blk (w.alloc (.cells #[.slice none 0 0, .slice none 0 0, .slice none 0 0, .slice none 0 0] 113)) w.heap.size 113 #[.slice none 0 0, .slice none 0 0, .slice none 0 0, .slice none 0 0] := Blk.new _ _ _
  have hR1 := hR.next ((Below.refl _ _).alloc (Nat.le_refl _) (.cells #[.slice none 0 0, .slice none 0 0, .slice none 0 0, .slice none 0 0] 113))
  have HG1 := Lib.hid (grown_below (row := some g) ((Below.refl w.heap.size w).alloc (Nat.le_refl _) (.cells #[.slice none 0 0, .slice none 0 0, .slice none 0 0, .slice none 0 0] 113)))
  have HZ0 := Lib.hid hZ0
  have HR1 := Lib.hid hR1
  have HBX0 := Lib.hid hbx
  have HA0 := Lib.hid hA
  have HR0 := Lib.hid hR
  have HB0 := Lib.hid hB
  have HL := Lib.hid hL
  have HF := Lib.hid hf
  have HRI := Lib.hid hr
  have HVI := Lib.hid hv
  clear hbx hB1 hZ0 hR1 hA hR hB hL hf hr hv
  go_enter Try.func50, Try.ntmps50
  go_upto_region 1 with (first
    | (refine wpList_load_mid rfl 113 (.tmp 12) rfl g 311 rfl (AN 4 obx).toList _ HBX0.out Try.underlying113 rfl (by rw [Array.length_toList, AN_size]; exact info4b) ?_; rw [show (AN 4 obx).toList.toArray = AN 4 obx from Array.toArray_toList ..])
    | (refine wpList_store_at 113 (.tmp 6) (.tmp 13) rfl rfl w.heap.size _ _ (AN 4 obx) rfl rfl HZ0.out (by rw [AN_size]; rfl) (by rw [AN_size]; exact info4b) (AN_one (fun i hi => own_one4 HB0.out hi)) ?_; intro w2 hN2 hg2; have HO2 := Lib.hid hN2; have HG2 := Lib.hid hg2; clear hN2 hg2))
  go_upto_region 3 with (first
    | (refine wpList_store_boxes rfl (.tmp 17) (.tmp 15) rfl g rfl rfl (HR1.out.grown HG2.out (by intro e; have := Option.some.inj e; omega)) ?_; intro w3 hN3 hg3; have HR3 := Lib.hid hN3; have HG3 := Lib.hid hg3; clear hN3 hg3))
  have hg13 : w.grownBy w3 (some g) := ⟨HG3.out.os.trans (HG2.out.os.trans HG1.out.os), HG3.out.tape.trans (HG2.out.tape.trans HG1.out.tape), HG3.out.output.trans (HG2.out.output.trans HG1.out.output), Nat.le_trans HG1.out.size (Nat.le_trans HG2.out.size HG3.out.size), fun q hq hne => by
    have h1 := HG1.out.size
    have h2 := HG2.out.size
    rw [HG3.out.block q (by omega) hne, HG2.out.block q (by omega) (by intro e; have := Option.some.inj e; omega), HG1.out.block q hq hne]⟩
  have hO3 := HO2.out.grown HG3.out (by intro e; have := Option.some.inj e; omega)
  have hA3 : AgR w3 B va bs0 := fun j hj => (HA0.out j hj).kept hg13 (.inr fun e => own_blk_ne (HA0.out j hj) HR0.out (by decide) e.symm)
  have HS : Hid (PhRel g B y k Ls fr n0 n1 bs0 bs1 obx (fun i : Nat => ⟨kd, i, r, vals i⟩) w (.int .i64 0) w3) :=
    ⟨0, va, fun _ => .slice none 0 0, fun _ => [], rfl, by omega, by rw [mixN_zero]; exact HR3.out, Bx.start _ _ _, by rw [mixN_zero]; exact hA3, fun t ht => rfl, hg13, hO3⟩
  clear HR1 HG1 HZ0 HBX0 HO2 HG2 HR3 HG3 hg13 hO3 hA3 HA0
  go_loopw [18] (fun iv wr => PhRel g B y k Ls fr n0 n1 bs0 bs1 obx (fun i : Nat => ⟨kd, i, r, vals i⟩) w iv wr) (fun iv _ => 4 - (intOf iv).toNat)
  case atStart => exact HS.out
  case round =>
    clear HS
    obtain ⟨i, va', bx', Ms', rfl, hi4, hR, hBx, hAg, hM, hG, hO⟩ := hrel
    have c1 := hR.bad
    have HR := Lib.hid hR
    have HBx := Lib.hid hBx
    have HAg := Lib.hid hAg
    have HMs := Lib.hid hM
    have HG := Lib.hid hG
    have HO := Lib.hid hO
    clear hR hBx hAg hM hG hO
    by_cases hi : i < 4
    · have q0 : (i : Int) < 4 := by omega
      have z0 : (0 : Int) ≤ (i : Int) := by omega
      have hml : ∀ t, t < 4 → (Ms' t).length ≤ 8000 := fun t ht => by
        have h1 : ((Ms' t).map Mg.pm).length = _ := congrArg List.length (HMs.out t ht)
        rw [List.length_map] at h1
        have h2 := boxF_len y.bad (lieL y.bad k t (Ls.map Li.ly)) (fun i : Nat => ⟨kd, i, r, vals i⟩) t i
        have h3 := lieL_le y.bad k t (Ls.map Li.ly)
        rw [List.length_map, (HL.out w (Below.refl _ _)).1] at h3
        have h4 : i * ((lieL y.bad k t (Ls.map Li.ly)).length + 1) ≤ 4 * 401 := Nat.mul_le_mul hi4 (by omega)
        omega
      have HML := Lib.hid hml
      clear hml
      by_cases hb : (i : Int) = y.bad
      · have q1 : ((i : Int) == y.bad) = true := by simpa using hb
        have HBD := Lib.hid hb
        have KL := Lib.hid (lie_any k A m c Ls B g w.heap.size ⟨fr, mixN y.bad n0 n1 i, va'⟩ y bx' Ms' wr HR.out HBx.out hlv (by omega) (fun W hW => HL.out W ((grown_bel HG.out hBg hB0).trans hW)) hBg hB0 HG.out.size hm (fun t ht => Nat.le_trans (HML.out t ht) (by decide)))
        clear hb
        go_wp2_with (first
          | (go_at_call 64; (with_reducible refine KL.out.mono ?_); rintro e w3 hp; obtain rfl := hp.1; have HP := Lib.hid hp; clear hp))
        go_roundw
        case rel => exact PhRel.bad hi hg0 HR.out HBx.out HAg.out HMs.out HG.out HO.out HBD.out HP.out
        case measure => simp [intOf]; omega
      · have q1 : ((i : Int) == y.bad) = false := by simpa using hb
        have HBD := Lib.hid hb
        clear hb
        go_upto_region 7 with fail
        obtain ⟨Av, cv, hva⟩ := own_shape (HAg.out i hi)
        have hvr : VR wr 1 Av (bs0 i).length cv (bs0 i) := by
          have h := HAg.out i hi
          rw [mixN_at] at h
          rw [mixN_at] at hva
          rw [hva] at h
          exact VR.own h
        rw [mixN_at] at hva
        obtain ⟨Ab, cb, hob, hmr⟩ := (HB0.out.run HR0.out (by decide) HG.out).mr hi
        have KF := Lib.hid (fun W (hW : Below wr.heap.size wr W) => HF.out i hi HBD.out W Av (bs0 i).length cv Ab (OMs i).length cb (grown_trans HG.out (grown_below hW)) (hvr.next hW) (hmr.next hW))
        have HNR := Lib.hid (fun W (hW : Below wr.heap.size wr W) => show W.rangeAt g (1 + i * 74) (NA (n0 i) (.slice Av (bs0 i).length cv)).toList from by
          have h := (HR.out.next hW).nodeR hi
          simp only [mixN_at] at h
          rw [hva] at h
          exact h)
        have HOB := Lib.hid (fun W (hW : Below wr.heap.size wr W) => show W.cell? ⟨w.heap.size, i, none⟩ = some (.slice Ab (OMs i).length cb) from by
          have h := Blk.cell (HO.out.next hW) i
          rw [AN_get hi, hob] at h
          exact h)
        clear hva hvr hob hmr
        go_cut [8, 9] (fun s8 s9 wx => PhCut wr (n1 i) (bs1 i) kd (i : Int) r (vals i) s8 s9 wx)
        case first =>
          refine wp_region_G 18 (fun w' => Below wr.heap.size wr w') (by kernel_rfl) ((Below.refl _ _).drew) (fun hS => ?_)
          refine wpG 0 ?_ rfl (by kernel_rfl) (fun _ _ _ h => h) (by rfl) (fun wx => ?_) hS ?_
          rotate_left
          · go_simp; (try with_reducible rfl)
          try simp only [pts]
          refine wpG 1 ?_ rfl (by kernel_rfl) (fun _ _ _ h => h) (by rfl) (fun wx => ?_) hS ?_
          rotate_left
          · go_simp; (try with_reducible rfl)
          try simp only [pts]
          refine wpG 2 ?_ rfl (by kernel_rfl) (fun _ _ _ h => h) (by rfl) (fun wx => ?_) hS ?_
          rotate_left
          · go_simp; (try with_reducible rfl)
          try simp only [pts]
          refine wpG 3 ?_ rfl (by kernel_rfl) (fun _ _ _ h => h) (by rfl) (fun wx => ?_) hS ?_
          rotate_left
          · go_simp; (try with_reducible rfl)
          try simp only [pts]
          refine wpG 4 ?_ rfl (by kernel_rfl) (fun _ _ _ h => h) (by rfl) (fun wx => ?_) hS ?_
          rotate_left
          · go_simp; (try with_reducible rfl)
          try simp only [pts]
          refine wpG 5 ?_ rfl (by kernel_rfl) (fun _ _ _ h => h) (by rfl) (fun wx => ?_) hS ?_
          rotate_left
          · go_simp; (try with_reducible rfl)
          try simp only [pts]
          refine wpG 6 ?_ rfl (by kernel_rfl) (fun _ _ _ h => h) (by rfl) (fun wx => ?_) hS ?_
          rotate_left
          · go_simp; (try with_reducible rfl)
          try simp only [pts]
          refine wpT 7 (.agg (NA (n0 i) (.slice Av (bs0 i).length cv))) rfl (by kernel_rfl) (fun _ _ _ h => h) (Or.inl ⟨by rfl, fun wx hSw => exec_load_node (.tmp 38) rfl g (1 + i * 74) rfl (n0 i) _ (HNR.out _ hSw)⟩) hS ?_
          try simp only [pts]
          refine wpG 8 ?_ rfl (by kernel_rfl) (fun _ _ _ h => h) (by rfl) (fun wx => ?_) hS ?_
          rotate_left
          · go_simp; (try with_reducible rfl)
          try simp only [pts]
          refine wpG 9 ?_ rfl (by kernel_rfl) (fun _ _ _ h => h) (by rfl) (fun wx => ?_) hS ?_
          rotate_left
          · go_simp; (try with_reducible rfl)
          try simp only [pts]
          refine wpT 10 ?_ rfl (by kernel_rfl) (fun _ _ _ h => h) (Or.inl ⟨by rfl, fun wx hSw => ?_⟩) hS ?_
          rotate_left
          · have hq := HOB.out _ hSw; (try dsimp only at hSw); go_simp; (try with_reducible rfl)
          try simp only [pts]
          refine wpAnyG_three (i := 11) (j := 15) (k := 16) rfl rfl rfl (by kernel_rfl) (fun K hK => ?_) (fun K hK => ?_) (fun K hK => ?_)
          · go_simp
            (with_reducible refine (KF.out _ hS).mono ?_)
            rintro e w6 ⟨A', c', Am, cm, rfl, hO6, hV6, hB6⟩
            have hs0 := hS.size
            have hS6 := hS.trans (hB6.mono hs0)
            have hs6 := hS6.size
            have hsz6 := hB6.size
            have hne6 : ∀ ad, Am = some ad → (wr.drew).heap.size ≤ ad.block ∧ ad.block < w6.heap.size := fun ad e => ⟨(hV6.2.2.2 ad e).2.1, (hV6.2.2.2 ad e).2.2.1⟩
            have hO := own_le hO6 hs0
            have hV := hV6.down hs0
            clear hO6 hV6 hB6 hS
            have hS := hS6
            refine hK.out _ _ hS ?_
            clear hK K
            try simp only [pts]
            refine wpG 12 ?_ rfl (by kernel_rfl) (fun _ _ _ h => h) (by rfl) (fun wx => ?_) hS ?_
            rotate_left
            · go_simp; (try with_reducible rfl)
            try simp only [pts]
            refine wpG 13 ?_ rfl (by kernel_rfl) (fun _ _ _ h => h) (by rfl) (fun wx => ?_) hS ?_
            rotate_left
            · go_simp; (try with_reducible rfl)
            try simp only [pts]
            refine wpG 14 ?_ rfl (by kernel_rfl) (fun _ _ _ h => h) (by rfl) (fun wx => ?_) hS ?_
            rotate_left
            · go_simp; (try with_reducible rfl)
            try simp only [pts]
            refine wpAnyG_two (i := 15) (j := 16) rfl rfl (by kernel_rfl) (fun K hK => ?_) (fun K hK => ?_)
            · go_simp
              have hX1c : Below wr.heap.size wr (w6.alloc (.cells Try.zeroCells45 45)) := hS6.alloc hS6.size _
              clear hS
              have hS : Below wr.heap.size wr (w6.alloc (.cells Try.zeroCells45 45)) := hX1c
              have hz : Blk (w6.alloc (.cells Try.zeroCells45 45)) (w6.heap.size) 45 Try.zeroCells45 := Blk.at_ w6 (w6.heap.size) _ _ (by simp)
              have hO1 := own_below hO ((Below.refl _ _).alloc (Nat.le_refl _) (.cells Try.zeroCells45 45)) (fun x hx => (hO.lt x hx).2)
              have hV1 := hV.next ((Below.refl _ _).alloc (Nat.le_refl _) (.cells Try.zeroCells45 45))
              clear hO hV
              have hO := hO1
              have hV := hV1
              clear hO1 hV1
              refine hK.out _ _ hS ?_
              clear hK K
              try simp only [pts]
              refine wpAnyG_one (i := 16) rfl (by kernel_rfl) (fun K hK => ?_)
              go_simp
              have hX2c : Below wr.heap.size wr ((w6.alloc (.cells Try.zeroCells45 45)).alloc (.cells #[.int .i64 0, .int .i64 0, .int .i64 0, .slice none 0 0] 64)) := hX1c.alloc hX1c.size _
              clear hS
              have hS : Below wr.heap.size wr ((w6.alloc (.cells Try.zeroCells45 45)).alloc (.cells #[.int .i64 0, .int .i64 0, .int .i64 0, .slice none 0 0] 64)) := hX2c
              have hz1 : Blk ((w6.alloc (.cells Try.zeroCells45 45)).alloc (.cells #[.int .i64 0, .int .i64 0, .int .i64 0, .slice none 0 0] 64)) (w6.heap.size) 45 _ := hz.alloc _
              clear hz
              have hz := hz1
              have hm : Blk ((w6.alloc (.cells Try.zeroCells45 45)).alloc (.cells #[.int .i64 0, .int .i64 0, .int .i64 0, .slice none 0 0] 64)) (w6.heap.size + 1) 64 #[.int .i64 0, .int .i64 0, .int .i64 0, .slice none 0 0] := Blk.at_ (w6.alloc (.cells Try.zeroCells45 45)) (w6.heap.size + 1) _ _ (by simp)
              have hO1 := own_below hO ((Below.refl _ _).alloc (Nat.le_refl _) (.cells #[.int .i64 0, .int .i64 0, .int .i64 0, .slice none 0 0] 64)) (fun x hx => (hO.lt x hx).2)
              have hV1 := hV.next ((Below.refl _ _).alloc (Nat.le_refl _) (.cells #[.int .i64 0, .int .i64 0, .int .i64 0, .slice none 0 0] 64))
              clear hO hV
              have hO := hO1
              have hV := hV1
              clear hO1 hV1
              refine hK.out _ _ hS ?_
              clear hK K
              try simp only [pts]
              have hsz : (Try.zeroCells45).size = 74 := by kernel_rfl
              refine wpAnyG_one (i := 17) rfl (by kernel_rfl) (fun K hK => ?_)
              rw [if_pos (by rfl)]
              refine wp_store_row 45 (.tmp 8) (.tmp 44) rfl (w6.heap.size) _ _ (NA (n1 i) (.slice A' (bs1 i).length c')) rfl rfl hz (by rw [NA_size, hsz]) (by rw [NA_size]; exact infoNode) (NA_one _ _ _ _) (fun w7 hN7 hg7 => ?_)
              have hS7 := hS.grown hg7 hS.size (fun j hj => by cases hj; omega)
              refine hK.out _ _ hS7 ?_
              clear hK K
              try simp only [pts]
              refine wpAnyG_last rfl (by kernel_rfl) (by kernel_rfl) (by kernel_rfl) (fun K hK => ?_)
              rw [if_pos (by rfl)]
              refine wp_store_row 64 (.tmp 9) (.tmp 45) rfl (w6.heap.size + 1) _ _ #[.int .i64 kd, .int .i64 (i : Int), .int .i64 r, .slice Am (vals i).length cm] rfl rfl (hm.grown hg7 (by intro e; have := Option.some.inj e; omega)) rfl infoMsg4 (by simp [Value.oneCell']) (fun w8 hM8 hg8 => ?_)
              refine hK.out _ _ ?_
              clear hK K
              try simp only [pts]
              go_wp2_with fail
              go_meet
              exact ph_cut (by omega) (by omega) (by omega) hz hm hO hV hS hN7 hg7 hM8 hg8 (fun ad e => by have := hne6 ad e; simp at this; omega)
            · go_simp
              have hX1c : Below wr.heap.size wr (w6.alloc (.cells #[.int .i64 0, .int .i64 0, .int .i64 0, .slice none 0 0] 64)) := hS6.alloc hS6.size _
              clear hS
              have hS : Below wr.heap.size wr (w6.alloc (.cells #[.int .i64 0, .int .i64 0, .int .i64 0, .slice none 0 0] 64)) := hX1c
              have hm : Blk (w6.alloc (.cells #[.int .i64 0, .int .i64 0, .int .i64 0, .slice none 0 0] 64)) (w6.heap.size) 64 #[.int .i64 0, .int .i64 0, .int .i64 0, .slice none 0 0] := Blk.at_ w6 (w6.heap.size) _ _ (by simp)
              have hO1 := own_below hO ((Below.refl _ _).alloc (Nat.le_refl _) (.cells #[.int .i64 0, .int .i64 0, .int .i64 0, .slice none 0 0] 64)) (fun x hx => (hO.lt x hx).2)
              have hV1 := hV.next ((Below.refl _ _).alloc (Nat.le_refl _) (.cells #[.int .i64 0, .int .i64 0, .int .i64 0, .slice none 0 0] 64))
              clear hO hV
              have hO := hO1
              have hV := hV1
              clear hO1 hV1
              refine hK.out _ _ hS ?_
              clear hK K
              try simp only [pts]
              refine wpAnyG_one (i := 15) rfl (by kernel_rfl) (fun K hK => ?_)
              go_simp
              have hX2c : Below wr.heap.size wr ((w6.alloc (.cells #[.int .i64 0, .int .i64 0, .int .i64 0, .slice none 0 0] 64)).alloc (.cells Try.zeroCells45 45)) := hX1c.alloc hX1c.size _
              clear hS
              have hS : Below wr.heap.size wr ((w6.alloc (.cells #[.int .i64 0, .int .i64 0, .int .i64 0, .slice none 0 0] 64)).alloc (.cells Try.zeroCells45 45)) := hX2c
              have hm1 : Blk ((w6.alloc (.cells #[.int .i64 0, .int .i64 0, .int .i64 0, .slice none 0 0] 64)).alloc (.cells Try.zeroCells45 45)) (w6.heap.size) 64 _ := hm.alloc _
              clear hm
              have hm := hm1
              have hz : Blk ((w6.alloc (.cells #[.int .i64 0, .int .i64 0, .int .i64 0, .slice none 0 0] 64)).alloc (.cells Try.zeroCells45 45)) (w6.heap.size + 1) 45 Try.zeroCells45 := Blk.at_ (w6.alloc (.cells #[.int .i64 0, .int .i64 0, .int .i64 0, .slice none 0 0] 64)) (w6.heap.size + 1) _ _ (by simp)
              have hO1 := own_below hO ((Below.refl _ _).alloc (Nat.le_refl _) (.cells Try.zeroCells45 45)) (fun x hx => (hO.lt x hx).2)
              have hV1 := hV.next ((Below.refl _ _).alloc (Nat.le_refl _) (.cells Try.zeroCells45 45))
              clear hO hV
              have hO := hO1
              have hV := hV1
              clear hO1 hV1
              refine hK.out _ _ hS ?_
              clear hK K
              try simp only [pts]
              have hsz : (Try.zeroCells45).size = 74 := by kernel_rfl
              refine wpAnyG_one (i := 17) rfl (by kernel_rfl) (fun K hK => ?_)
              rw [if_pos (by rfl)]
              refine wp_store_row 45 (.tmp 8) (.tmp 44) rfl (w6.heap.size + 1) _ _ (NA (n1 i) (.slice A' (bs1 i).length c')) rfl rfl hz (by rw [NA_size, hsz]) (by rw [NA_size]; exact infoNode) (NA_one _ _ _ _) (fun w7 hN7 hg7 => ?_)
              have hS7 := hS.grown hg7 hS.size (fun j hj => by cases hj; omega)
              refine hK.out _ _ hS7 ?_
              clear hK K
              try simp only [pts]
              refine wpAnyG_last rfl (by kernel_rfl) (by kernel_rfl) (by kernel_rfl) (fun K hK => ?_)
              rw [if_pos (by rfl)]
              refine wp_store_row 64 (.tmp 9) (.tmp 45) rfl (w6.heap.size) _ _ #[.int .i64 kd, .int .i64 (i : Int), .int .i64 r, .slice Am (vals i).length cm] rfl rfl (hm.grown hg7 (by intro e; have := Option.some.inj e; omega)) rfl infoMsg4 (by simp [Value.oneCell']) (fun w8 hM8 hg8 => ?_)
              refine hK.out _ _ ?_
              clear hK K
              try simp only [pts]
              go_wp2_with fail
              go_meet
              exact ph_cut (by omega) (by omega) (by omega) hz hm hO hV hS hN7 hg7 hM8 hg8 (fun ad e => by have := hne6 ad e; simp at this; omega)
          · go_simp
            have hX1 : Below wr.heap.size wr (wr.alloc (.cells Try.zeroCells45 45)) := (Below.refl wr.heap.size wr).alloc (Below.refl wr.heap.size wr).size _
            clear hS
            have hS : Below wr.heap.size wr (wr.alloc (.cells Try.zeroCells45 45)).drew := hX1.drew
            have hz : Blk (wr.alloc (.cells Try.zeroCells45 45)).drew (wr.heap.size) 45 Try.zeroCells45 := Blk.at_ wr (wr.heap.size) _ _ (by simp)
            refine hK.out _ _ hS ?_
            clear hK K
            try simp only [pts]
            refine wpAnyG_two (i := 11) (j := 16) rfl rfl (by kernel_rfl) (fun K hK => ?_) (fun K hK => ?_)
            · go_simp
              (with_reducible refine (KF.out _ hS).mono ?_)
              rintro e w6 ⟨A', c', Am, cm, rfl, hO6, hV6, hB6⟩
              have hs0 := hS.size
              have hS6 := hS.trans (hB6.mono hs0)
              have hs6 := hS6.size
              have hsz6 := hB6.size
              have hlz := Blk.lt hz
              have hz6 := hz.next hB6
              clear hz
              have hz := hz6
              have hne6 : ∀ ad, Am = some ad → ((wr.alloc (.cells Try.zeroCells45 45)).drew).heap.size ≤ ad.block ∧ ad.block < w6.heap.size := fun ad e => ⟨(hV6.2.2.2 ad e).2.1, (hV6.2.2.2 ad e).2.2.1⟩
              have hO := own_le hO6 hs0
              have hV := hV6.down hs0
              clear hO6 hV6 hB6 hS
              have hS := hS6
              refine hK.out _ _ hS ?_
              clear hK K
              try simp only [pts]
              refine wpG 12 ?_ rfl (by kernel_rfl) (fun _ _ _ h => h) (by rfl) (fun wx => ?_) hS ?_
              rotate_left
              · go_simp; (try with_reducible rfl)
              try simp only [pts]
              refine wpG 13 ?_ rfl (by kernel_rfl) (fun _ _ _ h => h) (by rfl) (fun wx => ?_) hS ?_
              rotate_left
              · go_simp; (try with_reducible rfl)
              try simp only [pts]
              refine wpG 14 ?_ rfl (by kernel_rfl) (fun _ _ _ h => h) (by rfl) (fun wx => ?_) hS ?_
              rotate_left
              · go_simp; (try with_reducible rfl)
              try simp only [pts]
              refine wpAnyG_one (i := 16) rfl (by kernel_rfl) (fun K hK => ?_)
              go_simp
              have hX1c : Below wr.heap.size wr (w6.alloc (.cells #[.int .i64 0, .int .i64 0, .int .i64 0, .slice none 0 0] 64)) := hS6.alloc hS6.size _
              clear hS
              have hS : Below wr.heap.size wr (w6.alloc (.cells #[.int .i64 0, .int .i64 0, .int .i64 0, .slice none 0 0] 64)) := hX1c
              have hz1 : Blk (w6.alloc (.cells #[.int .i64 0, .int .i64 0, .int .i64 0, .slice none 0 0] 64)) (wr.heap.size) 45 _ := hz.alloc _
              clear hz
              have hz := hz1
              have hm : Blk (w6.alloc (.cells #[.int .i64 0, .int .i64 0, .int .i64 0, .slice none 0 0] 64)) (w6.heap.size) 64 #[.int .i64 0, .int .i64 0, .int .i64 0, .slice none 0 0] := Blk.at_ w6 (w6.heap.size) _ _ (by simp)
              have hO1 := own_below hO ((Below.refl _ _).alloc (Nat.le_refl _) (.cells #[.int .i64 0, .int .i64 0, .int .i64 0, .slice none 0 0] 64)) (fun x hx => (hO.lt x hx).2)
              have hV1 := hV.next ((Below.refl _ _).alloc (Nat.le_refl _) (.cells #[.int .i64 0, .int .i64 0, .int .i64 0, .slice none 0 0] 64))
              clear hO hV
              have hO := hO1
              have hV := hV1
              clear hO1 hV1
              refine hK.out _ _ hS ?_
              clear hK K
              try simp only [pts]
              have hsz : (Try.zeroCells45).size = 74 := by kernel_rfl
              refine wpAnyG_one (i := 17) rfl (by kernel_rfl) (fun K hK => ?_)
              rw [if_pos (by rfl)]
              refine wp_store_row 45 (.tmp 8) (.tmp 44) rfl (wr.heap.size) _ _ (NA (n1 i) (.slice A' (bs1 i).length c')) rfl rfl hz (by rw [NA_size, hsz]) (by rw [NA_size]; exact infoNode) (NA_one _ _ _ _) (fun w7 hN7 hg7 => ?_)
              have hS7 := hS.grown hg7 hS.size (fun j hj => by cases hj; omega)
              refine hK.out _ _ hS7 ?_
              clear hK K
              try simp only [pts]
              refine wpAnyG_last rfl (by kernel_rfl) (by kernel_rfl) (by kernel_rfl) (fun K hK => ?_)
              rw [if_pos (by rfl)]
              refine wp_store_row 64 (.tmp 9) (.tmp 45) rfl (w6.heap.size) _ _ #[.int .i64 kd, .int .i64 (i : Int), .int .i64 r, .slice Am (vals i).length cm] rfl rfl (hm.grown hg7 (by intro e; have := Option.some.inj e; omega)) rfl infoMsg4 (by simp [Value.oneCell']) (fun w8 hM8 hg8 => ?_)
              refine hK.out _ _ ?_
              clear hK K
              try simp only [pts]
              go_wp2_with fail
              go_meet
              exact ph_cut (by omega) (by omega) (by omega) hz hm hO hV hS hN7 hg7 hM8 hg8 (fun ad e => by have := hne6 ad e; simp at this; omega)
            · go_simp
              have hX2 : Below wr.heap.size wr ((wr.alloc (.cells Try.zeroCells45 45)).alloc (.cells #[.int .i64 0, .int .i64 0, .int .i64 0, .slice none 0 0] 64)) := hX1.alloc hX1.size _
              clear hS
              have hS : Below wr.heap.size wr ((wr.alloc (.cells Try.zeroCells45 45)).alloc (.cells #[.int .i64 0, .int .i64 0, .int .i64 0, .slice none 0 0] 64)).drew := hX2.drew
              have hz1 : Blk ((wr.alloc (.cells Try.zeroCells45 45)).alloc (.cells #[.int .i64 0, .int .i64 0, .int .i64 0, .slice none 0 0] 64)).drew (wr.heap.size) 45 _ := hz.alloc _
              clear hz
              have hz := hz1
              have hm : Blk ((wr.alloc (.cells Try.zeroCells45 45)).alloc (.cells #[.int .i64 0, .int .i64 0, .int .i64 0, .slice none 0 0] 64)).drew (wr.heap.size + 1) 64 #[.int .i64 0, .int .i64 0, .int .i64 0, .slice none 0 0] := Blk.at_ (wr.alloc (.cells Try.zeroCells45 45)) (wr.heap.size + 1) _ _ (by simp)
              refine hK.out _ _ hS ?_
              clear hK K
              try simp only [pts]
              refine wpAnyG_one (i := 11) rfl (by kernel_rfl) (fun K hK => ?_)
              go_simp
              (with_reducible refine (KF.out _ hS).mono ?_)
              rintro e w6 ⟨A', c', Am, cm, rfl, hO6, hV6, hB6⟩
              have hs0 := hS.size
              have hS6 := hS.trans (hB6.mono hs0)
              have hs6 := hS6.size
              have hsz6 := hB6.size
              have hlz := Blk.lt hz
              have hz6 := hz.next hB6
              clear hz
              have hz := hz6
              have hlm := Blk.lt hm
              have hm6 := hm.next hB6
              clear hm
              have hm := hm6
              have hne6 : ∀ ad, Am = some ad → (((wr.alloc (.cells Try.zeroCells45 45)).alloc (.cells #[.int .i64 0, .int .i64 0, .int .i64 0, .slice none 0 0] 64)).drew).heap.size ≤ ad.block ∧ ad.block < w6.heap.size := fun ad e => ⟨(hV6.2.2.2 ad e).2.1, (hV6.2.2.2 ad e).2.2.1⟩
              have hO := own_le hO6 hs0
              have hV := hV6.down hs0
              clear hO6 hV6 hB6 hS
              have hS := hS6
              refine hK.out _ _ hS ?_
              clear hK K
              try simp only [pts]
              refine wpG 12 ?_ rfl (by kernel_rfl) (fun _ _ _ h => h) (by rfl) (fun wx => ?_) hS ?_
              rotate_left
              · go_simp; (try with_reducible rfl)
              try simp only [pts]
              refine wpG 13 ?_ rfl (by kernel_rfl) (fun _ _ _ h => h) (by rfl) (fun wx => ?_) hS ?_
              rotate_left
              · go_simp; (try with_reducible rfl)
              try simp only [pts]
              refine wpG 14 ?_ rfl (by kernel_rfl) (fun _ _ _ h => h) (by rfl) (fun wx => ?_) hS ?_
              rotate_left
              · go_simp; (try with_reducible rfl)
              try simp only [pts]
              have hsz : (Try.zeroCells45).size = 74 := by kernel_rfl
              refine wpAnyG_one (i := 17) rfl (by kernel_rfl) (fun K hK => ?_)
              rw [if_pos (by rfl)]
              refine wp_store_row 45 (.tmp 8) (.tmp 44) rfl (wr.heap.size) _ _ (NA (n1 i) (.slice A' (bs1 i).length c')) rfl rfl hz (by rw [NA_size, hsz]) (by rw [NA_size]; exact infoNode) (NA_one _ _ _ _) (fun w7 hN7 hg7 => ?_)
              have hS7 := hS.grown hg7 hS.size (fun j hj => by cases hj; omega)
              refine hK.out _ _ hS7 ?_
              clear hK K
              try simp only [pts]
              refine wpAnyG_last rfl (by kernel_rfl) (by kernel_rfl) (by kernel_rfl) (fun K hK => ?_)
              rw [if_pos (by rfl)]
              refine wp_store_row 64 (.tmp 9) (.tmp 45) rfl (wr.heap.size + 1) _ _ #[.int .i64 kd, .int .i64 (i : Int), .int .i64 r, .slice Am (vals i).length cm] rfl rfl (hm.grown hg7 (by intro e; have := Option.some.inj e; omega)) rfl infoMsg4 (by simp [Value.oneCell']) (fun w8 hM8 hg8 => ?_)
              refine hK.out _ _ ?_
              clear hK K
              try simp only [pts]
              go_wp2_with fail
              go_meet
              exact ph_cut (by omega) (by omega) (by omega) hz hm hO hV hS hN7 hg7 hM8 hg8 (fun ad e => by have := hne6 ad e; simp at this; omega)
          · go_simp
            have hX1 : Below wr.heap.size wr (wr.alloc (.cells #[.int .i64 0, .int .i64 0, .int .i64 0, .slice none 0 0] 64)) := (Below.refl wr.heap.size wr).alloc (Below.refl wr.heap.size wr).size _
            clear hS
            have hS : Below wr.heap.size wr (wr.alloc (.cells #[.int .i64 0, .int .i64 0, .int .i64 0, .slice none 0 0] 64)).drew := hX1.drew
            have hm : Blk (wr.alloc (.cells #[.int .i64 0, .int .i64 0, .int .i64 0, .slice none 0 0] 64)).drew (wr.heap.size) 64 #[.int .i64 0, .int .i64 0, .int .i64 0, .slice none 0 0] := Blk.at_ wr (wr.heap.size) _ _ (by simp)
            refine hK.out _ _ hS ?_
            clear hK K
            try simp only [pts]
            refine wpAnyG_two (i := 11) (j := 15) rfl rfl (by kernel_rfl) (fun K hK => ?_) (fun K hK => ?_)
            · go_simp
              (with_reducible refine (KF.out _ hS).mono ?_)
              rintro e w6 ⟨A', c', Am, cm, rfl, hO6, hV6, hB6⟩
              have hs0 := hS.size
              have hS6 := hS.trans (hB6.mono hs0)
              have hs6 := hS6.size
              have hsz6 := hB6.size
              have hlm := Blk.lt hm
              have hm6 := hm.next hB6
              clear hm
              have hm := hm6
              have hne6 : ∀ ad, Am = some ad → ((wr.alloc (.cells #[.int .i64 0, .int .i64 0, .int .i64 0, .slice none 0 0] 64)).drew).heap.size ≤ ad.block ∧ ad.block < w6.heap.size := fun ad e => ⟨(hV6.2.2.2 ad e).2.1, (hV6.2.2.2 ad e).2.2.1⟩
              have hO := own_le hO6 hs0
              have hV := hV6.down hs0
              clear hO6 hV6 hB6 hS
              have hS := hS6
              refine hK.out _ _ hS ?_
              clear hK K
              try simp only [pts]
              refine wpG 12 ?_ rfl (by kernel_rfl) (fun _ _ _ h => h) (by rfl) (fun wx => ?_) hS ?_
              rotate_left
              · go_simp; (try with_reducible rfl)
              try simp only [pts]
              refine wpG 13 ?_ rfl (by kernel_rfl) (fun _ _ _ h => h) (by rfl) (fun wx => ?_) hS ?_
              rotate_left
              · go_simp; (try with_reducible rfl)
              try simp only [pts]
              refine wpG 14 ?_ rfl (by kernel_rfl) (fun _ _ _ h => h) (by rfl) (fun wx => ?_) hS ?_
              rotate_left
              · go_simp; (try with_reducible rfl)
              try simp only [pts]
              refine wpAnyG_one (i := 15) rfl (by kernel_rfl) (fun K hK => ?_)
              go_simp
              have hX1c : Below wr.heap.size wr (w6.alloc (.cells Try.zeroCells45 45)) := hS6.alloc hS6.size _
              clear hS
              have hS : Below wr.heap.size wr (w6.alloc (.cells Try.zeroCells45 45)) := hX1c
              have hm1 : Blk (w6.alloc (.cells Try.zeroCells45 45)) (wr.heap.size) 64 _ := hm.alloc _
              clear hm
              have hm := hm1
              have hz : Blk (w6.alloc (.cells Try.zeroCells45 45)) (w6.heap.size) 45 Try.zeroCells45 := Blk.at_ w6 (w6.heap.size) _ _ (by simp)
              have hO1 := own_below hO ((Below.refl _ _).alloc (Nat.le_refl _) (.cells Try.zeroCells45 45)) (fun x hx => (hO.lt x hx).2)
              have hV1 := hV.next ((Below.refl _ _).alloc (Nat.le_refl _) (.cells Try.zeroCells45 45))
              clear hO hV
              have hO := hO1
              have hV := hV1
              clear hO1 hV1
              refine hK.out _ _ hS ?_
              clear hK K
              try simp only [pts]
              have hsz : (Try.zeroCells45).size = 74 := by kernel_rfl
              refine wpAnyG_one (i := 17) rfl (by kernel_rfl) (fun K hK => ?_)
              rw [if_pos (by rfl)]
              refine wp_store_row 45 (.tmp 8) (.tmp 44) rfl (w6.heap.size) _ _ (NA (n1 i) (.slice A' (bs1 i).length c')) rfl rfl hz (by rw [NA_size, hsz]) (by rw [NA_size]; exact infoNode) (NA_one _ _ _ _) (fun w7 hN7 hg7 => ?_)
              have hS7 := hS.grown hg7 hS.size (fun j hj => by cases hj; omega)
              refine hK.out _ _ hS7 ?_
              clear hK K
              try simp only [pts]
              refine wpAnyG_last rfl (by kernel_rfl) (by kernel_rfl) (by kernel_rfl) (fun K hK => ?_)
              rw [if_pos (by rfl)]
              refine wp_store_row 64 (.tmp 9) (.tmp 45) rfl (wr.heap.size) _ _ #[.int .i64 kd, .int .i64 (i : Int), .int .i64 r, .slice Am (vals i).length cm] rfl rfl (hm.grown hg7 (by intro e; have := Option.some.inj e; omega)) rfl infoMsg4 (by simp [Value.oneCell']) (fun w8 hM8 hg8 => ?_)
              refine hK.out _ _ ?_
              clear hK K
              try simp only [pts]
              go_wp2_with fail
              go_meet
              exact ph_cut (by omega) (by omega) (by omega) hz hm hO hV hS hN7 hg7 hM8 hg8 (fun ad e => by have := hne6 ad e; simp at this; omega)
            · go_simp
              have hX2 : Below wr.heap.size wr ((wr.alloc (.cells #[.int .i64 0, .int .i64 0, .int .i64 0, .slice none 0 0] 64)).alloc (.cells Try.zeroCells45 45)) := hX1.alloc hX1.size _
              clear hS
              have hS : Below wr.heap.size wr ((wr.alloc (.cells #[.int .i64 0, .int .i64 0, .int .i64 0, .slice none 0 0] 64)).alloc (.cells Try.zeroCells45 45)).drew := hX2.drew
              have hm1 : Blk ((wr.alloc (.cells #[.int .i64 0, .int .i64 0, .int .i64 0, .slice none 0 0] 64)).alloc (.cells Try.zeroCells45 45)).drew (wr.heap.size) 64 _ := hm.alloc _
              clear hm
              have hm := hm1
              have hz : Blk ((wr.alloc (.cells #[.int .i64 0, .int .i64 0, .int .i64 0, .slice none 0 0] 64)).alloc (.cells Try.zeroCells45 45)).drew (wr.heap.size + 1) 45 Try.zeroCells45 := Blk.at_ (wr.alloc (.cells #[.int .i64 0, .int .i64 0, .int .i64 0, .slice none 0 0] 64)) (wr.heap.size + 1) _ _ (by simp)
              refine hK.out _ _ hS ?_
              clear hK K
              try simp only [pts]
              refine wpAnyG_one (i := 11) rfl (by kernel_rfl) (fun K hK => ?_)
              go_simp
              (with_reducible refine (KF.out _ hS).mono ?_)
              rintro e w6 ⟨A', c', Am, cm, rfl, hO6, hV6, hB6⟩
              have hs0 := hS.size
              have hS6 := hS.trans (hB6.mono hs0)
              have hs6 := hS6.size
              have hsz6 := hB6.size
              have hlz := Blk.lt hz
              have hz6 := hz.next hB6
              clear hz
              have hz := hz6
              have hlm := Blk.lt hm
              have hm6 := hm.next hB6
              clear hm
              have hm := hm6
              have hne6 : ∀ ad, Am = some ad → (((wr.alloc (.cells #[.int .i64 0, .int .i64 0, .int .i64 0, .slice none 0 0] 64)).alloc (.cells Try.zeroCells45 45)).drew).heap.size ≤ ad.block ∧ ad.block < w6.heap.size := fun ad e => ⟨(hV6.2.2.2 ad e).2.1, (hV6.2.2.2 ad e).2.2.1⟩
              have hO := own_le hO6 hs0
              have hV := hV6.down hs0
              clear hO6 hV6 hB6 hS
              have hS := hS6
              refine hK.out _ _ hS ?_
              clear hK K
              try simp only [pts]
              refine wpG 12 ?_ rfl (by kernel_rfl) (fun _ _ _ h => h) (by rfl) (fun wx => ?_) hS ?_
              rotate_left
              · go_simp; (try with_reducible rfl)
              try simp only [pts]
              refine wpG 13 ?_ rfl (by kernel_rfl) (fun _ _ _ h => h) (by rfl) (fun wx => ?_) hS ?_
              rotate_left
              · go_simp; (try with_reducible rfl)
              try simp only [pts]
              refine wpG 14 ?_ rfl (by kernel_rfl) (fun _ _ _ h => h) (by rfl) (fun wx => ?_) hS ?_
              rotate_left
              · go_simp; (try with_reducible rfl)
              try simp only [pts]
              have hsz : (Try.zeroCells45).size = 74 := by kernel_rfl
              refine wpAnyG_one (i := 17) rfl (by kernel_rfl) (fun K hK => ?_)
              rw [if_pos (by rfl)]
              refine wp_store_row 45 (.tmp 8) (.tmp 44) rfl (wr.heap.size + 1) _ _ (NA (n1 i) (.slice A' (bs1 i).length c')) rfl rfl hz (by rw [NA_size, hsz]) (by rw [NA_size]; exact infoNode) (NA_one _ _ _ _) (fun w7 hN7 hg7 => ?_)
              have hS7 := hS.grown hg7 hS.size (fun j hj => by cases hj; omega)
              refine hK.out _ _ hS7 ?_
              clear hK K
              try simp only [pts]
              refine wpAnyG_last rfl (by kernel_rfl) (by kernel_rfl) (by kernel_rfl) (fun K hK => ?_)
              rw [if_pos (by rfl)]
              refine wp_store_row 64 (.tmp 9) (.tmp 45) rfl (wr.heap.size) _ _ #[.int .i64 kd, .int .i64 (i : Int), .int .i64 r, .slice Am (vals i).length cm] rfl rfl (hm.grown hg7 (by intro e; have := Option.some.inj e; omega)) rfl infoMsg4 (by simp [Value.oneCell']) (fun w8 hM8 hg8 => ?_)
              refine hK.out _ _ ?_
              clear hK K
              try simp only [pts]
              go_wp2_with fail
              go_meet
              exact ph_cut (by omega) (by omega) (by omega) hz hm hO hV hS hN7 hg7 hM8 hg8 (fun ad e => by have := hne6 ad e; simp at this; omega)
        case rest =>
          obtain ⟨q8, q9, A', c', Am, cm, rfl, rfl, hN8, hM9, hO9, hV9, hB9, hq9⟩ := hcut
          have HN8 := Lib.hid hN8
          have HM9 := Lib.hid hM9
          have HO9 := Lib.hid hO9
          have HV9 := Lib.hid hV9
          have HB9 := Lib.hid hB9
          have HRc := Lib.hid (HR.out.next hB9)
          clear hN8 hM9 hO9 hV9 hB9 KF HNR HOB
          go_upto_region 8 with fail
          refine wp_region_G 7 (fun w' => RunB w' g ⟨fr, mixN y.bad n0 n1 i, va'⟩ y bx' ∧ Blk w' q8 45 (NA (n1 i) (.slice A' (bs1 i).length c'))) (by kernel_rfl) (⟨HRc.out.next (Below.refl _ _).drew, HN8.out.next (Below.refl _ _).drew⟩) (fun hS => ?_)
          refine wpG 0 ?_ rfl (by kernel_rfl) (fun _ _ _ h => h) (by rfl) (fun wx => ?_) hS ?_
          rotate_left
          · go_simp; (try with_reducible rfl)
          try simp only [pts]
          refine wpG 1 ?_ rfl (by kernel_rfl) (fun _ _ _ h => h) (by rfl) (fun wx => ?_) hS ?_
          rotate_left
          · go_simp; (try with_reducible rfl)
          try simp only [pts]
          refine wpT 2 (.agg (NA (n1 i) (.slice A' (bs1 i).length c'))) rfl (by kernel_rfl) (fun _ _ _ h => h) (Or.inl ⟨by rfl, fun wx hSw => exec_load_row 45 (.tmp 8) rfl q8 rfl _ _ _ hSw.2 Try.underlying45 rfl (by rw [NA_size]; exact infoNode)⟩) hS ?_
          try simp only [pts]
          refine wpG 3 ?_ rfl (by kernel_rfl) (fun _ _ _ h => h) (by rfl) (fun wx => ?_) hS ?_
          rotate_left
          · go_simp; (try with_reducible rfl)
          try simp only [pts]
          refine wpG 4 ?_ rfl (by kernel_rfl) (fun _ _ _ h => h) (by rfl) (fun wx => ?_) hS ?_
          rotate_left
          · go_simp; (try with_reducible rfl)
          try simp only [pts]
          refine wpG 5 ?_ rfl (by kernel_rfl) (fun _ _ _ h => h) (by rfl) (fun wx => ?_) hS ?_
          rotate_left
          · go_simp; (try with_reducible rfl)
          try simp only [pts]
          refine wpG 6 ?_ rfl (by kernel_rfl) (fun _ _ _ h => h) (by rfl) (fun wx => ?_) hS ?_
          rotate_left
          · go_simp; (try with_reducible rfl)
          try simp only [pts]
          refine wpAnyG_last rfl (by kernel_rfl) (by kernel_rfl) (by kernel_rfl) (fun K hK => ?_)
          rw [if_pos (by rfl)]
          refine wp_store_run (.tmp 52) (.tmp 48) rfl g i (n1 i) A' (bs1 i).length c' hi rfl rfl hS.1 (fun w9 hR9 hg9 => ?_)
          have HR9 := Lib.hid hR9
          have HG9 := Lib.hid hg9
          clear hR9 hg9 hS
          refine hK.out _ _ ?_
          clear hK K
          try simp only [pts]
          have hbc : Below wr.heap.size wr wc.drew := HB9.out.drew
          have hgl := Blk.lt HR.out
          have hm9 : Blk w9 q9 64 #[.int .i64 kd, .int .i64 (i : Int), .int .i64 r, .slice Am (vals i).length cm] := (HM9.out.next (Below.refl wc.heap.size wc).drew).grown HG9.out (by intro e; have h1 := Option.some.inj e; omega)
          have hv9 := (HV9.out.next (Below.refl wc.heap.size wc).drew).grown HG9.out (fun ad e => by have := (HV9.out.2.2.2 ad e).2.1; omega)
          have ho9 : wc.drew.ownsRow wr.heap.size 4 1 (.slice A' (bs1 i).length c') (bs1 i).length (bs1 i) := HO9.out
          have hb9 := (HBx.out.next hbc).run (HR.out.next hbc) (by decide) HG9.out
          have KP := Lib.hid (post_any kd (i : Int) r Am (vals i).length cm (vals i) i g w.heap.size _ y bx' Ms' w9 rfl hi HR9.out hb9 hv9.1 (HVI.out i hi HBD.out) (HRI.out i hi) (Nat.le_trans HG.out.size (Nat.le_trans hbc.size HG9.out.size)) (fun t ht => Nat.le_trans (HML.out t ht) (by decide)))
          have m0 := hm9.cell 0
          have m1 := hm9.cell 1
          have m2 := hm9.cell 2
          have m3 := hm9.cell 3
          (simp only [List.getElem?_toArray, List.getElem?_cons_zero, List.getElem?_cons_succ] at m0 m1 m2 m3)
          have HBC := Lib.hid hbc
          have HO9' := Lib.hid ho9
          clear hbc hm9 hv9 ho9 hb9 HO9 HV9 HM9 HN8 HB9 HRc
          go_wp2_with (first
            | (go_at_call 65; (with_reducible refine KP.out.mono ?_); rintro e w10 hp; obtain rfl := hp.1; have HP := Lib.hid hp; clear hp))
          go_roundw
          case rel => exact PhRel.good hi hg0 hB0 HR.out HBx.out HAg.out HMs.out HG.out HO.out HBD.out HBC.out HO9'.out HR9.out HG9.out rfl HP.out
          case measure => simp [intOf]; omega
    · obtain rfl : i = 4 := by omega
      have hD := PhRel.done (⟨4, va', bx', Ms', rfl, by omega, HR.out, HBx.out, HAg.out, HMs.out, HG.out, HO.out⟩ : PhRel g B y k Ls fr n0 n1 bs0 bs1 obx (fun i : Nat => ⟨kd, i, r, vals i⟩) w (.int .i64 4) wr) hBg hB0
      have HD := Lib.hid hD
      clear hD
      go_wp2_with fail
      go_end0
      exact HD.out
end Go.Proofs.Ytofeoeknmlkjgaa.Nk
end
section
/- cluster.Frame: its five phases. -/
set_option linter.unusedVariables false
namespace Go.Proofs.Ytofeoeknmlkjgaa.Nk
open Go.RowKit Go.Proofs.Ytofeoeknmlkjgaa Mb Fi Sm

def PhSt (w : World) (g : Nat) (y : InD) (fr : Int) (Nk : Nat → Nd) (bk : Nat → List Value) (Bk : Nat → List Pm) (W : World) : Prop :=
  ∃ va bx Ms, RunB W g ⟨fr, Nk, va⟩ y bx ∧ Bx W w.heap.size g bx Ms ∧ AgR W w.heap.size va bk ∧ (∀ t, t < 4 → (Ms t).map Mg.pm = Bk t) ∧ Below w.heap.size w W
noncomputable def FX (x : Cl) (y : InD) (Ls : List Li) : Fr := ⟨y.bad, x.fr, y.rd, Ls.map Li.ly⟩
structure FrH (x : Cl) (y : InD) (bs : Nat → List Value) (A : Option Addr) (m c : Nat) (Ls : List Li) (w : World) : Prop where
  hid : ∀ i : Nat, i < 4 → (x.N i).id = (i : Int)
  hf0 : 0 ≤ x.fr
  hf1 : x.fr < 1073741824
  hlv : y.lv = .slice A m c
  hm : m ≤ 400
  hL : LiR w A m c Ls
  hok : ∀ i : Nat, i < 4 → NOk (x.N i)
  hrd : ∀ k, k < 12 → In64 (y.rd k)
  hbl : ∀ i : Nat, i < 4 → (bs i).length ≤ 1000
  hbs : ∀ i : Nat, i < 4 → ∀ u ∈ bs i, u.oneCell' = true
theorem phs_st {w W w' : World} {g k : Nat} {y : InD} {Ls : List Li} {fr : Int} {n0 n1 : Nat → Nd} {b0 b1 b2 : Nat → List Value} {M : Nat → Pm} {e : Ending} {Bk : Nat → List Pm} (hp : PhsPost g w.heap.size y k Ls fr n0 n1 b0 b1 M W e w') (hB : Below w.heap.size w W)
    (hn : ∀ i : Nat, (i : Int) = y.bad → n1 i = n0 i) (hb : ∀ i, i < 4 → mixN y.bad b0 b1 4 i = b2 i) (hBk : ∀ t, Bk t = boxF y.bad (lieL y.bad k t (Ls.map Li.ly)) M t 4) : e = .returned (.tuple #[]) ∧ PhSt w g y fr n1 b2 Bk w' := by
  obtain ⟨he, va', bx', Ms', h1, h2, h3, h4, h5⟩ := hp
  refine ⟨he, va', bx', Ms', h1.congr rfl (fun i hi => ?_) (fun i hi => rfl), h2, fun j hj => ?_, fun t ht => (h4 t ht).trans (hBk t).symm, hB.trans (h5.mono (Nat.le_refl _))⟩
  · show n1 i = mixN y.bad n0 n1 4 i
    unfold mixN
    by_cases c : (i : Int) = y.bad
    · rw [if_neg (by omega)]; exact hn i c
    · rw [if_pos ⟨hi, c⟩]
  · have := h3 j hj
    rw [hb j hj] at this
    exact this
theorem mr_len {w : World} {B g : Nat} {bx : Nat → Value} {Ms : Nat → List Mg} {L : List Pm} {i n : Nat} (h : (Ms i).map Mg.pm = L) (hl : L.length ≤ n) : (Ms i).length ≤ n := by
  have := congrArg List.length h
  rw [List.length_map] at this
  omega
theorem box_le (bad : Int) (k t : Nat) (Ls : List Ly) (M : Nat → Pm) (h : Ls.length ≤ 400) : (boxF bad (lieL bad k t Ls) M t 4).length ≤ 1604 := by
  have h1 := boxF_len bad (lieL bad k t Ls) M t 4
  have h2 := lieL_le bad k t Ls
  omega
section
variable {x : Cl} {y : InD} {bs : Nat → List Value} {A : Option Addr} {m c g : Nat} {Ls : List Li} {w W : World}
theorem FrH.lies (h : FrH x y bs A m c Ls w) : (Ls.map Li.ly).length ≤ 400 := by rw [List.length_map, h.hL.1]; exact h.hm
theorem FrH.lr (h : FrH x y bs A m c Ls w) (hB : Below w.heap.size w W) : ∀ W', Below w.heap.size W W' → LiR W' A m c Ls := fun W' hW => h.hL.next (hB.trans (hW.mono (Nat.le_refl _)))
theorem hl_in {f : Nat → Int} (h : ∀ j, In64 (f j)) : ∀ z ∈ heL f, In64 z := by
  intro z hz
  unfold heL at hz
  simp only [List.mem_cons, List.not_mem_nil, or_false] at hz
  rcases hz with rfl | rfl | rfl | rfl <;> exact h _
theorem ph_sense (H : FrH x y bs A m c Ls w) (hwg : w.heap.size ≤ g) (gc gi : Nat) (va : Nat → Value) (hR : RunB W g ⟨x.fr, x.N, va⟩ y (fun _ => .slice none 0 0)) (hA : AgR W w.heap.size va bs) (hB : Below w.heap.size w W) (hC : CB W gc x) (hI : IB W gi y) (hgc : gc ≠ g) (hgi : gi ≠ g) :
    Calls Try.prog 50 #[.pointer (some ⟨g, 0, none⟩), .int .i64 0, .func (.func 51) #[] #[.pointer (some ⟨gc, 0, none⟩), .pointer (some ⟨gi, 0, none⟩)]] W fun e w' => e = .returned (.tuple #[]) ∧ PhSt w g y x.fr (N1 (FX x y Ls) x.N) bs (B1 (FX x y Ls)) w' := by
  refine (phase_Sense 1 x.fr 0 A m c Ls w.heap.size g x.fr x.N (N1 (FX x y Ls) x.N) bs bs va (fun _ => .slice none 0 0) (fun _ => []) (fun i => [y.rd (i * 3), y.rd (i * 3 + 1), y.rd (i * 3 + 2)]) y gc gi W hR (Bx.start _ _ _) hA H.hlv (H.lr hB) hwg hB.size H.hm
    (fun i hi => Wr.right0.2 ⟨by decide, by decide, by omega, by omega, H.hf0, by have := H.hf1; omega, by show 3 ≤ 24; decide⟩) (fun i hi hb z hz => ?_) (fun i hi hb W' A' m' c' Am mm cm hg hV hM => ?_)).mono fun e w' hp => phs_st hp hB (fun i hb => if_pos hb) (fun i hi => congrFun (mix_self y.bad bs 4) i) (fun t => rfl)
  · simp only [List.mem_cons, List.not_mem_nil, or_false] at hz
    rcases hz with rfl | rfl | rfl
    · exact H.hrd _ (by omega)
    · exact H.hrd _ (by omega)
    · exact H.hrd _ (by omega)
  · have hl : m' = (bs i).length := by have := hV.1; omega
    rw [show N1 (FX x y Ls) x.N i = senseN (x.N i) i x.fr (y.rd (i * 3)) (y.rd (i * 3 + 1)) (y.rd (i * 3 + 2)) from if_neg hb]
    exact fsense_any (x.N i) i A' m' c' (bs i) Am mm cm gc gi x y W' (H.hid i hi) hi (Blk.grown hC hg (by intro e; exact hgc (Option.some.inj e))) (Blk.grown hI hg (by intro e; exact hgi (Option.some.inj e))) hV (H.hbs i hi) (by have := H.hbl i hi; omega)
theorem ph_relay (H : FrH x y bs A m c Ls w) (hwg : w.heap.size ≤ g) (hS : PhSt w g y x.fr (N1 (FX x y Ls) x.N) bs (B1 (FX x y Ls)) W) :
    Calls Try.prog 50 #[.pointer (some ⟨g, 0, none⟩), .int .i64 1, .func (.func 17) #[] #[]] W fun e w' => e = .returned (.tuple #[]) ∧ PhSt w g y x.fr (N2 (FX x y Ls) x.N) bs (B2 (FX x y Ls) x.N) w' := by
  obtain ⟨va, bx, Ms, hR, hX, hA, hM, hB⟩ := hS
  have hms : ∀ i, i < 4 → MsIn ((B1 (FX x y Ls)) i) := fun i hi z hz v hv => by
    rw [← hM i hi] at hz
    obtain ⟨u, hu, rfl⟩ := List.mem_map.1 hz
    exact ((hX.1 i hi).2 u hu).2.2.2 v hv
  refine (phase_Relay 2 x.fr 1 A m c Ls w.heap.size g x.fr (N1 (FX x y Ls) x.N) (N2 (FX x y Ls) x.N) bs bs va bx Ms (fun i => dirL (N2 (FX x y Ls) x.N i).di 12) y W hR hX hA H.hlv (H.lr hB) hwg hB.size H.hm
    (fun i hi => Wr.right0.2 ⟨by decide, by decide, by omega, by omega, H.hf0, by have := H.hf1; omega, by rw [dirL_len]; decide⟩) (fun i hi hb z hz => ?_) (fun i hi hb W' A' m' c' Am mm cm hg hV hM' => ?_)).mono fun e w' hp => phs_st hp hB (fun i hb => (if_pos hb).trans (if_pos hb).symm) (fun i hi => congrFun (mix_self y.bad bs 4) i) (fun t => rfl)
  · obtain ⟨j, hj, rfl⟩ := List.mem_map.1 hz; exact N2_di_in (x := (FX x y Ls)) hb hi H.hrd (hms i hi) j
  · have hl : m' = (bs i).length := by have := hV.1; omega
    have hmm : mm ≤ 17592186044416 := by
      have h1 := hM'.1
      have h2 := mr_len (w := W) (B := 0) (g := 0) (bx := bx) (hM i hi) (box_le _ _ _ _ _ H.lies)
      omega
    exact hf_relay (X := (FX x y Ls)) hb hi (H.hid i hi) (hM i hi) hV (H.hbs i hi) (by have := H.hbl i hi; omega) hM' hmm
theorem ph_decide (H : FrH x y bs A m c Ls w) (hdi : ∀ i : Nat, i < 4 → ¬ (i : Int) = y.bad → ∀ j, In64 ((N2 (FX x y Ls) x.N i).di j)) (hwg : w.heap.size ≤ g) (hS : PhSt w g y x.fr (N2 (FX x y Ls) x.N) bs (B2 (FX x y Ls) x.N) W) :
    Calls Try.prog 50 #[.pointer (some ⟨g, 0, none⟩), .int .i64 2, .func (.func 18) #[] #[]] W fun e w' => e = .returned (.tuple #[]) ∧ PhSt w g y x.fr (N3 (FX x y Ls) x.N) bs (B3 (FX x y Ls) x.N) w' := by
  obtain ⟨va, bx, Ms, hR, hX, hA, hM, hB⟩ := hS
  have hms : ∀ i, i < 4 → MsIn ((B2 (FX x y Ls) x.N) i) := fun i hi z hz v hv => by
    rw [← hM i hi] at hz
    obtain ⟨u, hu, rfl⟩ := List.mem_map.1 hz
    exact ((hX.1 i hi).2 u hu).2.2.2 v hv
  refine (phase_Decide 3 x.fr 2 A m c Ls w.heap.size g x.fr (N2 (FX x y Ls) x.N) (N3 (FX x y Ls) x.N) bs bs va bx Ms (fun i => [(N3 (FX x y Ls) x.N i).dg]) y W hR hX hA H.hlv (H.lr hB) hwg hB.size H.hm
    (fun i hi => Wr.right0.2 ⟨by decide, by decide, by omega, by omega, H.hf0, by have := H.hf1; omega, by show 1 ≤ 24; decide⟩) (fun i hi hb z hz => ?_) (fun i hi hb W' A' m' c' Am mm cm hg hV hM' => ?_)).mono fun e w' hp => phs_st hp hB (fun i hb => (if_pos hb).trans (if_pos hb).symm) (fun i hi => congrFun (mix_self y.bad bs 4) i) (fun t => rfl)
  · rw [List.mem_singleton] at hz; subst hz; exact N3_dg_in (x := (FX x y Ls)) hb
  · have hl : m' = (bs i).length := by have := hV.1; omega
    have hmm : mm ≤ 17592186044416 := by
      have h1 := hM'.1
      have h2 := mr_len (w := W) (B := 0) (g := 0) (bx := bx) (hM i hi) (box_le _ _ _ _ _ H.lies)
      omega
    exact hf_decide (X := (FX x y Ls)) hb hi (H.hid i hi) (H.hok i hi) (hdi i hi hb) (hM i hi) hV (H.hbs i hi) (by have := H.hbl i hi; omega) hM' hmm
theorem ph_pass (H : FrH x y bs A m c Ls w) (hwg : w.heap.size ≤ g) (hS : PhSt w g y x.fr (N3 (FX x y Ls) x.N) bs (B3 (FX x y Ls) x.N) W) :
    Calls Try.prog 50 #[.pointer (some ⟨g, 0, none⟩), .int .i64 3, .func (.func 19) #[] #[]] W fun e w' => e = .returned (.tuple #[]) ∧ PhSt w g y x.fr (N4 (FX x y Ls) x.N) bs (B4 (FX x y Ls) x.N) w' := by
  obtain ⟨va, bx, Ms, hR, hX, hA, hM, hB⟩ := hS
  have hms : ∀ i, i < 4 → MsIn ((B3 (FX x y Ls) x.N) i) := fun i hi z hz v hv => by
    rw [← hM i hi] at hz
    obtain ⟨u, hu, rfl⟩ := List.mem_map.1 hz
    exact ((hX.1 i hi).2 u hu).2.2.2 v hv
  refine (phase_Pass 2 x.fr 3 A m c Ls w.heap.size g x.fr (N3 (FX x y Ls) x.N) (N4 (FX x y Ls) x.N) bs bs va bx Ms (fun i => heL (N4 (FX x y Ls) x.N i).he) y W hR hX hA H.hlv (H.lr hB) hwg hB.size H.hm
    (fun i hi => Wr.right0.2 ⟨by decide, by decide, by omega, by omega, H.hf0, by have := H.hf1; omega, by show 4 ≤ 24; decide⟩) (fun i hi hb z hz => ?_) (fun i hi hb W' A' m' c' Am mm cm hg hV hM' => ?_)).mono fun e w' hp => phs_st hp hB (fun i hb => (if_pos hb).trans (if_pos hb).symm) (fun i hi => congrFun (mix_self y.bad bs 4) i) (fun t => rfl)
  · exact hl_in (fun j => N4_he_in (x := (FX x y Ls)) hb (hms i hi) j) z hz
  · have hl : m' = (bs i).length := by have := hV.1; omega
    have hmm : mm ≤ 17592186044416 := by
      have h1 := hM'.1
      have h2 := mr_len (w := W) (B := 0) (g := 0) (bx := bx) (hM i hi) (box_le _ _ _ _ _ H.lies)
      omega
    exact hf_pass (X := (FX x y Ls)) hb hi (H.hid i hi) (hM i hi) hV (H.hbs i hi) (by have := H.hbl i hi; omega) hM' hmm
theorem ph_judge (H : FrH x y bs A m c Ls w) (hhe : ∀ i : Nat, i < 4 → ¬ (i : Int) = y.bad → ∀ j, In64 ((N4 (FX x y Ls) x.N i).he j)) (hwg : w.heap.size ≤ g) (hS : PhSt w g y x.fr (N4 (FX x y Ls) x.N) bs (B4 (FX x y Ls) x.N) W) :
    Calls Try.prog 50 #[.pointer (some ⟨g, 0, none⟩), .int .i64 4, .func (.func 20) #[] #[]] W fun e w' => e = .returned (.tuple #[]) ∧ PhSt w g y x.fr (N5 (FX x y Ls) x.N) (agB (FX x y Ls) x.N bs) (B5 (FX x y Ls) x.N) w' := by
  obtain ⟨va, bx, Ms, hR, hX, hA, hM, hB⟩ := hS
  have hms : ∀ i, i < 4 → MsIn ((B4 (FX x y Ls) x.N) i) := fun i hi z hz v hv => by
    rw [← hM i hi] at hz
    obtain ⟨u, hu, rfl⟩ := List.mem_map.1 hz
    exact ((hX.1 i hi).2 u hu).2.2.2 v hv
  refine (phase_Judge 5 x.fr 4 A m c Ls w.heap.size g x.fr (N4 (FX x y Ls) x.N) (N5 (FX x y Ls) x.N) bs (fun i => judgeB (N4 (FX x y Ls) x.N i) (B4 (FX x y Ls) x.N i) i) va bx Ms (fun i => packL (N5 (FX x y Ls) x.N i)) y W hR hX hA H.hlv (H.lr hB) hwg hB.size H.hm
    (fun i hi => Wr.right0.2 ⟨by decide, by decide, by omega, by omega, H.hf0, by have := H.hf1; omega, by rw [packL_len]; decide⟩) (fun i hi hb z hz => ?_) (fun i hi hb W' A' m' c' Am mm cm hg hV hM' => ?_)).mono fun e w' hp => phs_st hp hB (fun i hb => (if_pos hb).trans (if_pos hb).symm) (fun i hi => rfl) (fun t => rfl)
  · exact packL_in (N5_ok (x := (FX x y Ls)) hb (H.hok i hi)).2 z hz
  · have hl : m' = (bs i).length := by have := hV.1; omega
    have hmm : mm ≤ 17592186044416 := by
      have h1 := hM'.1
      have h2 := mr_len (w := W) (B := 0) (g := 0) (bx := bx) (hM i hi) (box_le _ _ _ _ _ H.lies)
      omega
    exact hf_judge (X := (FX x y Ls)) hb hi (H.hid i hi) (hhe i hi hb) (hM i hi) hV (H.hbs i hi) (by have := H.hbl i hi; omega) hM' hmm
end
end Go.Proofs.Ytofeoeknmlkjgaa.Nk
end
