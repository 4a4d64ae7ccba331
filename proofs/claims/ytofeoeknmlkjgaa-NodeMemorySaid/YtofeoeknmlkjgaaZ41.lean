/- Merged: NodeAx NodeDec0 NodeSame. -/
import Derived.BigGuard
import Derived.Laws.Closers25b
import Derived.Test.YtofeoeknmlkjgaaZ39
import Derived.Test.YtofeoeknmlkjgaaZ40
set_option linter.unusedVariables false
set_option linter.unusedSimpArgs false
section
/- The axes of a node: state by state. -/
set_option linter.unusedVariables false
namespace Go.Proofs.Ytofeoeknmlkjgaa.Nk
open Go.RowKit Go.Proofs.Ytofeoeknmlkjgaa Mb Fi Sm

theorem fuseL_congr {n m : Nd} (h1 : m.ro = n.ro) (h2 : m.ag = n.ag) (a : Nat) : ∀ i, fuseL m a i = fuseL n a i
  | 0 => rfl
  | i + 1 => by unfold fuseL; rw [fuseL_congr h1 h2 a i, h1, h2]
theorem fuseF_congr {n m : Nd} (h1 : m.ro = n.ro) (h2 : m.ag = n.ag) (a : Nat) : fuseF m a = fuseF n a := by
  unfold fuseF; rw [fuseL_congr h1 h2]
def fuTo (n : Nd) (k : Nat) : Nd := { n with us := fun j => if j < k then fuseF n j else n.us j, ax := fun j => if j < k then stepS (n.ax j) n.tu (fuseF n j) else n.ax j }
theorem fuTo_zero (n : Nd) : fuTo n 0 = n := by unfold fuTo; simp
def fuMid (n : Nd) (k : Nat) : Nd := { fuTo n k with us := fun j => if j < k + 1 then fuseF n j else n.us j }
theorem stL_get (s : St) (k : Nat) (hk : k < 7) : (stL s)[k]? = some (stc s k) := by
  match k, hk with
  | 0, _ => rfl
  | 1, _ => rfl
  | 2, _ => rfl
  | 3, _ => rfl
  | 4, _ => rfl
  | 5, _ => rfl
  | 6, _ => rfl
theorem NB.stR {W : World} {g a : Nat} {n : Nd} {va : Value} (h : NB W g n va) (ha : a < 3) : W.rangeAt g (6 + a * 7) (stL (n.ax a)) := by
  intro j v hj
  have hlt : j < 7 := (List.getElem?_eq_some_iff.1 hj).1
  rw [stL_get _ j hlt] at hj
  injection hj with hj
  rw [← hj]
  exact h.ax ha hlt
def tuL (t : Tu) : List Value := [.int .i64 t.dt, .int .i64 t.q, .int .i64 t.r, .int .i64 t.g]
theorem tuL_get (s : Tu) (k : Nat) (hk : k < 4) : (tuL s)[k]? = some (tuc s k) := by
  match k, hk with
  | 0, _ => rfl
  | 1, _ => rfl
  | 2, _ => rfl
  | 3, _ => rfl
theorem NB.tuR {W : World} {g : Nat} {n : Nd} {va : Value} (h : NB W g n va) : W.rangeAt g 2 (tuL n.tu) := by
  intro j v hj
  have hlt : j < 4 := (List.getElem?_eq_some_iff.1 hj).1
  rw [tuL_get _ j hlt] at hj
  injection hj with hj
  rw [← hj, h.at_ (by omega), c_tu (by omega) (by omega), show 2 + j - 2 = j by omega]
theorem info7 : (Try.prog.info? 33).map (·.size) = some 7 := by kernel_rfl
theorem info4t : (Try.prog.info? 23).map (·.size) = some 4 := by kernel_rfl
theorem he_us (n : Nd) (va : Value) (a : Nat) (ha : a < 3) : ∀ i, i < 74 → (fuMid n a).c va i = if i = 67 + a then .int .i64 (fuseF n a) else (fuTo n a).c va i := by
  intro i hi
  by_cases h : i = 67 + a
  · rw [if_pos h]
    unfold Nd.c
    rw [if_neg (by omega), if_neg (by omega), if_neg (by omega), if_neg (by omega), if_neg (by omega), if_neg (by omega), if_neg (by omega), if_neg (by omega), if_pos (by omega)]
    show Value.int .i64 (if i - 67 < a + 1 then fuseF n (i - 67) else n.us (i - 67)) = _
    rw [if_pos (by omega), show i - 67 = a by omega]
  · rw [if_neg h]
    by_cases h2 : 67 ≤ i ∧ i < 70
    · unfold Nd.c
      rw [if_neg (by omega), if_neg (by omega), if_neg (by omega), if_neg (by omega), if_neg (by omega), if_neg (by omega), if_neg (by omega), if_neg (by omega), if_pos (by omega)]
      rw [if_neg (by omega), if_neg (by omega), if_neg (by omega), if_neg (by omega), if_neg (by omega), if_neg (by omega), if_neg (by omega), if_neg (by omega), if_pos (by omega)]
      show Value.int .i64 (if i - 67 < a + 1 then fuseF n (i - 67) else n.us (i - 67)) = Value.int .i64 (if i - 67 < a then fuseF n (i - 67) else n.us (i - 67))
      by_cases h3 : i - 67 < a
      · rw [if_pos (by omega), if_pos h3]
      · rw [if_neg (by omega), if_neg h3]
    · exact c_us_out (fuTo n a) _ va i (by omega)
theorem he_ax (n : Nd) (va : Value) (a : Nat) (ha : a < 3) : ∀ i, i < 74 → (fuTo n (a + 1)).c va i = if 6 + a * 7 ≤ i ∧ i < 6 + a * 7 + (stL (stepS (n.ax a) n.tu (fuseF n a))).toArray.toList.length then (stL (stepS (n.ax a) n.tu (fuseF n a))).toArray.toList.getD (i - (6 + a * 7)) undef else (fuMid n a).c va i := by
  intro i hi
  have el : (stL (stepS (n.ax a) n.tu (fuseF n a))).toArray.toList.length = 7 := rfl
  rw [el]
  by_cases h : 6 + a * 7 ≤ i ∧ i < 6 + a * 7 + 7
  · rw [if_pos h, c_ax (by omega) (by omega), show (i - 6) / 7 = a by omega, show (i - 6) % 7 = i - (6 + a * 7) by omega]
    show stc (if a < a + 1 then stepS (n.ax a) n.tu (fuseF n a) else n.ax a) _ = (stL (stepS (n.ax a) n.tu (fuseF n a))).getD _ undef
    rw [if_pos (by omega), List.getD, stL_get _ _ (by omega)]
    rfl
  · rw [if_neg h]
    by_cases h2 : 6 ≤ i ∧ i < 27
    · rw [c_ax (by omega) (by omega), c_ax (by omega) (by omega)]
      have ne : (i - 6) / 7 ≠ a := by omega
      show stc (if (i - 6) / 7 < a + 1 then stepS (n.ax ((i - 6) / 7)) n.tu (fuseF n ((i - 6) / 7)) else n.ax ((i - 6) / 7)) _ = stc (if (i - 6) / 7 < a then stepS (n.ax ((i - 6) / 7)) n.tu (fuseF n ((i - 6) / 7)) else n.ax ((i - 6) / 7)) _
      by_cases h3 : (i - 6) / 7 < a
      · rw [if_pos (by omega), if_pos h3]
      · rw [if_neg (by omega), if_neg h3]
    · exact c_ax_out (fuMid n a) _ va i (by omega)
theorem exec_load_mid {P : Program} {o : Oper} {ρ : Operand → Value} {w : World} (ty : TypeId) (x : Operand) (ho : o.op = .load ty x) (g off : Nat) (hx : ρ x = .pointer (some ⟨g, off, none⟩)) (cs : List Value) (d : TypeDesc) (hb : w.rangeAt g off cs)
    (hu : P.underlying ty = some d) (hd : d.isRow = true) (hi : (P.info? ty).map (·.size) = some cs.length) : (execOp ρ o).run P w = .ok (.value (.agg cs.toArray)) w := by
  unfold execOp
  simp only [ho, hx, Instr.loadAt, Instr.sureAddr, Sem.run_bind, Sem.run_pure, Result.andThen_ok, run_loadVar_mid w g off ty cs d hb hu hd hi]
section
variable {P : Program} {w : World} {o : Oper} {a : Act} {K : Act → World → Prop} {Q : Exit → Act → World → Prop}
theorem wp_store_nb (ty : TypeId) (x y : Operand) (ho : o.op = .store ty x y)
    (g off : Nat) (cells : Array Value) (n n' : Nd) (va va' : Value) (hx : a.eval x = .pointer (some ⟨g, off, none⟩)) (hy : a.eval y = .agg cells)
    (hN : NB w g n va) (hoff : off + cells.size ≤ 74) (hi : (P.info? ty).map (·.size) = some cells.size) (h1 : cells.all (·.oneCell') = true)
    (he : ∀ i, i < 74 → n'.c va' i = if off ≤ i ∧ i < off + cells.toList.length then cells.toList.getD (i - off) undef else n.c va i)
    (h : ∀ w', NB w' g n' va' → w.grownBy w' (some g) → K (a.put o.dst undef) w') : o.wp P a w K Q :=
  wp_store_mid ty x y ho g off cells hx hy (hN.thereR hoff) hi h1 (h _ (hN.setR he) (grown_setCells _ _ _ _))
end
theorem stL_one (s : St) : ((stL s).toArray).all (·.oneCell') = true := by simp [stL, Value.oneCell']
def Nd.In (n : Nd) : Prop := In64 n.id ∧ In64 n.fr ∧ n.tu.In ∧ (∀ a, a < 3 → (n.ax a).In) ∧ (∀ k, k < 12 → In64 (n.di k)) ∧ (∀ k, k < 4 → In64 (n.he k)) ∧ (∀ k, k < 12 → In64 (n.ag k)) ∧ (∀ k, k < 3 → In64 (n.us k)) ∧ In64 n.dg ∧ In64 n.vv ∧ (∀ k, k < 4 → In64 (n.ro.miss k)) ∧ (∀ k, k < 4 → In64 (n.ro.join k))
theorem wrap64_in (z : Int) : In64 (wrap64 z) := by unfold In64 wrap64; omega
theorem bits64_in (o : BinOp) (a b : Int) : In64 (bits o .i64 a b) := bits_within o .i64 a b
theorem inTo_in (R : Rl) : ∀ i, In64 (inTo R i)
  | 0 => zero64
  | i + 1 => by unfold inTo; split; exact bits64_in _ _ _; exact inTo_in R i
theorem cTo_in (f : Nat → Int) : ∀ i, In64 (cTo f i)
  | 0 => zero64
  | i + 1 => by unfold cTo; exact wrap64_in _
theorem packA_in {ax : Nat → St} : ∀ k, (∀ a, a < k → (ax a).In) → ∀ z ∈ packA ax k, In64 z
  | 0, _, z, hz => by cases hz
  | k + 1, h, z, hz => by
    unfold packA at hz
    rcases List.mem_append.1 hz with hz | hz
    · exact packA_in k (fun a ha => h a (by omega)) z hz
    · obtain ⟨h1, h2, h3, h4, h5, h6⟩ := h k (by omega)
      unfold stI at hz
      simp only [List.mem_cons, List.not_mem_nil, or_false] at hz
      rcases hz with e | e | e | e | e | e | e
      · rw [e]; exact h1
      · rw [e]; exact h2
      · rw [e]; exact h3
      · rw [e]; exact h4
      · rw [e]; exact h5
      · rw [e]; split <;> exact ⟨by decide, by decide⟩
      · rw [e]; exact h6
theorem packL_in {n : Nd} (h : ∀ a, a < 3 → (n.ax a).In) : ∀ z ∈ packL n, In64 z := by
  intro z hz
  unfold packL at hz
  rcases List.mem_append.1 hz with hz | hz
  · exact packA_in 3 h z hz
  · simp only [List.mem_cons, List.not_mem_nil, or_false] at hz
    rcases hz with e | e | e
    · rw [e]; exact inTo_in _ _
    · rw [e]; exact cTo_in _ _
    · rw [e]; exact cTo_in _ _
theorem fuTo_in {n : Nd} (h : ∀ a, a < 3 → (n.ax a).In) (k : Nat) : ∀ a, a < 3 → ((fuTo n k).ax a).In := by
  intro a ha
  show (if a < k then stepS (n.ax a) n.tu (fuseF n a) else n.ax a).In
  split
  · exact stepS_in _ _ _ (h a ha)
  · exact h a ha
theorem he_dg (n : Nd) (va : Value) (y : Int) : ∀ i, i < 74 → ({ n with dg := y } : Nd).c va i = if i = 70 then .int .i64 y else n.c va i := by
  intro i hi
  by_cases h : i = 70
  · subst h; rfl
  · rw [if_neg h]; exact c_dg_out n y va i (by omega)
theorem he_he1 (n : Nd) (va : Value) (d : Nat) (hd : d < 4) (y : Int) : ∀ i, i < 74 → ({ n with he := upd n.he d y } : Nd).c va i = if i = 51 + d then .int .i64 y else n.c va i := by
  intro i hi
  by_cases h : i = 51 + d
  · rw [if_pos h, c_he (by omega) (by omega)]
    show Value.int .i64 (upd n.he d y (i - 51)) = _
    unfold upd
    rw [if_pos (by omega)]
  · rw [if_neg h]
    by_cases h2 : 51 ≤ i ∧ i < 55
    · rw [c_he (by omega) (by omega), c_he (by omega) (by omega)]
      show Value.int .i64 (upd n.he d y (i - 51)) = _
      unfold upd
      rw [if_neg (by omega)]
    · exact c_he_out n _ va i (by omega)
theorem fuseF_in (n : Nd) (a : Nat) (ha : a < 3) (h : ∀ j, j < 12 → In64 (n.ag j)) : Fx.In (fuseF n a) := by
  unfold fuseF
  split
  · exact zero64
  · rename_i c
    exact Md.mid_guard (lies := []) (good := fuseL n a 4) (by simp only [List.length_nil]; omega) (fuseL_all n a In64 h ha 4 (by decide))
end Go.Proofs.Ytofeoeknmlkjgaa.Nk
end
section
/- node.Decide: what it computes. -/
set_option linter.unusedVariables false
namespace Go.Proofs.Ytofeoeknmlkjgaa.Nk
open Go.RowKit Go.Proofs.Ytofeoeknmlkjgaa Mb Fi Sm

def decH (n : Nd) (Ms : List Pm) : Hd := hearF n.id n.fr 2 12 Ms
def aF (n : Nd) (h : Hd) (d j : Nat) : Int := if j / 3 = d then n.di j else Mj.maj [n.di j, toldF h j d (j / 3) 0, toldF h j d (j / 3) 1] 0
def agTo (n : Nd) (h : Hd) (d k : Nat) : Nd := { n with ag := fun j => if j < k then aF n h d j else n.ag j }
theorem agTo_zero (n : Nd) (h : Hd) (d : Nat) : agTo n h d 0 = n := by unfold agTo; simp
theorem agTo_put (n : Nd) (h : Hd) (d k : Nat) (hk : k < 12) (z : Int) (hz : z = aF n h d k) (va : Value) (m : Nd) (hm : m = agTo n h d k ∨ ∃ y, m = { agTo n h d k with ag := upd (agTo n h d k).ag k y }) :
    ∀ j, j < 74 → (agTo n h d (k + 1)).c va j = if j = 55 + k then .int .i64 z else m.c va j := by
  intro j hj
  by_cases c : j = 55 + k
  · rw [if_pos c, c_ag (by omega) (by omega)]
    unfold agTo
    simp only
    rw [show j - 55 = k by omega, if_pos (by omega), hz]
  · rw [if_neg c]
    by_cases c2 : 55 ≤ j ∧ j < 67
    · rw [c_ag c2.1 c2.2, c_ag c2.1 c2.2]
      have e : m.ag (j - 55) = (agTo n h d k).ag (j - 55) := by
        rcases hm with rfl | ⟨y, rfl⟩
        · rfl
        · show upd _ k y (j - 55) = _
          unfold upd
          rw [if_neg (by omega)]
      rw [e]
      unfold agTo
      simp only
      rcases Nat.lt_trichotomy (j - 55) k with c3 | c3 | c3
      · rw [if_pos (by omega), if_pos c3]
      · omega
      · rw [if_neg (by omega), if_neg (by omega)]
    · have e : m.c va j = (agTo n h d k).c va j := by
        rcases hm with rfl | ⟨y, rfl⟩
        · rfl
        · exact c_ag_out _ _ va j (by omega)
      rw [e]
      unfold agTo
      exact (c_ag_out n _ va j (by omega)).trans (c_ag_out n _ va j (by omega)).symm
def decideN (n : Nd) (Ms : List Pm) (d : Nat) : Nd :=
  { ({ fuTo (agTo n (decH n Ms) d 12) 3 with dg := dgF (fuTo (agTo n (decH n Ms) d 12) 3) } : Nd) with he := upd ({ fuTo (agTo n (decH n Ms) d 12) 3 with dg := dgF (fuTo (agTo n (decH n Ms) d 12) 3) } : Nd).he d (dgF (fuTo (agTo n (decH n Ms) d 12) 3)) }
end Go.Proofs.Ytofeoeknmlkjgaa.Nk
end
section
/- node.same: some truth value. -/
set_option linter.unusedVariables false
namespace Go.Proofs.Ytofeoeknmlkjgaa.Nk
open Go.RowKit Go.Proofs.Ytofeoeknmlkjgaa Mb Fi Sm

def SomeBool (w : World) (e : Ending) (w' : World) : Prop := (∃ b : Bool, e = .returned (.bool b)) ∧ Below w.heap.size w w'
def NSameRel (n : Nat) (w : World) (i : Value) (wr : World) : Prop := ∃ j : Nat, j ≤ n ∧ i = .int .i64 j ∧ Below w.heap.size w wr

set_option maxRecDepth 100000 in
set_option maxHeartbeats 1000000 in
theorem nsame_any (A B : Option Addr) (n c d : Nat) (xs ys : List Int) (w : World) (h : Ints w .i64 A n xs) (h2 : Ints w .i64 B n ys) (hn : n ≤ 140737488355328) :
    Calls Try.prog 62 #[.slice A n c, .slice B n d] w (SomeBool w) := by
  have H := Lib.hid h
  have H2 := Lib.hid h2
  clear h h2
  go_enter Try.func62, Try.ntmps62
  go_wp2_with fail
  go_loopw [8] (fun i wr => NSameRel n w i wr) (fun i _ => n - (intOf i).toNat)
  case atStart => exact ⟨0, by omega, rfl, Below.refl _ _⟩
  case round =>
    obtain ⟨j, hj, rfl, hb⟩ := hrel
    by_cases hjn : j < n
    · obtain ⟨b, off, rfl, hlt, hc⟩ := H.out.2 (by omega)
      obtain ⟨b2, off2, rfl, hlt2, hc2⟩ := H2.out.2 (by omega)
      have d0 := (hb.cell (p := ⟨b, off + j, none⟩) hlt).trans (hc j hjn)
      have d1 := (hb.cell (p := ⟨b2, off2 + j, none⟩) hlt2).trans (hc2 j hjn)
      clear hc hc2
      generalize xs.getD j 0 = z at *
      generalize ys.getD j 0 = z' at *
      have hz1 : (0 : Int) ≤ (j : Int) := by omega
      have hz2 : (j : Int) < (n : Int) := by omega
      have HB := Lib.hid hb
      clear hb
      cases t2 : (z != z') with
      | false =>
        go_wp2_with fail
        go_quiet (fail)
        go_wp2_with fail
        go_roundw
        case rel => exact ⟨j + 1, by omega, by go_num, HB.out.trans (below_drewN _ _ _)⟩
        case measure => simp [intOf]; omega
      | true =>
        go_wp2_with fail
        go_quiet (fail)
        go_wp2_with fail
        go_ret
        exact ⟨⟨false, rfl⟩, HB.out.trans (below_drewN _ _ _)⟩
    · obtain rfl : j = n := by omega
      go_wp2_with fail
      go_ret
      exact ⟨⟨true, rfl⟩, hb⟩
end Go.Proofs.Ytofeoeknmlkjgaa.Nk
end
