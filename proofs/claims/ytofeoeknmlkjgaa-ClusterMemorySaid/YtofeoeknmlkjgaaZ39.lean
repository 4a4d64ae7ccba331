/- Merged: NodeAx NodeJudge NodeDec0 NodeSame. -/
import Derived.BigGuard
import Derived.Laws.Closers25b
import Derived.Test.YtofeoeknmlkjgaaZ38
set_option linter.unusedVariables false
set_option linter.unusedSimpArgs false
section
/- The axes of a node: state by state. -/
set_option linter.unusedVariables false
namespace Go.Proofs.Ytofeoeknmlkjgaa.Nk
open Go.RowKit Go.Proofs.Ytofeoeknmlkjgaa Mb Fi Sm

theorem fuseL_congr {n m : Nd} (h1 : m.ro = n.ro) (h2 : m.ag = n.ag) (a : Nat) : ∀ i, fuseL m a i = fuseL n a i
  | 0 => rfl
  | i + 1 => by unfold fuseL; rw [fuseL_congr h1 h2 a i, h1, h2]
theorem fuseF_congr {n m : Nd} (h1 : m.ro = n.ro) (h2 : m.ag = n.ag) (a : Nat) : fuseF m a = fuseF n a := by
  unfold fuseF; rw [fuseL_congr h1 h2]
def fuTo (n : Nd) (k : Nat) : Nd := { n with us := fun j => if j < k then fuseF n j else n.us j, ax := fun j => if j < k then stepS (n.ax j) n.tu (fuseF n j) else n.ax j }
theorem fuTo_zero (n : Nd) : fuTo n 0 = n := by unfold fuTo; simp
def fuMid (n : Nd) (k : Nat) : Nd := { fuTo n k with us := fun j => if j < k + 1 then fuseF n j else n.us j }
theorem stL_get (s : St) (k : Nat) (hk : k < 7) : (stL s)[k]? = some (stc s k) := by
  match k, hk with
  | 0, _ => rfl
  | 1, _ => rfl
  | 2, _ => rfl
  | 3, _ => rfl
  | 4, _ => rfl
  | 5, _ => rfl
  | 6, _ => rfl
theorem NB.stR {W : World} {g a : Nat} {n : Nd} {va : Value} (h : NB W g n va) (ha : a < 3) : W.rangeAt g (6 + a * 7) (stL (n.ax a)) := by
  intro j v hj
  have hlt : j < 7 := (List.getElem?_eq_some_iff.1 hj).1
  rw [stL_get _ j hlt] at hj
  injection hj with hj
  rw [← hj]
  exact h.ax ha hlt
def tuL (t : Tu) : List Value := [.int .i64 t.dt, .int .i64 t.q, .int .i64 t.r, .int .i64 t.g]
theorem tuL_get (s : Tu) (k : Nat) (hk : k < 4) : (tuL s)[k]? = some (tuc s k) := by
  match k, hk with
  | 0, _ => rfl
  | 1, _ => rfl
  | 2, _ => rfl
  | 3, _ => rfl
theorem NB.tuR {W : World} {g : Nat} {n : Nd} {va : Value} (h : NB W g n va) : W.rangeAt g 2 (tuL n.tu) := by
  intro j v hj
  have hlt : j < 4 := (List.getElem?_eq_some_iff.1 hj).1
  rw [tuL_get _ j hlt] at hj
  injection hj with hj
  rw [← hj, h.at_ (by omega), c_tu (by omega) (by omega), show 2 + j - 2 = j by omega]
theorem info7 : (Try.prog.info? 33).map (·.size) = some 7 := by kernel_rfl
theorem info4t : (Try.prog.info? 23).map (·.size) = some 4 := by kernel_rfl
theorem he_us (n : Nd) (va : Value) (a : Nat) (ha : a < 3) : ∀ i, i < 74 → (fuMid n a).c va i = if i = 67 + a then .int .i64 (fuseF n a) else (fuTo n a).c va i := by
  intro i hi
  by_cases h : i = 67 + a
  · rw [if_pos h]
    unfold Nd.c
    rw [if_neg (by omega), if_neg (by omega), if_neg (by omega), if_neg (by omega), if_neg (by omega), if_neg (by omega), if_neg (by omega), if_neg (by omega), if_pos (by omega)]
    show Value.int .i64 (if i - 67 < a + 1 then fuseF n (i - 67) else n.us (i - 67)) = _
    rw [if_pos (by omega), show i - 67 = a by omega]
  · rw [if_neg h]
    by_cases h2 : 67 ≤ i ∧ i < 70
    · unfold Nd.c
      rw [if_neg (by omega), if_neg (by omega), if_neg (by omega), if_neg (by omega), if_neg (by omega), if_neg (by omega), if_neg (by omega), if_neg (by omega), if_pos (by omega)]
      rw [if_neg (by omega), if_neg (by omega), if_neg (by omega), if_neg (by omega), if_neg (by omega), if_neg (by omega), if_neg (by omega), if_neg (by omega), if_pos (by omega)]
      show Value.int .i64 (if i - 67 < a + 1 then fuseF n (i - 67) else n.us (i - 67)) = Value.int .i64 (if i - 67 < a then fuseF n (i - 67) else n.us (i - 67))
      by_cases h3 : i - 67 < a
      · rw [if_pos (by omega), if_pos h3]
      · rw [if_neg (by omega), if_neg h3]
    · exact c_us_out (fuTo n a) _ va i (by omega)
theorem he_ax (n : Nd) (va : Value) (a : Nat) (ha : a < 3) : ∀ i, i < 74 → (fuTo n (a + 1)).c va i = if 6 + a * 7 ≤ i ∧ i < 6 + a * 7 + (stL (stepS (n.ax a) n.tu (fuseF n a))).toArray.toList.length then (stL (stepS (n.ax a) n.tu (fuseF n a))).toArray.toList.getD (i - (6 + a * 7)) undef else (fuMid n a).c va i := by
  intro i hi
  have el : (stL (stepS (n.ax a) n.tu (fuseF n a))).toArray.toList.length = 7 := rfl
  rw [el]
  by_cases h : 6 + a * 7 ≤ i ∧ i < 6 + a * 7 + 7
  · rw [if_pos h, c_ax (by omega) (by omega), show (i - 6) / 7 = a by omega, show (i - 6) % 7 = i - (6 + a * 7) by omega]
    show stc (if a < a + 1 then stepS (n.ax a) n.tu (fuseF n a) else n.ax a) _ = (stL (stepS (n.ax a) n.tu (fuseF n a))).getD _ undef
    rw [if_pos (by omega), List.getD, stL_get _ _ (by omega)]
    rfl
  · rw [if_neg h]
    by_cases h2 : 6 ≤ i ∧ i < 27
    · rw [c_ax (by omega) (by omega), c_ax (by omega) (by omega)]
      have ne : (i - 6) / 7 ≠ a := by omega
      show stc (if (i - 6) / 7 < a + 1 then stepS (n.ax ((i - 6) / 7)) n.tu (fuseF n ((i - 6) / 7)) else n.ax ((i - 6) / 7)) _ = stc (if (i - 6) / 7 < a then stepS (n.ax ((i - 6) / 7)) n.tu (fuseF n ((i - 6) / 7)) else n.ax ((i - 6) / 7)) _
      by_cases h3 : (i - 6) / 7 < a
      · rw [if_pos (by omega), if_pos h3]
      · rw [if_neg (by omega), if_neg h3]
    · exact c_ax_out (fuMid n a) _ va i (by omega)
theorem exec_load_mid {P : Program} {o : Oper} {ρ : Operand → Value} {w : World} (ty : TypeId) (x : Operand) (ho : o.op = .load ty x) (g off : Nat) (hx : ρ x = .pointer (some ⟨g, off, none⟩)) (cs : List Value) (d : TypeDesc) (hb : w.rangeAt g off cs)
    (hu : P.underlying ty = some d) (hd : d.isRow = true) (hi : (P.info? ty).map (·.size) = some cs.length) : (execOp ρ o).run P w = .ok (.value (.agg cs.toArray)) w := by
  unfold execOp
  simp only [ho, hx, Instr.loadAt, Instr.sureAddr, Sem.run_bind, Sem.run_pure, Result.andThen_ok, run_loadVar_mid w g off ty cs d hb hu hd hi]
section
variable {P : Program} {w : World} {o : Oper} {a : Act} {K : Act → World → Prop} {Q : Exit → Act → World → Prop}
theorem wp_store_nb (ty : TypeId) (x y : Operand) (ho : o.op = .store ty x y)
    (g off : Nat) (cells : Array Value) (n n' : Nd) (va va' : Value) (hx : a.eval x = .pointer (some ⟨g, off, none⟩)) (hy : a.eval y = .agg cells)
    (hN : NB w g n va) (hoff : off + cells.size ≤ 74) (hi : (P.info? ty).map (·.size) = some cells.size) (h1 : cells.all (·.oneCell') = true)
    (he : ∀ i, i < 74 → n'.c va' i = if off ≤ i ∧ i < off + cells.toList.length then cells.toList.getD (i - off) undef else n.c va i)
    (h : ∀ w', NB w' g n' va' → w.grownBy w' (some g) → K (a.put o.dst undef) w') : o.wp P a w K Q :=
  wp_store_mid ty x y ho g off cells hx hy (hN.thereR hoff) hi h1 (h _ (hN.setR he) (grown_setCells _ _ _ _))
end
theorem stL_one (s : St) : ((stL s).toArray).all (·.oneCell') = true := by simp [stL, Value.oneCell']
def Nd.In (n : Nd) : Prop := In64 n.id ∧ In64 n.fr ∧ n.tu.In ∧ (∀ a, a < 3 → (n.ax a).In) ∧ (∀ k, k < 12 → In64 (n.di k)) ∧ (∀ k, k < 4 → In64 (n.he k)) ∧ (∀ k, k < 12 → In64 (n.ag k)) ∧ (∀ k, k < 3 → In64 (n.us k)) ∧ In64 n.dg ∧ In64 n.vv ∧ (∀ k, k < 4 → In64 (n.ro.miss k)) ∧ (∀ k, k < 4 → In64 (n.ro.join k))
theorem wrap64_in (z : Int) : In64 (wrap64 z) := by unfold In64 wrap64; omega
theorem bits64_in (o : BinOp) (a b : Int) : In64 (bits o .i64 a b) := bits_within o .i64 a b
theorem inTo_in (R : Rl) : ∀ i, In64 (inTo R i)
  | 0 => zero64
  | i + 1 => by unfold inTo; split; exact bits64_in _ _ _; exact inTo_in R i
theorem cTo_in (f : Nat → Int) : ∀ i, In64 (cTo f i)
  | 0 => zero64
  | i + 1 => by unfold cTo; exact wrap64_in _
theorem packA_in {ax : Nat → St} : ∀ k, (∀ a, a < k → (ax a).In) → ∀ z ∈ packA ax k, In64 z
  | 0, _, z, hz => by cases hz
  | k + 1, h, z, hz => by
    unfold packA at hz
    rcases List.mem_append.1 hz with hz | hz
    · exact packA_in k (fun a ha => h a (by omega)) z hz
    · obtain ⟨h1, h2, h3, h4, h5, h6⟩ := h k (by omega)
      unfold stI at hz
      simp only [List.mem_cons, List.not_mem_nil, or_false] at hz
      rcases hz with e | e | e | e | e | e | e
      · rw [e]; exact h1
      · rw [e]; exact h2
      · rw [e]; exact h3
      · rw [e]; exact h4
      · rw [e]; exact h5
      · rw [e]; split <;> exact ⟨by decide, by decide⟩
      · rw [e]; exact h6
theorem packL_in {n : Nd} (h : ∀ a, a < 3 → (n.ax a).In) : ∀ z ∈ packL n, In64 z := by
  intro z hz
  unfold packL at hz
  rcases List.mem_append.1 hz with hz | hz
  · exact packA_in 3 h z hz
  · simp only [List.mem_cons, List.not_mem_nil, or_false] at hz
    rcases hz with e | e | e
    · rw [e]; exact inTo_in _ _
    · rw [e]; exact cTo_in _ _
    · rw [e]; exact cTo_in _ _
theorem fuTo_in {n : Nd} (h : ∀ a, a < 3 → (n.ax a).In) (k : Nat) : ∀ a, a < 3 → ((fuTo n k).ax a).In := by
  intro a ha
  show (if a < k then stepS (n.ax a) n.tu (fuseF n a) else n.ax a).In
  split
  · exact stepS_in _ _ _ (h a ha)
  · exact h a ha
theorem he_dg (n : Nd) (va : Value) (y : Int) : ∀ i, i < 74 → ({ n with dg := y } : Nd).c va i = if i = 70 then .int .i64 y else n.c va i := by
  intro i hi
  by_cases h : i = 70
  · subst h; rfl
  · rw [if_neg h]; exact c_dg_out n y va i (by omega)
theorem he_he1 (n : Nd) (va : Value) (d : Nat) (hd : d < 4) (y : Int) : ∀ i, i < 74 → ({ n with he := upd n.he d y } : Nd).c va i = if i = 51 + d then .int .i64 y else n.c va i := by
  intro i hi
  by_cases h : i = 51 + d
  · rw [if_pos h, c_he (by omega) (by omega)]
    show Value.int .i64 (upd n.he d y (i - 51)) = _
    unfold upd
    rw [if_pos (by omega)]
  · rw [if_neg h]
    by_cases h2 : 51 ≤ i ∧ i < 55
    · rw [c_he (by omega) (by omega), c_he (by omega) (by omega)]
      show Value.int .i64 (upd n.he d y (i - 51)) = _
      unfold upd
      rw [if_neg (by omega)]
    · exact c_he_out n _ va i (by omega)
theorem fuseF_in (n : Nd) (a : Nat) (ha : a < 3) (h : ∀ j, j < 12 → In64 (n.ag j)) : Fx.In (fuseF n a) := by
  unfold fuseF
  split
  · exact zero64
  · rename_i c
    exact Md.mid_guard (lies := []) (good := fuseL n a 4) (by simp only [List.length_nil]; omega) (fuseL_all n a In64 h ha 4 (by decide))
end Go.Proofs.Ytofeoeknmlkjgaa.Nk
end
section
/- node.Judge. -/
set_option linter.unusedVariables false
namespace Go.Proofs.Ytofeoeknmlkjgaa.Nk
open Go.RowKit Go.Proofs.Ytofeoeknmlkjgaa Mb Fi Sm

def judgeH (n : Nd) (Ms : List Pm) : Hd := hearF n.id n.fr 2 4 Ms
def jF (n : Nd) (h : Hd) (d s : Nat) : Int := if s = d then n.he s else Mj.maj [n.he s, toldF h s d s 0, toldF h s d s 1] 0
def jTo (n : Nd) (h : Hd) (d i : Nat) : Nat → Int := fun j => if j < i then jF n h d j else 0
def jV (n : Nd) (h : Hd) (d : Nat) : Vt.Vs := Vt.VL (jF n h d 0) (jF n h d 1) (jF n h d 2) (jF n h d 3) (n.ro.inn 0) (n.ro.inn 1) (n.ro.inn 2) (n.ro.inn 3)
def I4 (f : Nat → Int) : Array Value := AN 4 fun j => .int .i64 (f j)
theorem jTo_put {w : World} {g : Nat} {n : Nd} {h : Hd} {d i : Nat} {z : Int} (hb : Blk w g 36 (I4 (jTo n h d i))) (hz : z = jF n h d i) : Blk (w.setCell ⟨g, i, none⟩ (.int .i64 z)) g 36 (I4 (jTo n h d (i + 1))) := by
  have := hb.set_ i (.int .i64 z)
  unfold I4 at this ⊢
  rw [AN_set] at this
  rw [AN_congr (g := fun j => if j = i then .int .i64 z else .int .i64 (jTo n h d i j))]
  · exact this
  · intro j _
    show Value.int .i64 (jTo n h d (i + 1) j) = _
    unfold jTo
    rcases Nat.lt_trichotomy j i with c | c | c
    · rw [if_pos (by omega), if_neg (by omega), if_pos c]
    · rw [if_pos (by omega), if_pos c, hz, c]
    · rw [if_neg (by omega), if_neg (by omega), if_neg (by omega)]
theorem sl4_one {W : World} {B : Nat} {h : Hd} {sv : Nat → Value} (hs : Sl4 W B h sv) (i : Nat) (hi : i < 4) : (sv i).oneCell' = true := by
  rcases hs i hi with ⟨_, e⟩ | ⟨l, ad, c, _, e, _⟩
  · rw [e]; rfl
  · rw [e]; rfl
theorem jTo_put2 {w : World} {g : Nat} {n : Nd} {h : Hd} {d i : Nat} {z : Int} {u : Value} (hb : Blk w g 36 ((I4 (jTo n h d i)).setIfInBounds i u)) (hz : z = jF n h d i) : Blk (w.setCell ⟨g, i, none⟩ (.int .i64 z)) g 36 (I4 (jTo n h d (i + 1))) := by
  have := hb.set_ i (.int .i64 z)
  unfold I4 at this ⊢
  rw [AN_set, AN_set] at this
  rw [AN_congr (g := fun j => if j = i then .int .i64 z else if j = i then u else .int .i64 (jTo n h d i j))]
  · exact this
  · intro j _
    show Value.int .i64 (jTo n h d (i + 1) j) = _
    unfold jTo
    rcases Nat.lt_trichotomy j i with c | c | c
    · rw [if_pos (by omega), if_neg (by omega), if_neg (by omega), if_pos c]
    · rw [if_pos (by omega), if_pos c, hz, c]
    · rw [if_neg (by omega), if_neg (by omega), if_neg (by omega), if_neg (by omega)]
theorem cell_set_ne {w : World} {b o g i : Nat} {u v : Value} (h : w.cell? ⟨b, o, none⟩ = some v) (hb : b < w.heap.size) (hne : b ≠ g) : (w.setCell ⟨g, i, none⟩ u).cell? ⟨b, o, none⟩ = some v :=
  (World.cell?_of_block (a := ⟨b, o, none⟩) ((grown_set w g i u).block b hb (by intro e; exact hne (Option.some.inj e)))).trans h
theorem jF_in {n : Nd} {h : Hd} (hin : ∀ i, i < 4 → In64 (n.he i)) (hh : ∀ i l, h i = some l → ∀ v ∈ l, In64 v) (d s : Nat) (hs : s < 4) : In64 (jF n h d s) := by
  unfold jF
  split
  · exact hin s hs
  · exact maj3_in (hin s hs) (outO_in zero64 hh 4 0) (outO_in zero64 hh 4 1) zero64
def jA (n : Nd) (h : Hd) (d j : Nat) : Bool := Vt.agree (jV n h d) (jF n h d j)
open Classical in
noncomputable def judgeN (n : Nd) (Ms : List Pm) (d : Nat) : Nd :=
  { n with vv := Vt.val (jV n (judgeH n Ms) d), vs := Vt.strong (jV n (judgeH n Ms) d), ro := if Mb.Good n.ro then (stepAll n.ro (jA n (judgeH n Ms) d) (Vt.strong (jV n (judgeH n Ms) d))).1 else n.ro }
def judgeB (n : Nd) (Ms : List Pm) (d : Nat) : List Value := [.bool (jA n (judgeH n Ms) d 0), .bool (jA n (judgeH n Ms) d 1), .bool (jA n (judgeH n Ms) d 2), .bool (jA n (judgeH n Ms) d 3)]
def JRel (w5 : World) (n : Nd) (h : Hd) (d g7 : Nat) (iv : Value) (wr : World) : Prop :=
  ∃ i : Nat, iv = .int .i64 i ∧ i ≤ 4 ∧ Blk wr g7 36 (I4 (jTo n h d i)) ∧ w5.grownBy wr (some g7)
set_option maxRecDepth 100000 in
set_option maxHeartbeats 8000000 in
theorem Judge_any (n : Nd) (A : Option Addr) (m c : Nat) (bs : List Value) (Am : Option Addr) (mm cm : Nat) (Ms : List Mg) (d : Nat) (hd : n.id = (d : Int)) (hd4 : d < 4) (hin : ∀ i, i < 4 → In64 (n.he i)) (w : World) (hb : VR w 1 A m c bs) (h1 : ∀ u ∈ bs, u.oneCell' = true) (hm : m ≤ 140737488355328) (hM : MR w Am mm cm Ms) (hmm : mm ≤ 17592186044416) :
    Calls Try.prog 20 #[.agg (NA n (.slice A m c)), .slice Am mm cm] w (PhPost (judgeN n (Ms.map Mg.pm) d) (judgeB n (Ms.map Mg.pm) d) 5 n.id n.fr (packL (judgeN n (Ms.map Mg.pm) d)) w) := by
  obtain rfl : m = bs.length := by have := hb.1; omega
  have HVB := Lib.hid hb
  have H1 := Lib.hid h1
  have HMR := Lib.hid hM
  have HD := Lib.hid hd
  have h0 : 0 ≤ n.id := by omega
  have h4 : n.id < 4 := by omega
  have HIN := Lib.hid hin
  clear hb h1 hM hd hin
  --PRE Judge 13 4
  go_enter Try.func20, Try.ntmps20
  go_upto_region 1 with fail
  have hN : NB (((w.alloc (.cells (NA n (.slice A bs.length c)) 45)).alloc (.cells Try.zeroCells45 45)).alloc (.cells #[.int .i64 0, .int .i64 0, .int .i64 0, .slice none 0 0] 64)) w.heap.size n (.slice A bs.length c) := ((Blk.new _ _ _).alloc _).alloc _
  have hZ : Blk (((w.alloc (.cells (NA n (.slice A bs.length c)) 45)).alloc (.cells Try.zeroCells45 45)).alloc (.cells #[.int .i64 0, .int .i64 0, .int .i64 0, .slice none 0 0] 64)) (w.heap.size + 1) 45 Try.zeroCells45 := (Blk.at_ _ _ _ _ (by simp)).alloc _
  have hM : Blk (((w.alloc (.cells (NA n (.slice A bs.length c)) 45)).alloc (.cells Try.zeroCells45 45)).alloc (.cells #[.int .i64 0, .int .i64 0, .int .i64 0, .slice none 0 0] 64)) (w.heap.size + 1 + 1) 64 #[.int .i64 0, .int .i64 0, .int .i64 0, .slice none 0 0] := Blk.at_ _ _ _ _ (by simp)
  have hB : Below w.heap.size w (((w.alloc (.cells (NA n (.slice A bs.length c)) 45)).alloc (.cells Try.zeroCells45 45)).alloc (.cells #[.int .i64 0, .int .i64 0, .int .i64 0, .slice none 0 0] 64)) := (((Below.refl _ _).alloc (Nat.le_refl _) _).alloc (by simp) _).alloc (by simp; omega) _
  have hzs : (Try.zeroCells45).size = 74 := by kernel_rfl
  generalize Try.zeroCells45 = zc at *
  generalize ((w.alloc (.cells (NA n (.slice A bs.length c)) 45)).alloc (.cells zc 45)).alloc (.cells #[.int .i64 0, .int .i64 0, .int .i64 0, .slice none 0 0] 64) = W0 at *
  have hW0 : w.heap.size + 1 + 1 < W0.heap.size := hM.lt
  have HZS := Lib.hid hzs
  have HN := Lib.hid hN
  have HZ := Lib.hid hZ
  have HM := Lib.hid hM
  have HB := Lib.hid hB
  have KC := Lib.hid (copied_any n A bs.length c bs W0 (HVB.out.next hB) H1.out hm)
  unfold CopyPost at KC
  clear hN hZ hM hB hzs
  go_upto_region 4 with (first
    | (refine wpList_load_at 45 (.tmp 2) rfl rfl w.heap.size rfl _ (NA n (.slice A bs.length c)) _ HN.out Try.underlying45 rfl (by rw [NA_size]; exact infoNode) ?_)
    | (go_at_call 35; (with_reducible refine KC.out.mono ?_); rintro e w1 ⟨A', c', rfl, hO1, hB1⟩; have hw1 : W0.heap.size ≤ w1.heap.size := hB1.size; have HN1 := Lib.hid (NB.next HN.out hB1); have HZ1 := Lib.hid (HZ.out.next hB1); have HM1 := Lib.hid (HM.out.next hB1); have HB1 := Lib.hid (HB.out.trans (hB1.mono HB.out.size)); have HO1 := Lib.hid hO1; clear hO1 hB1)
    | (refine wpList_store_at 45 (.tmp 2) (.tmp 14) rfl rfl w.heap.size _ _ (NA n (.slice A' bs.length c')) rfl rfl HN1.out (by rw [NA_size, NA_size]) (by rw [NA_size]; exact infoNode) (NA_one _ _ _ _) ?_; intro w2 hN2 hg2; have HN2 := Lib.hid hN2; have HG2 := Lib.hid hg2; clear hN2 hg2)
    | (refine wpList_load_at 45 (.tmp 2) rfl rfl w.heap.size rfl _ (NA n (.slice A' bs.length c')) _ HN2.out Try.underlying45 rfl (by rw [NA_size]; exact infoNode) ?_)
    | (go_at_call 36; (with_reducible refine (strange_no n (.slice A' bs.length c') w2 h0 h4).mono ?_); rintro e w3 ⟨rfl, hb3⟩; have HN3 := Lib.hid (NB.next HN2.out hb3); have HBs := Lib.hid hb3; clear hb3))
  have HZ3 := Lib.hid ((HZ1.out.grown HG2.out (by intro e; have := Option.some.inj e; omega)).next HBs.out)
  have HM3 := Lib.hid ((HM1.out.grown HG2.out (by intro e; have := Option.some.inj e; omega)).next HBs.out)
  have HO3 := Lib.hid (own_below (own_kept_t HO1.out HG2.out HN1.out (by decide)) HBs.out (fun x hx => ((own_kept_t HO1.out HG2.out HN1.out (by decide)).lt x hx).2))
  have HB3 := Lib.hid ((HB1.out.grown HG2.out HB1.out.size (fun j hj => by cases hj; exact Nat.le_refl _)).trans (HBs.out.mono (by have := HG2.out.size; have := HB1.out.size; omega)))
  have hw3 : W0.heap.size ≤ w3.heap.size := by have := HG2.out.size; have := HBs.out.size; omega
  clear HN HZ HM HB KC HN1 HZ1 HM1 HB1 HO1 HN2 HG2 HBs
  --END
  have HMR3 := Lib.hid (HMR.out.next HB3.out)
  have KH := Lib.hid (hear_any n (.slice A' bs.length c') Am mm cm Ms 2 4 4 rfl (by decide) (by decide) h0 h4 w3 HMR3.out hmm)
  unfold HearPost at KH
  go_upto_region 6 with (first
    | (refine wpList_load_at 45 (.tmp 2) rfl rfl w.heap.size rfl _ (NA n (.slice A' bs.length c')) _ HN3.out Try.underlying45 rfl (by rw [NA_size]; exact infoNode) ?_)
    | (go_at_call 37; (with_reducible refine KH.out.mono ?_); rintro e w4 ⟨sv, rfl, hS4, hb4⟩; have HN4 := Lib.hid (NB.next HN3.out hb4); have HSL := Lib.hid hS4; have HB34 := Lib.hid hb4; clear hS4 hb4)
    | (refine wpList_store_at 94 (.tmp 6) (.tmp 21) rfl rfl w4.heap.size _ #[.slice none 0 0, .slice none 0 0, .slice none 0 0, .slice none 0 0] (AN 4 sv) rfl rfl (Blk.new w4 _ _) (by rw [AN_size]; rfl) (by rw [AN_size]; exact info44) (AN_one (fun i hi => sl4_one HSL.out i hi)) ?_; intro w5 hS5 hg5; have HS5 := Lib.hid hS5; have HG5 := Lib.hid hg5; clear hS5 hg5))
  obtain ⟨va7, hva⟩ : ∃ v, v = Value.slice A' bs.length c' := ⟨_, rfl⟩
  have HVA := Lib.hid hva
  have hs34 := HB34.out.size
  have hs45 := HG5.out.size
  have hg4lt : w4.heap.size < w5.heap.size := Nat.lt_of_lt_of_le (by simp) hs45
  have hb45 : Below w4.heap.size w4 w5 := ((Below.refl _ _).alloc (Nat.le_refl _) _).grown HG5.out (by simp) (fun j hj => by cases hj; exact Nat.le_refl _)
  have hb56 : Below w5.heap.size w5 (w5.alloc (.cells #[.int .i64 0, .int .i64 0, .int .i64 0, .int .i64 0] 36)) := (Below.refl _ _).alloc (Nat.le_refl _) _
  have hb46 := hb45.trans (hb56.mono hb45.size)
  have hb36 := HB34.out.trans (hb46.mono hs34)
  have HN6 := Lib.hid (NB.next HN3.out hb36)
  have HZ6 := Lib.hid (HZ3.out.next hb36)
  have HM6 := Lib.hid (HM3.out.next hb36)
  have HO6 := Lib.hid (own_below HO3.out hb36 (fun x hx => (HO3.out.lt x hx).2))
  have HB6 := Lib.hid (HB3.out.trans (hb36.mono HB3.out.size))
  have HS6 := Lib.hid (HS5.out.next hb56)
  have HT6 := Lib.hid (show Blk (w5.alloc (.cells #[.int .i64 0, .int .i64 0, .int .i64 0, .int .i64 0] 36)) w5.heap.size 36 (I4 (jTo n (hearF n.id n.fr 2 4 (Ms.map Mg.pm)) d 0)) from Blk.new _ _ _)
  have h3sz := HM3.out.lt
  have HB46 := Lib.hid hb46
  have HSL4 := Lib.hid HSL.out
  have hg67 := hg4lt
  clear hb45 hb56 hb46 hb36 HN3 HZ3 HM3 HO3 HB3 HS5 HSL HB34 HG5 KH HMR3 HN4
  generalize hh : hearF n.id n.fr 2 4 (Ms.map Mg.pm) = hX at *
  have HL := Lib.hid (fun i l (e : hX i = some l) => hearF_len (id := n.id) (fr := n.fr) (kind := 2) (many := 4) (Ms.map Mg.pm) (fun _ => none) (fun i l e => by cases e) i l (show hearF n.id n.fr 2 4 (Ms.map Mg.pm) i = some l by rw [hh]; exact e))
  have HH := Lib.hid hh
  have HP := Lib.hid (fun s (hs : s < 4) => (jF_in HIN.out (fun i l (e : hX i = some l) => hearF_in (id := n.id) (fr := n.fr) (kind := 2) (many := 4) (Ms.map Mg.pm) (fun _ => none) (fun x hx v hv => by obtain ⟨y, hy, rfl⟩ := List.mem_map.1 hx; exact (HMR.out.2.2 y hy).2.2.2 v hv) (fun i l e => by cases e) i l (show hearF n.id n.fr 2 4 (Ms.map Mg.pm) i = some l by rw [hh]; exact e)) d s hs : In64 (jF n hX d s)))
  clear hh hva
  rw [← HVA.out] at HN6
  generalize w5.alloc (.cells #[.int .i64 0, .int .i64 0, .int .i64 0, .int .i64 0] 36) = W6 at *
  generalize w5.heap.size = g7 at *
  generalize hg6e : w4.heap.size = g6 at *
  have HG6E := Lib.hid hg6e
  clear hg6e
  go_wp2_with fail
  go_loopw [22] (fun iv wr => JRel W6 n hX d g7 iv wr) (fun iv _ => 4 - (intOf iv).toNat)
  case atStart => exact ⟨0, rfl, by omega, HT6.out, grown_refl _ _⟩
  case round =>
    obtain ⟨i, rfl, hi4, hT, hG⟩ := hrel
    have hN := HN6.out.grown hG (by intro e; have := Option.some.inj e; omega)
    have hS := HS6.out.grown hG (by intro e; have := Option.some.inj e; omega)
    by_cases hi : i < 4
    · have q0 : (i : Int) < 4 := by omega
      have qq : (0 : Int) ≤ (i : Int) := by omega
      have k1 := NB.he hN hi
      have k0 := NB.id hN
      rw [HD.out] at k0
      have k2 : wr.cell? ⟨g7, i, none⟩ = some (.int .i64 (jTo n hX d i i)) := by
        have := hT.cell i
        rw [this]; unfold I4; rw [AN_get hi]
      have k3 := hT.frozen i
      have HN := Lib.hid hN
      have HS := Lib.hid hS
      have HT := Lib.hid hT
      have HG := Lib.hid hG
      clear hN hS hT hG
      by_cases hid : i = d
      · have q1 : ((i : Int) != (d : Int)) = false := by simp; omega
        have hz : n.he i = jF n hX d i := by unfold jF; rw [if_pos hid]
        have HZ := Lib.hid hz
        have HID := Lib.hid hid
        clear hz hid
        generalize n.he i = z at *
        go_wp2_with (first | go_big_skip)
        go_roundw
        case rel => exact ⟨i + 1, by go_num, by omega, jTo_put HT.out HZ.out, grown_trans HG.out (grown_set _ _ _ _)⟩
        case measure => simp [intOf]; omega
      · have q1 : ((i : Int) != (d : Int)) = true := by simp; omega
        have kt := told_any hX sv d i i hd4 hi (fun e => hid e.symm) (fun j l e => by have := HL.out j l e; omega)
        have hz : Mj.maj [n.he i, toldF hX i d i 0, toldF hX i d i 1] 0 = jF n hX d i := by unfold jF; rw [if_neg hid]
        have HZ := Lib.hid hz
        have HX := Lib.hid (grown_trans HG.out (grown_set wr g7 i (.int .i64 (n.he i))))
        have hsl := HSL4.out.next (by rw [HG6E.out]; exact HB46.out.grown HX.out (by have := HB46.out.size; rw [HG6E.out] at this; exact this) (fun j hj => by cases hj; omega))
        have HS8 := Lib.hid (HS6.out.grown HX.out (by intro e; have := Option.some.inj e; omega))
        have HN8 := Lib.hid (HN6.out.grown HX.out (by intro e; have := Option.some.inj e; omega))
        have HT8 := Lib.hid (HT.out.set_ i (.int .i64 (n.he i)))
        have KT := Lib.hid (kt _ _ hsl)
        clear hz hid kt hsl
        generalize hze : n.he i = z at *
        have HZE := Lib.hid hze
        clear hze
        obtain ⟨wq, hwq⟩ : ∃ wq, wq = wr.setCell ⟨g7, i, none⟩ (.int .i64 z) := ⟨_, rfl⟩
        rw [← hwq] at HX HS8 HN8 HT8 KT
        have HWQ := Lib.hid hwq
        go_upto_region 11 with (first | go_big_skip)
        rw [← hwq]
        clear hwq k1 k2 k3
        have k0 := NB.id HN8.out
        rw [HD.out] at k0
        go_upto_region 12 with (first
          | (refine wpList_load_at 94 (.tmp 6) rfl rfl g6 rfl _ (AN 4 sv) _ HS8.out Try.underlying94 rfl (by rw [AN_size]; exact info44) ?_)
          | (go_at_call 39; (with_reducible refine KT.out.mono ?_); rintro e w8 ⟨rfl, hb8⟩; have HB8 := Lib.hid hb8; clear hb8)
          | (refine wpList_store_at 97 (.tmp 9) (.tmp 40) rfl rfl w8.heap.size _ #[.int .i64 0, .int .i64 0] (I2 (toldF hX i d i)) rfl rfl (Blk.new w8 _ _) (by unfold I2; rw [AN_size]; rfl) (by unfold I2; rw [AN_size]; exact info2) (AN_one (fun i hi => rfl)) ?_; intro w9 hT9 hg9; have HT9 := Lib.hid hT9; have HG9 := Lib.hid hg9; clear hT9 hg9))
        try simp only [pts]
        have hb89 : Below w8.heap.size w8 w9 := ((Below.refl _ _).alloc (Nat.le_refl _) _).grown HG9.out (by simp) (fun j hj => by cases hj; exact Nat.le_refl _)
        have hbq9 := HB8.out.trans (hb89.mono HB8.out.size)
        have hN9 := NB.next HN8.out hbq9
        have hT89 := HT8.out.next hbq9
        have t0 : w9.cell? ⟨w8.heap.size, 0, none⟩ = some (.int .i64 (toldF hX i d i 0)) := by have := HT9.out.cell 0; rw [this]; unfold I2; rw [AN_get (by decide)]
        have t1 : w9.cell? ⟨w8.heap.size, 1, none⟩ = some (.int .i64 (toldF hX i d i 1)) := by have := HT9.out.cell 1; rw [this]; unfold I2; rw [AN_get (by decide)]
        have tz := NB.he hN9 hi
        rw [HZE.out] at tz
        have l9 : w8.heap.size < w9.heap.size := HT9.out.lt
        have lg : w.heap.size < w9.heap.size := Blk.lt hN9
        have SK := Lib.hid (fun W (hb : Below w9.heap.size w9 W) => (⟨(hb.cell (p := ⟨w.heap.size, 51 + i, none⟩) lg).trans tz, (hb.cell (p := ⟨w8.heap.size, 0, none⟩) l9).trans t0, (hb.cell (p := ⟨w8.heap.size, 1, none⟩) l9).trans t1⟩ : W.cell? ⟨w.heap.size, 51 + i, none⟩ = some (.int .i64 z) ∧ W.cell? ⟨w8.heap.size, 0, none⟩ = some (.int .i64 (toldF hX i d i 0)) ∧ W.cell? ⟨w8.heap.size, 1, none⟩ = some (.int .i64 (toldF hX i d i 1))))
        have FK := Lib.hid (fun W (hb : Below w9.heap.size w9 W) => (⟨by rw [(hT89.next hb).cell i, Array.getElem?_eq_getElem (by simp [I4, AN_size]; omega)]; exact ⟨_, rfl⟩, (hT89.next hb).frozen i⟩ : (∃ u, W.cell? ⟨g7, i, none⟩ = some u) ∧ W.frozen? ⟨g7, i, none⟩ = false))
        have KD := Lib.hid (fun W => decide_any z (toldF hX i d i 0) (toldF hX i d i 1) W)
        have HT89 := Lib.hid hT89
        have HBQ9 := Lib.hid hbq9
        rw [HZ.out] at KD
        clear hb89 hbq9 hN9 hT89 t0 t1 tz k0
        generalize toldF hX i d i 0 = x0 at *
        generalize toldF hX i d i 1 = x1 at *
        have hg79 : g7 < w8.heap.size := Nat.lt_of_lt_of_le HT8.out.lt HB8.out.size
        generalize w8.heap.size = g9 at *
        go_region_held3 (fun W => W.cell? ⟨w.heap.size, 51 + i, none⟩ = some (.int .i64 z) ∧ W.cell? ⟨g9, 0, none⟩ = some (.int .i64 x0) ∧ W.cell? ⟨g9, 1, none⟩ = some (.int .i64 x1))
          (first | with_reducible exact SK.out _ (Below.refl _ _).drew | with_reducible exact SK.out _ hb10 | with_reducible exact SK11.out _)
          (first
            | (go_at_call 40; (with_reducible refine (KD.out _).mono ?_); rintro e w10 ⟨rfl, hb10'⟩; have hb10 : Below w9.heap.size w9 w10 := ((Below.refl _ _).drew).trans (hb10'.mono (Nat.le_refl _)); have kk := FK.out _ hb10; obtain ⟨⟨u, ku⟩, kf⟩ := kk; have HB10 := Lib.hid hb10; have sk10 := SK.out _ hb10; have SK11 := Lib.hid (fun u => (⟨cell_set_ne sk10.1 (Nat.lt_of_lt_of_le lg hb10.size) (by omega), cell_set_ne sk10.2.1 (Nat.lt_of_lt_of_le l9 hb10.size) (by omega), cell_set_ne sk10.2.2 (Nat.lt_of_lt_of_le l9 hb10.size) (by omega)⟩ : (w10.setCell ⟨g7, i, none⟩ u).cell? ⟨w.heap.size, 51 + i, none⟩ = some (.int .i64 z) ∧ (w10.setCell ⟨g7, i, none⟩ u).cell? ⟨g9, 0, none⟩ = some (.int .i64 x0) ∧ (w10.setCell ⟨g7, i, none⟩ u).cell? ⟨g9, 1, none⟩ = some (.int .i64 x1))); clear hb10' sk10))
        go_wp2_with fail
        go_roundw
        case rel => exact ⟨i + 1, by go_num, by omega, jTo_put2 (HT89.out.next HB10.out) rfl, grown_trans (grown_trans HX.out (grown_below (HBQ9.out.trans (HB10.out.mono HBQ9.out.size)))) (grown_set _ _ _ _)⟩
        case measure => simp [intOf]; omega
    · obtain rfl : i = 4 := by omega
      have hN := HN6.out.grown hG (by intro e; have := Option.some.inj e; omega)
      have hB3' := HB6.out.grown hG HB6.out.size (fun j hj => by cases hj; omega)
      have HZ4 := Lib.hid (HZ6.out.grown hG (by intro e; have := Option.some.inj e; omega))
      have HM4 := Lib.hid (HM6.out.grown hG (by intro e; have := Option.some.inj e; omega))
      have HB4 := Lib.hid hB3'
      have HN4 := Lib.hid hN
      have HT4 := Lib.hid (show Blk wr g7 36 #[.int .i64 (jF n hX d 0), .int .i64 (jF n hX d 1), .int .i64 (jF n hX d 2), .int .i64 (jF n hX d 3)] from hT)
      have b0 := NB.inn hN (i := 0) (by omega)
      have b1 := NB.inn hN (i := 1) (by omega)
      have b2 := NB.inn hN (i := 2) (by omega)
      have b3 := NB.inn hN (i := 3) (by omega)
      have kv := vote_any (jF n hX d 0) (jF n hX d 1) (jF n hX d 2) (jF n hX d 3) (n.ro.inn 0) (n.ro.inn 1) (n.ro.inn 2) (n.ro.inn 3) (has_of (HP.out 0 (by decide))) (has_of (HP.out 1 (by decide))) (has_of (HP.out 2 (by decide))) (has_of (HP.out 3 (by decide))) wr
      have hjv : Vt.VL (jF n hX d 0) (jF n hX d 1) (jF n hX d 2) (jF n hX d 3) (n.ro.inn 0) (n.ro.inn 1) (n.ro.inn 2) (n.ro.inn 3) = jV n hX d := rfl
      rw [hjv] at kv
      have KV := Lib.hid kv
      clear hN hG hB3' hT HN6 HZ6 HM6 HB6 HO6 HT6 HS6 kv hjv HSL4 HB46 HL
      go_upto_region 15 with (first
        | (refine wpList_load_at 36 (.tmp 7) rfl rfl g7 rfl _ #[.int .i64 (jF n hX d 0), .int .i64 (jF n hX d 1), .int .i64 (jF n hX d 2), .int .i64 (jF n hX d 3)] _ HT4.out Try.underlying36 rfl (by kernel_rfl) ?_)
        | (go_at_call 44; (with_reducible refine KV.out.mono ?_); rintro e w11 ⟨v, rfl, hov, hb11⟩; obtain ⟨Av, cv, rfl⟩ := own_shape hov; have HOV := Lib.hid hov; have HB11 := Lib.hid hb11; have HN11 := Lib.hid (NB.next HN4.out hb11); clear hov hb11)
        | (refine wpList_store_nb 43 (.tmp 58) (.tmp 57) rfl rfl w.heap.size 71 #[.int .i64 (Vt.val (jV n hX d)), .bool (Vt.strong (jV n hX d)), .slice Av 4 cv] n { n with vv := Vt.val (jV n hX d), vs := Vt.strong (jV n hX d) } va7 (.slice Av 4 cv) rfl rfl HN11.out (by simp) (by kernel_rfl) (by simp [Value.oneCell']) (he_verd n va7 (.slice Av 4 cv) (Vt.val (jV n hX d)) (Vt.strong (jV n hX d))) ?_; intro w12 hN12 hg12; have HN12 := Lib.hid hN12; have HG12 := Lib.hid hg12; clear hN12 hg12))
      as_aux_lemma =>
      have HX := Lib.hid (show wr.grownBy w12 (some w.heap.size) from grown_trans (grown_below HB11.out) HG12.out)
      have HB12 := Lib.hid (HB4.out.grown HX.out HB4.out.size (fun j hj => by cases hj; exact Nat.le_refl _))
      have HZ12 := Lib.hid (HZ4.out.grown HX.out (by intro e; have := Option.some.inj e; omega))
      have HM12 := Lib.hid (HM4.out.grown HX.out (by intro e; have := Option.some.inj e; omega))
      have HO12 := Lib.hid (own_kept_t HOV.out HG12.out HN11.out (by decide))
      have hs4 := HB4.out.size
      have hm4 := HM4.out.lt
      clear HN4 HN11 HT4 HB4 HZ4 HM4 HX HG12 KV
      obtain ⟨gv, hgv⟩ : ∃ gv, Av = some ⟨gv, 0, none⟩ := by
        rcases HOV.out.2 with ⟨h1, h2⟩ | ⟨g, cap, cur, h1, _⟩
        · omega
        · injection h1 with h1; exact ⟨g, h1⟩
      subst hgv
      have hA4 : ∀ j, j < 4 → w12.cell? ⟨gv, 0 + j, none⟩ = some (.bool (jA n hX d j)) := by
        intro j hj
        have hv := VR.own (c := cv) (n := 4) HO12.out
        obtain ⟨b, off, e, hlt, hc⟩ := hv.2.2 (by omega)
        injection e with e
        injection e with e1 e2 _
        subst e1 e2
        refine hc j _ ?_
        match j, hj with
        | 0, _ => rfl
        | 1, _ => rfl
        | 2, _ => rfl
        | 3, _ => rfl
      have hgvlt : gv < w12.heap.size := (HO12.out.lt gv rfl).2
      have k1 := NB.vv HN12.out
      have k2 := NB.vs HN12.out
      have k3 := NB.agr HN12.out
      generalize hV : jV n hX d = V at *
      generalize hst : Vt.strong V = st at *
      generalize hvl : Vt.val V = vl at *
      have HR12 := Lib.hid (NB.roR HN12.out)
      have HVV := Lib.hid hV
      have HST := Lib.hid hst
      have HVL := Lib.hid hvl
      clear hV hst hvl
      by_cases hG : Mb.Good n.ro
      · have KST := Lib.hid (Step_any n.ro (jA n hX d) vl st gv 0 cv w12 hG hgvlt hA4)
        unfold StepPost at KST
        have HGd := Lib.hid hG
        clear hG hA4
        have kst2 : Hid (Calls Try.prog 45 #[.agg (rollC n.ro).toList.toArray, .agg #[.int .i64 vl, .bool st, .slice (some ⟨gv, 0, none⟩) 4 cv]] w12 fun e w' => ∃ v, e = .returned (.tuple #[.agg (rollC (stepAll n.ro (jA n hX d) st).1), v, .int .i64 0]) ∧ w'.ownsRow w12.heap.size 128 2 v (stepAll n.ro (jA n hX d) st).2.length (chC (stepAll n.ro (jA n hX d) st).2) ∧ Below w12.heap.size w12 w') := KST
        clear KST
        generalize hR : (stepAll n.ro (jA n hX d) st).1 = R' at *
        have HRR := Lib.hid hR
        clear hR
        go_upto_region 18 with (first
          | (refine wpList_load_mid rfl 38 (.tmp 60) rfl w.heap.size 27 rfl (rollC n.ro).toList _ HR12.out Try.underlying38 rfl info12r ?_)
          | (go_at_call 45; (with_reducible refine kst2.out.mono ?_); rintro e w13 ⟨v, rfl, _, hb13⟩; have HB13 := Lib.hid hb13; have HN13 := Lib.hid (NB.next HN12.out hb13); clear hb13)
          | (refine wpList_store_at 38 (.tmp 10) (.tmp 65) rfl rfl w13.heap.size _ _ (rollC R') rfl rfl (Blk.new w13 _ _) (by rfl) (by kernel_rfl) (rollC_one R') ?_; intro w14 hR14 hg14; have HR14 := Lib.hid hR14; have HG14 := Lib.hid hg14; have HN14 := Lib.hid (Blk.grown (Blk.alloc HN13.out _) hg14 (by intro e; have := Option.some.inj e; have := Blk.lt HN13.out; omega)); clear hR14 hg14)
          | (refine wpList_load_at 38 (.tmp 10) rfl rfl w13.heap.size rfl _ (rollC R') _ HR14.out Try.underlying38 rfl (by kernel_rfl) ?_)
          | (refine wpList_store_nb 38 (.tmp 71) (.tmp 70) rfl rfl w.heap.size 27 (rollC R') { n with vv := vl, vs := st } { n with vv := vl, vs := st, ro := R' } _ _ rfl rfl HN14.out (by show 27 + 12 ≤ 74; omega) (by kernel_rfl) (rollC_one R') (he_roll { n with vv := vl, vs := st } (.slice (some ⟨gv, 0, none⟩) 4 cv) R') ?_; intro w15 hN15 hg15; have HN15 := Lib.hid hN15; have HG15 := Lib.hid hg15; clear hN15 hg15))
        have hb14 := HB13.out.trans ((((Below.refl w13.heap.size w13).alloc (Nat.le_refl _) _).grown HG14.out (by simp) (fun j hj => by cases hj; exact Nat.le_refl _)).mono HB13.out.size)
        have HX := Lib.hid (show w12.grownBy w15 (some w.heap.size) from grown_trans (grown_below hb14) HG15.out)
        have hn7 : ({ n with vv := vl, vs := st, ro := R' } : Nd) = judgeN n (Ms.map Mg.pm) d := by unfold judgeN judgeH; rw [HH.out, HVV.out, HVL.out, HST.out, if_pos HGd.out, HRR.out]
        have HJN := Lib.hid hn7
        clear hn7
        have HN7 := HN15
        have HID := Lib.hid (show ({ n with vv := vl, vs := st, ro := R' } : Nd).id = n.id ∧ ({ n with vv := vl, vs := st, ro := R' } : Nd).fr = n.fr from ⟨rfl, rfl⟩)
        obtain ⟨w7, rfl⟩ : ∃ w7 : World, w7 = w15 := ⟨_, rfl⟩
        generalize ({ n with vv := vl, vs := st, ro := R' } : Nd) = n7 at *
        have hjb : judgeB n (Ms.map Mg.pm) d = [.bool (jA n hX d 0), .bool (jA n hX d 1), .bool (jA n hX d 2), .bool (jA n hX d 3)] := by unfold judgeB judgeH; rw [HH.out]
        have HZ7 := Lib.hid (HZ12.out.grown HX.out (by intro e; have := Option.some.inj e; omega))
        have HM7 := Lib.hid (HM12.out.grown HX.out (by intro e; have := Option.some.inj e; omega))
        have HB7 := Lib.hid (HB12.out.grown HX.out HB12.out.size (fun j hj => by cases hj; exact Nat.le_refl _))
        have HO7 := Lib.hid (show w7.ownsRow wr.heap.size 4 1 (.slice (some ⟨gv, 0, none⟩) (judgeB n (Ms.map Mg.pm) d).length cv) (judgeB n (Ms.map Mg.pm) d).length (judgeB n (Ms.map Mg.pm) d) from by rw [hjb]; unfold jA; rw [HVV.out]; exact own_kept_t HO12.out HX.out HN12.out (by decide))
        have HB0 := Lib.hid (show w.heap.size ≤ wr.heap.size from hs4)
        clear hjb
        obtain ⟨va7, hvb⟩ : ∃ v, v = Value.slice (some ⟨gv, 0, none⟩) 4 cv := ⟨_, rfl⟩
        have HVB7 := Lib.hid hvb
        rw [← hvb] at HN7
        clear hvb
        have HV7 : Hid ((NA n7 va7).all (·.oneCell') = true) := by rw [HVB7.out]; exact NA_one _ _ _ _
        have KP := Lib.hid (fun W => pack_any n7 va7 W)
        unfold PackPost at KP
        have KS := Lib.hid (fun A c W => say_any n7 va7 5 A 24 c W)
        rw [HID.out.1, HID.out.2] at KS
        have hm7 := HM7.out.lt
        have hz7 := HB7.out.size
        go_upto_region 18 with fail
        --TAIL n7 || 4 || 72 || 5 || 76 || L;;L;;L;;C:KP.out _@@wp@@⟨Ap, cp, rfl, hop, hbb⟩;;C:KS.out Ap cp _@@w8@@⟨rfl, hbb⟩ || #[.int .i64 5, .int .i64 n.id, .int .i64 n.fr, .slice Ap 24 cp] || w7
        try simp only [pts]
        have SK := Lib.hid (fun W (h : Below w7.heap.size w7 W) => (NB.next HN7.out h : NB W w.heap.size n7 va7))
        unfold NB at SK
        refine wp_region_F 6 (fun w' => Blk w' w.heap.size 45 (NA n7 va7)) (by kernel_rfl) (SK.out _ (Below.refl _ _).drew) (fun hS => ?_)
        refine wpF 0 (.agg (NA n7 va7)) rfl (by kernel_rfl) (fun _ _ _ h => h) (Or.inl ⟨by rfl, fun wx hSw => exec_load_row 45 (.tmp 2) rfl w.heap.size rfl _ (NA n7 va7) _ hSw Try.underlying45 rfl (by rw [NA_size]; exact infoNode)⟩) hS ?_
        try simp only [pts]
        refine wpF 1 (.agg (NA n7 va7)) rfl (by kernel_rfl) (fun _ _ _ h => h) (Or.inl ⟨by rfl, fun wx hSw => exec_load_row 45 (.tmp 2) rfl w.heap.size rfl _ (NA n7 va7) _ hSw Try.underlying45 rfl (by rw [NA_size]; exact infoNode)⟩) hS ?_
        try simp only [pts]
        refine wpF 2 (.agg (NA n7 va7)) rfl (by kernel_rfl) (fun _ _ _ h => h) (Or.inl ⟨by rfl, fun wx hSw => exec_load_row 45 (.tmp 2) rfl w.heap.size rfl _ (NA n7 va7) _ hSw Try.underlying45 rfl (by rw [NA_size]; exact infoNode)⟩) hS ?_
        try simp only [pts]
        refine wpAnyF_one (i := 3) rfl (by kernel_rfl) (fun K hK => ?_)
        go_simp
        (with_reducible refine (KP.out _).mono ?_)
        rintro e wp ⟨Ap, cp, rfl, hop, hbb⟩
        have hb_wp := (((Below.refl w7.heap.size w7).drew)).trans (hbb.mono (Nat.le_refl _))
        have H_prev := Lib.hid hb_wp
        have HBB_wp := Lib.hid hbb
        clear hS
        have hS := SK.out _ hb_wp
        clear hbb hb_wp
        refine hK.out _ _ hS ?_
        clear hK K
        try simp only [pts]
        refine wpAnyF_one (i := 4) rfl (by kernel_rfl) (fun K hK => ?_)
        go_simp
        (with_reducible refine (KS.out Ap cp _).mono ?_)
        rintro e w8 ⟨rfl, hbb⟩
        have hb_w8 := (H_prev.out).trans (hbb.mono (by first | exact (H_prev.out).size | omega))
        have H_prev := Lib.hid hb_w8
        have HBB_w8 := Lib.hid hbb
        clear hS
        have hS := SK.out _ hb_w8
        clear hbb hb_w8
        refine hK.out _ _ hS ?_
        clear hK K
        try simp only [pts]
        refine wpAnyF_one (i := 5) rfl (by kernel_rfl) (fun K hK => ?_)
        rw [if_pos (by rfl)]
        refine wp_store_row 45 (.tmp 4) (.tmp 72) rfl (w.heap.size + 1) _ zc (NA n7 va7) rfl rfl (HZ7.out.next H_prev.out) (by rw [NA_size, HZS.out]) (by rw [NA_size]; exact infoNode) HV7.out (fun w9 hN9 hg9 => ?_)
        have hS9 := hS.grown hg9 (by intro e; have := Option.some.inj e; omega)
        refine hK.out _ _ hS9 ?_
        clear hK K hS
        try simp only [pts]
        refine wpAnyF_last rfl (by kernel_rfl) (by kernel_rfl) (fun K hK => ?_)
        rw [if_pos (by rfl)]
        refine wp_store_row 64 (.tmp 5) (.tmp 76) rfl (w.heap.size + 1 + 1) _ _ #[.int .i64 5, .int .i64 n.id, .int .i64 n.fr, .slice Ap 24 cp] rfl rfl ((HM7.out.next H_prev.out).grown hg9 (by intro e; have := Option.some.inj e; omega)) rfl (by kernel_rfl) (by simp [Value.oneCell']) (fun w10 hM10 hg10 => ?_)
        refine hK.out _ _ ?_
        clear hK K
        try simp only [pts]
        go_wp2_with fail
        have hN10 := hN9.grown hg10 (by intro e; have := Option.some.inj e; omega)
        --END
        refine bodyPost_ret (results_two Try.results20 _ _ (w.heap.size + 1) (w.heap.size + 1 + 1) _ _ _ _ _ _ rfl rfl hN10 hM10 Try.underlying45 rfl (by rw [NA_size]; exact infoNode) Try.underlying64 rfl (by kernel_rfl)) rfl ?_
        have hov := own_ownI hop
        have hsd : w7.drew.heap.size = w7.heap.size := rfl
        have hpl : 24 = (packL n7).length := (packL_len n7).symm
        rw [HVB7.out, ← HJN.out]
        have hov2 := (hov.down (show w.heap.size ≤ _ by rw [hsd]; omega)).next HBB_w8.out
        have hne := fun ad (e : Ap = some ad) => (hov.2.2.2 ad e).2.1
        rw [hpl] at hov2
        have hfin := ph_end (bs := judgeB n (Ms.map Mg.pm) d) (k := 5) (f := n.id) (r := n.fr) (n7 := n7) (vs := packL n7) (by omega) (by omega) (by omega) HZ7.out HM7.out HO7.out HB0.out HB7.out H_prev.out hg9 hg10 hov2 (fun ad e => by have := hne ad e; rw [hsd] at this; omega)
        rw [← hpl] at hfin
        exact hfin
      · have KST := Lib.hid (Step_bad n.ro vl st ⟨gv, 0, none⟩ cv w12 hG)
        have HGd := Lib.hid hG
        clear hG hA4
        have kst2 : Hid (Calls Try.prog 45 #[.agg (rollC n.ro).toList.toArray, .agg #[.int .i64 vl, .bool st, .slice (some ⟨gv, 0, none⟩) 4 cv]] w12 fun e w' => e = .returned (.tuple #[.agg (rollC R0), .slice none 0 0, .int .i64 3]) ∧ Below w12.heap.size w12 w') := KST
        clear KST
        generalize hr0 : R0 = R' at *
        clear hr0
        go_upto_region 18 with (first
          | (refine wpList_load_mid rfl 38 (.tmp 60) rfl w.heap.size 27 rfl (rollC n.ro).toList _ HR12.out Try.underlying38 rfl info12r ?_)
          | (go_at_call 45; (with_reducible refine kst2.out.mono ?_); rintro e w13 ⟨rfl, hb13⟩; have HB13 := Lib.hid hb13; have HN13 := Lib.hid (NB.next HN12.out hb13); clear hb13)
          | (refine wpList_store_at 38 (.tmp 10) (.tmp 65) rfl rfl w13.heap.size _ _ (rollC R') rfl rfl (Blk.new w13 _ _) (by rfl) (by kernel_rfl) (rollC_one R') ?_; intro w14 hR14 hg14; have HG14 := Lib.hid hg14; have HN14 := Lib.hid (Blk.grown (Blk.alloc HN13.out _) hg14 (by intro e; have := Option.some.inj e; have := Blk.lt HN13.out; omega)); clear hR14 hg14))
        have hb14 := HB13.out.trans ((((Below.refl w13.heap.size w13).alloc (Nat.le_refl _) _).grown HG14.out (by simp) (fun j hj => by cases hj; exact Nat.le_refl _)).mono HB13.out.size)
        have HX := Lib.hid (show w12.grownBy w14 (some w.heap.size) from grown_below hb14)
        have hn7 : ({ n with vv := vl, vs := st } : Nd) = judgeN n (Ms.map Mg.pm) d := by unfold judgeN judgeH; rw [HH.out, HVV.out, HVL.out, HST.out, if_neg HGd.out]
        have HJN := Lib.hid hn7
        clear hn7
        have HN7 : Hid (NB w14 w.heap.size { n with vv := vl, vs := st } (.slice (some ⟨gv, 0, none⟩) 4 cv)) := HN14
        have HID := Lib.hid (show ({ n with vv := vl, vs := st } : Nd).id = n.id ∧ ({ n with vv := vl, vs := st } : Nd).fr = n.fr from ⟨rfl, rfl⟩)
        obtain ⟨w7, rfl⟩ : ∃ w7 : World, w7 = w14 := ⟨_, rfl⟩
        generalize ({ n with vv := vl, vs := st } : Nd) = n7 at *
        have hjb : judgeB n (Ms.map Mg.pm) d = [.bool (jA n hX d 0), .bool (jA n hX d 1), .bool (jA n hX d 2), .bool (jA n hX d 3)] := by unfold judgeB judgeH; rw [HH.out]
        have HZ7 := Lib.hid (HZ12.out.grown HX.out (by intro e; have := Option.some.inj e; omega))
        have HM7 := Lib.hid (HM12.out.grown HX.out (by intro e; have := Option.some.inj e; omega))
        have HB7 := Lib.hid (HB12.out.grown HX.out HB12.out.size (fun j hj => by cases hj; exact Nat.le_refl _))
        have HO7 := Lib.hid (show w7.ownsRow wr.heap.size 4 1 (.slice (some ⟨gv, 0, none⟩) (judgeB n (Ms.map Mg.pm) d).length cv) (judgeB n (Ms.map Mg.pm) d).length (judgeB n (Ms.map Mg.pm) d) from by rw [hjb]; unfold jA; rw [HVV.out]; exact own_kept_t HO12.out HX.out HN12.out (by decide))
        have HB0 := Lib.hid (show w.heap.size ≤ wr.heap.size from hs4)
        clear hjb
        obtain ⟨va7, hvb⟩ : ∃ v, v = Value.slice (some ⟨gv, 0, none⟩) 4 cv := ⟨_, rfl⟩
        have HVB7 := Lib.hid hvb
        rw [← hvb] at HN7
        clear hvb
        have HV7 : Hid ((NA n7 va7).all (·.oneCell') = true) := by rw [HVB7.out]; exact NA_one _ _ _ _
        have KP := Lib.hid (fun W => pack_any n7 va7 W)
        unfold PackPost at KP
        have KS := Lib.hid (fun A c W => say_any n7 va7 5 A 24 c W)
        rw [HID.out.1, HID.out.2] at KS
        have hm7 := HM7.out.lt
        have hz7 := HB7.out.size
        go_upto_region 18 with fail
        --TAIL n7 || 4 || 72 || 5 || 76 || L;;L;;L;;C:KP.out _@@wp@@⟨Ap, cp, rfl, hop, hbb⟩;;C:KS.out Ap cp _@@w8@@⟨rfl, hbb⟩ || #[.int .i64 5, .int .i64 n.id, .int .i64 n.fr, .slice Ap 24 cp] || w7
        try simp only [pts]
        have SK := Lib.hid (fun W (h : Below w7.heap.size w7 W) => (NB.next HN7.out h : NB W w.heap.size n7 va7))
        unfold NB at SK
        refine wp_region_F 6 (fun w' => Blk w' w.heap.size 45 (NA n7 va7)) (by kernel_rfl) (SK.out _ (Below.refl _ _).drew) (fun hS => ?_)
        refine wpF 0 (.agg (NA n7 va7)) rfl (by kernel_rfl) (fun _ _ _ h => h) (Or.inl ⟨by rfl, fun wx hSw => exec_load_row 45 (.tmp 2) rfl w.heap.size rfl _ (NA n7 va7) _ hSw Try.underlying45 rfl (by rw [NA_size]; exact infoNode)⟩) hS ?_
        try simp only [pts]
        refine wpF 1 (.agg (NA n7 va7)) rfl (by kernel_rfl) (fun _ _ _ h => h) (Or.inl ⟨by rfl, fun wx hSw => exec_load_row 45 (.tmp 2) rfl w.heap.size rfl _ (NA n7 va7) _ hSw Try.underlying45 rfl (by rw [NA_size]; exact infoNode)⟩) hS ?_
        try simp only [pts]
        refine wpF 2 (.agg (NA n7 va7)) rfl (by kernel_rfl) (fun _ _ _ h => h) (Or.inl ⟨by rfl, fun wx hSw => exec_load_row 45 (.tmp 2) rfl w.heap.size rfl _ (NA n7 va7) _ hSw Try.underlying45 rfl (by rw [NA_size]; exact infoNode)⟩) hS ?_
        try simp only [pts]
        refine wpAnyF_one (i := 3) rfl (by kernel_rfl) (fun K hK => ?_)
        go_simp
        (with_reducible refine (KP.out _).mono ?_)
        rintro e wp ⟨Ap, cp, rfl, hop, hbb⟩
        have hb_wp := (((Below.refl w7.heap.size w7).drew)).trans (hbb.mono (Nat.le_refl _))
        have H_prev := Lib.hid hb_wp
        have HBB_wp := Lib.hid hbb
        clear hS
        have hS := SK.out _ hb_wp
        clear hbb hb_wp
        refine hK.out _ _ hS ?_
        clear hK K
        try simp only [pts]
        refine wpAnyF_one (i := 4) rfl (by kernel_rfl) (fun K hK => ?_)
        go_simp
        (with_reducible refine (KS.out Ap cp _).mono ?_)
        rintro e w8 ⟨rfl, hbb⟩
        have hb_w8 := (H_prev.out).trans (hbb.mono (by first | exact (H_prev.out).size | omega))
        have H_prev := Lib.hid hb_w8
        have HBB_w8 := Lib.hid hbb
        clear hS
        have hS := SK.out _ hb_w8
        clear hbb hb_w8
        refine hK.out _ _ hS ?_
        clear hK K
        try simp only [pts]
        refine wpAnyF_one (i := 5) rfl (by kernel_rfl) (fun K hK => ?_)
        rw [if_pos (by rfl)]
        refine wp_store_row 45 (.tmp 4) (.tmp 72) rfl (w.heap.size + 1) _ zc (NA n7 va7) rfl rfl (HZ7.out.next H_prev.out) (by rw [NA_size, HZS.out]) (by rw [NA_size]; exact infoNode) HV7.out (fun w9 hN9 hg9 => ?_)
        have hS9 := hS.grown hg9 (by intro e; have := Option.some.inj e; omega)
        refine hK.out _ _ hS9 ?_
        clear hK K hS
        try simp only [pts]
        refine wpAnyF_last rfl (by kernel_rfl) (by kernel_rfl) (fun K hK => ?_)
        rw [if_pos (by rfl)]
        refine wp_store_row 64 (.tmp 5) (.tmp 76) rfl (w.heap.size + 1 + 1) _ _ #[.int .i64 5, .int .i64 n.id, .int .i64 n.fr, .slice Ap 24 cp] rfl rfl ((HM7.out.next H_prev.out).grown hg9 (by intro e; have := Option.some.inj e; omega)) rfl (by kernel_rfl) (by simp [Value.oneCell']) (fun w10 hM10 hg10 => ?_)
        refine hK.out _ _ ?_
        clear hK K
        try simp only [pts]
        go_wp2_with fail
        have hN10 := hN9.grown hg10 (by intro e; have := Option.some.inj e; omega)
        --END
        refine bodyPost_ret (results_two Try.results20 _ _ (w.heap.size + 1) (w.heap.size + 1 + 1) _ _ _ _ _ _ rfl rfl hN10 hM10 Try.underlying45 rfl (by rw [NA_size]; exact infoNode) Try.underlying64 rfl (by kernel_rfl)) rfl ?_
        have hov := own_ownI hop
        have hsd : w7.drew.heap.size = w7.heap.size := rfl
        have hpl : 24 = (packL n7).length := (packL_len n7).symm
        rw [HVB7.out, ← HJN.out]
        have hov2 := (hov.down (show w.heap.size ≤ _ by rw [hsd]; omega)).next HBB_w8.out
        have hne := fun ad (e : Ap = some ad) => (hov.2.2.2 ad e).2.1
        rw [hpl] at hov2
        have hfin := ph_end (bs := judgeB n (Ms.map Mg.pm) d) (k := 5) (f := n.id) (r := n.fr) (n7 := n7) (vs := packL n7) (by omega) (by omega) (by omega) HZ7.out HM7.out HO7.out HB0.out HB7.out H_prev.out hg9 hg10 hov2 (fun ad e => by have := hne ad e; rw [hsd] at this; omega)
        rw [← hpl] at hfin
        exact hfin
end Go.Proofs.Ytofeoeknmlkjgaa.Nk
end
section
/- node.Decide: what it computes. -/
set_option linter.unusedVariables false
namespace Go.Proofs.Ytofeoeknmlkjgaa.Nk
open Go.RowKit Go.Proofs.Ytofeoeknmlkjgaa Mb Fi Sm

def decH (n : Nd) (Ms : List Pm) : Hd := hearF n.id n.fr 2 12 Ms
def aF (n : Nd) (h : Hd) (d j : Nat) : Int := if j / 3 = d then n.di j else Mj.maj [n.di j, toldF h j d (j / 3) 0, toldF h j d (j / 3) 1] 0
def agTo (n : Nd) (h : Hd) (d k : Nat) : Nd := { n with ag := fun j => if j < k then aF n h d j else n.ag j }
theorem agTo_zero (n : Nd) (h : Hd) (d : Nat) : agTo n h d 0 = n := by unfold agTo; simp
theorem agTo_put (n : Nd) (h : Hd) (d k : Nat) (hk : k < 12) (z : Int) (hz : z = aF n h d k) (va : Value) (m : Nd) (hm : m = agTo n h d k ∨ ∃ y, m = { agTo n h d k with ag := upd (agTo n h d k).ag k y }) :
    ∀ j, j < 74 → (agTo n h d (k + 1)).c va j = if j = 55 + k then .int .i64 z else m.c va j := by
  intro j hj
  by_cases c : j = 55 + k
  · rw [if_pos c, c_ag (by omega) (by omega)]
    unfold agTo
    simp only
    rw [show j - 55 = k by omega, if_pos (by omega), hz]
  · rw [if_neg c]
    by_cases c2 : 55 ≤ j ∧ j < 67
    · rw [c_ag c2.1 c2.2, c_ag c2.1 c2.2]
      have e : m.ag (j - 55) = (agTo n h d k).ag (j - 55) := by
        rcases hm with rfl | ⟨y, rfl⟩
        · rfl
        · show upd _ k y (j - 55) = _
          unfold upd
          rw [if_neg (by omega)]
      rw [e]
      unfold agTo
      simp only
      rcases Nat.lt_trichotomy (j - 55) k with c3 | c3 | c3
      · rw [if_pos (by omega), if_pos c3]
      · omega
      · rw [if_neg (by omega), if_neg (by omega)]
    · have e : m.c va j = (agTo n h d k).c va j := by
        rcases hm with rfl | ⟨y, rfl⟩
        · rfl
        · exact c_ag_out _ _ va j (by omega)
      rw [e]
      unfold agTo
      exact (c_ag_out n _ va j (by omega)).trans (c_ag_out n _ va j (by omega)).symm
def decideN (n : Nd) (Ms : List Pm) (d : Nat) : Nd :=
  { ({ fuTo (agTo n (decH n Ms) d 12) 3 with dg := dgF (fuTo (agTo n (decH n Ms) d 12) 3) } : Nd) with he := upd ({ fuTo (agTo n (decH n Ms) d 12) 3 with dg := dgF (fuTo (agTo n (decH n Ms) d 12) 3) } : Nd).he d (dgF (fuTo (agTo n (decH n Ms) d 12) 3)) }
end Go.Proofs.Ytofeoeknmlkjgaa.Nk
end
section
/- node.same: some truth value. -/
set_option linter.unusedVariables false
namespace Go.Proofs.Ytofeoeknmlkjgaa.Nk
open Go.RowKit Go.Proofs.Ytofeoeknmlkjgaa Mb Fi Sm

def SomeBool (w : World) (e : Ending) (w' : World) : Prop := (∃ b : Bool, e = .returned (.bool b)) ∧ Below w.heap.size w w'
def NSameRel (n : Nat) (w : World) (i : Value) (wr : World) : Prop := ∃ j : Nat, j ≤ n ∧ i = .int .i64 j ∧ Below w.heap.size w wr

set_option maxRecDepth 100000 in
set_option maxHeartbeats 1000000 in
theorem nsame_any (A B : Option Addr) (n c d : Nat) (xs ys : List Int) (w : World) (h : Ints w .i64 A n xs) (h2 : Ints w .i64 B n ys) (hn : n ≤ 140737488355328) :
    Calls Try.prog 62 #[.slice A n c, .slice B n d] w (SomeBool w) := by
  have H := Lib.hid h
  have H2 := Lib.hid h2
  clear h h2
  go_enter Try.func62, Try.ntmps62
  go_wp2_with fail
  go_loopw [8] (fun i wr => NSameRel n w i wr) (fun i _ => n - (intOf i).toNat)
  case atStart => exact ⟨0, by omega, rfl, Below.refl _ _⟩
  case round =>
    obtain ⟨j, hj, rfl, hb⟩ := hrel
    by_cases hjn : j < n
    · obtain ⟨b, off, rfl, hlt, hc⟩ := H.out.2 (by omega)
      obtain ⟨b2, off2, rfl, hlt2, hc2⟩ := H2.out.2 (by omega)
      have d0 := (hb.cell (p := ⟨b, off + j, none⟩) hlt).trans (hc j hjn)
      have d1 := (hb.cell (p := ⟨b2, off2 + j, none⟩) hlt2).trans (hc2 j hjn)
      clear hc hc2
      generalize xs.getD j 0 = z at *
      generalize ys.getD j 0 = z' at *
      have hz1 : (0 : Int) ≤ (j : Int) := by omega
      have hz2 : (j : Int) < (n : Int) := by omega
      have HB := Lib.hid hb
      clear hb
      cases t2 : (z != z') with
      | false =>
        go_wp2_with fail
        go_quiet (fail)
        go_wp2_with fail
        go_roundw
        case rel => exact ⟨j + 1, by omega, by go_num, HB.out.trans (below_drewN _ _ _)⟩
        case measure => simp [intOf]; omega
      | true =>
        go_wp2_with fail
        go_quiet (fail)
        go_wp2_with fail
        go_ret
        exact ⟨⟨false, rfl⟩, HB.out.trans (below_drewN _ _ _)⟩
    · obtain rfl : j = n := by omega
      go_wp2_with fail
      go_ret
      exact ⟨⟨true, rfl⟩, hb⟩
end Go.Proofs.Ytofeoeknmlkjgaa.Nk
end
