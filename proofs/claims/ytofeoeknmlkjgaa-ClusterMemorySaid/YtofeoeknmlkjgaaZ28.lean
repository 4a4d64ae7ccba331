/- Merged: Node0 NodePlain. -/
import Derived.Deep.AppendLies
import Derived.Deep.DeepCutAuto
import Derived.Deep.QuietTactic
import Derived.Lib.SliceRun
import Derived.Test.YtofeoeknmlkjgaaZ01
import Derived.Test.YtofeoeknmlkjgaaZ04
import Derived.Test.YtofeoeknmlkjgaaZ08
import Derived.Test.YtofeoeknmlkjgaaZ10
import Derived.Test.YtofeoeknmlkjgaaZ26
set_option linter.unusedVariables false
set_option linter.unusedSimpArgs false
section
/- A node as data; its cells. -/
set_option linter.unusedVariables false
namespace Go.Proofs.Ytofeoeknmlkjgaa.Nk
open Go.RowKit Go.Proofs.Ytofeoeknmlkjgaa Mb Fi Sm

structure Nd where
  id : Int
  fr : Int
  tu : Tu
  ax : Nat → St
  ro : Rl
  di : Nat → Int
  he : Nat → Int
  ag : Nat → Int
  us : Nat → Int
  dg : Int
  vv : Int
  vs : Bool
def tuc (t : Tu) : Nat → Value
  | 0 => .int .i64 t.dt
  | 1 => .int .i64 t.q
  | 2 => .int .i64 t.r
  | _ => .int .i64 t.g
def stc (s : St) : Nat → Value
  | 0 => .int .i64 s.x
  | 1 => .int .i64 s.v
  | 2 => .int .i64 s.p
  | 3 => .int .i64 s.q
  | 4 => .int .i64 s.r
  | 5 => .bool s.b
  | _ => .int .i64 s.m
def Nd.c (n : Nd) (va : Value) (k : Nat) : Value :=
  if k < 1 then .int .i64 n.id else if k < 2 then .int .i64 n.fr else if k < 6 then tuc n.tu (k - 2) else if k < 27 then stc (n.ax ((k - 6) / 7)) ((k - 6) % 7)
  else if k < 39 then rcell n.ro (k - 27) else if k < 51 then .int .i64 (n.di (k - 39)) else if k < 55 then .int .i64 (n.he (k - 51)) else if k < 67 then .int .i64 (n.ag (k - 55))
  else if k < 70 then .int .i64 (n.us (k - 67)) else if k < 71 then .int .i64 n.dg else if k < 72 then .int .i64 n.vv else if k < 73 then .bool n.vs else va
def NA (n : Nd) (va : Value) : Array Value := AN 74 (n.c va)
theorem NA_size (n : Nd) (va : Value) : (NA n va).size = 74 := AN_size _ _
section
variable {n : Nd} {va : Value} {k : Nat}
theorem c_ax (h : 6 ≤ k) (h2 : k < 27) : n.c va k = stc (n.ax ((k - 6) / 7)) ((k - 6) % 7) := by
  unfold Nd.c; rw [if_neg (by omega), if_neg (by omega), if_neg (by omega), if_pos h2]
theorem c_tu (h : 2 ≤ k) (h2 : k < 6) : n.c va k = tuc n.tu (k - 2) := by
  unfold Nd.c; rw [if_neg (by omega), if_neg (by omega), if_pos h2]
theorem c_ro (h : 27 ≤ k) (h2 : k < 39) : n.c va k = rcell n.ro (k - 27) := by
  unfold Nd.c; rw [if_neg (by omega), if_neg (by omega), if_neg (by omega), if_neg (by omega), if_pos h2]
theorem c_di (h : 39 ≤ k) (h2 : k < 51) : n.c va k = .int .i64 (n.di (k - 39)) := by
  unfold Nd.c; rw [if_neg (by omega), if_neg (by omega), if_neg (by omega), if_neg (by omega), if_neg (by omega), if_pos h2]
theorem c_he (h : 51 ≤ k) (h2 : k < 55) : n.c va k = .int .i64 (n.he (k - 51)) := by
  unfold Nd.c; rw [if_neg (by omega), if_neg (by omega), if_neg (by omega), if_neg (by omega), if_neg (by omega), if_neg (by omega), if_pos h2]
theorem c_ag (h : 55 ≤ k) (h2 : k < 67) : n.c va k = .int .i64 (n.ag (k - 55)) := by
  unfold Nd.c; rw [if_neg (by omega), if_neg (by omega), if_neg (by omega), if_neg (by omega), if_neg (by omega), if_neg (by omega), if_neg (by omega), if_pos h2]
theorem c_us (h : 67 ≤ k) (h2 : k < 70) : n.c va k = .int .i64 (n.us (k - 67)) := by
  unfold Nd.c; rw [if_neg (by omega), if_neg (by omega), if_neg (by omega), if_neg (by omega), if_neg (by omega), if_neg (by omega), if_neg (by omega), if_neg (by omega), if_pos h2]
theorem stc_one (s : St) (k : Nat) : (stc s k).oneCell' = true := by
  unfold stc; split <;> rfl
theorem tuc_one (s : Tu) (k : Nat) : (tuc s k).oneCell' = true := by
  unfold tuc; split <;> rfl
theorem rcell_one (R : Rl) (k : Nat) : (rcell R k).oneCell' = true := by
  unfold rcell; split
  · rfl
  · split <;> rfl
theorem ite_one {p : Prop} [Decidable p] {a b : Value} (ha : a.oneCell' = true) (hb : b.oneCell' = true) : (if p then a else b).oneCell' = true := by
  split
  · exact ha
  · exact hb
theorem c_one (hv : va.oneCell' = true) : (n.c va k).oneCell' = true := by
  unfold Nd.c
  refine ite_one rfl (ite_one rfl (ite_one (tuc_one _ _) (ite_one (stc_one _ _) (ite_one (rcell_one _ _) (ite_one rfl (ite_one rfl (ite_one rfl (ite_one rfl (ite_one rfl (ite_one rfl (ite_one rfl hv)))))))))))
end
theorem AN_one {m : Nat} {f : Nat → Value} (h : ∀ i, i < m → (f i).oneCell' = true) : (AN m f).all (·.oneCell') = true := by
  rw [Array.all_eq_true_iff_forall_mem]
  intro x hx
  simp only [AN, List.mem_toArray, List.mem_map, List.mem_range] at hx
  obtain ⟨i, hi, rfl⟩ := hx
  exact h i hi
theorem NA_one (n : Nd) (A : Option Addr) (m c : Nat) : (NA n (.slice A m c)).all (·.oneCell') = true := AN_one fun i _ => c_one rfl

def NB (W : World) (g : Nat) (n : Nd) (va : Value) : Prop := Blk W g 45 (NA n va)
section
variable {W W' : World} {g : Nat} {n : Nd} {va : Value}
theorem NB.at_ (h : NB W g n va) {k : Nat} (hk : k < 74) : W.cell? ⟨g, k, none⟩ = some (n.c va k) := by
  have := Blk.cell h k
  rw [this]; unfold NA; rw [AN_get hk]
theorem NB.next (h : NB W g n va) (hb : Below W.heap.size W W') : NB W' g n va := Blk.next h hb
theorem NB.id (h : NB W g n va) : W.cell? ⟨g, 0, none⟩ = some (.int .i64 n.id) := h.at_ (by omega)
theorem NB.fr (h : NB W g n va) : W.cell? ⟨g, 1, none⟩ = some (.int .i64 n.fr) := h.at_ (by omega)
theorem NB.dg (h : NB W g n va) : W.cell? ⟨g, 70, none⟩ = some (.int .i64 n.dg) := h.at_ (by omega)
theorem NB.vv (h : NB W g n va) : W.cell? ⟨g, 71, none⟩ = some (.int .i64 n.vv) := h.at_ (by omega)
theorem NB.vs (h : NB W g n va) : W.cell? ⟨g, 72, none⟩ = some (.bool n.vs) := h.at_ (by omega)
theorem NB.agr (h : NB W g n va) : W.cell? ⟨g, 73, none⟩ = some va := h.at_ (by omega)
theorem NB.di (h : NB W g n va) {i j : Nat} (hi : i < 4) (hj : j < 3) : W.cell? ⟨g, 39 + i * 3 + j, none⟩ = some (.int .i64 (n.di (i * 3 + j))) := by
  rw [h.at_ (by omega), c_di (by omega) (by omega), show 39 + i * 3 + j - 39 = i * 3 + j by omega]
theorem NB.ag (h : NB W g n va) {i j : Nat} (hi : i < 4) (hj : j < 3) : W.cell? ⟨g, 55 + i * 3 + j, none⟩ = some (.int .i64 (n.ag (i * 3 + j))) := by
  rw [h.at_ (by omega), c_ag (by omega) (by omega), show 55 + i * 3 + j - 55 = i * 3 + j by omega]
theorem NB.he (h : NB W g n va) {i : Nat} (hi : i < 4) : W.cell? ⟨g, 51 + i, none⟩ = some (.int .i64 (n.he i)) := by
  rw [h.at_ (by omega), c_he (by omega) (by omega), show 51 + i - 51 = i by omega]
theorem NB.us (h : NB W g n va) {i : Nat} (hi : i < 3) : W.cell? ⟨g, 67 + i, none⟩ = some (.int .i64 (n.us i)) := by
  rw [h.at_ (by omega), c_us (by omega) (by omega), show 67 + i - 67 = i by omega]
theorem NB.inn (h : NB W g n va) {i : Nat} (hi : i < 4) : W.cell? ⟨g, 27 + i, none⟩ = some (.bool (n.ro.inn i)) := by
  rw [h.at_ (by omega), c_ro (by omega) (by omega), show 27 + i - 27 = i by omega]; unfold rcell; rw [if_pos hi]
theorem NB.miss (h : NB W g n va) {i : Nat} (hi : i < 4) : W.cell? ⟨g, 31 + i, none⟩ = some (.int .i64 (n.ro.miss i)) := by
  rw [h.at_ (by omega), c_ro (by omega) (by omega)]; unfold rcell; rw [if_neg (by omega), if_pos (by omega), show 31 + i - 27 - 4 = i by omega]
theorem NB.join (h : NB W g n va) {i : Nat} (hi : i < 4) : W.cell? ⟨g, 35 + i, none⟩ = some (.int .i64 (n.ro.join i)) := by
  rw [h.at_ (by omega), c_ro (by omega) (by omega)]; unfold rcell; rw [if_neg (by omega), if_neg (by omega), show 35 + i - 27 - 8 = i by omega]
theorem NB.ax (h : NB W g n va) {a k : Nat} (ha : a < 3) (hk : k < 7) : W.cell? ⟨g, 6 + a * 7 + k, none⟩ = some (stc (n.ax a) k) := by
  rw [h.at_ (by omega), c_ax (by omega) (by omega), show (6 + a * 7 + k - 6) / 7 = a by omega, show (6 + a * 7 + k - 6) % 7 = k by omega]
theorem NB.set {k : Nat} {u : Value} {n' : Nd} {va' : Value} (h : NB W g n va) (he : ∀ i, i < 74 → n'.c va' i = if i = k then u else n.c va i) : NB (W.setCell ⟨g, k, none⟩ u) g n' va' := by
  have := Blk.set_ h k u
  unfold NA at this
  rw [AN_set] at this
  unfold NB NA
  rw [AN_congr he]
  exact this
end
end Go.Proofs.Ytofeoeknmlkjgaa.Nk
end
section
/- What the phases of a node compute: plain. -/
set_option linter.unusedVariables false
namespace Go.Proofs.Ytofeoeknmlkjgaa.Nk
open Go.Proofs.Ytofeoeknmlkjgaa Mb Fi

structure Pm where
  k : Int
  f : Int
  r : Int
  vs : List Int
abbrev Hd := Nat → Option (List Int)
def fitsM (id fr kind : Int) (many : Nat) (h : Hd) (x : Pm) : Bool :=
  decide (x.k = kind) && decide (x.r = fr) && decide (x.vs.length = many) && decide (0 ≤ x.f) && decide (x.f < 4) && decide (x.f ≠ id) && (h x.f.toNat).isNone
def hear1 (id fr kind : Int) (many : Nat) (h : Hd) (x : Pm) : Hd := if fitsM id fr kind many h x = true then upd h x.f.toNat (some x.vs) else h
def hearF (id fr kind : Int) (many : Nat) (L : List Pm) : Hd := L.foldl (hear1 id fr kind many) (fun _ => none)
def rowOf : Option (List Int) → List Value
  | none => []
  | some l => l.map (Value.int .i64)
theorem hearF_snoc (id fr kind : Int) (many : Nat) (L : List Pm) (x : Pm) : hearF id fr kind many (L ++ [x]) = hear1 id fr kind many (hearF id fr kind many L) x := by
  unfold hearF; rw [List.foldl_append]; rfl
theorem hearF_len {id fr kind : Int} {many : Nat} : ∀ (L : List Pm) (h : Hd), (∀ i l, h i = some l → l.length = many) → ∀ i l, L.foldl (hear1 id fr kind many) h i = some l → l.length = many
  | [], h, hh, i, l, e => hh i l e
  | x :: L, h, hh, i, l, e => by
    refine hearF_len L _ (fun i l e => ?_) i l e
    unfold hear1 at e
    split at e
    · rename_i hf
      unfold upd at e
      split at e
      · injection e with e
        subst e
        simp only [fitsM, Bool.and_eq_true, decide_eq_true_eq] at hf
        omega
      · exact hh i l e
    · exact hh i l e
def cntO (d b : Nat) : Nat → Nat
  | 0 => 0
  | i + 1 => cntO d b i + if i ≠ d ∧ i ≠ b then 1 else 0
theorem cntO_lt' : ∀ d : Fin 4, ∀ b : Fin 4, ∀ i : Fin 4, (d ≠ b ∧ i ≠ d ∧ i ≠ b) → cntO d.1 b.1 i.1 < 2 := by decide
theorem cntO_lt (d : Nat) (hd : d < 4) (b : Nat) (hb : b < 4) (h : d ≠ b) (i : Nat) (hi : i < 4) (h1 : i ≠ d) (h2 : i ≠ b) : cntO d b i < 2 :=
  cntO_lt' ⟨d, hd⟩ ⟨b, hb⟩ ⟨i, hi⟩ ⟨fun e => h (congrArg Fin.val e), fun e => h1 (congrArg Fin.val e), fun e => h2 (congrArg Fin.val e)⟩
theorem cntO_le : ∀ d b i, cntO d b i ≤ i
  | d, b, 0 => Nat.le_refl _
  | d, b, i + 1 => by have := cntO_le d b i; unfold cntO; split <;> omega
def outO (h : Hd) (k d b : Nat) : Nat → Nat → Int
  | 0 => fun _ => 0
  | i + 1 => if i ≠ d ∧ i ≠ b then (match h i with | some l => upd (outO h k d b i) (cntO d b i) (l.getD k 0) | none => outO h k d b i) else outO h k d b i
def toldF (h : Hd) (k d b : Nat) : Nat → Int := outO h k d b 4
def fuseL (n : Nd) (a : Nat) : Nat → List Int
  | 0 => []
  | i + 1 => if n.ro.inn i = true then fuseL n a i ++ [n.ag (i * 3 + a)] else fuseL n a i
theorem fuseL_len (n : Nd) (a : Nat) : ∀ i, (fuseL n a i).length ≤ i
  | 0 => Nat.le_refl _
  | i + 1 => by
    have := fuseL_len n a i
    unfold fuseL
    split
    · simp; omega
    · omega
theorem fuseL_all (n : Nd) (a : Nat) (P : Int → Prop) (h : ∀ j, j < 12 → P (n.ag j)) (ha : a < 3) : ∀ i, i ≤ 4 → ∀ z ∈ fuseL n a i, P z
  | 0, _ => fun z hz => by cases hz
  | i + 1, hi => fun z hz => by
    unfold fuseL at hz
    split at hz
    · rcases List.mem_append.1 hz with hz | hz
      · exact fuseL_all n a P h ha i (by omega) z hz
      · rw [List.mem_singleton] at hz
        subst hz
        exact h _ (by omega)
    · exact fuseL_all n a P h ha i (by omega) z hz
def fuseF (n : Nd) (a : Nat) : Int := if (fuseL n a 4).length = 0 then 0 else Md.midZ (fuseL n a 4)
def stI (s : St) : List Int := [s.x, s.v, s.p, s.q, s.r, (if s.b = true then 1 else 0), s.m]
def packA (ax : Nat → St) : Nat → List Int
  | 0 => []
  | i + 1 => packA ax i ++ stI (ax i)
theorem packA_len (ax : Nat → St) : ∀ i, (packA ax i).length = 7 * i
  | 0 => rfl
  | i + 1 => by rw [packA, List.length_append, packA_len ax i]; simp [stI]; omega
end Go.Proofs.Ytofeoeknmlkjgaa.Nk
end
