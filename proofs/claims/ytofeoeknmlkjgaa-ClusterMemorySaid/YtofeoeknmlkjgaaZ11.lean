/- Merged: Append. -/
import Derived.Laws.AppendOwnNone
import Derived.Test.YtofeoeknmlkjgaaZ02
set_option linter.unusedVariables false
set_option linter.unusedSimpArgs false
section
/- Laws on append and on cuts, for sources that may be nil or empty. Over any program. -/
set_option linter.unusedVariables false
namespace Go.Proofs.Ytofeoeknmlkjgaa
open Go.RowKit

theorem run_append_src {P : Program} (w : World) (base : Nat) (t ty e : TypeId) (i : TypeInfo) (z : Value) (size bytes : Nat) (ht : P.underlying t = some (.slice e)) (hi : P.info? e = some i) (hz : i.zero = some z)
    (hsize : i.size = size) (hby : i.bytes = bytes) (hzs : z.cells.size = size) (hsz : 0 < size)
    (v : Value) (n : Nat) (xs : List Value) (hown : w.ownsRow base e size v n xs)
    (A : Option Addr) (m c : Nat) (hA : A = none → m = 0 ∧ c = 0) (news : List Value) (hl : news.length = m * size) (hnews : ∀ ad, A = some ad → ∀ j u, news[j]? = some u → w.cell? (ad.add j) = some u) (h1 : ∀ u ∈ news, u.oneCell' = true)
    (h63 : n + m ≤ maxLen) (hbytes : (n + m) * bytes ≤ 140737488355328) (hbase : base ≤ w.heap.size) :
    ∃ v' w', (Builtin.append_ #[t, t] ty #[v, .slice A m c]).run P w = .ok v' w' ∧ w'.ownsRow base e size v' (n + m) (xs ++ news) ∧ w.grownBy w' v.ownBlock := by
  cases A with
  | none =>
    obtain ⟨rfl, rfl⟩ := hA rfl
    have hn : news = [] := List.eq_nil_of_length_eq_zero (by simpa using hl)
    subst hn
    refine ⟨v, w, run_append_owned_none (P := P) (w := w) base t ty e i size ht hi v n xs hown, by simpa using hown, ⟨rfl, rfl, rfl, Nat.le_refl _, fun _ _ _ => rfl⟩⟩
  | some ad =>
    obtain ⟨v', w', hr, h2, h3, _⟩ := run_append_own (P := P) w base t ty e i z size bytes ht hi hz hsize hby hzs hsz v n xs hown ad m c news hl (hnews ad rfl) h1 h63 hbytes hbase
    exact ⟨v', w', hr, h2, h3⟩

section
variable {P : Program} {w : World} {ops : Array Oper} {rest : List Oper} {o : Oper} {a : Act} {Q : Exit → Act → World → Prop}

theorem ints_news {w : World} {k : IntKind} {A : Option Addr} {m : Nat} {zs : List Int} (h : Ints w k A m zs) : ∀ ad, A = some ad → ∀ j u, (zs.map (Value.int k))[j]? = some u → w.cell? (ad.add j) = some u := by
  intro ad hA j u hu
  have hj : j < m := by
    have := (List.getElem?_eq_some_iff.1 hu).1
    rw [List.length_map, h.1] at this; exact this
  obtain ⟨b, off, e, hlt, hc⟩ := h.2 (by omega)
  rw [e] at hA
  cases hA
  rw [show (⟨b, off, none⟩ : Addr).add j = ⟨b, off + j, none⟩ by unfold Addr.add; split <;> simp_all, hc j hj, ← hu]
  have hl := h.1
  simp [List.getD, List.getElem?_eq_getElem (show j < zs.length by omega)]

theorem wpList_append_ints (hgd : Region.wanted o (yielded ops a.tmps) = true) (s x : Operand) (t : TypeId)
    (ho : o.op = .call { callee := .builtin .append, args := #[s, x], argTypes := #[t, t] })
    (base : Nat) (e : TypeId) (i : TypeInfo) (z : Value) (k : IntKind) (bytes : Nat) (ht : P.underlying t = some (.slice e)) (hi : P.info? e = some i) (hz : i.zero = some z)
    (hsize : i.size = 1) (hby : i.bytes = bytes) (hzs : z.cells.size = 1)
    (v : Value) (n : Nat) (xs : List Value) (hs : a.eval s = v) (hown : w.ownsRow base e 1 v n xs)
    (A : Option Addr) (m c : Nat) (zs : List Int) (hx : a.eval x = .slice A m c) (hA : A = none → m = 0 ∧ c = 0) (hsrc : Ints w k A m zs)
    (h63 : n + m ≤ maxLen) (hbytes : (n + m) * bytes ≤ 140737488355328) (hbase : base ≤ w.heap.size)
    (h : ∀ v' w', w'.ownsRow base e 1 v' (n + m) (xs ++ zs.map (Value.int k)) → w.grownBy w' v.ownBlock → wpList P ops Q rest (a.put o.dst v') w') : wpList P ops Q (o :: rest) a w := by
  refine wpList_step fun K hK => ?_
  rw [if_pos hgd]
  obtain ⟨v', w', hr, h2, h3⟩ := run_append_src (P := P) w base t o.type e i z 1 bytes ht hi hz hsize hby hzs (by decide) v n xs hown A m c hA (zs.map (Value.int k)) (by rw [List.length_map, hsrc.1, Nat.mul_one]) (ints_news hsrc)
    (by intro u hu; obtain ⟨q, _, rfl⟩ := List.mem_map.1 hu; rfl) h63 hbytes hbase
  unfold Oper.wp execOp
  simp only [ho, resolve, invoke, builtin, Sem.run_bind, Sem.run_pure, Result.andThen_ok, List.map_toArray, List.map_cons, List.map_nil, hs, hx, hr]
  exact hK _ _ (h v' w' h2 h3)

theorem step_append_ints {K : Act → World → Prop} {E : Prop} (hgd : o.guard = none) (s x : Operand) (t : TypeId)
    (ho : o.op = .call { callee := .builtin .append, args := #[s, x], argTypes := #[t, t] })
    (base : Nat) (e : TypeId) (i : TypeInfo) (z : Value) (k : IntKind) (bytes : Nat) (ht : P.underlying t = some (.slice e)) (hi : P.info? e = some i) (hz : i.zero = some z)
    (hsize : i.size = 1) (hby : i.bytes = bytes) (hzs : z.cells.size = 1)
    (v : Value) (n : Nat) (xs : List Value) (hs : a.eval s = v) (hown : w.ownsRow base e 1 v n xs)
    (A : Option Addr) (m c : Nat) (zs : List Int) (hx : a.eval x = .slice A m c) (hA : A = none → m = 0 ∧ c = 0) (hsrc : Ints w k A m zs)
    (h63 : n + m ≤ maxLen) (hbytes : (n + m) * bytes ≤ 140737488355328) (hbase : base ≤ w.heap.size)
    (h : ∀ v' w', w'.ownsRow base e 1 v' (n + m) (xs ++ zs.map (Value.int k)) → w.grownBy w' v.ownBlock → K (a.put o.dst v') w') :
    if Region.wanted o (yielded ops a.tmps) = true then Oper.wp P o a w K Q else E := by
  have hw : Region.wanted o (yielded ops a.tmps) = true := by simp [Region.wanted, hgd]
  rw [if_pos hw]
  obtain ⟨v', w', hr, h2, h3⟩ := run_append_src (P := P) w base t o.type e i z 1 bytes ht hi hz hsize hby hzs (by decide) v n xs hown A m c hA (zs.map (Value.int k)) (by rw [List.length_map, hsrc.1, Nat.mul_one]) (ints_news hsrc)
    (by intro u hu; obtain ⟨q, _, rfl⟩ := List.mem_map.1 hu; rfl) h63 hbytes hbase
  unfold Oper.wp execOp
  simp only [ho, resolve, invoke, builtin, Sem.run_bind, Sem.run_pure, Result.andThen_ok, List.map_toArray, List.map_cons, List.map_nil, hs, hx, hr]
  exact h v' w' h2 h3
end

theorem cut_from {P : Program} {w : World} {q kd : IntKind} {t e : TypeId} {i : TypeInfo} {A : Option Addr} {n c k : Nat} {zs : List Int} (ht : P.underlying t = some (.slice e)) (hi : P.info? e = some i) (h1 : i.size = 1)
    (h : Ints w q A n zs) (hA : A = none → n = 0 ∧ c = 0) (hk : k ≤ n) (hc : n ≤ c) :
    ∃ A', (∀ W : World, (Instr.slice t (.slice A n c) (some (.int kd (k : Int))) none none).run P W = .ok (.slice A' (n - k) (c - k)) W) ∧ (A' = none → n - k = 0 ∧ c - k = 0) ∧ Ints w q A' (n - k) (zs.drop k) := by
  refine ⟨if c = k then A else A.map (·.add (k * 1)), fun W => ?_, ?_, by simp [h.1], fun hn => ?_⟩
  · have e1 : (Instr.sliceBound (.int kd (k : Int)) n .sliceB).run P W = .ok k W := by
      simp [Instr.sliceBound, asIntOf, hk, go_sem]
    simp [Instr.slice, Instr.sliceBounds, run_underlying ht, sizeOf, typeInfo, hi, h1, e1]
  · intro e
    cases A with
    | none => have := hA rfl; omega
    | some ad => split at e <;> simp at e
  · obtain ⟨b, off, rfl, hlt, hcell⟩ := h.2 (by omega)
    rw [if_neg (by omega)]
    refine ⟨b, off + k, by simp [Addr.add], hlt, fun j hj => ?_⟩
    rw [Nat.add_assoc, hcell (k + j) (by omega)]
    simp [List.getD, List.getElem?_drop]
theorem cut_to {P : Program} {w : World} {q kd : IntKind} {t e : TypeId} {i : TypeInfo} {A : Option Addr} {n c k : Nat} {zs : List Int} (ht : P.underlying t = some (.slice e)) (hi : P.info? e = some i)
    (h : Ints w q A n zs) (hk : k ≤ n) (hc : n ≤ c) :
    (∀ W : World, (Instr.slice t (.slice A n c) none (some (.int kd (k : Int))) none).run P W = .ok (.slice A k c) W) ∧ Ints w q A k (zs.take k) := by
  refine ⟨fun W => ?_, by rw [List.length_take, h.1]; omega, fun hn => ?_⟩
  · have e1 : (Instr.sliceBound (.int kd (k : Int)) c .sliceAcap).run P W = .ok k W := by
      have : (k : Int) ≤ c := by omega
      simp [Instr.sliceBound, asIntOf, this, go_sem]
    have e2 : (if c = 0 then A else A.map (·.add (0 * i.size))) = A := by
      cases A <;> simp [Addr.add]
    simp [Instr.slice, Instr.sliceBounds, run_underlying ht, sizeOf, typeInfo, hi, e1]
    intro _
    cases A <;> simp [Addr.add]
  · obtain ⟨b, off, rfl, hlt, hcell⟩ := h.2 (by omega)
    refine ⟨b, off, rfl, hlt, fun j hj => ?_⟩
    rw [hcell j (by omega)]
    simp [List.getD, hj]
end Go.Proofs.Ytofeoeknmlkjgaa
end
