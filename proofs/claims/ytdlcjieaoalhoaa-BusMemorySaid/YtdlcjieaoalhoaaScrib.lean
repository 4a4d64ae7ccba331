/- fourwatchkeep.scribble: a list of one's own is overwritten and appended to; nothing else changes. -/
import Derived.Test.YtdlcjieaoalhoaaAppend
import Derived.Test.YtdlcjieaoalhoaaProg
import Derived.Test.YtdlcjieaoalhoaaRows4
import Derived.Deep.AppendLies
set_option linter.unusedVariables false
namespace Go.Proofs.Ytdlcjieaoalhoaa.Sc
open Go.RowKit Go.Proofs.Ytdlcjieaoalhoaa

/-- a list in a block: all the block, or full -/
def Lst (e : TypeId) (w : World) (g n cap : Nat) : Prop := ∃ cur, Blk w g e cur ∧ n ≤ cap ∧ ((cap = cur.size ∧ cap ≤ maxLen) ∨ (cap = n ∧ n ≤ cur.size))
section
variable {P : Program} {e : TypeId} {w w' : World} {g n cap : Nat}
theorem Lst.next (h : Lst e w g n cap) (hb : Below w.heap.size w w') : Lst e w' g n cap := h.imp fun _ k => ⟨k.1.next hb, k.2⟩
theorem Lst.grown {row : Option Nat} (h : Lst e w g n cap) (hb : w.grownBy w' row) (hg : some g ≠ row) : Lst e w' g n cap := h.imp fun _ k => ⟨k.1.grown hb hg, k.2⟩
theorem Lst.lt (h : Lst e w g n cap) : g < w.heap.size := h.elim fun _ k => k.1.lt
theorem Lst.set_ (h : Lst e w g n cap) (i : Nat) (u : Value) : Lst e (w.setCell ⟨g, i, none⟩ u) g n cap := by
  obtain ⟨cur, hb, hn, hc⟩ := h
  exact ⟨_, hb.set_ i u, hn, by simpa using hc⟩
theorem Lst.alloc (h : Lst e w g n cap) (o : Obj) : Lst e (w.alloc o) g n cap := h.imp fun _ k => ⟨k.1.alloc o, k.2⟩
theorem Lst.cell (h : Lst e w g n cap) {i : Nat} (hi : i < n) : ∃ v, w.cell? ⟨g, i, none⟩ = some v := by
  obtain ⟨cur, hb, hn, hc⟩ := h
  have : i < cur.size := by omega
  exact ⟨cur[i], by rw [hb.cell i, Array.getElem?_eq_getElem this]⟩
theorem Lst.frozen (h : Lst e w g n cap) (i : Nat) : w.frozen? ⟨g, i, none⟩ = false := h.elim fun _ k => k.1.frozen i
theorem lst_own {base : Nat} {A : Option Addr} {xs : List Value} (h : w.ownsRow base e 1 (.slice A n cap) n xs) : (A = none ∧ n = 0 ∧ cap = 0) ∨ ∃ g, A = some ⟨g, 0, none⟩ ∧ base ≤ g ∧ Lst e w g n cap := by
  rcases h.2 with ⟨h1, h2⟩ | ⟨g, c, cur, hv, hb, hh, hc, hm, hs, ht⟩
  · cases h1; exact .inl ⟨rfl, rfl, rfl⟩
  · cases hv
    exact .inr ⟨g, rfl, hb, cur, hh, hc, .inl ⟨by omega, hm⟩⟩

/-- append of some numbers to such a list -/
theorem run_append3 (t ty : TypeId) (i : TypeInfo) (ht : P.underlying t = some (.slice e)) (hi : P.info? e = some i) (hz : i.zero = some (.int .i64 0)) (hsize : i.size = 1) (hby : i.bytes = 8)
    (h : Lst e w g n cap) (B m c : Nat) (news : List Value) (hB : ∀ j u, news[j]? = some u → w.cell? ((⟨B, 0, none⟩ : Addr).add j) = some u) (hm : news.length = m) (hm0 : 0 < m) (h1 : ∀ u ∈ news, u.oneCell' = true)
    (h63 : n + m ≤ maxLen) (hbytes : (n + m) * 8 ≤ 140737488355328) :
    ∃ g' cap' w', (Builtin.append_ #[t, t] ty #[.slice (some ⟨g, 0, none⟩) n cap, .slice (some ⟨B, 0, none⟩) m c]).run P w = .ok (.slice (some ⟨g', 0, none⟩) (n + m) cap') w' ∧
      (g' = g ∨ w.heap.size ≤ g') ∧ w.grownBy w' (some g) ∧ ∃ cur, Blk w' g' e cur ∧ n + m ≤ cur.size := by
  obtain ⟨cur, hb, hn, hc⟩ := h
  rcases hc with ⟨hs, hmax⟩ | ⟨hs, hsz⟩
  · have hown : w.ownsRow g e 1 (.slice (some ⟨g, 0, none⟩) n cap) n (cur.toList.take n) :=
      ⟨by simp; omega, .inr ⟨g, cap, cur, rfl, Nat.le_refl _, hb, hn, hmax, by omega, by rw [Nat.mul_one]⟩⟩
    obtain ⟨g', cap', w', hr, ho, hg, hat, hlt⟩ := run_append_lies (P := P) w t ty g e i (.int .i64 0) 1 8 ht hi hz hsize hby rfl (by decide) _ n _ hown ⟨B, 0, none⟩ m c news (by omega) hB h1 hm0 h63 hbytes (Nat.le_of_lt hb.lt) w.heap.size rfl
    refine ⟨g', cap', w', hr, ?_, hg, ?_⟩
    · rcases hat with h | h
      · exact .inl (by simpa [Value.ownBlock] using h.symm)
      · exact .inr (by omega)
    · rcases ho.2 with ⟨h1, h2⟩ | ⟨g2, c2, cur2, hv, _, hh, hc2, _, hs2, _⟩
      · cases h1
      · cases hv
        exact ⟨cur2, hh, by omega⟩
  · subst hs
    have hr := run_append_grow (P := P) w t ty e i (.int .i64 0) ht hi hz ⟨g, 0, none⟩ cap cap (cur.toList.take cap) (by rw [hsize]; simp; omega)
      (fun j v hv => by
        rw [show (⟨g, 0, none⟩ : Addr).add j = ⟨g, j, none⟩ by unfold Addr.add; split <;> simp_all, hb.cell j]
        rw [List.getElem?_take] at hv
        split at hv
        · simpa using hv
        · cases hv) ⟨B, 0, none⟩ m c news (by rw [hsize]; omega) hB (by omega) (by unfold maxLen at h63; omega) (growslice_fits (by omega) (by rw [hby]; omega))
    refine ⟨w.heap.size, _, _, hr, .inr (Nat.le_refl _), ⟨rfl, rfl, rfl, by simp, fun k hk _ => Below.heap_alloc w.drew _ k hk⟩, _, heap_alloc_new w.drew _, ?_⟩
    simp only [Array.size_append, List.size_toArray, List.length_take, Array.length_toList]
    omega
end
section
variable {P : Program} {w : World} {ops : Array Oper} {rest : List Oper} {o : Oper} {a : Act} {Q : Exit → Act → World → Prop}
theorem wpList_append3 (hgd : Region.wanted o (yielded ops a.tmps) = true) (s x : Operand) (t : TypeId)
    (ho : o.op = .call { callee := .builtin .append, args := #[s, x], argTypes := #[t, t] }) (e : TypeId) (i : TypeInfo) (ht : P.underlying t = some (.slice e)) (hi : P.info? e = some i) (hz : i.zero = some (.int .i64 0)) (hsize : i.size = 1) (hby : i.bytes = 8)
    (g n cap : Nat) (hs : a.eval s = .slice (some ⟨g, 0, none⟩) n cap) (h : Lst e w g n cap) (B m c : Nat) (news : List Value) (hx : a.eval x = .slice (some ⟨B, 0, none⟩) m c) (hB : ∀ j u, news[j]? = some u → w.cell? ((⟨B, 0, none⟩ : Addr).add j) = some u) (hm : news.length = m) (hm0 : 0 < m) (h1 : ∀ u ∈ news, u.oneCell' = true)
    (h63 : n + m ≤ maxLen) (hbytes : (n + m) * 8 ≤ 140737488355328)
    (hK : ∀ g' cap' w', (g' = g ∨ w.heap.size ≤ g') → w.grownBy w' (some g) → (∃ cur, Blk w' g' e cur ∧ n + m ≤ cur.size) → wpList P ops Q rest (a.put o.dst (.slice (some ⟨g', 0, none⟩) (n + m) cap')) w') : wpList P ops Q (o :: rest) a w := by
  refine wpList_step fun K hK' => ?_
  rw [if_pos hgd]
  obtain ⟨g', cap', w', hr, h2, h3, h4⟩ := run_append3 (P := P) t o.type i ht hi hz hsize hby h B m c news hB hm hm0 h1 h63 hbytes
  unfold Oper.wp execOp
  simp only [ho, resolve, invoke, builtin, Sem.run_bind, Sem.run_pure, Result.andThen_ok, List.map_toArray, List.map_cons, List.map_nil, hs, hx, hr]
  exact hK' _ _ (hK g' cap' w' h2 h3 h4)
end
theorem infoIntS : (Try.prog.info? 3).map (fun i => (i.zero, i.size, i.bytes)) = some (some (.int .i64 0), 1, 8) := by kernel_rfl
def Rel (w0 : World) (g n cap : Nat) (iv : Value) (W : World) : Prop := ∃ i : Nat, i ≤ n ∧ iv = .int .i64 i ∧ Lst 3 W g n cap ∧ w0.grownBy W (some g)

end Go.Proofs.Ytdlcjieaoalhoaa.Sc
