/- slices.SortStableFunc at parcels: the contract that bus.Step asks for. -/
import Derived.Test.YtdlcjieaoalhoaaBusStab
set_option linter.unusedVariables false
namespace Go.Proofs.Ytdlcjieaoalhoaa.Bs
open Go.RowKit Go.Sort Go.Shelf Go.Proofs.Ytdlcjieaoalhoaa Crc Sm Sy

/-- sorted: no later one is less -/
def InOrder (M : List Pc) : Prop := M.Pairwise fun p q => lp q p = false

theorem flatK_get {d : Array Pc} {j : Nat} (h : j < d.size * 5) : (flat d.toList)[j]? = some (flatK Pc.cells 5 d)[j]! := by
  have hi : j / 5 < d.size := by omega
  have hk : j % 5 < 5 := by omega
  have e : j = j / 5 * 5 + j % 5 := by omega
  have hp : d.toList[j / 5]? = some d[j / 5]! := by rw [Array.getElem?_toList, Array.getElem?_eq_getElem hi, getElem!_pos d (j / 5) hi]
  have := flat_get d.toList (j / 5) _ (j % 5) hp hk
  rw [← e] at this
  rw [this, get_flatK _ _ _ _ h]
  have hl : j % 5 < (d[j / 5]!).cells.length := hk
  rw [List.getElem?_eq_getElem hl]
  congr 1
  exact (getElem!_pos (d[j / 5]!).cells (j % 5) hl).symm
theorem pcells_one (x : Pc) : ∀ v ∈ x.cells, v.oneCell' = true := by
  intro v hv
  simp [Pc.cells] at hv
  rcases hv with rfl | rfl | rfl | rfl | rfl <;> rfl
theorem rp_of {w : World} {g : Nat} {cur : Array Value} {M : List Pc} (h : w.heap[g]? = some (.cells cur 35 (0, 0))) (ht : cur.toList.take (M.length * 5) = flat M) : RP w g 0 M.toArray := by
  refine ⟨fun _ => rfl, pcells_one, fun j hj => ?_, (Array.getElem?_eq_some_iff.1 h).1⟩
  have hb : Blk w g 35 cur := h
  have hj' : j < M.toArray.size * 5 := by simpa using hj
  rw [Nat.zero_add]
  refine ⟨?_, hb.frozen j⟩
  rw [hb.cell j, ← Array.getElem?_toList]
  have h2 : cur.toList[j]? = (flat M)[j]? := by rw [← ht, List.getElem?_take, if_pos (by simpa using hj')]
  rw [h2]
  exact flatK_get hj'
theorem sp_heap {w w' : World} {g : Nat} {cur : Array Value} {d : Array Pc} (h : w.heap[g]? = some (.cells cur 35 (0, 0))) (hS : SP w g 0 d w') :
    w'.heap[g]? = some (.cells (putCells id 0 (flatK Pc.cells 5 d) cur) 35 (0, 0)) ∧ w.grownBy w' (some g) := by
  obtain ⟨n, os, rfl⟩ := hS
  have hg : g < w.heap.size := (Array.getElem?_eq_some_iff.1 h).1
  have hsz : (putRowK Pc.cells 5 (Sort.ahead w n) g 0 d).heap.size = w.heap.size := by rw [size_putRowK]; rfl
  have hget : ∀ k, (putRowK Pc.cells 5 (Sort.ahead w n) g 0 d).heap[k]? = if g = k then (w.heap[k]?).map (onCells (putCells id 0 (flatK Pc.cells 5 d))) else w.heap[k]? := fun k => by
    show (w.heap.modify g _)[k]? = _
    rw [Array.getElem?_modify]
  refine ⟨?_, ⟨rfl, rfl, rfl, ?_, fun k hk hne => ?_⟩⟩
  · unfold sortWorldK
    rw [heap_grow_old _ _ (by rw [hsz]; exact hg), hget g, if_pos rfl, h]
    rfl
  · unfold sortWorldK
    rw [size_grow, hsz]; exact Nat.le_add_right _ _
  · unfold sortWorldK
    rw [heap_grow_old _ _ (by rw [hsz]; exact hk), hget k, if_neg (fun e => hne (by rw [e]))]
theorem put_take {cur : Array Value} {d : Array Pc} (h : d.size * 5 ≤ cur.size) : (putCells id 0 (flatK Pc.cells 5 d) cur).toList.take (d.toList.length * 5) = flat d.toList := by
  apply List.ext_getElem?
  intro j
  rw [List.getElem?_take]
  by_cases hj : j < d.size * 5
  · rw [if_pos (by simpa using hj), flatK_get hj, Array.getElem?_toList]
    unfold putCells
    rw [Array.getElem?_mapIdx, Array.getElem?_eq_getElem (by omega), Option.map_some, if_pos ⟨Nat.zero_le _, by rw [size_flatK]; omega⟩]
    rfl
  · rw [if_neg (by simpa using hj), List.getElem?_eq_none (by rw [flat_len]; simp; omega)]
theorem order_of {d : Array Pc} {N : Nat} (hd : d.size = N) (h : SortedIn lp 0 N d) : InOrder d.toList := by
  unfold InOrder
  rw [List.pairwise_iff_getElem]
  intro i j hi hj hij
  simp only [Array.length_toList] at hi hj
  have := h i j (Nat.zero_le _) hij (by omega)
  rw [getElem!_pos d i hi, getElem!_pos d j hj] at this
  simpa using this
theorem perm_of {d d' : Array Pc} {N : Nat} (hd : d.size = N) (h : PermIn 0 N d d') : d'.toList.Perm d.toList := by
  have h3 := h.2.2
  have e1 : d'.extract 0 N = d' := by rw [← hd, ← h.1]; simp
  have e2 : d.extract 0 N = d := by rw [← hd]; simp
  rwa [e1, e2] at h3

set_option maxRecDepth 100000 in
theorem sortsN (M : List Pc) (hM : M.length ≤ 1000) : Sorts (fun _ M' => InOrder M') M := by
  intro W b v hb hown
  rcases hown.2 with ⟨hv, hn⟩ | ⟨g, cap, cur, hv, hg, hh, hc, hm, hs, ht⟩
  · have hM0 : M = [] := List.length_eq_zero_iff.1 hn
    refine (sorts1 M (by omega) W b v hb hown).mono ?_
    rintro e w' ⟨he, M', hp, hR, ho, hgr⟩
    refine ⟨he, M', hp, ?_, ho, hgr⟩
    rw [hR, hM0]
    exact List.Pairwise.nil
  · subst hv
    have R := rp_of hh ht
    have K := Lib.hid (stable_any (N := M.length) R (by simp) (by simp) W (SWK.start R.hH) cap hM)
    have HH := Lib.hid hh
    have HT := Lib.hid ht
    clear hown hh ht R
    go_enter Try.func21, Try.ntmps21
    go_wp2_with (first | (go_at_call 29; (with_reducible refine K.out.mono ?_); rintro e w2 ⟨rfl, d', hp, hso, hS⟩))
    go_end0
    have hd' : d'.size = M.length := by have := hp.1; simpa using this
    have hperm := perm_of (by simp) hp
    obtain ⟨h1, h2⟩ := sp_heap HH.out hS
    refine ⟨rfl, d'.toList, by simpa using hperm, order_of hd' hso, ⟨flat_len _, .inr ⟨g, cap, _, by (have hz : d'.toList.length = M.length := by rw [Array.length_toList, hd']); rw [hz], hg, h1, by rw [Array.length_toList, hd']; exact hc, hm, ?_, put_take ?_⟩⟩, h2⟩
    · unfold putCells; rw [Array.size_mapIdx]; exact hs
    · rw [hs]; omega
end Go.Proofs.Ytdlcjieaoalhoaa.Bs
