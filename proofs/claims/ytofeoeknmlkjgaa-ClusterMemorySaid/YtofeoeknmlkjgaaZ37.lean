/- Merged: Scrib RoomB. -/
import Derived.Deep.AppendLies
import Derived.OwnWalk
import Derived.Test.YtofeoeknmlkjgaaProg
import Derived.Test.YtofeoeknmlkjgaaZ02
import Derived.Test.YtofeoeknmlkjgaaZ04
import Derived.Test.YtofeoeknmlkjgaaZ11
set_option linter.unusedVariables false
set_option linter.unusedSimpArgs false
section
/- fourwatchkeep.scribble: a list of one's own is overwritten and appended to; nothing else changes. -/
set_option linter.unusedVariables false
namespace Go.Proofs.Ytofeoeknmlkjgaa.Sc
open Go.RowKit Go.Proofs.Ytofeoeknmlkjgaa

def Lst (e : TypeId) (w : World) (g n cap : Nat) : Prop := ∃ cur, Blk w g e cur ∧ n ≤ cap ∧ ((cap = cur.size ∧ cap ≤ maxLen) ∨ (cap = n ∧ n ≤ cur.size))
section
variable {P : Program} {e : TypeId} {w w' : World} {g n cap : Nat}
theorem Lst.next (h : Lst e w g n cap) (hb : Below w.heap.size w w') : Lst e w' g n cap := h.imp fun _ k => ⟨k.1.next hb, k.2⟩
theorem Lst.grown {row : Option Nat} (h : Lst e w g n cap) (hb : w.grownBy w' row) (hg : some g ≠ row) : Lst e w' g n cap := h.imp fun _ k => ⟨k.1.grown hb hg, k.2⟩
theorem Lst.lt (h : Lst e w g n cap) : g < w.heap.size := h.elim fun _ k => k.1.lt
theorem Lst.set_ (h : Lst e w g n cap) (i : Nat) (u : Value) : Lst e (w.setCell ⟨g, i, none⟩ u) g n cap := by
  obtain ⟨cur, hb, hn, hc⟩ := h
  exact ⟨_, hb.set_ i u, hn, by simpa using hc⟩
theorem Lst.alloc (h : Lst e w g n cap) (o : Obj) : Lst e (w.alloc o) g n cap := h.imp fun _ k => ⟨k.1.alloc o, k.2⟩
theorem Lst.cell (h : Lst e w g n cap) {i : Nat} (hi : i < n) : ∃ v, w.cell? ⟨g, i, none⟩ = some v := by
  obtain ⟨cur, hb, hn, hc⟩ := h
  have : i < cur.size := by omega
  exact ⟨cur[i], by rw [hb.cell i, Array.getElem?_eq_getElem this]⟩
theorem Lst.frozen (h : Lst e w g n cap) (i : Nat) : w.frozen? ⟨g, i, none⟩ = false := h.elim fun _ k => k.1.frozen i
end
section
variable {P : Program} {w : World} {ops : Array Oper} {rest : List Oper} {o : Oper} {a : Act} {Q : Exit → Act → World → Prop}
end
def Rel (w0 : World) (g n cap : Nat) (iv : Value) (W : World) : Prop := ∃ i : Nat, i ≤ n ∧ iv = .int .i64 i ∧ Lst 3 W g n cap ∧ w0.grownBy W (some g)

end Go.Proofs.Ytofeoeknmlkjgaa.Sc
end
section
/- roomyBytes, stayedBytes. -/
set_option linter.unusedVariables false
namespace Go.Proofs.Ytofeoeknmlkjgaa.Rb
open Go.RowKit Go.Proofs.Ytofeoeknmlkjgaa Sm Sc
theorem infoByte : (Try.prog.info? 5).map (fun i => (i.zero, i.size, i.bytes)) = some (some (.int .u8 0), 1, 1) := by kernel_rfl
def Room8 (n : Nat) (zs : List Int) (cur : Array Value) : Prop := (∀ j, j < n → cur[j]? = some (.int .u8 (zs.getD j 0))) ∧ cur[n]? = some (.int .u8 77) ∧ cur[n + 1]? = some (.int .u8 78)
theorem Room8.ints {n : Nat} {zs : List Int} {cur : Array Value} {w : World} {g : Nat} {t : TypeId} (h : Room8 n zs cur) (hl : zs.length = n) (hb : Blk w g t cur) : Ints w .u8 (some ⟨g, 0, none⟩) n zs :=
  ⟨hl, fun _ => ⟨g, 0, rfl, hb.lt, fun j hj => by rw [Nat.zero_add, hb.cell j, h.1 j hj]⟩⟩

set_option maxRecDepth 100000 in
set_option maxHeartbeats 1000000 in
theorem roomyBytes_any (A : Option Addr) (n c : Nat) (zs : List Int) (w : World) (h : Ints w .u8 A n zs) (hA : A = none → n = 0 ∧ c = 0) (hn : n ≤ 140737488351232) :
    Calls Try.prog 26 #[.slice A n c] w fun e w' => ∃ g c' cur, e = .returned (.slice (some ⟨g, 0, none⟩) n c') ∧ n + 2 ≤ c' ∧ Blk w' g 5 cur ∧ Room8 n zs cur ∧ w.heap.size ≤ g ∧ Below w.heap.size w w' := by
  obtain ⟨i0, hi, hz0, hz1, hz2⟩ := info_parts infoByte
  have H := Lib.hid h
  have HA := Lib.hid hA
  have HL := Lib.hid h.1
  clear h hA
  go_enter Try.func26, Try.ntmps26
  go_wp2_with (first
    | (at_make; refine wpList_make_own _ rfl _ _ 78 rfl w.heap.size 5 i0 (.int .u8 0) 1 Try.underlying78 hi hz0 hz1 .i64 .i64 _ (n + 9) rfl rfl (by omega) (by rw [hz2]; omega) (by unfold maxLen; omega) (by omega) ?_; intro w2 hown2 hg2)
    | (at_builtin; refine wpList_append_ints rfl (.tmp 7) (.tmp 8) 78 rfl w.heap.size 5 i0 (.int .u8 0) .u8 1 Try.underlying78 hi hz0 hz1 hz2 rfl _ 0 [] rfl hown2 A n c zs rfl HA.out (H.out.next ((Below.refl _ _).grown hg2 (Nat.le_refl _) (fun j hj => by cases hj))) (by unfold maxLen; omega) (by omega) (by have := hg2.size; omega) ?_; intro v3 w3 hown3 hg3; simp only [Nat.zero_add, List.nil_append] at hown3; have hb2 := hown2.lt _ rfl; have hB3 := ((Below.refl w.heap.size w).grown hg2 (Nat.le_refl _) (fun j hj => by cases hj)).grown hg3 (by have := hg2.size; omega) (fun j hj => (hown2.lt j hj).1); have HO3 := Lib.hid hown3; have HB3 := Lib.hid hB3; clear hown2 hg2 hown3 hg3 hb2 hB3)
    | (at_builtin; refine wpList_append_own _ rfl (.tmp 10) (.tmp 11) 78 rfl w.heap.size 5 i0 (.int .u8 0) 1 1 Try.underlying78 hi hz0 hz1 hz2 rfl (by decide) _ n _ rfl (HO3.out.alloc _) ⟨w3.heap.size, 0, none⟩ 2 2 [.int .u8 77, .int .u8 78] rfl rfl (World.news_of_block (Blk.new w3 5 #[.int .u8 77, .int .u8 78])) (by intro u hu; simp at hu; rcases hu with rfl | rfl <;> rfl) (by unfold maxLen; omega) (by omega) (by have := HB3.out.size; simp; omega) ?_; intro v5 w5 hown5 hg5 _; have hB5 := (HB3.out.alloc HB3.out.size (.cells #[.int .u8 77, .int .u8 78] 5)).grown hg5 (by have := HB3.out.size; simp; omega) (fun j hj => (HO3.out.lt j hj).1); (obtain ⟨g, cap, rfl, hgb, hgl, hgc⟩ := own_form hown5 (by omega)); have HO5 := Lib.hid hown5; have HB5 := Lib.hid hB5; clear hown5 hg5 hB5))
  go_ret
  rcases HO5.out.2 with ⟨h1, _⟩ | ⟨g', cap', cur, hv, hb, hh, hc, hm, hs, ht⟩
  · cases h1
  · injection hv with h1 h2 h3
    injection h1 with h1
    injection h1 with h1
    subst h1 h3
    have hx : ∀ j, j < n + 2 → cur[j]? = (List.map (Value.int .u8) zs ++ [.int .u8 77, .int .u8 78])[j]? := by
      intro j hj
      rw [← ht, Nat.mul_one, List.getElem?_take, if_pos hj]
      simp
    have hl := HL.out
    refine ⟨g, cap, cur, rfl, hgc, hh, ⟨fun j hj => ?_, ?_, ?_⟩, hgb, HB5.out⟩
    · rw [hx j (by omega), List.getElem?_append_left (by simp; omega)]
      simp [List.getD, List.getElem?_eq_getElem (show j < zs.length by omega)]
    · rw [hx n (by omega), List.getElem?_append_right (by simp; omega)]
      simp [hl]
    · rw [hx (n + 1) (by omega), List.getElem?_append_right (by simp; omega)]
      simp [hl]

set_option maxRecDepth 100000 in
set_option maxHeartbeats 1000000 in
theorem stayedBytes_any (A : Option Addr) (g n c cc : Nat) (zs : List Int) (cur : Array Value) (w : World) (hg : Blk w g 5 cur) (hr : Room8 n zs cur) (hcc : n + 2 ≤ cc) (h : Ints w .u8 A n zs) (hA : A = none → n = 0 ∧ c = 0) (hn : n ≤ 140737488355328) :
    Calls Try.prog 28 #[.slice (some ⟨g, 0, none⟩) n cc, .slice A n c] w fun e w' => e = .returned (.bool true) ∧ w = w' := by
  have c1 := conv_ints (P := Try.prog) (dst := 9) Try.underlying78 Try.underlying5 Try.underlying9 (hr.ints h.1 hg) (c := cc) (fun e => by cases e)
  have c2 := conv_ints (P := Try.prog) (dst := 9) Try.underlying78 Try.underlying5 Try.underlying9 h hA
  have d0 := hg.cell n
  have d1 := hg.cell (n + 1)
  rw [hr.2.1] at d0
  rw [hr.2.2] at d1
  generalize strOfNums zs = str at c1 c2
  have q1 : (0 : Int) ≤ (n : Int) := by omega
  have q2 : (n : Int) < (n : Int) + 2 := by omega
  have q3 : (n : Int) + 1 < (n : Int) + 2 := by omega
  have q4 : (0 : Int) ≤ (n : Int) + 1 := by omega
  have q6 : ((n : Int) + 1).toNat = n + 1 := by omega
  have q7 : (0 : Int) ≤ (n : Int) + 2 := by omega
  have q8 : (n : Int) + 2 ≤ (cc : Int) := by omega
  clear hg hr h hA hcc
  go_enter Try.func28, Try.ntmps28
  go_wp2_with fail
  go_ret
  exact ⟨rfl, rfl⟩
end Go.Proofs.Ytofeoeknmlkjgaa.Rb
end
