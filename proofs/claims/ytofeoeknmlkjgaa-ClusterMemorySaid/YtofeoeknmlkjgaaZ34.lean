/- Merged: WireChunk WireDec. -/
import Derived.LoopIn
import Derived.LoopNIn
import Derived.Maps.AppendAt
import Derived.OwnWalkIn
import Derived.RangeFuncBox
import Derived.RangeFuncLeaves
import Derived.Shelf.Abstract
import Derived.Sort.BigQuietIn
import Derived.Sort.QuietTacIn
import Derived.TacticsInMore
import Derived.WalkKit
import Derived.Test.YtofeoeknmlkjgaaZ02
import Derived.Test.YtofeoeknmlkjgaaZ04
import Derived.Test.YtofeoeknmlkjgaaZ31
set_option linter.unusedVariables false
set_option linter.unusedSimpArgs false
section
/- slices.Chunk at bytes: its pieces, one behind the other. -/
set_option linter.unusedVariables false
namespace Go.Proofs.Ytofeoeknmlkjgaa.Wr
open Go.RowKit Go.Proofs.Ytofeoeknmlkjgaa Go.Proofs Go.Shelf
attribute [local go_sem] Oper.semAt_some

theorem cut3 {P : Program} {t e : TypeId} {i : TypeInfo} (ht : P.underlying t = some (.slice e)) (hi : P.info? e = some i) (h1 : i.size = 1) (b off n c k m : Nat) (lo hi2 : Int) (hlo : lo = (k : Int)) (hhi : hi2 = (m : Int)) (hk : k < m) (hm : m ≤ c) (W : World) :
    (Instr.slice t (.slice (some ⟨b, off, none⟩) n c) (some (.int .i64 lo)) (some (.int .i64 hi2)) (some (.int .i64 hi2))).run P W = .ok (.slice (some ⟨b, off + k, none⟩) (m - k) (m - k)) W := by
  subst hlo hhi
  have e1 : ∀ e, (Instr.sliceBound (.int .i64 (m : Int)) c e).run P W = .ok m W := by
    intro e
    simp [Instr.sliceBound, asIntOf, hm, go_sem]
  have e2 : ∀ e, (Instr.sliceBound (.int .i64 (m : Int)) m e).run P W = .ok m W := by
    intro e
    simp [Instr.sliceBound, asIntOf, go_sem]
  have e3 : ∀ e, (Instr.sliceBound (.int .i64 (k : Int)) m e).run P W = .ok k W := by
    intro e
    have : (k : Int) ≤ m := by omega
    simp [Instr.sliceBound, asIntOf, this, go_sem]
  have e4 : ¬ m - k = 0 := by omega
  simp [Instr.slice, Instr.sliceBounds, run_underlying ht, sizeOf, typeInfo, hi, h1, e1, e2, e3, e4, Addr.add]
  rw [if_neg (by omega)]
  by_cases e : k = 0
  · simp [e]
  · simp [e]
theorem cutf {P : Program} {t e : TypeId} {i : TypeInfo} (ht : P.underlying t = some (.slice e)) (hi : P.info? e = some i) (h1 : i.size = 1) (A : Option Addr) (n c k : Nat) (lo : Int) (hlo : lo = (k : Int)) (hk : k ≤ n) :
    ∃ A', ∀ W : World, (Instr.slice t (.slice A n c) (some (.int .i64 lo)) none none).run P W = .ok (.slice A' (n - k) (c - k)) W := by
  subst hlo
  refine ⟨if c = k then A else A.map (·.add (k * 1)), fun W => ?_⟩
  have e1 : (Instr.sliceBound (.int .i64 (k : Int)) n .sliceB).run P W = .ok k W := by
    simp [Instr.sliceBound, asIntOf, hk, go_sem]
  simp [Instr.slice, Instr.sliceBounds, run_underlying ht, sizeOf, typeInfo, hi, h1, e1]
def pces (q k : Nat) : List (Fin q) := (List.finRange q).take k
theorem pces_snoc (q k : Nat) (h : k < q) : pces q k ++ [⟨k, h⟩] = pces q (k + 1) := by
  unfold pces
  rw [List.take_succ_eq_append_getElem (by simpa using h)]
  simp
def Two (Bs Bk : Nat) (A B : World) : Prop := B.heap[Bs]? = A.heap[Bs]? ∧ B.heap[Bk]? = A.heap[Bk]?

set_option maxRecDepth 100000 in
set_option maxHeartbeats 2000000 in
theorem chunk1_in (n : Nat) (hn : 1 ≤ n) (l Bs Bk q cap b off : Nat) (A : Option Addr) (hA : 0 < q → A = some ⟨b, off, none⟩) (hq : q ≤ 1000) (hcap : 8 * q ≤ cap) (J Jx : List (Fin q) → World → Prop) (B : Nat) (hJ : AbidesFrom B J)
    (hY : ∀ pre (x : Fin q) W, J pre W → pre.length < q → YieldAt Fence.wide (n - 1) Try.prog l #[.slice (some ⟨b, off + 8 * x.1, none⟩) 8 8] W fun e W' =>
      (e = .returned (.bool true) ∧ J (pre ++ [x]) W' ∧ Two Bs Bk W W') ∨ (e = .returned (.bool false) ∧ Jx (pre ++ [x]) W'))
    (W : World) (hc : W.cell? ⟨Bs, 0, none⟩ = some (.slice A (8 * q) cap)) (hc2 : W.cell? ⟨Bk, 0, none⟩ = some (.int .i64 8)) (h0 : J [] W) :
    CallsIn Fence.wide n Try.prog 114 #[.func (.yield l) #[] #[], .pointer (some ⟨Bs, 0, none⟩), .pointer (some ⟨Bk, 0, none⟩)] W fun e W' => (∃ v, e = .returned v) ∧
      ((∃ ys, ys = pces q q ∧ J ys W') ∨ (∃ pre, pre <+: pces q q ∧ Jx pre W')) := by
  obtain ⟨i0, hi, hz0, hz1, hz2⟩ := info_parts infoByte
  refine callsIn_of_wp Try.func114 rfl trivial ?_ rfl
  simp only [Try.ntmps114, List.size_toArray, List.length_cons, List.length_nil, Nat.reduceAdd, Nat.reduceSub, Array.replicate_succ, Array.replicate_zero, List.push_toArray, List.append_toArray, List.nil_append, List.cons_append]
  gi_wp2
  gi_loopw [4] (fun i wr => ∃ k : Nat, k ≤ q ∧ i = .int .i64 (8 * (k : Int)) ∧ J (pces q k) wr ∧ Two Bs Bk W wr)
    (fun i _ => 8 * q - (intOf i).toNat)
  case atStart => exact ⟨0, Nat.zero_le _, rfl, h0, rfl, rfl⟩
  case round =>
    obtain ⟨k, hk, rfl, hJs, hnx⟩ := hrel
    have d1 := (cell_same hnx.1 0).trans hc
    have d2 := (cell_same hnx.2 0).trans hc2
    by_cases hlt : k < q
    · have hlk : (pces q k).length = k := by simp [pces]; omega
      obtain rfl := hA (by omega)
      obtain ⟨A1, e1⟩ := cutf (P := Try.prog) (t := 78) Try.underlying78 hi hz1 (some ⟨b, off, none⟩) (8 * q) cap (8 * k) (8 * (k : Int)) (by omega) (by omega)
      have e2 := cut3 (P := Try.prog) (t := 78) Try.underlying78 hi hz1 b off (8 * q) cap (8 * k) (8 * k + 8) (8 * (k : Int)) (8 * (k : Int) + 8) (by omega) (by omega) (by omega) (by omega)
      rw [show 8 * k + 8 - 8 * k = 8 by omega] at e2
      have q1 : 8 * (k : Int) < 8 * (q : Int) := by omega
      have q2 : (8 : Int) ≤ ((8 * q - 8 * k : Nat) : Int) := by omega
      gi_wp2
      gi_big_quiet_th (fail)
      have hJd : J (pces q k) (wr.drewN nq) := hJ _ _ _ none hJs (grown_below (below_drewN _ _ _)) (fun r e => by cases e)
      obtain ⟨fn, tmps, assign, body, hy, hR⟩ := hY _ ⟨k, hlt⟩ (wr.drewN nq) hJd (by rw [hlk]; exact hlt)
      dsimp only at hy
      rw [pces_snoc q k hlt] at hR
      have hnd : Two Bs Bk W (wr.drewN nq) := hnx
      clear hJd hlk
      gi_wp2
      refine hR.mono ?_
      rintro e W3 (⟨rfl, hJ3, hk3⟩ | ⟨rfl, hJx3⟩)
      · have d3 := (cell_same (hk3.2.trans hnd.2) 0).trans hc2
        gi_wp2
        go_roundw
        case rel => exact ⟨k + 1, by omega, by go_num, hJ3, hk3.1.trans hnd.1, hk3.2.trans hnd.2⟩
        case measure => simp [intOf]; omega
      · gi_wp2
        refine bodyPost_ret (results_none rfl _ _ _) rfl ?_
        exact ⟨⟨_, rfl⟩, .inr ⟨_, by unfold pces; exact List.take_prefix_take_left (by omega), hJx3⟩⟩
    · obtain rfl : k = q := by omega
      gi_wp2
      go_end0
      exact ⟨⟨_, rfl⟩, .inl ⟨_, rfl, hJs⟩⟩

set_option maxHeartbeats 1000000 in
theorem chunk_in (n : Nat) (A : Option Addr) (m c : Nat) (w : World) :
    CallsIn Fence.wide n Try.prog 111 #[.slice A m c, .int .i64 8] w fun e w' => e = .returned (.func (.func 114) #[] #[.pointer (some ⟨w.heap.size, 0, none⟩), .pointer (some ⟨w.heap.size + 1, 0, none⟩)]) ∧
      w' = (w.alloc (.cells #[.slice A m c] 78)).alloc (.cells #[.int .i64 8] 3) := by
  refine callsIn_of_wp Try.func111 rfl trivial ?_ rfl
  simp only [Try.ntmps111, List.size_toArray, List.length_cons, List.length_nil, Nat.reduceAdd, Nat.reduceSub, Array.replicate_succ, Array.replicate_zero, List.push_toArray, List.append_toArray, List.nil_append, List.cons_append]
  gi_wp2
  go_ret
  exact ⟨rfl, rfl⟩

theorem two_t {Bs Bk : Nat} {A B C : World} (h : Two Bs Bk A B) (k : Two Bs Bk B C) : Two Bs Bk A C := ⟨k.1.trans h.1, k.2.trans h.2⟩
theorem two_b {Bs Bk N : Nat} (hs : Bs < N) (hk : Bk < N) (W : World) (l : Nat) (o o' : Obj) (hl : N ≤ l) (_ : W.heap[l]? = some o) (_ : o.isCells = false) (_ : o.isWalk = false) : Two Bs Bk W (W.putObj l o') :=
  ⟨World.putObj_heap_other (by omega), World.putObj_heap_other (by omega)⟩
theorem chunk_stops (n : Nat) (hn : 1 ≤ n) (Bs Bk q cap b off : Nat) (A : Option Addr) (hA : 0 < q → A = some ⟨b, off, none⟩) (hq : q ≤ 1000) (hcap : 8 * q ≤ cap) (w : World) (hBs : Bs < w.heap.size) (hBk : Bk < w.heap.size)
    (hc : w.cell? ⟨Bs, 0, none⟩ = some (.slice A (8 * q) cap)) (hc2 : w.cell? ⟨Bk, 0, none⟩ = some (.int .i64 8)) :
    SeqStopsK Fence.wide n Try.prog 114 #[.pointer (some ⟨Bs, 0, none⟩), .pointer (some ⟨Bk, 0, none⟩)] (fun x : Fin q => #[Value.slice (some ⟨b, off + 8 * x.1, none⟩) 8 8]) (Two Bs Bk) (fun ys => ys = pces q q) (fun pre => pre <+: pces q q) q w := fun l J Jx W hW hJ _ hY h0 =>
  chunk1_in n hn l Bs Bk q cap b off A hA hq hcap J Jx W.heap.size hJ hY W ((hW.cell (p := ⟨Bs, 0, none⟩) hBs).trans hc) ((hW.cell (p := ⟨Bk, 0, none⟩) hBk).trans hc2) h0
end Go.Proofs.Ytofeoeknmlkjgaa.Wr
end
section
/- The contract of wire.Decode: bytes that are no message's are refused. -/
set_option linter.unusedVariables false
namespace Go.Proofs.Ytofeoeknmlkjgaa.Wr
open Go.RowKit Go.Proofs.Ytofeoeknmlkjgaa Crc

def zMsg : Value := .agg #[.int .i64 0, .int .i64 0, .int .i64 0, .slice none 0 0]
def DecBad (zs : List Int) (w : World) (e : Ending) (w' : World) : Prop := ∃ er : Int, er ≠ 0 ∧ (∀ k f r vs, ¬ IsMsg zs k f r vs) ∧ e = .returned (.tuple #[zMsg, .int .i64 er]) ∧ Below w.heap.size w w'

set_option maxRecDepth 100000 in
set_option maxHeartbeats 1000000 in
theorem dec_long (A : Option Addr) (n c : Nat) (zs : List Int) (w : World) (hl : zs.length = n) (hn : 220 < n) (hn2 : n ≤ 9223372036854775807) :
    Calls Try.prog 94 #[.slice A n c] w (DecBad zs w) := by
  have hno : ∀ k f r vs, ¬ IsMsg zs k f r vs := fun k f r vs h => by have := h.len; omega
  have HN := Lib.hid hno
  clear hno hl
  have hB := (Below.refl w.heap.size w).alloc (Nat.le_refl _) (.cells #[.int .i64 0, .int .i64 0, .int .i64 0, .slice none 0 0] 64)
  have HB := Lib.hid hB
  clear hB
  go_enter Try.func94, Try.ntmps94
  go_wp2_with fail
  refine bodyPost_ret (v := .tuple #[.agg #[.int .i64 0, .int .i64 0, .int .i64 0, .slice none 0 0], .int .i64 1]) (by simp [results, Try.results94, go_sem]) rfl ⟨1, by decide, HN.out, rfl, ?_⟩
  exact HB.out

set_option maxRecDepth 100000 in
set_option maxHeartbeats 1000000 in
theorem dec_short (A : Option Addr) (n c : Nat) (zs : List Int) (w : World) (hl : zs.length = n) (hn : n < 12) :
    Calls Try.prog 94 #[.slice A n c] w (DecBad zs w) := by
  have hno : ∀ k f r vs, ¬ IsMsg zs k f r vs := fun k f r vs h => by have := h.len; omega
  have HN := Lib.hid hno
  clear hno hl
  have hB := (Below.refl w.heap.size w).alloc (Nat.le_refl _) (.cells #[.int .i64 0, .int .i64 0, .int .i64 0, .slice none 0 0] 64)
  have HB := Lib.hid hB
  clear hB
  go_enter Try.func94, Try.ntmps94
  go_wp2_with fail
  refine bodyPost_ret (v := .tuple #[.agg #[.int .i64 0, .int .i64 0, .int .i64 0, .slice none 0 0], .int .i64 2]) (by simp [results, Try.results94, go_sem]) rfl ⟨2, by decide, HN.out, rfl, ?_⟩
  exact HB.out

set_option maxRecDepth 100000 in
set_option maxHeartbeats 1000000 in
theorem dec_head (b off n c : Nat) (zs : List Int) (w : World) (h : Ints w .u8 (some ⟨b, off, none⟩) n zs) (hn : 12 ≤ n) (hn2 : n ≤ 220) (h0 : zs.getD 0 0 ≠ 87) (hz : Byts zs) :
    Calls Try.prog 94 #[.slice (some ⟨b, off, none⟩) n c] w (DecBad zs w) := by
  have hno : ∀ k f r vs, ¬ IsMsg zs k f r vs := fun k f r vs h => h0 h.at0
  have HN := Lib.hid hno
  have hB := (Below.refl w.heap.size w).alloc (Nat.le_refl _) (.cells #[.int .i64 0, .int .i64 0, .int .i64 0, .slice none 0 0] 64)
  have HB := Lib.hid hB
  obtain ⟨_, _, e0, hlt, hc⟩ := h.2 (by omega)
  cases e0
  have hc0 := hc 0 (by omega)
  have d0 := fun o => ((Below.refl w.heap.size w).alloc (Nat.le_refl _) o).cell (p := ⟨b, off, none⟩) hlt
  rw [Nat.add_zero] at hc0
  simp only [hc0] at d0
  have q0 : 0 < n := by omega
  have t0 : (zs.getD 0 0 != 87) = true := by rw [bne_iff_ne]; exact h0
  generalize zs.getD 0 0 = y at *
  clear hB hno h hc h0
  go_enter Try.func94, Try.ntmps94
  go_wp2_with fail
  refine bodyPost_ret (v := .tuple #[.agg #[.int .i64 0, .int .i64 0, .int .i64 0, .slice none 0 0], .int .i64 2]) (by simp [results, Try.results94, go_sem]) rfl ⟨2, by decide, HN.out, rfl, ?_⟩
  exact HB.out

def Opn (zs : List Int) (w w1 : World) (e : Ending) : Prop := (∃ A1 c1, tailTo zs (zs.length - 4) 4 = (sumFrom 0#32 (zs.take (zs.length - 4))).toNat ∧ e = .returned (.tuple #[.slice A1 (zs.length - 4) c1, .bool true]) ∧ NewBytes w w1 A1 (zs.length - 4) c1 (zs.take (zs.length - 4))) ∨ ((∀ k f r vs, ¬ IsMsg zs k f r vs) ∧ e = .returned (.tuple #[.slice none 0 0, .bool false]) ∧ Below w.heap.size w w1)
theorem opn_any (A : Option Addr) (n c : Nat) (zs : List Int) (w : World) (h : Ints w .u8 A n zs) (hA : A = none → n = 0 ∧ c = 0) (hnc : n ≤ c) (hn : n ≤ 220) (h4 : 12 ≤ n) (hz : Byts zs) :
    Calls Try.prog 109 #[.slice A n c] w fun e w' => Opn zs w w' e := by
  refine (open_any A n c zs w h hA hnc (by omega) hz).mono ?_
  intro e w' ho
  have hl := h.1
  rcases ho with ⟨_, h1, A', c', rfl, h2⟩ | ⟨h1, rfl, h2⟩
  · exact .inl ⟨A', c', h1, rfl, h2⟩
  · exact .inr ⟨fun k f r vs hm => h1 (by omega) hm.tail, rfl, h2⟩

set_option maxRecDepth 100000 in
set_option maxHeartbeats 2000000 in
theorem dec_head2 (b off n c : Nat) (zs : List Int) (w : World) (h : Ints w .u8 (some ⟨b, off, none⟩) n zs) (hnc : n ≤ c) (hn : 12 ≤ n) (hn2 : n ≤ 220) (h0 : zs.getD 0 0 = 87) (hz : Byts zs)
    (hbad : tailTo zs (zs.length - 4) 4 = (sumFrom 0#32 (zs.take (zs.length - 4))).toNat → 24 < (zs.take (zs.length - 4)).getD 7 0 ∨ ((zs.length - 4 : Nat) : Int) ≠ 8 + 8 * (zs.take (zs.length - 4)).getD 7 0) :
    Calls Try.prog 94 #[.slice (some ⟨b, off, none⟩) n c] w (DecBad zs w) := by
  have hP := Blk.new w 64 #[.int .i64 0, .int .i64 0, .int .i64 0, .slice none 0 0]
  have hB := (Below.refl w.heap.size w).alloc (Nat.le_refl _) (.cells #[.int .i64 0, .int .i64 0, .int .i64 0, .slice none 0 0] 64)
  have HB := Lib.hid hB
  have HP := Lib.hid hP
  have KO := Lib.hid (opn_any (some ⟨b, off, none⟩) n c zs _ (h.alloc (.cells #[.int .i64 0, .int .i64 0, .int .i64 0, .slice none 0 0] 64)) (fun e => by cases e) hnc hn2 hn hz)
  have hnb : ∀ k f r vs, IsMsg zs k f r vs → False := fun k f r vs hm => by
    have h1 := hbad hm.tail
    have h2 := hm.len
    rw [hm.take, (encB_at k f r vs).2.2.2.1] at h1
    omega
  have HNB := Lib.hid hnb
  have HBAD := Lib.hid hbad
  obtain ⟨_, _, e0, hlt, hc⟩ := h.2 (by omega)
  cases e0
  have hc0 := hc 0 (by omega)
  have d0 := fun o => ((Below.refl w.heap.size w).alloc (Nat.le_refl _) o).cell (p := ⟨b, off, none⟩) hlt
  rw [Nat.add_zero] at hc0
  simp only [hc0] at d0
  have q0 : 0 < n := by omega
  have hl := h.1
  have HL := Lib.hid hl
  have HZ := Lib.hid hz
  rw [h0] at d0
  have H0 := Lib.hid h0
  clear hB h hc h0 hbad hnb hP hl hz
  clear hc0
  go_enter Try.func94, Try.ntmps94
  go_wp2_with fail
  refine KO.out.mono ?_
  intro e w1 ho
  rcases ho with ⟨A1, c1, ht, rfl, hown, hB1⟩ | ⟨hno, rfl, hB1⟩
  · have hb2 := HBAD.out ht
    have HT := Lib.hid ht
    have P1 := Lib.hid (HP.out.next hB1)
    have B1 := Lib.hid (below_next HB.out hB1)
    have O1 := Lib.hid hown
    have f0 := P1.out.frozen 0
    have f1 := P1.out.frozen 1
    have f2 := P1.out.frozen 2
    have f3 := P1.out.frozen 3
    have d0' := P1.out.cell 0
    have d1' := P1.out.cell 1
    have d2' := P1.out.cell 2
    have d3' := P1.out.cell 3
    simp only [List.getElem?_toArray, List.getElem?_cons_zero, List.getElem?_cons_succ] at d0' d1' d2' d3'
    have hI := Ints.own hown
    obtain ⟨m, hm⟩ : ∃ m, zs.length - 4 = m := ⟨_, rfl⟩
    rw [hm] at hI hb2 O1 ⊢
    obtain ⟨b2, off2, rfl, hlt2, hc2⟩ := hI.2 (by have := HL.out; omega)
    have d7 := hc2 7 (by have := HL.out; omega)
    have q8 : 8 ≤ m := by have := HL.out; omega
    have q9 : m ≤ 216 := by have := HL.out; omega
    have hy : 0 ≤ (zs.take m).getD 7 0 ∧ (zs.take m).getD 7 0 ≤ 255 := by
      have hlt : 7 < (zs.take m).length := by have := HL.out; simp; omega
      simp only [List.getD, List.getElem?_eq_getElem hlt]
      exact HZ.out _ (List.mem_of_mem_take (List.getElem_mem _))
    obtain ⟨y0, y1⟩ := hy
    generalize (zs.take m).getD 7 0 = y at *
    clear ht hown hB1 hI hc2 hm
    by_cases h24 : 24 < y
    · clear hb2
      go_wp2_with fail
      refine bodyPost_ret (v := .tuple #[.agg #[.int .i64 0, .int .i64 0, .int .i64 0, .slice none 0 0], .int .i64 6]) (by simp [results, Try.results94, go_sem, d0', d1', d2', d3', f0, f1, f2, f3]) rfl ⟨6, by decide, HNB.out, rfl, ?_⟩
      exact (((B1.out.setCell (Nat.le_refl _) _).setCell (Nat.le_refl _) _).setCell (Nat.le_refl _) _).setCell (Nat.le_refl _) _
    · have h24' : y ≤ 24 := by omega
      have t2 : ((m : Int) != 8 + 8 * y) = true := by rw [bne_iff_ne]; exact hb2.resolve_left (by omega)
      clear hb2 h24
      go_wp2_with fail
      refine bodyPost_ret (v := .tuple #[.agg #[.int .i64 0, .int .i64 0, .int .i64 0, .slice none 0 0], .int .i64 2]) (by simp [results, Try.results94, go_sem, d0', d1', d2', d3', f0, f1, f2, f3]) rfl ⟨2, by decide, HNB.out, rfl, ?_⟩
      exact (((B1.out.setCell (Nat.le_refl _) _).setCell (Nat.le_refl _) _).setCell (Nat.le_refl _) _).setCell (Nat.le_refl _) _
  · have HN := Lib.hid hno
    have P1 := Lib.hid (HP.out.next hB1)
    have B1 := Lib.hid (below_next HB.out hB1)
    have f0 := P1.out.frozen 0
    have f1 := P1.out.frozen 1
    have f2 := P1.out.frozen 2
    have f3 := P1.out.frozen 3
    have d0' := P1.out.cell 0
    have d1' := P1.out.cell 1
    have d2' := P1.out.cell 2
    have d3' := P1.out.cell 3
    simp only [List.getElem?_toArray, List.getElem?_cons_zero, List.getElem?_cons_succ] at d0' d1' d2' d3'
    clear hno hB1
    go_wp2_with fail
    refine bodyPost_ret (v := .tuple #[.agg #[.int .i64 0, .int .i64 0, .int .i64 0, .slice none 0 0], .int .i64 5]) (by simp [results, Try.results94, go_sem, d0', d1', d2', d3', f0, f1, f2, f3]) rfl ⟨5, by decide, HN.out, rfl, ?_⟩
    exact (((B1.out.setCell (Nat.le_refl _) _).setCell (Nat.le_refl _) _).setCell (Nat.le_refl _) _).setCell (Nat.le_refl _) _
end Go.Proofs.Ytofeoeknmlkjgaa.Wr
end
