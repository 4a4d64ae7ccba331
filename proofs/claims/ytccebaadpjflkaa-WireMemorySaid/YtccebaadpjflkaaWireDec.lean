/- The contract of wire.Decode: bytes that are no message's are refused. -/
import Derived.Test.YtccebaadpjflkaaWireChunk
import Derived.Test.YtccebaadpjflkaaKit2
set_option linter.unusedVariables false
namespace Go.Proofs.Ytccebaadpjflkaa.Wr
open Go.RowKit Go.Proofs.Ytccebaadpjflkaa Crc

def zMsg : Value := .agg #[.int .i64 0, .int .i64 0, .int .i64 0, .slice none 0 0]
/-- what Decode answers to bytes that are no message's -/
def DecBad (zs : List Int) (w : World) (e : Ending) (w' : World) : Prop := ∃ er : Int, er ≠ 0 ∧ (∀ k f r vs, ¬ IsMsg zs k f r vs) ∧ e = .returned (.tuple #[zMsg, .int .i64 er]) ∧ Below w.heap.size w w'

set_option maxRecDepth 100000 in
set_option maxHeartbeats 1000000 in
theorem dec_long (A : Option Addr) (n c : Nat) (zs : List Int) (w : World) (hl : zs.length = n) (hn : 220 < n) (hn2 : n ≤ 9223372036854775807) :
    Calls Try.prog 26 #[.slice A n c] w (DecBad zs w) := by
  have hno : ∀ k f r vs, ¬ IsMsg zs k f r vs := fun k f r vs h => by have := h.len; omega
  have HN := Lib.hid hno
  clear hno hl
  have hB := (Below.refl w.heap.size w).alloc (Nat.le_refl _) (.cells #[.int .i64 0, .int .i64 0, .int .i64 0, .slice none 0 0] 57)
  have HB := Lib.hid hB
  clear hB
  go_enter Try.func26, Try.ntmps26
  go_wp2_with fail
  refine bodyPost_ret (v := .tuple #[.agg #[.int .i64 0, .int .i64 0, .int .i64 0, .slice none 0 0], .int .i64 1]) (by simp [results, Try.results26, go_sem]) rfl ⟨1, by decide, HN.out, rfl, ?_⟩
  exact HB.out

set_option maxRecDepth 100000 in
set_option maxHeartbeats 1000000 in
theorem dec_short (A : Option Addr) (n c : Nat) (zs : List Int) (w : World) (hl : zs.length = n) (hn : n < 12) :
    Calls Try.prog 26 #[.slice A n c] w (DecBad zs w) := by
  have hno : ∀ k f r vs, ¬ IsMsg zs k f r vs := fun k f r vs h => by have := h.len; omega
  have HN := Lib.hid hno
  clear hno hl
  have hB := (Below.refl w.heap.size w).alloc (Nat.le_refl _) (.cells #[.int .i64 0, .int .i64 0, .int .i64 0, .slice none 0 0] 57)
  have HB := Lib.hid hB
  clear hB
  go_enter Try.func26, Try.ntmps26
  go_wp2_with fail
  refine bodyPost_ret (v := .tuple #[.agg #[.int .i64 0, .int .i64 0, .int .i64 0, .slice none 0 0], .int .i64 2]) (by simp [results, Try.results26, go_sem]) rfl ⟨2, by decide, HN.out, rfl, ?_⟩
  exact HB.out

set_option maxRecDepth 100000 in
set_option maxHeartbeats 1000000 in
theorem dec_head (b off n c : Nat) (zs : List Int) (w : World) (h : Ints w .u8 (some ⟨b, off, none⟩) n zs) (hn : 12 ≤ n) (hn2 : n ≤ 220) (h0 : zs.getD 0 0 ≠ 87) (hz : Byts zs) :
    Calls Try.prog 26 #[.slice (some ⟨b, off, none⟩) n c] w (DecBad zs w) := by
  have hno : ∀ k f r vs, ¬ IsMsg zs k f r vs := fun k f r vs h => h0 h.at0
  have HN := Lib.hid hno
  have hB := (Below.refl w.heap.size w).alloc (Nat.le_refl _) (.cells #[.int .i64 0, .int .i64 0, .int .i64 0, .slice none 0 0] 57)
  have HB := Lib.hid hB
  obtain ⟨_, _, e0, hlt, hc⟩ := h.2 (by omega)
  cases e0
  have hc0 := hc 0 (by omega)
  have d0 := fun o => ((Below.refl w.heap.size w).alloc (Nat.le_refl _) o).cell (p := ⟨b, off, none⟩) hlt
  rw [Nat.add_zero] at hc0
  simp only [hc0] at d0
  have q0 : 0 < n := by omega
  have t0 : (zs.getD 0 0 != 87) = true := by rw [bne_iff_ne]; exact h0
  generalize zs.getD 0 0 = y at *
  clear hB hno h hc h0
  go_enter Try.func26, Try.ntmps26
  go_wp2_with fail
  refine bodyPost_ret (v := .tuple #[.agg #[.int .i64 0, .int .i64 0, .int .i64 0, .slice none 0 0], .int .i64 2]) (by simp [results, Try.results26, go_sem]) rfl ⟨2, by decide, HN.out, rfl, ?_⟩
  exact HB.out

/-- bytes of the right length, with a head and a right sum or a wrong one -/
def Opn (zs : List Int) (w w1 : World) (e : Ending) : Prop := (∃ A1 c1, tailTo zs (zs.length - 4) 4 = (sumFrom 0#32 (zs.take (zs.length - 4))).toNat ∧ e = .returned (.tuple #[.slice A1 (zs.length - 4) c1, .bool true]) ∧ NewBytes w w1 A1 (zs.length - 4) c1 (zs.take (zs.length - 4))) ∨ ((∀ k f r vs, ¬ IsMsg zs k f r vs) ∧ e = .returned (.tuple #[.slice none 0 0, .bool false]) ∧ Below w.heap.size w w1)
theorem opn_any (A : Option Addr) (n c : Nat) (zs : List Int) (w : World) (h : Ints w .u8 A n zs) (hA : A = none → n = 0 ∧ c = 0) (hnc : n ≤ c) (hn : n ≤ 220) (h4 : 12 ≤ n) (hz : Byts zs) :
    Calls Try.prog 32 #[.slice A n c] w fun e w' => Opn zs w w' e := by
  refine (open_any A n c zs w h hA hnc (by omega) hz).mono ?_
  intro e w' ho
  have hl := h.1
  rcases ho with ⟨_, h1, A', c', rfl, h2⟩ | ⟨h1, rfl, h2⟩
  · exact .inl ⟨A', c', h1, rfl, h2⟩
  · exact .inr ⟨fun k f r vs hm => h1 (by omega) hm.tail, rfl, h2⟩

set_option maxRecDepth 100000 in
set_option maxHeartbeats 2000000 in
/-- up to the numbers -/
theorem dec_head2 (b off n c : Nat) (zs : List Int) (w : World) (h : Ints w .u8 (some ⟨b, off, none⟩) n zs) (hnc : n ≤ c) (hn : 12 ≤ n) (hn2 : n ≤ 220) (h0 : zs.getD 0 0 = 87) (hz : Byts zs)
    (hbad : tailTo zs (zs.length - 4) 4 = (sumFrom 0#32 (zs.take (zs.length - 4))).toNat → 24 < (zs.take (zs.length - 4)).getD 7 0 ∨ ((zs.length - 4 : Nat) : Int) ≠ 8 + 8 * (zs.take (zs.length - 4)).getD 7 0) :
    Calls Try.prog 26 #[.slice (some ⟨b, off, none⟩) n c] w (DecBad zs w) := by
  have hP := Blk.new w 57 #[.int .i64 0, .int .i64 0, .int .i64 0, .slice none 0 0]
  have hB := (Below.refl w.heap.size w).alloc (Nat.le_refl _) (.cells #[.int .i64 0, .int .i64 0, .int .i64 0, .slice none 0 0] 57)
  have HB := Lib.hid hB
  have HP := Lib.hid hP
  have KO := Lib.hid (opn_any (some ⟨b, off, none⟩) n c zs _ (h.alloc (.cells #[.int .i64 0, .int .i64 0, .int .i64 0, .slice none 0 0] 57)) (fun e => by cases e) hnc hn2 hn hz)
  have hnb : ∀ k f r vs, IsMsg zs k f r vs → False := fun k f r vs hm => by
    have h1 := hbad hm.tail
    have h2 := hm.len
    rw [hm.take, (encB_at k f r vs).2.2.2.1] at h1
    omega
  have HNB := Lib.hid hnb
  have HBAD := Lib.hid hbad
  obtain ⟨_, _, e0, hlt, hc⟩ := h.2 (by omega)
  cases e0
  have hc0 := hc 0 (by omega)
  have d0 := fun o => ((Below.refl w.heap.size w).alloc (Nat.le_refl _) o).cell (p := ⟨b, off, none⟩) hlt
  rw [Nat.add_zero] at hc0
  simp only [hc0] at d0
  have q0 : 0 < n := by omega
  have hl := h.1
  have HL := Lib.hid hl
  have HZ := Lib.hid hz
  rw [h0] at d0
  have H0 := Lib.hid h0
  clear hB h hc h0 hbad hnb hP hl hz
  clear hc0
  go_enter Try.func26, Try.ntmps26
  go_wp2_with fail
  refine KO.out.mono ?_
  intro e w1 ho
  rcases ho with ⟨A1, c1, ht, rfl, hown, hB1⟩ | ⟨hno, rfl, hB1⟩
  · have hb2 := HBAD.out ht
    have HT := Lib.hid ht
    have P1 := Lib.hid (HP.out.next hB1)
    have B1 := Lib.hid (below_next HB.out hB1)
    have O1 := Lib.hid hown
    have f0 := P1.out.frozen 0
    have f1 := P1.out.frozen 1
    have f2 := P1.out.frozen 2
    have f3 := P1.out.frozen 3
    have d0' := P1.out.cell 0
    have d1' := P1.out.cell 1
    have d2' := P1.out.cell 2
    have d3' := P1.out.cell 3
    simp only [List.getElem?_toArray, List.getElem?_cons_zero, List.getElem?_cons_succ] at d0' d1' d2' d3'
    have hI := Ints.own hown
    obtain ⟨m, hm⟩ : ∃ m, zs.length - 4 = m := ⟨_, rfl⟩
    rw [hm] at hI hb2 O1 ⊢
    obtain ⟨b2, off2, rfl, hlt2, hc2⟩ := hI.2 (by have := HL.out; omega)
    have d7 := hc2 7 (by have := HL.out; omega)
    have q8 : 8 ≤ m := by have := HL.out; omega
    have q9 : m ≤ 216 := by have := HL.out; omega
    have hy : 0 ≤ (zs.take m).getD 7 0 ∧ (zs.take m).getD 7 0 ≤ 255 := by
      have hlt : 7 < (zs.take m).length := by have := HL.out; simp; omega
      simp only [List.getD, List.getElem?_eq_getElem hlt]
      exact HZ.out _ (List.mem_of_mem_take (List.getElem_mem _))
    obtain ⟨y0, y1⟩ := hy
    generalize (zs.take m).getD 7 0 = y at *
    clear ht hown hB1 hI hc2 hm
    by_cases h24 : 24 < y
    · clear hb2
      go_wp2_with fail
      refine bodyPost_ret (v := .tuple #[.agg #[.int .i64 0, .int .i64 0, .int .i64 0, .slice none 0 0], .int .i64 6]) (by simp [results, Try.results26, go_sem, d0', d1', d2', d3', f0, f1, f2, f3]) rfl ⟨6, by decide, HNB.out, rfl, ?_⟩
      exact (((B1.out.setCell (Nat.le_refl _) _).setCell (Nat.le_refl _) _).setCell (Nat.le_refl _) _).setCell (Nat.le_refl _) _
    · have h24' : y ≤ 24 := by omega
      have t2 : ((m : Int) != 8 + 8 * y) = true := by rw [bne_iff_ne]; exact hb2.resolve_left (by omega)
      clear hb2 h24
      go_wp2_with fail
      refine bodyPost_ret (v := .tuple #[.agg #[.int .i64 0, .int .i64 0, .int .i64 0, .slice none 0 0], .int .i64 2]) (by simp [results, Try.results26, go_sem, d0', d1', d2', d3', f0, f1, f2, f3]) rfl ⟨2, by decide, HNB.out, rfl, ?_⟩
      exact (((B1.out.setCell (Nat.le_refl _) _).setCell (Nat.le_refl _) _).setCell (Nat.le_refl _) _).setCell (Nat.le_refl _) _
  · have HN := Lib.hid hno
    have P1 := Lib.hid (HP.out.next hB1)
    have B1 := Lib.hid (below_next HB.out hB1)
    have f0 := P1.out.frozen 0
    have f1 := P1.out.frozen 1
    have f2 := P1.out.frozen 2
    have f3 := P1.out.frozen 3
    have d0' := P1.out.cell 0
    have d1' := P1.out.cell 1
    have d2' := P1.out.cell 2
    have d3' := P1.out.cell 3
    simp only [List.getElem?_toArray, List.getElem?_cons_zero, List.getElem?_cons_succ] at d0' d1' d2' d3'
    clear hno hB1
    go_wp2_with fail
    refine bodyPost_ret (v := .tuple #[.agg #[.int .i64 0, .int .i64 0, .int .i64 0, .slice none 0 0], .int .i64 5]) (by simp [results, Try.results26, go_sem, d0', d1', d2', d3', f0, f1, f2, f3]) rfl ⟨5, by decide, HN.out, rfl, ?_⟩
    exact (((B1.out.setCell (Nat.le_refl _) _).setCell (Nat.le_refl _) _).setCell (Nat.le_refl _) _).setCell (Nat.le_refl _) _
end Go.Proofs.Ytccebaadpjflkaa.Wr
