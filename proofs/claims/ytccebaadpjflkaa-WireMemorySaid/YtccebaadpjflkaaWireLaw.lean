/- The contract of wire.Decode for all bytes; of the helpers message, sameMessage, tells; a message that came in. -/
import Derived.Test.YtccebaadpjflkaaWireDec2
import Derived.Test.YtccebaadpjflkaaWireEnc
import Derived.Test.YtccebaadpjflkaaRoomy
import Derived.Test.YtccebaadpjflkaaOpen
import Derived.Lib.SmallJoins
set_option linter.unusedVariables false
namespace Go.Proofs.Ytccebaadpjflkaa.Wr
open Go.RowKit Go.Proofs.Ytccebaadpjflkaa Crc Ro Go.ChangeShapes Go.WideShapes Go.Joins

theorem Decode_any (A : Option Addr) (n c : Nat) (zs : List Int) (w : World) (h : Ints w .u8 A n zs) (hnc : n ≤ c) (hn : n ≤ 9223372036854775807) (hz : Byts zs) :
    Calls Try.prog 26 #[.slice A n c] w (DecPost zs w) := by
  have hl := h.1
  by_cases h1 : 220 < n
  · exact (dec_long A n c zs w hl h1 hn).mono fun _ _ => .inr
  by_cases h2 : n < 12
  · exact (dec_short A n c zs w hl h2).mono fun _ _ => .inr
  obtain ⟨b, off, rfl, -, -⟩ := h.2 (by omega)
  by_cases h3 : zs.getD 0 0 = 87
  · have hy : 0 ≤ (zs.take (zs.length - 4)).getD 7 0 := by
      have hlt : 7 < (zs.take (zs.length - 4)).length := by simp; omega
      simp only [List.getD, List.getElem?_eq_getElem hlt]
      exact (hz _ (List.mem_of_mem_take (List.getElem_mem _))).1
    by_cases h4 : tailTo zs (zs.length - 4) 4 = (sumFrom 0#32 (zs.take (zs.length - 4))).toNat ∧ (zs.take (zs.length - 4)).getD 7 0 ≤ 24 ∧ ((zs.length - 4 : Nat) : Int) = 8 + 8 * (zs.take (zs.length - 4)).getD 7 0
    · obtain ⟨h5, h6, h7⟩ := h4
      exact dec_nums b off n c zs w h hnc (by omega) (by omega) h3 hz h5 ((zs.take (zs.length - 4)).getD 7 0).toNat (by omega) (by omega) (by omega)
    · refine (dec_head2 b off n c zs w h hnc (by omega) (by omega) h3 hz (fun h5 => ?_)).mono fun _ _ => .inr
      by_cases h6 : 24 < (zs.take (zs.length - 4)).getD 7 0
      · exact .inl h6
      · exact .inr (fun h7 => h4 ⟨h5, by omega, h7⟩)
  · exact (dec_head b off n c zs w h (by omega) (by omega) h3 hz).mono fun _ _ => .inr

set_option maxRecDepth 100000 in
set_option maxHeartbeats 1000000 in
theorem message_any (k f r : Int) (A : Option Addr) (n c : Nat) (vs : List Int) (w : World) (h : Ints w .i64 A n vs) (hA : A = none → n = 0 ∧ c = 0) (hn : n * 8 ≤ 140737488355328) :
    Calls Try.prog 24 #[.agg #[.int .i64 k, .int .i64 f, .int .i64 r, .slice A n c]] w fun e w' => ∃ A' c', e = .returned (.agg #[.int .i64 k, .int .i64 f, .int .i64 r, .slice A' n c']) ∧
      w'.ownsRow w.heap.size 3 1 (.slice A' n c') n (vs.map (Value.int .i64)) ∧ Below w.heap.size w w' := by
  obtain ⟨j0, hj, hj0, hj1, hj2⟩ := info_parts infoIntW
  have hP := Blk.new w 57 #[.int .i64 k, .int .i64 f, .int .i64 r, .slice A n c]
  have HP := Lib.hid (hP.alloc (.cells #[.int .i64 0, .int .i64 0, .int .i64 0, .slice none 0 0] 57))
  have HZ := Lib.hid (Blk.at_ (w.alloc (.cells #[.int .i64 k, .int .i64 f, .int .i64 r, .slice A n c] 57)) (w.heap.size + 1) 57 #[.int .i64 0, .int .i64 0, .int .i64 0, .slice none 0 0] (by simp))
  have HB := Lib.hid (((Below.refl w.heap.size w).alloc (Nat.le_refl _) (.cells #[.int .i64 k, .int .i64 f, .int .i64 r, .slice A n c] 57)).alloc (by simp) (.cells #[.int .i64 0, .int .i64 0, .int .i64 0, .slice none 0 0] 57))
  have HI := Lib.hid ((h.alloc (.cells #[.int .i64 k, .int .i64 f, .int .i64 r, .slice A n c] 57)).alloc (.cells #[.int .i64 0, .int .i64 0, .int .i64 0, .slice none 0 0] 57))
  have HA := Lib.hid hA
  clear hP h hA
  go_enter Try.func24, Try.ntmps24
  go_wp2_with (at_builtin; refine wpList_append_ints rfl _ _ 55 rfl (w.heap.size + 2) 3 j0 (.int .i64 0) .i64 8 Try.underlying55 hj hj0 hj1 hj2 rfl (.slice none 0 0) 0 [] rfl (World.ownsRow_nil _ _ _ _) A n c vs rfl HA.out HI.out (by unfold maxLen; omega) (by omega) (by simp) ?_; intro v1 w1 hown1 hg1; (obtain ⟨A1, c1, rfl⟩ := own_shape hown1); have hP1 := HP.out.grown hg1 (by simp [Value.ownBlock]); have hZ1 := HZ.out.grown hg1 (by simp [Value.ownBlock]); have hB1 := HB.out.grown hg1 (by simp; omega) (fun j hj => by cases hj); have HP1 := Lib.hid hP1; have HZ1 := Lib.hid hZ1; have HB1 := Lib.hid hB1; have HO1 := Lib.hid hown1; have d0 := hP1.cell 0; have d1 := hP1.cell 1; have d2 := hP1.cell 2; have d3 := hP1.cell 3; have f3 := hP1.frozen 3; have z0 := hZ1.cell 0; have z1 := hZ1.cell 1; have z2 := hZ1.cell 2; have z3 := hZ1.cell 3; have y0 := hZ1.frozen 0; have y1 := hZ1.frozen 1; have y2 := hZ1.frozen 2; have y3 := hZ1.frozen 3; (simp only [List.getElem?_toArray, List.getElem?_cons_zero, List.getElem?_cons_succ] at d0 d1 d2 d3 z0 z1 z2 z3); clear hP1 hZ1 hB1 hown1 hg1)
  have O1 := HO1.out
  simp only [Nat.zero_add, List.nil_append] at O1
  have p3 : w.heap.size + 1 ≠ w.heap.size := by omega
  have HQ := ((((HZ1.out.far (p := ⟨w.heap.size, 3, none⟩) p3 (.slice A1 (0 + n) c1)).set_ 0 (.int .i64 k)).set_ 1 (.int .i64 f)).set_ 2 (.int .i64 r)).set_ 3 (.slice A1 (0 + n) c1)
  simp only [Nat.zero_add] at HQ
  have n1 := own_blk_ne O1 HP1.out (by decide)
  have n2 := own_blk_ne O1 HZ1.out (by decide)
  refine bodyPost_ret (v := .agg #[.int .i64 k, .int .i64 f, .int .i64 r, .slice A1 n c1]) (results_cell_row Try.results24 _ _ (w.heap.size + 1) _ _ (0, 0) _ rfl HQ Try.underlying57 rfl (by kernel_rfl)) rfl ⟨A1, c1, rfl, own_set (own_set (own_set (own_set (own_set (own_le O1 (by omega)) n1 _) n2 _) n2 _) n2 _) n2 _, ?_⟩
  have l1 : w.heap.size ≤ w.heap.size + 1 := by omega
  exact ((((HB1.out.setCell (Nat.le_refl _) _).setCell l1 _).setCell l1 _).setCell l1 _).setCell l1 _

set_option maxRecDepth 100000 in
set_option maxHeartbeats 1000000 in
theorem sameMsg_true (k f r : Int) (A B : Option Addr) (n c d : Nat) (vs : List Int) (w : World) (h : Ints w .i64 A n vs) (h2 : Ints w .i64 B n vs) (hn : n ≤ 140737488355328) :
    Calls Try.prog 27 #[.agg #[.int .i64 k, .int .i64 f, .int .i64 r, .slice A n c], .agg #[.int .i64 k, .int .i64 f, .int .i64 r, .slice B n d]] w fun e w' => e = .returned (.bool true) ∧ Below w.heap.size w w' := by
  have ks := fun W (hI : Ints W .i64 A n vs) (hJ : Ints W .i64 B n vs) => same_true A B n c d vs W hI hJ hn
  have KS := Lib.hid ks
  have H := Lib.hid ((h.alloc (.cells #[.int .i64 k, .int .i64 f, .int .i64 r, .slice A n c] 57)).alloc (.cells #[.int .i64 k, .int .i64 f, .int .i64 r, .slice B n d] 57))
  have H2 := Lib.hid ((h2.alloc (.cells #[.int .i64 k, .int .i64 f, .int .i64 r, .slice A n c] 57)).alloc (.cells #[.int .i64 k, .int .i64 f, .int .i64 r, .slice B n d] 57))
  have HB := Lib.hid (((Below.refl w.heap.size w).alloc (Nat.le_refl _) (.cells #[.int .i64 k, .int .i64 f, .int .i64 r, .slice A n c] 57)).alloc (by simp) (.cells #[.int .i64 k, .int .i64 f, .int .i64 r, .slice B n d] 57))
  have t0 : (k == k) = true := by simp
  have t1 : (f == f) = true := by simp
  have t2 : (r == r) = true := by simp
  clear ks h h2
  go_enter Try.func27, Try.ntmps27
  go_wp2_with fail
  refine (KS.out _ H.out H2.out).mono ?_
  rintro e w1 ⟨rfl, hB1⟩
  have B1 := Lib.hid (below_next HB.out hB1)
  clear hB1
  go_wp2_with fail
  go_ret
  exact ⟨rfl, B1.out⟩

theorem DecPost.ok {zs : List Int} {k f r : Int} {vs : List Int} {w w' : World} {e : Ending} (h : DecPost zs w e w') (hm : IsMsg zs k f r vs) : ∃ A c, e = .returned (.tuple #[.agg #[.int .i64 k, .int .i64 f, .int .i64 r, .slice A vs.length c], .int .i64 0]) ∧
    w'.ownsRow w.heap.size 3 1 (.slice A vs.length c) vs.length (vs.map (Value.int .i64)) ∧ Below w.heap.size w w' := by
  rcases h with ⟨k', f', r', vs', A, c, hm', rfl, ho, hB⟩ | ⟨er, _, hno, _, _⟩
  · obtain ⟨rfl, rfl, rfl, rfl⟩ := hm.same hm'
    exact ⟨A, c, rfl, ho, hB⟩
  · exact absurd hm (hno _ _ _ _)
theorem DecPost.bad {zs : List Int} {w w' : World} {e : Ending} (h : DecPost zs w e w') (hm : ∀ k f r vs, ¬ IsMsg zs k f r vs) : ∃ er : Int, er ≠ 0 ∧ e = .returned (.tuple #[zMsg, .int .i64 er]) ∧ Below w.heap.size w w' := by
  rcases h with ⟨k', f', r', vs', A, c, hm', rfl, ho, hB⟩ | ⟨er, h0, hno, he, hB⟩
  · exact absurd hm' (hm _ _ _ _)
  · exact ⟨er, h0, he, hB⟩

/-- a message that is right is encoded, and its bytes are decoded as it -/
theorem enc_ok (k f r : Int) (A : Option Addr) (n c : Nat) (vs : List Int) (w : World) (h : Ints w .i64 A n vs) (hv : ∀ v ∈ vs, In64 v) (hr : rightE k f r n = 0) :
    Calls Try.prog 23 #[.agg #[.int .i64 k, .int .i64 f, .int .i64 r, .slice A n c]] w fun e w' => ∃ A' c', e = .returned (.tuple #[.slice A' (8 + 8 * n + 4) c', .int .i64 0]) ∧ NewBytes w w' A' (8 + 8 * n + 4) c' (sealed (encB k f r vs)) := by
  have h24 := (right0.1 hr).2.2.2.2.2.2
  refine (Encode_any k f r A n c vs w h hv (by omega)).mono ?_
  rintro e w' (⟨_, h1⟩ | ⟨h1, _⟩)
  · exact h1
  · exact absurd hr h1
theorem dec_ok (A : Option Addr) (n c : Nat) (k f r : Int) (vs : List Int) (w w0 : World) (hr : rightE k f r vs.length = 0) (hv : ∀ v ∈ vs, In64 v) (hl : vs.length = n) (h : w.ownsRow 0 5 1 (.slice A (8 + 8 * n + 4) c) (8 + 8 * n + 4) ((sealed (encB k f r vs)).map (Value.int .u8))) :
    Calls Try.prog 26 #[.slice A (8 + 8 * n + 4) c] w fun e w' => ∃ A c, e = .returned (.tuple #[.agg #[.int .i64 k, .int .i64 f, .int .i64 r, .slice A n c], .int .i64 0]) ∧
      w'.ownsRow w.heap.size 3 1 (.slice A n c) n (vs.map (Value.int .i64)) ∧ Below w.heap.size w w' := by
  subst hl
  have h24 := (right0.1 hr).2.2.2.2.2.2
  exact (Decode_any A _ c _ w (Ints.own h) (own_none h).2.2 (by omega) (sealed_in _ (encB_in k f r vs hr))).mono fun e w' hp => hp.ok ⟨hr, hv, rfl⟩

set_option maxRecDepth 100000 in
set_option maxHeartbeats 1000000 in
theorem tells_any (w : World) : Calls Try.prog 25 #[] w fun e w' => e = .returned (.bool true) ∧ Below w.heap.size w w' := by
  have hr : rightE 3 3 7 1 = 0 := by decide
  have hv : ∀ v ∈ [(-1 : Int)], In64 v := by intro v h; simp at h; subst h; unfold In64; omega
  have hI : Ints (w.alloc (.cells #[.int .i64 (-1)] 3)) .i64 (some ⟨w.heap.size, 0, none⟩) 1 [-1] := ⟨rfl, fun _ => ⟨w.heap.size, 0, rfl, by simp, fun j hj => by
    obtain rfl : j = 0 := by omega
    exact (Blk.new w 3 #[.int .i64 (-1)]).cell 0⟩⟩
  have KE := Lib.hid (enc_ok 3 3 7 (some ⟨w.heap.size, 0, none⟩) 1 1 [-1] _ hI hv hr)
  have HB := Lib.hid ((Below.refl w.heap.size w).alloc (Nat.le_refl _) (.cells #[.int .i64 (-1)] 3))
  have HV := Lib.hid hv
  clear hI hv
  go_enter Try.func25, Try.ntmps25
  go_wp2_with fail
  refine KE.out.mono ?_
  rintro e w1 ⟨A1, c1, rfl, hown1, hB1⟩
  have B1 := Lib.hid (below_next HB.out hB1)
  go_wp2_with fail
  refine (dec_ok A1 1 c1 3 3 7 [-1] _ w hr HV.out rfl (own_le hown1 (Nat.zero_le _))).mono ?_
  rintro e w2 ⟨A2, c2, rfl, hown2, hB2⟩
  have B2 := Lib.hid (below_next B1.out hB2)
  obtain ⟨g, cap, e0, hg, hgl, hgc⟩ := own_form hown2 (by omega)
  injection e0 with e1 e2 e3
  subst e1 e3
  have d0 := fun o => (hown2.alloc o).cellAt 0 (by omega)
  simp only [List.map_cons, List.map_nil, List.getElem?_cons_zero] at d0
  have B3 := Lib.hid (B2.out.alloc B2.out.size (.cells #[.int .i64 3, .int .i64 3, .int .i64 7, .slice (some ⟨g, 0, none⟩) 1 c2] 57))
  clear hown1 hown2 hB1 hB2
  go_wp2_with fail
  go_ret
  exact ⟨rfl, B3.out⟩

set_option maxRecDepth 100000 in
theorem msg_in {H : Type} {enc : TypeId × Value → H} {W : World} {base : Nat} {v : Value} {d : DataW H} {p : List MemPlace} (h : Value.okWide Try.prog W .any base 57 v)
    (k : DataW.Trod enc Try.prog W 0 (fun _ => true) true 57 v d p) (hw : ∀ x ∈ d.weights Try.prog 57, x ≤ reachBytes) :
    ∃ (K F R : Int) (A : Option Addr) (n c : Nat) (zs : List Int), v = .agg #[.int .i64 K, .int .i64 F, .int .i64 R, .slice A n c] ∧ Ints W .i64 A n zs ∧ (∀ z ∈ zs, In64 z) ∧ (A = none → n = 0 ∧ c = 0) ∧ n ≤ c ∧ n * 8 ≤ 140737488351232 ∧ In64 K ∧ In64 F ∧ In64 R := by
  obtain ⟨l, hl1, hl2, hl3⟩ := ok_agg (.inl ⟨_, Try.underlying57⟩) (ts := [3, 3, 3, 55]) (by kernel_rfl) (by kernel_rfl) h
  obtain ⟨v0, v1, v2, v3, y0, y1, y2, y3, m, rfl, rfl, _, k0, k1, k2, k3⟩ := open_agg4 Try.underlying57 (by kernel_rfl) (by kernel_rfl) h k
  have hl : l = [v0, v1, v2, v3] := by injection hl1 with hl1; simpa using congrArg Array.toList hl1.symm
  subst hl
  obtain ⟨K, rfl, iK⟩ := okCell_int Try.underlying3 (hl3 0 _ _ rfl rfl)
  obtain ⟨F, rfl, iF⟩ := okCell_int Try.underlying3 (hl3 1 _ _ rfl rfl)
  obtain ⟨R, rfl, iR⟩ := okCell_int Try.underlying3 (hl3 2 _ _ rfl rfl)
  obtain ⟨A, n, c, rfl, hnc, _, hA, _⟩ := okCell_slice Try.underlying55 (hl3 3 _ _ rfl rfl)
  have hb : Try.prog.bytesOf 3 = 8 := by kernel_rfl
  obtain ⟨zs, hI, hz, _, hr⟩ := ints_in Try.underlying55 Try.underlying3 (by kernel_rfl) (enc := enc) (d := y3.1) (p := y3.2) ⟨m, k3⟩ (by
    intro es sp he
    have hm := DataW.weights_mem_each (P := Try.prog) (ts := [3, 3, 3, 55]) (ds := [y0.1, y1.1, y2.1, y3.1]) (j := 3) rfl rfl ((es.length + sp.length) * Try.prog.bytesOf 3) (by rw [he]; simp [DataW.weights, Try.underlying55])
    refine hw _ ?_
    simp only [DataW.weights, Try.underlying57]
    exact hm)
  rw [hb] at hr
  unfold reachBytes at hr
  refine ⟨K, F, R, A, n, c, zs, rfl, hI, fun z h => ?_, hA, hnc, by omega, in_i64 iK, in_i64 iF, in_i64 iR⟩
  unfold In64
  simpa [Lit.wf, IntKind.has, IntKind.min, IntKind.max, IntKind.signed, IntKind.bits] using hz z h
end Go.Proofs.Ytccebaadpjflkaa.Wr
