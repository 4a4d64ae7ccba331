/- The walk of MiddleMoves: the shifted list has the shifted middle. -/
import Derived.Test.YtaobnddnefabeaaMidLaw
import Derived.Test.YtaobnddnefabeaaAppend
import Derived.Deep.AppendLies
set_option linter.unusedVariables false
namespace Go.Proofs.Ytaobnddnefabeaa.lawMiddleMoves
open Go.RowKit Go.Proofs.Ytaobnddnefabeaa Md

theorem infoInt : (Try.prog.info? 3).map (fun i => (i.zero, i.size, i.bytes)) = some (some (.int .i64 0), 1, 8) := by kernel_rfl
/-- the first j numbers counted round -/
def rnd (zs : List Int) (j : Nat) : List Int := (zs.take j).map (· % 1099511627776)
theorem rnd_succ {zs : List Int} {j : Nat} (h : j < zs.length) : rnd zs (j + 1) = rnd zs j ++ [zs.getD j 0 % 1099511627776] := by
  unfold rnd
  rw [List.take_succ_eq_append_getElem h, List.map_append, List.getD, List.getElem?_eq_getElem h]; rfl
theorem rnd_bd (zs : List Int) (j : Nat) : ∀ z ∈ rnd zs j, 0 ≤ z ∧ z ≤ 1099511627775 := by
  intro z hz
  obtain ⟨x, _, rfl⟩ := List.mem_map.1 hz
  have h1 := Int.emod_nonneg x (b := 1099511627776) (by omega)
  have h2 := Int.emod_lt_of_pos x (b := 1099511627776) (by omega)
  omega
/-- two rows of their own, apart -/
def Two (w W : World) (ls ms : List Int) (va vb : Value) : Prop :=
  W.ownsRow w.heap.size 3 1 va ls.length (ls.map (Value.int .i64)) ∧ W.ownsRow w.heap.size 3 1 vb ms.length (ms.map (Value.int .i64)) ∧ (∀ x, va.ownBlock = some x → vb.ownBlock ≠ some x) ∧ Below w.heap.size w W
theorem Two.start (w : World) : Two w w [] [] (.slice none 0 0) (.slice none 0 0) := ⟨World.ownsRow_nil _ _ _ _, World.ownsRow_nil _ _ _ _, fun x h => (by simp [Value.ownBlock] at h), Below.refl _ _⟩
theorem apart_or {va vb : Value} (h : ∀ x, va.ownBlock = some x → vb.ownBlock ≠ some x) : vb.ownBlock = none ∨ vb.ownBlock ≠ va.ownBlock := by
  cases hb : vb.ownBlock with
  | none => exact .inl rfl
  | some y =>
    refine .inr fun e => ?_
    exact h y e.symm hb
theorem Two.left {w W W' : World} {ls ms : List Int} {va vb : Value} {x : Int} {g cap : Nat} (h : Two w W ls ms va vb) (o : Obj) (hown : W'.ownsRow w.heap.size 3 1 (.slice (some ⟨g, 0, none⟩) (ls.length + 1) cap) (ls.length + 1) (ls.map (Value.int .i64) ++ [.int .i64 x]))
    (hg : (W.alloc o).grownBy W' va.ownBlock) (hat : va.ownBlock = some g ∨ g = W.heap.size + 1) : Two w W' (ls ++ [x]) ms (.slice (some ⟨g, 0, none⟩) (ls.length + 1) cap) vb := by
  obtain ⟨h1, h2, h3, h4⟩ := h
  refine ⟨by simpa using hown, (h2.alloc o).kept hg (apart_or h3), fun y hy hb => ?_, (h4.alloc h4.size o).grown hg (by have := h4.size; simp; omega) (fun j hj => (h1.lt j hj).1)⟩
  simp [Value.ownBlock] at hy
  subst hy
  rcases hat with e | e
  · exact h3 _ e hb
  · have := (h2.lt _ hb).2; omega
theorem Two.right {w W W' : World} {ls ms : List Int} {va vb : Value} {x : Int} {g cap : Nat} (h : Two w W ls ms va vb) (o : Obj) (hown : W'.ownsRow w.heap.size 3 1 (.slice (some ⟨g, 0, none⟩) (ms.length + 1) cap) (ms.length + 1) (ms.map (Value.int .i64) ++ [.int .i64 x]))
    (hg : (W.alloc o).grownBy W' vb.ownBlock) (hat : vb.ownBlock = some g ∨ g = W.heap.size + 1) : Two w W' ls (ms ++ [x]) va (.slice (some ⟨g, 0, none⟩) (ms.length + 1) cap) := by
  obtain ⟨h1, h2, h3, h4⟩ := h
  refine ⟨(h1.alloc o).kept hg (apart_or fun x hx hx' => h3 x hx' hx), by simpa using hown, fun y hy hb => ?_, (h4.alloc h4.size o).grown hg (by have := h4.size; simp; omega) (fun j hj => (h2.lt j hj).1)⟩
  simp [Value.ownBlock] at hb
  subst hb
  rcases hat with e | e
  · exact h3 _ hy e
  · have := (h1.lt _ hy).2; omega
def Rel (w : World) (n : Nat) (zs : List Int) (by_ : Int) (va vb iv : Value) (W : World) : Prop := ∃ j : Nat, j ≤ n ∧ j ≤ 64 ∧ iv = .int .i64 j ∧ Two w W (rnd zs j) ((rnd zs j).map (· + by_)) va vb

set_option maxRecDepth 100000 in
set_option maxHeartbeats 2000000 in
theorem walk1 (A : Option Addr) (n c : Nat) (zs : List Int) (x : Int) (w : World) (h : Ints w .i64 A n zs) (hn : n ≤ 140737488355328) :
    Calls Try.prog 10 #[.slice A n c, .int .i64 x] w fun e w' => e = .returned (.bool true) ∧ Below w.heap.size w w' := by
  obtain ⟨i0, hi, hz0, hz1, hz2⟩ := info_parts infoInt
  have ks := fun W => spot_any x 1099511627776 W (by omega) (by omega)
  have b1 := Int.emod_nonneg x (b := 1099511627776) (by omega)
  have b2 := Int.emod_lt_of_pos x (b := 1099511627776) (by omega)
  generalize x % 1099511627776 = s at *
  have KS := Lib.hid ks
  obtain ⟨hzl, hI2⟩ := h
  have HL := Lib.hid hzl
  have HI := Lib.hid hI2
  clear ks hzl hI2
  go_enter Try.func10, Try.ntmps10
  go_wp2_with fail
  refine (KS.out _).mono ?_
  rintro e w' ⟨rfl, rfl⟩
  go_wp2_with fail
  go_loopw [5, 6, 7] (fun va vb i wr => Rel w n zs s va vb i wr) (fun _ _ i _ => 64 - (intOf i).toNat)
  case atStart => exact ⟨0, by omega, by omega, rfl, Two.start _⟩
  case round =>
    obtain ⟨j, hjn, hj64, rfl, hT⟩ := hrel
    by_cases hlt : j < n ∧ j < 64
    · obtain ⟨hl1, hl2⟩ := hlt
      obtain ⟨b, off, rfl, hblt, hc⟩ := HI.out (by omega)
      have d0 := (hT.2.2.2.cell (p := ⟨b, off + j, none⟩) hblt).trans (hc j hl1)
      have hsn := rnd_succ (zs := zs) (j := j) (by have := HL.out; omega)
      have hlen : (rnd zs j).length = j := by unfold rnd; rw [List.length_map, List.length_take]; have := HL.out; omega
      have kv := fun W => spot_any (zs.getD j 0) 1099511627776 W (by omega) (by omega)
      have v1 := Int.emod_nonneg (zs.getD j 0) (b := 1099511627776) (by omega)
      have v2 := Int.emod_lt_of_pos (zs.getD j 0) (b := 1099511627776) (by omega)
      generalize zs.getD j 0 = z at *
      generalize z % 1099511627776 = y at *
      have KV := Lib.hid kv
      have HS := Lib.hid hsn
      have HT := Lib.hid hT
      have HN := Lib.hid hlen
      have HB := Lib.hid hT.2.2.2.size
      have t1 : decide (j < n) = true := decide_eq_true hl1
      have t2 : decide ((j : Int) < 64) = true := decide_eq_true (by omega)
      have z1 : (0 : Int) ≤ (j : Int) := by omega
      have z2 : (j : Int) < (n : Int) := by omega
      clear hc hsn kv hT hlen
      go_wp2_with (first
        | (go_at_call 16; (with_reducible refine (KV.out _).mono ?_); rintro e w1 ⟨rfl, rfl⟩)
        | (at_builtin; (refine wpList_append_lies _ rfl (.tmp 30) (.tmp 32) 51 rfl w.heap.size 3 i0 (.int .i64 0) 1 8 Try.underlying51 hi hz0 hz1 hz2 rfl (by decide) _ _ _ rfl (HT.out.1.alloc _) ⟨wr.heap.size, 0, none⟩ 1 1 [.int .i64 y] rfl rfl (cell_one_new _ _ _) (by intro u hu; simp at hu; subst hu; rfl) (by decide) (by have := HN.out; unfold maxLen; omega) (by have := HN.out; omega) (by have := HB.out; simp; omega) (wr.heap.size + 1) (by simp) ?_); intro g' cap w2 hown2 hg2 hat hlt2)
        | (at_builtin; (refine wpList_append_lies _ rfl (.tmp 34) (.tmp 38) 51 rfl w.heap.size 3 i0 (.int .i64 0) 1 8 Try.underlying51 hi hz0 hz1 hz2 rfl (by decide) _ _ _ rfl ((HT.out.left _ hown2 hg2 hat).2.1.alloc _) ⟨w2.heap.size, 0, none⟩ 1 1 [.int .i64 (y + s)] rfl rfl (cell_one_new _ _ _) (by intro u hu; simp at hu; subst hu; rfl) (by decide) (by have := HN.out; simp; unfold maxLen; omega) (by have := HN.out; simp; omega) (by have := (HT.out.left _ hown2 hg2 hat).2.2.2.size; simp; omega) (w2.heap.size + 1) (by simp) ?_); intro g2 cap2 w3 hown3 hg3 hat3 hlt3))
      go_roundw
      case rel =>
        refine ⟨j + 1, by omega, by omega, by go_num, ?_⟩
        rw [HS.out, List.map_append]
        have hR := (HT.out.left _ hown2 hg2 hat).right _ hown3 hg3 hat3
        rw [List.length_map] at hR
        exact hR
      case measure => simp [intOf]; omega
    · have hlen : (rnd zs j).length = j := by unfold rnd; rw [List.length_map, List.length_take]; have := HL.out; omega
      have hbd := rnd_bd zs j
      generalize rnd zs j = rs at *
      obtain ⟨hA, hB, -, hW⟩ := hT
      obtain ⟨A1, c1, rfl⟩ := own_shape hA
      obtain ⟨A2, c2, rfl⟩ := own_shape hB
      have iA := Ints.own hA
      have iB := Ints.own hB
      have km1 := fun W (hI : Ints W .i64 A1 rs.length rs) => Middle_any A1 rs.length c1 rs W hI (fun z hz => by have := hbd z hz; unfold In64; omega) (by omega)
      have km2 := fun W (hI : Ints W .i64 A2 (rs.map (· + s)).length (rs.map (· + s))) => Middle_any A2 (rs.map (· + s)).length c2 (rs.map (· + s)) W hI (fun z hz => by
        obtain ⟨y, hy, rfl⟩ := List.mem_map.1 hz
        have := hbd y hy
        unfold In64; omega) (by rw [List.length_map]; omega)
      have hsh : 0 < j → 0 ≤ midV rs ∧ midV rs ≤ 1099511627775 ∧ midV (rs.map (· + s)) = midV rs + s ∧ midE rs.length = 0 := fun h0 => by
        have e1 := midV_ok (zs := rs) (by omega) (by omega)
        have e2 := midV_ok (zs := rs.map (· + s)) (by rw [List.length_map]; omega) (by rw [List.length_map]; omega)
        have e3 := mid_guard (lies := []) (good := rs) (by simp; omega) (lo := 0) (hi := 1099511627775) hbd
        rw [List.nil_append] at e3
        rw [e2, e1, mid_shift _ _ (by omega)]
        exact ⟨e3.1, e3.2, rfl, midE_ok (by omega) (by omega)⟩
      rw [List.length_map] at km2 iB
      have h0E : j = 0 → midE rs.length = 8 := fun h => midE_bad (.inl (by omega))
      generalize midV (rs.map (· + s)) = mv2 at *
      generalize midV rs = mv at *
      generalize midE rs.length = me at *
      rw [hlen] at km1 km2 iA iB ⊢
      rw [List.length_map, hlen]
      have KM1 := Lib.hid km1
      have KM2 := Lib.hid km2
      have IA := Lib.hid iA
      have IB := Lib.hid iB
      have W0 := Lib.hid hW
      clear km1 km2 iA iB hA hB hW hbd hlen HI HL KS
      have tm : (me == me) = true := by simp
      have fin : ∀ W : World, Calls Try.prog 27 #[] W fun e w' => e = .returned (.bool true) ∧ Below W.heap.size W w' := middles_any
      have FIN := Lib.hid fin
      clear fin
      rcases Nat.eq_zero_or_pos j with h0 | h0
      · obtain rfl := h0E h0
        subst h0
        obtain rfl : n = 0 := by omega
        clear hsh h0E hlt
        go_wp2_with fail
        refine (KM1.out _ IA.out).mono ?_
        rintro e w1 ⟨rfl, hB1⟩
        have F1 := Lib.hid (below_next W0.out hB1)
        have IB1 := Lib.hid (IB.out.next hB1)
        clear hB1
        go_wp2_with fail
        refine (KM2.out _ IB1.out).mono ?_
        rintro e w2 ⟨rfl, hB2⟩
        have F2 := Lib.hid (below_next F1.out hB2)
        clear hB2
        go_wp2_with fail
        refine (FIN.out _).mono ?_
        rintro e w3 ⟨rfl, hB3⟩
        have F3 := Lib.hid (below_next F2.out hB3)
        clear hB3
        go_wp2_with fail
        go_ret
        exact ⟨rfl, F3.out⟩
      · obtain ⟨e1, e2, rfl, rfl⟩ := hsh h0
        have tv : (mv + s == mv + s) = true := by simp
        clear hsh h0E
        by_cases hjn' : j < n
        · have t1 : decide (j < n) = true := decide_eq_true hjn'
          have t2 : decide ((j : Int) < 64) = false := decide_eq_false (by omega)
          clear hlt
          go_wp2_with fail
          refine (KM1.out _ IA.out).mono ?_
          rintro e w1 ⟨rfl, hB1⟩
          have F1 := Lib.hid (below_next W0.out hB1)
          have IB1 := Lib.hid (IB.out.next hB1)
          clear hB1
          go_wp2_with fail
          refine (KM2.out _ IB1.out).mono ?_
          rintro e w2 ⟨rfl, hB2⟩
          have F2 := Lib.hid (below_next F1.out hB2)
          clear hB2
          go_wp2_with fail
          refine (FIN.out _).mono ?_
          rintro e w3 ⟨rfl, hB3⟩
          have F3 := Lib.hid (below_next F2.out hB3)
          clear hB3
          go_wp2_with fail
          go_ret
          exact ⟨rfl, F3.out⟩
        · have t1 : decide (j < n) = false := decide_eq_false hjn'
          clear hlt
          go_wp2_with fail
          refine (KM1.out _ IA.out).mono ?_
          rintro e w1 ⟨rfl, hB1⟩
          have F1 := Lib.hid (below_next W0.out hB1)
          have IB1 := Lib.hid (IB.out.next hB1)
          clear hB1
          go_wp2_with fail
          refine (KM2.out _ IB1.out).mono ?_
          rintro e w2 ⟨rfl, hB2⟩
          have F2 := Lib.hid (below_next F1.out hB2)
          clear hB2
          go_wp2_with fail
          refine (FIN.out _).mono ?_
          rintro e w3 ⟨rfl, hB3⟩
          have F3 := Lib.hid (below_next F2.out hB3)
          clear hB3
          go_wp2_with fail
          go_ret
          exact ⟨rfl, F3.out⟩

set_option maxRecDepth 100000 in
theorem walk {H : Type} {enc : TypeId × Value → H} {d0 d1 : DataW H} {p0 p1 : List MemPlace} (v0 v1 : Value) (W : World) (base : Nat)
    (h0 : Value.okWide Try.prog W .any base 51 v0) (k0 : DataW.Trod enc Try.prog W 0 (fun _ => true) true 51 v0 d0 p0)
    (h1 : Value.okWide Try.prog W .any base 3 v1) (_ : DataW.Trod enc Try.prog W 0 (fun _ => true) true 3 v1 d1 p1)
    (s0 : ∀ es sp, d0 = .slice es sp → (es.length + sp.length) * Try.prog.bytesOf 3 ≤ reachBytes) :
    Calls Try.prog 10 #[v0, v1] W fun e w' => e = .returned (.bool true) ∧ Below W.heap.size W w' := by
  obtain ⟨A, n, c, zs, rfl, hI, hz, hA, hnc, hc⟩ := list_in h0 k0 s0
  obtain ⟨x, rfl, _⟩ := ok_int Try.underlying3 h1
  exact walk1 A n c zs x W hI (by omega)
end Go.Proofs.Ytaobnddnefabeaa.lawMiddleMoves
