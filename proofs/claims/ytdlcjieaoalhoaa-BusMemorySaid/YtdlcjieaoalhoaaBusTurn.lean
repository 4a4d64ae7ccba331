/- bus.Turn. -/
import Derived.Test.YtdlcjieaoalhoaaBusFind
import Derived.BigGuard
import Derived.Sort.Walk13
import Derived.Laws.BitsAllLaws
set_option linter.unusedVariables false
namespace Go.Proofs.Ytdlcjieaoalhoaa.Bs
open Go.RowKit Go.Proofs.Ytdlcjieaoalhoaa Crc Sm

theorem Found.eq {L : List Pc} {s k : Int} {i : Nat} {p : Pc} (h : Found L s k) (hp : L[i]? = some p) (hs : p.se = s) (hf : ∀ (j : Nat) (q : Pc), j < i → L[j]? = some q → q.se ≠ s) : k = i := by
  rcases h with ⟨_, h⟩ | ⟨j, q, rfl, hq, hqs, hqf⟩
  · exact absurd hs (h p (List.mem_of_getElem? hp))
  · have h1 : ¬ j < i := fun hj => hf j q hj hq hqs
    have h2 : ¬ i < j := fun hj => hqf i p hj hp hs
    have : j = i := by omega
    rw [this]
theorem turn_results {W : World} {g : Nat} {cs : Array Value} (h : Blk W g 25 cs) (h3c : cs.size = 3) (e : Value) (tmps : Array Value) (h2 : tmps.getD 8 undef = .pointer (some ⟨g, 0, none⟩)) (h3 : tmps.getD 9 undef = e) :
    (results Try.f11 tmps).run Try.prog W = .ok (.tuple #[.agg cs, e]) W := by
  have h2' : tmps[8]?.getD undef = .pointer (some ⟨g, 0, none⟩) := by simpa using h2
  have h3' : tmps[9]?.getD undef = e := by simpa using h3
  simp [results, Try.results11, h2', h3', asAddr, run_loadVar_row (P := Try.prog) W g _ 25 cs (0, 0) _ h Try.underlying25 rfl (by rw [h3c]; kernel_rfl)]
/-- the index that is found -/
theorem find_at {now ser s : Int} {A : Option Addr} {n c : Nat} {L : List Pc} {w : World} (h : QR w A n c L) (hn : n ≤ 100000) {i : Nat} {p : Pc} (hp : L[i]? = some p) (hs : p.se = s) (hf : ∀ (j : Nat) (q : Pc), j < i → L[j]? = some q → q.se ≠ s) :
    Calls Try.prog 25 #[.agg #[.int .i64 now, .int .i64 ser, .slice A n c], .int .i64 s] w fun e w' => e = .returned (.int .i64 i) ∧ Below w.heap.size w w' :=
  (find_any now ser s A n c L w h hn).mono fun e w' h => by
    obtain ⟨⟨k, he, hF⟩, hB⟩ := h
    rw [he, hF.eq hp hs hf]
    exact ⟨rfl, hB⟩

theorem flat_congr : ∀ L M : List Pc, L.map Pc.cells = M.map Pc.cells → flat L = flat M
  | [], [], _ => rfl
  | [], _ :: _, h => by simp at h
  | _ :: _, [], h => by simp at h
  | a :: L, b :: M, h => by
    simp only [List.map_cons, List.cons.injEq] at h
    rw [flat, flat, h.1, flat_congr L M h.2]
theorem map_set_same {α β : Type} (f : α → β) (L : List α) (i : Nat) (p q : α) (hp : L[i]? = some p) (h : f q = f p) : (L.set i q).map f = L.map f := by
  rw [List.map_set, h]
  apply List.ext_getElem?
  intro j
  rw [List.getElem?_set]
  split
  · rename_i e
    subst e
    have : i < (L.map f).length := by have := (List.getElem?_eq_some_iff.1 hp).1; simpa using this
    rw [if_pos this, List.getElem?_map, hp]; rfl
  · rfl
/-- a byte of a row of one's own is written -/
theorem QO.setByte {w : World} {base : Nat} {v : Value} {L : List Pc} {i g a : Nat} {p : Pc} {z : Int} (h : QO w base v L) (hp : L[i]? = some p) (hA : p.A = some ⟨g, 0, none⟩) (ha : a < p.n) (hz : 0 ≤ z ∧ z ≤ 255) :
    QO (w.setCell ⟨g, a, none⟩ (.int .u8 z)) base v (L.set i { p with zs := p.zs.set a z }) := by
  have hm : p ∈ L := List.mem_of_getElem? hp
  have ho := h.2.1 p hm
  have hob : p.sl.ownBlock = some g := by unfold Pc.sl; rw [hA]; rfl
  refine ⟨?_, fun q hq => ?_, ?_⟩
  · have h1 := h.1.kept (grown_set w g a (.int .u8 z)) (by have := own_own_ne h.1 ho.1 (by decide); rw [show (Value.slice p.A p.n p.c).ownBlock = some g from hob] at this; exact this)
    rw [List.length_set, flat_congr (L.set i { p with zs := p.zs.set a z }) L (map_set_same Pc.cells L i p { p with zs := p.zs.set a z } hp rfl)]
    exact h1
  · obtain ⟨j, hj⟩ := List.mem_iff_getElem?.1 hq
    rw [List.getElem?_set] at hj
    split at hj
    · split at hj
      · cases hj
        have h2 := ho.1
        rw [hA] at h2
        refine ⟨?_, ho.2.1, fun x hx => ?_⟩
        · have := own_set_in h2 ha (.int .u8 z)
          show World.ownsRow _ _ _ _ (.slice p.A p.n p.c) _ _
          rw [hA, List.map_set]; exact this
        · rcases List.mem_or_eq_of_mem_set hx with h3 | h3
          · exact ho.2.2 x h3
          · rw [h3]; exact hz
      · cases hj
    · rename_i hne
      have hqm : q ∈ L := List.mem_of_getElem? hj
      have hqo := h.2.1 q hqm
      refine ⟨hqo.1.kept (grown_set w g a _) ?_, hqo.2⟩
      have hap : ∀ x, p.sl.ownBlock = some x → q.sl.ownBlock ≠ some x := by
        have hpw := List.pairwise_iff_getElem.1 h.2.2
        obtain ⟨hi1, hi2⟩ := List.getElem?_eq_some_iff.1 hp
        obtain ⟨hj1, hj2⟩ := List.getElem?_eq_some_iff.1 hj
        rcases Nat.lt_or_gt_of_ne hne with hl | hl
        · have := hpw i j hi1 hj1 hl
          rw [hi2, hj2] at this; exact this
        · have := (hpw j i hj1 hi1 hl).symm
          rw [hi2, hj2] at this; exact this
      exact .inr (hap g hob)
  · have e : (L.set i { p with zs := p.zs.set a z }).map Pc.sl = L.map Pc.sl := map_set_same Pc.sl L i p _ hp rfl
    have h1 : (L.map Pc.sl).Pairwise (fun u u' => ∀ x, u.ownBlock = some x → u'.ownBlock ≠ some x) := List.pairwise_map.2 h.2.2
    rw [← e] at h1
    exact (List.pairwise_map (f := Pc.sl)).1 h1

theorem xr_in (z m : Int) (hz : 0 ≤ z ∧ z ≤ 255) (hm : 0 ≤ m ∧ m ≤ 255) : 0 ≤ bits .xor .u8 z m ∧ bits .xor .u8 z m ≤ 255 := by
  rw [u8_xor z m hz.1 (by omega) hm.1 (by omega)]
  have : z.toNat ^^^ m.toNat < 2 ^ 8 := Nat.xor_lt_two_pow (by omega) (by omega)
  omega
theorem xr_twice (z m : Int) (hz : 0 ≤ z ∧ z ≤ 255) (hm : 0 ≤ m ∧ m ≤ 255) : bits .xor .u8 (bits .xor .u8 z m) m = z := by
  have h := xr_in z m hz hm
  rw [u8_xor _ m h.1 (by omega) hm.1 (by omega), u8_xor z m hz.1 (by omega) hm.1 (by omega)]
  rw [Int.toNat_natCast, Nat.xor_assoc, Nat.xor_self, Nat.xor_zero]
  omega
/-- what Turn answers -/
def TurnPost (now ser m : Int) (a i : Nat) (p : Pc) (n : Nat) (L : List Pc) (w : World) (e : Ending) (w' : World) : Prop :=
  ∃ A' c' L', e = .returned (.tuple #[.agg #[.int .i64 now, .int .i64 ser, .slice A' n c'], .int .i64 0]) ∧ QO w' w.heap.size (.slice A' n c') L' ∧
    L'.map Pc.key = (L.map Pc.key).set i (p.fr, p.to, p.du, p.se, p.zs.set a (bits .xor .u8 (p.zs.getD a 0) m)) ∧ Below w.heap.size w w'

set_option maxRecDepth 100000 in
set_option maxHeartbeats 8000000 in
theorem Turn_ok (now ser s m : Int) (a i : Nat) (p : Pc) (A : Option Addr) (n c : Nat) (L : List Pc) (w : World) (h : QR w A n c L) (hn : n ≤ 1000) (hp : L[i]? = some p) (hs : p.se = s) (hf : ∀ (j : Nat) (q : Pc), j < i → L[j]? = some q → q.se ≠ s)
    (ha : a < p.n) (hm0 : 0 ≤ m) (hm1 : m ≤ 255) :
    Calls Try.prog 11 #[.agg #[.int .i64 now, .int .i64 ser, .slice A n c], .int .i64 s, .int .i64 (a : Nat), .int .i64 m] w (TurnPost now ser m a i p n L w) := by
  have hBl : Below w.heap.size w ((w.alloc (.cells #[.int .i64 now, .int .i64 ser, .slice A n c] 25)).alloc (.cells #[.int .i64 0, .int .i64 0, .slice none 0 0] 25)) := ((Below.refl _ _).alloc (by omega) _).alloc (by simp) _
  have hb0 : Blk ((w.alloc (.cells #[.int .i64 now, .int .i64 ser, .slice A n c] 25)).alloc (.cells #[.int .i64 0, .int .i64 0, .slice none 0 0] 25)) w.heap.size 25 #[.int .i64 now, .int .i64 ser, .slice A n c] := (Blk.new _ _ _).alloc _
  have hb1 : Blk ((w.alloc (.cells #[.int .i64 now, .int .i64 ser, .slice A n c] 25)).alloc (.cells #[.int .i64 0, .int .i64 0, .slice none 0 0] 25)) (w.heap.size + 1) 25 #[.int .i64 0, .int .i64 0, .slice none 0 0] := Blk.at_ _ _ _ _ (by simp)
  have hkf := fun W (hW : Below w.heap.size w W) => find_at (now := now) (ser := ser) (h.next hW) (by omega) hp hs hf
  have hkc := fun W (hW : Below w.heap.size w W) => copied_any now ser A n c L W (h.next hW) (by omega)
  have hin : i < n := by have := (List.getElem?_eq_some_iff.1 hp).1; have := h.1; omega
  have hrow := fun W (hW : Below w.heap.size w W) => (h.next hW).row hin
  have hkl := h.1
  have HP := Lib.hid hp
  have HKL := Lib.hid hkl
  have KF := Lib.hid hkf
  have KC := Lib.hid hkc
  have HBl := Lib.hid hBl
  have HB0 := Lib.hid hb0
  have HB1 := Lib.hid hb1
  have HRO := Lib.hid hrow
  obtain ⟨b, off, p0, rfl, hlt, hp0, hpm, hR, c0, c1, c2, c3, c4⟩ := h.row hin
  obtain rfl : p0 = p := by rw [hp] at hp0; injection hp0 with h; exact h.symm
  have hx4 := hBl.cell (p := ⟨b, off + i * 5 + 4, none⟩) hlt
  rw [c4] at hx4
  have HC4 := Lib.hid c4
  have HR := Lib.hid hR
  clear hkf hkc hBl hb0 hb1 h hkl hp hs hf hrow hR hpm hp0 c0 c1 c2 c3 c4
  have q1 : decide ((p0.n : Int) ≤ (a : Int)) = false := by simp; omega
  have q00 : decide ((i : Int) < 0) = false := by simp
  have q0 : decide ((a : Int) < 0) = false := by simp
  have q2 : decide (m < 0) = false := by simpa using hm0
  have q3 : decide (255 < m) = false := by simpa using hm1
  go_enter Try.func11, Try.ntmps11
  go_upto_region 7 with (first
    | (go_at_call 25; (with_reducible refine (KF.out _ HBl.out).mono ?_); rintro e w2 ⟨rfl, hB2⟩; go_loud (have N0 := Lib.hid (HB0.out.next hB2); have N1 := Lib.hid (HB1.out.next hB2); have NB := Lib.hid (HBl.out.trans (hB2.mono (by simp; omega))); clear hB2 hx4; have e0 := N0.out.cell 0; have e1 := N0.out.cell 1; have e2 := N0.out.cell 2; (simp only [List.getElem?_toArray, List.getElem?_cons_zero, List.getElem?_cons_succ] at e0 e1 e2); have x4 := (NB.out.cell (p := ⟨b, off + i * 5 + 4, none⟩) hlt).trans HC4.out))
    | (go_at_call 20; (with_reducible refine (KC.out _ NB.out).mono ?_); rintro e w3 ⟨A', c', L', rfl, hO, hkey, hB3⟩; go_loud (clear e0 e1 e2 x4; have M0 := Lib.hid (N0.out.next hB3); have M1 := Lib.hid (N1.out.next hB3); have MB := Lib.hid (NB.out.trans (hB3.mono NB.out.size)); have HO := Lib.hid (hO.down NB.out.size); have HY := Lib.hid hkey; clear hO hkey hB3; have e0 := M0.out.cell 0; have e1 := M0.out.cell 1; have e2 := M0.out.cell 2; have f0 := M0.out.frozen 0; have f1 := M0.out.frozen 1; have f2 := M0.out.frozen 2; (simp only [List.getElem?_toArray, List.getElem?_cons_zero, List.getElem?_cons_succ] at e0 e1 e2))))
  have hb0 : Blk (((w3.setCell ⟨w.heap.size, 0, none⟩ (.int .i64 now)).setCell ⟨w.heap.size, 1, none⟩ (.int .i64 ser)).setCell ⟨w.heap.size, 2, none⟩ (.slice A' n c')) w.heap.size 25 #[.int .i64 now, .int .i64 ser, .slice A' n c'] := ((M0.out.set_ 0 _).set_ 1 _).set_ 2 _
  have hl : L'.length = n := by have := congrArg List.length HY.out; simpa [HKL.out] using this
  have hq : QO (((w3.setCell ⟨w.heap.size, 0, none⟩ (.int .i64 now)).setCell ⟨w.heap.size, 1, none⟩ (.int .i64 ser)).setCell ⟨w.heap.size, 2, none⟩ (.slice A' n c')) w.heap.size (.slice A' n c') L' :=
    ((HO.out.grown (grown_set _ w.heap.size 0 _) M0.out (by decide) (by decide)).grown (grown_set _ w.heap.size 1 _) (M0.out.set_ 0 _) (by decide) (by decide)).grown (grown_set _ w.heap.size 2 _) ((M0.out.set_ 0 _).set_ 1 _) (by decide) (by decide)
  have hB : Below w.heap.size w (((w3.setCell ⟨w.heap.size, 0, none⟩ (.int .i64 now)).setCell ⟨w.heap.size, 1, none⟩ (.int .i64 ser)).setCell ⟨w.heap.size, 2, none⟩ (.slice A' n c')) := ((MB.out.setCell (p := ⟨w.heap.size, 0, none⟩) (Nat.le_refl _) _).setCell (p := ⟨w.heap.size, 1, none⟩) (Nat.le_refl _) _).setCell (p := ⟨w.heap.size, 2, none⟩) (Nat.le_refl _) _
  have hz1 : Blk (((w3.setCell ⟨w.heap.size, 0, none⟩ (.int .i64 now)).setCell ⟨w.heap.size, 1, none⟩ (.int .i64 ser)).setCell ⟨w.heap.size, 2, none⟩ (.slice A' n c')) (w.heap.size + 1) 25 #[.int .i64 0, .int .i64 0, .slice none 0 0] := ((M1.out.far (by simp) _).far (by simp) _).far (by simp) _
  clear e0 e1 e2 f0 f1 f2 M0 M1 MB HO
  generalize ((w3.setCell ⟨w.heap.size, 0, none⟩ (.int .i64 now)).setCell ⟨w.heap.size, 1, none⟩ (.int .i64 ser)).setCell ⟨w.heap.size, 2, none⟩ (.slice A' n c') = wz at *
  have hqr : QR wz A' n c' L' := by
    have h := hq
    rw [← hl] at h ⊢
    exact h.reads
  obtain ⟨b2, off2, p2, hA2, hlt2, hp2, hpm2, hR2, d0, d1, d2, d3, d4⟩ := hqr.row hin
  subst hA2
  have hkey : p2.key = p0.key := by
    have := congrArg (fun (l : List (Int × Int × Int × Int × List Int)) => l[i]?) HY.out
    simp only [List.getElem?_map, hp2, HP.out, Option.map_some] at this
    injection this
  have ho2 := hq.2.1 p2 hpm2
  have hzs : p2.zs = p0.zs := congrArg (fun k => k.2.2.2.2) hkey
  have hn2 : p2.n = p0.n := by rw [← hR2.1.1, ← HR.out.1.1, hzs]
  have hap : a < p2.n := by rw [hn2]; exact ha
  have hpo : 0 < p2.n := by omega
  obtain ⟨gb, hAb, hgb, hgl⟩ := (own_parts ho2.1).2.2 hpo
  have hzb : 0 ≤ p0.zs.getD a 0 ∧ p0.zs.getD a 0 ≤ 255 := by
    have hal : a < p0.zs.length := by rw [HR.out.1.1]; exact ha
    have : p0.zs.getD a 0 = p0.zs[a] := by simp [List.getD, List.getElem?_eq_getElem hal]
    rw [this]
    exact HR.out.2.2.2 _ (List.getElem_mem hal)
  have hxr := xr_in (p0.zs.getD a 0) m hzb ⟨hm0, hm1⟩
  have hset := hq.setByte (z := bits .xor .u8 (p0.zs.getD a 0) m) hp2 hAb hap hxr
  have hi2 := hR2.1
  rw [hAb, hzs] at hi2
  obtain ⟨gb', ob', hbe, hbl, hbc⟩ := hi2.2 hpo
  injection hbe with hbe
  injection hbe with hb1 hb2 _
  subst hb1 hb2
  have hby := hbc a hap
  rw [Nat.zero_add] at hby
  have ho3 := ho2.1
  rw [hAb] at ho3
  have hf := own_frozen ho3 a
  rw [hAb, hn2] at d4
  have e0 := hb0.cell 0
  have e1 := hb0.cell 1
  have e2 := hb0.cell 2
  have m0 := hz1.cell 0
  have m1 := hz1.cell 1
  have m2 := hz1.cell 2
  have g0 := hz1.frozen 0
  have g1 := hz1.frozen 1
  have g2 := hz1.frozen 2
  simp only [List.getElem?_toArray, List.getElem?_cons_zero, List.getElem?_cons_succ] at e0 e1 e2 m0 m1 m2
  have hne0 : w.heap.size ≠ gb := fun e => own_blk_ne ho3 hb0 (by decide) (by rw [e]; rfl)
  have hne1 : w.heap.size + 1 ≠ gb := fun e => own_blk_ne ho3 hz1 (by decide) (by rw [e]; rfl)
  have hne0' := hne0.symm
  have hne1' := hne1.symm
  have q5 : (i : Int) < (n : Int) := by omega
  have q6 : (a : Int) < (p0.n : Int) := by omega
  have HSET := Lib.hid hset
  have HB := Lib.hid hB
  have HZ1 := Lib.hid hz1
  have HNB : Hid (Blk wz w.heap.size 25 #[.int .i64 now, .int .i64 ser, .slice (some ⟨b2, off2, none⟩) n c']) := Lib.hid hb0
  clear hset hB hz1 hb0 ho2 ho3 hbc hi2 hR2 hqr hq hbl d0 d1 d2 d3
  go_wp2_with fail
  have hz2 := HZ1.out.far (p := ⟨gb, a, none⟩) hne1 (.int .u8 (bits .xor .u8 (p0.zs.getD a 0) m))
  have hq2 := ((HSET.out.grown (grown_set _ (w.heap.size + 1) 0 (.int .i64 now)) hz2 (by decide) (by decide)).grown (grown_set _ (w.heap.size + 1) 1 (.int .i64 ser)) (hz2.set_ 0 _) (by decide) (by decide)).grown (grown_set _ (w.heap.size + 1) 2 (.slice (some ⟨b2, off2, none⟩) n c')) ((hz2.set_ 0 _).set_ 1 _) (by decide) (by decide)
  refine bodyPost_ret (v := .tuple #[.agg #[.int .i64 now, .int .i64 ser, .slice (some ⟨b2, off2, none⟩) n c'], .int .i64 0]) (turn_results (((hz2.set_ 0 _).set_ 1 _).set_ 2 _) rfl _ _ rfl rfl) rfl ⟨_, _, _, rfl, hq2, ?_, ?_⟩
  · rw [List.map_set, HY.out]
    congr 1
    have := hkey
    unfold Pc.key at this ⊢
    simp only [Prod.mk.injEq] at this
    rw [this.1, this.2.1, this.2.2.1, this.2.2.2.1, hzs]
  · exact (((HB.out.setCell (p := ⟨gb, a, none⟩) hgb _).setCell (p := ⟨w.heap.size + 1, 0, none⟩) (Nat.le_succ _) _).setCell (p := ⟨w.heap.size + 1, 1, none⟩) (Nat.le_succ _) _).setCell (p := ⟨w.heap.size + 1, 2, none⟩) (Nat.le_succ _) _
end Go.Proofs.Ytdlcjieaoalhoaa.Bs
