/- fourwatchkeep.smear: a bus of one's own is written over. -/
import Derived.Test.YtdlcjieaoalhoaaBus0
import Derived.Test.YtdlcjieaoalhoaaVR
import Derived.Laws.OwnMore
import Derived.Sort.Walk13
set_option linter.unusedVariables false
namespace Go.Proofs.Ytdlcjieaoalhoaa.Bs
open Go.RowKit Go.Proofs.Ytdlcjieaoalhoaa Sm

theorem own_at {w : World} {base size n c : Nat} {e : TypeId} {A : Option Addr} {xs : List Value} (h : w.ownsRow base e size (.slice A n c) n xs) (hn : 0 < n) : ∃ g cur, A = some ⟨g, 0, none⟩ ∧ base ≤ g ∧ g < w.heap.size ∧ Blk w g e cur ∧ n * size ≤ cur.size := by
  rcases h.2 with ⟨h1, h2⟩ | ⟨g, cap, cur, h1, hb, hh, h2, hm, hs, _⟩
  · omega
  · injection h1 with a b c
    subst a
    exact ⟨g, cur, rfl, hb, (Array.getElem?_eq_some_iff.1 hh).1, hh, by rw [hs]; exact Nat.mul_le_mul_right _ h2⟩
/-- whatever cell is written: a row stays a row -/
theorem own_any_set {w : World} {base n : Nat} {e : TypeId} {v : Value} {xs : List Value} (h : w.ownsRow base e 1 v n xs) (g j : Nat) (u : Value) : ∃ xs', (w.setCell ⟨g, j, none⟩ u).ownsRow base e 1 v n xs' := by
  by_cases hv : v.ownBlock = some g
  · rcases h.2 with ⟨rfl, _⟩ | ⟨g', cap, cur, rfl, hb, hh, _⟩
    · cases hv
    · obtain rfl : g' = g := Option.some.inj hv
      exact ⟨_, (World.ownsRow.stored h j u).1⟩
  · exact ⟨xs, h.kept (grown_set w g j u) (.inr hv)⟩
/-- a queue of one's own in blocks base .. top, whatever its bytes -/
structure QW (w : World) (base top : Nat) (v : Value) (L : List Pc) : Prop where
  row : ∃ xs, w.ownsRow base 35 5 v L.length xs ∧ ∀ (j : Nat) (p : Pc), L[j]? = some p → xs[j * 5 + 4]? = some p.sl
  own : ∀ p ∈ L, ∃ ys, w.ownsRow base 5 1 p.sl p.n ys
  len : ∀ p ∈ L, p.n ≤ 220
  ap : L.Pairwise Apart
  bq : ∀ k, v.ownBlock = some k → k < top
  bp : ∀ p ∈ L, ∀ k, p.sl.ownBlock = some k → k < top
theorem QO.weak {w : World} {base : Nat} {v : Value} {L : List Pc} (h : QO w base v L) : QW w base w.heap.size v L :=
  ⟨⟨flat L, h.1, fun j p hj => by rw [flat_get L j p 4 hj (by decide)]; rfl⟩, fun p hp => ⟨_, (h.2.1 p hp).1⟩, fun p hp => (h.2.1 p hp).2.1, h.2.2, fun k hk => (h.lt k hk).2, fun p hp k hk => ((h.2.1 p hp).lt hk).2⟩
theorem QW.same {w w' : World} {base top : Nat} {v : Value} {L : List Pc} {S : Nat → Prop} (h : QW w base top v L) (hs : Same w S w') (hS : ∀ k, base ≤ k → k < top → ¬ S k) : QW w' base top v L := by
  refine ⟨?_, fun p hp => ?_, h.len, h.ap, h.bq, h.bp⟩
  · obtain ⟨xs, h1, h2⟩ := h.row
    exact ⟨xs, hs.own h1 (fun k hk => hS k (h1.lt k hk).1 (h.bq k hk)), h2⟩
  · obtain ⟨ys, h1⟩ := h.own p hp
    exact ⟨ys, hs.own h1 (fun k hk => hS k (h1.lt k hk).1 (h.bp p hp k hk))⟩
theorem QW.next {w w' : World} {base top : Nat} {v : Value} {L : List Pc} (h : QW w base top v L) (hb : Below w.heap.size w w') : QW w' base top v L := h.same (S := fun _ => False) ((Same.refl _ _).next hb) (fun _ _ _ h => h)
def SmRel (w : World) (now ser : Int) (A : Option Addr) (n c : Nat) (L : List Pc) (base top q : Nat) (iv : Value) (wr : World) : Prop :=
  ∃ (i : Nat) (xs : List Value), iv = .int .i64 i ∧ i ≤ n ∧ Blk wr q 25 #[.int .i64 now, .int .i64 ser, .slice A n c] ∧ wr.ownsRow base 35 5 (.slice A n c) n xs ∧ (∀ (j : Nat) (p : Pc), L[j]? = some p → xs[j * 5 + 4]? = some p.sl) ∧
    (∀ (j : Nat) (p : Pc), i ≤ j → L[j]? = some p → ∃ ys, wr.ownsRow base 5 1 p.sl p.n ys) ∧ Same w (fun k => base ≤ k ∧ k < top) wr
theorem SmRel.put {w wr w2 : World} {now ser : Int} {n c base top q i g' gq : Nat} {L : List Pc} {xs zs : List Value} {p : Pc} {iv : Value} {n2 c2 : Nat}
    (hL : L.Pairwise Apart) (hp : L[i]? = some p) (hi : i < n) (hq : Blk wr q 25 #[.int .i64 now, .int .i64 ser, .slice (some ⟨gq, 0, none⟩) n c]) (ho : wr.ownsRow base 35 5 (.slice (some ⟨gq, 0, none⟩) n c) n xs) (hx : ∀ (j : Nat) (p : Pc), L[j]? = some p → xs[j * 5 + 4]? = some p.sl)
    (hr : ∀ (j : Nat) (p : Pc), i ≤ j → L[j]? = some p → ∃ ys, wr.ownsRow base 5 1 p.sl p.n ys) (hb : Same w (fun k => base ≤ k ∧ k < top) wr) (hbq : gq < top) (hbp : ∀ k, p.sl.ownBlock = some k → k < top) (hg : wr.grownBy w2 p.sl.ownBlock) (hlie : p.sl.ownBlock = some g' ∨ w.heap.size ≤ g') (ho2 : w2.ownsRow base 5 1 (.slice (some ⟨g', 0, none⟩) n2 c2) n2 zs) (hiv : iv = .int .i64 ((i + 1 : Nat) : Int)) (u v : Value) :
    SmRel w now ser (some ⟨gq, 0, none⟩) n c L base top q iv ((w2.setCell ⟨g', 0, none⟩ u).setCell ⟨gq, i * 5, none⟩ v) := by
  obtain ⟨ys, hpi⟩ := hr i p (Nat.le_refl _) hp
  have hq2 : Blk w2 q 25 #[.int .i64 now, .int .i64 ser, .slice (some ⟨gq, 0, none⟩) n c] := hq.grown hg (fun e => own_blk_ne hpi hq (by decide) e)
  obtain ⟨cq, hcq⟩ : ∃ cq, Blk wr gq 35 cq := by
    obtain ⟨g, cur, e, _, _, h, _⟩ := own_at ho (by omega)
    cases e
    exact ⟨cur, h⟩
  have ho' : w2.ownsRow base 35 5 (.slice (some ⟨gq, 0, none⟩) n c) n xs := ho.kept hg (.inr fun e => own_blk_ne hpi hcq (by decide) e)
  obtain ⟨g2, cur2, e2, hb2, hl2, hk2, _⟩ : ∃ g cur, (some ⟨g', 0, none⟩ : Option Addr) = some ⟨g, 0, none⟩ ∧ base ≤ g ∧ g < w2.heap.size ∧ Blk w2 g 5 cur ∧ True := by
    rcases ho2.2 with ⟨h1, _⟩ | ⟨g, cap, cur, h1, hb, hh, _⟩
    · cases h1
    · injection h1 with a
      exact ⟨g, cur, a, hb, (Array.getElem?_eq_some_iff.1 hh).1, hh, trivial⟩
  obtain rfl : g' = g2 := by injection e2 with e2; injection e2
  have hgs := grown_set w2 g' 0 u
  have ho3 := own_kept_t ho' hgs hk2 (by decide)
  have hq3 : Blk (w2.setCell ⟨g', 0, none⟩ u) q _ _ := hq2.grown hgs (fun e => by
    have e := Option.some.inj e
    subst e
    have h1 : w2.heap[q]? = _ := hq2
    rw [show w2.heap[q]? = _ from hk2] at h1
    injection h1 with h1; injection h1 with _ h1
    exact absurd h1 (by decide))
  have hst := World.ownsRow.stored ho3 (i * 5) v
  have hcq3 : ∃ cq, Blk (w2.setCell ⟨g', 0, none⟩ u) gq 35 cq := by
    obtain ⟨g, cur, e, _, _, h, _⟩ := own_at ho3 (by omega)
    cases e
    exact ⟨cur, h⟩
  obtain ⟨cq3, hcq3⟩ := hcq3
  have hq4 := hq3.grown hst.2 (fun e => by
    have e := Option.some.inj e
    subst e
    have h1 : (w2.setCell ⟨g', 0, none⟩ u).heap[q]? = _ := hq3
    rw [show (w2.setCell ⟨g', 0, none⟩ u).heap[q]? = _ from hcq3] at h1
    injection h1 with h1; injection h1 with _ h1
    exact absurd h1 (by decide))
  have hbg := (ho.lt gq rfl).1
  refine ⟨i + 1, xs.set (i * 5) v, hiv, hi, hq4, hst.1, fun j r hj => ?_, fun j r hj hr' => ?_, ?_⟩
  · rw [List.getElem?_set_ne (by omega)]
    exact hx j r hj
  · obtain ⟨ys', hys⟩ := hr j r (by omega) hr'
    have hap : ∀ z, p.sl.ownBlock = some z → r.sl.ownBlock ≠ some z := by
      have hpw := List.pairwise_iff_getElem.1 hL
      obtain ⟨hi1, hi2⟩ := List.getElem?_eq_some_iff.1 hp
      obtain ⟨hj1, hj2⟩ := List.getElem?_eq_some_iff.1 hr'
      have := hpw i j hi1 hj1 (by omega)
      rw [hi2, hj2] at this
      exact this
    have h2 : w2.ownsRow base 5 1 r.sl r.n ys' := hys.kept hg (by
      cases hv : p.sl.ownBlock with
      | none => cases hv2 : r.sl.ownBlock with
        | none => exact .inl rfl
        | some z => exact .inr (fun e => by cases e)
      | some z => exact .inr (hap z hv))
    obtain ⟨ys2, h3⟩ := own_any_set h2 g' 0 u
    exact ⟨ys2, own_kept_t h3 hst.2 hcq3 (by decide)⟩
  · have h1 : Same w (fun k => base ≤ k ∧ k < top) w2 := hb.grown hg (fun k hk _ => ⟨(hpi.lt k hk).1, hbp k hk⟩)
    have h2 := h1.grown hgs (fun k hk hlt => by
      cases hk
      rcases hlie with h | h
      · exact ⟨hb2, hbp _ h⟩
      · omega)
    exact h2.grown hst.2 (fun k hk _ => by cases hk; exact ⟨hbg, hbq⟩)
theorem infoU8S : (Try.prog.info? 5).map (fun i => (i.zero, i.size, i.bytes)) = some (some (.int .u8 0), 1, 1) := by kernel_rfl
theorem infoPcS : (Try.prog.info? 35).map (fun i => (i.zero, i.size, i.bytes)) = some (some (.agg #[.int .i64 0, .int .i64 0, .int .i64 0, .int .i64 0, .slice none 0 0]), 5, 56) := by kernel_rfl
set_option maxRecDepth 100000 in
set_option maxHeartbeats 4000000 in
theorem smear_any (now ser : Int) (A : Option Addr) (n c base top : Nat) (L : List Pc) (w : World) (h : QW w base top (.slice A n c) L) (hl : L.length = n) (hn : n ≤ 1000) (hb : base ≤ w.heap.size) :
    Calls Try.prog 16 #[.agg #[.int .i64 now, .int .i64 ser, .slice A n c]] w fun e w' => e = .returned (.tuple #[]) ∧ Same w (fun k => base ≤ k ∧ k < top) w' := by
  obtain ⟨i0, hi0, hz0, hz1, hz2⟩ := info_parts infoU8S
  obtain ⟨k0, hk0, kz0, kz1, kz2⟩ := info_parts infoPcS
  have hq0 : Blk (w.alloc (.cells #[.int .i64 now, .int .i64 ser, .slice A n c] 25)) w.heap.size 25 #[.int .i64 now, .int .i64 ser, .slice A n c] := Blk.new _ _ _
  have hba : Below w.heap.size w (w.alloc (.cells #[.int .i64 now, .int .i64 ser, .slice A n c] 25)) := (Below.refl _ _).alloc (Nat.le_refl _) _
  have h1 := h.next hba
  have hst : SmRel w now ser A n c L base top w.heap.size (.int .i64 0) (w.alloc (.cells #[.int .i64 now, .int .i64 ser, .slice A n c] 25)) := by
    obtain ⟨xs, h2, h3⟩ := h1.row
    rw [hl] at h2
    exact ⟨0, xs, rfl, Nat.zero_le _, hq0, h2, h3, fun j p _ hj => h1.own p (List.mem_of_getElem? hj), (Same.refl _ _).next hba⟩
  have HST := Lib.hid hst
  have HAP := Lib.hid h.ap
  have HPN := Lib.hid (fun (j : Nat) (p : Pc) (hp : L[j]? = some p) => h.len p (List.mem_of_getElem? hp))
  have HBQ := Lib.hid h.bq
  have HBP := Lib.hid (fun (j : Nat) (p : Pc) (hp : L[j]? = some p) => h.bp p (List.mem_of_getElem? hp))
  clear hst hba hq0 h1 h
  go_enter Try.func16, Try.ntmps16
  go_wp2_with fail
  go_loopw [2] (fun iv wr => SmRel w now ser A n c L base top w.heap.size iv wr) (fun iv _ => n - (intOf iv).toNat)
  case atStart => exact HST.out
  case round =>
    clear HST
    obtain ⟨Y, rfl⟩ : ∃ W : World, W = wr := ⟨_, rfl⟩
    obtain ⟨i, xs, rfl, hi, hq, ho, hx, hr, hB⟩ := hrel
    have d2 := hq.cell 2
    simp only [List.getElem?_toArray, List.getElem?_cons_zero, List.getElem?_cons_succ] at d2
    have HQ := Lib.hid hq
    have HO := Lib.hid ho
    have HX := Lib.hid hx
    have HR := Lib.hid hr
    have HB := Lib.hid hB
    clear hq ho hx hr hB
    by_cases hin : i < n
    · obtain ⟨p, hp⟩ : ∃ p, L[i]? = some p := ⟨_, List.getElem?_eq_getElem (by omega)⟩
      obtain ⟨gq, cq, rfl, hgq, hlq, hkq, hsq⟩ := own_at HO.out (by omega)
      obtain ⟨ys, hown⟩ := HR.out i p (Nat.le_refl _) hp
      have hpn := HPN.out i p hp
      have c4 := hkq.cell (i * 5 + 4)
      have c4' := HO.out.cellAt (i * 5 + 4) (by omega)
      rw [HX.out i p hp] at c4'
      have hcq : cq[i * 5 + 4]? = some p.sl := by rw [← c4, c4']
      have HP := Lib.hid hp
      have HK := Lib.hid hkq
      have HCQ := Lib.hid hcq
      have HW := Lib.hid hown
      have z1 : (0 : Int) ≤ (i : Int) := by omega
      have z2 : (i : Int) < (n : Int) := by omega
      clear c4 c4' hkq hcq hown hp
      go_wp2_with fail
      go_loopw [3] (fun kv W => WrRel Y 5 base p.n p.sl kv W) (fun kv _ => p.n - (intOf kv).toNat)
      case atStart => exact WrRel.start HW.out
      case round =>
        obtain ⟨Z, rfl⟩ : ∃ W : World, W = wr := ⟨_, rfl⟩
        obtain ⟨k, hkn, rfl, ⟨zs, hz⟩, hG⟩ := hrel
        have hqz : Blk Z w.heap.size 25 #[.int .i64 now, .int .i64 ser, .slice (some ⟨gq, 0, none⟩) n c] := HQ.out.grown hG (fun e => own_blk_ne HW.out HQ.out (by decide) e)
        have hkz : Blk Z gq 35 cq := HK.out.grown hG (fun e => own_blk_ne HW.out HK.out (by decide) e)
        have e2 := hqz.cell 2
        simp only [List.getElem?_toArray, List.getElem?_cons_zero, List.getElem?_cons_succ] at e2
        have e4 := hkz.cell (i * 5 + 4)
        rw [HCQ.out] at e4
        unfold Pc.sl at e4
        have HG := Lib.hid hG
        have HZ := Lib.hid hz
        have HQZ := Lib.hid hqz
        have HKZ := Lib.hid hkz
        clear hG hz hqz hkz d2
        by_cases hkp : k < p.n
        · have hz := HZ.out
          unfold Pc.sl at hz
          obtain ⟨g, eA, hg, hgl⟩ := (own_parts hz).2.2 (by omega)
          rw [eA] at e4
          have hz2 : Z.ownsRow base 5 1 (.slice (some ⟨g, 0, none⟩) p.n p.c) p.n zs := by rw [← eA]; exact hz
          obtain ⟨u, f0⟩ := own_cell hz2 hkp
          have f1 : Z.frozen? ⟨g, k, none⟩ = false := own_frozen hz2 k
          have y1 : (0 : Int) ≤ (k : Int) := by omega
          have y2 : (k : Int) < (p.n : Int) := by omega
          have HZ2 := Lib.hid hz2
          have HEA := Lib.hid eA
          clear hz hz2 eA
          go_wp2_with fail
          go_roundw
          case rel => exact ⟨k + 1, by omega, by go_num, ⟨_, by unfold Pc.sl; rw [HEA.out]; exact own_set_in HZ2.out hkp _⟩, by unfold Pc.sl at HG ⊢; rw [HEA.out] at HG ⊢; exact grown_trans HG.out (grown_set _ _ _ _)⟩
          case measure => simp [intOf]; omega
        · obtain rfl : p.n = k := by omega
          clear hkp
          have hzA := HZ.out.alloc (.cells #[.int .u8 55, .int .u8 55] 5)
          have hnA : Blk (Z.alloc (.cells #[.int .u8 55, .int .u8 55] 5)) Z.heap.size 5 #[.int .u8 55, .int .u8 55] := Blk.new _ _ _
          have hvA : VR (Z.alloc (.cells #[.int .u8 55, .int .u8 55] 5)) 1 (some ⟨Z.heap.size, 0, none⟩) 2 2 [.int .u8 55, .int .u8 55] := ⟨rfl, (fun e => by cases e), fun _ => ⟨Z.heap.size, 0, rfl, hnA.lt, fun j u hu => by rw [Nat.zero_add, hnA.cell]; rw [← hu]; exact (List.getElem?_toArray ..)⟩⟩
          have hsA : base ≤ (Z.alloc (.cells #[.int .u8 55, .int .u8 55] 5)).heap.size := by have h1 := HB.out.2.2.2.1; have h2 := HG.out.size; simp; omega
          have hqA := HQZ.out.alloc (.cells #[.int .u8 55, .int .u8 55] 5)
          have hkA := HKZ.out.alloc (.cells #[.int .u8 55, .int .u8 55] 5)
          have HZA := Lib.hid hzA
          have HNA := Lib.hid hnA
          have HVA := Lib.hid hvA
          have HSA := Lib.hid hsA
          have HQA := Lib.hid hqA
          have HKA := Lib.hid hkA
          clear hzA hnA hvA hsA hqA hkA
          unfold Pc.sl at HZA
          go_upto_region 9 with (first
            | (at_builtin; go_loud (refine wpList_append_lies _ rfl _ _ 33 rfl base 5 i0 (.int .u8 0) 1 1 Try.underlying33 hi0 hz0 hz1 hz2 rfl (by decide) (.slice p.A p.n p.c) p.n zs rfl HZA.out ⟨Z.heap.size, 0, none⟩ 2 2 [.int .u8 55, .int .u8 55] rfl rfl (World.news_of_block HNA.out) (by intro u hu; simp at hu; subst hu; rfl) (by decide) (by unfold maxLen; omega) (by omega) HSA.out _ rfl ?_); intro g2 c2 W2 ho2 hg2 hli2 _; have HL2 := Lib.hid hli2; clear hli2; have HO2 := Lib.hid ho2; have HG2 := Lib.hid hg2; clear ho2 hg2))
          obtain ⟨g', cur', hgg', hg', hl', hk', hs'⟩ := own_at HO2.out (by omega)
          obtain rfl : g2 = g' := by injection hgg' with h; injection h
          have HLI : Hid (p.sl.ownBlock = some g2 ∨ w.heap.size ≤ g2) := Lib.hid (HL2.out.imp id (fun e => by rw [e]; have h1 := HB.out.2.2.2.1; have h2 := HG.out.size; simp; omega))
          clear hgg' HL2
          have d0 := hk'.cell 0
          rw [Array.getElem?_eq_getElem (by omega)] at d0
          have f0 := hk'.frozen 0
          generalize cur'[0] = u0 at d0
          have h2 : (0 : Int) < (p.n : Int) + 2 := by omega
          have hq2 : Blk W2 w.heap.size 25 #[.int .i64 now, .int .i64 ser, .slice (some ⟨gq, 0, none⟩) n c] := HQA.out.grown HG2.out (fun e => own_blk_ne HZA.out HQA.out (by decide) e)
          have hk2 : Blk W2 gq 35 cq := HKA.out.grown HG2.out (fun e => own_blk_ne HZA.out HKA.out (by decide) e)
          have hne : ∀ (q : Nat) (t : TypeId) (cs : Array Value), Blk W2 q t cs → t ≠ 5 → Blk (W2.setCell ⟨g2, 0, none⟩ (.int .u8 54)) q t cs := fun q t cs hq ht => hq.grown (grown_set _ _ _ _) (fun e => by
            have e := Option.some.inj e
            subst e
            have h1 : W2.heap[q]? = _ := hq
            rw [show W2.heap[q]? = _ from hk'] at h1
            injection h1 with h1; injection h1 with _ h1
            exact ht h1.symm)
          have m2 := (hne _ _ _ hq2 (by decide)).cell 2
          simp only [List.getElem?_toArray, List.getElem?_cons_zero, List.getElem?_cons_succ] at m2
          have m0 := (hne _ _ _ hk2 (by decide)).cell (i * 5)
          rw [Array.getElem?_eq_getElem (by omega)] at m0
          have n0 := (hne _ _ _ hk2 (by decide)).frozen (i * 5)
          generalize cq[i * 5] = u5 at m0
          have HGG : Hid (Y.grownBy W2 p.sl.ownBlock) := Lib.hid (grown_trans HG.out (grown_trans (grown_below ((Below.refl _ _).alloc (Nat.le_refl _) _)) HG2.out))
          clear hne hq2 hk2 hk' e2 e4
          go_wp2_with fail
          go_roundw
          case rel => exact SmRel.put HAP.out HP.out hin HQ.out HO.out HX.out HR.out HB.out (HBQ.out gq rfl) (HBP.out i p HP.out) HGG.out HLI.out HO2.out (by go_num) _ _
          case measure => simp [intOf]; omega
    · obtain rfl : n = i := by omega
      have hnA : Blk (Y.alloc (.cells #[.int .i64 (-99), .int .i64 0, .int .i64 0, .int .i64 0, .slice none 0 0, .int .i64 (-99), .int .i64 0, .int .i64 0, .int .i64 0, .slice none 0 0] 35)) Y.heap.size 35 #[.int .i64 (-99), .int .i64 0, .int .i64 0, .int .i64 0, .slice none 0 0, .int .i64 (-99), .int .i64 0, .int .i64 0, .int .i64 0, .slice none 0 0] := Blk.new _ _ _
      have hvA : VR (Y.alloc (.cells #[.int .i64 (-99), .int .i64 0, .int .i64 0, .int .i64 0, .slice none 0 0, .int .i64 (-99), .int .i64 0, .int .i64 0, .int .i64 0, .slice none 0 0] 35)) 5 (some ⟨Y.heap.size, 0, none⟩) 2 2 [.int .i64 (-99), .int .i64 0, .int .i64 0, .int .i64 0, .slice none 0 0, .int .i64 (-99), .int .i64 0, .int .i64 0, .int .i64 0, .slice none 0 0] := ⟨rfl, (fun e => by cases e), fun _ => ⟨Y.heap.size, 0, rfl, hnA.lt, fun j u hu => by rw [Nat.zero_add, hnA.cell]; rw [← hu]; exact (List.getElem?_toArray ..)⟩⟩
      have hoA := HO.out.alloc (.cells #[.int .i64 (-99), .int .i64 0, .int .i64 0, .int .i64 0, .slice none 0 0, .int .i64 (-99), .int .i64 0, .int .i64 0, .int .i64 0, .slice none 0 0] 35)
      have hsA : base ≤ (Y.alloc (.cells #[.int .i64 (-99), .int .i64 0, .int .i64 0, .int .i64 0, .slice none 0 0, .int .i64 (-99), .int .i64 0, .int .i64 0, .int .i64 0, .slice none 0 0] 35)).heap.size := by have h1 := HB.out.2.2.2.1; simp; omega
      have hbA : Same w (fun k => base ≤ k ∧ k < top) (Y.alloc (.cells #[.int .i64 (-99), .int .i64 0, .int .i64 0, .int .i64 0, .slice none 0 0, .int .i64 (-99), .int .i64 0, .int .i64 0, .int .i64 0, .slice none 0 0] 35)) := HB.out.next ((Below.refl _ _).alloc (Nat.le_refl _) _)
      have HNA := Lib.hid hnA
      have HVA := Lib.hid hvA
      have HOA := Lib.hid hoA
      have HSA := Lib.hid hsA
      have HBA := Lib.hid hbA
      clear hnA hvA hoA hsA hbA
      go_upto_region 12 with (first
        | (at_builtin; go_loud (refine wpList_append_lies _ rfl _ _ 23 rfl base 35 k0 _ 5 56 Try.underlying23 hk0 kz0 kz1 kz2 rfl (by decide) (.slice A n c) n xs rfl HOA.out ⟨Y.heap.size, 0, none⟩ 2 2 [.int .i64 (-99), .int .i64 0, .int .i64 0, .int .i64 0, .slice none 0 0, .int .i64 (-99), .int .i64 0, .int .i64 0, .int .i64 0, .slice none 0 0] rfl rfl (World.news_of_block HNA.out) (by intro u hu; simp only [List.mem_cons, List.not_mem_nil, or_false] at hu; rcases hu with rfl | rfl | rfl | rfl | rfl | rfl | rfl | rfl | rfl | rfl <;> rfl) (by decide) (by unfold maxLen; omega) (by omega) HSA.out _ rfl ?_); intro g2 c2 W2 ho2 hg2 hli2 _; have HL2 := Lib.hid hli2; clear hli2; have HO2 := Lib.hid ho2; have HG2 := Lib.hid hg2; clear ho2 hg2))
      obtain ⟨g', cur', hgg', hg', hl', hk', hs'⟩ := own_at HO2.out (by omega)
      obtain rfl : g2 = g' := by injection hgg' with h; injection h
      have d0 := hk'.cell 1
      rw [Array.getElem?_eq_getElem (by omega)] at d0
      have f0 := hk'.frozen 1
      generalize cur'[1] = u0 at d0
      have h2 : (0 : Int) < (n : Int) + 2 := by omega
      clear d2 hgg'
      go_wp2_with fail
      go_end0
      have h3 := HBA.out.grown HG2.out (fun k hk _ => ⟨(HOA.out.lt k hk).1, HBQ.out k hk⟩)
      refine ⟨rfl, h3.grown (grown_set _ _ _ _) (fun k hk hlt => ?_)⟩
      cases hk
      rcases HL2.out with h | h
      · exact ⟨hg', HBQ.out _ h⟩
      · have h1 := HB.out.2.2.2.1
        simp at h
        omega
end Go.Proofs.Ytdlcjieaoalhoaa.Bs
