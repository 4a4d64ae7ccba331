/- Merged: NodeClose NodeDecide. -/
import Derived.Test.YtofeoeknmlkjgaaZ25
import Derived.Test.YtofeoeknmlkjgaaZ39
import Derived.Test.YtofeoeknmlkjgaaZ40
set_option linter.unusedVariables false
set_option linter.unusedSimpArgs false
section
/- node.Close. -/
set_option linter.unusedVariables false
namespace Go.Proofs.Ytofeoeknmlkjgaa.Nk
open Go.RowKit Go.Proofs.Ytofeoeknmlkjgaa Mb Fi Sm

def repTo (n : Nd) (k : Nat) : Array Value := #[.int .i64 n.id, .int .i64 n.fr, .int .i64 (n.us 0), .int .i64 (n.us 1), .int .i64 (n.us 2), .int .i64 (if 0 < k then (n.ax 0).x else 0), .int .i64 (if 1 < k then (n.ax 1).x else 0), .int .i64 (if 2 < k then (n.ax 2).x else 0),
  .int .i64 n.dg, .bool n.vs, .bool (n.ro.inn 0), .bool (n.ro.inn 1), .bool (n.ro.inn 2), .bool (n.ro.inn 3)]
def repC (n : Nd) : Array Value := repTo n 3
theorem info14 : (Try.prog.info? 60).map (·.size) = some 14 := by kernel_rfl
theorem repTo_one (n : Nd) (k : Nat) : (repTo n k).all (·.oneCell') = true := by simp [repTo, Value.oneCell']
def ClosePost (n : Nd) (bs : List Value) (w : World) (e : Ending) (w' : World) : Prop :=
  ∃ n' A' c', e = .returned (.tuple #[.agg (NA n' (.slice A' bs.length c')), .agg (repC n')]) ∧ w'.ownsRow w.heap.size 4 1 (.slice A' bs.length c') bs.length bs ∧ Below w.heap.size w w' ∧ Lk n n' ∧ ((n.vs = true ∧ n.vv ≠ n.dg) ∨ n' = n)
theorem rep_put {w wr : World} {q i : Nat} {n : Nd} (h : Blk wr q 60 (repTo n i)) (hi : i < 3) : Blk (wr.setCell ⟨q, 5 + i, none⟩ (.int .i64 (n.ax i).x)) q 60 (repTo n (i + 1)) := by
  have := h.set_ (5 + i) (.int .i64 (n.ax i).x)
  have hc : i = 0 ∨ i = 1 ∨ i = 2 := by omega
  rcases hc with rfl | rfl | rfl <;> exact this
def CpRel (w7 : World) (q : Nat) (n : Nd) (iv : Value) (wr : World) : Prop := ∃ i : Nat, iv = .int .i64 i ∧ i ≤ 3 ∧ Blk wr q 60 (repTo n i) ∧ w7.grownBy wr (some q)
theorem CpRel.put {w8 wr : World} {q i : Nat} {n : Nd} {iv : Value} (hi : i < 3) (hiv : iv = .int .i64 ((i + 1 : Nat) : Int)) (h : Blk wr q 60 (repTo n i)) (hg : w8.grownBy wr (some q)) (o : Obj) : CpRel w8 q n iv ((wr.alloc o).setCell ⟨q, 5 + i, none⟩ (.int .i64 (n.ax i).x)) :=
  ⟨i + 1, hiv, hi, rep_put (w := wr) (h.alloc o) hi, grown_trans hg (grown_trans (grown_below ((Below.refl _ _).alloc (Nat.le_refl _) _)) (grown_set _ _ _ _))⟩
theorem sl24 {w : World} {B : Nat} {h : Hd} {sv : Nat → Value} (hs : Sl4 w B h sv) (hl : ∀ i l, h i = some l → l.length = 24 ∧ ∀ z ∈ l, In64 z) : Sl24 w sv := by
  intro i hi
  rcases hs i hi with ⟨h1, h2⟩ | ⟨l, ad, c, h1, h2, h3, _, h7⟩
  · exact .inl h2
  · obtain ⟨h5, h6⟩ := hl i l h1
    rw [h5] at h2 h3 h7
    exact .inr ⟨l, ad, c, h2, h7, h3, h6⟩
theorem cl_end {w w7 w9 w10 : World} {n n7 : Nd} {A' : Option Addr} {c' b0 g1 g2 : Nat} {bs : List Value} {zc ms : Array Value} (hg1 : w.heap.size ≤ g1) (hg2 : w.heap.size ≤ g2) (h12 : g2 ≠ g1)
    (hZ : Blk w7 g1 45 zc) (hM : Blk w7 g2 60 ms) (hO : w7.ownsRow b0 4 1 (.slice A' bs.length c') bs.length bs) (hb0 : w.heap.size ≤ b0) (hB : Below w.heap.size w w7)
    (hg9 : w7.grownBy w9 (some g1)) (hg10 : w9.grownBy w10 (some g2)) (hlk : Lk n n7) (heq : (n.vs = true ∧ n.vv ≠ n.dg) ∨ n7 = n) :
    ClosePost n bs w (.returned (.tuple #[.agg (NA n7 (.slice A' bs.length c')), .agg (repC n7)])) w10 := by
  have hmm := hM.grown hg9 (by intro e; exact h12 (Option.some.inj e))
  have ho10 := own_kept_t (own_kept_t hO hg9 hZ (by decide)) hg10 hmm (by decide)
  have b9 := hB.grown hg9 hB.size (fun j hj => by cases hj; exact hg1)
  exact ⟨n7, A', c', rfl, own_le ho10 hb0, b9.grown hg10 b9.size (fun j hj => by cases hj; exact hg2), hlk, heq⟩

set_option maxRecDepth 100000 in
set_option maxHeartbeats 8000000 in
theorem Close_any (n : Nd) (A : Option Addr) (m c : Nat) (bs : List Value) (Am : Option Addr) (mm cm : Nat) (Ms : List Mg) (h0 : 0 ≤ n.id) (h4 : n.id < 4) (hin : ∀ a, a < 3 → (n.ax a).In) (w : World) (hb : VR w 1 A m c bs) (h1 : ∀ u ∈ bs, u.oneCell' = true) (hm : m ≤ 140737488355328) (hM : MR w Am mm cm Ms) (hmm : mm ≤ 17592186044416) :
    Calls Try.prog 22 #[.agg (NA n (.slice A m c)), .slice Am mm cm] w (ClosePost n bs w) := by
  obtain rfl : m = bs.length := by have := hb.1; omega
  have HVB := Lib.hid hb
  have H1 := Lib.hid h1
  have HMR := Lib.hid hM
  have HIN := Lib.hid hin
  clear hb h1 hM hin
  go_enter Try.func22, Try.ntmps22
  go_upto_region 1 with fail
  have hN : NB (((w.alloc (.cells (NA n (.slice A bs.length c)) 45)).alloc (.cells Try.zeroCells45 45)).alloc (.cells #[.int .i64 0, .int .i64 0, .int .i64 0, .int .i64 0, .int .i64 0, .int .i64 0, .int .i64 0, .int .i64 0, .int .i64 0, .bool false, .bool false, .bool false, .bool false, .bool false] 60)) w.heap.size n (.slice A bs.length c) := ((Blk.new _ _ _).alloc _).alloc _
  have hZ : Blk (((w.alloc (.cells (NA n (.slice A bs.length c)) 45)).alloc (.cells Try.zeroCells45 45)).alloc (.cells #[.int .i64 0, .int .i64 0, .int .i64 0, .int .i64 0, .int .i64 0, .int .i64 0, .int .i64 0, .int .i64 0, .int .i64 0, .bool false, .bool false, .bool false, .bool false, .bool false] 60)) (w.heap.size + 1) 45 Try.zeroCells45 := (Blk.at_ _ _ _ _ (by simp)).alloc _
  have hM : Blk (((w.alloc (.cells (NA n (.slice A bs.length c)) 45)).alloc (.cells Try.zeroCells45 45)).alloc (.cells #[.int .i64 0, .int .i64 0, .int .i64 0, .int .i64 0, .int .i64 0, .int .i64 0, .int .i64 0, .int .i64 0, .int .i64 0, .bool false, .bool false, .bool false, .bool false, .bool false] 60)) (w.heap.size + 1 + 1) 60 #[.int .i64 0, .int .i64 0, .int .i64 0, .int .i64 0, .int .i64 0, .int .i64 0, .int .i64 0, .int .i64 0, .int .i64 0, .bool false, .bool false, .bool false, .bool false, .bool false] := Blk.at_ _ _ _ _ (by simp)
  have hB : Below w.heap.size w (((w.alloc (.cells (NA n (.slice A bs.length c)) 45)).alloc (.cells Try.zeroCells45 45)).alloc (.cells #[.int .i64 0, .int .i64 0, .int .i64 0, .int .i64 0, .int .i64 0, .int .i64 0, .int .i64 0, .int .i64 0, .int .i64 0, .bool false, .bool false, .bool false, .bool false, .bool false] 60)) := (((Below.refl _ _).alloc (Nat.le_refl _) _).alloc (by simp) _).alloc (by simp; omega) _
  have hzs : (Try.zeroCells45).size = 74 := by kernel_rfl
  generalize Try.zeroCells45 = zc at *
  generalize ((w.alloc (.cells (NA n (.slice A bs.length c)) 45)).alloc (.cells zc 45)).alloc (.cells #[.int .i64 0, .int .i64 0, .int .i64 0, .int .i64 0, .int .i64 0, .int .i64 0, .int .i64 0, .int .i64 0, .int .i64 0, .bool false, .bool false, .bool false, .bool false, .bool false] 60) = W0 at *
  have hW0 : w.heap.size + 1 + 1 < W0.heap.size := hM.lt
  have HZS := Lib.hid hzs
  have HN := Lib.hid hN
  have HZ := Lib.hid hZ
  have HM := Lib.hid hM
  have HB := Lib.hid hB
  have KC := Lib.hid (copied_any n A bs.length c bs W0 (HVB.out.next hB) H1.out hm)
  unfold CopyPost at KC
  clear hN hZ hM hB hzs
  go_upto_region 4 with (first
    | (refine wpList_load_at 45 (.tmp 2) rfl rfl w.heap.size rfl _ (NA n (.slice A bs.length c)) _ HN.out Try.underlying45 rfl (by rw [NA_size]; exact infoNode) ?_)
    | (go_at_call 35; (with_reducible refine KC.out.mono ?_); rintro e w1 ⟨A', c', rfl, hO1, hB1⟩; have hw1 : W0.heap.size ≤ w1.heap.size := hB1.size; have HN1 := Lib.hid (NB.next HN.out hB1); have HZ1 := Lib.hid (HZ.out.next hB1); have HM1 := Lib.hid (HM.out.next hB1); have HB1 := Lib.hid (HB.out.trans (hB1.mono HB.out.size)); have HO1 := Lib.hid hO1; clear hO1 hB1)
    | (refine wpList_store_at 45 (.tmp 2) (.tmp 11) rfl rfl w.heap.size _ _ (NA n (.slice A' bs.length c')) rfl rfl HN1.out (by rw [NA_size, NA_size]) (by rw [NA_size]; exact infoNode) (NA_one _ _ _ _) ?_; intro w2 hN2 hg2; have HN2 := Lib.hid hN2; have HG2 := Lib.hid hg2; clear hN2 hg2)
    | (refine wpList_load_at 45 (.tmp 2) rfl rfl w.heap.size rfl _ (NA n (.slice A' bs.length c')) _ HN2.out Try.underlying45 rfl (by rw [NA_size]; exact infoNode) ?_)
    | (go_at_call 36; (with_reducible refine (strange_no n (.slice A' bs.length c') w2 h0 h4).mono ?_); rintro e w3 ⟨rfl, hb3⟩; have HN3 := Lib.hid (NB.next HN2.out hb3); have HBs := Lib.hid hb3; clear hb3))
  have HZ3 := Lib.hid ((HZ1.out.grown HG2.out (by intro e; have := Option.some.inj e; omega)).next HBs.out)
  have HM3 := Lib.hid ((HM1.out.grown HG2.out (by intro e; have := Option.some.inj e; omega)).next HBs.out)
  have HO3 := Lib.hid (own_below (own_kept_t HO1.out HG2.out HN1.out (by decide)) HBs.out (fun x hx => ((own_kept_t HO1.out HG2.out HN1.out (by decide)).lt x hx).2))
  have HB3 := Lib.hid ((HB1.out.grown HG2.out HB1.out.size (fun j hj => by cases hj; exact Nat.le_refl _)).trans (HBs.out.mono (by have := HG2.out.size; have := HB1.out.size; omega)))
  have hw3 : W0.heap.size ≤ w3.heap.size := by have := HG2.out.size; have := HBs.out.size; omega
  clear HN HZ HM HB KC HN1 HZ1 HM1 HB1 HO1 HN2 HG2 HBs
  have HMR3 := Lib.hid (HMR.out.next HB3.out)
  have KH := Lib.hid (hear_any n (.slice A' bs.length c') Am mm cm Ms 5 24 24 rfl (by decide) (by decide) h0 h4 w3 HMR3.out hmm)
  unfold HearPost at KH
  go_upto_region 5 with (first
    | (refine wpList_load_at 45 (.tmp 2) rfl rfl w.heap.size rfl _ (NA n (.slice A' bs.length c')) _ HN3.out Try.underlying45 rfl (by rw [NA_size]; exact infoNode) ?_)
    | (go_at_call 37; (with_reducible refine KH.out.mono ?_); rintro e w4 ⟨sv, rfl, hS4, hb4⟩; have HN4 := Lib.hid (NB.next HN3.out hb4); have HSL := Lib.hid hS4; have HB34 := Lib.hid hb4; clear hS4 hb4)
    | (refine wpList_store_at 94 (.tmp 6) (.tmp 18) rfl rfl w4.heap.size _ #[.slice none 0 0, .slice none 0 0, .slice none 0 0, .slice none 0 0] (AN 4 sv) rfl rfl (Blk.new w4 _ _) (by rw [AN_size]; rfl) (by rw [AN_size]; exact info44) (AN_one (fun i hi => sl4_one HSL.out i hi)) ?_; intro w5 hS5 hg5; have HS5 := Lib.hid hS5; have HG5 := Lib.hid hg5; clear hS5 hg5))
  obtain ⟨va7, hva⟩ : ∃ v, v = Value.slice A' bs.length c' := ⟨_, rfl⟩
  have HVA := Lib.hid hva
  have hs34 := HB34.out.size
  have hs45 := HG5.out.size
  have hb45 : Below w4.heap.size w4 w5 := ((Below.refl _ _).alloc (Nat.le_refl _) _).grown HG5.out (by simp) (fun j hj => by cases hj; exact Nat.le_refl _)
  have hb35 := HB34.out.trans (hb45.mono hs34)
  have HN6 := Lib.hid (NB.next HN3.out hb35)
  have HZ6 := Lib.hid (HZ3.out.next hb35)
  have HM6 := Lib.hid (HM3.out.next hb35)
  have HO6 := Lib.hid (own_below HO3.out hb35 (fun x hx => (HO3.out.lt x hx).2))
  have HB6 := Lib.hid (HB3.out.trans (hb35.mono HB3.out.size))
  have h3sz := HM3.out.lt
  have hsl : Sl24 w5 sv := sl24 (HSL.out.next hb45) (fun i l e => ⟨hearF_len (id := n.id) (fr := n.fr) (kind := 5) (many := 24) (Ms.map Mg.pm) (fun _ => none) (fun i l e => by cases e) i l e,
    hearF_in (P := In64) (Ms.map Mg.pm) (fun _ => none) (fun x hx v hv => by obtain ⟨y, hy, rfl⟩ := List.mem_map.1 hx; exact (HMR.out.2.2 y hy).2.2.2 v hv) (fun i l e => by cases e) i l e⟩)
  have HSL6 := Lib.hid hsl
  clear hsl hb45 hb35 HN3 HZ3 HM3 HO3 HB3 HSL HB34 HG5 KH HMR3 HN4 hva
  rw [← HVA.out] at HN6
  have hg6 : w4.heap.size ≠ w.heap.size := by omega
  generalize w4.heap.size = g6 at *
  have k72 : w5.cell? ⟨w.heap.size, 72, none⟩ = some (.bool n.vs) := NB.at_ HN6.out (k := 72) (by decide)
  have k71 : w5.cell? ⟨w.heap.size, 71, none⟩ = some (.int .i64 n.vv) := NB.at_ HN6.out (k := 71) (by decide)
  have k70 : w5.cell? ⟨w.heap.size, 70, none⟩ = some (.int .i64 n.dg) := NB.at_ HN6.out (k := 70) (by decide)
  cases hvs : n.vs with
  | false =>
    rw [hvs] at k72
    clear hvs
    go_upto_region 7 with (first | go_big_skip)
    clear k70 k71 k72
    have HN7 : Hid (NB w5 w.heap.size n va7) := HN6
    have HG7 : Hid (w5.grownBy w5 (some w.heap.size)) := Lib.hid (grown_refl w5 _)
    have HLK : Hid (Lk n n) := Lib.hid (Lk.refl n)
    skip
    have c0 : w5.cell? ⟨w.heap.size, 0, none⟩ = some (.int .i64 n.id) := NB.at_ HN7.out (k := 0) (by decide)
    have c1 : w5.cell? ⟨w.heap.size, 1, none⟩ = some (.int .i64 n.fr) := NB.at_ HN7.out (k := 1) (by decide)
    have c67 : w5.cell? ⟨w.heap.size, 67, none⟩ = some (.int .i64 (n.us 0)) := NB.at_ HN7.out (k := 67) (by decide)
    have c68 : w5.cell? ⟨w.heap.size, 68, none⟩ = some (.int .i64 (n.us 1)) := NB.at_ HN7.out (k := 68) (by decide)
    have c69 : w5.cell? ⟨w.heap.size, 69, none⟩ = some (.int .i64 (n.us 2)) := NB.at_ HN7.out (k := 69) (by decide)
    have c70 : w5.cell? ⟨w.heap.size, 70, none⟩ = some (.int .i64 n.dg) := NB.at_ HN7.out (k := 70) (by decide)
    have c72 : w5.cell? ⟨w.heap.size, 72, none⟩ = some (.bool n.vs) := NB.at_ HN7.out (k := 72) (by decide)
    have c27 : w5.cell? ⟨w.heap.size, 27, none⟩ = some (.bool (n.ro.inn 0)) := NB.at_ HN7.out (k := 27) (by decide)
    have c28 : w5.cell? ⟨w.heap.size, 28, none⟩ = some (.bool (n.ro.inn 1)) := NB.at_ HN7.out (k := 28) (by decide)
    have c29 : w5.cell? ⟨w.heap.size, 29, none⟩ = some (.bool (n.ro.inn 2)) := NB.at_ HN7.out (k := 29) (by decide)
    have c30 : w5.cell? ⟨w.heap.size, 30, none⟩ = some (.bool (n.ro.inn 3)) := NB.at_ HN7.out (k := 30) (by decide)
    go_upto_region 8 with fail
    clear c0 c1 c67 c68 c69 c70 c72 c27 c28 c29 c30
    have hwlt : w.heap.size < w5.heap.size := Blk.lt HN7.out
    have HP8 := Lib.hid (show Blk (w5.alloc (.cells #[.int .i64 n.id, .int .i64 n.fr, .int .i64 (n.us 0), .int .i64 (n.us 1), .int .i64 (n.us 2), .int .i64 0, .int .i64 0, .int .i64 0, .int .i64 n.dg, .bool n.vs, .bool (n.ro.inn 0), .bool (n.ro.inn 1), .bool (n.ro.inn 2), .bool (n.ro.inn 3)] 60)) w5.heap.size 60 (repTo n 0) from Blk.new _ _ _)
    have HB8 := Lib.hid (show Below w5.heap.size w5 (w5.alloc (.cells #[.int .i64 n.id, .int .i64 n.fr, .int .i64 (n.us 0), .int .i64 (n.us 1), .int .i64 (n.us 2), .int .i64 0, .int .i64 0, .int .i64 0, .int .i64 n.dg, .bool n.vs, .bool (n.ro.inn 0), .bool (n.ro.inn 1), .bool (n.ro.inn 2), .bool (n.ro.inn 3)] 60)) from (Below.refl _ _).alloc (Nat.le_refl _) _)
    obtain ⟨w8, hw8⟩ : ∃ w8, w5.alloc (.cells #[.int .i64 n.id, .int .i64 n.fr, .int .i64 (n.us 0), .int .i64 (n.us 1), .int .i64 (n.us 2), .int .i64 0, .int .i64 0, .int .i64 0, .int .i64 n.dg, .bool n.vs, .bool (n.ro.inn 0), .bool (n.ro.inn 1), .bool (n.ro.inn 2), .bool (n.ro.inn 3)] 60) = w8 := ⟨_, rfl⟩
    rw [hw8] at HP8 HB8 ⊢
    clear hw8
    have HN8 := Lib.hid (NB.next HN7.out HB8.out)
    go_upto_region 9 with (first
      | (refine wpList_load_mid rfl 34 (.tmp 47) rfl w.heap.size 6 rfl (axL n) _ HN8.out.axR Try.underlying34 rfl info21 ?_))
    go_loopw [49] (fun iv wr => CpRel w8 w5.heap.size n iv wr) (fun iv _ => 3 - (intOf iv).toNat)
    case atStart => exact ⟨0, rfl, by omega, HP8.out, grown_refl _ _⟩
    case round =>
      obtain ⟨i, rfl, hi3, hP, hG⟩ := hrel
      have HPr := Lib.hid hP
      have HGr := Lib.hid hG
      clear hP hG
      by_cases hi : i < 3
      · have hc : i = 0 ∨ i = 1 ∨ i = 2 := by omega
        rcases hc with rfl | rfl | rfl
        · have ix := fun W => ixA0 n W
          have k5 := fun o => show (wr.alloc o).cell? ⟨w5.heap.size, 5, none⟩ = some _ from (Blk.cell (HPr.out.alloc o) 5).trans rfl
          have f5 := fun o => Blk.frozen (HPr.out.alloc o) 5
          go_wp2_with fail
          go_roundw
          case rel => exact CpRel.put (i := 0) (by decide) rfl HPr.out HGr.out _
          case measure => simp [intOf]
        · have ix := fun W => ixA1 n W
          have k5 := fun o => show (wr.alloc o).cell? ⟨w5.heap.size, 6, none⟩ = some _ from (Blk.cell (HPr.out.alloc o) 6).trans rfl
          have f5 := fun o => Blk.frozen (HPr.out.alloc o) 6
          go_wp2_with fail
          go_roundw
          case rel => exact CpRel.put (i := 1) (by decide) rfl HPr.out HGr.out _
          case measure => simp [intOf]
        · have ix := fun W => ixA2 n W
          have k5 := fun o => show (wr.alloc o).cell? ⟨w5.heap.size, 7, none⟩ = some _ from (Blk.cell (HPr.out.alloc o) 7).trans rfl
          have f5 := fun o => Blk.frozen (HPr.out.alloc o) 7
          go_wp2_with fail
          go_roundw
          case rel => exact CpRel.put (i := 2) (by decide) rfl HPr.out HGr.out _
          case measure => simp [intOf]
      · obtain rfl : i = 3 := by omega
        have hz7 := HZ6.out.grown HG7.out (by intro e; have := Option.some.inj e; omega)
        have hm7 := HM6.out.grown HG7.out (by intro e; have := Option.some.inj e; omega)
        have hb7 := HB6.out.grown HG7.out HB6.out.size (fun j hj => by cases hj; exact Nat.le_refl _)
        have ho7 := own_kept_t HO6.out HG7.out HN6.out (by decide)
        have hzl := Blk.lt hz7
        have hml := Blk.lt hm7
        have hzr := (hz7.next HB8.out).grown HGr.out (by intro e; have := Option.some.inj e; omega)
        have hmr := (hm7.next HB8.out).grown HGr.out (by intro e; have := Option.some.inj e; omega)
        have hnr := Blk.grown HN8.out HGr.out (by intro e; have := Option.some.inj e; omega)
        have hor := own_kept_t (own_below ho7 HB8.out (fun x hx => (ho7.lt x hx).2)) HGr.out HP8.out (by decide)
        have hbr := (hb7.trans (HB8.out.mono hb7.size)).grown HGr.out (Nat.le_trans hb7.size HB8.out.size) (fun j hj => by cases hj; omega)
        have HZr := Lib.hid hzr
        have HMr := Lib.hid hmr
        have HNr := Lib.hid hnr
        have HOr := Lib.hid hor
        have HBr := Lib.hid hbr
        have HVr : Hid ((NA n va7).all (·.oneCell') = true) := by rw [HVA.out]; exact NA_one _ _ _ _
        have hwl := HB6.out.size
        clear hz7 hm7 hb7 ho7 hzr hmr hnr hor hbr
        go_upto_region 13 with fail
        refine wp_region_G 3 (fun w' => NB w' w.heap.size n va7 ∧ Blk w' w5.heap.size 60 (repTo n 3)) (by kernel_rfl) (⟨NB.next HNr.out (Below.refl _ _).drew, HPr.out.next (Below.refl _ _).drew⟩) (fun hS => ?_)
        refine wpT 0 (.agg (NA n va7)) rfl (by kernel_rfl) (fun _ _ _ h => h) (Or.inl ⟨by rfl, fun wx hSw => exec_load_row 45 (.tmp 2) rfl w.heap.size rfl _ _ _ hSw.1 Try.underlying45 rfl (by rw [NA_size]; exact infoNode)⟩) hS ?_
        try simp only [pts]
        refine wpT 1 (.agg (repTo n 3)) rfl (by kernel_rfl) (fun _ _ _ h => h) (Or.inl ⟨by rfl, fun wx hSw => exec_load_row 60 (.tmp 7) rfl w5.heap.size rfl _ _ _ hSw.2 Try.underlying60 rfl info14⟩) hS ?_
        try simp only [pts]
        refine wpAnyG_one (i := 2) rfl (by kernel_rfl) (fun K hK => ?_)
        rw [if_pos (by rfl)]
        refine wp_store_row 45 (.tmp 4) (.tmp 59) rfl (w.heap.size + 1) _ zc (NA n va7) rfl rfl (HZr.out.next (Below.refl _ _).drew) (by rw [NA_size, HZS.out]) (by rw [NA_size]; exact infoNode) HVr.out (fun w9 hN9 hg9 => ?_)
        have hS9 : NB w9 w.heap.size n va7 ∧ Blk w9 w5.heap.size 60 (repTo n 3) := ⟨Blk.grown hS.1 hg9 (by intro e; have := Option.some.inj e; omega), hS.2.grown hg9 (by intro e; have := Option.some.inj e; omega)⟩
        refine hK.out _ _ hS9 ?_
        clear hK K hS
        have hS := hS9
        try simp only [pts]
        refine wpAnyG_last rfl (by kernel_rfl) (by kernel_rfl) (by kernel_rfl) (fun K hK => ?_)
        rw [if_pos (by rfl)]
        refine wp_store_row 60 (.tmp 5) (.tmp 60) rfl (w.heap.size + 1 + 1) _ _ (repTo n 3) rfl rfl ((HMr.out.next (Below.refl _ _).drew).grown hg9 (by intro e; have := Option.some.inj e; omega)) rfl info14 (repTo_one _ _) (fun w10 hM10 hg10 => ?_)
        refine hK.out _ _ ?_
        clear hK K
        try simp only [pts]
        go_wp2_with fail
        have hN10 := hN9.grown hg10 (by intro e; have := Option.some.inj e; omega)
        refine bodyPost_ret (results_two Try.results22 _ _ (w.heap.size + 1) (w.heap.size + 1 + 1) _ _ _ _ _ _ rfl rfl hN10 hM10 Try.underlying45 rfl (by rw [NA_size]; exact infoNode) Try.underlying60 rfl info14) rfl ?_
        rw [HVA.out]
        exact cl_end (by omega) (by omega) (by omega) (HZr.out.next (Below.refl _ _).drew) (HMr.out.next (Below.refl _ _).drew) HOr.out (by omega) HBr.out.drew hg9 hg10 HLK.out (.inr rfl)
  | true =>
    rw [hvs] at k72
    cases hvd : (n.vv != n.dg) with
    | false =>
      have HVS := Lib.hid hvs
      clear hvs
      go_upto_region 7 with (first | go_big_skip)
      clear k70 k71 k72 hvd
      have HN7 : Hid (NB w5 w.heap.size n va7) := HN6
      have HG7 : Hid (w5.grownBy w5 (some w.heap.size)) := Lib.hid (grown_refl w5 _)
      have HLK : Hid (Lk n n) := Lib.hid (Lk.refl n)
      skip
      have c0 : w5.cell? ⟨w.heap.size, 0, none⟩ = some (.int .i64 n.id) := NB.at_ HN7.out (k := 0) (by decide)
      have c1 : w5.cell? ⟨w.heap.size, 1, none⟩ = some (.int .i64 n.fr) := NB.at_ HN7.out (k := 1) (by decide)
      have c67 : w5.cell? ⟨w.heap.size, 67, none⟩ = some (.int .i64 (n.us 0)) := NB.at_ HN7.out (k := 67) (by decide)
      have c68 : w5.cell? ⟨w.heap.size, 68, none⟩ = some (.int .i64 (n.us 1)) := NB.at_ HN7.out (k := 68) (by decide)
      have c69 : w5.cell? ⟨w.heap.size, 69, none⟩ = some (.int .i64 (n.us 2)) := NB.at_ HN7.out (k := 69) (by decide)
      have c70 : w5.cell? ⟨w.heap.size, 70, none⟩ = some (.int .i64 n.dg) := NB.at_ HN7.out (k := 70) (by decide)
      have c72 : w5.cell? ⟨w.heap.size, 72, none⟩ = some (.bool n.vs) := NB.at_ HN7.out (k := 72) (by decide)
      have c27 : w5.cell? ⟨w.heap.size, 27, none⟩ = some (.bool (n.ro.inn 0)) := NB.at_ HN7.out (k := 27) (by decide)
      have c28 : w5.cell? ⟨w.heap.size, 28, none⟩ = some (.bool (n.ro.inn 1)) := NB.at_ HN7.out (k := 28) (by decide)
      have c29 : w5.cell? ⟨w.heap.size, 29, none⟩ = some (.bool (n.ro.inn 2)) := NB.at_ HN7.out (k := 29) (by decide)
      have c30 : w5.cell? ⟨w.heap.size, 30, none⟩ = some (.bool (n.ro.inn 3)) := NB.at_ HN7.out (k := 30) (by decide)
      go_upto_region 8 with fail
      clear c0 c1 c67 c68 c69 c70 c72 c27 c28 c29 c30
      have hwlt : w.heap.size < w5.heap.size := Blk.lt HN7.out
      have HP8 := Lib.hid (show Blk (w5.alloc (.cells #[.int .i64 n.id, .int .i64 n.fr, .int .i64 (n.us 0), .int .i64 (n.us 1), .int .i64 (n.us 2), .int .i64 0, .int .i64 0, .int .i64 0, .int .i64 n.dg, .bool n.vs, .bool (n.ro.inn 0), .bool (n.ro.inn 1), .bool (n.ro.inn 2), .bool (n.ro.inn 3)] 60)) w5.heap.size 60 (repTo n 0) from Blk.new _ _ _)
      have HB8 := Lib.hid (show Below w5.heap.size w5 (w5.alloc (.cells #[.int .i64 n.id, .int .i64 n.fr, .int .i64 (n.us 0), .int .i64 (n.us 1), .int .i64 (n.us 2), .int .i64 0, .int .i64 0, .int .i64 0, .int .i64 n.dg, .bool n.vs, .bool (n.ro.inn 0), .bool (n.ro.inn 1), .bool (n.ro.inn 2), .bool (n.ro.inn 3)] 60)) from (Below.refl _ _).alloc (Nat.le_refl _) _)
      obtain ⟨w8, hw8⟩ : ∃ w8, w5.alloc (.cells #[.int .i64 n.id, .int .i64 n.fr, .int .i64 (n.us 0), .int .i64 (n.us 1), .int .i64 (n.us 2), .int .i64 0, .int .i64 0, .int .i64 0, .int .i64 n.dg, .bool n.vs, .bool (n.ro.inn 0), .bool (n.ro.inn 1), .bool (n.ro.inn 2), .bool (n.ro.inn 3)] 60) = w8 := ⟨_, rfl⟩
      rw [hw8] at HP8 HB8 ⊢
      clear hw8
      have HN8 := Lib.hid (NB.next HN7.out HB8.out)
      go_upto_region 9 with (first
        | (refine wpList_load_mid rfl 34 (.tmp 47) rfl w.heap.size 6 rfl (axL n) _ HN8.out.axR Try.underlying34 rfl info21 ?_))
      go_loopw [49] (fun iv wr => CpRel w8 w5.heap.size n iv wr) (fun iv _ => 3 - (intOf iv).toNat)
      case atStart => exact ⟨0, rfl, by omega, HP8.out, grown_refl _ _⟩
      case round =>
        obtain ⟨i, rfl, hi3, hP, hG⟩ := hrel
        have HPr := Lib.hid hP
        have HGr := Lib.hid hG
        clear hP hG
        by_cases hi : i < 3
        · have hc : i = 0 ∨ i = 1 ∨ i = 2 := by omega
          rcases hc with rfl | rfl | rfl
          · have ix := fun W => ixA0 n W
            have k5 := fun o => show (wr.alloc o).cell? ⟨w5.heap.size, 5, none⟩ = some _ from (Blk.cell (HPr.out.alloc o) 5).trans rfl
            have f5 := fun o => Blk.frozen (HPr.out.alloc o) 5
            go_wp2_with fail
            go_roundw
            case rel => exact CpRel.put (i := 0) (by decide) rfl HPr.out HGr.out _
            case measure => simp [intOf]
          · have ix := fun W => ixA1 n W
            have k5 := fun o => show (wr.alloc o).cell? ⟨w5.heap.size, 6, none⟩ = some _ from (Blk.cell (HPr.out.alloc o) 6).trans rfl
            have f5 := fun o => Blk.frozen (HPr.out.alloc o) 6
            go_wp2_with fail
            go_roundw
            case rel => exact CpRel.put (i := 1) (by decide) rfl HPr.out HGr.out _
            case measure => simp [intOf]
          · have ix := fun W => ixA2 n W
            have k5 := fun o => show (wr.alloc o).cell? ⟨w5.heap.size, 7, none⟩ = some _ from (Blk.cell (HPr.out.alloc o) 7).trans rfl
            have f5 := fun o => Blk.frozen (HPr.out.alloc o) 7
            go_wp2_with fail
            go_roundw
            case rel => exact CpRel.put (i := 2) (by decide) rfl HPr.out HGr.out _
            case measure => simp [intOf]
        · obtain rfl : i = 3 := by omega
          have hz7 := HZ6.out.grown HG7.out (by intro e; have := Option.some.inj e; omega)
          have hm7 := HM6.out.grown HG7.out (by intro e; have := Option.some.inj e; omega)
          have hb7 := HB6.out.grown HG7.out HB6.out.size (fun j hj => by cases hj; exact Nat.le_refl _)
          have ho7 := own_kept_t HO6.out HG7.out HN6.out (by decide)
          have hzl := Blk.lt hz7
          have hml := Blk.lt hm7
          have hzr := (hz7.next HB8.out).grown HGr.out (by intro e; have := Option.some.inj e; omega)
          have hmr := (hm7.next HB8.out).grown HGr.out (by intro e; have := Option.some.inj e; omega)
          have hnr := Blk.grown HN8.out HGr.out (by intro e; have := Option.some.inj e; omega)
          have hor := own_kept_t (own_below ho7 HB8.out (fun x hx => (ho7.lt x hx).2)) HGr.out HP8.out (by decide)
          have hbr := (hb7.trans (HB8.out.mono hb7.size)).grown HGr.out (Nat.le_trans hb7.size HB8.out.size) (fun j hj => by cases hj; omega)
          have HZr := Lib.hid hzr
          have HMr := Lib.hid hmr
          have HNr := Lib.hid hnr
          have HOr := Lib.hid hor
          have HBr := Lib.hid hbr
          have HVr : Hid ((NA n va7).all (·.oneCell') = true) := by rw [HVA.out]; exact NA_one _ _ _ _
          have hwl := HB6.out.size
          clear hz7 hm7 hb7 ho7 hzr hmr hnr hor hbr
          go_upto_region 13 with fail
          refine wp_region_G 3 (fun w' => NB w' w.heap.size n va7 ∧ Blk w' w5.heap.size 60 (repTo n 3)) (by kernel_rfl) (⟨NB.next HNr.out (Below.refl _ _).drew, HPr.out.next (Below.refl _ _).drew⟩) (fun hS => ?_)
          refine wpT 0 (.agg (NA n va7)) rfl (by kernel_rfl) (fun _ _ _ h => h) (Or.inl ⟨by rfl, fun wx hSw => exec_load_row 45 (.tmp 2) rfl w.heap.size rfl _ _ _ hSw.1 Try.underlying45 rfl (by rw [NA_size]; exact infoNode)⟩) hS ?_
          try simp only [pts]
          refine wpT 1 (.agg (repTo n 3)) rfl (by kernel_rfl) (fun _ _ _ h => h) (Or.inl ⟨by rfl, fun wx hSw => exec_load_row 60 (.tmp 7) rfl w5.heap.size rfl _ _ _ hSw.2 Try.underlying60 rfl info14⟩) hS ?_
          try simp only [pts]
          refine wpAnyG_one (i := 2) rfl (by kernel_rfl) (fun K hK => ?_)
          rw [if_pos (by rfl)]
          refine wp_store_row 45 (.tmp 4) (.tmp 59) rfl (w.heap.size + 1) _ zc (NA n va7) rfl rfl (HZr.out.next (Below.refl _ _).drew) (by rw [NA_size, HZS.out]) (by rw [NA_size]; exact infoNode) HVr.out (fun w9 hN9 hg9 => ?_)
          have hS9 : NB w9 w.heap.size n va7 ∧ Blk w9 w5.heap.size 60 (repTo n 3) := ⟨Blk.grown hS.1 hg9 (by intro e; have := Option.some.inj e; omega), hS.2.grown hg9 (by intro e; have := Option.some.inj e; omega)⟩
          refine hK.out _ _ hS9 ?_
          clear hK K hS
          have hS := hS9
          try simp only [pts]
          refine wpAnyG_last rfl (by kernel_rfl) (by kernel_rfl) (by kernel_rfl) (fun K hK => ?_)
          rw [if_pos (by rfl)]
          refine wp_store_row 60 (.tmp 5) (.tmp 60) rfl (w.heap.size + 1 + 1) _ _ (repTo n 3) rfl rfl ((HMr.out.next (Below.refl _ _).drew).grown hg9 (by intro e; have := Option.some.inj e; omega)) rfl info14 (repTo_one _ _) (fun w10 hM10 hg10 => ?_)
          refine hK.out _ _ ?_
          clear hK K
          try simp only [pts]
          go_wp2_with fail
          have hN10 := hN9.grown hg10 (by intro e; have := Option.some.inj e; omega)
          refine bodyPost_ret (results_two Try.results22 _ _ (w.heap.size + 1) (w.heap.size + 1 + 1) _ _ _ _ _ _ rfl rfl hN10 hM10 Try.underlying45 rfl (by rw [NA_size]; exact infoNode) Try.underlying60 rfl info14) rfl ?_
          rw [HVA.out]
          exact cl_end (by omega) (by omega) (by omega) (HZr.out.next (Below.refl _ _).drew) (HMr.out.next (Below.refl _ _).drew) HOr.out (by omega) HBr.out.drew hg9 hg10 HLK.out (.inr rfl)
    | true =>
      have HVS := Lib.hid hvs
      have HVD := Lib.hid (show n.vv ≠ n.dg by simpa using hvd)
      clear hvs
      have KA := Lib.hid (adopt_any n va7 w.heap.size sv w5 HN6.out HSL6.out HIN.out)
      unfold AdPost at KA
      go_upto_region 7 with (first
        | (refine wpList_load_at 94 (.tmp 6) rfl rfl g6 rfl _ (AN 4 sv) _ HS5.out Try.underlying94 rfl (by rw [AN_size]; exact info44) ?_)
        | (go_at_call 47; (with_reducible refine KA.out.mono ?_); rintro e w7 ⟨n7, rfl, hN7, hg7, hlk7⟩; have HN7' := Lib.hid hN7; have HG7' := Lib.hid hg7; have HLK' := Lib.hid hlk7; clear hN7 hg7 hlk7)
        | go_big_skip)
      clear k70 k71 k72 hvd KA
      have HN7 : Hid (NB w7 w.heap.size n7 va7) := HN7'
      have HG7 : Hid (w5.grownBy w7 (some w.heap.size)) := HG7'
      have HLK : Hid (Lk n n7) := HLK'
      have HEQ : Hid ((n.vs = true ∧ n.vv ≠ n.dg) ∨ n7 = n) := Lib.hid (.inl ⟨HVS.out, HVD.out⟩)
      have c0 : w7.cell? ⟨w.heap.size, 0, none⟩ = some (.int .i64 n7.id) := NB.at_ HN7.out (k := 0) (by decide)
      have c1 : w7.cell? ⟨w.heap.size, 1, none⟩ = some (.int .i64 n7.fr) := NB.at_ HN7.out (k := 1) (by decide)
      have c67 : w7.cell? ⟨w.heap.size, 67, none⟩ = some (.int .i64 (n7.us 0)) := NB.at_ HN7.out (k := 67) (by decide)
      have c68 : w7.cell? ⟨w.heap.size, 68, none⟩ = some (.int .i64 (n7.us 1)) := NB.at_ HN7.out (k := 68) (by decide)
      have c69 : w7.cell? ⟨w.heap.size, 69, none⟩ = some (.int .i64 (n7.us 2)) := NB.at_ HN7.out (k := 69) (by decide)
      have c70 : w7.cell? ⟨w.heap.size, 70, none⟩ = some (.int .i64 n7.dg) := NB.at_ HN7.out (k := 70) (by decide)
      have c72 : w7.cell? ⟨w.heap.size, 72, none⟩ = some (.bool n7.vs) := NB.at_ HN7.out (k := 72) (by decide)
      have c27 : w7.cell? ⟨w.heap.size, 27, none⟩ = some (.bool (n7.ro.inn 0)) := NB.at_ HN7.out (k := 27) (by decide)
      have c28 : w7.cell? ⟨w.heap.size, 28, none⟩ = some (.bool (n7.ro.inn 1)) := NB.at_ HN7.out (k := 28) (by decide)
      have c29 : w7.cell? ⟨w.heap.size, 29, none⟩ = some (.bool (n7.ro.inn 2)) := NB.at_ HN7.out (k := 29) (by decide)
      have c30 : w7.cell? ⟨w.heap.size, 30, none⟩ = some (.bool (n7.ro.inn 3)) := NB.at_ HN7.out (k := 30) (by decide)
      go_upto_region 8 with fail
      clear c0 c1 c67 c68 c69 c70 c72 c27 c28 c29 c30
      have hwlt : w.heap.size < w7.heap.size := Blk.lt HN7.out
      have HP8 := Lib.hid (show Blk (w7.alloc (.cells #[.int .i64 n7.id, .int .i64 n7.fr, .int .i64 (n7.us 0), .int .i64 (n7.us 1), .int .i64 (n7.us 2), .int .i64 0, .int .i64 0, .int .i64 0, .int .i64 n7.dg, .bool n7.vs, .bool (n7.ro.inn 0), .bool (n7.ro.inn 1), .bool (n7.ro.inn 2), .bool (n7.ro.inn 3)] 60)) w7.heap.size 60 (repTo n7 0) from Blk.new _ _ _)
      have HB8 := Lib.hid (show Below w7.heap.size w7 (w7.alloc (.cells #[.int .i64 n7.id, .int .i64 n7.fr, .int .i64 (n7.us 0), .int .i64 (n7.us 1), .int .i64 (n7.us 2), .int .i64 0, .int .i64 0, .int .i64 0, .int .i64 n7.dg, .bool n7.vs, .bool (n7.ro.inn 0), .bool (n7.ro.inn 1), .bool (n7.ro.inn 2), .bool (n7.ro.inn 3)] 60)) from (Below.refl _ _).alloc (Nat.le_refl _) _)
      obtain ⟨w8, hw8⟩ : ∃ w8, w7.alloc (.cells #[.int .i64 n7.id, .int .i64 n7.fr, .int .i64 (n7.us 0), .int .i64 (n7.us 1), .int .i64 (n7.us 2), .int .i64 0, .int .i64 0, .int .i64 0, .int .i64 n7.dg, .bool n7.vs, .bool (n7.ro.inn 0), .bool (n7.ro.inn 1), .bool (n7.ro.inn 2), .bool (n7.ro.inn 3)] 60) = w8 := ⟨_, rfl⟩
      rw [hw8] at HP8 HB8 ⊢
      clear hw8
      have HN8 := Lib.hid (NB.next HN7.out HB8.out)
      go_upto_region 9 with (first
        | (refine wpList_load_mid rfl 34 (.tmp 47) rfl w.heap.size 6 rfl (axL n7) _ HN8.out.axR Try.underlying34 rfl info21 ?_))
      go_loopw [49] (fun iv wr => CpRel w8 w7.heap.size n7 iv wr) (fun iv _ => 3 - (intOf iv).toNat)
      case atStart => exact ⟨0, rfl, by omega, HP8.out, grown_refl _ _⟩
      case round =>
        obtain ⟨i, rfl, hi3, hP, hG⟩ := hrel
        have HPr := Lib.hid hP
        have HGr := Lib.hid hG
        clear hP hG
        by_cases hi : i < 3
        · have hc : i = 0 ∨ i = 1 ∨ i = 2 := by omega
          rcases hc with rfl | rfl | rfl
          · have ix := fun W => ixA0 n7 W
            have k5 := fun o => show (wr.alloc o).cell? ⟨w7.heap.size, 5, none⟩ = some _ from (Blk.cell (HPr.out.alloc o) 5).trans rfl
            have f5 := fun o => Blk.frozen (HPr.out.alloc o) 5
            go_wp2_with fail
            go_roundw
            case rel => exact CpRel.put (i := 0) (by decide) rfl HPr.out HGr.out _
            case measure => simp [intOf]
          · have ix := fun W => ixA1 n7 W
            have k5 := fun o => show (wr.alloc o).cell? ⟨w7.heap.size, 6, none⟩ = some _ from (Blk.cell (HPr.out.alloc o) 6).trans rfl
            have f5 := fun o => Blk.frozen (HPr.out.alloc o) 6
            go_wp2_with fail
            go_roundw
            case rel => exact CpRel.put (i := 1) (by decide) rfl HPr.out HGr.out _
            case measure => simp [intOf]
          · have ix := fun W => ixA2 n7 W
            have k5 := fun o => show (wr.alloc o).cell? ⟨w7.heap.size, 7, none⟩ = some _ from (Blk.cell (HPr.out.alloc o) 7).trans rfl
            have f5 := fun o => Blk.frozen (HPr.out.alloc o) 7
            go_wp2_with fail
            go_roundw
            case rel => exact CpRel.put (i := 2) (by decide) rfl HPr.out HGr.out _
            case measure => simp [intOf]
        · obtain rfl : i = 3 := by omega
          have hz7 := HZ6.out.grown HG7.out (by intro e; have := Option.some.inj e; omega)
          have hm7 := HM6.out.grown HG7.out (by intro e; have := Option.some.inj e; omega)
          have hb7 := HB6.out.grown HG7.out HB6.out.size (fun j hj => by cases hj; exact Nat.le_refl _)
          have ho7 := own_kept_t HO6.out HG7.out HN6.out (by decide)
          have hzl := Blk.lt hz7
          have hml := Blk.lt hm7
          have hzr := (hz7.next HB8.out).grown HGr.out (by intro e; have := Option.some.inj e; omega)
          have hmr := (hm7.next HB8.out).grown HGr.out (by intro e; have := Option.some.inj e; omega)
          have hnr := Blk.grown HN8.out HGr.out (by intro e; have := Option.some.inj e; omega)
          have hor := own_kept_t (own_below ho7 HB8.out (fun x hx => (ho7.lt x hx).2)) HGr.out HP8.out (by decide)
          have hbr := (hb7.trans (HB8.out.mono hb7.size)).grown HGr.out (Nat.le_trans hb7.size HB8.out.size) (fun j hj => by cases hj; omega)
          have HZr := Lib.hid hzr
          have HMr := Lib.hid hmr
          have HNr := Lib.hid hnr
          have HOr := Lib.hid hor
          have HBr := Lib.hid hbr
          have HVr : Hid ((NA n7 va7).all (·.oneCell') = true) := by rw [HVA.out]; exact NA_one _ _ _ _
          have hwl := HB6.out.size
          clear hz7 hm7 hb7 ho7 hzr hmr hnr hor hbr
          go_upto_region 13 with fail
          refine wp_region_G 3 (fun w' => NB w' w.heap.size n7 va7 ∧ Blk w' w7.heap.size 60 (repTo n7 3)) (by kernel_rfl) (⟨NB.next HNr.out (Below.refl _ _).drew, HPr.out.next (Below.refl _ _).drew⟩) (fun hS => ?_)
          refine wpT 0 (.agg (NA n7 va7)) rfl (by kernel_rfl) (fun _ _ _ h => h) (Or.inl ⟨by rfl, fun wx hSw => exec_load_row 45 (.tmp 2) rfl w.heap.size rfl _ _ _ hSw.1 Try.underlying45 rfl (by rw [NA_size]; exact infoNode)⟩) hS ?_
          try simp only [pts]
          refine wpT 1 (.agg (repTo n7 3)) rfl (by kernel_rfl) (fun _ _ _ h => h) (Or.inl ⟨by rfl, fun wx hSw => exec_load_row 60 (.tmp 7) rfl w7.heap.size rfl _ _ _ hSw.2 Try.underlying60 rfl info14⟩) hS ?_
          try simp only [pts]
          refine wpAnyG_one (i := 2) rfl (by kernel_rfl) (fun K hK => ?_)
          rw [if_pos (by rfl)]
          refine wp_store_row 45 (.tmp 4) (.tmp 59) rfl (w.heap.size + 1) _ zc (NA n7 va7) rfl rfl (HZr.out.next (Below.refl _ _).drew) (by rw [NA_size, HZS.out]) (by rw [NA_size]; exact infoNode) HVr.out (fun w9 hN9 hg9 => ?_)
          have hS9 : NB w9 w.heap.size n7 va7 ∧ Blk w9 w7.heap.size 60 (repTo n7 3) := ⟨Blk.grown hS.1 hg9 (by intro e; have := Option.some.inj e; omega), hS.2.grown hg9 (by intro e; have := Option.some.inj e; omega)⟩
          refine hK.out _ _ hS9 ?_
          clear hK K hS
          have hS := hS9
          try simp only [pts]
          refine wpAnyG_last rfl (by kernel_rfl) (by kernel_rfl) (by kernel_rfl) (fun K hK => ?_)
          rw [if_pos (by rfl)]
          refine wp_store_row 60 (.tmp 5) (.tmp 60) rfl (w.heap.size + 1 + 1) _ _ (repTo n7 3) rfl rfl ((HMr.out.next (Below.refl _ _).drew).grown hg9 (by intro e; have := Option.some.inj e; omega)) rfl info14 (repTo_one _ _) (fun w10 hM10 hg10 => ?_)
          refine hK.out _ _ ?_
          clear hK K
          try simp only [pts]
          go_wp2_with fail
          have hN10 := hN9.grown hg10 (by intro e; have := Option.some.inj e; omega)
          refine bodyPost_ret (results_two Try.results22 _ _ (w.heap.size + 1) (w.heap.size + 1 + 1) _ _ _ _ _ _ rfl rfl hN10 hM10 Try.underlying45 rfl (by rw [NA_size]; exact infoNode) Try.underlying60 rfl info14) rfl ?_
          rw [HVA.out]
          exact cl_end (by omega) (by omega) (by omega) (HZr.out.next (Below.refl _ _).drew) (HMr.out.next (Below.refl _ _).drew) HOr.out (by omega) HBr.out.drew hg9 hg10 HLK.out HEQ.out
end Go.Proofs.Ytofeoeknmlkjgaa.Nk
end
section
/- node.Decide. -/
set_option linter.unusedVariables false
namespace Go.Proofs.Ytofeoeknmlkjgaa.Nk
open Go.RowKit Go.Proofs.Ytofeoeknmlkjgaa Mb Fi Sm

def DcRel (w W6 : World) (n : Nd) (va : Value) (h : Hd) (d : Nat) (iv : Value) (wr : World) : Prop :=
  ∃ s : Nat, iv = .int .i64 s ∧ s ≤ 4 ∧ NB wr w.heap.size (agTo n h d (s * 3)) va ∧ W6.grownBy wr (some w.heap.size)
def DcIn (w W6 : World) (n : Nd) (va : Value) (h : Hd) (d s : Nat) (iv : Value) (wr : World) : Prop :=
  ∃ a : Nat, iv = .int .i64 a ∧ a ≤ 3 ∧ NB wr w.heap.size (agTo n h d (s * 3 + a)) va ∧ W6.grownBy wr (some w.heap.size)
def DaRel (w W6 : World) (n : Nd) (va : Value) (iv : Value) (wr : World) : Prop :=
  ∃ a : Nat, iv = .int .i64 a ∧ a ≤ 3 ∧ NB wr w.heap.size (fuTo n a) va ∧ W6.grownBy wr (some w.heap.size)

theorem one_ownI {w : World} {g base : Nat} {t : TypeId} {y : Int} (h : Blk w g t #[.int .i64 y]) (hB : base ≤ g) (ht : t ≠ 4) : OwnI w base (some ⟨g, 0, none⟩) 1 1 [y] := by
  refine ⟨⟨rfl, fun _ => ⟨g, 0, rfl, Blk.lt h, fun j hj => ?_⟩⟩, (fun e => by cases e), Nat.le_refl _, fun ad e => ?_⟩
  · obtain rfl : j = 0 := by omega
    exact h.cell 0
  · cases e
    refine ⟨rfl, hB, Blk.lt h, fun j hj => ?_, .inl rfl, t, _, h, ht⟩
    obtain rfl : j = 0 := by omega
    show (World.cell? w ⟨g, 0, none⟩).isSome = true ∧ _
    rw [show w.cell? ⟨g, 0, none⟩ = _ from h.cell 0]
    exact ⟨rfl, h.frozen 0⟩

set_option maxRecDepth 100000 in
set_option maxHeartbeats 8000000 in
theorem Decide_any (n : Nd) (A : Option Addr) (m c : Nat) (bs : List Value) (Am : Option Addr) (mm cm : Nat) (Ms : List Mg) (d : Nat) (hd : n.id = (d : Int)) (hd4 : d < 4) (hax : ∀ a, a < 3 → (n.ax a).In) (htu : n.tu.In) (hag : ∀ j, j < 12 → In64 (aF n (decH n (Ms.map Mg.pm)) d j)) (w : World) (hb : VR w 1 A m c bs) (h1 : ∀ u ∈ bs, u.oneCell' = true) (hm : m ≤ 140737488355328) (hM : MR w Am mm cm Ms) (hmm : mm ≤ 17592186044416) :
    Calls Try.prog 18 #[.agg (NA n (.slice A m c)), .slice Am mm cm] w (PhPost (decideN n (Ms.map Mg.pm) d) bs 3 n.id n.fr [(decideN n (Ms.map Mg.pm) d).dg] w) := by
  obtain rfl : m = bs.length := by have := hb.1; omega
  have HVB := Lib.hid hb
  have H1 := Lib.hid h1
  have HMR := Lib.hid hM
  have HD := Lib.hid hd
  have h0 : 0 ≤ n.id := by omega
  have h4 : n.id < 4 := by omega
  unfold decH at hag
  have HAX := Lib.hid hax
  have HTU := Lib.hid htu
  have HAG := Lib.hid hag
  clear hb h1 hM hd hax htu hag
  --PRE Decide 11 4
  go_enter Try.func18, Try.ntmps18
  go_upto_region 1 with fail
  have hN : NB (((w.alloc (.cells (NA n (.slice A bs.length c)) 45)).alloc (.cells Try.zeroCells45 45)).alloc (.cells #[.int .i64 0, .int .i64 0, .int .i64 0, .slice none 0 0] 64)) w.heap.size n (.slice A bs.length c) := ((Blk.new _ _ _).alloc _).alloc _
  have hZ : Blk (((w.alloc (.cells (NA n (.slice A bs.length c)) 45)).alloc (.cells Try.zeroCells45 45)).alloc (.cells #[.int .i64 0, .int .i64 0, .int .i64 0, .slice none 0 0] 64)) (w.heap.size + 1) 45 Try.zeroCells45 := (Blk.at_ _ _ _ _ (by simp)).alloc _
  have hM : Blk (((w.alloc (.cells (NA n (.slice A bs.length c)) 45)).alloc (.cells Try.zeroCells45 45)).alloc (.cells #[.int .i64 0, .int .i64 0, .int .i64 0, .slice none 0 0] 64)) (w.heap.size + 1 + 1) 64 #[.int .i64 0, .int .i64 0, .int .i64 0, .slice none 0 0] := Blk.at_ _ _ _ _ (by simp)
  have hB : Below w.heap.size w (((w.alloc (.cells (NA n (.slice A bs.length c)) 45)).alloc (.cells Try.zeroCells45 45)).alloc (.cells #[.int .i64 0, .int .i64 0, .int .i64 0, .slice none 0 0] 64)) := (((Below.refl _ _).alloc (Nat.le_refl _) _).alloc (by simp) _).alloc (by simp; omega) _
  have hzs : (Try.zeroCells45).size = 74 := by kernel_rfl
  generalize Try.zeroCells45 = zc at *
  generalize ((w.alloc (.cells (NA n (.slice A bs.length c)) 45)).alloc (.cells zc 45)).alloc (.cells #[.int .i64 0, .int .i64 0, .int .i64 0, .slice none 0 0] 64) = W0 at *
  have hW0 : w.heap.size + 1 + 1 < W0.heap.size := hM.lt
  have HZS := Lib.hid hzs
  have HN := Lib.hid hN
  have HZ := Lib.hid hZ
  have HM := Lib.hid hM
  have HB := Lib.hid hB
  have KC := Lib.hid (copied_any n A bs.length c bs W0 (HVB.out.next hB) H1.out hm)
  unfold CopyPost at KC
  clear hN hZ hM hB hzs
  go_upto_region 4 with (first
    | (refine wpList_load_at 45 (.tmp 2) rfl rfl w.heap.size rfl _ (NA n (.slice A bs.length c)) _ HN.out Try.underlying45 rfl (by rw [NA_size]; exact infoNode) ?_)
    | (go_at_call 35; (with_reducible refine KC.out.mono ?_); rintro e w1 ⟨A', c', rfl, hO1, hB1⟩; have hw1 : W0.heap.size ≤ w1.heap.size := hB1.size; have HN1 := Lib.hid (NB.next HN.out hB1); have HZ1 := Lib.hid (HZ.out.next hB1); have HM1 := Lib.hid (HM.out.next hB1); have HB1 := Lib.hid (HB.out.trans (hB1.mono HB.out.size)); have HO1 := Lib.hid hO1; clear hO1 hB1)
    | (refine wpList_store_at 45 (.tmp 2) (.tmp 12) rfl rfl w.heap.size _ _ (NA n (.slice A' bs.length c')) rfl rfl HN1.out (by rw [NA_size, NA_size]) (by rw [NA_size]; exact infoNode) (NA_one _ _ _ _) ?_; intro w2 hN2 hg2; have HN2 := Lib.hid hN2; have HG2 := Lib.hid hg2; clear hN2 hg2)
    | (refine wpList_load_at 45 (.tmp 2) rfl rfl w.heap.size rfl _ (NA n (.slice A' bs.length c')) _ HN2.out Try.underlying45 rfl (by rw [NA_size]; exact infoNode) ?_)
    | (go_at_call 36; (with_reducible refine (strange_no n (.slice A' bs.length c') w2 h0 h4).mono ?_); rintro e w3 ⟨rfl, hb3⟩; have HN3 := Lib.hid (NB.next HN2.out hb3); have HBs := Lib.hid hb3; clear hb3))
  have HZ3 := Lib.hid ((HZ1.out.grown HG2.out (by intro e; have := Option.some.inj e; omega)).next HBs.out)
  have HM3 := Lib.hid ((HM1.out.grown HG2.out (by intro e; have := Option.some.inj e; omega)).next HBs.out)
  have HO3 := Lib.hid (own_below (own_kept_t HO1.out HG2.out HN1.out (by decide)) HBs.out (fun x hx => ((own_kept_t HO1.out HG2.out HN1.out (by decide)).lt x hx).2))
  have HB3 := Lib.hid ((HB1.out.grown HG2.out HB1.out.size (fun j hj => by cases hj; exact Nat.le_refl _)).trans (HBs.out.mono (by have := HG2.out.size; have := HB1.out.size; omega)))
  have hw3 : W0.heap.size ≤ w3.heap.size := by have := HG2.out.size; have := HBs.out.size; omega
  clear HN HZ HM HB KC HN1 HZ1 HM1 HB1 HO1 HN2 HG2 HBs
  --END
  have HMR3 := Lib.hid (HMR.out.next HB3.out)
  have KH := Lib.hid (hear_any n (.slice A' bs.length c') Am mm cm Ms 2 12 12 rfl (by decide) (by decide) h0 h4 w3 HMR3.out hmm)
  unfold HearPost at KH
  go_upto_region 5 with (first
    | (refine wpList_load_at 45 (.tmp 2) rfl rfl w.heap.size rfl _ (NA n (.slice A' bs.length c')) _ HN3.out Try.underlying45 rfl (by rw [NA_size]; exact infoNode) ?_)
    | (go_at_call 37; (with_reducible refine KH.out.mono ?_); rintro e w4 ⟨sv, rfl, hS4, hb4⟩; have HN4 := Lib.hid (NB.next HN3.out hb4); have HSL := Lib.hid hS4; have HB34 := Lib.hid hb4; clear hS4 hb4)
    | (refine wpList_store_at 94 (.tmp 6) (.tmp 19) rfl rfl w4.heap.size _ #[.slice none 0 0, .slice none 0 0, .slice none 0 0, .slice none 0 0] (AN 4 sv) rfl rfl (Blk.new w4 _ _) (by rw [AN_size]; rfl) (by rw [AN_size]; exact info44) (AN_one (fun i hi => sl4_one HSL.out i hi)) ?_; intro w5 hS5 hg5; have HS5 := Lib.hid hS5; have HG5 := Lib.hid hg5; clear hS5 hg5))
  obtain ⟨va7, hva⟩ : ∃ v, v = Value.slice A' bs.length c' := ⟨_, rfl⟩
  have HVA := Lib.hid hva
  have hs34 := HB34.out.size
  have hs45 := HG5.out.size
  have hb45 : Below w4.heap.size w4 w5 := ((Below.refl _ _).alloc (Nat.le_refl _) _).grown HG5.out (by simp) (fun j hj => by cases hj; exact Nat.le_refl _)
  have hb35 := HB34.out.trans (hb45.mono hs34)
  have HN6 := Lib.hid (NB.next HN3.out hb35)
  have HZ6 := Lib.hid (HZ3.out.next hb35)
  have HM6 := Lib.hid (HM3.out.next hb35)
  have HO6 := Lib.hid (own_below HO3.out hb35 (fun x hx => (HO3.out.lt x hx).2))
  have HB6 := Lib.hid (HB3.out.trans (hb35.mono HB3.out.size))
  have HL6 := Lib.hid (HSL.out.next hb45)
  have h3sz := HM3.out.lt
  clear hb45 hb35 HN3 HZ3 HM3 HO3 HB3 HSL HB34 HG5 KH HMR3 HN4
  generalize hh : hearF n.id n.fr 2 12 (Ms.map Mg.pm) = hX at *
  have HL := Lib.hid (fun i l (e : hX i = some l) => hearF_len (id := n.id) (fr := n.fr) (kind := 2) (many := 12) (Ms.map Mg.pm) (fun _ => none) (fun i l e => by cases e) i l (show hearF n.id n.fr 2 12 (Ms.map Mg.pm) i = some l by rw [hh]; exact e))
  have HH := Lib.hid hh
  clear hh hva
  rw [← HVA.out] at HN6
  have hg6 : w4.heap.size ≠ w.heap.size := by omega
  have hg3 : w.heap.size < w3.heap.size := by omega
  generalize w4.heap.size = g6 at *
  go_wp2_with fail
  go_loopw [20] (fun iv wr => DcRel w w5 n va7 hX d iv wr) (fun iv _ => 4 - (intOf iv).toNat)
  case atStart => exact ⟨0, rfl, by omega, by rw [Nat.zero_mul, agTo_zero]; exact HN6.out, grown_refl _ _⟩
  case round =>
    obtain ⟨s, rfl, hs4, hN, hG⟩ := hrel
    by_cases hs : s < 4
    ·
      --FAST
      have q0 : (s : Int) < 4 := by omega
      have qq : (0 : Int) ≤ (s : Int) := by omega
      have HN := Lib.hid hN
      have HG := Lib.hid hG
      clear hN hG
      obtain ⟨wo, rfl⟩ : ∃ wo : World, wo = wr := ⟨_, rfl⟩
      go_wp2_with fail
      go_loopw [23] (fun iv wr => DcIn w w5 n va7 hX d s iv wr) (fun iv _ => 3 - (intOf iv).toNat)
      case atStart => exact ⟨0, rfl, by omega, HN.out, HG.out⟩
      case round =>
        clear HN HG
        obtain ⟨a, rfl, ha3, hN, hG⟩ := hrel
        by_cases ha : a < 3
        · have p0 : (a : Int) < 3 := by omega
          have pp : (0 : Int) ≤ (a : Int) := by omega
          have HN := Lib.hid hN
          have HG := Lib.hid hG
          clear hN hG
          have k39 : wr.cell? ⟨w.heap.size, 39 + s * 3 + a, none⟩ = some (.int .i64 ((agTo n hX d (s * 3 + a)).di (s * 3 + a))) := NB.di HN.out hs ha
          rw [show (agTo n hX d (s * 3 + a)).di = n.di from rfl] at k39
          have k55 := NB.ag HN.out hs ha
          have f55 := Blk.frozen HN.out (55 + s * 3 + a)
          have k0 : wr.cell? ⟨w.heap.size, 0, none⟩ = some (.int .i64 (agTo n hX d (s * 3 + a)).id) := NB.id HN.out
          rw [show (agTo n hX d (s * 3 + a)).id = (d : Int) from HD.out] at k0
          have hk12 : s * 3 + a < 12 := by omega
          generalize hz : n.di (s * 3 + a) = z at *
          have HZ := Lib.hid hz
          clear hz
          by_cases hsd : s = d
          · have q1 : ((s : Int) != (d : Int)) = false := by simp; omega
            have haf : z = aF n hX d (s * 3 + a) := by unfold aF; rw [if_pos (by omega)]; exact HZ.out.symm
            have HA := Lib.hid haf
            have HSD := Lib.hid hsd
            clear haf hsd
            have hns : NB (wr.setCell ⟨w.heap.size, 55 + s * 3 + a, none⟩ (.int .i64 z)) w.heap.size (agTo n hX d (s * 3 + a + 1)) va7 := NB.set HN.out (fun j hj => by have e := agTo_put n hX d (s * 3 + a) hk12 z HA.out va7 _ (.inl rfl) j hj; rw [show 55 + (s * 3 + a) = 55 + s * 3 + a from (Nat.add_assoc _ _ _).symm] at e; exact e)
            have HNS := Lib.hid hns
            have k39a : wr.drew.cell? ⟨w.heap.size, 39 + s * 3 + a, none⟩ = some (.int .i64 z) := k39
            have k39b : (wr.setCell ⟨w.heap.size, 55 + s * 3 + a, none⟩ (.int .i64 z)).drew.cell? ⟨w.heap.size, 39 + s * 3 + a, none⟩ = some (.int .i64 z) := by have := NB.di hns hs ha; rw [show (agTo n hX d (s * 3 + a + 1)).di = n.di from rfl, HZ.out] at this; exact this
            have KA := Lib.hid k39a
            have KB := Lib.hid k39b
            clear hns k39a k39b
            go_upto_region 11 with fail
            go_region_held3 (fun W => W.cell? ⟨w.heap.size, 39 + s * 3 + a, none⟩ = some (.int .i64 z)) (first | with_reducible exact KA.out | with_reducible exact KB.out) (fail)
            have HG2 := Lib.hid (grown_trans HG.out (grown_set wr w.heap.size (55 + s * 3 + a) (.int .i64 z)))
            have kid : ((wr.setCell ⟨w.heap.size, 55 + s * 3 + a, none⟩ (.int .i64 z)).drew).cell? ⟨w.heap.size, 0, none⟩ = some (.int .i64 d) := by
              have e : (wr.setCell ⟨w.heap.size, 55 + s * 3 + a, none⟩ (.int .i64 z)).cell? ⟨w.heap.size, 0, none⟩ = some (.int .i64 (agTo n hX d (s * 3 + a + 1)).id) := NB.id HNS.out
              rw [show (agTo n hX d (s * 3 + a + 1)).id = (d : Int) from HD.out] at e
              exact e
            have HN3 : Hid (NB (wr.setCell ⟨w.heap.size, 55 + s * 3 + a, none⟩ (.int .i64 z)).drew w.heap.size (agTo n hX d (s * 3 + a + 1)) va7) := Lib.hid (Blk.drew HNS.out)
            have HG3 : Hid (w5.grownBy (wr.setCell ⟨w.heap.size, 55 + s * 3 + a, none⟩ (.int .i64 z)).drew (some w.heap.size)) := Lib.hid (grown_trans HG2.out (grown_below (below_drewN _ _ 1)))
            generalize (wr.setCell ⟨w.heap.size, 55 + s * 3 + a, none⟩ (.int .i64 z)).drew = W7 at *
            go_wp2_with (first | go_big_skip)
            go_roundw
            case rel => exact ⟨a + 1, by go_num, by omega, HN3.out, HG3.out⟩
            case measure => simp [intOf]; omega
          · have q1 : ((s : Int) != (d : Int)) = true := by simp; omega
            have hk3 : (s * 3 + a) / 3 = s := by omega
            have haf : Mj.maj [z, toldF hX (s * 3 + a) d s 0, toldF hX (s * 3 + a) d s 1] 0 = aF n hX d (s * 3 + a) := by unfold aF; rw [if_neg (by omega), hk3, HZ.out]
            have HA := Lib.hid haf
            have hns : NB (wr.setCell ⟨w.heap.size, 55 + s * 3 + a, none⟩ (.int .i64 z)) w.heap.size { agTo n hX d (s * 3 + a) with ag := upd (agTo n hX d (s * 3 + a)).ag (s * 3 + a) z } va7 := NB.set HN.out (fun j hj => by
              by_cases c : j = 55 + s * 3 + a
              · rw [if_pos c, c_ag (by omega) (by omega)]
                show Value.int .i64 (upd _ _ _ _) = _
                unfold upd
                rw [if_pos (by omega)]
              · rw [if_neg c]
                by_cases c2 : 55 ≤ j ∧ j < 67
                · rw [c_ag c2.1 c2.2, c_ag c2.1 c2.2]
                  show Value.int .i64 (upd _ _ _ _) = _
                  unfold upd
                  rw [if_neg (by omega)]
                · exact c_ag_out _ _ va7 j (by omega))
            have HNS := Lib.hid hns
            have k39a : wr.drew.cell? ⟨w.heap.size, 39 + s * 3 + a, none⟩ = some (.int .i64 z) := k39
            have k39b : (wr.setCell ⟨w.heap.size, 55 + s * 3 + a, none⟩ (.int .i64 z)).drew.cell? ⟨w.heap.size, 39 + s * 3 + a, none⟩ = some (.int .i64 z) := by
              have := NB.di hns hs ha
              have e : ({ agTo n hX d (s * 3 + a) with ag := upd (agTo n hX d (s * 3 + a)).ag (s * 3 + a) z } : Nd).di = n.di := rfl
              rw [e, HZ.out] at this
              exact this
            have KA := Lib.hid k39a
            have KB := Lib.hid k39b
            have HSD := Lib.hid hsd
            clear hns k39a k39b haf hsd
            go_upto_region 11 with fail
            go_region_held3 (fun W => W.cell? ⟨w.heap.size, 39 + s * 3 + a, none⟩ = some (.int .i64 z)) (first | with_reducible exact KA.out | with_reducible exact KB.out) (fail)
            have HG2 := Lib.hid (grown_trans HG.out (grown_set wr w.heap.size (55 + s * 3 + a) (.int .i64 z)))
            obtain ⟨m7, hm7⟩ : ∃ m7 : Nd, m7 = { agTo n hX d (s * 3 + a) with ag := upd (agTo n hX d (s * 3 + a)).ag (s * 3 + a) z } := ⟨_, rfl⟩
            have HN3 : Hid (NB (wr.setCell ⟨w.heap.size, 55 + s * 3 + a, none⟩ (.int .i64 z)).drew w.heap.size m7 va7) := by rw [hm7]; exact Lib.hid (Blk.drew HNS.out)
            have hmi : m7.id = (d : Int) := by rw [hm7]; exact HD.out
            have hmd : m7.di = n.di := by rw [hm7]; rfl
            have HMI := Lib.hid hmi
            have HMD := Lib.hid hmd
            have HM7 := Lib.hid hm7
            have HG3 : Hid (w5.grownBy (wr.setCell ⟨w.heap.size, 55 + s * 3 + a, none⟩ (.int .i64 z)).drew (some w.heap.size)) := Lib.hid (grown_trans HG2.out (grown_below (below_drewN _ _ 1)))
            clear HNS HG2 KA KB k39 k55 f55 k0 hmi hmd hm7
            generalize (wr.setCell ⟨w.heap.size, 55 + s * 3 + a, none⟩ (.int .i64 z)).drew = W7 at *
            have k0 := NB.id HN3.out
            rw [HMI.out] at k0
            have HS7 := Lib.hid (HS5.out.grown HG3.out (by intro e; exact hg6 (Option.some.inj e)))
            have kt := told_any hX sv d s (s * 3 + a) hd4 hs (fun e => HSD.out e.symm) (fun j l e => by have := HL.out j l e; omega) W7 _ (HL6.out.grown HG3.out hg3)
            have KT := Lib.hid kt
            clear kt
            have x1 : IntKind.i64.wrap ((s : Int) * 3) = (s : Int) * 3 := by rw [IntKind.wrap_i64]; omega
            have x2 : IntKind.i64.wrap ((s : Int) * 3 + (a : Int)) = (s : Int) * 3 + (a : Int) := by rw [IntKind.wrap_i64]; omega
            have x3 : ((s * 3 + a : Nat) : Int) = (s : Int) * 3 + (a : Int) := by omega
            rw [x3] at KT
            clear x3
            go_upto_region 14 with (first
              | (refine wpList_load_at 94 (.tmp 6) rfl rfl g6 rfl _ (AN 4 sv) _ HS7.out Try.underlying94 rfl (by rw [AN_size]; exact info44) ?_)
              | (go_at_call 39; (with_reducible refine KT.out.mono ?_); rintro e w8 ⟨rfl, hb8⟩; have HB8 := Lib.hid hb8; clear hb8)
              | (refine wpList_store_at 97 (.tmp 9) (.tmp 49) rfl rfl w8.heap.size _ #[.int .i64 0, .int .i64 0] (I2 (toldF hX (s * 3 + a) d s)) rfl rfl (Blk.new w8 _ _) (by unfold I2; rw [AN_size]; rfl) (by unfold I2; rw [AN_size]; exact info2) (AN_one (fun i hi => rfl)) ?_; intro w9 hT9 hg9; have HT9 := Lib.hid hT9; have HG9 := Lib.hid hg9; clear hT9 hg9))
            try simp only [pts]
            have hb89 : Below w8.heap.size w8 w9 := ((Below.refl _ _).alloc (Nat.le_refl _) _).grown HG9.out (by simp) (fun j hj => by cases hj; exact Nat.le_refl _)
            have hbq9 := HB8.out.trans (hb89.mono HB8.out.size)
            have hN9 := NB.next HN3.out hbq9
            have t0 : w9.cell? ⟨w8.heap.size, 0, none⟩ = some (.int .i64 (toldF hX (s * 3 + a) d s 0)) := by have := HT9.out.cell 0; rw [this]; unfold I2; rw [AN_get (by decide)]
            have t1 : w9.cell? ⟨w8.heap.size, 1, none⟩ = some (.int .i64 (toldF hX (s * 3 + a) d s 1)) := by have := HT9.out.cell 1; rw [this]; unfold I2; rw [AN_get (by decide)]
            have tz := NB.di hN9 hs ha
            rw [HMD.out, HZ.out] at tz
            have l9 : w8.heap.size < w9.heap.size := HT9.out.lt
            have lg : w.heap.size < w9.heap.size := Blk.lt hN9
            have hgne : w8.heap.size ≠ w.heap.size := by have := Blk.lt HN3.out; have := HB8.out.size; omega
            have SK := Lib.hid (fun W (hb : Below w9.heap.size w9 W) => (⟨(hb.cell (p := ⟨w.heap.size, 39 + s * 3 + a, none⟩) lg).trans tz, (hb.cell (p := ⟨w8.heap.size, 0, none⟩) l9).trans t0, (hb.cell (p := ⟨w8.heap.size, 1, none⟩) l9).trans t1⟩ : W.cell? ⟨w.heap.size, 39 + s * 3 + a, none⟩ = some (.int .i64 z) ∧ W.cell? ⟨w8.heap.size, 0, none⟩ = some (.int .i64 (toldF hX (s * 3 + a) d s 0)) ∧ W.cell? ⟨w8.heap.size, 1, none⟩ = some (.int .i64 (toldF hX (s * 3 + a) d s 1))))
            have HNN := Lib.hid (fun W (hb : Below w9.heap.size w9 W) => NB.next hN9 hb)
            have KD := Lib.hid (fun W => decide_any z (toldF hX (s * 3 + a) d s 0) (toldF hX (s * 3 + a) d s 1) W)
            have HBQ9 := Lib.hid hbq9
            rw [HA.out] at KD
            clear hb89 hbq9 hN9 t0 t1 tz k0 HA
            generalize toldF hX (s * 3 + a) d s 0 = y0 at *
            generalize toldF hX (s * 3 + a) d s 1 = y1 at *
            generalize haz : aF n hX d (s * 3 + a) = az at *
            have HAZ := Lib.hid haz
            clear haz
            generalize w8.heap.size = g9 at *
            go_region_held3 (fun W => W.cell? ⟨w.heap.size, 39 + s * 3 + a, none⟩ = some (.int .i64 z) ∧ W.cell? ⟨g9, 0, none⟩ = some (.int .i64 y0) ∧ W.cell? ⟨g9, 1, none⟩ = some (.int .i64 y1))
              (first | with_reducible exact SK.out _ (Below.refl _ _).drew | with_reducible exact SK.out _ hb10 | with_reducible exact SK11.out)
              (first
                | (go_at_call 40; (with_reducible refine (KD.out _).mono ?_); rintro e w10 ⟨rfl, hb10'⟩; have hb10 : Below w9.heap.size w9 w10 := ((Below.refl _ _).drew).trans (hb10'.mono (Nat.le_refl _)); have hn10 := HNN.out _ hb10; have ku := NB.ag hn10 hs ha; have kf := Blk.frozen hn10 (55 + s * 3 + a); have sk10 := SK.out _ hb10; have hns : NB (w10.setCell ⟨w.heap.size, 55 + s * 3 + a, none⟩ (.int .i64 az)) w.heap.size (agTo n hX d (s * 3 + a + 1)) va7 := NB.set hn10 (fun j hj => by have e := agTo_put n hX d (s * 3 + a) hk12 az HAZ.out.symm va7 m7 (.inr ⟨z, HM7.out⟩) j hj; rw [show 55 + (s * 3 + a) = 55 + s * 3 + a from (Nat.add_assoc _ _ _).symm] at e; exact e); have SK11 := Lib.hid (⟨(by have := NB.di hns hs ha; rw [show (agTo n hX d (s * 3 + a + 1)).di = n.di from rfl, HZ.out] at this; exact this), cell_set_ne sk10.2.1 (Nat.lt_of_lt_of_le l9 hb10.size) hgne, cell_set_ne sk10.2.2 (Nat.lt_of_lt_of_le l9 hb10.size) hgne⟩ : (w10.setCell ⟨w.heap.size, 55 + s * 3 + a, none⟩ (.int .i64 az)).cell? ⟨w.heap.size, 39 + s * 3 + a, none⟩ = some (.int .i64 z) ∧ (w10.setCell ⟨w.heap.size, 55 + s * 3 + a, none⟩ (.int .i64 az)).cell? ⟨g9, 0, none⟩ = some (.int .i64 y0) ∧ (w10.setCell ⟨w.heap.size, 55 + s * 3 + a, none⟩ (.int .i64 az)).cell? ⟨g9, 1, none⟩ = some (.int .i64 y1)); have HNF := Lib.hid hns; have HB10 := Lib.hid hb10; clear hb10' sk10 hns hn10))
            go_wp2_with fail
            go_roundw
            case rel => exact ⟨a + 1, by go_num, by omega, HNF.out, grown_trans (grown_trans HG3.out (grown_below (HBQ9.out.trans (HB10.out.mono HBQ9.out.size)))) (grown_set _ _ _ _)⟩
            case measure => simp [intOf]; omega
        · have ha3' : a = 3 := by omega
          subst ha3'
          have HN := Lib.hid hN
          have HG := Lib.hid hG
          clear hN hG
          go_wp2_with fail
          go_roundw
          case rel => exact ⟨s + 1, by go_num, by omega, by rw [Nat.add_mul]; exact HN.out, HG.out⟩
          case measure => simp [intOf]; omega
      --SLOW
    · have hs4' : s = 4 := by omega
      subst hs4'
      have HX := Lib.hid hG
      have HN12 : Hid (NB wr w.heap.size (agTo n hX d 12) va7) := Lib.hid hN
      clear hN hG
      have HB12 := Lib.hid (HB6.out.grown HX.out HB6.out.size (fun j hj => by cases hj; exact Nat.le_refl _))
      have HZ12 := Lib.hid (HZ6.out.grown HX.out (by intro e; have := Option.some.inj e; omega))
      have HM12 := Lib.hid (HM6.out.grown HX.out (by intro e; have := Option.some.inj e; omega))
      have HO12 := Lib.hid (own_kept_t HO6.out HX.out HN6.out (by decide))
      clear HX HB6 HZ6 HM6 HO6 HN6 HS5 HL6
      have hag : ∀ j, j < 12 → -9223372036854775808 ≤ (agTo n hX d 12).ag j ∧ (agTo n hX d 12).ag j ≤ 9223372036854775807 := by
        intro j hj
        show _ ≤ (if j < 12 then aF n hX d j else n.ag j) ∧ (if j < 12 then aF n hX d j else n.ag j) ≤ _
        rw [if_pos hj]
        exact HAG.out j hj
      have HAG2 := Lib.hid hag
      have HAX2 := Lib.hid (show ∀ a, a < 3 → ((agTo n hX d 12).ax a).In from HAX.out)
      have HTU2 := Lib.hid (show (agTo n hX d 12).tu.In from HTU.out)
      have HID2 := Lib.hid (show (agTo n hX d 12).id = (d : Int) from HD.out)
      clear hag HAG HAX HTU
      obtain ⟨nA, hnA⟩ : ∃ nA, agTo n hX d 12 = nA := ⟨_, rfl⟩
      rw [hnA] at HN12 HAG2 HAX2 HTU2 HID2
      have HNA := Lib.hid hnA
      clear hnA
      obtain ⟨w12, rfl⟩ : ∃ wo : World, wo = wr := ⟨_, rfl⟩
      go_wp2_with fail
      go_loopw [68] (fun iv wr => DaRel w w12 nA va7 iv wr) (fun iv _ => 3 - (intOf iv).toNat)
      case atStart => exact ⟨0, rfl, by omega, by rw [fuTo_zero]; exact HN12.out, grown_refl _ _⟩
      case round =>
        obtain ⟨a, rfl, ha3, hN, hG⟩ := hrel
        by_cases ha : a < 3
        · have q0 : (a : Int) < 3 := by omega
          have HN := Lib.hid hN
          have HG := Lib.hid hG
          clear hN hG
          have kf := fun W => fuse_any (fuTo nA a) va7 a ha HAG2.out W
          simp only [fuseF_congr (m := fuTo nA a) (n := nA) rfl rfl] at kf
          have KF := Lib.hid kf
          have HFI := Lib.hid (fuseF_in nA a ha HAG2.out)
          clear kf
          go_upto_region 21 with (first
            | (refine wpList_load_at 45 (.tmp 2) rfl rfl w.heap.size rfl _ (NA (fuTo nA a) va7) _ HN.out Try.underlying45 rfl (by rw [NA_size]; exact infoNode) ?_)
            | (go_at_call 41; (with_reducible refine (KF.out _).mono ?_); rintro e w8 ⟨rfl, hb8⟩; have hn8 := HN.out.next hb8; have ku := NB.us hn8 ha; have kz := Blk.frozen hn8 (67 + a); have HN8 := Lib.hid hn8; have HB8 := Lib.hid hb8; clear hn8 hb8))
          have hn9 : NB (w8.setCell ⟨w.heap.size, 67 + a, none⟩ (.int .i64 (fuseF nA a))) w.heap.size (fuMid nA a) va7 := NB.set HN8.out (fun j hj => he_us nA va7 a ha j hj)
          have hg9 := grown_trans HG.out (grown_trans (grown_below HB8.out) (grown_set w8 w.heap.size (67 + a) (.int .i64 (fuseF nA a))))
          have HG9 := Lib.hid hg9
          have HN9 := Lib.hid hn9
          clear hn9 hg9 HN HG KF HN8 HB8 ku kz
          generalize w8.setCell ⟨w.heap.size, 67 + a, none⟩ (.int .i64 (fuseF nA a)) = w9 at *
          have HUS := Lib.hid (fun W (h : NB W w.heap.size (fuMid nA a) va7) => show W.cell? ⟨w.heap.size, 67 + a, none⟩ = some (.int .i64 (fuseF nA a)) by
            have e := NB.us h ha
            rw [show (fuMid nA a).us a = fuseF nA a from if_pos (by omega)] at e
            exact e)
          have HST := Lib.hid (fun W (h : NB W w.heap.size (fuMid nA a) va7) => show W.rangeAt w.heap.size (6 + a * 7) (stL (nA.ax a)) by
            have e := NB.stR h ha
            rw [show (fuMid nA a).ax a = nA.ax a from if_neg (by omega)] at e
            exact e)
          have HTR := Lib.hid (fun W (h : NB W w.heap.size (fuMid nA a) va7) => show W.rangeAt w.heap.size 2 (tuL nA.tu) from (NB.tuR h : W.rangeAt w.heap.size 2 (tuL (fuMid nA a).tu)))
          have SK := Lib.hid (fun W (h : Below w9.heap.size w9 W) => (NB.next HN9.out h : NB W w.heap.size (fuMid nA a) va7))
          have KS := Lib.hid (fun W => Fi.Step_any (nA.ax a) nA.tu (fuseF nA a) (HAX2.out a ha) HTU2.out HFI.out W)
          refine wp_region_G 17 (fun w' => NB w' w.heap.size (fuMid nA a) va7) (by kernel_rfl) (SK.out _ (Below.refl _ _).drew) (fun hS => ?_)
          refine wpG 0 ?_ rfl (by kernel_rfl) (fun _ _ _ h => h) (by rfl) (fun wx => ?_) hS ?_
          rotate_left
          · go_simp; (try with_reducible rfl)
          try simp only [pts]
          refine wpG 1 ?_ rfl (by kernel_rfl) (fun _ _ _ h => h) (by rfl) (fun wx => ?_) hS ?_
          rotate_left
          · go_simp; (try with_reducible rfl)
          try simp only [pts]
          refine wpG 2 ?_ rfl (by kernel_rfl) (fun _ _ _ h => h) (by rfl) (fun wx => ?_) hS ?_
          rotate_left
          · go_simp; (try with_reducible rfl)
          try simp only [pts]
          refine wpG 3 ?_ rfl (by kernel_rfl) (fun _ _ _ h => h) (by rfl) (fun wx => ?_) hS ?_
          rotate_left
          · go_simp; (try with_reducible rfl)
          try simp only [pts]
          refine wpT 4 ((nA.ax a).val) rfl (by kernel_rfl) (fun _ _ _ h => h) (Or.inl ⟨by rfl, fun wx hSw => exec_load_mid 33 (.tmp 81) rfl w.heap.size (6 + a * 7) rfl (stL (nA.ax a)) _ (HST.out _ hSw) Try.underlying33 rfl info7⟩) hS ?_
          try simp only [pts]
          refine wpG 5 ?_ rfl (by kernel_rfl) (fun _ _ _ h => h) (by rfl) (fun wx => ?_) hS ?_
          rotate_left
          · go_simp; (try with_reducible rfl)
          try simp only [pts]
          refine wpT 6 (nA.tu.val) rfl (by kernel_rfl) (fun _ _ _ h => h) (Or.inl ⟨by rfl, fun wx hSw => exec_load_mid 23 (.tmp 83) rfl w.heap.size 2 rfl (tuL nA.tu) _ (HTR.out _ hSw) Try.underlying23 rfl info4t⟩) hS ?_
          try simp only [pts]
          refine wpG 7 ?_ rfl (by kernel_rfl) (fun _ _ _ h => h) (by rfl) (fun wx => ?_) hS ?_
          rotate_left
          · go_simp; (try with_reducible rfl)
          try simp only [pts]
          refine wpG 8 ?_ rfl (by kernel_rfl) (fun _ _ _ h => h) (by rfl) (fun wx => ?_) hS ?_
          rotate_left
          · go_simp; (try with_reducible rfl)
          try simp only [pts]
          refine wpG 9 ?_ rfl (by kernel_rfl) (fun _ _ _ h => h) (by rfl) (fun wx => ?_) hS ?_
          rotate_left
          · go_simp; (try with_reducible rfl)
          try simp only [pts]
          refine wpT 10 ?_ rfl (by kernel_rfl) (fun _ _ _ h => h) (Or.inl ⟨by rfl, fun wx hSw => ?_⟩) hS ?_
          rotate_left
          · have hq := HUS.out _ hSw; (try dsimp only at hSw); go_simp; (try with_reducible rfl)
          try simp only [pts]
          refine wpG 15 ?_ rfl (by kernel_rfl) (fun _ _ _ h => h) (by rfl) (fun wx => ?_) hS ?_
          rotate_left
          · go_simp; (try with_reducible rfl)
          try simp only [pts]
          refine wpAnyG_one (i := 11) rfl (by kernel_rfl) (fun K hK => ?_)
          go_simp
          (with_reducible refine (KS.out _).mono ?_)
          rintro e w10 ⟨rfl, hbb⟩
          have HB10 := Lib.hid (((Below.refl w9.heap.size w9).drew).trans (hbb.mono (Nat.le_refl _)))
          clear hS hbb
          have hS := SK.out _ HB10.out
          refine hK.out _ _ hS ?_
          clear hK K
          try simp only [pts]
          refine wpG 12 ?_ rfl (by kernel_rfl) (fun _ _ _ h => h) (by rfl) (fun wx => ?_) hS ?_
          rotate_left
          · go_simp; (try with_reducible rfl)
          try simp only [pts]
          refine wpG 13 ?_ rfl (by kernel_rfl) (fun _ _ _ h => h) (by rfl) (fun wx => ?_) hS ?_
          rotate_left
          · go_simp; (try with_reducible rfl)
          try simp only [pts]
          refine wpG 14 ?_ rfl (by kernel_rfl) (fun _ _ _ h => h) (by rfl) (fun wx => ?_) hS ?_
          rotate_left
          · go_simp; (try with_reducible rfl)
          try simp only [pts]
          refine wpG 16 ?_ rfl (by kernel_rfl) (fun _ _ _ h => h) (by rfl) (fun wx => ?_) hS ?_
          rotate_left
          · go_simp; (try with_reducible rfl)
          try simp only [pts]
          refine wpAnyG_last rfl (by kernel_rfl) (by kernel_rfl) (by kernel_rfl) (fun K hK => ?_)
          rw [if_pos (by rfl)]
          refine wp_store_nb 33 (.tmp 93) (.tmp 90) rfl w.heap.size (6 + a * 7) (stL (stepS (nA.ax a) nA.tu (fuseF nA a))).toArray (fuMid nA a) (fuTo nA (a + 1)) va7 va7 rfl rfl hS (by show 6 + a * 7 + 7 ≤ 74; omega) info7 (stL_one _) (he_ax nA va7 a ha) (fun w11 hN11 hg11 => ?_)
          refine hK.out _ _ ?_
          clear hK K
          try simp only [pts]
          have HN11 := Lib.hid hN11
          have HG11 := Lib.hid (grown_trans HG9.out (grown_trans (grown_below HB10.out) hg11))
          clear hN11 hg11 hS
          go_wp2_with fail
          go_roundw
          case rel =>
            (repeat (with_reducible apply Exists.intro))
            refine ⟨?_, rfl⟩
            exact ⟨a + 1, by go_num, by omega, HN11.out, HG11.out⟩
          case measure => simp [intOf]; omega
        · have ha3' : a = 3 := by omega
          subst ha3'
          have HN := Lib.hid hN
          have HG := Lib.hid hG
          clear hN hG
          have kd := fun W => digest_any (fuTo nA 3) va7 (packL_in (fuTo_in HAX2.out 3)) W
          have KD := Lib.hid kd
          have hid3 : (fuTo nA 3).id = (d : Int) := HID2.out
          have HID3 := Lib.hid hid3
          clear kd hid3
          obtain ⟨nF, hnF⟩ : ∃ nF, fuTo nA 3 = nF := ⟨_, rfl⟩
          rw [hnF] at HN KD HID3
          have HNF := Lib.hid hnF
          clear hnF
          go_upto_region 24 with (first
            | (refine wpList_load_at 45 (.tmp 2) rfl rfl w.heap.size rfl _ (NA nF va7) _ HN.out Try.underlying45 rfl (by rw [NA_size]; exact infoNode) ?_)
            | (go_at_call 43; (with_reducible refine (KD.out _).mono ?_); rintro e w8 ⟨rfl, hb8⟩; have hn8 := HN.out.next hb8; have ku := NB.dg hn8; have kz := Blk.frozen hn8 70; have HN8 := Lib.hid hn8; have HB8 := Lib.hid hb8; clear hn8 hb8))
          obtain ⟨y, hy⟩ : ∃ y, dgF nF = y := ⟨_, rfl⟩
          rw [hy]
          have HY := Lib.hid hy
          have hn9 : NB (w8.setCell ⟨w.heap.size, 70, none⟩ (.int .i64 y)) w.heap.size { nF with dg := y } va7 := NB.set HN8.out (fun j hj => he_dg nF va7 y j hj)
          have HG9 := Lib.hid (grown_trans HG.out (grown_trans (grown_below HB8.out) (grown_set w8 w.heap.size 70 (.int .i64 y))))
          have HN9 := Lib.hid hn9
          clear hn9 HN HG KD HN8 HB8 ku kz hy
          generalize w8.setCell ⟨w.heap.size, 70, none⟩ (.int .i64 y) = w9 at *
          have k0 : w9.cell? ⟨w.heap.size, 0, none⟩ = some (.int .i64 d) := by
            have e := NB.id HN9.out
            rw [show ({ nF with dg := y } : Nd).id = (d : Int) from HID3.out] at e
            exact e
          have k70 := NB.dg HN9.out
          have kh := NB.he HN9.out hd4
          have kz := Blk.frozen HN9.out (51 + d)
          have qd : (0 : Int) ≤ (d : Int) := by omega
          go_upto_region 25 with fail
          have hn7 : NB (w9.setCell ⟨w.heap.size, 51 + d, none⟩ (.int .i64 y)) w.heap.size (decideN n (Ms.map Mg.pm) d) va7 := by
            have e : decideN n (Ms.map Mg.pm) d = { ({ nF with dg := y } : Nd) with he := upd ({ nF with dg := y } : Nd).he d y } := by
              unfold decideN decH
              rw [HH.out, HNA.out, HNF.out, HY.out]
            rw [e]
            exact NB.set HN9.out (fun j hj => he_he1 _ va7 d hd4 y j hj)
          have hdg : (decideN n (Ms.map Mg.pm) d).dg = y := by
            unfold decideN decH
            rw [HH.out, HNA.out, HNF.out, HY.out]
          have HX := Lib.hid (grown_trans HG9.out (grown_set w9 w.heap.size (51 + d) (.int .i64 y)))
          have HN7 := Lib.hid hn7
          clear hn7 HN9 HG9 k0 k70 kh kz HAG2 HAX2 HTU2 HID2
          have HDG := Lib.hid hdg
          clear hdg
          generalize w9.setCell ⟨w.heap.size, 51 + d, none⟩ (.int .i64 y) = w7 at *
          have HID := Lib.hid (show (decideN n (Ms.map Mg.pm) d).id = n.id ∧ (decideN n (Ms.map Mg.pm) d).fr = n.fr from ⟨rfl, rfl⟩)
          obtain ⟨n7, hn7⟩ : ∃ n7, decideN n (Ms.map Mg.pm) d = n7 := ⟨_, rfl⟩
          rw [hn7] at HN7 HDG HID
          have HD7 := Lib.hid hn7
          clear hn7
          have HZ7 := Lib.hid (HZ12.out.grown HX.out (by intro e; have := Option.some.inj e; omega))
          have HM7 := Lib.hid (HM12.out.grown HX.out (by intro e; have := Option.some.inj e; omega))
          have HB7 := Lib.hid (HB12.out.grown HX.out HB12.out.size (fun j hj => by cases hj; exact Nat.le_refl _))
          have HO7 := Lib.hid (own_kept_t HO12.out HX.out HN12.out (by decide))
          have HV7 : Hid ((NA n7 va7).all (·.oneCell') = true) := by rw [HVA.out]; exact NA_one _ _ _ _
          have KS := Lib.hid (fun A c W => say_any n7 va7 3 A 1 c W)
          rw [HID.out.1, HID.out.2] at KS
          have HKD := Lib.hid (fun W (h : Blk W w.heap.size 45 (NA n7 va7)) => show W.cell? ⟨w.heap.size, 70, none⟩ = some (.int .i64 y) by
            have e := NB.dg (n := n7) (va := va7) h
            rw [HDG.out] at e
            exact e)
          have hm7 := HM7.out.lt
          have hz7 := HB7.out.size
          --TAIL n7 || 4 || 104 || 5 || 109 || L;;L;;M;;M:HKD.out _ hSw;;B:have hb4 : Below w7.heap.size w7 (w7.alloc (.cells #[.int .i64 y] 3)).drew := ((Below.refl _ _).alloc (Nat.le_refl _) _).drew@@have H_prev := Lib.hid hb4@@have HY4 := Lib.hid (show Blk (w7.alloc (.cells #[.int .i64 y] 3)).drew w7.heap.size 3 #[.int .i64 y] from Blk.new w7 3 #[.int .i64 y])@@clear hb4;;C:KS.out _ _ _@@w8@@⟨rfl, hbb⟩ || #[.int .i64 3, .int .i64 n.id, .int .i64 n.fr, .slice (some ⟨w7.heap.size, 0, none⟩) 1 1] || w7
          try simp only [pts]
          have SK := Lib.hid (fun W (h : Below w7.heap.size w7 W) => (NB.next HN7.out h : NB W w.heap.size n7 va7))
          unfold NB at SK
          refine wp_region_F 7 (fun w' => Blk w' w.heap.size 45 (NA n7 va7)) (by kernel_rfl) (SK.out _ (Below.refl _ _).drew) (fun hS => ?_)
          refine wpF 0 (.agg (NA n7 va7)) rfl (by kernel_rfl) (fun _ _ _ h => h) (Or.inl ⟨by rfl, fun wx hSw => exec_load_row 45 (.tmp 2) rfl w.heap.size rfl _ (NA n7 va7) _ hSw Try.underlying45 rfl (by rw [NA_size]; exact infoNode)⟩) hS ?_
          try simp only [pts]
          refine wpF 1 (.agg (NA n7 va7)) rfl (by kernel_rfl) (fun _ _ _ h => h) (Or.inl ⟨by rfl, fun wx hSw => exec_load_row 45 (.tmp 2) rfl w.heap.size rfl _ (NA n7 va7) _ hSw Try.underlying45 rfl (by rw [NA_size]; exact infoNode)⟩) hS ?_
          try simp only [pts]
          refine wpF 2 ?_ rfl (by kernel_rfl) (fun _ _ _ h => h) (Or.inl ⟨by rfl, fun wx hSw => ?_⟩) hS ?_
          rotate_left
          · (try dsimp only at hSw); go_simp; (try with_reducible rfl)
          try simp only [pts]
          refine wpF 3 ?_ rfl (by kernel_rfl) (fun _ _ _ h => h) (Or.inl ⟨by rfl, fun wx hSw => ?_⟩) hS ?_
          rotate_left
          · have hq := HKD.out _ hSw; (try dsimp only at hSw); go_simp; (try with_reducible rfl)
          try simp only [pts]
          refine wpAnyF_one (i := 4) rfl (by kernel_rfl) (fun K hK => ?_)
          go_simp
          have hb4 : Below w7.heap.size w7 (w7.alloc (.cells #[.int .i64 y] 3)).drew := ((Below.refl _ _).alloc (Nat.le_refl _) _).drew
          have H_prev := Lib.hid hb4
          have HY4 := Lib.hid (show Blk (w7.alloc (.cells #[.int .i64 y] 3)).drew w7.heap.size 3 #[.int .i64 y] from Blk.new w7 3 #[.int .i64 y])
          clear hb4
          clear hS
          have hS := SK.out _ H_prev.out
          refine hK.out _ _ hS ?_
          clear hK K
          try simp only [pts]
          refine wpAnyF_one (i := 5) rfl (by kernel_rfl) (fun K hK => ?_)
          go_simp
          (with_reducible refine (KS.out _ _ _).mono ?_)
          rintro e w8 ⟨rfl, hbb⟩
          have hb_w8 := (H_prev.out).trans (hbb.mono (by first | exact (H_prev.out).size | omega))
          have H_prev := Lib.hid hb_w8
          have HBB_w8 := Lib.hid hbb
          clear hS
          have hS := SK.out _ hb_w8
          clear hbb hb_w8
          refine hK.out _ _ hS ?_
          clear hK K
          try simp only [pts]
          refine wpAnyF_one (i := 6) rfl (by kernel_rfl) (fun K hK => ?_)
          rw [if_pos (by rfl)]
          refine wp_store_row 45 (.tmp 4) (.tmp 104) rfl (w.heap.size + 1) _ zc (NA n7 va7) rfl rfl (HZ7.out.next H_prev.out) (by rw [NA_size, HZS.out]) (by rw [NA_size]; exact infoNode) HV7.out (fun w9 hN9 hg9 => ?_)
          have hS9 := hS.grown hg9 (by intro e; have := Option.some.inj e; omega)
          refine hK.out _ _ hS9 ?_
          clear hK K hS
          try simp only [pts]
          refine wpAnyF_last rfl (by kernel_rfl) (by kernel_rfl) (fun K hK => ?_)
          rw [if_pos (by rfl)]
          refine wp_store_row 64 (.tmp 5) (.tmp 109) rfl (w.heap.size + 1 + 1) _ _ #[.int .i64 3, .int .i64 n.id, .int .i64 n.fr, .slice (some ⟨w7.heap.size, 0, none⟩) 1 1] rfl rfl ((HM7.out.next H_prev.out).grown hg9 (by intro e; have := Option.some.inj e; omega)) rfl (by kernel_rfl) (by simp [Value.oneCell']) (fun w10 hM10 hg10 => ?_)
          refine hK.out _ _ ?_
          clear hK K
          try simp only [pts]
          go_wp2_with fail
          have hN10 := hN9.grown hg10 (by intro e; have := Option.some.inj e; omega)
          --END
          refine bodyPost_ret (results_two Try.results18 _ _ (w.heap.size + 1) (w.heap.size + 1 + 1) _ _ _ _ _ _ rfl rfl hN10 hM10 Try.underlying45 rfl (by rw [NA_size]; exact infoNode) Try.underlying64 rfl (by kernel_rfl)) rfl ?_
          have hy8 := HY4.out.next HBB_w8.out
          rw [HVA.out, HD7.out, HDG.out]
          exact ph_end (vs := [y]) (by omega) (by omega) (by omega) HZ7.out HM7.out HO7.out (by omega) HB7.out H_prev.out hg9 hg10 (one_ownI hy8 (by omega) (by decide)) (fun ad e => by cases e; exact ⟨by show w7.heap.size ≠ _; omega, by show w7.heap.size ≠ _; omega⟩)
end Go.Proofs.Ytofeoeknmlkjgaa.Nk
end
