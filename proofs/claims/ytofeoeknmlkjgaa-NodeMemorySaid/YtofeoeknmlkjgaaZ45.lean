/- Merged: NodeClose. -/
import Derived.Test.YtofeoeknmlkjgaaZ40
import Derived.Test.YtofeoeknmlkjgaaZ44
set_option linter.unusedVariables false
set_option linter.unusedSimpArgs false
section
/- node.Close. -/
set_option linter.unusedVariables false
namespace Go.Proofs.Ytofeoeknmlkjgaa.Nk
open Go.RowKit Go.Proofs.Ytofeoeknmlkjgaa Mb Fi Sm

def repTo (n : Nd) (k : Nat) : Array Value := #[.int .i64 n.id, .int .i64 n.fr, .int .i64 (n.us 0), .int .i64 (n.us 1), .int .i64 (n.us 2), .int .i64 (if 0 < k then (n.ax 0).x else 0), .int .i64 (if 1 < k then (n.ax 1).x else 0), .int .i64 (if 2 < k then (n.ax 2).x else 0),
  .int .i64 n.dg, .bool n.vs, .bool (n.ro.inn 0), .bool (n.ro.inn 1), .bool (n.ro.inn 2), .bool (n.ro.inn 3)]
def repC (n : Nd) : Array Value := repTo n 3
theorem info14 : (Try.prog.info? 60).map (·.size) = some 14 := by kernel_rfl
theorem repTo_one (n : Nd) (k : Nat) : (repTo n k).all (·.oneCell') = true := by simp [repTo, Value.oneCell']
def ClosePost (n : Nd) (bs : List Value) (w : World) (e : Ending) (w' : World) : Prop :=
  ∃ n' A' c', e = .returned (.tuple #[.agg (NA n' (.slice A' bs.length c')), .agg (repC n')]) ∧ w'.ownsRow w.heap.size 4 1 (.slice A' bs.length c') bs.length bs ∧ Below w.heap.size w w' ∧ Lk n n' ∧ ((n.vs = true ∧ n.vv ≠ n.dg) ∨ n' = n)
theorem rep_put {w wr : World} {q i : Nat} {n : Nd} (h : Blk wr q 60 (repTo n i)) (hi : i < 3) : Blk (wr.setCell ⟨q, 5 + i, none⟩ (.int .i64 (n.ax i).x)) q 60 (repTo n (i + 1)) := by
  have := h.set_ (5 + i) (.int .i64 (n.ax i).x)
  have hc : i = 0 ∨ i = 1 ∨ i = 2 := by omega
  rcases hc with rfl | rfl | rfl <;> exact this
def CpRel (w7 : World) (q : Nat) (n : Nd) (iv : Value) (wr : World) : Prop := ∃ i : Nat, iv = .int .i64 i ∧ i ≤ 3 ∧ Blk wr q 60 (repTo n i) ∧ w7.grownBy wr (some q)
theorem CpRel.put {w8 wr : World} {q i : Nat} {n : Nd} {iv : Value} (hi : i < 3) (hiv : iv = .int .i64 ((i + 1 : Nat) : Int)) (h : Blk wr q 60 (repTo n i)) (hg : w8.grownBy wr (some q)) (o : Obj) : CpRel w8 q n iv ((wr.alloc o).setCell ⟨q, 5 + i, none⟩ (.int .i64 (n.ax i).x)) :=
  ⟨i + 1, hiv, hi, rep_put (w := wr) (h.alloc o) hi, grown_trans hg (grown_trans (grown_below ((Below.refl _ _).alloc (Nat.le_refl _) _)) (grown_set _ _ _ _))⟩
theorem sl24 {w : World} {B : Nat} {h : Hd} {sv : Nat → Value} (hs : Sl4 w B h sv) (hl : ∀ i l, h i = some l → l.length = 24 ∧ ∀ z ∈ l, In64 z) : Sl24 w sv := by
  intro i hi
  rcases hs i hi with ⟨h1, h2⟩ | ⟨l, ad, c, h1, h2, h3, _, h7⟩
  · exact .inl h2
  · obtain ⟨h5, h6⟩ := hl i l h1
    rw [h5] at h2 h3 h7
    exact .inr ⟨l, ad, c, h2, h7, h3, h6⟩
theorem cl_end {w w7 w9 w10 : World} {n n7 : Nd} {A' : Option Addr} {c' b0 g1 g2 : Nat} {bs : List Value} {zc ms : Array Value} (hg1 : w.heap.size ≤ g1) (hg2 : w.heap.size ≤ g2) (h12 : g2 ≠ g1)
    (hZ : Blk w7 g1 45 zc) (hM : Blk w7 g2 60 ms) (hO : w7.ownsRow b0 4 1 (.slice A' bs.length c') bs.length bs) (hb0 : w.heap.size ≤ b0) (hB : Below w.heap.size w w7)
    (hg9 : w7.grownBy w9 (some g1)) (hg10 : w9.grownBy w10 (some g2)) (hlk : Lk n n7) (heq : (n.vs = true ∧ n.vv ≠ n.dg) ∨ n7 = n) :
    ClosePost n bs w (.returned (.tuple #[.agg (NA n7 (.slice A' bs.length c')), .agg (repC n7)])) w10 := by
  have hmm := hM.grown hg9 (by intro e; exact h12 (Option.some.inj e))
  have ho10 := own_kept_t (own_kept_t hO hg9 hZ (by decide)) hg10 hmm (by decide)
  have b9 := hB.grown hg9 hB.size (fun j hj => by cases hj; exact hg1)
  exact ⟨n7, A', c', rfl, own_le ho10 hb0, b9.grown hg10 b9.size (fun j hj => by cases hj; exact hg2), hlk, heq⟩

set_option maxRecDepth 100000 in
set_option maxHeartbeats 8000000 in
theorem Close_any (n : Nd) (A : Option Addr) (m c : Nat) (bs : List Value) (Am : Option Addr) (mm cm : Nat) (Ms : List Mg) (h0 : 0 ≤ n.id) (h4 : n.id < 4) (hin : ∀ a, a < 3 → (n.ax a).In) (w : World) (hb : VR w 1 A m c bs) (h1 : ∀ u ∈ bs, u.oneCell' = true) (hm : m ≤ 140737488355328) (hM : MR w Am mm cm Ms) (hmm : mm ≤ 17592186044416) :
    Calls Try.prog 22 #[.agg (NA n (.slice A m c)), .slice Am mm cm] w (ClosePost n bs w) := by
  obtain rfl : m = bs.length := by have := hb.1; omega
  have HVB := Lib.hid hb
  have H1 := Lib.hid h1
  have HMR := Lib.hid hM
  have HIN := Lib.hid hin
  clear hb h1 hM hin
  go_enter Try.func22, Try.ntmps22
  go_upto_region 1 with fail
  have hN : NB (((w.alloc (.cells (NA n (.slice A bs.length c)) 45)).alloc (.cells Try.zeroCells45 45)).alloc (.cells #[.int .i64 0, .int .i64 0, .int .i64 0, .int .i64 0, .int .i64 0, .int .i64 0, .int .i64 0, .int .i64 0, .int .i64 0, .bool false, .bool false, .bool false, .bool false, .bool false] 60)) w.heap.size n (.slice A bs.length c) := ((Blk.new _ _ _).alloc _).alloc _
  have hZ : Blk (((w.alloc (.cells (NA n (.slice A bs.length c)) 45)).alloc (.cells Try.zeroCells45 45)).alloc (.cells #[.int .i64 0, .int .i64 0, .int .i64 0, .int .i64 0, .int .i64 0, .int .i64 0, .int .i64 0, .int .i64 0, .int .i64 0, .bool false, .bool false, .bool false, .bool false, .bool false] 60)) (w.heap.size + 1) 45 Try.zeroCells45 := (Blk.at_ _ _ _ _ (by simp)).alloc _
  have hM : Blk (((w.alloc (.cells (NA n (.slice A bs.length c)) 45)).alloc (.cells Try.zeroCells45 45)).alloc (.cells #[.int .i64 0, .int .i64 0, .int .i64 0, .int .i64 0, .int .i64 0, .int .i64 0, .int .i64 0, .int .i64 0, .int .i64 0, .bool false, .bool false, .bool false, .bool false, .bool false] 60)) (w.heap.size + 1 + 1) 60 #[.int .i64 0, .int .i64 0, .int .i64 0, .int .i64 0, .int .i64 0, .int .i64 0, .int .i64 0, .int .i64 0, .int .i64 0, .bool false, .bool false, .bool false, .bool false, .bool false] := Blk.at_ _ _ _ _ (by simp)
  have hB : Below w.heap.size w (((w.alloc (.cells (NA n (.slice A bs.length c)) 45)).alloc (.cells Try.zeroCells45 45)).alloc (.cells #[.int .i64 0, .int .i64 0, .int .i64 0, .int .i64 0, .int .i64 0, .int .i64 0, .int .i64 0, .int .i64 0, .int .i64 0, .bool false, .bool false, .bool false, .bool false, .bool false] 60)) := (((Below.refl _ _).alloc (Nat.le_refl _) _).alloc (by simp) _).alloc (by simp; omega) _
  have hzs : (Try.zeroCells45).size = 74 := by kernel_rfl
  generalize Try.zeroCells45 = zc at *
  generalize ((w.alloc (.cells (NA n (.slice A bs.length c)) 45)).alloc (.cells zc 45)).alloc (.cells #[.int .i64 0, .int .i64 0, .int .i64 0, .int .i64 0, .int .i64 0, .int .i64 0, .int .i64 0, .int .i64 0, .int .i64 0, .bool false, .bool false, .bool false, .bool false, .bool false] 60) = W0 at *
  have hW0 : w.heap.size + 1 + 1 < W0.heap.size := hM.lt
  have HZS := Lib.hid hzs
  have HN := Lib.hid hN
  have HZ := Lib.hid hZ
  have HM := Lib.hid hM
  have HB := Lib.hid hB
  have KC := Lib.hid (copied_any n A bs.length c bs W0 (HVB.out.next hB) H1.out hm)
  unfold CopyPost at KC
  clear hN hZ hM hB hzs
  go_upto_region 4 with (first
    | (refine wpList_load_at 45 (.tmp 2) rfl rfl w.heap.size rfl _ (NA n (.slice A bs.length c)) _ HN.out Try.underlying45 rfl (by rw [NA_size]; exact infoNode) ?_)
    | (go_at_call 35; (with_reducible refine KC.out.mono ?_); rintro e w1 ⟨A', c', rfl, hO1, hB1⟩; have hw1 : W0.heap.size ≤ w1.heap.size := hB1.size; have HN1 := Lib.hid (NB.next HN.out hB1); have HZ1 := Lib.hid (HZ.out.next hB1); have HM1 := Lib.hid (HM.out.next hB1); have HB1 := Lib.hid (HB.out.trans (hB1.mono HB.out.size)); have HO1 := Lib.hid hO1; clear hO1 hB1)
    | (refine wpList_store_at 45 (.tmp 2) (.tmp 11) rfl rfl w.heap.size _ _ (NA n (.slice A' bs.length c')) rfl rfl HN1.out (by rw [NA_size, NA_size]) (by rw [NA_size]; exact infoNode) (NA_one _ _ _ _) ?_; intro w2 hN2 hg2; have HN2 := Lib.hid hN2; have HG2 := Lib.hid hg2; clear hN2 hg2)
    | (refine wpList_load_at 45 (.tmp 2) rfl rfl w.heap.size rfl _ (NA n (.slice A' bs.length c')) _ HN2.out Try.underlying45 rfl (by rw [NA_size]; exact infoNode) ?_)
    | (go_at_call 36; (with_reducible refine (strange_no n (.slice A' bs.length c') w2 h0 h4).mono ?_); rintro e w3 ⟨rfl, hb3⟩; have HN3 := Lib.hid (NB.next HN2.out hb3); have HBs := Lib.hid hb3; clear hb3))
  have HZ3 := Lib.hid ((HZ1.out.grown HG2.out (by intro e; have := Option.some.inj e; omega)).next HBs.out)
  have HM3 := Lib.hid ((HM1.out.grown HG2.out (by intro e; have := Option.some.inj e; omega)).next HBs.out)
  have HO3 := Lib.hid (own_below (own_kept_t HO1.out HG2.out HN1.out (by decide)) HBs.out (fun x hx => ((own_kept_t HO1.out HG2.out HN1.out (by decide)).lt x hx).2))
  have HB3 := Lib.hid ((HB1.out.grown HG2.out HB1.out.size (fun j hj => by cases hj; exact Nat.le_refl _)).trans (HBs.out.mono (by have := HG2.out.size; have := HB1.out.size; omega)))
  have hw3 : W0.heap.size ≤ w3.heap.size := by have := HG2.out.size; have := HBs.out.size; omega
  clear HN HZ HM HB KC HN1 HZ1 HM1 HB1 HO1 HN2 HG2 HBs
  have HMR3 := Lib.hid (HMR.out.next HB3.out)
  have KH := Lib.hid (hear_any n (.slice A' bs.length c') Am mm cm Ms 5 24 24 rfl (by decide) (by decide) h0 h4 w3 HMR3.out hmm)
  unfold HearPost at KH
  go_upto_region 5 with (first
    | (refine wpList_load_at 45 (.tmp 2) rfl rfl w.heap.size rfl _ (NA n (.slice A' bs.length c')) _ HN3.out Try.underlying45 rfl (by rw [NA_size]; exact infoNode) ?_)
    | (go_at_call 37; (with_reducible refine KH.out.mono ?_); rintro e w4 ⟨sv, rfl, hS4, hb4⟩; have HN4 := Lib.hid (NB.next HN3.out hb4); have HSL := Lib.hid hS4; have HB34 := Lib.hid hb4; clear hS4 hb4)
    | (refine wpList_store_at 94 (.tmp 6) (.tmp 18) rfl rfl w4.heap.size _ #[.slice none 0 0, .slice none 0 0, .slice none 0 0, .slice none 0 0] (AN 4 sv) rfl rfl (Blk.new w4 _ _) (by rw [AN_size]; rfl) (by rw [AN_size]; exact info44) (AN_one (fun i hi => sl4_one HSL.out i hi)) ?_; intro w5 hS5 hg5; have HS5 := Lib.hid hS5; have HG5 := Lib.hid hg5; clear hS5 hg5))
  obtain ⟨va7, hva⟩ : ∃ v, v = Value.slice A' bs.length c' := ⟨_, rfl⟩
  have HVA := Lib.hid hva
  have hs34 := HB34.out.size
  have hs45 := HG5.out.size
  have hb45 : Below w4.heap.size w4 w5 := ((Below.refl _ _).alloc (Nat.le_refl _) _).grown HG5.out (by simp) (fun j hj => by cases hj; exact Nat.le_refl _)
  have hb35 := HB34.out.trans (hb45.mono hs34)
  have HN6 := Lib.hid (NB.next HN3.out hb35)
  have HZ6 := Lib.hid (HZ3.out.next hb35)
  have HM6 := Lib.hid (HM3.out.next hb35)
  have HO6 := Lib.hid (own_below HO3.out hb35 (fun x hx => (HO3.out.lt x hx).2))
  have HB6 := Lib.hid (HB3.out.trans (hb35.mono HB3.out.size))
  have h3sz := HM3.out.lt
  have hsl : Sl24 w5 sv := sl24 (HSL.out.next hb45) (fun i l e => ⟨hearF_len (id := n.id) (fr := n.fr) (kind := 5) (many := 24) (Ms.map Mg.pm) (fun _ => none) (fun i l e => by cases e) i l e,
    hearF_in (P := In64) (Ms.map Mg.pm) (fun _ => none) (fun x hx v hv => by obtain ⟨y, hy, rfl⟩ := List.mem_map.1 hx; exact (HMR.out.2.2 y hy).2.2.2 v hv) (fun i l e => by cases e) i l e⟩)
  have HSL6 := Lib.hid hsl
  clear hsl hb45 hb35 HN3 HZ3 HM3 HO3 HB3 HSL HB34 HG5 KH HMR3 HN4 hva
  rw [← HVA.out] at HN6
  have hg6 : w4.heap.size ≠ w.heap.size := by omega
  generalize w4.heap.size = g6 at *
  have k72 : w5.cell? ⟨w.heap.size, 72, none⟩ = some (.bool n.vs) := NB.at_ HN6.out (k := 72) (by decide)
  have k71 : w5.cell? ⟨w.heap.size, 71, none⟩ = some (.int .i64 n.vv) := NB.at_ HN6.out (k := 71) (by decide)
  have k70 : w5.cell? ⟨w.heap.size, 70, none⟩ = some (.int .i64 n.dg) := NB.at_ HN6.out (k := 70) (by decide)
  cases hvs : n.vs with
  | false =>
    rw [hvs] at k72
    clear hvs
    go_upto_region 7 with (first | go_big_skip)
    clear k70 k71 k72
    have HN7 : Hid (NB w5 w.heap.size n va7) := HN6
    have HG7 : Hid (w5.grownBy w5 (some w.heap.size)) := Lib.hid (grown_refl w5 _)
    have HLK : Hid (Lk n n) := Lib.hid (Lk.refl n)
    skip
    have c0 : w5.cell? ⟨w.heap.size, 0, none⟩ = some (.int .i64 n.id) := NB.at_ HN7.out (k := 0) (by decide)
    have c1 : w5.cell? ⟨w.heap.size, 1, none⟩ = some (.int .i64 n.fr) := NB.at_ HN7.out (k := 1) (by decide)
    have c67 : w5.cell? ⟨w.heap.size, 67, none⟩ = some (.int .i64 (n.us 0)) := NB.at_ HN7.out (k := 67) (by decide)
    have c68 : w5.cell? ⟨w.heap.size, 68, none⟩ = some (.int .i64 (n.us 1)) := NB.at_ HN7.out (k := 68) (by decide)
    have c69 : w5.cell? ⟨w.heap.size, 69, none⟩ = some (.int .i64 (n.us 2)) := NB.at_ HN7.out (k := 69) (by decide)
    have c70 : w5.cell? ⟨w.heap.size, 70, none⟩ = some (.int .i64 n.dg) := NB.at_ HN7.out (k := 70) (by decide)
    have c72 : w5.cell? ⟨w.heap.size, 72, none⟩ = some (.bool n.vs) := NB.at_ HN7.out (k := 72) (by decide)
    have c27 : w5.cell? ⟨w.heap.size, 27, none⟩ = some (.bool (n.ro.inn 0)) := NB.at_ HN7.out (k := 27) (by decide)
    have c28 : w5.cell? ⟨w.heap.size, 28, none⟩ = some (.bool (n.ro.inn 1)) := NB.at_ HN7.out (k := 28) (by decide)
    have c29 : w5.cell? ⟨w.heap.size, 29, none⟩ = some (.bool (n.ro.inn 2)) := NB.at_ HN7.out (k := 29) (by decide)
    have c30 : w5.cell? ⟨w.heap.size, 30, none⟩ = some (.bool (n.ro.inn 3)) := NB.at_ HN7.out (k := 30) (by decide)
    go_upto_region 8 with fail
    clear c0 c1 c67 c68 c69 c70 c72 c27 c28 c29 c30
    have hwlt : w.heap.size < w5.heap.size := Blk.lt HN7.out
    have HP8 := Lib.hid (show Blk (w5.alloc (.cells #[.int .i64 n.id, .int .i64 n.fr, .int .i64 (n.us 0), .int .i64 (n.us 1), .int .i64 (n.us 2), .int .i64 0, .int .i64 0, .int .i64 0, .int .i64 n.dg, .bool n.vs, .bool (n.ro.inn 0), .bool (n.ro.inn 1), .bool (n.ro.inn 2), .bool (n.ro.inn 3)] 60)) w5.heap.size 60 (repTo n 0) from Blk.new _ _ _)
    have HB8 := Lib.hid (show Below w5.heap.size w5 (w5.alloc (.cells #[.int .i64 n.id, .int .i64 n.fr, .int .i64 (n.us 0), .int .i64 (n.us 1), .int .i64 (n.us 2), .int .i64 0, .int .i64 0, .int .i64 0, .int .i64 n.dg, .bool n.vs, .bool (n.ro.inn 0), .bool (n.ro.inn 1), .bool (n.ro.inn 2), .bool (n.ro.inn 3)] 60)) from (Below.refl _ _).alloc (Nat.le_refl _) _)
    obtain ⟨w8, hw8⟩ : ∃ w8, w5.alloc (.cells #[.int .i64 n.id, .int .i64 n.fr, .int .i64 (n.us 0), .int .i64 (n.us 1), .int .i64 (n.us 2), .int .i64 0, .int .i64 0, .int .i64 0, .int .i64 n.dg, .bool n.vs, .bool (n.ro.inn 0), .bool (n.ro.inn 1), .bool (n.ro.inn 2), .bool (n.ro.inn 3)] 60) = w8 := ⟨_, rfl⟩
    rw [hw8] at HP8 HB8 ⊢
    clear hw8
    have HN8 := Lib.hid (NB.next HN7.out HB8.out)
    go_upto_region 9 with (first
      | (refine wpList_load_mid rfl 34 (.tmp 47) rfl w.heap.size 6 rfl (axL n) _ HN8.out.axR Try.underlying34 rfl info21 ?_))
    go_loopw [49] (fun iv wr => CpRel w8 w5.heap.size n iv wr) (fun iv _ => 3 - (intOf iv).toNat)
    case atStart => exact ⟨0, rfl, by omega, HP8.out, grown_refl _ _⟩
    case round =>
      obtain ⟨i, rfl, hi3, hP, hG⟩ := hrel
      have HPr := Lib.hid hP
      have HGr := Lib.hid hG
      clear hP hG
      by_cases hi : i < 3
      · have hc : i = 0 ∨ i = 1 ∨ i = 2 := by omega
        rcases hc with rfl | rfl | rfl
        · have ix := fun W => ixA0 n W
          have k5 := fun o => show (wr.alloc o).cell? ⟨w5.heap.size, 5, none⟩ = some _ from (Blk.cell (HPr.out.alloc o) 5).trans rfl
          have f5 := fun o => Blk.frozen (HPr.out.alloc o) 5
          go_wp2_with fail
          go_roundw
          case rel => exact CpRel.put (i := 0) (by decide) rfl HPr.out HGr.out _
          case measure => simp [intOf]
        · have ix := fun W => ixA1 n W
          have k5 := fun o => show (wr.alloc o).cell? ⟨w5.heap.size, 6, none⟩ = some _ from (Blk.cell (HPr.out.alloc o) 6).trans rfl
          have f5 := fun o => Blk.frozen (HPr.out.alloc o) 6
          go_wp2_with fail
          go_roundw
          case rel => exact CpRel.put (i := 1) (by decide) rfl HPr.out HGr.out _
          case measure => simp [intOf]
        · have ix := fun W => ixA2 n W
          have k5 := fun o => show (wr.alloc o).cell? ⟨w5.heap.size, 7, none⟩ = some _ from (Blk.cell (HPr.out.alloc o) 7).trans rfl
          have f5 := fun o => Blk.frozen (HPr.out.alloc o) 7
          go_wp2_with fail
          go_roundw
          case rel => exact CpRel.put (i := 2) (by decide) rfl HPr.out HGr.out _
          case measure => simp [intOf]
      · obtain rfl : i = 3 := by omega
        have hz7 := HZ6.out.grown HG7.out (by intro e; have := Option.some.inj e; omega)
        have hm7 := HM6.out.grown HG7.out (by intro e; have := Option.some.inj e; omega)
        have hb7 := HB6.out.grown HG7.out HB6.out.size (fun j hj => by cases hj; exact Nat.le_refl _)
        have ho7 := own_kept_t HO6.out HG7.out HN6.out (by decide)
        have hzl := Blk.lt hz7
        have hml := Blk.lt hm7
        have hzr := (hz7.next HB8.out).grown HGr.out (by intro e; have := Option.some.inj e; omega)
        have hmr := (hm7.next HB8.out).grown HGr.out (by intro e; have := Option.some.inj e; omega)
        have hnr := Blk.grown HN8.out HGr.out (by intro e; have := Option.some.inj e; omega)
        have hor := own_kept_t (own_below ho7 HB8.out (fun x hx => (ho7.lt x hx).2)) HGr.out HP8.out (by decide)
        have hbr := (hb7.trans (HB8.out.mono hb7.size)).grown HGr.out (Nat.le_trans hb7.size HB8.out.size) (fun j hj => by cases hj; omega)
        have HZr := Lib.hid hzr
        have HMr := Lib.hid hmr
        have HNr := Lib.hid hnr
        have HOr := Lib.hid hor
        have HBr := Lib.hid hbr
        have HVr : Hid ((NA n va7).all (·.oneCell') = true) := by rw [HVA.out]; exact NA_one _ _ _ _
        have hwl := HB6.out.size
        clear hz7 hm7 hb7 ho7 hzr hmr hnr hor hbr
        go_upto_region 13 with fail
        refine wp_region_G 3 (fun w' => NB w' w.heap.size n va7 ∧ Blk w' w5.heap.size 60 (repTo n 3)) (by kernel_rfl) (⟨NB.next HNr.out (Below.refl _ _).drew, HPr.out.next (Below.refl _ _).drew⟩) (fun hS => ?_)
        refine wpT 0 (.agg (NA n va7)) rfl (by kernel_rfl) (fun _ _ _ h => h) (Or.inl ⟨by rfl, fun wx hSw => exec_load_row 45 (.tmp 2) rfl w.heap.size rfl _ _ _ hSw.1 Try.underlying45 rfl (by rw [NA_size]; exact infoNode)⟩) hS ?_
        try simp only [pts]
        refine wpT 1 (.agg (repTo n 3)) rfl (by kernel_rfl) (fun _ _ _ h => h) (Or.inl ⟨by rfl, fun wx hSw => exec_load_row 60 (.tmp 7) rfl w5.heap.size rfl _ _ _ hSw.2 Try.underlying60 rfl info14⟩) hS ?_
        try simp only [pts]
        refine wpAnyG_one (i := 2) rfl (by kernel_rfl) (fun K hK => ?_)
        rw [if_pos (by rfl)]
        refine wp_store_row 45 (.tmp 4) (.tmp 59) rfl (w.heap.size + 1) _ zc (NA n va7) rfl rfl (HZr.out.next (Below.refl _ _).drew) (by rw [NA_size, HZS.out]) (by rw [NA_size]; exact infoNode) HVr.out (fun w9 hN9 hg9 => ?_)
        have hS9 : NB w9 w.heap.size n va7 ∧ Blk w9 w5.heap.size 60 (repTo n 3) := ⟨Blk.grown hS.1 hg9 (by intro e; have := Option.some.inj e; omega), hS.2.grown hg9 (by intro e; have := Option.some.inj e; omega)⟩
        refine hK.out _ _ hS9 ?_
        clear hK K hS
        have hS := hS9
        try simp only [pts]
        refine wpAnyG_last rfl (by kernel_rfl) (by kernel_rfl) (by kernel_rfl) (fun K hK => ?_)
        rw [if_pos (by rfl)]
        refine wp_store_row 60 (.tmp 5) (.tmp 60) rfl (w.heap.size + 1 + 1) _ _ (repTo n 3) rfl rfl ((HMr.out.next (Below.refl _ _).drew).grown hg9 (by intro e; have := Option.some.inj e; omega)) rfl info14 (repTo_one _ _) (fun w10 hM10 hg10 => ?_)
        refine hK.out _ _ ?_
        clear hK K
        try simp only [pts]
        go_wp2_with fail
        have hN10 := hN9.grown hg10 (by intro e; have := Option.some.inj e; omega)
        refine bodyPost_ret (results_two Try.results22 _ _ (w.heap.size + 1) (w.heap.size + 1 + 1) _ _ _ _ _ _ rfl rfl hN10 hM10 Try.underlying45 rfl (by rw [NA_size]; exact infoNode) Try.underlying60 rfl info14) rfl ?_
        rw [HVA.out]
        exact cl_end (by omega) (by omega) (by omega) (HZr.out.next (Below.refl _ _).drew) (HMr.out.next (Below.refl _ _).drew) HOr.out (by omega) HBr.out.drew hg9 hg10 HLK.out (.inr rfl)
  | true =>
    rw [hvs] at k72
    cases hvd : (n.vv != n.dg) with
    | false =>
      have HVS := Lib.hid hvs
      clear hvs
      go_upto_region 7 with (first | go_big_skip)
      clear k70 k71 k72 hvd
      have HN7 : Hid (NB w5 w.heap.size n va7) := HN6
      have HG7 : Hid (w5.grownBy w5 (some w.heap.size)) := Lib.hid (grown_refl w5 _)
      have HLK : Hid (Lk n n) := Lib.hid (Lk.refl n)
      skip
      have c0 : w5.cell? ⟨w.heap.size, 0, none⟩ = some (.int .i64 n.id) := NB.at_ HN7.out (k := 0) (by decide)
      have c1 : w5.cell? ⟨w.heap.size, 1, none⟩ = some (.int .i64 n.fr) := NB.at_ HN7.out (k := 1) (by decide)
      have c67 : w5.cell? ⟨w.heap.size, 67, none⟩ = some (.int .i64 (n.us 0)) := NB.at_ HN7.out (k := 67) (by decide)
      have c68 : w5.cell? ⟨w.heap.size, 68, none⟩ = some (.int .i64 (n.us 1)) := NB.at_ HN7.out (k := 68) (by decide)
      have c69 : w5.cell? ⟨w.heap.size, 69, none⟩ = some (.int .i64 (n.us 2)) := NB.at_ HN7.out (k := 69) (by decide)
      have c70 : w5.cell? ⟨w.heap.size, 70, none⟩ = some (.int .i64 n.dg) := NB.at_ HN7.out (k := 70) (by decide)
      have c72 : w5.cell? ⟨w.heap.size, 72, none⟩ = some (.bool n.vs) := NB.at_ HN7.out (k := 72) (by decide)
      have c27 : w5.cell? ⟨w.heap.size, 27, none⟩ = some (.bool (n.ro.inn 0)) := NB.at_ HN7.out (k := 27) (by decide)
      have c28 : w5.cell? ⟨w.heap.size, 28, none⟩ = some (.bool (n.ro.inn 1)) := NB.at_ HN7.out (k := 28) (by decide)
      have c29 : w5.cell? ⟨w.heap.size, 29, none⟩ = some (.bool (n.ro.inn 2)) := NB.at_ HN7.out (k := 29) (by decide)
      have c30 : w5.cell? ⟨w.heap.size, 30, none⟩ = some (.bool (n.ro.inn 3)) := NB.at_ HN7.out (k := 30) (by decide)
      go_upto_region 8 with fail
      clear c0 c1 c67 c68 c69 c70 c72 c27 c28 c29 c30
      have hwlt : w.heap.size < w5.heap.size := Blk.lt HN7.out
      have HP8 := Lib.hid (show Blk (w5.alloc (.cells #[.int .i64 n.id, .int .i64 n.fr, .int .i64 (n.us 0), .int .i64 (n.us 1), .int .i64 (n.us 2), .int .i64 0, .int .i64 0, .int .i64 0, .int .i64 n.dg, .bool n.vs, .bool (n.ro.inn 0), .bool (n.ro.inn 1), .bool (n.ro.inn 2), .bool (n.ro.inn 3)] 60)) w5.heap.size 60 (repTo n 0) from Blk.new _ _ _)
      have HB8 := Lib.hid (show Below w5.heap.size w5 (w5.alloc (.cells #[.int .i64 n.id, .int .i64 n.fr, .int .i64 (n.us 0), .int .i64 (n.us 1), .int .i64 (n.us 2), .int .i64 0, .int .i64 0, .int .i64 0, .int .i64 n.dg, .bool n.vs, .bool (n.ro.inn 0), .bool (n.ro.inn 1), .bool (n.ro.inn 2), .bool (n.ro.inn 3)] 60)) from (Below.refl _ _).alloc (Nat.le_refl _) _)
      obtain ⟨w8, hw8⟩ : ∃ w8, w5.alloc (.cells #[.int .i64 n.id, .int .i64 n.fr, .int .i64 (n.us 0), .int .i64 (n.us 1), .int .i64 (n.us 2), .int .i64 0, .int .i64 0, .int .i64 0, .int .i64 n.dg, .bool n.vs, .bool (n.ro.inn 0), .bool (n.ro.inn 1), .bool (n.ro.inn 2), .bool (n.ro.inn 3)] 60) = w8 := ⟨_, rfl⟩
      rw [hw8] at HP8 HB8 ⊢
      clear hw8
      have HN8 := Lib.hid (NB.next HN7.out HB8.out)
      go_upto_region 9 with (first
        | (refine wpList_load_mid rfl 34 (.tmp 47) rfl w.heap.size 6 rfl (axL n) _ HN8.out.axR Try.underlying34 rfl info21 ?_))
      go_loopw [49] (fun iv wr => CpRel w8 w5.heap.size n iv wr) (fun iv _ => 3 - (intOf iv).toNat)
      case atStart => exact ⟨0, rfl, by omega, HP8.out, grown_refl _ _⟩
      case round =>
        obtain ⟨i, rfl, hi3, hP, hG⟩ := hrel
        have HPr := Lib.hid hP
        have HGr := Lib.hid hG
        clear hP hG
        by_cases hi : i < 3
        · have hc : i = 0 ∨ i = 1 ∨ i = 2 := by omega
          rcases hc with rfl | rfl | rfl
          · have ix := fun W => ixA0 n W
            have k5 := fun o => show (wr.alloc o).cell? ⟨w5.heap.size, 5, none⟩ = some _ from (Blk.cell (HPr.out.alloc o) 5).trans rfl
            have f5 := fun o => Blk.frozen (HPr.out.alloc o) 5
            go_wp2_with fail
            go_roundw
            case rel => exact CpRel.put (i := 0) (by decide) rfl HPr.out HGr.out _
            case measure => simp [intOf]
          · have ix := fun W => ixA1 n W
            have k5 := fun o => show (wr.alloc o).cell? ⟨w5.heap.size, 6, none⟩ = some _ from (Blk.cell (HPr.out.alloc o) 6).trans rfl
            have f5 := fun o => Blk.frozen (HPr.out.alloc o) 6
            go_wp2_with fail
            go_roundw
            case rel => exact CpRel.put (i := 1) (by decide) rfl HPr.out HGr.out _
            case measure => simp [intOf]
          · have ix := fun W => ixA2 n W
            have k5 := fun o => show (wr.alloc o).cell? ⟨w5.heap.size, 7, none⟩ = some _ from (Blk.cell (HPr.out.alloc o) 7).trans rfl
            have f5 := fun o => Blk.frozen (HPr.out.alloc o) 7
            go_wp2_with fail
            go_roundw
            case rel => exact CpRel.put (i := 2) (by decide) rfl HPr.out HGr.out _
            case measure => simp [intOf]
        · obtain rfl : i = 3 := by omega
          have hz7 := HZ6.out.grown HG7.out (by intro e; have := Option.some.inj e; omega)
          have hm7 := HM6.out.grown HG7.out (by intro e; have := Option.some.inj e; omega)
          have hb7 := HB6.out.grown HG7.out HB6.out.size (fun j hj => by cases hj; exact Nat.le_refl _)
          have ho7 := own_kept_t HO6.out HG7.out HN6.out (by decide)
          have hzl := Blk.lt hz7
          have hml := Blk.lt hm7
          have hzr := (hz7.next HB8.out).grown HGr.out (by intro e; have := Option.some.inj e; omega)
          have hmr := (hm7.next HB8.out).grown HGr.out (by intro e; have := Option.some.inj e; omega)
          have hnr := Blk.grown HN8.out HGr.out (by intro e; have := Option.some.inj e; omega)
          have hor := own_kept_t (own_below ho7 HB8.out (fun x hx => (ho7.lt x hx).2)) HGr.out HP8.out (by decide)
          have hbr := (hb7.trans (HB8.out.mono hb7.size)).grown HGr.out (Nat.le_trans hb7.size HB8.out.size) (fun j hj => by cases hj; omega)
          have HZr := Lib.hid hzr
          have HMr := Lib.hid hmr
          have HNr := Lib.hid hnr
          have HOr := Lib.hid hor
          have HBr := Lib.hid hbr
          have HVr : Hid ((NA n va7).all (·.oneCell') = true) := by rw [HVA.out]; exact NA_one _ _ _ _
          have hwl := HB6.out.size
          clear hz7 hm7 hb7 ho7 hzr hmr hnr hor hbr
          go_upto_region 13 with fail
          refine wp_region_G 3 (fun w' => NB w' w.heap.size n va7 ∧ Blk w' w5.heap.size 60 (repTo n 3)) (by kernel_rfl) (⟨NB.next HNr.out (Below.refl _ _).drew, HPr.out.next (Below.refl _ _).drew⟩) (fun hS => ?_)
          refine wpT 0 (.agg (NA n va7)) rfl (by kernel_rfl) (fun _ _ _ h => h) (Or.inl ⟨by rfl, fun wx hSw => exec_load_row 45 (.tmp 2) rfl w.heap.size rfl _ _ _ hSw.1 Try.underlying45 rfl (by rw [NA_size]; exact infoNode)⟩) hS ?_
          try simp only [pts]
          refine wpT 1 (.agg (repTo n 3)) rfl (by kernel_rfl) (fun _ _ _ h => h) (Or.inl ⟨by rfl, fun wx hSw => exec_load_row 60 (.tmp 7) rfl w5.heap.size rfl _ _ _ hSw.2 Try.underlying60 rfl info14⟩) hS ?_
          try simp only [pts]
          refine wpAnyG_one (i := 2) rfl (by kernel_rfl) (fun K hK => ?_)
          rw [if_pos (by rfl)]
          refine wp_store_row 45 (.tmp 4) (.tmp 59) rfl (w.heap.size + 1) _ zc (NA n va7) rfl rfl (HZr.out.next (Below.refl _ _).drew) (by rw [NA_size, HZS.out]) (by rw [NA_size]; exact infoNode) HVr.out (fun w9 hN9 hg9 => ?_)
          have hS9 : NB w9 w.heap.size n va7 ∧ Blk w9 w5.heap.size 60 (repTo n 3) := ⟨Blk.grown hS.1 hg9 (by intro e; have := Option.some.inj e; omega), hS.2.grown hg9 (by intro e; have := Option.some.inj e; omega)⟩
          refine hK.out _ _ hS9 ?_
          clear hK K hS
          have hS := hS9
          try simp only [pts]
          refine wpAnyG_last rfl (by kernel_rfl) (by kernel_rfl) (by kernel_rfl) (fun K hK => ?_)
          rw [if_pos (by rfl)]
          refine wp_store_row 60 (.tmp 5) (.tmp 60) rfl (w.heap.size + 1 + 1) _ _ (repTo n 3) rfl rfl ((HMr.out.next (Below.refl _ _).drew).grown hg9 (by intro e; have := Option.some.inj e; omega)) rfl info14 (repTo_one _ _) (fun w10 hM10 hg10 => ?_)
          refine hK.out _ _ ?_
          clear hK K
          try simp only [pts]
          go_wp2_with fail
          have hN10 := hN9.grown hg10 (by intro e; have := Option.some.inj e; omega)
          refine bodyPost_ret (results_two Try.results22 _ _ (w.heap.size + 1) (w.heap.size + 1 + 1) _ _ _ _ _ _ rfl rfl hN10 hM10 Try.underlying45 rfl (by rw [NA_size]; exact infoNode) Try.underlying60 rfl info14) rfl ?_
          rw [HVA.out]
          exact cl_end (by omega) (by omega) (by omega) (HZr.out.next (Below.refl _ _).drew) (HMr.out.next (Below.refl _ _).drew) HOr.out (by omega) HBr.out.drew hg9 hg10 HLK.out (.inr rfl)
    | true =>
      have HVS := Lib.hid hvs
      have HVD := Lib.hid (show n.vv ≠ n.dg by simpa using hvd)
      clear hvs
      have KA := Lib.hid (adopt_any n va7 w.heap.size sv w5 HN6.out HSL6.out HIN.out)
      unfold AdPost at KA
      go_upto_region 7 with (first
        | (refine wpList_load_at 94 (.tmp 6) rfl rfl g6 rfl _ (AN 4 sv) _ HS5.out Try.underlying94 rfl (by rw [AN_size]; exact info44) ?_)
        | (go_at_call 47; (with_reducible refine KA.out.mono ?_); rintro e w7 ⟨n7, rfl, hN7, hg7, hlk7⟩; have HN7' := Lib.hid hN7; have HG7' := Lib.hid hg7; have HLK' := Lib.hid hlk7; clear hN7 hg7 hlk7)
        | go_big_skip)
      clear k70 k71 k72 hvd KA
      have HN7 : Hid (NB w7 w.heap.size n7 va7) := HN7'
      have HG7 : Hid (w5.grownBy w7 (some w.heap.size)) := HG7'
      have HLK : Hid (Lk n n7) := HLK'
      have HEQ : Hid ((n.vs = true ∧ n.vv ≠ n.dg) ∨ n7 = n) := Lib.hid (.inl ⟨HVS.out, HVD.out⟩)
      have c0 : w7.cell? ⟨w.heap.size, 0, none⟩ = some (.int .i64 n7.id) := NB.at_ HN7.out (k := 0) (by decide)
      have c1 : w7.cell? ⟨w.heap.size, 1, none⟩ = some (.int .i64 n7.fr) := NB.at_ HN7.out (k := 1) (by decide)
      have c67 : w7.cell? ⟨w.heap.size, 67, none⟩ = some (.int .i64 (n7.us 0)) := NB.at_ HN7.out (k := 67) (by decide)
      have c68 : w7.cell? ⟨w.heap.size, 68, none⟩ = some (.int .i64 (n7.us 1)) := NB.at_ HN7.out (k := 68) (by decide)
      have c69 : w7.cell? ⟨w.heap.size, 69, none⟩ = some (.int .i64 (n7.us 2)) := NB.at_ HN7.out (k := 69) (by decide)
      have c70 : w7.cell? ⟨w.heap.size, 70, none⟩ = some (.int .i64 n7.dg) := NB.at_ HN7.out (k := 70) (by decide)
      have c72 : w7.cell? ⟨w.heap.size, 72, none⟩ = some (.bool n7.vs) := NB.at_ HN7.out (k := 72) (by decide)
      have c27 : w7.cell? ⟨w.heap.size, 27, none⟩ = some (.bool (n7.ro.inn 0)) := NB.at_ HN7.out (k := 27) (by decide)
      have c28 : w7.cell? ⟨w.heap.size, 28, none⟩ = some (.bool (n7.ro.inn 1)) := NB.at_ HN7.out (k := 28) (by decide)
      have c29 : w7.cell? ⟨w.heap.size, 29, none⟩ = some (.bool (n7.ro.inn 2)) := NB.at_ HN7.out (k := 29) (by decide)
      have c30 : w7.cell? ⟨w.heap.size, 30, none⟩ = some (.bool (n7.ro.inn 3)) := NB.at_ HN7.out (k := 30) (by decide)
      go_upto_region 8 with fail
      clear c0 c1 c67 c68 c69 c70 c72 c27 c28 c29 c30
      have hwlt : w.heap.size < w7.heap.size := Blk.lt HN7.out
      have HP8 := Lib.hid (show Blk (w7.alloc (.cells #[.int .i64 n7.id, .int .i64 n7.fr, .int .i64 (n7.us 0), .int .i64 (n7.us 1), .int .i64 (n7.us 2), .int .i64 0, .int .i64 0, .int .i64 0, .int .i64 n7.dg, .bool n7.vs, .bool (n7.ro.inn 0), .bool (n7.ro.inn 1), .bool (n7.ro.inn 2), .bool (n7.ro.inn 3)] 60)) w7.heap.size 60 (repTo n7 0) from Blk.new _ _ _)
      have HB8 := Lib.hid (show Below w7.heap.size w7 (w7.alloc (.cells #[.int .i64 n7.id, .int .i64 n7.fr, .int .i64 (n7.us 0), .int .i64 (n7.us 1), .int .i64 (n7.us 2), .int .i64 0, .int .i64 0, .int .i64 0, .int .i64 n7.dg, .bool n7.vs, .bool (n7.ro.inn 0), .bool (n7.ro.inn 1), .bool (n7.ro.inn 2), .bool (n7.ro.inn 3)] 60)) from (Below.refl _ _).alloc (Nat.le_refl _) _)
      obtain ⟨w8, hw8⟩ : ∃ w8, w7.alloc (.cells #[.int .i64 n7.id, .int .i64 n7.fr, .int .i64 (n7.us 0), .int .i64 (n7.us 1), .int .i64 (n7.us 2), .int .i64 0, .int .i64 0, .int .i64 0, .int .i64 n7.dg, .bool n7.vs, .bool (n7.ro.inn 0), .bool (n7.ro.inn 1), .bool (n7.ro.inn 2), .bool (n7.ro.inn 3)] 60) = w8 := ⟨_, rfl⟩
      rw [hw8] at HP8 HB8 ⊢
      clear hw8
      have HN8 := Lib.hid (NB.next HN7.out HB8.out)
      go_upto_region 9 with (first
        | (refine wpList_load_mid rfl 34 (.tmp 47) rfl w.heap.size 6 rfl (axL n7) _ HN8.out.axR Try.underlying34 rfl info21 ?_))
      go_loopw [49] (fun iv wr => CpRel w8 w7.heap.size n7 iv wr) (fun iv _ => 3 - (intOf iv).toNat)
      case atStart => exact ⟨0, rfl, by omega, HP8.out, grown_refl _ _⟩
      case round =>
        obtain ⟨i, rfl, hi3, hP, hG⟩ := hrel
        have HPr := Lib.hid hP
        have HGr := Lib.hid hG
        clear hP hG
        by_cases hi : i < 3
        · have hc : i = 0 ∨ i = 1 ∨ i = 2 := by omega
          rcases hc with rfl | rfl | rfl
          · have ix := fun W => ixA0 n7 W
            have k5 := fun o => show (wr.alloc o).cell? ⟨w7.heap.size, 5, none⟩ = some _ from (Blk.cell (HPr.out.alloc o) 5).trans rfl
            have f5 := fun o => Blk.frozen (HPr.out.alloc o) 5
            go_wp2_with fail
            go_roundw
            case rel => exact CpRel.put (i := 0) (by decide) rfl HPr.out HGr.out _
            case measure => simp [intOf]
          · have ix := fun W => ixA1 n7 W
            have k5 := fun o => show (wr.alloc o).cell? ⟨w7.heap.size, 6, none⟩ = some _ from (Blk.cell (HPr.out.alloc o) 6).trans rfl
            have f5 := fun o => Blk.frozen (HPr.out.alloc o) 6
            go_wp2_with fail
            go_roundw
            case rel => exact CpRel.put (i := 1) (by decide) rfl HPr.out HGr.out _
            case measure => simp [intOf]
          · have ix := fun W => ixA2 n7 W
            have k5 := fun o => show (wr.alloc o).cell? ⟨w7.heap.size, 7, none⟩ = some _ from (Blk.cell (HPr.out.alloc o) 7).trans rfl
            have f5 := fun o => Blk.frozen (HPr.out.alloc o) 7
            go_wp2_with fail
            go_roundw
            case rel => exact CpRel.put (i := 2) (by decide) rfl HPr.out HGr.out _
            case measure => simp [intOf]
        · obtain rfl : i = 3 := by omega
          have hz7 := HZ6.out.grown HG7.out (by intro e; have := Option.some.inj e; omega)
          have hm7 := HM6.out.grown HG7.out (by intro e; have := Option.some.inj e; omega)
          have hb7 := HB6.out.grown HG7.out HB6.out.size (fun j hj => by cases hj; exact Nat.le_refl _)
          have ho7 := own_kept_t HO6.out HG7.out HN6.out (by decide)
          have hzl := Blk.lt hz7
          have hml := Blk.lt hm7
          have hzr := (hz7.next HB8.out).grown HGr.out (by intro e; have := Option.some.inj e; omega)
          have hmr := (hm7.next HB8.out).grown HGr.out (by intro e; have := Option.some.inj e; omega)
          have hnr := Blk.grown HN8.out HGr.out (by intro e; have := Option.some.inj e; omega)
          have hor := own_kept_t (own_below ho7 HB8.out (fun x hx => (ho7.lt x hx).2)) HGr.out HP8.out (by decide)
          have hbr := (hb7.trans (HB8.out.mono hb7.size)).grown HGr.out (Nat.le_trans hb7.size HB8.out.size) (fun j hj => by cases hj; omega)
          have HZr := Lib.hid hzr
          have HMr := Lib.hid hmr
          have HNr := Lib.hid hnr
          have HOr := Lib.hid hor
          have HBr := Lib.hid hbr
          have HVr : Hid ((NA n7 va7).all (·.oneCell') = true) := by rw [HVA.out]; exact NA_one _ _ _ _
          have hwl := HB6.out.size
          clear hz7 hm7 hb7 ho7 hzr hmr hnr hor hbr
          go_upto_region 13 with fail
          refine wp_region_G 3 (fun w' => NB w' w.heap.size n7 va7 ∧ Blk w' w7.heap.size 60 (repTo n7 3)) (by kernel_rfl) (⟨NB.next HNr.out (Below.refl _ _).drew, HPr.out.next (Below.refl _ _).drew⟩) (fun hS => ?_)
          refine wpT 0 (.agg (NA n7 va7)) rfl (by kernel_rfl) (fun _ _ _ h => h) (Or.inl ⟨by rfl, fun wx hSw => exec_load_row 45 (.tmp 2) rfl w.heap.size rfl _ _ _ hSw.1 Try.underlying45 rfl (by rw [NA_size]; exact infoNode)⟩) hS ?_
          try simp only [pts]
          refine wpT 1 (.agg (repTo n7 3)) rfl (by kernel_rfl) (fun _ _ _ h => h) (Or.inl ⟨by rfl, fun wx hSw => exec_load_row 60 (.tmp 7) rfl w7.heap.size rfl _ _ _ hSw.2 Try.underlying60 rfl info14⟩) hS ?_
          try simp only [pts]
          refine wpAnyG_one (i := 2) rfl (by kernel_rfl) (fun K hK => ?_)
          rw [if_pos (by rfl)]
          refine wp_store_row 45 (.tmp 4) (.tmp 59) rfl (w.heap.size + 1) _ zc (NA n7 va7) rfl rfl (HZr.out.next (Below.refl _ _).drew) (by rw [NA_size, HZS.out]) (by rw [NA_size]; exact infoNode) HVr.out (fun w9 hN9 hg9 => ?_)
          have hS9 : NB w9 w.heap.size n7 va7 ∧ Blk w9 w7.heap.size 60 (repTo n7 3) := ⟨Blk.grown hS.1 hg9 (by intro e; have := Option.some.inj e; omega), hS.2.grown hg9 (by intro e; have := Option.some.inj e; omega)⟩
          refine hK.out _ _ hS9 ?_
          clear hK K hS
          have hS := hS9
          try simp only [pts]
          refine wpAnyG_last rfl (by kernel_rfl) (by kernel_rfl) (by kernel_rfl) (fun K hK => ?_)
          rw [if_pos (by rfl)]
          refine wp_store_row 60 (.tmp 5) (.tmp 60) rfl (w.heap.size + 1 + 1) _ _ (repTo n7 3) rfl rfl ((HMr.out.next (Below.refl _ _).drew).grown hg9 (by intro e; have := Option.some.inj e; omega)) rfl info14 (repTo_one _ _) (fun w10 hM10 hg10 => ?_)
          refine hK.out _ _ ?_
          clear hK K
          try simp only [pts]
          go_wp2_with fail
          have hN10 := hN9.grown hg10 (by intro e; have := Option.some.inj e; omega)
          refine bodyPost_ret (results_two Try.results22 _ _ (w.heap.size + 1) (w.heap.size + 1 + 1) _ _ _ _ _ _ rfl rfl hN10 hM10 Try.underlying45 rfl (by rw [NA_size]; exact infoNode) Try.underlying60 rfl info14) rfl ?_
          rw [HVA.out]
          exact cl_end (by omega) (by omega) (by omega) (HZr.out.next (Below.refl _ _).drew) (HMr.out.next (Below.refl _ _).drew) HOr.out (by omega) HBr.out.drew hg9 hg10 HLK.out HEQ.out
end Go.Proofs.Ytofeoeknmlkjgaa.Nk
end
