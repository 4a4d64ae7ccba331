/- Merged: ClMem0 TopPlain TopAlive TopOne TopBehind TopGet TopRd TopIn2 ClMem1 ClMem2. -/
import Derived.Deep.MidRow
import Derived.Deep.Slices
import Derived.Laws.CopyOwn
import Derived.OrdersHeld
import Derived.SizedLaws
import Derived.Test.YtofeoeknmlkjgaaZ02
import Derived.Test.YtofeoeknmlkjgaaZ03
import Derived.Test.YtofeoeknmlkjgaaZ04
import Derived.Test.YtofeoeknmlkjgaaZ06
import Derived.Test.YtofeoeknmlkjgaaZ29
import Derived.Test.YtofeoeknmlkjgaaZ37
import Derived.Test.YtofeoeknmlkjgaaZ45
import Derived.Test.YtofeoeknmlkjgaaZ46
import Derived.Test.YtofeoeknmlkjgaaZ47
set_option linter.unusedVariables false
set_option linter.unusedSimpArgs false
section
/- ClusterMemory: Run of nothing; Frame's refusals. -/
set_option linter.unusedVariables false
namespace Go.Proofs.Ytofeoeknmlkjgaa.Nk
open Go.RowKit Go.Proofs.Ytofeoeknmlkjgaa Mb Fi Sm

def zCl : Cl := ⟨0, fun _ => zN, fun _ => .slice none 0 0⟩
set_option maxRecDepth 100000 in
set_option maxHeartbeats 4000000 in
theorem crun_nil (t : Tu) (w : World) :
    Calls Try.prog 25 #[t.val, .slice none 0 0] w fun e w' => e = .returned (.tuple #[.agg (CA (begC t)), .slice none 0 0, .int .i64 0]) ∧ Below w.heap.size w w' := by
  have KB := Lib.hid (fun W => cbegin_any t W)
  unfold Tu.val at KB
  unfold Tu.val
  have hT0 : TB ((w.alloc (.cells #[.int .i64 t.dt, .int .i64 t.q, .int .i64 t.r, .int .i64 t.g] 23)).alloc (.cells Try.zeroCells48 48)) w.heap.size t := (Blk.new _ _ _).alloc _
  have hZ0 : CB ((w.alloc (.cells #[.int .i64 t.dt, .int .i64 t.q, .int .i64 t.r, .int .i64 t.g] 23)).alloc (.cells Try.zeroCells48 48)) (w.heap.size + 1) zCl := by unfold CB; rw [show CA zCl = _ from zeroCl.symm]; exact Blk.at_ _ _ _ _ (by simp)
  have hB0 : Below w.heap.size w ((w.alloc (.cells #[.int .i64 t.dt, .int .i64 t.q, .int .i64 t.r, .int .i64 t.g] 23)).alloc (.cells Try.zeroCells48 48)) := ((Below.refl _ _).alloc (Nat.le_refl _) _).alloc (by simp) _
  have hzs : (Try.zeroCells48).size = 297 := by rw [zeroCl, CA_size]
  have HZS := Lib.hid hzs
  have HT0 := Lib.hid hT0
  have HZ0 := Lib.hid hZ0
  have HB0 := Lib.hid hB0
  clear hT0 hZ0 hB0 hzs
  go_enter Try.func25, Try.ntmps25
  go_upto_region 3 with (first | go_big_skip)
  generalize ((w.alloc (.cells #[.int .i64 t.dt, .int .i64 t.q, .int .i64 t.r, .int .i64 t.g] 23)).alloc (.cells Try.zeroCells48 48)) = w1 at *
  obtain ⟨t0, t1, t2, t3⟩ := TB.c HT0.out
  go_upto_region 6 with (first
    | (go_at_call 31; (with_reducible refine (KB.out _).mono ?_); rintro e w2 ⟨rfl, hb2⟩; have HB2 := Lib.hid hb2; clear hb2)
    | (refine wpList_store_at 48 (.tmp 7) (.tmp 19) rfl rfl w2.heap.size _ _ (CA (begC t)) rfl rfl (Blk.new _ _ _) (by rw [CA_size, HZS.out]) (by rw [CA_size]; exact infoCl) (CA_one (fun i hi => rfl)) ?_; intro w3 hN3 hg3; have HN3 : Hid (CB w3 w2.heap.size (begC t)) := hN3; have HG3 := Lib.hid hg3; clear hN3 hg3))
  have hb3 : Below w2.heap.size w2 w3 := ((Below.refl w2.heap.size w2).alloc (Nat.le_refl _) _).grown HG3.out (by simp) (fun j hj => by cases hj; exact Nat.le_refl _)
  have HB3 := Lib.hid (HB0.out.trans ((HB2.out.trans (hb3.mono HB2.out.size)).mono HB0.out.size))
  have HZ3 := Lib.hid (CB.next HZ0.out (HB2.out.trans (hb3.mono HB2.out.size)))
  clear HG3 hb3 HB2 HZ0 HT0 t0 t1 t2 t3 KB HZS
  go_loopw [8, 22] (fun av iv wr => av = .slice none 0 0 ∧ iv = .int .i64 0 ∧ wr = w3) (fun _ _ _ => 0)
  case atStart => exact ⟨rfl, rfl, rfl⟩
  case round =>
    obtain ⟨rfl, rfl, rfl⟩ := hrel
    go_wp2_with (first
      | (refine wpList_load_at 48 (.tmp 7) rfl rfl w2.heap.size rfl _ (CA (begC t)) _ HN3.out Try.underlying48 rfl (by rw [CA_size]; exact infoCl) ?_)
      | (refine wpList_store_at 48 (.tmp 4) (.tmp 42) rfl rfl (w.heap.size + 1) _ _ (CA (begC t)) rfl rfl HZ3.out (by rw [CA_size, CA_size]) (by rw [CA_size]; exact infoCl) (CA_one (fun i hi => rfl)) ?_; intro w4 hN4 hg4; have HN4 : Hid (CB w4 (w.heap.size + 1) (begC t)) := hN4; have HG4 := Lib.hid hg4; clear hN4 hg4))
    refine bodyPost_ret (results_row_tmp2 Try.results25 _ _ (w.heap.size + 1) _ _ _ (.slice none 0 0) (.int .i64 0) rfl rfl rfl HN4.out Try.underlying48 rfl (by rw [CA_size]; exact infoCl)) rfl ?_
    exact ⟨rfl, HB3.out.grown HG4.out HB3.out.size (fun j hj => by cases hj; omega)⟩

section
variable (x : Cl) (y : InD) (A : Option Addr) (m c : Nat) (w : World)
def FbPost (k : Int) (w : World) (e : Ending) (w' : World) : Prop := e = .returned (.tuple #[.agg (CA zCl), .slice none 0 0, .int .i64 k]) ∧ Below w.heap.size w w'
set_option maxRecDepth 100000 in
set_option maxHeartbeats 4000000 in
theorem frame_no (hb : y.bad < -1 ∨ 4 ≤ y.bad ∨ 400 < m) (hlv : y.lv = .slice A m c) (hm : m ≤ 140737488355328) (hf0 : 0 ≤ x.fr) (hf1 : x.fr < 1073741824) :
    Calls Try.prog 27 #[.agg (CA x), .agg (IA y)] w (FbPost (if y.bad < -1 ∨ 4 ≤ y.bad then 3 else 6) w) := by
  have e3 : decide (x.fr < 0) = false := by rw [decide_eq_false_iff_not]; omega
  have e4 : decide (1073741824 ≤ x.fr) = false := by rw [decide_eq_false_iff_not]; omega
  have hC0 : CB (((w.alloc (.cells (CA x) 48)).alloc (.cells (IA y) 51)).alloc (.cells Try.zeroCells48 48)) w.heap.size x := ((Blk.new _ _ _).alloc _).alloc _
  have hI0 : IB (((w.alloc (.cells (CA x) 48)).alloc (.cells (IA y) 51)).alloc (.cells Try.zeroCells48 48)) (w.heap.size + 1) y := (Blk.at_ _ _ _ _ (by simp)).alloc _
  have hZ0 : CB (((w.alloc (.cells (CA x) 48)).alloc (.cells (IA y) 51)).alloc (.cells Try.zeroCells48 48)) (w.heap.size + 1 + 1) zCl := by unfold CB; rw [show CA zCl = _ from zeroCl.symm]; exact Blk.at_ _ _ _ _ (by simp)
  have hB0 : Below w.heap.size w (((w.alloc (.cells (CA x) 48)).alloc (.cells (IA y) 51)).alloc (.cells Try.zeroCells48 48)) := (((Below.refl _ _).alloc (Nat.le_refl _) _).alloc (by simp) _).alloc (by simp; omega) _
  have k12 := hI0.bad
  have k13 := hI0.lv
  rw [hlv] at k13
  have k0 := hC0.fr
  have HZ0 := Lib.hid hZ0
  have HB0 := Lib.hid hB0
  clear hC0 hI0 hZ0 hB0
  by_cases h1 : y.bad < -1
  · have e1 : decide (y.bad < -1) = true := by rw [decide_eq_true_eq]; exact h1
    rw [if_pos (.inl h1)]
    go_enter Try.func27, Try.ntmps27
    go_upto_region 2 with (first | go_big_skip)
    generalize (((w.alloc (.cells (CA x) 48)).alloc (.cells (IA y) 51)).alloc (.cells Try.zeroCells48 48)) = V at *
    go_wp2_with (first
      | (refine wpList_val (.build 48 #[]) rfl rfl (.agg Try.zeroCells48) (by kernel_rfl) ?_)
      | (refine wpList_store_at 48 (.tmp 4) (.tmp 34) rfl rfl (w.heap.size + 1 + 1) _ _ Try.zeroCells48 rfl rfl HZ0.out (by rw [zeroCl, CA_size, CA_size]) (by rw [zeroCl, CA_size]; exact infoCl) (by rw [zeroCl]; exact CA_one (fun i hi => rfl)) ?_; intro w4 hN4 hg4; have HN4 := Lib.hid hN4; have HG4 := Lib.hid hg4; clear hN4 hg4))
    refine bodyPost_ret (results_row_tmp2 Try.results27 _ _ (w.heap.size + 1 + 1) _ _ _ (.slice none 0 0) (.int .i64 3) rfl rfl rfl HN4.out Try.underlying48 rfl (by rw [zeroCl, CA_size]; exact infoCl)) rfl ?_
    exact ⟨by rw [show CA zCl = _ from zeroCl.symm], HB0.out.grown HG4.out HB0.out.size (fun j hj => by cases hj; omega)⟩
  · have e1 : decide (y.bad < -1) = false := by rw [decide_eq_false_iff_not]; exact h1
    by_cases h2 : 4 ≤ y.bad
    · have e2 : decide (4 ≤ y.bad) = true := by rw [decide_eq_true_eq]; exact h2
      rw [if_pos (.inr h2)]
      go_enter Try.func27, Try.ntmps27
      go_upto_region 2 with (first | go_big_skip)
      generalize (((w.alloc (.cells (CA x) 48)).alloc (.cells (IA y) 51)).alloc (.cells Try.zeroCells48 48)) = V at *
      go_wp2_with (first
        | (refine wpList_val (.build 48 #[]) rfl rfl (.agg Try.zeroCells48) (by kernel_rfl) ?_)
        | (refine wpList_store_at 48 (.tmp 4) (.tmp 34) rfl rfl (w.heap.size + 1 + 1) _ _ Try.zeroCells48 rfl rfl HZ0.out (by rw [zeroCl, CA_size, CA_size]) (by rw [zeroCl, CA_size]; exact infoCl) (by rw [zeroCl]; exact CA_one (fun i hi => rfl)) ?_; intro w4 hN4 hg4; have HN4 := Lib.hid hN4; have HG4 := Lib.hid hg4; clear hN4 hg4))
      refine bodyPost_ret (results_row_tmp2 Try.results27 _ _ (w.heap.size + 1 + 1) _ _ _ (.slice none 0 0) (.int .i64 3) rfl rfl rfl HN4.out Try.underlying48 rfl (by rw [zeroCl, CA_size]; exact infoCl)) rfl ?_
      exact ⟨by rw [show CA zCl = _ from zeroCl.symm], HB0.out.grown HG4.out HB0.out.size (fun j hj => by cases hj; omega)⟩
    · have e2 : decide (4 ≤ y.bad) = false := by rw [decide_eq_false_iff_not]; exact h2
      have e5 : decide ((400 : Int) < (m : Int)) = true := by rw [decide_eq_true_eq]; omega
      rw [if_neg (by omega)]
      go_enter Try.func27, Try.ntmps27
      go_upto_region 4 with (first | go_big_skip)
      generalize (((w.alloc (.cells (CA x) 48)).alloc (.cells (IA y) 51)).alloc (.cells Try.zeroCells48 48)) = V at *
      go_wp2_with (first
        | (refine wpList_val (.build 48 #[]) rfl rfl (.agg Try.zeroCells48) (by kernel_rfl) ?_)
        | (refine wpList_store_at 48 (.tmp 4) (.tmp 40) rfl rfl (w.heap.size + 1 + 1) _ _ Try.zeroCells48 rfl rfl HZ0.out (by rw [zeroCl, CA_size, CA_size]) (by rw [zeroCl, CA_size]; exact infoCl) (by rw [zeroCl]; exact CA_one (fun i hi => rfl)) ?_; intro w4 hN4 hg4; have HN4 := Lib.hid hN4; have HG4 := Lib.hid hg4; clear hN4 hg4))
      refine bodyPost_ret (results_row_tmp2 Try.results27 _ _ (w.heap.size + 1 + 1) _ _ _ (.slice none 0 0) (.int .i64 6) rfl rfl rfl HN4.out Try.underlying48 rfl (by rw [zeroCl, CA_size]; exact infoCl)) rfl ?_
      exact ⟨by rw [show CA zCl = _ from zeroCl.symm], HB0.out.grown HG4.out HB0.out.size (fun j hj => by cases hj; omega)⟩
end
end Go.Proofs.Ytofeoeknmlkjgaa.Nk
end
section
/- Frames in which one and the same computer may be faulty: what the good ones keep (plain). -/
set_option linter.unusedVariables false
namespace Go.Proofs.Ytofeoeknmlkjgaa.Nk
open Go.RowKit Go.Proofs.Ytofeoeknmlkjgaa Mb Fi Sm

structure GInv (bad : Int) (N : Nat → Nd) : Prop where
  ids : ∀ p : Nat, p < 4 → (N p).id = (p : Int)
  tw : ∀ p q : Nat, p < 4 → q < 4 → ¬ (p : Int) = bad → ¬ (q : Int) = bad → Tw (N p) (N q)
  inn : ∀ p : Nat, p < 4 → ¬ (p : Int) = bad → Inn bad (N p).ro
  ok : ∀ p : Nat, p < 4 → NOk (N p)
section
variable {X : Fr} {N N' : Nat → Nd}
theorem GInv.good (h : GInv X.bad N) (hr : ∀ i, i < 4 → ClRel X N i (N' i)) {p : Nat} (hp : p < 4) (hb : ¬ (p : Int) = X.bad) : N' p = N5 X N p := by
  have h1 := hr p hp
  unfold ClRel at h1
  rw [if_neg hb] at h1
  have hv := verd (x := X) (N := N) (fun p hp hb => h.ids p hp) h.tw hp hb (h.inn p hp hb)
  rcases h1.2 with h2 | h2
  · exact absurd hv.1 h2.2
  · exact h2
theorem GInv.step (h : GInv X.bad N) (hr : ∀ i, i < 4 → ClRel X N i (N' i)) : GInv X.bad N' := by
  have hids : Ids X N := fun p hp hb => h.ids p hp
  refine ⟨fun p hp => ?_, fun p q hp hq hpb hqb => ?_, fun p hp hb => ?_, fun p hp => ?_⟩
  · by_cases hb : (p : Int) = X.bad
    · have h1 := hr p hp
      unfold ClRel at h1
      rw [if_pos hb] at h1
      rw [h1]; exact h.ids p hp
    · rw [h.good hr hp hb, (N5_keep hb).1]; exact h.ids p hp
  · rw [h.good hr hp hpb, h.good hr hq hqb]
    exact N5_tw hids h.tw hp hq hpb hqb (h.inn p hp hpb) (h.inn q hq hqb)
  · rw [h.good hr hp hb]
    exact (verd hids h.tw hp hb (h.inn p hp hb)).2.2.2.2
  · by_cases hb : (p : Int) = X.bad
    · have h1 := hr p hp
      unfold ClRel at h1
      rw [if_pos hb] at h1
      rw [h1]; exact h.ok p hp
    · rw [h.good hr hp hb]; exact N5_ok hb (h.ok p hp)
theorem GInv.verdict (h : GInv X.bad N) (hr : ∀ i, i < 4 → ClRel X N i (N' i)) {p : Nat} (hp : p < 4) (hb : ¬ (p : Int) = X.bad) : (N' p).vs = true ∧ (N' p).vv = (N' p).dg := by
  rw [h.good hr hp hb]
  have hv := verd (x := X) (N := N) (fun p hp hb => h.ids p hp) h.tw hp hb (h.inn p hp hb)
  exact ⟨hv.2.1, hv.1⟩
theorem GInv.agreed (h : GInv X.bad N) (hr : ∀ i, i < 4 → ClRel X N i (N' i)) {p s a : Nat} (hp : p < 4) (hb : ¬ (p : Int) = X.bad) (hs : s < 4) (hsb : ¬ (s : Int) = X.bad) (ha : a < 3) : (N' p).ag (s * 3 + a) = X.rd (s * 3 + a) := by
  rw [h.good hr hp hb, (N5_keep hb).2.2.2.2.2]
  exact (N3_ag (x := X) (N := N) (fun p hp hb => h.ids p hp) hs ha).1 hsb p hp hb
theorem GInv.used (h : GInv X.bad N) (hr : ∀ i, i < 4 → ClRel X N i (N' i)) {p a : Nat} (hp : p < 4) (hb : ¬ (p : Int) = X.bad) (ha : a < 3) : (N' p).us a = fuseF (N3 X N p) a := by
  rw [h.good hr hp hb, (N5_keep hb).2.2.2.2.1]
  exact N3_us hb ha
theorem GInv.axis (h : GInv X.bad N) (hr : ∀ i, i < 4 → ClRel X N i (N' i)) {p a : Nat} (hp : p < 4) (hb : ¬ (p : Int) = X.bad) (ha : a < 3) : (N' p).ax a = stepS ((N p).ax a) (N p).tu ((N' p).us a) ∧ (N' p).tu = (N p).tu := by
  have hg := h.good hr hp hb
  refine ⟨?_, ?_⟩
  · rw [hg, (N5_keep hb).2.2.2.1, (N5_keep hb).2.2.2.2.1, N3_ax hb]
    show (if a < 3 then stepS ((N p).ax a) (N p).tu ((N3 X N p).us a) else (N p).ax a) = _
    rw [if_pos ha]
  · rw [hg]; exact (N5_keep hb).2.2.1
end
theorem GInv.plain {X : Fr} {N N' : Nat → Nd} (hbad : X.bad = -1) (h : GInv X.bad N) (hr : ∀ i, i < 4 → ClRel X N i (N' i)) {p a : Nat} (hp : p < 4) (ha : a < 3) : (N' p).us a = Md.midZ [X.rd (0 * 3 + a), X.rd (1 * 3 + a), X.rd (2 * 3 + a), X.rd (3 * 3 + a)] := by
  have hnb : ∀ q : Nat, ¬ (q : Int) = X.bad := fun q => by omega
  rw [h.used hr hp (hnb p) ha]
  have hin : ∀ s, s < 4 → (N3 X N p).ro.inn s = true := fun s hs => by
    rw [(N3_id (hnb p)).2.2.1]
    exact ((h.inn p hp (hnb p)).2 s hs (hnb s)).1
  have hag : ∀ s, s < 4 → (N3 X N p).ag (s * 3 + a) = X.rd (s * 3 + a) := fun s hs => (N3_ag (x := X) (N := N) (fun p hp hb => h.ids p hp) hs ha).1 (hnb s) p hp (hnb p)
  have hl : fuseL (N3 X N p) a 4 = [X.rd (0 * 3 + a), X.rd (1 * 3 + a), X.rd (2 * 3 + a), X.rd (3 * 3 + a)] := by
    simp only [fuseL, hin 0 (by omega), hin 1 (by omega), hin 2 (by omega), hin 3 (by omega), if_true, hag 0 (by omega), hag 1 (by omega), hag 2 (by omega), hag 3 (by omega)]
    rfl
  unfold fuseF
  rw [hl, if_neg (by simp)]
theorem beg_inn (s : Nat) (hs : s < 4) : RB0.inn s = true := by
  have : s = 0 ∨ s = 1 ∨ s = 2 ∨ s = 3 := by omega
  rcases this with rfl | rfl | rfl | rfl <;> rfl
theorem beg_ok (id : Int) (t : Tu) (ht : t.In) : NOk (begN id t) := ⟨ht, fun a ha => by
  show (if a < 3 then begS 0 else _ : St).In
  rw [if_pos ha]
  exact begS_in (by unfold Fx.In; omega)⟩
theorem GInv.beg (bad : Int) (t : Tu) (ht : t.In) : GInv bad (begC t).N := by
  have hn : ∀ p, p < 4 → (begC t).N p = begN p t := fun p hp => if_pos hp
  refine ⟨fun p hp => ?_, fun p q hp hq _ _ => ?_, fun p hp _ => ?_, fun p hp => ?_⟩
  · rw [hn p hp]; rfl
  · rw [hn p hp, hn q hq]; exact ⟨rfl, rfl, rfl⟩
  · rw [hn p hp]; exact ⟨RB0_good, fun s hs _ => ⟨beg_inn s hs, rfl⟩⟩
  · rw [hn p hp]; exact beg_ok p t ht
end Go.Proofs.Ytofeoeknmlkjgaa.Nk
end
section
/- fourwatchtop.alive. -/
set_option linter.unusedVariables false
namespace Go.Proofs.Ytofeoeknmlkjgaa.Nk
open Go.RowKit Go.Proofs.Ytofeoeknmlkjgaa Mb Fi Sm

def t0 : Tu := ⟨4294967296, 0, 4294967296, 429496729600⟩
def rd0 (k : Nat) : Int := if k % 3 = 0 then 4294967296 else 0
def y0 : InD := ⟨-1, rd0, .slice none 0 0⟩
end Go.Proofs.Ytofeoeknmlkjgaa.Nk
end
section
/- fourwatchtop.one: inputs in which the same node is faulty all the time. -/
set_option linter.unusedVariables false
namespace Go.Proofs.Ytofeoeknmlkjgaa.Nk
open Go.RowKit Go.Proofs.Ytofeoeknmlkjgaa Mb Fi Sm

structure Inp where
  bad : Int
  rd : Nat → Int
  A : Option Addr
  n : Nat
  c : Nat
  Ls : List Li
def Inp.y (u : Inp) : InD := ⟨u.bad, u.rd, .slice u.A u.n u.c⟩
def flatI : List Inp → List Value
  | [] => []
  | u :: L => (IA u.y).toList ++ flatI L
theorem IA_len (y : InD) : (IA y).toList.length = 14 := by rw [Array.length_toList, IA_size]
theorem flatI_app : ∀ L M : List Inp, flatI (L ++ M) = flatI L ++ flatI M
  | [], M => rfl
  | u :: L, M => by rw [List.cons_append, flatI, flatI, flatI_app L M, List.append_assoc]
theorem flatI_get : ∀ (L : List Inp) (i : Nat) (u : Inp) (k : Nat), L[i]? = some u → k < 14 → (flatI L)[i * 14 + k]? = some (u.y.c k)
  | [], i, u, k, h, hk => by simp at h
  | q :: L, 0, u, k, h, hk => by
    simp at h; subst h
    rw [flatI, Nat.zero_mul, Nat.zero_add, List.getElem?_append_left (by rw [IA_len]; omega), Array.getElem?_toList]
    unfold IA; rw [AN_get hk]
  | q :: L, i + 1, u, k, h, hk => by
    rw [flatI, List.getElem?_append_right (by rw [IA_len]; omega), show (i + 1) * 14 + k - (IA q.y).toList.length = i * 14 + k by rw [IA_len]; omega]
    exact flatI_get L i u k (by simpa using h) hk
def Inp.Ok (w : World) (u : Inp) : Prop := LiR w u.A u.n u.c u.Ls ∧ u.n ≤ u.c ∧ ∀ k, k < 12 → In64 (u.rd k)
def IR (w : World) (A : Option Addr) (m c : Nat) (L : List Inp) : Prop := L.length = m ∧ VR w 14 A m c (flatI L) ∧ ∀ u ∈ L, u.Ok w
theorem Inp.Ok.next {w w' : World} {u : Inp} (h : u.Ok w) (hb : Below w.heap.size w w') : u.Ok w' := ⟨h.1.next hb, h.2⟩
theorem IR.next {w w' : World} {A : Option Addr} {m c : Nat} {L : List Inp} (h : IR w A m c L) (hb : Below w.heap.size w w') : IR w' A m c L := ⟨h.1, h.2.1.next hb, fun u hu => (h.2.2 u hu).next hb⟩
theorem IR.row {w : World} {A : Option Addr} {m c i : Nat} {L : List Inp} (h : IR w A m c L) (hi : i < m) : ∃ b off u, A = some ⟨b, off, none⟩ ∧ b < w.heap.size ∧ L[i]? = some u ∧ u.Ok w ∧ w.rangeAt b (off + i * 14) (IA u.y).toList := by
  obtain ⟨b, off, rfl, hlt, hc⟩ := h.2.1.2.2 (by omega)
  have hL : i < L.length := by rw [h.1]; exact hi
  have hp : L[i]? = some L[i] := List.getElem?_eq_getElem hL
  refine ⟨b, off, L[i], rfl, hlt, hp, h.2.2 _ (List.getElem_mem hL), fun j v hj => ?_⟩
  obtain ⟨hj2, e⟩ := AN_list hj
  rw [Nat.add_assoc, hc (i * 14 + j) (L[i].y.c j) (flatI_get L i L[i] j hp hj2), e]
theorem IB.setBad {W : World} {g : Nat} {y : InD} (h : IB W g y) (z : Int) : IB (W.setCell ⟨g, 12, none⟩ (.int .i64 z)) g ⟨z, y.rd, y.lv⟩ := by
  have := Blk.set_ h 12 (.int .i64 z)
  unfold IA at this
  rw [AN_set] at this
  unfold IB IA
  rw [AN_congr (g := fun k => if k = 12 then .int .i64 z else y.c k)]
  · exact this
  · intro k hk
    by_cases e : k = 12
    · subst e; rfl
    · rw [if_neg e]; unfold InD.c
      by_cases a : k < 12
      · rw [if_pos a, if_pos a]
      · rw [if_neg a, if_neg a, if_neg (by omega), if_neg (by omega)]
theorem IB.setLv {W : World} {g : Nat} {y : InD} (h : IB W g y) (v : Value) : IB (W.setCell ⟨g, 13, none⟩ v) g ⟨y.bad, y.rd, v⟩ := by
  have := Blk.set_ h 13 v
  unfold IA at this
  rw [AN_set] at this
  unfold IB IA
  rw [AN_congr (g := fun k => if k = 13 then v else y.c k)]
  · exact this
  · intro k hk
    by_cases e : k = 13
    · subst e; rfl
    · rw [if_neg e]; unfold InD.c
      by_cases a : k < 12
      · rw [if_pos a, if_pos a]
      · rw [if_neg a, if_neg a, if_pos (by omega), if_pos (by omega)]
def cutI (bad : Int) (u : Inp) : Inp := if 400 < u.n then ⟨bad, u.rd, u.A, 400, u.c, u.Ls.take 400⟩ else ⟨bad, u.rd, u.A, u.n, u.c, u.Ls⟩
def oneL (bad : Int) (L : List Inp) (k : Nat) : List Inp := (L.take k).map (cutI bad)
theorem infoLie : (Try.prog.info? 80).map (fun i => (i.zero, i.size, i.bytes)) = some (some (.agg #[.int .i64 0, .int .i64 0, .slice none 0 0]), 3, 40) := by kernel_rfl
def OnRel (w : World) (bad : Int) (L : List Inp) (ov iv : Value) (wr : World) : Prop :=
  ∃ i : Nat, iv = .int .i64 i ∧ i ≤ L.length ∧ i ≤ 200 ∧ wr.ownsRow w.heap.size 51 14 ov i (flatI (oneL bad L i)) ∧ Below w.heap.size w wr
theorem OnRel.put {w wr w1 w2 : World} {bad : Int} {L : List Inp} {i : Nat} {u : Inp} {ov ov' iv : Value} (hiv : iv = .int .i64 ((i + 1 : Nat) : Int)) (hu : L[i]? = some u) (hi : i < 200) (hB : Below w.heap.size w wr) (ho : wr.ownsRow w.heap.size 51 14 ov i (flatI (oneL bad L i))) (hb1 : Below wr.heap.size wr w1)
    (ho2 : w2.ownsRow w.heap.size 51 14 ov' (i + 1) (flatI (oneL bad L i) ++ (IA (cutI bad u).y).toList)) (hg : w1.grownBy w2 ov.ownBlock) : OnRel w bad L ov' iv w2 := by
  have hlt := (List.getElem?_eq_some_iff.1 hu).1
  refine ⟨i + 1, hiv, hlt, hi, ?_, ?_⟩
  · have e : oneL bad L (i + 1) = oneL bad L i ++ [cutI bad u] := by
      unfold oneL
      rw [List.take_add_one, hu, List.map_append]; rfl
    rw [e, flatI_app]
    show w2.ownsRow _ _ _ _ _ (_ ++ ((IA (cutI bad u).y).toList ++ []))
    rw [List.append_nil]
    exact ho2
  · have h1 := hB.trans (hb1.mono hB.size)
    exact h1.grown hg h1.size (fun j hj => (ho.lt j hj).1)

end Go.Proofs.Ytofeoeknmlkjgaa.Nk
end
section
/- fourwatchtop.behind: the clusters behind each frame, and what was put out. -/
set_option linter.unusedVariables false
namespace Go.Proofs.Ytofeoeknmlkjgaa.Nk
open Go.RowKit Go.Proofs.Ytofeoeknmlkjgaa Mb Fi Sm

def flatC (C : Nat → Cl) : Nat → List Value
  | 0 => []
  | k + 1 => flatC C k ++ (CA (C (k + 1))).toList
def FrameR (u : Inp) (x x' : Cl) : Prop := x'.fr = x.fr + 1 ∧ ∀ p, p < 4 → ClRel (FX x u.y u.Ls) x.N p (x'.N p)
def BhRel (w : World) (q7 : Nat) (t : Tu) (bad : Int) (L : List Inp) (av ov iv : Value) (wr : World) : Prop :=
  ∃ (i : Nat) (C : Nat → Cl) (R : Nat → Value) (bs : Nat → List Value), iv = .int .i64 i ∧ i ≤ L.length ∧ C 0 = begC t ∧ (∀ k u, k < i → L[k]? = some u → FrameR u (C k) (C (k + 1))) ∧ (∀ k, k ≤ i → (C k).fr = (k : Int) ∧ ∀ j, j < 4 → ((C k).va j).oneCell' = true) ∧ GInv bad (C i).N ∧
    CB wr q7 (C i) ∧ AgR wr w.heap.size (C i).va bs ∧ (∀ j, j < 4 → (bs j).length ≤ 1000 ∧ ∀ z ∈ bs j, z.oneCell' = true) ∧
    wr.ownsRow (q7 + 1) 48 297 av i (flatC C i) ∧ wr.ownsRow w.heap.size 54 1 ov i ((List.range i).map R) ∧
    (∀ k, k < i → wr.ownsRow w.heap.size 60 14 (R k) (repsN bad 4) (repsL bad (C (k + 1)).N 4)) ∧ Below w.heap.size w wr
def BcCut (wr : World) (u : Inp) (x : Cl) (bs : Nat → List Value) (s11 s12 s13 : Value) (wx : World) : Prop :=
  ∃ q11 x' rv, s11 = .pointer (some ⟨q11, 0, none⟩) ∧ s12 = rv ∧ s13 = .int .i64 0 ∧ CB wx q11 x' ∧ Below wr.heap.size wr wx ∧ x'.fr = x.fr + 1 ∧ (∀ p, p < 4 → ClRel (FX x u.y u.Ls) x.N p (x'.N p)) ∧ AgR wx wr.heap.size x'.va (agB (FX x u.y u.Ls) x.N bs) ∧
    wx.ownsRow wr.heap.size 60 14 rv (repsN u.bad 4) (repsL u.bad x'.N 4) ∧ wr.heap.size ≤ q11
theorem flatC_congr (C C' : Nat → Cl) : ∀ k, (∀ j, j ≤ k → C j = C' j) → flatC C k = flatC C' k
  | 0, _ => rfl
  | k + 1, h => by unfold flatC; rw [flatC_congr C C' k (fun j hj => h j (by omega)), h (k + 1) (by omega)]
theorem own_keep_own {w w' : World} {base size n base' size' n' : Nat} {e e' : TypeId} {v v' : Value} {xs xs' : List Value} (h : w.ownsRow base e size v n xs) (hg : w.grownBy w' v'.ownBlock) (h' : w.ownsRow base' e' size' v' n' xs') (hne : e ≠ e') : w'.ownsRow base e size v n xs := by
  refine h.kept hg ?_
  cases hv : v.ownBlock with
  | none => exact .inl rfl
  | some q => exact .inr (fun e => own_own_ne h h' hne hv e.symm)
theorem BhRel.put {w wr wc w4 w5 w6 : World} {q7 : Nat} {t : Tu} {bad : Int} {L : List Inp} {i : Nat} {C : Nat → Cl} {R : Nat → Value} {bs : Nat → List Value} {u : Inp} {x' : Cl} {rv : Value} {iv : Value} {Aa Ao : Option Addr} {ca co ga ga2 ca2 co2 : Nat}
    (hil : L[i]? = some u) (hub : u.bad = bad) (hiv : iv = .int .i64 ((i + 1 : Nat) : Int)) (hC0 : C 0 = begC t) (hF : ∀ k u, k < i → L[k]? = some u → FrameR u (C k) (C (k + 1))) (hFr : ∀ k, k ≤ i → (C k).fr = (k : Int) ∧ ∀ j, j < 4 → ((C k).va j).oneCell' = true) (hG : GInv bad (C i).N) (hAg : AgR wr w.heap.size (C i).va bs) (hbs : ∀ j, j < 4 → (bs j).length ≤ 1000 ∧ ∀ z ∈ bs j, z.oneCell' = true)
    (hAv : wr.ownsRow (q7 + 1) 48 297 (.slice Aa i ca) i (flatC C i)) (hOv : wr.ownsRow w.heap.size 54 1 (.slice Ao i co) i ((List.range i).map R)) (hRv : ∀ k, k < i → wr.ownsRow w.heap.size 60 14 (R k) (repsN bad 4) (repsL bad (C (k + 1)).N 4)) (hB : Below w.heap.size w wr) (hCB : CB wr q7 (C i)) (hq7 : w.heap.size ≤ q7)
    (hBc : Below wr.heap.size wr wc) (hfx : x'.fr = (C i).fr + 1) (hrx : ∀ p, p < 4 → ClRel (FX (C i) u.y u.Ls) (C i).N p (x'.N p)) (hAx : AgR wc wr.heap.size x'.va (agB (FX (C i) u.y u.Ls) (C i).N bs)) (hOx : wc.ownsRow wr.heap.size 60 14 rv (repsN u.bad 4) (repsL u.bad x'.N 4))
    (hN4 : CB w4 q7 x') (hg4 : wc.grownBy w4 (some q7))
    (ho5 : w5.ownsRow (q7 + 1) 48 297 (.slice (some ⟨ga, 0, none⟩) (i + 1) ca2) (i + 1) (flatC C i ++ (CA x').toList)) (hg5 : (w4.alloc (.cells (CA x') 48)).grownBy w5 (Value.slice Aa i ca).ownBlock)
    (ho6 : w6.ownsRow w.heap.size 54 1 (.slice (some ⟨ga2, 0, none⟩) (i + 1) co2) (i + 1) ((List.range i).map R ++ [rv])) (hg6 : (w5.alloc (.cells #[rv] 54)).grownBy w6 (Value.slice Ao i co).ownBlock) :
    BhRel w q7 t bad L (.slice (some ⟨ga, 0, none⟩) (i + 1) ca2) (.slice (some ⟨ga2, 0, none⟩) (i + 1) co2) iv w6 := by
  have hws := hB.size
  have hAv4 : w4.ownsRow (q7 + 1) 48 297 (.slice Aa i ca) i (flatC C i) := (own_below hAv hBc (fun z hz => (hAv.lt z hz).2)).kept hg4 (by
    cases hv : (Value.slice Aa i ca).ownBlock with
    | none => exact .inl rfl
    | some q => exact .inr (fun e => by have h1 := (hAv.lt q hv).1; have h2 := Option.some.inj e; omega))
  have hOv4 := own_kept_t (own_below hOv hBc (fun z hz => (hOv.lt z hz).2)) hg4 (CB.next hCB hBc) (by decide)
  have ha1 : Below w4.heap.size w4 (w4.alloc (.cells (CA x') 48)) := (Below.refl _ _).alloc (Nat.le_refl _) _
  have ha2 : Below w5.heap.size w5 (w5.alloc (.cells #[rv] 54)) := (Below.refl _ _).alloc (Nat.le_refl _) _
  have hAvA := own_below hAv4 ha1 (fun z hz => (hAv4.lt z hz).2)
  have hOvA := own_below hOv4 ha1 (fun z hz => (hOv4.lt z hz).2)
  have hOv5 := own_keep_own hOvA hg5 hAvA (by decide)
  have hOvB := own_below hOv5 ha2 (fun z hz => (hOv5.lt z hz).2)
  have hkeep : ∀ {base size n : Nat} {e : TypeId} {v : Value} {xs : List Value}, wc.ownsRow base e size v n xs → e ≠ 48 → e ≠ 54 → w6.ownsRow base e size v n xs := fun h h1 h2 => by
    have k4 := own_kept_t h hg4 (CB.next hCB hBc) h1
    have kA := own_below k4 ha1 (fun z hz => (k4.lt z hz).2)
    have k5 := own_keep_own kA hg5 hAvA h1
    have kB := own_below k5 ha2 (fun z hz => (k5.lt z hz).2)
    exact own_keep_own kB hg6 hOvB h2
  have hx' : ∀ j, j < i + 1 → (fun k => if k = i + 1 then x' else C k) j = C j := fun j hj => if_neg (by omega)
  have hxl : (fun k => if k = i + 1 then x' else C k) (i + 1) = x' := if_pos rfl
  have hlt := (List.getElem?_eq_some_iff.1 hil).1
  have hb4 := (hB.trans (hBc.mono hws)).grown hg4 (Nat.le_trans hws hBc.size) (fun j hj => by cases hj; exact hq7)
  have hbA := hb4.alloc hb4.size (.cells (CA x') 48)
  have hb5 := hbA.grown hg5 hbA.size (fun j hj => Nat.le_trans (by omega) (hAvA.lt j hj).1)
  have hbB := hb5.alloc hb5.size (.cells #[rv] 54)
  have hb6 := hbB.grown hg6 hbB.size (fun j hj => (hOvB.lt j hj).1)
  refine ⟨i + 1, fun k => if k = i + 1 then x' else C k, fun k => if k = i then rv else R k, agB (FX (C i) u.y u.Ls) (C i).N bs, hiv, hlt, ?_, ?_, ?_, ?_, ?_, ?_, ?_, ?_, ?_, ?_, hb6⟩
  · exact (hx' 0 (by omega)).trans hC0
  · intro k v hk hv
    by_cases e : k = i
    · subst e
      obtain rfl : u = v := by rw [hil] at hv; exact Option.some.inj hv
      rw [hx' k (by omega), hxl]
      exact ⟨hfx, hrx⟩
    · rw [hx' k (by omega), hx' (k + 1) (by omega)]
      exact hF k v (by omega) hv
  · intro k hk
    by_cases e : k = i + 1
    · subst e
      rw [hxl]
      exact ⟨by rw [hfx, (hFr i (Nat.le_refl _)).1]; omega, fun j hj => ag_one hAx hj⟩
    · rw [hx' k (by omega)]; exact hFr k (by omega)
  · rw [hxl]
    have hgg : GInv (FX (C i) u.y u.Ls).bad (C i).N := by rw [show (FX (C i) u.y u.Ls).bad = u.bad from rfl, hub]; exact hG
    have := hgg.step hrx
    rw [show (FX (C i) u.y u.Ls).bad = u.bad from rfl, hub] at this
    exact this
  · rw [hxl]
    have k5 : CB w5 q7 x' := Blk.grown (CB.next hN4 ha1) hg5 (fun e => by have h1 := (hAvA.lt q7 e.symm).1; omega)
    exact Blk.grown (CB.next k5 ha2) hg6 (own_blk_ne hOvB (CB.next k5 ha2) (by decide))
  · rw [hxl]
    exact fun j hj => own_le (hkeep (hAx j hj) (by decide) (by decide)) hws
  · intro j hj
    by_cases hb : (j : Int) = (FX (C i) u.y u.Ls).bad
    · have e : agB (FX (C i) u.y u.Ls) (C i).N bs j = bs j := by unfold agB mixN; rw [if_neg (by omega)]
      rw [e]; exact hbs j hj
    · exact ⟨by rw [agB_len hb hj]; omega, agB_one hb hj⟩
  · have e : flatC (fun k => if k = i + 1 then x' else C k) (i + 1) = flatC C i ++ (CA x').toList := by
      show flatC (fun k => if k = i + 1 then x' else C k) i ++ (CA ((fun k => if k = i + 1 then x' else C k) (i + 1))).toList = _
      rw [hxl, flatC_congr _ C i (fun j hj => hx' j (by omega))]
    rw [e]
    have k5 := ho5
    have kB := own_below k5 ha2 (fun z hz => (k5.lt z hz).2)
    exact own_keep_own kB hg6 hOvB (by decide)
  · have e : (List.range (i + 1)).map (fun k => if k = i then rv else R k) = (List.range i).map R ++ [rv] := by
      rw [List.range_succ, List.map_append]
      congr 1
      · apply List.map_congr_left
        intro k hk
        rw [List.mem_range] at hk
        exact if_neg (by omega)
      · simp
    rw [e]; exact ho6
  · intro k hk
    by_cases e : k = i
    · subst e
      show w6.ownsRow _ _ _ (if k = k then rv else R k) _ (repsL bad ((fun j => if j = k + 1 then x' else C j) (k + 1)).N 4)
      rw [if_pos rfl, hxl, ← hub]
      exact own_le (hkeep hOx (by decide) (by decide)) hws
    · show w6.ownsRow _ _ _ (if k = i then rv else R k) _ (repsL bad ((fun j => if j = i + 1 then x' else C j) (k + 1)).N 4)
      rw [if_neg e, hx' (k + 1) (by omega)]
      have hk2 := hRv k (by omega)
      exact hkeep (own_below hk2 hBc (fun z hz => (hk2.lt z hz).2)) (by decide) (by decide)
theorem AgR.down {W : World} {B B' : Nat} {va : Nat → Value} {b : Nat → List Value} (h : AgR W B va b) (hB : B' ≤ B) : AgR W B' va b := fun j hj => own_le (h j hj) hB

end Go.Proofs.Ytofeoeknmlkjgaa.Nk
end
section
/- The Top laws: spot; what is known of each frame behind 'behind'; the inputs that one makes. -/
set_option linter.unusedVariables false
namespace Go.Proofs.Ytofeoeknmlkjgaa.Nk
open Go.RowKit Go.Proofs.Ytofeoeknmlkjgaa Mb Fi Sm

/-! the inputs that one makes -/
/-! each frame -/
end Go.Proofs.Ytofeoeknmlkjgaa.Nk
end
section
/- The Top laws: what is read of the clusters, the inputs and the reports behind each frame. -/
set_option linter.unusedVariables false
namespace Go.Proofs.Ytofeoeknmlkjgaa.Nk
open Go.RowKit Go.Proofs.Ytofeoeknmlkjgaa Mb Fi Sm

section
variable {W W' : World} {g p f k : Nat} {x : Cl}
end
theorem wpAnyH_takeL {P : Program} {ops : Array Oper} {Q : Exit → Act → World → Prop} {md : Region.Mode} {S : World → Prop} {i : Nat} {oi : Oper} {v : Value} {fuel : Nat} {listed : Array Bool} {a : Act} {w : World} (hi' : ops.toList[i]? = some oi)
    (hs : Region.noSelect ops = true) (hf : Region.free md ops listed i = true) (hr : (Region.ready md ops listed).contains i = true)
    (hQ : ∀ c a w, Q (.panic c) (a.put oi.dst v) w → Q (.panic c) a w) (hy : YieldsIf P ops S oi v a) (hS : S w)
    (h : wpAnyH P md ops Q S fuel (listed.setIfInBounds i true) (a.put oi.dst v) w) : wpAnyH P md ops Q S (fuel + 1) listed a w :=
  wpAnyH_take (by rw [← Array.getElem?_toList]; exact hi') hs hf hr hQ hy hS h
end Go.Proofs.Ytofeoeknmlkjgaa.Nk
end
section
/- Inputs that came in: lists of structs, read. -/
set_option linter.unusedVariables false
namespace Go.Proofs.Ytofeoeknmlkjgaa.Nk
open Go.RowKit Go.Proofs.Ytofeoeknmlkjgaa Mb Fi Sm Crc Go.ChangeShapes Go.WideShapes

theorem flatLi_map : ∀ L : List Li, flatLi L = L.flatMap Li.cells
  | [] => rfl
  | l :: L => by rw [flatLi, List.flatMap_cons, flatLi_map L]
theorem flatI_map : ∀ L : List Inp, flatI L = L.flatMap (fun u => (IA u.y).toList)
  | [] => rfl
  | l :: L => by rw [flatI, List.flatMap_cons, flatI_map L]
instance : Inhabited Li := ⟨⟨0, 0, none, 0, 0, []⟩⟩
instance : Inhabited Inp := ⟨⟨0, fun _ => 0, none, 0, 0, []⟩⟩

set_option maxRecDepth 100000 in
theorem read_at {H : Type} {enc : TypeId × Value → H} {W : World} {fuel : Nat} {cs : List Value} {x : DataW H × List MemPlace} (hl : cs.length = 12)
    (h : DataW.trod enc Try.prog W 0 (fun _ => true) true fuel 40 cs = some x) : ∃ rd : Nat → Int, (∀ k, k < 12 → cs[k]? = some (.int .i64 (rd k))) ∧ ∀ k, k < 12 → In64 (rd k) := by
  have c3 : Try.prog.cellsOf 39 = 3 := by kernel_rfl
  have c1 : Try.prog.cellsOf 3 = 1 := by kernel_rfl
  obtain ⟨xs, k, _, _, _, hxl, hel⟩ := DataW.trod_array Try.underlying40 h
  rw [c3] at hel
  have each : ∀ j, j < 12 → ∃ z : Int, cs[j]? = some (.int .i64 z) ∧ In64 z := by
    intro j hj
    have h3 := hel (j / 3) (by omega)
    rw [List.getElem?_eq_getElem (by omega)] at h3
    obtain ⟨ys, k2, _, _, _, hyl, hel2⟩ := DataW.trod_array Try.underlying39 h3
    have h4 := hel2 (j % 3) (by omega)
    rw [c1, Nat.mul_one, List.getElem?_eq_getElem (by omega)] at h4
    obtain ⟨z, e, _, hz⟩ := DataW.trod_int Try.underlying3 h4
    refine ⟨z, ?_, in64_of hz⟩
    have h5 := congrArg (fun l => l[0]?) e
    simp only [List.getElem?_take, List.getElem?_drop, List.getElem?_cons_zero] at h5
    rw [if_pos (by omega), if_pos (by omega)] at h5
    rw [← h5]
    congr 1; omega
  obtain ⟨M, hM⟩ := Go.Deep.choose_lt each
  exact ⟨M, fun k hk => (hM k hk).1, fun k hk => (hM k hk).2⟩

set_option maxRecDepth 100000 in
theorem tuning_in {W : World} {base : Nat} {v : Value} (h : Value.okWide Try.prog W .any base 23 v) : ∃ t : Tu, v = t.val ∧ t.In := by
  obtain ⟨x, y, z, q, rfl, h0, h1, h2, h3⟩ := ok_ints4 (u := 3) (.inl ⟨_, Try.underlying23⟩) (by kernel_rfl) (by kernel_rfl) Try.underlying3 h
  exact ⟨⟨x, y, z, q⟩, rfl, in_i64 h0, in_i64 h1, in_i64 h2, in_i64 h3⟩
end Go.Proofs.Ytofeoeknmlkjgaa.Nk
end
section
/- ClusterMemory: what Frame answers to whatever it is given; inputs that came in, with their sizes. -/
set_option linter.unusedVariables false
namespace Go.Proofs.Ytofeoeknmlkjgaa.Nk
open Go.RowKit Go.Proofs.Ytofeoeknmlkjgaa Mb Fi Sm Crc Go.ChangeShapes Go.WideShapes

/-! inputs with their sizes -/
def Li.Bd (l : Li) : Prop := l.n ≤ 140737488351232 ∧ (l.A = none → l.n = 0 ∧ l.c = 0)
def Inp.Bd (u : Inp) : Prop := u.n * 40 ≤ 140737488351232 ∧ ∀ l ∈ u.Ls, l.Bd
set_option maxRecDepth 100000 in
theorem lie_at2 {H : Type} {enc : TypeId × Value → H} {W : World} {fuel : Nat} {cs : List Value} {x : DataW H × List MemPlace} (hl : cs.length = 3)
    (h : DataW.trod enc Try.prog W 0 (fun _ => true) true fuel 80 cs = some x) (hw : ∀ y ∈ x.1.weights Try.prog 80, y ≤ reachBytes) :
    ∃ D : Li, cs = D.cells ∧ D.Reads W ∧ D.Bd := by
  match cs, hl with
  | [v0, v1, v2], _ =>
    obtain ⟨xs, k, _, hxx, _, hxl, hf⟩ := DataW.trod_struct Try.underlying80 h
    match xs, hxl with
    | [y0, y1, y2], _ =>
      have c1 : Try.prog.cellsOf 3 = 1 := by kernel_rfl
      have c2 : Try.prog.cellsOf 78 = 1 := by kernel_rfl
      have g0 : DataW.trod enc Try.prog W 0 (fun _ => true) true k 3 ((([v0, v1, v2] : List Value).drop 0).take (Try.prog.cellsOf 3)) = some y0 := hf 0 _ rfl
      rw [c1] at g0
      change DataW.trod enc Try.prog W 0 (fun _ => true) true k 3 [v0] = some y0 at g0
      have g1 : DataW.trod enc Try.prog W 0 (fun _ => true) true k 3 ((([v0, v1, v2] : List Value).drop 1).take (Try.prog.cellsOf 3)) = some y1 := hf 1 _ rfl
      rw [c1] at g1
      change DataW.trod enc Try.prog W 0 (fun _ => true) true k 3 [v1] = some y1 at g1
      have g3 : DataW.trod enc Try.prog W 0 (fun _ => true) true k 78 ((([v0, v1, v2] : List Value).drop 2).take (Try.prog.cellsOf 78)) = some y2 := hf 2 _ rfl
      rw [c2] at g3
      change DataW.trod enc Try.prog W 0 (fun _ => true) true k 78 [v2] = some y2 at g3
      obtain ⟨z0, e0, _, _⟩ := DataW.trod_int Try.underlying3 g0
      obtain ⟨z1, e1, _, _⟩ := DataW.trod_int Try.underlying3 g1
      obtain ⟨A, n, c, e3, hA⟩ : ∃ A n c, v2 = .slice A n c ∧ (A = none → n = 0 ∧ c = 0) := by
        rcases DataW.trod_slice Try.underlying78 g3 with ⟨he, _⟩ | ⟨a, len, cap, _, _, _, _, he, _⟩
        · exact ⟨none, 0, 0, by simpa using he, fun _ => ⟨rfl, rfl⟩⟩
        · exact ⟨some a, len, cap, by simpa using he, fun h => by cases h⟩
      injection e0 with e0; injection e1 with e1
      subst e0 e1 e3
      have hb : Try.prog.bytesOf 5 = 1 := by kernel_rfl
      obtain ⟨zs, hI, hz, hnc, hr⟩ := ints_in Try.underlying78 Try.underlying5 (by kernel_rfl) (enc := enc) (d := y2.1) (p := y2.2) ⟨k, g3⟩ (by
        intro es sp he
        have hm := DataW.weights_mem_each (P := Try.prog) (ts := [3, 3, 78]) (ds := [y0.1, y1.1, y2.1]) (j := 2) rfl rfl ((es.length + sp.length) * Try.prog.bytesOf 5) (by rw [he]; simp [DataW.weights, Try.underlying78])
        refine hw _ ?_
        rw [hxx]
        simp only [DataW.weights, Try.underlying80]
        exact hm)
      rw [hb] at hr
      unfold reachBytes at hr
      exact ⟨⟨z0, z1, A, n, c, zs⟩, rfl, ⟨hI, hnc, by show n ≤ _; omega, fun z hz2 => bounds_u8 (hz z hz2)⟩, by show n ≤ _; omega, hA⟩
set_option maxRecDepth 100000 in
theorem input_at2 {H : Type} {enc : TypeId × Value → H} {W : World} {fuel : Nat} {cs : List Value} {x : DataW H × List MemPlace} (hl : cs.length = 14)
    (h : DataW.trod enc Try.prog W 0 (fun _ => true) true fuel 51 cs = some x) (hw : ∀ y ∈ x.1.weights Try.prog 51, y ≤ reachBytes) :
    ∃ u : Inp, cs = (IA u.y).toList ∧ u.Ok W ∧ u.Bd := by
  obtain ⟨xs, k, _, hxx, _, hxl, hf⟩ := DataW.trod_struct Try.underlying51 h
  match xs, hxl with
  | [y0, y1, y2], _ =>
    have c0 : Try.prog.cellsOf 40 = 12 := by kernel_rfl
    have c1 : Try.prog.cellsOf 3 = 1 := by kernel_rfl
    have c2 : Try.prog.cellsOf 49 = 1 := by kernel_rfl
    have g0 : DataW.trod enc Try.prog W 0 (fun _ => true) true k 40 ((cs.drop 0).take (Try.prog.cellsOf 40)) = some y0 := hf 0 _ rfl
    have g1 : DataW.trod enc Try.prog W 0 (fun _ => true) true k 3 ((cs.drop 12).take (Try.prog.cellsOf 3)) = some y1 := hf 1 _ rfl
    have g2 : DataW.trod enc Try.prog W 0 (fun _ => true) true k 49 ((cs.drop 13).take (Try.prog.cellsOf 49)) = some y2 := hf 2 _ rfl
    rw [c0] at g0
    rw [c1] at g1
    rw [c2] at g2
    obtain ⟨rd, hrd, hri⟩ := read_at (by simp; omega) g0
    obtain ⟨z1, e1, _, _⟩ := DataW.trod_int Try.underlying3 g1
    obtain ⟨A, n, c, e2⟩ : ∃ A n c, (cs.drop 13).take 1 = [.slice A n c] := by
      rcases DataW.trod_slice Try.underlying49 g2 with ⟨he, _⟩ | ⟨a, len, cap, _, _, _, _, he, _⟩
      · exact ⟨none, 0, 0, he⟩
      · exact ⟨some a, len, cap, he⟩
    rw [e2] at g2
    have cl : Try.prog.cellsOf 80 = 3 := by kernel_rfl
    have hbl : Try.prog.bytesOf 80 = 40 := by kernel_rfl
    obtain ⟨Ls, h1, h2, h3, h4, h5⟩ := vr_in (d := y2.1) (p := y2.2) Try.underlying49 cl (by decide) ⟨k, g2⟩ (by
      intro y hy
      have hm := DataW.weights_mem_each (P := Try.prog) (ts := [40, 3, 49]) (ds := [y0.1, y1.1, y2.1]) (j := 2) rfl rfl y hy
      refine hw _ ?_
      rw [hxx]
      simp only [DataW.weights, Try.underlying51]
      exact hm) Li.cells (fun _ => rfl) (fun l => Li.Reads W l ∧ l.Bd) (fun fuel cs x hl h hw => lie_at2 hl h hw)
    rw [← flatLi_map] at h2
    rw [hbl] at h5
    unfold reachBytes at h5
    refine ⟨⟨z1, rd, A, n, c, Ls⟩, ?_, ⟨⟨h1, h2, fun l hl => (h3 l hl).1⟩, h4, hri⟩, h5, fun l hl => (h3 l hl).2⟩
    refine List.ext_getElem? fun j => ?_
    unfold IA
    conv => rhs; rw [Array.getElem?_toList]
    by_cases hj : j < 14
    · rw [AN_get hj]
      unfold InD.c
      by_cases a : j < 12
      · rw [if_pos a]
        have := hrd j a
        rw [List.getElem?_take, if_pos a, List.drop_zero] at this
        exact this
      · rw [if_neg a]
        by_cases b : j < 13
        · rw [if_pos b]
          obtain rfl : j = 12 := by omega
          have h5 := congrArg (fun l => l[0]?) e1
          have h6 : cs[12]? = some (.int .i64 z1) := by simpa [List.getElem?_take, List.getElem?_drop] using h5
          exact h6
        · rw [if_neg b]
          obtain rfl : j = 13 := by omega
          have h5 := congrArg (fun l => l[0]?) e2
          have h6 : cs[13]? = some (.slice A n c) := by simpa [List.getElem?_take, List.getElem?_drop] using h5
          exact h6
    · rw [List.getElem?_eq_none (by omega)]
      exact (Array.getElem?_eq_none (by rw [AN_size]; omega)).symm
theorem inputs_in2 {H : Type} {enc : TypeId × Value → H} {W : World} {A : Option Addr} {n c : Nat} {d : DataW H} {p : List MemPlace}
    (h : DataW.Trod enc Try.prog W 0 (fun _ => true) true 24 (.slice A n c) d p) (hw : ∀ x ∈ d.weights Try.prog 24, x ≤ reachBytes) : ∃ L, IR W A n c L ∧ (∀ u ∈ L, u.Bd) ∧ n ≤ 17592186044416 := by
  have cl : Try.prog.cellsOf 51 = 14 := by kernel_rfl
  have hb : Try.prog.bytesOf 51 = 128 := by kernel_rfl
  obtain ⟨L, h1, h2, h3, h4, h5⟩ := vr_in Try.underlying24 cl (by decide) h hw (fun u : Inp => (IA u.y).toList) (fun u => IA_len u.y) (fun u => u.Ok W ∧ u.Bd) (fun fuel cs x hl h hw => input_at2 hl h hw)
  rw [← flatI_map] at h2
  rw [hb] at h5
  unfold reachBytes at h5
  exact ⟨L, ⟨h1, h2, fun u hu => (h3 u hu).1⟩, fun u hu => (h3 u hu).2, by omega⟩

/-! Frame, whatever it is given -/
def FlB (w : World) (B : Nat) (va : Nat → Value) (bs : Nat → List Bool) : Prop := AgR w B va (fun i => (bs i).map Value.bool) ∧ ∀ i, i < 4 → (bs i).length ≤ 1000
def ClOk (x : Cl) : Prop := (∀ i : Nat, i < 4 → (x.N i).id = (i : Int)) ∧ ∀ i : Nat, i < 4 → NOk (x.N i)
def CmPost (x : Cl) (w : World) (e : Ending) (w' : World) : Prop :=
  ∃ (x' : Cl) (A : Option Addr) (m c : Nat) (k : Int) (bs : Nat → List Bool), e = .returned (.tuple #[.agg (CA x'), .slice A m c, .int .i64 k]) ∧ Below w.heap.size w w' ∧ FlB w' w.heap.size x'.va bs ∧ (k = 0 → ClOk x' ∧ x'.fr = x.fr + 1)
theorem FlB.nil (w : World) (B : Nat) : FlB w B (fun _ => .slice none 0 0) (fun _ => []) := ⟨fun i hi => World.ownsRow_nil _ _ _ _, fun i hi => Nat.zero_le _⟩
def agL (X : Fr) (N : Nat → Nd) (bs : Nat → List Bool) (i : Nat) : List Bool := if i < 4 ∧ ¬ (i : Int) = X.bad then [jA (N4 X N i) (judgeH (N4 X N i) (B4 X N i)) i 0, jA (N4 X N i) (judgeH (N4 X N i) (B4 X N i)) i 1, jA (N4 X N i) (judgeH (N4 X N i) (B4 X N i)) i 2, jA (N4 X N i) (judgeH (N4 X N i) (B4 X N i)) i 3] else bs i
theorem agB_map (X : Fr) (N : Nat → Nd) (bs : Nat → List Bool) (i : Nat) : agB X N (fun i => (bs i).map Value.bool) i = (agL X N bs i).map Value.bool := by
  unfold agB mixN agL
  split
  · exact judgeB_bool _ _ _
  · rfl
theorem cl_ok {X : Fr} {x x' : Cl} (h : ClOk x) (hr : ∀ i, i < 4 → ClRel X x.N i (x'.N i)) : ClOk x' := by
  refine ⟨fun i hi => ?_, fun i hi => ?_⟩
  · have h1 := hr i hi
    unfold ClRel at h1
    by_cases hb : (i : Int) = X.bad
    · rw [if_pos hb] at h1; rw [h1]; exact h.1 i hi
    · rw [if_neg hb] at h1
      obtain ⟨ax, ro, e, _⟩ := h1.1
      rw [e]
      exact (N5_keep hb).1.trans (h.1 i hi)
  · have h1 := hr i hi
    unfold ClRel at h1
    by_cases hb : (i : Int) = X.bad
    · rw [if_pos hb] at h1; rw [h1]; exact h.2 i hi
    · rw [if_neg hb] at h1
      obtain ⟨ax, ro, e, h2, _⟩ := h1.1
      have h3 := N5_ok (x := X) (N := x.N) hb (h.2 i hi)
      rw [e]
      exact ⟨h3.1, h2 h3.2⟩
theorem frame_all (x : Cl) (y : InD) (bs : Nat → List Bool) (A : Option Addr) (m c : Nat) (Ls : List Li) (w : World) (B : Nat) (hx : ClOk x) (hf0 : 0 ≤ x.fr) (hf1 : x.fr < 1073741824) (hlv : y.lv = .slice A m c) (hm : m ≤ 140737488355328) (hL : LiR w A m c Ls)
    (hrd : ∀ k, k < 12 → In64 (y.rd k)) (hv : FlB w B x.va bs) :
    Calls Try.prog 27 #[.agg (CA x), .agg (IA y)] w (CmPost x w) := by
  by_cases hb : y.bad < -1 ∨ 4 ≤ y.bad ∨ 400 < m
  · refine (frame_no x y A m c w hb hlv hm hf0 hf1).mono fun e w' h => ?_
    obtain ⟨he, hB⟩ := h
    refine ⟨zCl, none, 0, 0, _, fun _ => [], he, hB, FlB.nil _ _, fun hk => ?_⟩
    split at hk <;> omega
  · have H : FrH x y (fun i => (bs i).map Value.bool) A m c Ls w := ⟨hx.1, hf0, hf1, hlv, by omega, hL, hx.2, hrd, fun i hi => by rw [List.length_map]; exact hv.2 i hi, fun i hi => bools_one _⟩
    refine (frame_any x y _ A m c Ls w H (by omega) (by omega) (fun i hi => ?_)).mono fun e w' h => ?_
    · have h1 := hv.1 i hi
      obtain ⟨Av, cv, e⟩ := own_shape h1
      rw [e] at h1
      exact ⟨Av, _, cv, e, by have := VR.own h1; exact this⟩
    · obtain ⟨x', rv, he, hB, hfr, hr, hA, hO⟩ := h
      obtain ⟨Ar, cr, rfl⟩ := own_shape hO
      refine ⟨x', Ar, _, cr, 0, agL (FX x y Ls) x.N bs, he, hB, ⟨fun i hi => ?_, fun i hi => ?_⟩, fun _ => ⟨cl_ok hx hr, hfr⟩⟩
      · have h1 := hA i hi
        rw [agB_map] at h1
        exact h1
      · unfold agL
        split
        · simp
        · exact hv.2 i hi
end Go.Proofs.Ytofeoeknmlkjgaa.Nk
end
section
/- ClusterMemory: what stands within its loops. -/
set_option linter.unusedVariables false
namespace Go.Proofs.Ytofeoeknmlkjgaa.Nk
open Go.RowKit Go.Proofs.Ytofeoeknmlkjgaa Mb Fi Sm

/-! flags, whatever they are -/
def BRow (w : World) (B : Nat) (v : Value) (n : Nat) : Prop := ∃ bs : List Bool, w.ownsRow B 4 1 v n (bs.map Value.bool)
theorem bools_of : ∀ {xs : List Value}, (∀ (j : Nat) (u : Value), xs[j]? = some u → ∃ b : Bool, u = .bool b) → ∃ bs : List Bool, xs = bs.map Value.bool
  | [], _ => ⟨[], rfl⟩
  | x :: xs, h => by
    obtain ⟨b, e⟩ := h 0 x rfl
    obtain ⟨bs, e2⟩ := bools_of (xs := xs) (fun j u hu => h (j + 1) u (by simpa using hu))
    exact ⟨b :: bs, by rw [e, e2]; rfl⟩
theorem BRow.set {w w' : World} {g B n : Nat} {v : Value} {cur cur' : Array Value} (h : BRow w B v n) (hb : Blk w g 4 cur) (hb' : Blk w' g 4 cur') (hs : cur'.size = cur.size) (hg : w.grownBy w' (some g))
    (hc : ∀ j : Nat, cur'[j]? = cur[j]? ∨ ∃ b : Bool, cur'[j]? = some (.bool b)) : BRow w' B v n := by
  obtain ⟨bs, h⟩ := h
  by_cases hv : v.ownBlock = some g
  · rcases h.2 with ⟨rfl, _⟩ | ⟨g', cap, cur0, rfl, hB, hh, hc1, hm, hsz, ht⟩
    · cases hv
    · obtain rfl : g' = g := Option.some.inj hv
      have e : cur0 = cur := by
        have h1 : w.heap[g']? = _ := hb
        rw [hh] at h1
        injection h1 with h1; injection h1
      subst e
      rw [Nat.mul_one] at ht hsz
      obtain ⟨bs', e⟩ := bools_of (xs := cur'.toList.take n) (by
        intro j u hu
        rw [List.getElem?_take] at hu
        by_cases hj : j < n
        · rw [if_pos hj, Array.getElem?_toList] at hu
          rcases hc j with h2 | ⟨b, h2⟩
          · rw [h2] at hu
            have h3 : (bs.map Value.bool)[j]? = some u := by rw [← ht, List.getElem?_take, if_pos hj, Array.getElem?_toList]; exact hu
            rw [List.getElem?_map] at h3
            cases hb3 : bs[j]? with
            | none => rw [hb3] at h3; cases h3
            | some b => rw [hb3] at h3; exact ⟨b, (Option.some.inj h3).symm⟩
          · rw [h2] at hu; exact ⟨b, (Option.some.inj hu).symm⟩
        · rw [if_neg hj] at hu; cases hu)
      refine ⟨bs', ?_, .inr ⟨g', cap, cur', rfl, hB, hb', hc1, hm, by rw [hs, hsz, Nat.mul_one], by rw [Nat.mul_one]; exact e⟩⟩
      rw [← e, List.length_take, Array.length_toList, hs, hsz]
      omega
  · exact ⟨bs, h.kept hg (.inr hv)⟩
theorem BRow.below {w w' : World} {B n : Nat} {v : Value} (h : BRow w B v n) (hb : Below w.heap.size w w') : BRow w' B v n := by
  obtain ⟨bs, h⟩ := h
  exact ⟨bs, own_below h hb (fun z hz => (h.lt z hz).2)⟩
def FlX (w : World) (B : Nat) (va : Nat → Value) (ns : Nat → Nat) : Prop := ∀ i, i < 4 → BRow w B (va i) (ns i) ∧ ns i ≤ 1000
theorem FlB.x {w : World} {B : Nat} {va : Nat → Value} {bs : Nat → List Bool} (h : FlB w B va bs) : FlX w B va (fun i => (bs i).length) := fun i hi => ⟨⟨bs i, by have h1 := h.1 i hi; rw [List.length_map] at h1; exact h1⟩, h.2 i hi⟩
theorem FlX.b {w : World} {B : Nat} {va : Nat → Value} {ns : Nat → Nat} (h : FlX w B va ns) : ∃ bs : Nat → List Bool, FlB w B va bs ∧ ∀ i, i < 4 → (bs i).length = ns i := by
  have h2 : ∀ i, i < 4 → ∃ bs : List Bool, w.ownsRow B 4 1 (va i) (ns i) (bs.map Value.bool) := fun i hi => (h i hi).1
  obtain ⟨bs, hb⟩ := Go.Deep.choose_lt h2
  have hl : ∀ i, i < 4 → (bs i).length = ns i := fun i hi => by have h3 := (hb i hi).1; rw [List.length_map] at h3; omega
  refine ⟨bs, ⟨fun i hi => ?_, fun i hi => by rw [hl i hi]; exact (h i hi).2⟩, hl⟩
  show w.ownsRow B 4 1 (va i) ((bs i).map Value.bool).length ((bs i).map Value.bool)
  rw [List.length_map, hl i hi]
  exact hb i hi
theorem FlX.set {w w' : World} {g B : Nat} {va : Nat → Value} {ns : Nat → Nat} {cur cur' : Array Value} (h : FlX w B va ns) (hb : Blk w g 4 cur) (hb' : Blk w' g 4 cur') (hs : cur'.size = cur.size) (hg : w.grownBy w' (some g))
    (hc : ∀ j : Nat, cur'[j]? = cur[j]? ∨ ∃ b : Bool, cur'[j]? = some (.bool b)) : FlX w' B va ns := fun i hi => ⟨(h i hi).1.set hb hb' hs hg hc, (h i hi).2⟩
theorem FlX.below {w w' : World} {B : Nat} {va : Nat → Value} {ns : Nat → Nat} (h : FlX w B va ns) (hb : Below w.heap.size w w') : FlX w' B va ns := fun i hi => ⟨(h i hi).1.below hb, (h i hi).2⟩
theorem FlX.le {w : World} {B B' : Nat} {va : Nat → Value} {ns : Nat → Nat} (h : FlX w B va ns) (hB : B' ≤ B) : FlX w B' va ns := fun i hi => by
  obtain ⟨⟨bs, h1⟩, h2⟩ := h i hi
  exact ⟨⟨bs, own_le h1 hB⟩, h2⟩
theorem FlX.other {w w' : World} {g B : Nat} {va : Nat → Value} {ns : Nat → Nat} {t : TypeId} {cs : Array Value} (h : FlX w B va ns) (hg : w.grownBy w' (some g)) (hb : Blk w g t cs) (ht : 4 ≠ t) : FlX w' B va ns := fun i hi => by
  obtain ⟨⟨bs, h1⟩, h2⟩ := h i hi
  exact ⟨⟨bs, own_kept_t h1 hg hb ht⟩, h2⟩
theorem grown_setRow (w : World) (g : Nat) (cs : Array Value) : w.grownBy (w.setRow g cs) (some g) :=
  ⟨rfl, rfl, rfl, by simp [World.setRow], fun k hk hne => setRow_other w g k cs (fun e => hne (by rw [e]))⟩
theorem flip_set {w : World} {g j : Nat} {cur : Array Value} (hb : Blk w g 4 cur) (b : Bool) : Blk (w.setCell ⟨g, j, none⟩ (.bool b)) g 4 (cur.setIfInBounds j (.bool b)) ∧ (cur.setIfInBounds j (.bool b)).size = cur.size ∧ ∀ k : Nat, (cur.setIfInBounds j (.bool b))[k]? = cur[k]? ∨ ∃ d : Bool, (cur.setIfInBounds j (.bool b))[k]? = some (.bool d) := by
  refine ⟨hb.set_ j _, by simp, fun k => ?_⟩
  rw [Array.getElem?_setIfInBounds]
  split
  · split
    · exact .inr ⟨b, rfl⟩
    · rename_i h1 h2
      subst h1
      exact .inl (Array.getElem?_eq_none (by omega)).symm
  · exact .inl rfl
theorem splice_bools {cur : Array Value} {bs : List Bool} (hl : bs.length ≤ cur.size) : (cur.toList.take 0 ++ (bs.map Value.bool ++ cur.toList.drop (0 + (bs.map Value.bool).length))).toArray.size = cur.size ∧
    ∀ k : Nat, (cur.toList.take 0 ++ (bs.map Value.bool ++ cur.toList.drop (0 + (bs.map Value.bool).length))).toArray[k]? = cur[k]? ∨ ∃ b : Bool, (cur.toList.take 0 ++ (bs.map Value.bool ++ cur.toList.drop (0 + (bs.map Value.bool).length))).toArray[k]? = some (.bool b) := by
  refine ⟨by simp; omega, fun k => ?_⟩
  rw [List.take_zero, List.nil_append, Nat.zero_add, List.length_map, List.getElem?_toArray]
  by_cases hk : k < bs.length
  · rw [List.getElem?_append_left (by rw [List.length_map]; exact hk), List.getElem?_map, List.getElem?_eq_getElem hk]
    exact .inr ⟨_, rfl⟩
  · rw [List.getElem?_append_right (by rw [List.length_map]; omega), List.length_map, List.getElem?_drop, Array.getElem?_toList]
    exact .inl (by congr 1; omega)

/-! roomy lies -/
def rmY (l : Li) (g c : Nat) : Li := ⟨l.ph, l.tt, some ⟨g, 0, none⟩, l.n, c, l.zs⟩
def rmLs (Ls : List Li) (gs cs : Nat → Nat) : Nat → List Li
  | 0 => []
  | i + 1 => rmLs Ls gs cs i ++ (match Ls[i]? with | some x => [rmY x (gs i) (cs i)] | none => [])
theorem rmLs_len {Ls : List Li} {gs cs : Nat → Nat} : ∀ i, i ≤ Ls.length → (rmLs Ls gs cs i).length = i
  | 0, _ => rfl
  | i + 1, h => by
    rw [rmLs, List.getElem?_eq_getElem (by omega), List.length_append, rmLs_len i (by omega)]; rfl
theorem rmLs_congr {Ls : List Li} {gs gs' cs cs' : Nat → Nat} : ∀ i, (∀ j, j < i → gs j = gs' j ∧ cs j = cs' j) → rmLs Ls gs cs i = rmLs Ls gs' cs' i
  | 0, _ => rfl
  | i + 1, h => by rw [rmLs, rmLs, rmLs_congr i (fun j hj => h j (by omega)), (h i (by omega)).1, (h i (by omega)).2]
theorem rmLs_mem {Ls : List Li} {gs cs : Nat → Nat} {y : Li} : ∀ i, y ∈ rmLs Ls gs cs i → ∃ j x, j < i ∧ Ls[j]? = some x ∧ y = rmY x (gs j) (cs j)
  | 0, h => by cases h
  | i + 1, h => by
    rw [rmLs] at h
    rcases List.mem_append.1 h with h | h
    · obtain ⟨j, x, h1, h2, h3⟩ := rmLs_mem i h
      exact ⟨j, x, by omega, h2, h3⟩
    · cases e : Ls[i]? with
      | none => rw [e] at h; cases h
      | some x => rw [e] at h; exact ⟨i, x, by omega, e, by simpa using h⟩
theorem rmLs_get {Ls : List Li} {gs cs : Nat → Nat} {j : Nat} {x : Li} (hx : Ls[j]? = some x) : ∀ i, j < i → i ≤ Ls.length → (rmLs Ls gs cs i)[j]? = some (rmY x (gs j) (cs j))
  | 0, h, _ => by omega
  | i + 1, h, hl => by
    rw [rmLs]
    rcases Nat.lt_or_ge j i with h1 | h1
    · rw [List.getElem?_append_left (by rw [rmLs_len i (by omega)]; exact h1), rmLs_get hx i h1 (by omega)]
    · obtain rfl : j = i := by omega
      rw [List.getElem?_append_right (by rw [rmLs_len j (by omega)]; exact Nat.le_refl _), rmLs_len j (by omega), hx]; simp
theorem flatLi_app : ∀ L M : List Li, flatLi (L ++ M) = flatLi L ++ flatLi M
  | [], M => rfl
  | u :: L, M => by rw [List.cons_append, flatLi, flatLi, flatLi_app L M, List.append_assoc]
def RmOne (w : World) (B : Nat) (l : Li) (g c : Nat) : Prop := B ≤ g ∧ l.n + 2 ≤ c ∧ ∃ cur, Blk w g 5 cur ∧ Rb.Room8 l.n l.zs cur
theorem RmOne.next {w w' : World} {B : Nat} {l : Li} {g c : Nat} (h : RmOne w B l g c) (hb : Below w.heap.size w w') : RmOne w' B l g c := by
  obtain ⟨h0, h1, cur, h2, h3⟩ := h
  exact ⟨h0, h1, cur, h2.next hb, h3⟩
theorem RmOne.other {w w' : World} {B q : Nat} {l : Li} {g c : Nat} (h : RmOne w B l g c) (hg : w.grownBy w' (some q)) {t : TypeId} {cs : Array Value} (hq : Blk w q t cs) (ht : t ≠ 5) : RmOne w' B l g c := by
  obtain ⟨h0, h1, cur, h2, h3⟩ := h
  refine ⟨h0, h1, cur, h2.grown hg (fun e => ?_), h3⟩
  have e : g = q := Option.some.inj e
  subst e
  have h4 : w.heap[g]? = _ := h2
  rw [show w.heap[g]? = _ from hq] at h4
  injection h4 with h4; injection h4 with _ h4
  exact ht h4
def LmIn (w1 : World) (gi : Nat) (y : InD) (Ls : List Li) (gs cs : Nat → Nat) (v : Value) (i : Nat) (wr : World) : Prop :=
  IB wr gi ⟨y.bad, y.rd, v⟩ ∧ wr.ownsRow w1.heap.size 80 3 v i (flatLi (rmLs Ls gs cs i)) ∧ (∀ j l, j < i → Ls[j]? = some l → RmOne wr w1.heap.size l (gs j) (cs j)) ∧ Below w1.heap.size w1 wr
def LmRel (w1 : World) (gi : Nat) (y : InD) (Ls : List Li) (iv : Value) (wr : World) : Prop := ∃ (i : Nat) (gs cs : Nat → Nat) (v : Value), iv = .int .i64 i ∧ i ≤ Ls.length ∧ LmIn w1 gi y Ls gs cs v i wr
theorem LmRel.start {w1 w2 : World} {gi : Nat} {y : InD} {Ls : List Li} (h : IB w2 gi ⟨y.bad, y.rd, .slice none 0 0⟩) (hb : Below w1.heap.size w1 w2) : LmRel w1 gi y Ls (.int .i64 0) w2 := ⟨0, fun _ => 0, fun _ => 0, _, rfl, Nat.zero_le _, h, World.ownsRow_nil _ _ _ _, fun _ _ h => absurd h (Nat.not_lt_zero _), hb⟩
theorem LmRel.put {w1 wr wd we : World} {gi : Nat} {y : InD} {Ls : List Li} {gs cs : Nat → Nat} {v v' iv : Value} {i g c : Nat} {l : Li} (h : LmIn w1 gi y Ls gs cs v i wr) (hgi : w1.heap.size ≤ gi) (hx : Ls[i]? = some l) (hbd : Below wr.heap.size wr wd)
    (ho : we.ownsRow w1.heap.size 80 3 v' (i + 1) (flatLi (rmLs Ls gs cs i) ++ (rmY l g c).cells)) (hg : wd.grownBy we v.ownBlock) (hk : RmOne wd w1.heap.size l g c) (hi : iv = .int .i64 ((i + 1 : Nat) : Int)) : LmRel w1 gi y Ls iv (we.setCell ⟨gi, 13, none⟩ v') := by
  obtain ⟨h0, h1, h2, h3⟩ := h
  have hil : i < Ls.length := (List.getElem?_eq_some_iff.1 hx).1
  have h1d := own_below h1 hbd (fun z hz => (h1.lt z hz).2)
  have hIe : IB we gi ⟨y.bad, y.rd, v⟩ := Blk.grown (h0.next hbd) hg (fun e => own_blk_ne h1d (h0.next hbd) (by decide) e)
  have hgs := grown_set we gi 13 v'
  have up : ∀ (q : Nat) (cs : Array Value), Blk wd q 5 cs → Blk we q 5 cs := fun q cs hq => hq.grown hg (fun e => own_blk_ne h1d hq (by decide) e)
  have upR : ∀ {l : Li} {g c : Nat}, RmOne wd w1.heap.size l g c → RmOne (we.setCell ⟨gi, 13, none⟩ v') w1.heap.size l g c := fun {l g c} hr => by
    obtain ⟨a0, a1, cur, a2, a3⟩ := hr
    exact RmOne.other (w := we) ⟨a0, a1, cur, up _ _ a2, a3⟩ hgs hIe (by decide)
  refine ⟨i + 1, upd gs i g, upd cs i c, v', hi, by omega, hIe.setLv v', ?_, fun j z hj hz => ?_, ?_⟩
  · rw [rmLs, hx, rmLs_congr i (gs' := gs) (cs' := cs) (fun j hj => ⟨upd_far _ _ (by omega), upd_far _ _ (by omega)⟩), upd_same, upd_same, flatLi_app]
    have e : flatLi [rmY l g c] = (rmY l g c).cells := by simp [flatLi]
    rw [e]
    exact own_kept_t ho hgs hIe (by decide)
  · rcases Nat.lt_or_ge j i with a | a
    · rw [upd_far _ _ (by omega), upd_far _ _ (by omega)]
      exact upR ((h2 j z a hz).next hbd)
    · obtain rfl : j = i := by omega
      rw [upd_same, upd_same]
      rw [hx] at hz; cases hz
      exact upR hk
  · have h4 := (h3.trans (hbd.mono h3.size)).grown hg (by have := h3.size; have := hbd.size; omega) (fun k hk => (h1.lt k hk).1)
    exact h4.grown hgs h4.size (fun k hk => by cases hk; exact hgi)
theorem LmIn.lr {w0 w1 wr wz : World} {gi : Nat} {y : InD} {Ls : List Li} {gs cs : Nat → Nat} {A Am : Option Addr} {c mm cm i : Nat} (hM : LiR w0 Am mm cm Ls) (hi : i = Ls.length) (h : LmIn w1 gi y Ls gs cs (.slice A i c) i wr) (hb : Below wr.heap.size wr wz) : LiR wz A i c (rmLs Ls gs cs i) := by
  obtain ⟨h0, h1, h2, h3⟩ := h
  refine ⟨rmLs_len i (by omega), (VR.own h1).next hb, fun z hz => ?_⟩
  obtain ⟨j, l, hj, hl, rfl⟩ := rmLs_mem i hz
  have hr := hM.2.2 l (List.mem_of_getElem? hl)
  obtain ⟨a0, a1, cur, a2, a3⟩ := (h2 j l hj hl).next hb
  exact ⟨a3.ints hr.1.1 a2, by show l.n ≤ cs j; omega, hr.2.2.1, hr.2.2.2⟩

/-! the flags as they were -/
theorem CB.setVa {W : World} {g i : Nat} {x : Cl} (h : CB W g x) (hi : i < 4) (v : Value) : CB (W.setCell ⟨g, 1 + i * 74 + 73, none⟩ v) g ⟨x.fr, x.N, upd x.va i v⟩ := by
  have := Blk.set_ h (1 + i * 74 + 73) v
  unfold CA at this
  rw [AN_set] at this
  unfold CB CA
  rw [AN_congr (g := fun k => if k = 1 + i * 74 + 73 then v else x.c k)]
  · exact this
  · intro k hk
    by_cases e : k = 1 + i * 74 + 73
    · subst e
      rw [if_pos rfl, Cl.c_node _ hi (by omega)]
      show (x.N i).c (upd x.va i v i) 73 = v
      rw [upd_same]; rfl
    · rw [if_neg e]
      unfold Cl.c
      simp only
      by_cases c : k < 1
      · rw [if_pos c, if_pos c]
      · rw [if_neg c, if_neg c]
        by_cases e2 : (k - 1) / 74 = i
        · rw [e2, upd_same]
          exact c_va_out _ _ _ _ (by omega)
        · rw [upd_far _ _ e2]
def WsRel (w2 : World) (gw : Nat) (x : Cl) (bs : Nat → List Bool) (iv : Value) (wr : World) : Prop :=
  ∃ (i : Nat) (va' : Nat → Value), iv = .int .i64 i ∧ i ≤ 4 ∧ CB wr gw ⟨x.fr, x.N, va'⟩ ∧ (∀ j, j < i → wr.ownsRow w2.heap.size 4 1 (va' j) (bs j).length ((bs j).map Value.bool)) ∧ Below w2.heap.size w2 wr
theorem WsRel.put {w2 wr w4 : World} {gw i : Nat} {x : Cl} {bs : Nat → List Bool} {va' : Nat → Value} {v4 iv : Value} {m : Nat} (hi : i < 4) (hiv : iv = .int .i64 ((i + 1 : Nat) : Int)) (hC : CB wr gw ⟨x.fr, x.N, va'⟩) (hO : ∀ j, j < i → wr.ownsRow w2.heap.size 4 1 (va' j) (bs j).length ((bs j).map Value.bool)) (hB : Below w2.heap.size w2 wr)
    (ho : w4.ownsRow w2.heap.size 4 1 v4 m ((bs i).map Value.bool)) (hg : wr.grownBy w4 none) (hgw : w2.heap.size ≤ gw) : WsRel w2 gw x bs iv (w4.setCell ⟨gw, 1 + i * 74 + 73, none⟩ v4) := by
  have hml : (bs i).length = m := by have h := ho.1; rw [List.length_map] at h; omega
  subst hml
  have hC4 : CB w4 gw ⟨x.fr, x.N, va'⟩ := Blk.grown hC hg (fun e => by cases e)
  have hgs := grown_set w4 gw (1 + i * 74 + 73) v4
  refine ⟨i + 1, upd va' i v4, hiv, hi, hC4.setVa hi v4, fun j hj => ?_, ?_⟩
  · have hk : ∀ {v : Value} {n : Nat} {xs : List Value}, w4.ownsRow w2.heap.size 4 1 v n xs → (w4.setCell ⟨gw, 1 + i * 74 + 73, none⟩ v4).ownsRow w2.heap.size 4 1 v n xs := fun h => own_kept_t h hgs hC4 (by decide)
    by_cases e : j = i
    · subst e; rw [upd_same]; exact hk ho
    · rw [upd_far _ _ e]
      have hj2 := hO j (by omega)
      exact hk (hj2.kept hg (by cases hv : (va' j).ownBlock with | none => exact .inl rfl | some q => exact .inr (fun e => by cases e)))
  · have h4 : Below w2.heap.size w2 w4 := hB.grown hg hB.size (fun k hk => by cases hk)
    exact h4.grown hgs h4.size (fun j hj => by cases hj; exact hgw)
/-! parts of an input -/
theorem zeroIn : (#[.int .i64 0, .int .i64 0, .int .i64 0, .int .i64 0, .int .i64 0, .int .i64 0, .int .i64 0, .int .i64 0, .int .i64 0, .int .i64 0, .int .i64 0, .int .i64 0, .int .i64 0, .slice none 0 0] : Array Value) = IA ⟨0, fun _ => 0, .slice none 0 0⟩ := by kernel_rfl
theorem infoRd : (Try.prog.info? 40).map (·.size) = some 12 := by kernel_rfl
def rdA (rd : Nat → Int) : Array Value := AN 12 (fun k => .int .i64 (rd k))
theorem rdA_size (rd : Nat → Int) : (rdA rd).size = 12 := AN_size _ _
theorem rdA_one (rd : Nat → Int) : (rdA rd).all (·.oneCell') = true := AN_one fun k hk => rfl
section
variable {W : World} {b o g : Nat} {y : InD}
theorem row_at (h : W.rangeAt b o (IA y).toList) {k : Nat} (hk : k < 14) : W.cell? ⟨b, o + k, none⟩ = some (y.c k) := by
  refine h k _ ?_
  rw [Array.getElem?_toList]
  unfold IA
  rw [AN_get hk]
theorem rowRd (h : W.rangeAt b o (IA y).toList) : W.rangeAt b o (rdA y.rd).toList := by
  intro j v hj
  obtain ⟨hlt, e⟩ := AN_list hj
  rw [row_at h (by omega), ← e]
  unfold InD.c
  rw [if_pos hlt]
theorem rowBad (h : W.rangeAt b o (IA y).toList) : W.cell? ⟨b, o + 12, none⟩ = some (.int .i64 y.bad) := row_at h (by omega)
theorem rowLv (h : W.rangeAt b o (IA y).toList) : W.cell? ⟨b, o + 13, none⟩ = some y.lv := row_at h (by omega)
theorem IB.setRd (h : IB W g y) (rd : Nat → Int) : IB (W.setCells g 0 (rdA rd).toList) g ⟨y.bad, rd, y.lv⟩ := by
  have := blk_setCells_AN (o := 0) (vs := (rdA rd).toList) h
  unfold IB IA
  rw [AN_congr (g := fun k => if 0 ≤ k ∧ k < 0 + (rdA rd).toList.length then (rdA rd).toList.getD (k - 0) undef else y.c k)]
  · exact this
  · intro k hk
    have hl : (rdA rd).toList.length = 12 := by rw [Array.length_toList, rdA_size]
    rw [hl]
    by_cases c : k < 12
    · rw [if_pos ⟨Nat.zero_le _, by omega⟩]
      unfold rdA
      rw [AN_getD (by omega)]
      unfold InD.c
      rw [if_pos c]
      rfl
    · rw [if_neg (by omega)]
      unfold InD.c
      rw [if_neg c, if_neg c]
theorem IB.thereR (h : IB W g y) {o k : Nat} (hk : o + k ≤ 14) : W.there g o k := fun j hj => by
  rw [h.at_ (by omega)]
  exact ⟨rfl, Blk.frozen h _⟩
end

/-! flags are turned, and put back -/
def Kb (lo : Nat) (w w' : World) : Prop := (∀ B v n, BRow w B v n → BRow w' B v n) ∧ (∀ (q : Nat) (t : TypeId) (cs : Array Value), Blk w q t cs → t ≠ 4 → Blk w' q t cs) ∧ Below lo w w'
theorem Kb.refl (lo : Nat) (w : World) : Kb lo w w := ⟨fun _ _ _ h => h, fun _ _ _ h _ => h, Below.refl _ _⟩
theorem kb_of {lo g : Nat} {w w' : World} {cur cur' : Array Value} (hb : Blk w g 4 cur) (hb' : Blk w' g 4 cur') (hs : cur'.size = cur.size) (hg : w.grownBy w' (some g)) (hc : ∀ j : Nat, cur'[j]? = cur[j]? ∨ ∃ b : Bool, cur'[j]? = some (.bool b)) (hlo : lo ≤ g) (hlw : lo ≤ w.heap.size) : Kb lo w w' := by
  refine ⟨fun B v n h => h.set hb hb' hs hg hc, fun q t cs hq ht => hq.grown hg (fun e => ?_), (Below.refl lo w).grown hg hlw (fun j hj => by cases hj; exact hlo)⟩
  have e : q = g := Option.some.inj e
  subst e
  have h1 : w.heap[q]? = _ := hb
  rw [show w.heap[q]? = _ from hq] at h1
  injection h1 with h1; injection h1 with _ h1
  exact ht h1
theorem kb_flip {lo g j : Nat} {w : World} {cur : Array Value} (hb : Blk w g 4 cur) (b : Bool) (hlo : lo ≤ g) (hlw : lo ≤ w.heap.size) : Kb lo w (w.setCell ⟨g, j, none⟩ (.bool b)) := by
  obtain ⟨h1, h2, h3⟩ := flip_set hb (j := j) b
  exact kb_of hb h1 h2 (grown_set w g j _) h3 hlo hlw
theorem FlX.kb {lo B : Nat} {w w' : World} {va : Nat → Value} {ns : Nat → Nat} (h : FlX w B va ns) (hk : Kb lo w w') : FlX w' B va ns := fun i hi => ⟨hk.1 _ _ _ (h i hi).1, (h i hi).2⟩
theorem CB.kb {lo g : Nat} {w w' : World} {x : Cl} (h : CB w g x) (hk : Kb lo w w') : CB w' g x := hk.2.1 _ _ _ h (by decide)
theorem wpList_copy_kb {P : Program} {w : World} {ops : Array Oper} {rest : List Oper} {o : Oper} {a : Act} {Q : Exit → Act → World → Prop} (lo : Nat) (hgd : o.guard = none) (d s : Operand) (dT sT : TypeId)
    (ho : o.op = .call { callee := .builtin .copy, args := #[d, s], argTypes := #[dT, sT] }) (elem : TypeId) (hu : P.underlying dT = some (.slice elem)) (hsz : (P.info? elem).map (·.size) = some 1)
    (A A' : Option Addr) (n c c' B B' : Nat) (hd : a.eval d = .slice A n c) (hs : a.eval s = .slice A' n c') (hx : BRow w B (.slice A n c) n) (hy : BRow w B' (.slice A' n c') n) (hlo : lo ≤ B) (hlw : lo ≤ w.heap.size)
    (h : ∀ v w', Kb lo w w' → wpList P ops Q rest (a.put o.dst v) w') : wpList P ops Q (o :: rest) a w := by
  rcases Nat.eq_zero_or_pos n with e | e
  · subst e
    exact wpList_copy_nothing hgd d s dT sT ho elem hu hsz A A' 0 c 0 c' hd hs rfl (h _ _ (Kb.refl _ _))
  · obtain ⟨xs, hx⟩ := hx
    obtain ⟨ys, hy⟩ := hy
    obtain ⟨_, hnc, hg⟩ := Sm.own_parts hx
    obtain ⟨g, rfl, hBg, _⟩ := hg e
    obtain ⟨_, _, hg'⟩ := Sm.own_parts hy
    obtain ⟨g', rfl, _, _⟩ := hg' e
    obtain ⟨cur, hb, hcur⟩ := Sm.own_blk hx
    have hyl : (ys.map Value.bool).length = n := by have := hy.1; omega
    have hyb : ys.length = n := by rw [← hyl, List.length_map]
    have hsp := splice_bools (cur := cur) (bs := ys) (by omega)
    refine wpList_copy_own hgd d s dT sT ho elem hu hsz g 0 n c ⟨g', 0, none⟩ n c' hd hs cur _ hb (ys.map Value.bool) (by rw [hyl]; simp) (fun j v hj => (VR.own hy).news _ rfl j v hj) (by rw [hyl]; omega) (bools_one ys) (h _ _ ?_)
    exact kb_of hb (setRow_heap w g _ _ _ _ hb) hsp.1 (grown_setRow _ _ _) hsp.2 (by omega) hlw
def CsRel (wF : World) (gd : Nat) (x : Cl) (ns : Nat → Nat) (kv : Value) (wr : World) : Prop := ∃ k : Nat, kv = .int .i64 k ∧ k ≤ 4 ∧ CB wr gd x ∧ FlX wr wF.heap.size x.va ns ∧ Below wF.heap.size wF wr
def FpRel (wF : World) (gd : Nat) (x : Cl) (ns : Nat → Nat) (B : Nat) (yv : Value) (n : Nat) (jv : Value) (wr : World) : Prop := ∃ j : Nat, jv = .int .i64 j ∧ j ≤ n ∧ CB wr gd x ∧ FlX wr wF.heap.size x.va ns ∧ BRow wr B yv n ∧ Below wF.heap.size wF wr
theorem FpRel.put {wF wr : World} {gd B n g j : Nat} {x : Cl} {ns : Nat → Nat} {yv jv : Value} {cur : Array Value} (hC : CB wr gd x) (hF : FlX wr wF.heap.size x.va ns) (hy : BRow wr B yv n) (hB : Below wF.heap.size wF wr) (hb : Blk wr g 4 cur) (hg : wF.heap.size ≤ g) (b : Bool) (hj : j < n) (hjv : jv = .int .i64 ((j + 1 : Nat) : Int)) :
    FpRel wF gd x ns B yv n jv (wr.setCell ⟨g, j, none⟩ (.bool b)) := by
  have hk : Kb wF.heap.size wr (wr.setCell ⟨g, j, none⟩ (.bool b)) := kb_flip hb b hg hB.size
  exact ⟨j + 1, hjv, hj, hC.kb hk, hF.kb hk, hk.1 _ _ _ hy, hB.trans hk.2.2⟩
theorem begC_ok (t : Tu) (ht : t.In) : ClOk (begC t) := ⟨(GInv.beg 0 t ht).ids, (GInv.beg 0 t ht).ok⟩
theorem range_next {w w' : World} {b o : Nat} {cs : List Value} (h : w.rangeAt b o cs) (hlt : b < w.heap.size) (hb : Below w.heap.size w w') : w'.rangeAt b o cs := fun j v hj => (hb.cell (p := ⟨b, o + j, none⟩) hlt).trans (h j v hj)
theorem infoLieS : (Try.prog.info? 80).map (·.size) = some 3 := by kernel_rfl
theorem infoBoolC : (Try.prog.info? 4).map (fun i => (i.zero, i.size, i.bytes)) = some (some (.bool false), 1, 1) := by kernel_rfl
theorem LmIn.at13 {w1 wr wd we : World} {gi : Nat} {y : InD} {Ls : List Li} {gs cs : Nat → Nat} {v : Value} {i : Nat} (h : LmIn w1 gi y Ls gs cs v i wr) (hbd : Below wr.heap.size wr wd) (hg : wd.grownBy we v.ownBlock) : IB we gi ⟨y.bad, y.rd, v⟩ :=
  Blk.grown (h.1.next hbd) hg (fun e => own_blk_ne (own_below h.2.1 hbd (fun z hz => (h.2.1.lt z hz).2)) (h.1.next hbd) (by decide) e)
theorem LmIn.next {w1 wr W : World} {gi : Nat} {y : InD} {Ls : List Li} {gs cs : Nat → Nat} {v : Value} {i : Nat} (h : LmIn w1 gi y Ls gs cs v i wr) (hb : Below wr.heap.size wr W) : LmIn w1 gi y Ls gs cs v i W :=
  ⟨h.1.next hb, own_below h.2.1 hb (fun z hz => (h.2.1.lt z hz).2), fun j l hj hl => (h.2.2.1 j l hj hl).next hb, h.2.2.2.trans (hb.mono h.2.2.2.size)⟩
theorem LmIn.cell2 {w1 W : World} {gi : Nat} {y : InD} {Ls : List Li} {gs cs : Nat → Nat} {A : Option Addr} {n c k : Nat} {l : Li} (h : LmIn w1 gi y Ls gs cs (.slice A n c) n W) (hl : Ls[k]? = some l) (hk : k < n) (hn : n ≤ Ls.length) :
    ∃ bm om, A = some ⟨bm, om, none⟩ ∧ bm < W.heap.size ∧ W.cell? ⟨bm, om + k * 3 + 2, none⟩ = some (.slice (some ⟨gs k, 0, none⟩) l.n (cs k)) := by
  obtain ⟨bm, om, e, hlt, hc⟩ := (VR.own h.2.1).2.2 (by omega)
  refine ⟨bm, om, e, hlt, ?_⟩
  rw [Nat.add_assoc]
  exact hc _ _ (flatLi_get _ k (rmY l (gs k) (cs k)) 2 (rmLs_get hl n hk hn) (by decide))
theorem FlB.one {w : World} {B : Nat} {va : Nat → Value} {bs : Nat → List Bool} (h : FlB w B va bs) : ∀ i, i < 4 → (va i).oneCell' = true := fun i hi => by
  obtain ⟨A, c, e⟩ := own_shape (h.1 i hi)
  rw [e]; rfl
theorem BRow.shape {w : World} {B n : Nat} {v : Value} (h : BRow w B v n) : ∃ A c, v = .slice A n c := by
  obtain ⟨bs, h⟩ := h
  exact own_shape h
theorem FlX.one {w : World} {B : Nat} {va : Nat → Value} {ns : Nat → Nat} (h : FlX w B va ns) : ∀ i, i < 4 → (va i).oneCell' = true := fun i hi => by
  obtain ⟨A, c, e⟩ := (h i hi).1.shape
  rw [e]; rfl
theorem FlB.below {w w' : World} {B : Nat} {va : Nat → Value} {bs : Nat → List Bool} (h : FlB w B va bs) (hb : Below w.heap.size w w') : FlB w' B va bs := ⟨fun i hi => own_below (h.1 i hi) hb (fun z hz => ((h.1 i hi).lt z hz).2), h.2⟩
theorem bools_at {bs : List Bool} {m j : Nat} (hl : (bs.map Value.bool).length = m * 1) (hj : j < m) : ∃ b, (bs.map Value.bool)[j]? = some (.bool b) := by
  have h : j < bs.length := by rw [List.length_map] at hl; omega
  exact ⟨bs[j], by rw [List.getElem?_map, List.getElem?_eq_getElem h]; rfl⟩
def LkRel (w0 : World) (n : Nat) (kv : Value) (wr : World) : Prop := ∃ k : Nat, kv = .int .i64 k ∧ k ≤ n ∧ Below w0.heap.size w0 wr
theorem LkRel.put {w0 wr : World} {n k : Nat} {kv : Value} (hk : k < n) (h : kv = .int .i64 ((k + 1 : Nat) : Int)) (hb : Below w0.heap.size w0 wr) : LkRel w0 n kv wr := ⟨k + 1, h, hk, hb⟩
def CmRel (w0 : World) (gc m : Nat) (iv : Value) (wr : World) : Prop :=
  ∃ (i : Nat) (x : Cl) (ns : Nat → Nat), iv = .int .i64 i ∧ i ≤ m ∧ i ≤ 6 ∧ CB wr gc x ∧ FlX wr w0.heap.size x.va ns ∧ ClOk x ∧ 0 ≤ x.fr ∧ x.fr ≤ i ∧ Below w0.heap.size w0 wr
end Go.Proofs.Ytofeoeknmlkjgaa.Nk
end
