/- Over merged: FilRun TopFol WTopFollows. -/
import Derived.Test.YtofeoeknmlkjgaaYTopRp
import Derived.Test.YtofeoeknmlkjgaaZ11
import Derived.Test.YtofeoeknmlkjgaaZ26
import Derived.Test.YtofeoeknmlkjgaaZ48
set_option linter.unusedVariables false
set_option linter.unusedSimpArgs false
section
namespace Go.Proofs.Ytofeoeknmlkjgaa.Fi
open Go.RowKit Go.Proofs.Ytofeoeknmlkjgaa Fx
theorem updY_bent (s : St) (z R gate : Int) (h : s.b = true) : (updY s z R gate).b = true := by unfold updY; simp [h]
end Go.Proofs.Ytofeoeknmlkjgaa.Fi
end
section
namespace Go.Proofs.Ytofeoeknmlkjgaa.Fi
open Go.RowKit Go.Proofs.Ytofeoeknmlkjgaa Fx
theorem updS_bent (s : St) (z R gate : Int) (h : s.b = true) : (updS s z R gate).b = true := by
  unfold updS
  split
  · exact updY_bent s z R gate h
  · exact h
end Go.Proofs.Ytofeoeknmlkjgaa.Fi
end
section
namespace Go.Proofs.Ytofeoeknmlkjgaa.Fi
open Go.RowKit Go.Proofs.Ytofeoeknmlkjgaa Fx
theorem predS_bent (s : St) (dt Q : Int) (h : s.b = true) : (predS s dt Q).b = true := by unfold predS; simp [h]

end Go.Proofs.Ytofeoeknmlkjgaa.Fi
end
section
namespace Go.Proofs.Ytofeoeknmlkjgaa.Fi
open Go.RowKit Go.Proofs.Ytofeoeknmlkjgaa Fx
theorem stepS_bent (s : St) (t : Tu) (z : Int) (h : s.b = true) : (stepS s t z).b = true := updS_bent _ _ _ _ (predS_bent s t.dt t.q h)

end Go.Proofs.Ytofeoeknmlkjgaa.Fi
end
section
/- filter.Run; filter answers. -/
set_option linter.unusedVariables false
namespace Go.Proofs.Ytofeoeknmlkjgaa.Fi
open Go.RowKit Go.Proofs.Ytofeoeknmlkjgaa Fx
attribute [local go_sem ↓] Go.wp_at_zero Go.wp_at_succ

def run1 (t : Tu) (a : St × Nat) (z : Int) : St × Nat := (stepS a.1 t z, if stepOk a.1 t z = true then a.2 + 1 else a.2)
def runA (t : Tu) (a : St × Nat) (zs : List Int) : St × Nat := zs.foldl (run1 t) a
theorem runA_append (t : Tu) (a : St × Nat) (xs ys : List Int) : runA t a (xs ++ ys) = runA t (runA t a xs) ys := by unfold runA; rw [List.foldl_append]
theorem runA_snoc (t : Tu) (a : St × Nat) (xs : List Int) (z : Int) : runA t a (xs ++ [z]) = run1 t (runA t a xs) z := by rw [runA_append]; rfl
theorem runA_in (t : Tu) (zs : List Int) : ∀ a : St × Nat, a.1.In → (runA t a zs).1.In := by
  unfold runA
  induction zs with
  | nil => intro a h; exact h
  | cons z zs ih => intro a h; exact ih _ (stepS_in _ _ _ h)
theorem runA_bent (t : Tu) (zs : List Int) : ∀ a : St × Nat, a.1.b = true → (runA t a zs).1.b = true := by
  unfold runA
  induction zs with
  | nil => intro a h; exact h
  | cons z zs ih => intro a h; exact ih _ (stepS_bent _ _ _ h)
theorem runA_count (t : Tu) (zs : List Int) : ∀ (s : St) (k : Nat), runA t (s, k) zs = ((runA t (s, 0) zs).1, k + (runA t (s, 0) zs).2) := by
  unfold runA
  induction zs with
  | nil => intro s k; simp
  | cons z zs ih =>
    intro s k
    simp only [List.foldl_cons, run1]
    split
    · rw [ih, ih _ (0 + 1)]; simp only [Prod.mk.injEq, true_and]; omega
    · rw [ih]
theorem runA_le (t : Tu) (zs : List Int) (s : St) : (runA t (s, 0) zs).2 ≤ zs.length := by
  induction zs generalizing s with
  | nil => exact Nat.le_refl _
  | cons z zs ih =>
    have h : runA t (s, 0) (z :: zs) = runA t (run1 t (s, 0) z) zs := rfl
    rw [h]
    unfold run1
    have := ih (stepS s t z)
    split
    · rw [runA_count]; simp only [List.length_cons]; omega
    · simp only [List.length_cons]; omega
theorem take_snoc {zs : List Int} {j : Nat} (h : j < zs.length) : zs.take (j + 1) = zs.take j ++ [zs.getD j 0] := by
  rw [List.take_succ_eq_append_getElem h, List.getD, List.getElem?_eq_getElem h]; rfl

theorem run_results {W : World} {g : Nat} {s : St} (h : SB W g s) (e : Value) (tmps : Array Value) (h2 : tmps.getD 6 undef = .pointer (some ⟨g, 0, none⟩)) (h3 : tmps.getD 7 undef = e) :
    (results Try.f29 tmps).run Try.prog W = .ok (.tuple #[s.val, e]) W := by
  have h2' : tmps[6]?.getD undef = .pointer (some ⟨g, 0, none⟩) := by simpa using h2
  have h3' : tmps[7]?.getD undef = e := by simpa using h3
  simp [results, Try.results29, h2', h3', asAddr, run_loadVar_row (P := Try.prog) W g _ 33 _ (0, 0) _ h Try.underlying33 rfl (by kernel_rfl)]
  rfl

theorem SF.lay0 {w0 W : World} {s z : St} {t : Tu} (h : SF w0 W s t z) (u : St) : SF w0 (set7 W w0.heap.size u) u t z := ⟨sb_set7 h.1 u, far7 h.2.1 (by omega) u, sb_far7 h.2.2.1 (by omega) u, below7 h.2.2.2 (Nat.le_refl _) u⟩
def z0 : St := ⟨0, 0, 0, 0, 0, false, 0⟩
def RRel (w0 : World) (s : St) (t : Tu) (zs : List Int) (n : Nat) (cv iv : Value) (W : World) : Prop :=
  ∃ j : Nat, j ≤ n ∧ iv = .int .i64 j ∧ cv = .int .i64 ((runA t (s, 0) (zs.take j)).2 : Nat) ∧ SF w0 W (runA t (s, 0) (zs.take j)).1 t z0

set_option maxRecDepth 100000 in
set_option maxHeartbeats 2000000 in
theorem Run_any (s : St) (t : Tu) (A : Option Addr) (n c : Nat) (zs : List Int) (hs : s.In) (ht : t.In) (w : World) (hI : Ints w .i64 A n zs) (hz : ∀ z ∈ zs, Fx.In z) (hn : n ≤ 140737488355328) :
    Calls Try.prog 29 #[s.val, t.val, .slice A n c] w fun e w' => e = .returned (.tuple #[(runA t (s, 0) zs).1.val, .int .i64 ((runA t (s, 0) zs).2 : Nat)]) ∧ Below w.heap.size w w' := by
  obtain ⟨hzl, hI2⟩ := hI
  have ks := fun u z (hu : u.In) (hz : Fx.In z) W => Step_any u t z hu ht hz W
  have KS := Lib.hid ks
  have hF : SF w (((w.alloc (.cells #[.int .i64 s.x, .int .i64 s.v, .int .i64 s.p, .int .i64 s.q, .int .i64 s.r, .bool s.b, .int .i64 s.m] 33)).alloc (.cells #[.int .i64 t.dt, .int .i64 t.q, .int .i64 t.r, .int .i64 t.g] 23)).alloc (.cells #[.int .i64 0, .int .i64 0, .int .i64 0, .int .i64 0, .int .i64 0, .bool false, .int .i64 0] 33)) s t z0 :=
    ⟨((Blk.new _ _ _).alloc _).alloc _, (Blk.at_ _ _ _ _ (by simp)).alloc _, Blk.at_ _ _ _ _ (by simp), (((Below.refl _ _).alloc (Nat.le_refl _) _).alloc (by simp) _).alloc (by simp; omega) _⟩
  have HF := Lib.hid hF
  have HI := Lib.hid hI2
  have HZ := Lib.hid hz
  have HL := Lib.hid hzl
  have HIN := Lib.hid (fun j => runA_in t (zs.take j) (s, 0) hs)
  have HLE := Lib.hid (fun j => Nat.le_trans (runA_le t (zs.take j) s) (List.length_take_le _ _))
  clear hF ks hs ht hI2 hz hzl
  unfold St.val Tu.val
  go_enter Try.func29, Try.ntmps29
  go_wp2_with fail
  go_loopw [8, 14] (fun c i wr => RRel w s t zs n c i wr) (fun _ i _ => n - (intOf i).toNat)
  case atStart => exact ⟨0, by omega, rfl, rfl, HF.out⟩
  case round =>
    obtain ⟨j, hj, rfl, rfl, hF⟩ := hrel
    have hin := HIN.out j
    have hle := HLE.out j
    by_cases hjn : j < n
    · obtain ⟨b, off, rfl, hlt, hc⟩ := HI.out (by omega)
      have d0 := (hF.2.2.2.cell (p := ⟨b, off + j, none⟩) hlt).trans (hc j hjn)
      have hsn := take_snoc (zs := zs) (j := j) (by have := HL.out; omega)
      have iz : Fx.In (zs.getD j 0) := by
        have hl := HL.out
        simp only [List.getD, List.getElem?_eq_getElem (show j < zs.length by omega), Option.getD_some]; exact HZ.out _ (List.getElem_mem _)
      have hnext : runA t (s, 0) (zs.take (j + 1)) = run1 t (runA t (s, 0) (zs.take j)) (zs.getD j 0) := by rw [hsn, runA_snoc]
      unfold run1 at hnext
      generalize zs.getD j 0 = z at *
      generalize runA t (s, 0) (zs.take j) = a at *
      obtain ⟨u, k⟩ := a
      simp only at hF hnext hin hle ⊢
      have k1 := fun W => KS.out u z hin iz W
      have HN := Lib.hid hnext
      generalize hu1 : stepS u t z = u1 at *
      generalize hok : stepOk u t z = ok at *
      unfold St.val Tu.val at k1
      have K1 := Lib.hid k1
      have HU := Lib.hid hu1
      obtain ⟨c0, c1, c2, c3, c4, c5, c6, c7, c8, c9, c10⟩ := hF.all
      have HF1 := Lib.hid hF
      have hz1 : (0 : Int) ≤ (j : Int) := by omega
      have hz2 : (j : Int) < (n : Int) := by omega
      clear hsn hnext k1 hF hc iz hu1 hin HF
      go_wp2_with fail
      refine (K1.out _).mono ?_
      rintro e w1 ⟨rfl, hB1⟩
      have hF2 := HF1.out.next hB1
      clear HF1 hB1 c0 c1 c2 c3 c4 c5 c6 c7 c8 c9 c10 d0
      obtain ⟨y0, y1, y2, y3, y4, y5, y6⟩ := hF2.1.c
      obtain ⟨f0, f1, f2, f3, f4, f5, f6⟩ := hF2.1.frz
      have hF3 := hF2.lay0 u1
      unfold set7 at hF3
      have HF3 := Lib.hid hF3
      clear hF2 hF3
      cases ok
      · go_wp2_with fail
        go_roundw
        case rel => exact ⟨j + 1, by omega, by go_num, by rw [HN.out]; rfl, by rw [HN.out]; exact HF3.out⟩
        case measure => simp [intOf]; omega
      · go_wp2_with fail
        go_roundw
        case rel => exact ⟨j + 1, by omega, by go_num, by rw [HN.out]; exact (by go_num : Value.int .i64 ((k : Int) + 1) = .int .i64 ((k + 1 : Nat) : Int)), by rw [HN.out]; exact HF3.out⟩
        case measure => simp [intOf]; omega
    · obtain rfl : n = j := by omega
      have hall : zs.take n = zs := List.take_of_length_le (by have := HL.out; omega)
      rw [hall] at hF hin hle ⊢
      generalize hres : runA t (s, 0) zs = a at hF hin hle ⊢
      obtain ⟨u, k⟩ := a
      have HRS := Lib.hid hres
      clear hres
      simp only at hF hle ⊢
      obtain ⟨c0, c1, c2, c3, c4, c5, c6, -, -, -, -⟩ := hF.all
      obtain ⟨y0, y1, y2, y3, y4, y5, y6⟩ := hF.2.2.1.c
      obtain ⟨f0, f1, f2, f3, f4, f5, f6⟩ := hF.2.2.1.frz
      have hF3 := hF.lay u
      unfold set7 at hF3
      have HF3 := Lib.hid hF3
      clear hF hF3
      go_wp2_with fail
      exact bodyPost_ret (v := .tuple #[u.val, .int .i64 (k : Nat)]) (run_results HF3.out.2.2.1 _ _ rfl rfl) rfl ⟨by rw [HRS.out]; rfl, HF3.out.2.2.2⟩

theorem follow_test : updOk (begS 0) 4294967296 4294967296 429496729600 = true ∧ (updS (begS 0) 4294967296 4294967296 429496729600).x = 2147483648 := ⟨by kernel_rfl, by kernel_rfl⟩
end Go.Proofs.Ytofeoeknmlkjgaa.Fi
end
section
/- Each axis of a good computer is what one filter makes of the used readings (plain). -/
set_option linter.unusedVariables false
namespace Go.Proofs.Ytofeoeknmlkjgaa.Nk
open Go.RowKit Go.Proofs.Ytofeoeknmlkjgaa Mb Fi Sm

theorem ly_in (l : Li) (m : Pm) (h : l.ly.m = some m) : ∀ v ∈ m.vs, In64 v := by
  have h2 : msgOf l.zs = some m := h
  unfold msgOf at h2
  split at h2
  · rename_i hx
    injection h2 with h2
    subst h2
    exact hx.choose_spec.2.1
  · cases h2
theorem lieL_in (bad : Int) (k tt : Nat) (Ls : List Li) : MsIn (lieL bad k tt (Ls.map Li.ly)) := by
  intro x hx
  unfold lieL at hx
  rw [List.mem_filterMap] at hx
  obtain ⟨l, hl, hx⟩ := hx
  obtain ⟨q, _, rfl⟩ := List.mem_map.1 hl
  unfold lyM at hx
  split at hx
  · rw [Option.filter_eq_some_iff] at hx
    exact ly_in q x hx.1
  · cases hx
theorem boxF_in {bad : Int} {lie : List Pm} {m : Nat → Pm} {tt : Nat} (hl : MsIn lie) : ∀ n : Nat, (∀ i : Nat, i < n → ¬ (i : Int) = bad → ∀ v ∈ (m i).vs, In64 v) → MsIn (boxF bad lie m tt n)
  | 0, _ => fun x hx => by cases hx
  | n + 1, h => fun x hx => by
    unfold boxF at hx
    rcases List.mem_append.1 hx with hx | hx
    · exact boxF_in hl n (fun i hi => h i (by omega)) x hx
    · split at hx
      · exact hl x hx
      · rename_i hb
        split at hx
        · cases hx
        · rw [List.mem_singleton] at hx
          subst hx
          exact h n (Nat.lt_succ_self n) hb
theorem dirL_in {di : Nat → Int} (h : ∀ j, In64 (di j)) : ∀ n, ∀ v ∈ dirL di n, In64 v := by
  intro n v hv
  unfold dirL at hv
  obtain ⟨j, _, rfl⟩ := List.mem_map.1 hv
  exact h j
section
variable {X : Fr} {N N' : Nat → Nd} {Ls : List Li}
theorem B1_in (hL : X.Ls = Ls.map Li.ly) (hr : ∀ k, k < 12 → In64 (X.rd k)) (p : Nat) : MsIn (B1 X p) := by
  unfold B1
  rw [hL]
  refine boxF_in (lieL_in _ _ _ _) 4 fun i hi hb v hv => ?_
  simp only [M1, List.mem_cons, List.not_mem_nil, or_false] at hv
  rcases hv with rfl | rfl | rfl
  · exact hr _ (by omega)
  · exact hr _ (by omega)
  · exact hr _ (by omega)
theorem B2_in (hL : X.Ls = Ls.map Li.ly) (hr : ∀ k, k < 12 → In64 (X.rd k)) (p : Nat) : MsIn (B2 X N p) := by
  unfold B2
  rw [hL]
  refine boxF_in (lieL_in _ _ _ _) 4 fun i hi hb v hv => ?_
  exact dirL_in (fun j => N2_di_in hb hi hr (B1_in hL hr i) j) 12 v hv
theorem GInv.us_in (h : GInv X.bad N) (hr : ∀ i, i < 4 → ClRel X N i (N' i)) (hL : X.Ls = Ls.map Li.ly) (hd : ∀ k, k < 12 → In64 (X.rd k)) {p a : Nat} (hp : p < 4) (hb : ¬ (p : Int) = X.bad) (ha : a < 3) : Fx.In ((N' p).us a) := by
  rw [h.used hr hp hb ha]
  refine fuseF_in _ a ha fun j hj => ?_
  rw [N3_good hb]
  show In64 (if j < 12 then aF (N2 X N p) (decH (N2 X N p) (B2 X N p)) p j else (N2 X N p).ag j)
  rw [if_pos hj]
  exact aF_in (B2_in hL hd p) (fun j => N2_di_in hb hp hd (B1_in hL hd p) j) p j
end
def usL (C : Nat → Cl) (p a k : Nat) : List Int := (List.range k).map fun j => ((C (j + 1)).N p).us a
theorem usL_succ (C : Nat → Cl) (p a k : Nat) : usL C p a (k + 1) = usL C p a k ++ [((C (k + 1)).N p).us a] := by unfold usL; rw [List.range_succ, List.map_append]; rfl
theorem usL_len (C : Nat → Cl) (p a k : Nat) : (usL C p a k).length = k := by unfold usL; simp
theorem chain_ax {bad : Int} {t : Tu} (ht : t.In) {L : List Inp} {C : Nat → Cl} {n : Nat} (hn : n ≤ L.length) (hbad : ∀ u ∈ L, u.bad = bad) (h0 : C 0 = begC t) (hF : ∀ k u, k < n → L[k]? = some u → FrameR u (C k) (C (k + 1))) {p a : Nat} (hp : p < 4) (hpb : ¬ (p : Int) = bad) (ha : a < 3) :
    ∀ k, k ≤ n → ((C k).N p).ax a = (runA t (begS 0, 0) (usL C p a k)).1 ∧ ((C k).N p).tu = t
  | 0, _ => by
    rw [h0]
    have hn : (begC t).N p = begN p t := if_pos hp
    rw [hn]
    exact ⟨if_pos ha, rfl⟩
  | k + 1, hk => by
    have hL : k < L.length := by omega
    have hu : L[k]? = some L[k] := List.getElem?_eq_getElem hL
    obtain ⟨hg, hc, hb, _⟩ := chain_at ht hn hbad h0 hF (by omega : k < n) hu
    obtain ⟨e1, e2⟩ := chain_ax ht hn hbad h0 hF hp hpb ha k (by omega)
    obtain ⟨q1, q2⟩ := hg.axis hc hp (by rw [hb]; exact hpb) ha
    rw [q1, q2, e1, e2, usL_succ, runA_snoc]
    exact ⟨rfl, rfl⟩
theorem usL_in {bad : Int} {t : Tu} (ht : t.In) {L : List Inp} {C : Nat → Cl} {n : Nat} (hn : n ≤ L.length) (hbad : ∀ u ∈ L, u.bad = bad) (hok : ∀ u ∈ L, ∀ k, k < 12 → In64 (u.rd k)) (h0 : C 0 = begC t) (hF : ∀ k u, k < n → L[k]? = some u → FrameR u (C k) (C (k + 1))) {p a : Nat} (hp : p < 4) (hpb : ¬ (p : Int) = bad) (ha : a < 3)
    {k : Nat} (hk : k ≤ n) : ∀ z ∈ usL C p a k, Fx.In z := by
  intro z hz
  unfold usL at hz
  obtain ⟨j, hj, rfl⟩ := List.mem_map.1 hz
  rw [List.mem_range] at hj
  have hL : j < L.length := by omega
  obtain ⟨hg, hc, hb, hrd⟩ := chain_at ht hn hbad h0 hF (by omega : j < n) (List.getElem?_eq_getElem hL)
  exact hg.us_in hc (Ls := (L[j]).Ls) rfl (by rw [hrd]; exact hok _ (List.getElem_mem hL)) hp (by rw [hb]; exact hpb) ha
theorem CB.axR {W : World} {g p a : Nat} {x : Cl} (h : CB W g x) (hp : p < 4) (ha : a < 3) : W.rangeAt g (1 + p * 74 + 6 + a * 7) (stL ((x.N p).ax a)) := by
  intro j v hj
  have hlt : j < 7 := (List.getElem?_eq_some_iff.1 hj).1
  rw [show 1 + p * 74 + 6 + a * 7 + j = 1 + p * 74 + (6 + a * 7 + j) by omega, h.nd hp (by omega), c_ax (by omega) (by omega), show (6 + a * 7 + j - 6) / 7 = a by omega, show (6 + a * 7 + j - 6) % 7 = j by omega, ← hj]
  have : j = 0 ∨ j = 1 ∨ j = 2 ∨ j = 3 ∨ j = 4 ∨ j = 5 ∨ j = 6 := by omega
  rcases this with rfl | rfl | rfl | rfl | rfl | rfl | rfl <;> rfl
theorem clus_ax {W : World} {b off k p a : Nat} {x : Cl} (h : W.rangeAt b (off + k * 297) (CA x).toList) (hp : p < 4) (ha : a < 3) : W.rangeAt b (off + k * 297 + 1 + p * 74 + 6 + a * 7) (stL ((x.N p).ax a)) := by
  intro j v hj
  have hlt : j < 7 := (List.getElem?_eq_some_iff.1 hj).1
  have e := h (1 + p * 74 + 6 + a * 7 + j) (x.c (1 + p * 74 + 6 + a * 7 + j)) (by rw [Array.getElem?_toList]; unfold CA; rw [AN_get (by omega)])
  rw [show off + k * 297 + 1 + p * 74 + 6 + a * 7 + j = off + k * 297 + (1 + p * 74 + 6 + a * 7 + j) by omega, e, show 1 + p * 74 + 6 + a * 7 + j = 1 + p * 74 + (6 + a * 7 + j) by omega, Cl.c_node x hp (by omega), c_ax (by omega) (by omega), show (6 + a * 7 + j - 6) / 7 = a by omega, show (6 + a * 7 + j - 6) % 7 = j by omega, ← hj]
  have : j = 0 ∨ j = 1 ∨ j = 2 ∨ j = 3 ∨ j = 4 ∨ j = 5 ∨ j = 6 := by omega
  rcases this with rfl | rfl | rfl | rfl | rfl | rfl | rfl <;> rfl
theorem sb_range {W : World} {q : Nat} {s : St} (h : Fi.SB W q s) : W.rangeAt q 0 (stL s) := by
  intro j v hj
  have hlt : j < 7 := (List.getElem?_eq_some_iff.1 hj).1
  have : j = 0 ∨ j = 1 ∨ j = 2 ∨ j = 3 ∨ j = 4 ∨ j = 5 ∨ j = 6 := by omega
  rcases this with rfl | rfl | rfl | rfl | rfl | rfl | rfl <;> (rw [Nat.zero_add, ← hj]; exact Blk.cell h _)
theorem st_one (s : St) : (#[.int .i64 s.x, .int .i64 s.v, .int .i64 s.p, .int .i64 s.q, .int .i64 s.r, .bool s.b, .int .i64 s.m] : Array Value).all (·.oneCell') = true := by simp [Value.oneCell']
def FoCut (w5 : World) (s : St) (sv wx : Value) (w : World) : Prop := ∃ q, sv = .pointer (some ⟨q, 0, none⟩) ∧ Fi.SB w q s ∧ Below w5.heap.size w5 w
theorem eqSt (s : St) (w : World) : (Op.equalIn 10000 33 (.agg (stL s).toArray) (.agg (stL s).toArray)).run Try.prog w = .ok true w := eql_self (by kernel_rfl) (by kernel_rfl) w
end Go.Proofs.Ytofeoeknmlkjgaa.Nk
end
section
/- The walk of TopFollows. -/
set_option linter.unusedVariables false
namespace Go.Proofs.Ytofeoeknmlkjgaa.Nk
open Go.RowKit Go.Proofs.Ytofeoeknmlkjgaa Mb Fi Sm
set_option maxRecDepth 100000 in
set_option maxHeartbeats 4000000 in
theorem topfollows_walk (t : Tu) (ht : t.In) (A : Option Addr) (m c : Nat) (L : List Inp) (b0 : Int) (w : World) (h : IR w A m c L) (hm : m ≤ 17592186044416) :
    Calls Try.prog 9 #[t.val, .slice A m c, .int .i64 b0] w fun e w' => e = .returned (.bool true) ∧ Below w.heap.size w w' := by
  have ks := fun W => tspot_any b0 5 W (by decide) (by decide)
  have KS := Lib.hid ks
  have h0 := Int.emod_nonneg b0 (b := 5) (by decide)
  have h5 := Int.emod_lt_of_pos b0 (b := 5) (by decide)
  have hT0 : TB (w.alloc (.cells #[.int .i64 t.dt, .int .i64 t.q, .int .i64 t.r, .int .i64 t.g] 23)) w.heap.size t := Blk.new _ _ _
  have HT0 := Lib.hid hT0
  have hB0 : Below w.heap.size w (w.alloc (.cells #[.int .i64 t.dt, .int .i64 t.q, .int .i64 t.r, .int .i64 t.g] 23)) := (Below.refl _ _).alloc (Nat.le_refl _) _
  have HI := Lib.hid (h.next hB0)
  have HB0 := Lib.hid hB0
  have HT := Lib.hid ht
  have hlm := h.1
  clear ks hT0 h ht hB0
  unfold Tu.val
  go_enter Try.func9, Try.ntmps9
  go_upto_region 2 with (first
    | (go_at_call 10; (with_reducible refine (KS.out _).mono ?_); rintro e w1 ⟨rfl, rfl⟩))
  obtain ⟨bad, hbd⟩ : ∃ bad, b0 % 5 - 1 = bad := ⟨_, rfl⟩
  rw [hbd]
  have hb1 : -1 ≤ bad := by omega
  have hb2 : bad < 4 := by omega
  have HBD := Lib.hid hbd
  clear hbd h0 h5 KS
  obtain ⟨w1, hw1⟩ : ∃ w1, w.alloc (.cells #[.int .i64 t.dt, .int .i64 t.q, .int .i64 t.r, .int .i64 t.g] 23) = w1 := ⟨_, rfl⟩
  rw [hw1] at HT0 HI HB0 ⊢
  clear hw1
  have ka := fun W => alive_any W
  have KA := Lib.hid ka
  clear ka
  have KO := Lib.hid (fun W (hb : Below w1.heap.size w1 W) => one_any A m c L bad W (HI.out.next hb) hm)
  have KB : Hid (∀ (W : World) (A1 : Option Addr) (n c1 : Nat), IR W A1 n c1 (oneL bad L n) → n ≤ 200 → Calls Try.prog 12 #[.agg #[.int .i64 t.dt, .int .i64 t.q, .int .i64 t.r, .int .i64 t.g], .slice A1 n c1] W _) := Lib.hid (fun W A1 n c1 hir hn => behind_any t HT.out bad hb1 hb2 A1 n c1 (oneL bad L n) W hir hn oneL_bad oneL_400)
  have SK := Lib.hid (fun W (hb : Below w1.heap.size w1 W) => (TB.c (Blk.next HT0.out hb) : (W.cell? ⟨w.heap.size, 0, none⟩ = some (.int .i64 t.dt) ∧ W.cell? ⟨w.heap.size, 1, none⟩ = some (.int .i64 t.q) ∧ W.cell? ⟨w.heap.size, 2, none⟩ = some (.int .i64 t.r) ∧ W.cell? ⟨w.heap.size, 3, none⟩ = some (.int .i64 t.g))))
  go_region_held3 (fun w' => w'.cell? ⟨w.heap.size, 0, none⟩ = some (.int .i64 t.dt) ∧ w'.cell? ⟨w.heap.size, 1, none⟩ = some (.int .i64 t.q) ∧ w'.cell? ⟨w.heap.size, 2, none⟩ = some (.int .i64 t.r) ∧ w'.cell? ⟨w.heap.size, 3, none⟩ = some (.int .i64 t.g)) (first | with_reducible exact SK.out _ (Below.refl _ _).drew | with_reducible exact SK.out _ hBx | with_reducible exact SK.out _ hBy) (first
    | (go_at_call 11; (with_reducible refine (KO.out _ (Below.refl _ _).drew).mono ?_); rintro e w2 ⟨v, n, rfl, hn, hO2, hB2⟩; obtain ⟨A1, c1, rfl⟩ := own_shape hO2; have hBx := (Below.refl w1.heap.size w1).drew.trans (hB2.mono (Nat.le_refl _)); have hnl : n ≤ L.length := (by rw [hn]; exact Nat.min_le_left _ _); have hn2 : n ≤ 200 := (by rw [hn]; exact Nat.min_le_right _ _); have HIR := Lib.hid (oneL_ir hnl hO2 (fun u hu => ((HI.out.2.2 u hu).next hBx))); clear hn hO2 hB2)
    | (go_at_call 12; (with_reducible refine (KB.out _ _ _ _ HIR.out hn2).mono ?_); rintro e w3 ⟨av, ov, q7, rfl, hR3⟩; have hBy := hBx.trans (hR3.below.mono hBx.size); have HR3 := Lib.hid hR3; clear hR3))
  go_upto_region 5 with (first
    | (go_at_call 13; (with_reducible refine (KA.out _).mono ?_); rintro e w4 ⟨rfl, hB4⟩; have HB4 := Lib.hid hB4; clear hB4)
    | go_big_skip)
  obtain ⟨i, C, R, bs, hi, hin, hC0, hF, hFr, hG, hCB, hAg, hbs, hAv, hOv, hRv, hB⟩ := HR3.out
  have hll : (oneL bad L n).length = n := HIR.out.1
  have HLL := Lib.hid hll
  rw [hll] at hi hin
  clear hll
  obtain rfl : i = n := by injection hi with _ h; exact (Int.ofNat.inj h).symm
  obtain ⟨Aa, ca, rfl⟩ := own_shape hAv
  obtain ⟨Ao, co, rfl⟩ := own_shape hOv
  have HVA := Lib.hid (VR.own (own_below hAv HB4.out (fun z hz => (hAv.lt z hz).2)))
  have HVO := Lib.hid (VR.own (own_below hOv HB4.out (fun z hz => (hOv.lt z hz).2)))
  have HRP := Lib.hid (fun k (hk : k < i) => rep_row (own_below (hRv k hk) HB4.out (fun z hz => ((hRv k hk).lt z hz).2)) hb1 hb2)
  have HIR4 := Lib.hid (HIR.out.next (hB.trans (HB4.out.mono hB.size)))
  have HCH := Lib.hid (fun k (hk : k < i) u (hu : (oneL bad L i)[k]? = some u) => chain_at HT.out (by rw [HLL.out]; exact Nat.le_refl _) oneL_bad hC0 (fun k u hk hu => hF k u hk hu) hk hu)
  have HIV := Lib.hid (fun k (hk : k ≤ i) => chain_inv HT.out (by rw [HLL.out]; exact Nat.le_refl _) oneL_bad hC0 (fun k u hk hu => hF k u hk hu) k hk)
  have HFR := Lib.hid hFr
  have HBW := Lib.hid (((HB0.out.trans (hBy.mono HB0.out.size))).trans (HB4.out.mono (by have := HB0.out.size; have := hBy.size; omega)))
  have HB14 := Lib.hid (hBy.trans (HB4.out.mono hBy.size))
  have hn0 : 0 < repsN bad 4 := by rw [repsN_four hb1 hb2]; split <;> omega
  obtain ⟨hp0, hp0b, _⟩ := reps_at bad (C 0).N 4 0 hn0
  have HIRok := Lib.hid (fun u (hu : u ∈ oneL bad L i) => (HIR.out.2.2 u hu).2.2)
  have HAX := Lib.hid (fun a (ha : a < 3) k (hk : k ≤ i) => (chain_ax HT.out (by rw [HLL.out]; exact Nat.le_refl _) oneL_bad hC0 (fun k u hk hu => hF k u hk hu) hp0 hp0b ha k hk).1)
  have HUI := Lib.hid (fun a (ha : a < 3) k (hk : k ≤ i) => usL_in HT.out (by rw [HLL.out]; exact Nat.le_refl _) oneL_bad HIRok.out hC0 (fun k u hk hu => hF k u hk hu) hp0 hp0b ha hk)
  clear hi hin hC0 hF hFr hG hCB hAg hbs hAv hOv hRv hB HR3 HB4 HB0 HI KO KA KB SK hnl hBx hBy HIRok
  have HN0 := Lib.hid hn0
  clear hn0
  have KBG := Lib.hid (fun W => Begin_any 0 W)
  have KR : Hid (∀ (zs : List Int) (A : Option Addr) (n c : Nat) (W : World), Ints W .i64 A n zs → (∀ z ∈ zs, Fx.In z) → n ≤ 200 → Calls Try.prog 29 #[(begS 0).val, .agg #[.int .i64 t.dt, .int .i64 t.q, .int .i64 t.r, .int .i64 t.g], .slice A n c] W _) := Lib.hid (fun zs A n c W hI hz hn => Run_any (begS 0) t A n c zs (begS_in (by unfold Fx.In; omega)) HT.out W hI hz (by omega))
  obtain ⟨i0, hi0, hz0, hz1, hz2⟩ := info_parts infoInt4
  generalize hpe : repP bad 4 0 = p0 at *
  have HPE := Lib.hid hpe
  clear hpe
  go_upto_region 6 with fail
  go_loopw [10] (fun av wr => ∃ a : Nat, av = .int .i64 a ∧ a ≤ 3 ∧ Below w4.heap.size w4 wr) (fun av _ => 3 - (intOf av).toNat)
  case atStart => exact ⟨0, rfl, Nat.zero_le _, Below.refl _ _⟩
  case round =>
    obtain ⟨a, rfl, ha, hB⟩ := hrel
    have HBa := Lib.hid hB
    clear hB
    by_cases ha3 : a < 3
    · have q0 : (a : Int) < 3 := by omega
      have qa : (0 : Int) ≤ (a : Int) := by omega
      have HAXa := Lib.hid (fun k (hk : k ≤ i) => HAX.out a ha3 k hk)
      have HUIa := Lib.hid (fun k (hk : k ≤ i) => HUI.out a ha3 k hk)
      go_upto_region 10 with fail
      go_loopw [11, 39] (fun uv kv wt => ∃ k : Nat, kv = .int .i64 k ∧ k ≤ i ∧ wt.ownsRow w4.heap.size 3 1 uv k ((usL C p0 a k).map (.int .i64)) ∧ Below w4.heap.size w4 wt) (fun _ kv _ => i - (intOf kv).toNat)
      case atStart => exact ⟨0, rfl, Nat.zero_le _, World.ownsRow_nil _ _ _ _, HBa.out⟩
      case round =>
        obtain ⟨k, rfl, hk, hO, hB⟩ := hrel
        obtain ⟨Au, cu, rfl⟩ := own_shape hO
        have HO := Lib.hid hO
        have HBk := Lib.hid hB
        clear hO hB
        by_cases hki : k < i
        · have q1 : (k : Int) < (i : Int) := by omega
          have qq : (0 : Int) ≤ (k : Int) := by omega
          obtain ⟨b, off, rfl, hlt, hra⟩ := clus_at HVA.out hki
          obtain ⟨bo, oo, rfl, hlto, hro⟩ := reps_row HVO.out hki
          obtain ⟨br, or_, cr, hrp⟩ := HRP.out k hki
          have hrr := hrp.1
          rw [hrr] at hro
          have HRO := Lib.hid (fun W (h : Below w4.heap.size w4 W) => (show W.cell? ⟨bo, oo + k, none⟩ = _ from (h.cell (p := ⟨bo, oo + k, none⟩) hlto).trans hro))
          have HRR := Lib.hid (fun W (h : Below w4.heap.size w4 W) => hrp.next h)
          have HRA := Lib.hid (fun W (h : Below w4.heap.size w4 W) => below_range h hlt hra)
          have hid := (HIV.out (k + 1) hki).ids p0 hp0
          have e1 := HAXa.out (k + 1) hki
          have ez := HUIa.out (k + 1) hki
          rw [usL_succ] at e1 ez
          have RC := fun W (h : Below w4.heap.size w4 W) f v (hf : (repC ((C (k + 1)).N p0)).toList[f]? = some v) => (HRR.out W h).cell (j := 0) (f := f) HN0.out (by rw [HPE.out]; exact hf)
          have HRC := Lib.hid RC
          have HUS := Lib.hid (fun W (h : Below w4.heap.size w4 W) => (show W.cell? ⟨br, or_ + 2 + a, none⟩ = some (.int .i64 (((C (k + 1)).N p0).us a)) from by have e := HRC.out W h (2 + a) _ (repC_us _ ha3); rw [show or_ + 2 + a = or_ + 0 * 14 + (2 + a) by omega]; exact e))
          have HPL := Lib.hid (fun W (h : Below w4.heap.size w4 W) => (show W.cell? ⟨br, or_ + 5 + a, none⟩ = some (.int .i64 (((C (k + 1)).N p0).ax a).x) from by have e := HRC.out W h (5 + a) _ (repC_pl _ ha3); rw [show or_ + 5 + a = or_ + 0 * 14 + (5 + a) by omega]; exact e))
          have HID := Lib.hid (fun W (h : Below w4.heap.size w4 W) => (show W.cell? ⟨br, or_, none⟩ = some (.int .i64 (p0 : Int)) from by have e := HRC.out W h 0 _ rfl; rw [hid] at e; rw [show or_ = or_ + 0 * 14 + 0 by omega]; exact e))
          have HAL := Lib.hid (fun W (h : Below w4.heap.size w4 W) => clus_ax (HRA.out W h) hp0 ha3)
          have hsu : usL C p0 a (k + 1) = usL C p0 a k ++ [((C (k + 1)).N p0).us a] := usL_succ C p0 a k
          have HSU := Lib.hid hsu
          clear RC hid hrp hrr hro hra hsu HRC HRR HRA
          generalize hst : ((C (k + 1)).N p0).ax a = st at *
          generalize ((C (k + 1)).N p0).us a = z at *
          have KRk : Hid (∀ (A : Option Addr) (c : Nat) (W : World), Ints W .i64 A (k + 1) (usL C p0 a k ++ [z]) → Calls Try.prog 29 #[(begS 0).val, .agg #[.int .i64 t.dt, .int .i64 t.q, .int .i64 t.r, .int .i64 t.g], .slice A (k + 1) c] W fun e w' => ∃ n : Int, e = .returned (.tuple #[st.val, .int .i64 n]) ∧ Below W.heap.size W w') := Lib.hid (fun A c W hI => (KR.out _ A (k + 1) c W hI ez (by omega)).mono fun e w' ⟨h1, h2⟩ => ⟨(((runA t (begS 0, 0) (usL C p0 a k ++ [z])).2 : Nat) : Int), (by rw [h1, ← e1]), h2⟩)
          clear hst e1 ez
          have hro1 := HRO.out _ HBk.out
          have hus1 := HUS.out _ HBk.out
          have hkl := HBk.out.size
          have hul : (usL C p0 a k).length = k := usL_len _ _ _ _
          have HUL := Lib.hid hul
          clear hul
          go_upto_region 13 with (first
            | (at_builtin; go_loud (refine wpList_append_ints rfl _ _ 58 rfl w4.heap.size 3 i0 (.int .i64 0) .i64 8 Try.underlying58 hi0 hz0 hz1 hz2 rfl (.slice Au k cu) _ _ rfl (own_below HO.out ((Below.refl wr.heap.size wr).alloc (Nat.le_refl _) _) (fun x hx => (HO.out.lt x hx).2)) (some ⟨wr.heap.size, 0, none⟩) 1 1 [z] rfl (fun e => by cases e) (ints_new _ _ _ _) (by unfold maxLen; omega) (by omega) (by simp; omega) ?_); intro v5 w5 hown5 hg5; have HO5 := Lib.hid hown5; have HG5 := Lib.hid hg5; clear hown5 hg5))
          have HB5 : Hid (Below w4.heap.size w4 w5) := ((HBk.out.alloc hkl _).grown HG5.out (by simp; omega) (fun j hj => (HO.out.lt j hj).1))
          have hO5 := HO5.out
          rw [show ([z] : List Int).map (Value.int .i64) = [.int .i64 z] from rfl, show [Value.int .i64 z] = ([z] : List Int).map (Value.int .i64) from rfl, ← List.map_append] at hO5
          obtain ⟨A5, c5, rfl⟩ := own_shape hO5
          have HI5 := Lib.hid (fun W (h : Below w5.heap.size w5 W) => (Ints.own hO5).next h)
          have HA5 := Lib.hid (show A5 = none → k + 1 = 0 ∧ c5 = 0 from fun e => by subst e; rcases hO5.2 with ⟨h1, _⟩ | ⟨g, cap, cur, h1, _⟩ <;> (injection h1 with h1 h2 h3; first | (exact absurd h2 (by omega)) | cases h1))
          have HO6 := Lib.hid hO5
          have HTB := Lib.hid (fun W (h : Below w5.heap.size w5 W) => Blk.next HT0.out (HB14.out.trans ((HB5.out.trans (h.mono HB5.out.size)).mono HB14.out.size)))
          clear hO5 hro1 hus1 HO HO5 HG5
          go_cut [13, 14] (fun s13 s14 wx => FoCut w5 st s13 s14 wx)
          case first =>
            refine wp_region_G 10 (fun w' => Below w5.heap.size w5 w') (by kernel_rfl) ((Below.refl _ _).drew) (fun hS => ?_)
            refine wpAnyG_take (i := 1) (v := .agg #[.int .i64 t.dt, .int .i64 t.q, .int .i64 t.r, .int .i64 t.g]) rfl (by kernel_rfl) (by kernel_rfl) (by kernel_rfl) (by kernel_rfl) (by kernel_rfl) (by kernel_rfl) (fun _ _ _ h => h) (Or.inl ⟨by rfl, fun wx hSw => by obtain ⟨y0, y1, y2, y3⟩ := TB.c (HTB.out _ hSw); go_simp⟩) hS ?_
            try simp only [pts]
            refine wpAnyG_p (i := 2) (v := ?_) rfl (by kernel_rfl) (fun _ _ _ h => h) (by rfl) (fun wx => ?_) hS ?_
            rotate_left
            · go_simp; (try with_reducible rfl)
            try simp only [pts]
            refine wpAnyG_two (i := 0) (j := 8) rfl rfl (by kernel_rfl) (fun K hK => ?_) (fun K hK => ?_)
            · go_simp
              (with_reducible refine (KBG.out _).mono ?_)
              rintro e w6 ⟨rfl, hb1⟩
              have hSn := hS.trans (hb1.mono hS.size)
              clear hS hb1
              have hS := hSn
              clear hSn
              refine hK.out _ _ hS ?_
              clear hK K
              try simp only [pts]
              refine wpAnyG_two (i := 3) (j := 8) rfl rfl (by kernel_rfl) (fun K hK => ?_) (fun K hK => ?_)
              · refine step_append_ints rfl (.const (.slice none 0 0)) (.tmp 57) 58 rfl w5.heap.size 3 i0 (.int .i64 0) .i64 8 Try.underlying58 hi0 hz0 hz1 hz2 rfl (.slice none 0 0) 0 [] (by simp [Act.eval]) (World.ownsRow_nil _ _ _ _) A5 (k + 1) c5 (usL C p0 a k ++ [z]) (by simp [Act.eval]) HA5.out (HI5.out _ hS) (by unfold maxLen; omega) (by omega) hS.size (fun v9 w7 ho9 hg9 => ?_)
                simp only [Nat.zero_add, List.nil_append] at ho9
                obtain ⟨A9, c9, rfl⟩ := own_shape ho9
                have hSn := hS.grown hg9 hS.size (fun j hj => by cases hj)
                have hI9 := Ints.own ho9
                clear hS ho9 hg9
                have hS := hSn
                clear hSn
                refine hK.out _ _ hS ?_
                clear hK K
                try simp only [pts]
                refine wpAnyG_two (i := 4) (j := 8) rfl rfl (by kernel_rfl) (fun K hK => ?_) (fun K hK => ?_)
                · go_simp
                  (with_reducible refine (KRk.out _ _ _ hI9).mono ?_)
                  rintro e w8 ⟨nn, rfl, hb3⟩
                  have hSn := hS.trans (hb3.mono hS.size)
                  clear hS hb3
                  have hS := hSn
                  clear hSn
                  refine hK.out _ _ hS ?_
                  clear hK K
                  try simp only [pts]
                  refine wpAnyG_p (i := 5) (v := ?_) rfl (by kernel_rfl) (fun _ _ _ h => h) (by rfl) (fun wx => ?_) hS ?_
                  rotate_left
                  · go_simp; (try with_reducible rfl)
                  try simp only [pts]
                  refine wpAnyG_p (i := 6) (v := ?_) rfl (by kernel_rfl) (fun _ _ _ h => h) (by rfl) (fun wx => ?_) hS ?_
                  rotate_left
                  · go_simp; (try with_reducible rfl)
                  try simp only [pts]
                  refine wpAnyG_p (i := 7) (v := ?_) rfl (by kernel_rfl) (fun _ _ _ h => h) (by rfl) (fun wx => ?_) hS ?_
                  rotate_left
                  · go_simp; (try with_reducible rfl)
                  try simp only [pts]
                  refine wpAnyG_one (i := 8) rfl (by kernel_rfl) (fun K hK => ?_)
                  go_simp
                  have hX : Below w5.heap.size w5 (w8.alloc (.cells #[.int .i64 0, .int .i64 0, .int .i64 0, .int .i64 0, .int .i64 0, .bool false, .int .i64 0] 33)) := hS.alloc hS.size _
                  have hqs : w5.heap.size ≤ w8.heap.size := hS.size
                  clear hS
                  have hS : Below w5.heap.size w5 (w8.alloc (.cells #[.int .i64 0, .int .i64 0, .int .i64 0, .int .i64 0, .int .i64 0, .bool false, .int .i64 0] 33)) := hX
                  have hz : Blk (w8.alloc (.cells #[.int .i64 0, .int .i64 0, .int .i64 0, .int .i64 0, .int .i64 0, .bool false, .int .i64 0] 33)) w8.heap.size 33 #[.int .i64 0, .int .i64 0, .int .i64 0, .int .i64 0, .int .i64 0, .bool false, .int .i64 0] := Blk.new _ _ _
                  refine hK.out _ _ hS ?_
                  clear hK K
                  try simp only [pts]
                  refine wpAnyG_one (i := 9) rfl (by kernel_rfl) (fun K hK => ?_)
                  rw [if_pos (by rfl)]
                  refine wp_store_row 33 (.tmp 13) (.tmp 60) rfl (w8.heap.size) _ _ #[.int .i64 st.x, .int .i64 st.v, .int .i64 st.p, .int .i64 st.q, .int .i64 st.r, .bool st.b, .int .i64 st.m] rfl rfl hz rfl info7 (st_one st) (fun w8 hN8 hg8 => ?_)
                  have hS8 := hS.grown hg8 hS.size (fun j hj => by cases hj; exact hqs)
                  refine hK.out _ _ hS8 ?_
                  clear hK K
                  try simp only [pts]
                  refine wpAnyG_last rfl (by kernel_rfl) (by kernel_rfl) (by kernel_rfl) (fun K hK => ?_)
                  go_simp
                  refine hK.out _ _ ?_
                  clear hK K
                  try simp only [pts]
                  go_wp2_with fail
                  go_meet
                  exact ⟨_, rfl, hN8, hS8⟩
                · go_simp
                  have hX : Below w5.heap.size w5 (w7.alloc (.cells #[.int .i64 0, .int .i64 0, .int .i64 0, .int .i64 0, .int .i64 0, .bool false, .int .i64 0] 33)) := hS.alloc hS.size _
                  have hqs : w5.heap.size ≤ w7.heap.size := hS.size
                  clear hS
                  have hS : Below w5.heap.size w5 (w7.alloc (.cells #[.int .i64 0, .int .i64 0, .int .i64 0, .int .i64 0, .int .i64 0, .bool false, .int .i64 0] 33)) := hX
                  have hz : Blk (w7.alloc (.cells #[.int .i64 0, .int .i64 0, .int .i64 0, .int .i64 0, .int .i64 0, .bool false, .int .i64 0] 33)) w7.heap.size 33 #[.int .i64 0, .int .i64 0, .int .i64 0, .int .i64 0, .int .i64 0, .bool false, .int .i64 0] := Blk.new _ _ _
                  have hIn := hI9.next ((Below.refl w7.heap.size w7).alloc (Nat.le_refl _) (.cells #[.int .i64 0, .int .i64 0, .int .i64 0, .int .i64 0, .int .i64 0, .bool false, .int .i64 0] 33))
                  clear hI9
                  have hI9 := hIn
                  clear hIn
                  refine hK.out _ _ hS ?_
                  clear hK K
                  try simp only [pts]
                  refine wpAnyG_one (i := 4) rfl (by kernel_rfl) (fun K hK => ?_)
                  go_simp
                  (with_reducible refine (KRk.out _ _ _ hI9).mono ?_)
                  rintro e w9 ⟨nn, rfl, hb4⟩
                  have hSn := hS.trans (hb4.mono hS.size)
                  have hzn := hz.next hb4
                  clear hz
                  have hz := hzn
                  clear hzn
                  clear hS hb4
                  have hS := hSn
                  clear hSn
                  refine hK.out _ _ hS ?_
                  clear hK K
                  try simp only [pts]
                  refine wpAnyG_p (i := 5) (v := ?_) rfl (by kernel_rfl) (fun _ _ _ h => h) (by rfl) (fun wx => ?_) hS ?_
                  rotate_left
                  · go_simp; (try with_reducible rfl)
                  try simp only [pts]
                  refine wpAnyG_p (i := 6) (v := ?_) rfl (by kernel_rfl) (fun _ _ _ h => h) (by rfl) (fun wx => ?_) hS ?_
                  rotate_left
                  · go_simp; (try with_reducible rfl)
                  try simp only [pts]
                  refine wpAnyG_p (i := 7) (v := ?_) rfl (by kernel_rfl) (fun _ _ _ h => h) (by rfl) (fun wx => ?_) hS ?_
                  rotate_left
                  · go_simp; (try with_reducible rfl)
                  try simp only [pts]
                  refine wpAnyG_one (i := 9) rfl (by kernel_rfl) (fun K hK => ?_)
                  rw [if_pos (by rfl)]
                  refine wp_store_row 33 (.tmp 13) (.tmp 60) rfl (w7.heap.size) _ _ #[.int .i64 st.x, .int .i64 st.v, .int .i64 st.p, .int .i64 st.q, .int .i64 st.r, .bool st.b, .int .i64 st.m] rfl rfl hz rfl info7 (st_one st) (fun w8 hN8 hg8 => ?_)
                  have hS8 := hS.grown hg8 hS.size (fun j hj => by cases hj; exact hqs)
                  refine hK.out _ _ hS8 ?_
                  clear hK K
                  try simp only [pts]
                  refine wpAnyG_last rfl (by kernel_rfl) (by kernel_rfl) (by kernel_rfl) (fun K hK => ?_)
                  go_simp
                  refine hK.out _ _ ?_
                  clear hK K
                  try simp only [pts]
                  go_wp2_with fail
                  go_meet
                  exact ⟨_, rfl, hN8, hS8⟩
              · go_simp
                have hX : Below w5.heap.size w5 (w6.alloc (.cells #[.int .i64 0, .int .i64 0, .int .i64 0, .int .i64 0, .int .i64 0, .bool false, .int .i64 0] 33)) := hS.alloc hS.size _
                have hqs : w5.heap.size ≤ w6.heap.size := hS.size
                clear hS
                have hS : Below w5.heap.size w5 (w6.alloc (.cells #[.int .i64 0, .int .i64 0, .int .i64 0, .int .i64 0, .int .i64 0, .bool false, .int .i64 0] 33)) := hX
                have hz : Blk (w6.alloc (.cells #[.int .i64 0, .int .i64 0, .int .i64 0, .int .i64 0, .int .i64 0, .bool false, .int .i64 0] 33)) w6.heap.size 33 #[.int .i64 0, .int .i64 0, .int .i64 0, .int .i64 0, .int .i64 0, .bool false, .int .i64 0] := Blk.new _ _ _
                refine hK.out _ _ hS ?_
                clear hK K
                try simp only [pts]
                refine wpAnyG_one (i := 3) rfl (by kernel_rfl) (fun K hK => ?_)
                refine step_append_ints rfl (.const (.slice none 0 0)) (.tmp 57) 58 rfl w5.heap.size 3 i0 (.int .i64 0) .i64 8 Try.underlying58 hi0 hz0 hz1 hz2 rfl (.slice none 0 0) 0 [] (by simp [Act.eval]) (World.ownsRow_nil _ _ _ _) A5 (k + 1) c5 (usL C p0 a k ++ [z]) (by simp [Act.eval]) HA5.out (HI5.out _ hS) (by unfold maxLen; omega) (by omega) hS.size (fun v9 w8 ho9 hg9 => ?_)
                simp only [Nat.zero_add, List.nil_append] at ho9
                obtain ⟨A9, c9, rfl⟩ := own_shape ho9
                have hSn := hS.grown hg9 hS.size (fun j hj => by cases hj)
                have hI9 := Ints.own ho9
                have hzn := hz.grown hg9 (fun e => by cases e)
                clear hz
                have hz := hzn
                clear hzn
                clear hS ho9 hg9
                have hS := hSn
                clear hSn
                refine hK.out _ _ hS ?_
                clear hK K
                try simp only [pts]
                refine wpAnyG_one (i := 4) rfl (by kernel_rfl) (fun K hK => ?_)
                go_simp
                (with_reducible refine (KRk.out _ _ _ hI9).mono ?_)
                rintro e w9 ⟨nn, rfl, hb4⟩
                have hSn := hS.trans (hb4.mono hS.size)
                have hzn := hz.next hb4
                clear hz
                have hz := hzn
                clear hzn
                clear hS hb4
                have hS := hSn
                clear hSn
                refine hK.out _ _ hS ?_
                clear hK K
                try simp only [pts]
                refine wpAnyG_p (i := 5) (v := ?_) rfl (by kernel_rfl) (fun _ _ _ h => h) (by rfl) (fun wx => ?_) hS ?_
                rotate_left
                · go_simp; (try with_reducible rfl)
                try simp only [pts]
                refine wpAnyG_p (i := 6) (v := ?_) rfl (by kernel_rfl) (fun _ _ _ h => h) (by rfl) (fun wx => ?_) hS ?_
                rotate_left
                · go_simp; (try with_reducible rfl)
                try simp only [pts]
                refine wpAnyG_p (i := 7) (v := ?_) rfl (by kernel_rfl) (fun _ _ _ h => h) (by rfl) (fun wx => ?_) hS ?_
                rotate_left
                · go_simp; (try with_reducible rfl)
                try simp only [pts]
                refine wpAnyG_one (i := 9) rfl (by kernel_rfl) (fun K hK => ?_)
                rw [if_pos (by rfl)]
                refine wp_store_row 33 (.tmp 13) (.tmp 60) rfl (w6.heap.size) _ _ #[.int .i64 st.x, .int .i64 st.v, .int .i64 st.p, .int .i64 st.q, .int .i64 st.r, .bool st.b, .int .i64 st.m] rfl rfl hz rfl info7 (st_one st) (fun w8 hN8 hg8 => ?_)
                have hS8 := hS.grown hg8 hS.size (fun j hj => by cases hj; exact hqs)
                refine hK.out _ _ hS8 ?_
                clear hK K
                try simp only [pts]
                refine wpAnyG_last rfl (by kernel_rfl) (by kernel_rfl) (by kernel_rfl) (fun K hK => ?_)
                go_simp
                refine hK.out _ _ ?_
                clear hK K
                try simp only [pts]
                go_wp2_with fail
                go_meet
                exact ⟨_, rfl, hN8, hS8⟩
            · go_simp
              have hX : Below w5.heap.size w5 (w5.alloc (.cells #[.int .i64 0, .int .i64 0, .int .i64 0, .int .i64 0, .int .i64 0, .bool false, .int .i64 0] 33)) := (Below.refl _ _).alloc (Nat.le_refl _) _
              have hqs : w5.heap.size ≤ w5.heap.size := Nat.le_refl _
              clear hS
              have hS : Below w5.heap.size w5 (w5.alloc (.cells #[.int .i64 0, .int .i64 0, .int .i64 0, .int .i64 0, .int .i64 0, .bool false, .int .i64 0] 33)).drew := hX.drew
              have hz : Blk (w5.alloc (.cells #[.int .i64 0, .int .i64 0, .int .i64 0, .int .i64 0, .int .i64 0, .bool false, .int .i64 0] 33)).drew w5.heap.size 33 #[.int .i64 0, .int .i64 0, .int .i64 0, .int .i64 0, .int .i64 0, .bool false, .int .i64 0] := Blk.new _ _ _
              refine hK.out _ _ hS ?_
              clear hK K
              try simp only [pts]
              refine wpAnyG_one (i := 0) rfl (by kernel_rfl) (fun K hK => ?_)
              go_simp
              (with_reducible refine (KBG.out _).mono ?_)
              rintro e w7 ⟨rfl, hb2⟩
              have hSn := hS.trans (hb2.mono hS.size)
              have hzn := hz.next hb2
              clear hz
              have hz := hzn
              clear hzn
              clear hS hb2
              have hS := hSn
              clear hSn
              refine hK.out _ _ hS ?_
              clear hK K
              try simp only [pts]
              refine wpAnyG_one (i := 3) rfl (by kernel_rfl) (fun K hK => ?_)
              refine step_append_ints rfl (.const (.slice none 0 0)) (.tmp 57) 58 rfl w5.heap.size 3 i0 (.int .i64 0) .i64 8 Try.underlying58 hi0 hz0 hz1 hz2 rfl (.slice none 0 0) 0 [] (by simp [Act.eval]) (World.ownsRow_nil _ _ _ _) A5 (k + 1) c5 (usL C p0 a k ++ [z]) (by simp [Act.eval]) HA5.out (HI5.out _ hS) (by unfold maxLen; omega) (by omega) hS.size (fun v9 w8 ho9 hg9 => ?_)
              simp only [Nat.zero_add, List.nil_append] at ho9
              obtain ⟨A9, c9, rfl⟩ := own_shape ho9
              have hSn := hS.grown hg9 hS.size (fun j hj => by cases hj)
              have hI9 := Ints.own ho9
              have hzn := hz.grown hg9 (fun e => by cases e)
              clear hz
              have hz := hzn
              clear hzn
              clear hS ho9 hg9
              have hS := hSn
              clear hSn
              refine hK.out _ _ hS ?_
              clear hK K
              try simp only [pts]
              refine wpAnyG_one (i := 4) rfl (by kernel_rfl) (fun K hK => ?_)
              go_simp
              (with_reducible refine (KRk.out _ _ _ hI9).mono ?_)
              rintro e w9 ⟨nn, rfl, hb4⟩
              have hSn := hS.trans (hb4.mono hS.size)
              have hzn := hz.next hb4
              clear hz
              have hz := hzn
              clear hzn
              clear hS hb4
              have hS := hSn
              clear hSn
              refine hK.out _ _ hS ?_
              clear hK K
              try simp only [pts]
              refine wpAnyG_p (i := 5) (v := ?_) rfl (by kernel_rfl) (fun _ _ _ h => h) (by rfl) (fun wx => ?_) hS ?_
              rotate_left
              · go_simp; (try with_reducible rfl)
              try simp only [pts]
              refine wpAnyG_p (i := 6) (v := ?_) rfl (by kernel_rfl) (fun _ _ _ h => h) (by rfl) (fun wx => ?_) hS ?_
              rotate_left
              · go_simp; (try with_reducible rfl)
              try simp only [pts]
              refine wpAnyG_p (i := 7) (v := ?_) rfl (by kernel_rfl) (fun _ _ _ h => h) (by rfl) (fun wx => ?_) hS ?_
              rotate_left
              · go_simp; (try with_reducible rfl)
              try simp only [pts]
              refine wpAnyG_one (i := 9) rfl (by kernel_rfl) (fun K hK => ?_)
              rw [if_pos (by rfl)]
              refine wp_store_row 33 (.tmp 13) (.tmp 60) rfl (w5.heap.size) _ _ #[.int .i64 st.x, .int .i64 st.v, .int .i64 st.p, .int .i64 st.q, .int .i64 st.r, .bool st.b, .int .i64 st.m] rfl rfl hz rfl info7 (st_one st) (fun w8 hN8 hg8 => ?_)
              have hS8 := hS.grown hg8 hS.size (fun j hj => by cases hj; exact hqs)
              refine hK.out _ _ hS8 ?_
              clear hK K
              try simp only [pts]
              refine wpAnyG_last rfl (by kernel_rfl) (by kernel_rfl) (by kernel_rfl) (fun K hK => ?_)
              go_simp
              refine hK.out _ _ ?_
              clear hK K
              try simp only [pts]
              go_wp2_with fail
              go_meet
              exact ⟨_, rfl, hN8, hS8⟩
          case rest =>
            obtain ⟨q13, rfl, hsb, hbc⟩ := hcut
            have HBC := Lib.hid (HB5.out.trans (hbc.mono HB5.out.size))
            have HSB := Lib.hid (fun W (h : Below wc.heap.size wc W) => (show Fi.SB W q13 st from Blk.next hsb h))
            have HOc := Lib.hid (own_below HO6.out hbc (fun x hx => (HO6.out.lt x hx).2))
            have qp : (0 : Int) ≤ (p0 : Int) := by omega
            have qp4 : (p0 : Int) < 4 := by omega
            have qx : (st.x != st.x) = false := by simp
            have hrn : (0 : Int) < ((repsN bad 4 : Nat) : Int) := by have := HN0.out; omega
            have hrn2 : 0 < repsN bad 4 := HN0.out
            clear hsb hbc
            go_upto_region 14 with fail
            refine wp_region_held (S := fun w' => Below wc.heap.size wc w') (by kernel_rfl) ?_
            have hS := ((Below.refl wc.heap.size wc).drew : Below wc.heap.size wc wc.drew)
            refine wpAnyH_takeL (i := 0) (v := ?_) rfl (by kernel_rfl) (by kernel_rfl) (by kernel_rfl) (fun _ _ _ h => h) (Or.inl ⟨by rfl, fun wx hSw => ?_⟩) hS ?_
            rotate_left
            · go_simp; (try with_reducible rfl)
            try simp only [pts]
            refine wpAnyH_takeL (i := 1) (v := ?_) rfl (by kernel_rfl) (by kernel_rfl) (by kernel_rfl) (fun _ _ _ h => h) (Or.inl ⟨by rfl, fun wx hSw => ?_⟩) hS ?_
            rotate_left
            · go_simp; (try with_reducible rfl)
            try simp only [pts]
            refine wpAnyH_takeL (i := 2) (v := ?_) rfl (by kernel_rfl) (by kernel_rfl) (by kernel_rfl) (fun _ _ _ h => h) (Or.inl ⟨by rfl, fun wx hSw => ?_⟩) hS ?_
            rotate_left
            · go_simp; (try with_reducible rfl)
            try simp only [pts]
            refine wpAnyH_takeL (i := 3) (v := ?_) rfl (by kernel_rfl) (by kernel_rfl) (by kernel_rfl) (fun _ _ _ h => h) (Or.inl ⟨by rfl, fun wx hSw => ?_⟩) hS ?_
            rotate_left
            · go_simp; (try with_reducible rfl)
            try simp only [pts]
            refine wpAnyH_takeL (i := 4) (v := ?_) rfl (by kernel_rfl) (by kernel_rfl) (by kernel_rfl) (fun _ _ _ h => h) (Or.inl ⟨by rfl, fun wx hSw => ?_⟩) hS ?_
            rotate_left
            · go_simp; (try with_reducible rfl)
            try simp only [pts]
            refine wpAnyH_takeL (i := 5) (v := .slice (some ⟨br, or_, none⟩) (repsN bad 4) cr) rfl (by kernel_rfl) (by kernel_rfl) (by kernel_rfl) (fun _ _ _ h => h) (Or.inl ⟨by rfl, fun wx hSw => by have hc := HRO.out _ (HBC.out.trans (hSw.mono HBC.out.size)); go_simp⟩) hS ?_
            try simp only [pts]
            refine wpAnyH_takeL (i := 6) (v := ?_) rfl (by kernel_rfl) (by kernel_rfl) (by kernel_rfl) (fun _ _ _ h => h) (Or.inl ⟨by rfl, fun wx hSw => ?_⟩) hS ?_
            rotate_left
            · go_simp; (try with_reducible rfl)
            try simp only [pts]
            refine wpAnyH_takeL (i := 7) (v := ?_) rfl (by kernel_rfl) (by kernel_rfl) (by kernel_rfl) (fun _ _ _ h => h) (Or.inl ⟨by rfl, fun wx hSw => ?_⟩) hS ?_
            rotate_left
            · go_simp; (try with_reducible rfl)
            try simp only [pts]
            refine wpAnyH_takeL (i := 8) (v := .int .i64 (p0 : Int)) rfl (by kernel_rfl) (by kernel_rfl) (by kernel_rfl) (fun _ _ _ h => h) (Or.inl ⟨by rfl, fun wx hSw => by have hc := HID.out _ (HBC.out.trans (hSw.mono HBC.out.size)); go_simp⟩) hS ?_
            try simp only [pts]
            refine wpAnyH_takeL (i := 9) (v := ?_) rfl (by kernel_rfl) (by kernel_rfl) (by kernel_rfl) (fun _ _ _ h => h) (Or.inl ⟨by rfl, fun wx hSw => ?_⟩) hS ?_
            rotate_left
            · go_simp; (try with_reducible rfl)
            try simp only [pts]
            refine wpAnyH_takeL (i := 10) (v := ?_) rfl (by kernel_rfl) (by kernel_rfl) (by kernel_rfl) (fun _ _ _ h => h) (Or.inl ⟨by rfl, fun wx hSw => ?_⟩) hS ?_
            rotate_left
            · go_simp; (try with_reducible rfl)
            try simp only [pts]
            refine wpAnyH_takeL (i := 11) (v := ?_) rfl (by kernel_rfl) (by kernel_rfl) (by kernel_rfl) (fun _ _ _ h => h) (Or.inl ⟨by rfl, fun wx hSw => ?_⟩) hS ?_
            rotate_left
            · go_simp; (try with_reducible rfl)
            try simp only [pts]
            refine wpAnyH_takeL (i := 12) (v := ?_) rfl (by kernel_rfl) (by kernel_rfl) (by kernel_rfl) (fun _ _ _ h => h) (Or.inl ⟨by rfl, fun wx hSw => ?_⟩) hS ?_
            rotate_left
            · go_simp; (try with_reducible rfl)
            try simp only [pts]
            refine wpAnyH_takeL (i := 13) (v := ?_) rfl (by kernel_rfl) (by kernel_rfl) (by kernel_rfl) (fun _ _ _ h => h) (Or.inl ⟨by rfl, fun wx hSw => ?_⟩) hS ?_
            rotate_left
            · go_simp; (try with_reducible rfl)
            try simp only [pts]
            refine wpAnyH_takeL (i := 14) (v := ?_) rfl (by kernel_rfl) (by kernel_rfl) (by kernel_rfl) (fun _ _ _ h => h) (Or.inl ⟨by rfl, fun wx hSw => ?_⟩) hS ?_
            rotate_left
            · go_simp; (try with_reducible rfl)
            try simp only [pts]
            refine wpAnyH_takeL (i := 15) (v := .agg (stL st).toArray) rfl (by kernel_rfl) (by kernel_rfl) (by kernel_rfl) (fun _ _ _ h => h) (Or.inl ⟨by rfl, fun wx hSw => exec_load_mid 33 (.tmp 76) rfl b (off + k * 297 + 1 + p0 * 74 + 6 + a * 7) rfl (stL st) _ (HAL.out _ (HBC.out.trans (hSw.mono HBC.out.size))) Try.underlying33 rfl info7⟩) hS ?_
            try simp only [pts]
            refine wpAnyH_takeL (i := 16) (v := .agg (stL st).toArray) rfl (by kernel_rfl) (by kernel_rfl) (by kernel_rfl) (fun _ _ _ h => h) (Or.inl ⟨by rfl, fun wx hSw => exec_load_mid 33 (.tmp 13) rfl q13 0 rfl (stL st) _ (sb_range (HSB.out _ hSw)) Try.underlying33 rfl info7⟩) hS ?_
            try simp only [pts]
            refine wpAnyH_takeL (i := 17) (v := ?_) rfl (by kernel_rfl) (by kernel_rfl) (by kernel_rfl) (fun _ _ _ h => h) (Or.inl ⟨by rfl, fun wx hSw => ?_⟩) hS ?_
            rotate_left
            · have hq := eqSt st; go_simp; (try with_reducible rfl)
            try simp only [pts]
            refine wpAnyH_takeL (i := 18) (v := ?_) rfl (by kernel_rfl) (by kernel_rfl) (by kernel_rfl) (fun _ _ _ h => h) (Or.inl ⟨by rfl, fun wx hSw => ?_⟩) hS ?_
            rotate_left
            · go_simp; (try with_reducible rfl)
            try simp only [pts]
            refine wpAnyH_takeL (i := 19) (v := ?_) rfl (by kernel_rfl) (by kernel_rfl) (by kernel_rfl) (fun _ _ _ h => h) (Or.inl ⟨by rfl, fun wx hSw => ?_⟩) hS ?_
            rotate_left
            · go_simp; (try with_reducible rfl)
            try simp only [pts]
            refine wpAnyH_takeL (i := 20) (v := ?_) rfl (by kernel_rfl) (by kernel_rfl) (by kernel_rfl) (fun _ _ _ h => h) (Or.inl ⟨by rfl, fun wx hSw => ?_⟩) hS ?_
            rotate_left
            · go_simp; (try with_reducible rfl)
            try simp only [pts]
            refine wpAnyH_takeL (i := 21) (v := ?_) rfl (by kernel_rfl) (by kernel_rfl) (by kernel_rfl) (fun _ _ _ h => h) (Or.inl ⟨by rfl, fun wx hSw => ?_⟩) hS ?_
            rotate_left
            · go_simp; (try with_reducible rfl)
            try simp only [pts]
            refine wpAnyH_takeL (i := 22) (v := .slice (some ⟨br, or_, none⟩) (repsN bad 4) cr) rfl (by kernel_rfl) (by kernel_rfl) (by kernel_rfl) (fun _ _ _ h => h) (Or.inl ⟨by rfl, fun wx hSw => by have hc := HRO.out _ (HBC.out.trans (hSw.mono HBC.out.size)); go_simp⟩) hS ?_
            try simp only [pts]
            refine wpAnyH_takeL (i := 23) (v := ?_) rfl (by kernel_rfl) (by kernel_rfl) (by kernel_rfl) (fun _ _ _ h => h) (Or.inl ⟨by rfl, fun wx hSw => ?_⟩) hS ?_
            rotate_left
            · go_simp; (try with_reducible rfl)
            try simp only [pts]
            refine wpAnyH_takeL (i := 24) (v := ?_) rfl (by kernel_rfl) (by kernel_rfl) (by kernel_rfl) (fun _ _ _ h => h) (Or.inl ⟨by rfl, fun wx hSw => ?_⟩) hS ?_
            rotate_left
            · go_simp; (try with_reducible rfl)
            try simp only [pts]
            refine wpAnyH_takeL (i := 25) (v := ?_) rfl (by kernel_rfl) (by kernel_rfl) (by kernel_rfl) (fun _ _ _ h => h) (Or.inl ⟨by rfl, fun wx hSw => ?_⟩) hS ?_
            rotate_left
            · go_simp; (try with_reducible rfl)
            try simp only [pts]
            refine wpAnyH_takeL (i := 26) (v := ?_) rfl (by kernel_rfl) (by kernel_rfl) (by kernel_rfl) (fun _ _ _ h => h) (Or.inl ⟨by rfl, fun wx hSw => ?_⟩) hS ?_
            rotate_left
            · go_simp; (try with_reducible rfl)
            try simp only [pts]
            refine wpAnyH_takeL (i := 27) (v := .int .i64 st.x) rfl (by kernel_rfl) (by kernel_rfl) (by kernel_rfl) (fun _ _ _ h => h) (Or.inl ⟨by rfl, fun wx hSw => by have hc := HPL.out _ (HBC.out.trans (hSw.mono HBC.out.size)); go_simp⟩) hS ?_
            try simp only [pts]
            refine wpAnyH_takeL (i := 28) (v := ?_) rfl (by kernel_rfl) (by kernel_rfl) (by kernel_rfl) (fun _ _ _ h => h) (Or.inl ⟨by rfl, fun wx hSw => ?_⟩) hS ?_
            rotate_left
            · go_simp; (try with_reducible rfl)
            try simp only [pts]
            refine wpAnyH_takeL (i := 29) (v := .int .i64 st.x) rfl (by kernel_rfl) (by kernel_rfl) (by kernel_rfl) (fun _ _ _ h => h) (Or.inl ⟨by rfl, fun wx hSw => by have hc : wx.cell? ⟨q13, 0, none⟩ = some (.int .i64 st.x) := Blk.cell (HSB.out _ hSw) 0; go_simp⟩) hS ?_
            try simp only [pts]
            refine wpAnyH_takeL (i := 30) (v := ?_) rfl (by kernel_rfl) (by kernel_rfl) (by kernel_rfl) (fun _ _ _ h => h) (Or.inl ⟨by rfl, fun wx hSw => ?_⟩) hS ?_
            rotate_left
            · have hq := qx; go_simp; (try with_reducible rfl)
            try simp only [pts]
            refine wpAnyH_takeL (i := 31) (v := ?_) rfl (by kernel_rfl) (by kernel_rfl) (by kernel_rfl) (fun _ _ _ h => h) (Or.inl ⟨by rfl, fun wx hSw => ?_⟩) hS ?_
            rotate_left
            · go_simp; (try with_reducible rfl)
            try simp only [pts]
            refine wpAnyH_done (by kernel_rfl) ?_ _
            go_wp2_with fail
            go_roundw
            case rel => exact ⟨k + 1, by go_num, by omega, (by rw [HSU.out]; exact own_below HOc.out (Below.refl wc.heap.size wc).drew (fun x hx => (HOc.out.lt x hx).2)), HBC.out.drew⟩
            case measure => simp [intOf]; omega
        · have q1 : decide ((k : Int) < (i : Int)) = false := by rw [decide_eq_false_iff_not]; omega
          go_wp2_with fail
          go_roundw
          case rel => exact ⟨a + 1, by go_num, by omega, HBk.out⟩
          case measure => simp [intOf]; omega
    · have q0 : decide ((a : Int) < 3) = false := by rw [decide_eq_false_iff_not]; omega
      go_wp2_with fail
      go_ret
      exact ⟨rfl, HBW.out.trans (HBa.out.mono HBW.out.size)⟩
end Go.Proofs.Ytofeoeknmlkjgaa.Nk
namespace Go.Proofs.Ytofeoeknmlkjgaa.lawTopFollows
open Go.RowKit Go.Proofs.Ytofeoeknmlkjgaa Nk Fi Go.ChangeShapes Go.WideShapes
set_option maxRecDepth 100000 in
theorem walk {H : Type} {enc : TypeId × Value → H} {d0 d1 d2 : DataW H} {p0 p1 p2 : List MemPlace} (v0 v1 v2 : Value) (W : World) (base : Nat)
    (h0 : Value.okWide Try.prog W .any base 23 v0) (k0 : DataW.Trod enc Try.prog W 0 (fun _ => true) true 23 v0 d0 p0)
    (h1 : Value.okWide Try.prog W .any base 24 v1) (k1 : DataW.Trod enc Try.prog W 0 (fun _ => true) true 24 v1 d1 p1)
    (h2 : Value.okWide Try.prog W .any base 3 v2) (k2 : DataW.Trod enc Try.prog W 0 (fun _ => true) true 3 v2 d2 p2)
    (s0 : ∀ x ∈ d0.weights Try.prog 23, x ≤ reachBytes) (s1 : ∀ x ∈ d1.weights Try.prog 24, x ≤ reachBytes) (s2 : ∀ x ∈ d2.weights Try.prog 3, x ≤ reachBytes) :
    Calls Try.prog 9 #[v0, v1, v2] W fun e w' => e = .returned (.bool true) ∧ Below W.heap.size W w' := by
  obtain ⟨t, rfl, ht⟩ := tuning_in h0
  obtain ⟨A, n, c, rfl, hnc, hc, _, _⟩ := ok_slice Try.underlying24 h1
  obtain ⟨x2, rfl, _⟩ := ok_int Try.underlying3 h2
  obtain ⟨L, hL, hm⟩ := inputs_in k1 s1
  exact topfollows_walk t ht A n c L x2 W hL hm
end Go.Proofs.Ytofeoeknmlkjgaa.lawTopFollows
end
