/- Merged: TopPlain TopAlive TopOne TopBehind TopGet TopRd TopIn2. -/
import Derived.Deep.Slices
import Derived.OrdersHeld
import Derived.SizedLaws
import Derived.Test.YtofeoeknmlkjgaaZ01
import Derived.Test.YtofeoeknmlkjgaaZ02
import Derived.Test.YtofeoeknmlkjgaaZ04
import Derived.Test.YtofeoeknmlkjgaaZ05
import Derived.Test.YtofeoeknmlkjgaaZ46
import Derived.Test.YtofeoeknmlkjgaaZ47
set_option linter.unusedVariables false
set_option linter.unusedSimpArgs false
section
/- Frames in which one and the same computer may be faulty: what the good ones keep (plain). -/
set_option linter.unusedVariables false
namespace Go.Proofs.Ytofeoeknmlkjgaa.Nk
open Go.RowKit Go.Proofs.Ytofeoeknmlkjgaa Mb Fi Sm

structure GInv (bad : Int) (N : Nat → Nd) : Prop where
  ids : ∀ p : Nat, p < 4 → (N p).id = (p : Int)
  tw : ∀ p q : Nat, p < 4 → q < 4 → ¬ (p : Int) = bad → ¬ (q : Int) = bad → Tw (N p) (N q)
  inn : ∀ p : Nat, p < 4 → ¬ (p : Int) = bad → Inn bad (N p).ro
  ok : ∀ p : Nat, p < 4 → NOk (N p)
section
variable {X : Fr} {N N' : Nat → Nd}
theorem GInv.good (h : GInv X.bad N) (hr : ∀ i, i < 4 → ClRel X N i (N' i)) {p : Nat} (hp : p < 4) (hb : ¬ (p : Int) = X.bad) : N' p = N5 X N p := by
  have h1 := hr p hp
  unfold ClRel at h1
  rw [if_neg hb] at h1
  have hv := verd (x := X) (N := N) (fun p hp hb => h.ids p hp) h.tw hp hb (h.inn p hp hb)
  rcases h1.2 with h2 | h2
  · exact absurd hv.1 h2.2
  · exact h2
theorem GInv.step (h : GInv X.bad N) (hr : ∀ i, i < 4 → ClRel X N i (N' i)) : GInv X.bad N' := by
  have hids : Ids X N := fun p hp hb => h.ids p hp
  refine ⟨fun p hp => ?_, fun p q hp hq hpb hqb => ?_, fun p hp hb => ?_, fun p hp => ?_⟩
  · by_cases hb : (p : Int) = X.bad
    · have h1 := hr p hp
      unfold ClRel at h1
      rw [if_pos hb] at h1
      rw [h1]; exact h.ids p hp
    · rw [h.good hr hp hb, (N5_keep hb).1]; exact h.ids p hp
  · rw [h.good hr hp hpb, h.good hr hq hqb]
    exact N5_tw hids h.tw hp hq hpb hqb (h.inn p hp hpb) (h.inn q hq hqb)
  · rw [h.good hr hp hb]
    exact (verd hids h.tw hp hb (h.inn p hp hb)).2.2.2.2
  · by_cases hb : (p : Int) = X.bad
    · have h1 := hr p hp
      unfold ClRel at h1
      rw [if_pos hb] at h1
      rw [h1]; exact h.ok p hp
    · rw [h.good hr hp hb]; exact N5_ok hb (h.ok p hp)
theorem GInv.verdict (h : GInv X.bad N) (hr : ∀ i, i < 4 → ClRel X N i (N' i)) {p : Nat} (hp : p < 4) (hb : ¬ (p : Int) = X.bad) : (N' p).vs = true ∧ (N' p).vv = (N' p).dg := by
  rw [h.good hr hp hb]
  have hv := verd (x := X) (N := N) (fun p hp hb => h.ids p hp) h.tw hp hb (h.inn p hp hb)
  exact ⟨hv.2.1, hv.1⟩
theorem GInv.agreed (h : GInv X.bad N) (hr : ∀ i, i < 4 → ClRel X N i (N' i)) {p s a : Nat} (hp : p < 4) (hb : ¬ (p : Int) = X.bad) (hs : s < 4) (hsb : ¬ (s : Int) = X.bad) (ha : a < 3) : (N' p).ag (s * 3 + a) = X.rd (s * 3 + a) := by
  rw [h.good hr hp hb, (N5_keep hb).2.2.2.2.2]
  exact (N3_ag (x := X) (N := N) (fun p hp hb => h.ids p hp) hs ha).1 hsb p hp hb
theorem GInv.used (h : GInv X.bad N) (hr : ∀ i, i < 4 → ClRel X N i (N' i)) {p a : Nat} (hp : p < 4) (hb : ¬ (p : Int) = X.bad) (ha : a < 3) : (N' p).us a = fuseF (N3 X N p) a := by
  rw [h.good hr hp hb, (N5_keep hb).2.2.2.2.1]
  exact N3_us hb ha
theorem GInv.axis (h : GInv X.bad N) (hr : ∀ i, i < 4 → ClRel X N i (N' i)) {p a : Nat} (hp : p < 4) (hb : ¬ (p : Int) = X.bad) (ha : a < 3) : (N' p).ax a = stepS ((N p).ax a) (N p).tu ((N' p).us a) ∧ (N' p).tu = (N p).tu := by
  have hg := h.good hr hp hb
  refine ⟨?_, ?_⟩
  · rw [hg, (N5_keep hb).2.2.2.1, (N5_keep hb).2.2.2.2.1, N3_ax hb]
    show (if a < 3 then stepS ((N p).ax a) (N p).tu ((N3 X N p).us a) else (N p).ax a) = _
    rw [if_pos ha]
  · rw [hg]; exact (N5_keep hb).2.2.1
end
theorem GInv.plain {X : Fr} {N N' : Nat → Nd} (hbad : X.bad = -1) (h : GInv X.bad N) (hr : ∀ i, i < 4 → ClRel X N i (N' i)) {p a : Nat} (hp : p < 4) (ha : a < 3) : (N' p).us a = Md.midZ [X.rd (0 * 3 + a), X.rd (1 * 3 + a), X.rd (2 * 3 + a), X.rd (3 * 3 + a)] := by
  have hnb : ∀ q : Nat, ¬ (q : Int) = X.bad := fun q => by omega
  rw [h.used hr hp (hnb p) ha]
  have hin : ∀ s, s < 4 → (N3 X N p).ro.inn s = true := fun s hs => by
    rw [(N3_id (hnb p)).2.2.1]
    exact ((h.inn p hp (hnb p)).2 s hs (hnb s)).1
  have hag : ∀ s, s < 4 → (N3 X N p).ag (s * 3 + a) = X.rd (s * 3 + a) := fun s hs => (N3_ag (x := X) (N := N) (fun p hp hb => h.ids p hp) hs ha).1 (hnb s) p hp (hnb p)
  have hl : fuseL (N3 X N p) a 4 = [X.rd (0 * 3 + a), X.rd (1 * 3 + a), X.rd (2 * 3 + a), X.rd (3 * 3 + a)] := by
    simp only [fuseL, hin 0 (by omega), hin 1 (by omega), hin 2 (by omega), hin 3 (by omega), if_true, hag 0 (by omega), hag 1 (by omega), hag 2 (by omega), hag 3 (by omega)]
    rfl
  unfold fuseF
  rw [hl, if_neg (by simp)]
theorem beg_inn (s : Nat) (hs : s < 4) : RB0.inn s = true := by
  have : s = 0 ∨ s = 1 ∨ s = 2 ∨ s = 3 := by omega
  rcases this with rfl | rfl | rfl | rfl <;> rfl
theorem beg_ok (id : Int) (t : Tu) (ht : t.In) : NOk (begN id t) := ⟨ht, fun a ha => by
  show (if a < 3 then begS 0 else _ : St).In
  rw [if_pos ha]
  exact begS_in (by unfold Fx.In; omega)⟩
theorem GInv.beg (bad : Int) (t : Tu) (ht : t.In) : GInv bad (begC t).N := by
  have hn : ∀ p, p < 4 → (begC t).N p = begN p t := fun p hp => if_pos hp
  refine ⟨fun p hp => ?_, fun p q hp hq _ _ => ?_, fun p hp _ => ?_, fun p hp => ?_⟩
  · rw [hn p hp]; rfl
  · rw [hn p hp, hn q hq]; exact ⟨rfl, rfl, rfl⟩
  · rw [hn p hp]; exact ⟨RB0_good, fun s hs _ => ⟨beg_inn s hs, rfl⟩⟩
  · rw [hn p hp]; exact beg_ok p t ht
end Go.Proofs.Ytofeoeknmlkjgaa.Nk
end
section
/- fourwatchtop.alive. -/
set_option linter.unusedVariables false
namespace Go.Proofs.Ytofeoeknmlkjgaa.Nk
open Go.RowKit Go.Proofs.Ytofeoeknmlkjgaa Mb Fi Sm

def t0 : Tu := ⟨4294967296, 0, 4294967296, 429496729600⟩
def rd0 (k : Nat) : Int := if k % 3 = 0 then 4294967296 else 0
def y0 : InD := ⟨-1, rd0, .slice none 0 0⟩
theorem t0_in : t0.In := ⟨by show Fx.In 4294967296; unfold Fx.In; omega, by show Fx.In 0; unfold Fx.In; omega, by show Fx.In 4294967296; unfold Fx.In; omega, by show Fx.In 429496729600; unfold Fx.In; omega⟩
theorem rd0_in (k : Nat) : In64 (rd0 k) := by unfold rd0 In64; split <;> omega
theorem frH0 (w : World) : FrH (begC t0) y0 (fun _ => []) none 0 0 [] w :=
  ⟨fun i hi => (GInv.beg (-1) t0 t0_in).ids i hi, by decide, by decide, rfl, by decide, ⟨rfl, VR.nil _ _, fun x hx => by cases hx⟩, fun i hi => (GInv.beg (-1) t0 t0_in).ok i hi, fun k _ => rd0_in k, fun i hi => by decide, fun i hi u hu => by cases hu⟩
theorem place0 : decide (0 < (stepS (begS 0) t0 4294967296).x) = true := by kernel_rfl
theorem mid0 : Md.midZ [4294967296, 4294967296, 4294967296, 4294967296] = 4294967296 := by
  have h := Md.mid_guard (lies := []) (good := [4294967296, 4294967296, 4294967296, 4294967296]) (by decide) (lo := 4294967296) (hi := 4294967296) (by intro g hg; simp at hg; omega)
  have h2 : ([] ++ [4294967296, 4294967296, 4294967296, 4294967296] : List Int) = [4294967296, 4294967296, 4294967296, 4294967296] := rfl
  rw [h2] at h
  omega
theorem alive_facts {N' : Nat → Nd} (hr : ∀ i, i < 4 → ClRel (FX (begC t0) y0 []) (begC t0).N i (N' i)) : (N' 3).vs = true ∧ (N' 2).us 0 = 4294967296 ∧ 0 < ((N' 1).ax 0).x := by
  have hg : GInv (FX (begC t0) y0 []).bad (begC t0).N := GInv.beg _ t0 t0_in
  have hu := fun p hp => hg.plain (X := FX (begC t0) y0 []) rfl hr (p := p) (a := 0) hp (by decide)
  have hm : Md.midZ [(FX (begC t0) y0 []).rd (0 * 3 + 0), (FX (begC t0) y0 []).rd (1 * 3 + 0), (FX (begC t0) y0 []).rd (2 * 3 + 0), (FX (begC t0) y0 []).rd (3 * 3 + 0)] = 4294967296 := mid0
  refine ⟨(hg.verdict hr (by decide) (by decide)).1, (hu 2 (by decide)).trans hm, ?_⟩
  have ha := (hg.axis hr (p := 1) (a := 0) (by decide) (by decide) (by decide)).1
  rw [ha, hu 1 (by decide), hm]
  exact of_decide_eq_true place0

set_option maxRecDepth 100000 in
set_option maxHeartbeats 4000000 in
theorem alive_any (w : World) : Calls Try.prog 13 #[] w fun e w' => e = .returned (.bool true) ∧ Below w.heap.size w w' := by
  have KB : Hid (Calls Try.prog 31 #[.agg #[.int .i64 4294967296, .int .i64 0, .int .i64 4294967296, .int .i64 429496729600]] w fun e w' => e = .returned (.agg (CA (begC t0))) ∧ Below w.heap.size w w') := cbegin_any t0 w
  have kf : ∀ W, Calls Try.prog 27 #[.agg (CA (begC t0)), .agg #[.int .i64 4294967296, .int .i64 0, .int .i64 0, .int .i64 4294967296, .int .i64 0, .int .i64 0, .int .i64 4294967296, .int .i64 0, .int .i64 0, .int .i64 4294967296, .int .i64 0, .int .i64 0, .int .i64 (-1), .slice none 0 0]] W (FramePost (FX (begC t0) y0 []) (begC t0) (fun _ => []) W) :=
    fun W => frame_any (begC t0) y0 (fun _ => []) none 0 0 [] W (frH0 W) (by decide) (by decide) (fun i hi => ⟨none, 0, 0, rfl, VR.nil _ _⟩)
  have KF := Lib.hid kf
  clear kf
  go_enter Try.func13, Try.ntmps13
  go_upto_region 2 with (first
    | (go_at_call 31; (with_reducible refine KB.out.mono ?_); rintro e w1 ⟨rfl, hb1⟩; have HB1 := Lib.hid hb1; clear hb1)
    | (go_at_call 27; (with_reducible refine (KF.out _).mono ?_); rintro e w2 ⟨x', rv, rfl, hB2, hf2, hr2, hA2, hO2⟩; have HB2 := Lib.hid hB2; have HF2 := Lib.hid hf2; have HR2 := Lib.hid hr2; have HO2 := Lib.hid hO2; have HA2 := Lib.hid hA2; clear hB2 hf2 hr2 hA2 hO2)
    | (refine wpList_store_at 48 (.tmp 1) (.tmp 14) rfl rfl w2.heap.size _ _ (CA x') rfl rfl (Blk.new _ _ _) (by rw [zeroCl, CA_size, CA_size]) (by rw [CA_size]; exact infoCl) (CA_one (fun j hj => ag_one HA2.out hj)) ?_; intro w3 hN3 hg3; have HN3 := Lib.hid hN3; have HG3 := Lib.hid hg3; clear hN3 hg3))
  obtain ⟨hv3, hu2, hp1⟩ := alive_facts HR2.out
  have ho3 := own_kept_t (own_below HO2.out ((Below.refl w2.heap.size w2).alloc (Nat.le_refl _) (.cells Try.zeroCells48 48)) (fun z hz => (HO2.out.lt z hz).2)) HG3.out (Blk.new _ _ _) (by decide)
  have ho4 : w3.ownsRow w1.heap.size 60 14 rv 4 (repsL (-1) x'.N 4) := ho3
  obtain ⟨A, c, rfl, hvr⟩ := VR.mk_own ho4
  obtain ⟨b, off, rfl, hlt, hc⟩ := hvr.2.2 (by decide)
  have c51 := hc 51 (.bool (x'.N 3).vs) rfl
  have c30 := hc 30 (.int .i64 ((x'.N 2).us 0)) rfl
  have c19 := hc 19 (.int .i64 ((x'.N 1).ax 0).x) rfl
  have k0 : w3.cell? ⟨w2.heap.size, 0, none⟩ = some (.int .i64 x'.fr) := CB.fr HN3.out
  rw [HF2.out] at k0
  have k01 : w3.cell? ⟨w2.heap.size, 0, none⟩ = some (.int .i64 1) := k0
  rw [hv3] at c51
  rw [hu2] at c30
  have hbb : Below w.heap.size w w3 := (((HB1.out.trans (HB2.out.mono HB1.out.size))).alloc (Nat.le_trans HB1.out.size HB2.out.size) _).grown HG3.out (by have := HB1.out.size; have := HB2.out.size; simp; omega) (fun j hj => by cases hj; exact Nat.le_trans HB1.out.size HB2.out.size)
  have HBB := Lib.hid hbb
  clear ho3 ho4 hvr hc k0 hbb hv3 hu2 HO2 HN3 HG3 HR2 HA2 HF2
  generalize ((x'.N 1).ax 0).x = p at *
  have qp : decide (0 < p) = true := decide_eq_true hp1
  go_wp2_with fail
  go_ret
  exact ⟨rfl, HBB.out⟩
end Go.Proofs.Ytofeoeknmlkjgaa.Nk
end
section
/- fourwatchtop.one: inputs in which the same node is faulty all the time. -/
set_option linter.unusedVariables false
namespace Go.Proofs.Ytofeoeknmlkjgaa.Nk
open Go.RowKit Go.Proofs.Ytofeoeknmlkjgaa Mb Fi Sm

structure Inp where
  bad : Int
  rd : Nat → Int
  A : Option Addr
  n : Nat
  c : Nat
  Ls : List Li
def Inp.y (u : Inp) : InD := ⟨u.bad, u.rd, .slice u.A u.n u.c⟩
def flatI : List Inp → List Value
  | [] => []
  | u :: L => (IA u.y).toList ++ flatI L
theorem IA_len (y : InD) : (IA y).toList.length = 14 := by rw [Array.length_toList, IA_size]
theorem flatI_app : ∀ L M : List Inp, flatI (L ++ M) = flatI L ++ flatI M
  | [], M => rfl
  | u :: L, M => by rw [List.cons_append, flatI, flatI, flatI_app L M, List.append_assoc]
theorem flatI_get : ∀ (L : List Inp) (i : Nat) (u : Inp) (k : Nat), L[i]? = some u → k < 14 → (flatI L)[i * 14 + k]? = some (u.y.c k)
  | [], i, u, k, h, hk => by simp at h
  | q :: L, 0, u, k, h, hk => by
    simp at h; subst h
    rw [flatI, Nat.zero_mul, Nat.zero_add, List.getElem?_append_left (by rw [IA_len]; omega), Array.getElem?_toList]
    unfold IA; rw [AN_get hk]
  | q :: L, i + 1, u, k, h, hk => by
    rw [flatI, List.getElem?_append_right (by rw [IA_len]; omega), show (i + 1) * 14 + k - (IA q.y).toList.length = i * 14 + k by rw [IA_len]; omega]
    exact flatI_get L i u k (by simpa using h) hk
def Inp.Ok (w : World) (u : Inp) : Prop := LiR w u.A u.n u.c u.Ls ∧ u.n ≤ u.c ∧ ∀ k, k < 12 → In64 (u.rd k)
def IR (w : World) (A : Option Addr) (m c : Nat) (L : List Inp) : Prop := L.length = m ∧ VR w 14 A m c (flatI L) ∧ ∀ u ∈ L, u.Ok w
theorem Inp.Ok.next {w w' : World} {u : Inp} (h : u.Ok w) (hb : Below w.heap.size w w') : u.Ok w' := ⟨h.1.next hb, h.2⟩
theorem IR.next {w w' : World} {A : Option Addr} {m c : Nat} {L : List Inp} (h : IR w A m c L) (hb : Below w.heap.size w w') : IR w' A m c L := ⟨h.1, h.2.1.next hb, fun u hu => (h.2.2 u hu).next hb⟩
theorem IR.row {w : World} {A : Option Addr} {m c i : Nat} {L : List Inp} (h : IR w A m c L) (hi : i < m) : ∃ b off u, A = some ⟨b, off, none⟩ ∧ b < w.heap.size ∧ L[i]? = some u ∧ u.Ok w ∧ w.rangeAt b (off + i * 14) (IA u.y).toList := by
  obtain ⟨b, off, rfl, hlt, hc⟩ := h.2.1.2.2 (by omega)
  have hL : i < L.length := by rw [h.1]; exact hi
  have hp : L[i]? = some L[i] := List.getElem?_eq_getElem hL
  refine ⟨b, off, L[i], rfl, hlt, hp, h.2.2 _ (List.getElem_mem hL), fun j v hj => ?_⟩
  obtain ⟨hj2, e⟩ := AN_list hj
  rw [Nat.add_assoc, hc (i * 14 + j) (L[i].y.c j) (flatI_get L i L[i] j hp hj2), e]
theorem IB.setBad {W : World} {g : Nat} {y : InD} (h : IB W g y) (z : Int) : IB (W.setCell ⟨g, 12, none⟩ (.int .i64 z)) g ⟨z, y.rd, y.lv⟩ := by
  have := Blk.set_ h 12 (.int .i64 z)
  unfold IA at this
  rw [AN_set] at this
  unfold IB IA
  rw [AN_congr (g := fun k => if k = 12 then .int .i64 z else y.c k)]
  · exact this
  · intro k hk
    by_cases e : k = 12
    · subst e; rfl
    · rw [if_neg e]; unfold InD.c
      by_cases a : k < 12
      · rw [if_pos a, if_pos a]
      · rw [if_neg a, if_neg a, if_neg (by omega), if_neg (by omega)]
theorem IB.setLv {W : World} {g : Nat} {y : InD} (h : IB W g y) (v : Value) : IB (W.setCell ⟨g, 13, none⟩ v) g ⟨y.bad, y.rd, v⟩ := by
  have := Blk.set_ h 13 v
  unfold IA at this
  rw [AN_set] at this
  unfold IB IA
  rw [AN_congr (g := fun k => if k = 13 then v else y.c k)]
  · exact this
  · intro k hk
    by_cases e : k = 13
    · subst e; rfl
    · rw [if_neg e]; unfold InD.c
      by_cases a : k < 12
      · rw [if_pos a, if_pos a]
      · rw [if_neg a, if_neg a, if_pos (by omega), if_pos (by omega)]
theorem slice_to {P : Program} {t e : TypeId} {i : TypeInfo} {kd : IntKind} {A : Option Addr} {n c k : Nat} (ht : P.underlying t = some (.slice e)) (hi : P.info? e = some i) (hk : k ≤ c) (W : World) :
    (Instr.slice t (.slice A n c) none (some (.int kd (k : Int))) none).run P W = .ok (.slice A k c) W := by
  have e1 : (Instr.sliceBound (.int kd (k : Int)) c .sliceAcap).run P W = .ok k W := by
    have : (k : Int) ≤ c := by omega
    simp [Instr.sliceBound, asIntOf, this, go_sem]
  simp [Instr.slice, Instr.sliceBounds, run_underlying ht, sizeOf, typeInfo, hi, e1]
  intro _
  cases A <;> simp [Addr.add]
def cutI (bad : Int) (u : Inp) : Inp := if 400 < u.n then ⟨bad, u.rd, u.A, 400, u.c, u.Ls.take 400⟩ else ⟨bad, u.rd, u.A, u.n, u.c, u.Ls⟩
def oneL (bad : Int) (L : List Inp) (k : Nat) : List Inp := (L.take k).map (cutI bad)
theorem infoInp : (Try.prog.info? 51).map (fun i => (i.zero, i.size, i.bytes)) = some (some (.agg #[.int .i64 0, .int .i64 0, .int .i64 0, .int .i64 0, .int .i64 0, .int .i64 0, .int .i64 0, .int .i64 0, .int .i64 0, .int .i64 0, .int .i64 0, .int .i64 0, .int .i64 0, .slice none 0 0]), 14, 128) := by kernel_rfl
theorem infoLie : (Try.prog.info? 80).map (fun i => (i.zero, i.size, i.bytes)) = some (some (.agg #[.int .i64 0, .int .i64 0, .slice none 0 0]), 3, 40) := by kernel_rfl
def OnRel (w : World) (bad : Int) (L : List Inp) (ov iv : Value) (wr : World) : Prop :=
  ∃ i : Nat, iv = .int .i64 i ∧ i ≤ L.length ∧ i ≤ 200 ∧ wr.ownsRow w.heap.size 51 14 ov i (flatI (oneL bad L i)) ∧ Below w.heap.size w wr
theorem OnRel.put {w wr w1 w2 : World} {bad : Int} {L : List Inp} {i : Nat} {u : Inp} {ov ov' iv : Value} (hiv : iv = .int .i64 ((i + 1 : Nat) : Int)) (hu : L[i]? = some u) (hi : i < 200) (hB : Below w.heap.size w wr) (ho : wr.ownsRow w.heap.size 51 14 ov i (flatI (oneL bad L i))) (hb1 : Below wr.heap.size wr w1)
    (ho2 : w2.ownsRow w.heap.size 51 14 ov' (i + 1) (flatI (oneL bad L i) ++ (IA (cutI bad u).y).toList)) (hg : w1.grownBy w2 ov.ownBlock) : OnRel w bad L ov' iv w2 := by
  have hlt := (List.getElem?_eq_some_iff.1 hu).1
  refine ⟨i + 1, hiv, hlt, hi, ?_, ?_⟩
  · have e : oneL bad L (i + 1) = oneL bad L i ++ [cutI bad u] := by
      unfold oneL
      rw [List.take_add_one, hu, List.map_append]; rfl
    rw [e, flatI_app]
    show w2.ownsRow _ _ _ _ _ (_ ++ ((IA (cutI bad u).y).toList ++ []))
    rw [List.append_nil]
    exact ho2
  · have h1 := hB.trans (hb1.mono hB.size)
    exact h1.grown hg h1.size (fun j hj => (ho.lt j hj).1)

set_option maxRecDepth 100000 in
set_option maxHeartbeats 4000000 in
theorem one_any (A : Option Addr) (m c : Nat) (L : List Inp) (bad : Int) (w : World) (h : IR w A m c L) (hm : m ≤ 17592186044416) :
    Calls Try.prog 11 #[.slice A m c, .int .i64 bad] w fun e w' => ∃ v n, e = .returned v ∧ n = min L.length 200 ∧ w'.ownsRow w.heap.size 51 14 v n (flatI (oneL bad L n)) ∧ Below w.heap.size w w' := by
  obtain ⟨i0, hi0, hz0, hz1, hz2⟩ := info_parts infoInp
  have hlm := h.1
  subst hlm
  have HH := Lib.hid h
  clear h
  go_enter Try.func11, Try.ntmps11
  go_upto_region 3 with fail
  go_loopw [5, 6] (fun ov iv wr => OnRel w bad L ov iv wr) (fun _ iv _ => L.length - (intOf iv).toNat)
  case atStart => exact ⟨0, rfl, Nat.zero_le _, by omega, World.ownsRow_nil _ _ _ _, Below.refl _ _⟩
  case round =>
    obtain ⟨i, rfl, hi, hi2, hO, hB⟩ := hrel
    obtain ⟨Ao, co, rfl⟩ := own_shape hO
    have hIR := HH.out.next hB
    have HO := Lib.hid hO
    have HB := Lib.hid hB
    clear hO hB
    by_cases hil : i < L.length
    · have q0 : (i : Int) < (L.length : Int) := by omega
      have qq : (0 : Int) ≤ (i : Int) := by omega
      by_cases hi3 : i < 200
      · have q1 : (i : Int) < 200 := by omega
        obtain ⟨b, off, u, rfl, hlt, hu, hok, hra⟩ := hIR.row hil
        have HU := Lib.hid hu
        have HRA := Lib.hid hra
        have hnc := hok.2.1
        clear hIR hu hok hra
        go_upto_region 6 with (first
          | (refine wpList_load_mid rfl 51 (.tmp 20) rfl b (off + i * 14) rfl (IA u.y).toList _ HRA.out Try.underlying51 rfl (by rw [IA_len]; exact infoIn) ?_; rw [show (IA u.y).toList.toArray = IA u.y from Array.toArray_toList ..])
          | (refine wpList_store_at 51 (.tmp 7) (.tmp 21) rfl rfl wr.heap.size _ _ (IA u.y) rfl rfl (Blk.new _ _ _) (by rw [IA_size]; rfl) (by rw [IA_size]; exact infoIn) (IA_one u.y rfl) ?_; intro w2 hN2 hg2; have HN2 : Hid (IB w2 wr.heap.size u.y) := hN2; have HG2 := Lib.hid hg2; clear hN2 hg2))
        have hb2 : Below wr.heap.size wr w2 := ((Below.refl wr.heap.size wr).alloc (Nat.le_refl _) _).grown HG2.out (by simp) (fun j hj => by cases hj; exact Nat.le_refl _)
        have k12 := HN2.out.bad
        have f12 := Blk.frozen HN2.out 12
        have hN3 := HN2.out.setBad bad
        have hb3 : Below wr.heap.size wr (w2.setCell ⟨wr.heap.size, 12, none⟩ (.int .i64 bad)) := hb2.setCell (p := ⟨wr.heap.size, 12, none⟩) (Nat.le_refl _) _
        go_upto_region 7 with fail
        clear k12 f12 HG2 hb2 HN2
        have HN3 := Lib.hid hN3
        have HB3 := Lib.hid hb3
        clear hN3 hb3
        generalize w2.setCell ⟨wr.heap.size, 12, none⟩ (.int .i64 bad) = w3 at *
        have k13 : w3.cell? ⟨wr.heap.size, 13, none⟩ = some (.slice u.A u.n u.c) := HN3.out.lv
        by_cases h4 : 400 < u.n
        · have e5 : decide ((400 : Int) < (u.n : Int)) = true := by rw [decide_eq_true_iff]; omega
          obtain ⟨j0, hj0, jz0, jz1, jz2⟩ := info_parts infoLie
          have hcut : ∀ W : World, (Instr.slice 49 (.slice u.A u.n u.c) none (some (.int .i64 400)) none).run Try.prog W = .ok (.slice u.A 400 u.c) W := fun W => slice_to (kd := .i64) (k := 400) Try.underlying49 hj0 (by omega) W
          have f13 := Blk.frozen HN3.out 13
          have hN4 := HN3.out.setLv (.slice u.A 400 u.c)
          have hb4 : Below wr.heap.size wr (w3.setCell ⟨wr.heap.size, 13, none⟩ (.slice u.A 400 u.c)) := HB3.out.setCell (p := ⟨wr.heap.size, 13, none⟩) (Nat.le_refl _) _
          have hy : (⟨bad, u.rd, .slice u.A 400 u.c⟩ : InD) = (cutI bad u).y := by unfold cutI; rw [if_pos h4]; rfl
          have hN5 : IB (w3.setCell ⟨wr.heap.size, 13, none⟩ (.slice u.A 400 u.c)) wr.heap.size (cutI bad u).y := by rw [← hy]; exact hN4
          go_upto_region 9 with fail
          clear k13 f13 hcut hN4 hy e5 hj0 jz0 jz1 jz2
          have HN5 := Lib.hid hN5
          have HBW := Lib.hid hb4
          clear hN5 hb4
          generalize w3.setCell ⟨wr.heap.size, 13, none⟩ (.slice u.A 400 u.c) = w4 at *
          have hbW := HBW.out
          have hbA := hbW.alloc hbW.size (.cells (IA (cutI bad u).y) 51)
          have hoA := own_below HO.out hbA (fun z hz => (HO.out.lt z hz).2)
          have HOA := Lib.hid hoA
          have hszA := hbA.size
          have hszB := HB.out.size
          have HNW := Lib.hid (World.news_of_block (cs := IA (cutI bad u).y) (Blk.new w4 51 (IA (cutI bad u).y)))
          clear hbW hbA hoA
          go_wp2_with (first
            | (refine wpList_load_at 51 (.tmp 7) rfl rfl wr.heap.size rfl _ (IA (cutI bad u).y) _ HN5.out Try.underlying51 rfl (by rw [IA_size]; exact infoIn) ?_)
            | (refine wpList_buildSlice1 24 (.tmp 33) rfl rfl 51 i0 _ (IA (cutI bad u).y) Try.underlying24 hi0 (by rw [hz1, IA_size]) hz0 (by rw [IA_size]; rfl) (by rw [IA_size]; decide) (by rw [IA_size]; decide) rfl ?_)
            | (at_builtin; refine wpList_append_lies _ rfl _ _ 24 rfl w.heap.size 51 i0 _ 14 128 Try.underlying24 hi0 hz0 hz1 hz2 rfl (by decide) (.slice Ao i co) i (flatI (oneL bad L i)) rfl HOA.out ⟨w4.heap.size, 0, none⟩ 1 1 (IA (cutI bad u).y).toList rfl (by rw [IA_len]) HNW.out (fun z hz => (Array.all_eq_true_iff_forall_mem.1 (IA_one (cutI bad u).y rfl)) z (Array.mem_toList_iff.1 hz)) (by decide) (by unfold maxLen; omega) (by omega) (by omega) _ rfl ?_; intro ga ca w6 ho6 hg6 hv6 hl6; have HO6 := Lib.hid ho6; have HG6 := Lib.hid hg6; clear ho6 hg6 hv6 hl6))
          go_roundw
          case rel => exact OnRel.put (by go_num) HU.out hi3 HB.out HO.out (HBW.out.alloc HBW.out.size _) HO6.out HG6.out
          case measure => simp [intOf]; omega
        · have e5 : decide ((400 : Int) < (u.n : Int)) = false := by rw [decide_eq_false_iff_not]; omega
          have hy : (⟨bad, u.rd, .slice u.A u.n u.c⟩ : InD) = (cutI bad u).y := by unfold cutI; rw [if_neg h4]; rfl
          have hN5 : IB w3 wr.heap.size (cutI bad u).y := by rw [← hy]; exact HN3.out
          go_upto_region 9 with fail
          clear k13 hy e5
          have HN5 := Lib.hid hN5
          have HBW := HB3
          clear hN5
          have hbW := HBW.out
          have hbA := hbW.alloc hbW.size (.cells (IA (cutI bad u).y) 51)
          have hoA := own_below HO.out hbA (fun z hz => (HO.out.lt z hz).2)
          have HOA := Lib.hid hoA
          have hszA := hbA.size
          have hszB := HB.out.size
          have HNW := Lib.hid (World.news_of_block (cs := IA (cutI bad u).y) (Blk.new w3 51 (IA (cutI bad u).y)))
          clear hbW hbA hoA
          go_wp2_with (first
            | (refine wpList_load_at 51 (.tmp 7) rfl rfl wr.heap.size rfl _ (IA (cutI bad u).y) _ HN5.out Try.underlying51 rfl (by rw [IA_size]; exact infoIn) ?_)
            | (refine wpList_buildSlice1 24 (.tmp 33) rfl rfl 51 i0 _ (IA (cutI bad u).y) Try.underlying24 hi0 (by rw [hz1, IA_size]) hz0 (by rw [IA_size]; rfl) (by rw [IA_size]; decide) (by rw [IA_size]; decide) rfl ?_)
            | (at_builtin; refine wpList_append_lies _ rfl _ _ 24 rfl w.heap.size 51 i0 _ 14 128 Try.underlying24 hi0 hz0 hz1 hz2 rfl (by decide) (.slice Ao i co) i (flatI (oneL bad L i)) rfl HOA.out ⟨w3.heap.size, 0, none⟩ 1 1 (IA (cutI bad u).y).toList rfl (by rw [IA_len]) HNW.out (fun z hz => (Array.all_eq_true_iff_forall_mem.1 (IA_one (cutI bad u).y rfl)) z (Array.mem_toList_iff.1 hz)) (by decide) (by unfold maxLen; omega) (by omega) (by omega) _ rfl ?_; intro ga ca w6 ho6 hg6 hv6 hl6; have HO6 := Lib.hid ho6; have HG6 := Lib.hid hg6; clear ho6 hg6 hv6 hl6))
          go_roundw
          case rel => exact OnRel.put (by go_num) HU.out hi3 HB.out HO.out (HBW.out.alloc HBW.out.size _) HO6.out HG6.out
          case measure => simp [intOf]; omega
      · have q1 : decide ((i : Int) < 200) = false := by rw [decide_eq_false_iff_not]; omega
        clear hIR
        go_wp2_with (first | go_big_skip)
        go_ret
        exact ⟨_, _, rfl, rfl, by rw [show min L.length 200 = i by omega]; exact HO.out, HB.out⟩
    · have q0 : decide ((i : Int) < (L.length : Int)) = false := by rw [decide_eq_false_iff_not]; omega
      clear hIR
      go_wp2_with (first | go_big_skip)
      go_ret
      exact ⟨_, _, rfl, rfl, by rw [show min L.length 200 = i by omega]; exact HO.out, HB.out⟩
end Go.Proofs.Ytofeoeknmlkjgaa.Nk
end
section
/- fourwatchtop.behind: the clusters behind each frame, and what was put out. -/
set_option linter.unusedVariables false
namespace Go.Proofs.Ytofeoeknmlkjgaa.Nk
open Go.RowKit Go.Proofs.Ytofeoeknmlkjgaa Mb Fi Sm

def flatC (C : Nat → Cl) : Nat → List Value
  | 0 => []
  | k + 1 => flatC C k ++ (CA (C (k + 1))).toList
def FrameR (u : Inp) (x x' : Cl) : Prop := x'.fr = x.fr + 1 ∧ ∀ p, p < 4 → ClRel (FX x u.y u.Ls) x.N p (x'.N p)
theorem infoClz : ∃ z : Value, (Try.prog.info? 48).map (fun i => (i.zero, i.size, i.bytes)) = some (some z, 297, 2344) ∧ z.cells.size = 297 := ⟨.agg Try.zeroCells48, by kernel_rfl, by rw [show (Value.agg Try.zeroCells48).cells = Try.zeroCells48 from rfl, zeroCl, CA_size]⟩
theorem infoRs : (Try.prog.info? 54).map (fun i => (i.zero, i.size, i.bytes)) = some (some (.slice none 0 0), 1, 24) := by kernel_rfl
def BhRel (w : World) (q7 : Nat) (t : Tu) (bad : Int) (L : List Inp) (av ov iv : Value) (wr : World) : Prop :=
  ∃ (i : Nat) (C : Nat → Cl) (R : Nat → Value) (bs : Nat → List Value), iv = .int .i64 i ∧ i ≤ L.length ∧ C 0 = begC t ∧ (∀ k u, k < i → L[k]? = some u → FrameR u (C k) (C (k + 1))) ∧ (∀ k, k ≤ i → (C k).fr = (k : Int) ∧ ∀ j, j < 4 → ((C k).va j).oneCell' = true) ∧ GInv bad (C i).N ∧
    CB wr q7 (C i) ∧ AgR wr w.heap.size (C i).va bs ∧ (∀ j, j < 4 → (bs j).length ≤ 1000 ∧ ∀ z ∈ bs j, z.oneCell' = true) ∧
    wr.ownsRow (q7 + 1) 48 297 av i (flatC C i) ∧ wr.ownsRow w.heap.size 54 1 ov i ((List.range i).map R) ∧
    (∀ k, k < i → wr.ownsRow w.heap.size 60 14 (R k) (repsN bad 4) (repsL bad (C (k + 1)).N 4)) ∧ Below w.heap.size w wr
def BcCut (wr : World) (u : Inp) (x : Cl) (bs : Nat → List Value) (s11 s12 s13 : Value) (wx : World) : Prop :=
  ∃ q11 x' rv, s11 = .pointer (some ⟨q11, 0, none⟩) ∧ s12 = rv ∧ s13 = .int .i64 0 ∧ CB wx q11 x' ∧ Below wr.heap.size wr wx ∧ x'.fr = x.fr + 1 ∧ (∀ p, p < 4 → ClRel (FX x u.y u.Ls) x.N p (x'.N p)) ∧ AgR wx wr.heap.size x'.va (agB (FX x u.y u.Ls) x.N bs) ∧
    wx.ownsRow wr.heap.size 60 14 rv (repsN u.bad 4) (repsL u.bad x'.N 4) ∧ wr.heap.size ≤ q11
theorem bc_cut {wr w6 w8 : World} {u : Inp} {x x' : Cl} {bs : Nat → List Value} {rv : Value} {q11 : Nat} {zc : Array Value} (hZ : Blk w6 q11 48 zc) (hB : Below wr.heap.size wr w6) (hf : x'.fr = x.fr + 1) (hr : ∀ p, p < 4 → ClRel (FX x u.y u.Ls) x.N p (x'.N p)) (hA : AgR w6 wr.heap.size x'.va (agB (FX x u.y u.Ls) x.N bs))
    (hO : w6.ownsRow wr.heap.size 60 14 rv (repsN u.bad 4) (repsL u.bad x'.N 4)) (hN : CB w8 q11 x') (hg : w6.grownBy w8 (some q11)) (hq : wr.heap.size ≤ q11) : BcCut wr u x bs (.pointer (some ⟨q11, 0, none⟩)) rv (.int .i64 0) w8 :=
  ⟨q11, x', rv, rfl, rfl, rfl, hN, hB.grown hg hB.size (fun j hj => by cases hj; exact hq), hf, hr, fun j hj => own_kept_t (hA j hj) hg hZ (by decide), own_kept_t hO hg hZ (by decide), hq⟩
theorem exec_load_in {o : Oper} {ρ : Operand → Value} {w : World} (q : Operand) (ho : o.op = .load 51 q) (g off : Nat) (hq : ρ q = .pointer (some ⟨g, off, none⟩)) (y : InD) (hb : w.rangeAt g off (IA y).toList) :
    (execOp ρ o).run Try.prog w = .ok (.value (.agg (IA y))) w := by
  have := exec_load_mid 51 q ho g off hq (IA y).toList _ hb Try.underlying51 rfl (by rw [IA_len]; exact infoIn)
  simpa using this
theorem results_three {P : Program} {fn : Func} {p q r : Tmp} (h : fn.results = #[.tmp p, .tmp q, .tmp r]) (tmps : Array Value) (w : World) (e f g : Value)
    (hp : tmps.getD p undef = e) (hq : tmps.getD q undef = f) (hr : tmps.getD r undef = g) : (results fn tmps).run P w = .ok (.tuple #[e, f, g]) w := by
  have hp' : tmps[p]?.getD undef = e := by simpa using hp
  have hq' : tmps[q]?.getD undef = f := by simpa using hq
  have hr' : tmps[r]?.getD undef = g := by simpa using hr
  simp [results, h, hp', hq', hr']
theorem flatC_congr (C C' : Nat → Cl) : ∀ k, (∀ j, j ≤ k → C j = C' j) → flatC C k = flatC C' k
  | 0, _ => rfl
  | k + 1, h => by unfold flatC; rw [flatC_congr C C' k (fun j hj => h j (by omega)), h (k + 1) (by omega)]
theorem own_keep_own {w w' : World} {base size n base' size' n' : Nat} {e e' : TypeId} {v v' : Value} {xs xs' : List Value} (h : w.ownsRow base e size v n xs) (hg : w.grownBy w' v'.ownBlock) (h' : w.ownsRow base' e' size' v' n' xs') (hne : e ≠ e') : w'.ownsRow base e size v n xs := by
  refine h.kept hg ?_
  cases hv : v.ownBlock with
  | none => exact .inl rfl
  | some q => exact .inr (fun e => own_own_ne h h' hne hv e.symm)
theorem BhRel.put {w wr wc w4 w5 w6 : World} {q7 : Nat} {t : Tu} {bad : Int} {L : List Inp} {i : Nat} {C : Nat → Cl} {R : Nat → Value} {bs : Nat → List Value} {u : Inp} {x' : Cl} {rv : Value} {iv : Value} {Aa Ao : Option Addr} {ca co ga ga2 ca2 co2 : Nat}
    (hil : L[i]? = some u) (hub : u.bad = bad) (hiv : iv = .int .i64 ((i + 1 : Nat) : Int)) (hC0 : C 0 = begC t) (hF : ∀ k u, k < i → L[k]? = some u → FrameR u (C k) (C (k + 1))) (hFr : ∀ k, k ≤ i → (C k).fr = (k : Int) ∧ ∀ j, j < 4 → ((C k).va j).oneCell' = true) (hG : GInv bad (C i).N) (hAg : AgR wr w.heap.size (C i).va bs) (hbs : ∀ j, j < 4 → (bs j).length ≤ 1000 ∧ ∀ z ∈ bs j, z.oneCell' = true)
    (hAv : wr.ownsRow (q7 + 1) 48 297 (.slice Aa i ca) i (flatC C i)) (hOv : wr.ownsRow w.heap.size 54 1 (.slice Ao i co) i ((List.range i).map R)) (hRv : ∀ k, k < i → wr.ownsRow w.heap.size 60 14 (R k) (repsN bad 4) (repsL bad (C (k + 1)).N 4)) (hB : Below w.heap.size w wr) (hCB : CB wr q7 (C i)) (hq7 : w.heap.size ≤ q7)
    (hBc : Below wr.heap.size wr wc) (hfx : x'.fr = (C i).fr + 1) (hrx : ∀ p, p < 4 → ClRel (FX (C i) u.y u.Ls) (C i).N p (x'.N p)) (hAx : AgR wc wr.heap.size x'.va (agB (FX (C i) u.y u.Ls) (C i).N bs)) (hOx : wc.ownsRow wr.heap.size 60 14 rv (repsN u.bad 4) (repsL u.bad x'.N 4))
    (hN4 : CB w4 q7 x') (hg4 : wc.grownBy w4 (some q7))
    (ho5 : w5.ownsRow (q7 + 1) 48 297 (.slice (some ⟨ga, 0, none⟩) (i + 1) ca2) (i + 1) (flatC C i ++ (CA x').toList)) (hg5 : (w4.alloc (.cells (CA x') 48)).grownBy w5 (Value.slice Aa i ca).ownBlock)
    (ho6 : w6.ownsRow w.heap.size 54 1 (.slice (some ⟨ga2, 0, none⟩) (i + 1) co2) (i + 1) ((List.range i).map R ++ [rv])) (hg6 : (w5.alloc (.cells #[rv] 54)).grownBy w6 (Value.slice Ao i co).ownBlock) :
    BhRel w q7 t bad L (.slice (some ⟨ga, 0, none⟩) (i + 1) ca2) (.slice (some ⟨ga2, 0, none⟩) (i + 1) co2) iv w6 := by
  have hws := hB.size
  have hAv4 : w4.ownsRow (q7 + 1) 48 297 (.slice Aa i ca) i (flatC C i) := (own_below hAv hBc (fun z hz => (hAv.lt z hz).2)).kept hg4 (by
    cases hv : (Value.slice Aa i ca).ownBlock with
    | none => exact .inl rfl
    | some q => exact .inr (fun e => by have h1 := (hAv.lt q hv).1; have h2 := Option.some.inj e; omega))
  have hOv4 := own_kept_t (own_below hOv hBc (fun z hz => (hOv.lt z hz).2)) hg4 (CB.next hCB hBc) (by decide)
  have ha1 : Below w4.heap.size w4 (w4.alloc (.cells (CA x') 48)) := (Below.refl _ _).alloc (Nat.le_refl _) _
  have ha2 : Below w5.heap.size w5 (w5.alloc (.cells #[rv] 54)) := (Below.refl _ _).alloc (Nat.le_refl _) _
  have hAvA := own_below hAv4 ha1 (fun z hz => (hAv4.lt z hz).2)
  have hOvA := own_below hOv4 ha1 (fun z hz => (hOv4.lt z hz).2)
  have hOv5 := own_keep_own hOvA hg5 hAvA (by decide)
  have hOvB := own_below hOv5 ha2 (fun z hz => (hOv5.lt z hz).2)
  have hkeep : ∀ {base size n : Nat} {e : TypeId} {v : Value} {xs : List Value}, wc.ownsRow base e size v n xs → e ≠ 48 → e ≠ 54 → w6.ownsRow base e size v n xs := fun h h1 h2 => by
    have k4 := own_kept_t h hg4 (CB.next hCB hBc) h1
    have kA := own_below k4 ha1 (fun z hz => (k4.lt z hz).2)
    have k5 := own_keep_own kA hg5 hAvA h1
    have kB := own_below k5 ha2 (fun z hz => (k5.lt z hz).2)
    exact own_keep_own kB hg6 hOvB h2
  have hx' : ∀ j, j < i + 1 → (fun k => if k = i + 1 then x' else C k) j = C j := fun j hj => if_neg (by omega)
  have hxl : (fun k => if k = i + 1 then x' else C k) (i + 1) = x' := if_pos rfl
  have hlt := (List.getElem?_eq_some_iff.1 hil).1
  have hb4 := (hB.trans (hBc.mono hws)).grown hg4 (Nat.le_trans hws hBc.size) (fun j hj => by cases hj; exact hq7)
  have hbA := hb4.alloc hb4.size (.cells (CA x') 48)
  have hb5 := hbA.grown hg5 hbA.size (fun j hj => Nat.le_trans (by omega) (hAvA.lt j hj).1)
  have hbB := hb5.alloc hb5.size (.cells #[rv] 54)
  have hb6 := hbB.grown hg6 hbB.size (fun j hj => (hOvB.lt j hj).1)
  refine ⟨i + 1, fun k => if k = i + 1 then x' else C k, fun k => if k = i then rv else R k, agB (FX (C i) u.y u.Ls) (C i).N bs, hiv, hlt, ?_, ?_, ?_, ?_, ?_, ?_, ?_, ?_, ?_, ?_, hb6⟩
  · exact (hx' 0 (by omega)).trans hC0
  · intro k v hk hv
    by_cases e : k = i
    · subst e
      obtain rfl : u = v := by rw [hil] at hv; exact Option.some.inj hv
      rw [hx' k (by omega), hxl]
      exact ⟨hfx, hrx⟩
    · rw [hx' k (by omega), hx' (k + 1) (by omega)]
      exact hF k v (by omega) hv
  · intro k hk
    by_cases e : k = i + 1
    · subst e
      rw [hxl]
      exact ⟨by rw [hfx, (hFr i (Nat.le_refl _)).1]; omega, fun j hj => ag_one hAx hj⟩
    · rw [hx' k (by omega)]; exact hFr k (by omega)
  · rw [hxl]
    have hgg : GInv (FX (C i) u.y u.Ls).bad (C i).N := by rw [show (FX (C i) u.y u.Ls).bad = u.bad from rfl, hub]; exact hG
    have := hgg.step hrx
    rw [show (FX (C i) u.y u.Ls).bad = u.bad from rfl, hub] at this
    exact this
  · rw [hxl]
    have k5 : CB w5 q7 x' := Blk.grown (CB.next hN4 ha1) hg5 (fun e => by have h1 := (hAvA.lt q7 e.symm).1; omega)
    exact Blk.grown (CB.next k5 ha2) hg6 (own_blk_ne hOvB (CB.next k5 ha2) (by decide))
  · rw [hxl]
    exact fun j hj => own_le (hkeep (hAx j hj) (by decide) (by decide)) hws
  · intro j hj
    by_cases hb : (j : Int) = (FX (C i) u.y u.Ls).bad
    · have e : agB (FX (C i) u.y u.Ls) (C i).N bs j = bs j := by unfold agB mixN; rw [if_neg (by omega)]
      rw [e]; exact hbs j hj
    · exact ⟨by rw [agB_len hb hj]; omega, agB_one hb hj⟩
  · have e : flatC (fun k => if k = i + 1 then x' else C k) (i + 1) = flatC C i ++ (CA x').toList := by
      show flatC (fun k => if k = i + 1 then x' else C k) i ++ (CA ((fun k => if k = i + 1 then x' else C k) (i + 1))).toList = _
      rw [hxl, flatC_congr _ C i (fun j hj => hx' j (by omega))]
    rw [e]
    have k5 := ho5
    have kB := own_below k5 ha2 (fun z hz => (k5.lt z hz).2)
    exact own_keep_own kB hg6 hOvB (by decide)
  · have e : (List.range (i + 1)).map (fun k => if k = i then rv else R k) = (List.range i).map R ++ [rv] := by
      rw [List.range_succ, List.map_append]
      congr 1
      · apply List.map_congr_left
        intro k hk
        rw [List.mem_range] at hk
        exact if_neg (by omega)
      · simp
    rw [e]; exact ho6
  · intro k hk
    by_cases e : k = i
    · subst e
      show w6.ownsRow _ _ _ (if k = k then rv else R k) _ (repsL bad ((fun j => if j = k + 1 then x' else C j) (k + 1)).N 4)
      rw [if_pos rfl, hxl, ← hub]
      exact own_le (hkeep hOx (by decide) (by decide)) hws
    · show w6.ownsRow _ _ _ (if k = i then rv else R k) _ (repsL bad ((fun j => if j = i + 1 then x' else C j) (k + 1)).N 4)
      rw [if_neg e, hx' (k + 1) (by omega)]
      have hk2 := hRv k (by omega)
      exact hkeep (own_below hk2 hBc (fun z hz => (hk2.lt z hz).2)) (by decide) (by decide)
theorem AgR.down {W : World} {B B' : Nat} {va : Nat → Value} {b : Nat → List Value} (h : AgR W B va b) (hB : B' ≤ B) : AgR W B' va b := fun j hj => own_le (h j hj) hB

set_option maxRecDepth 100000 in
set_option maxHeartbeats 4000000 in
theorem behind_any (t : Tu) (ht : t.In) (bad : Int) (hb0 : -1 ≤ bad) (hb1 : bad < 4) (A : Option Addr) (m c : Nat) (L : List Inp) (w : World) (h : IR w A m c L) (hm : m ≤ 200) (hbad : ∀ u ∈ L, u.bad = bad) (h400 : ∀ u ∈ L, u.n ≤ 400) :
    Calls Try.prog 12 #[t.val, .slice A m c] w fun e w' => ∃ av ov q7, e = .returned (.tuple #[av, ov, .bool true]) ∧ BhRel w q7 t bad L av ov (.int .i64 L.length) w' := by
  obtain ⟨zc, hzc, hzs⟩ := infoClz
  obtain ⟨i0, hi0, hz0, hz1, hz2⟩ := info_parts hzc
  obtain ⟨j0, hj0, jz0, jz1, jz2⟩ := info_parts infoRs
  have hlm := h.1
  subst hlm
  have HH := Lib.hid h
  have HBAD := Lib.hid hbad
  have H400 := Lib.hid h400
  have HZS := Lib.hid hzs
  have HT := Lib.hid ht
  have KB := Lib.hid (fun W => cbegin_any t W)
  unfold Tu.val at KB
  have hT0 : TB (w.alloc (.cells #[.int .i64 t.dt, .int .i64 t.q, .int .i64 t.r, .int .i64 t.g] 23)) w.heap.size t := Blk.new _ _ _
  obtain ⟨y0, y1, y2, y3⟩ := TB.c hT0
  clear h hbad h400 hzc ht hT0
  unfold Tu.val
  go_enter Try.func12, Try.ntmps12
  go_upto_region 5 with (first
    | (go_at_call 31; (with_reducible refine (KB.out _).mono ?_); rintro e w1 ⟨rfl, hb1⟩; have HB1 := Lib.hid hb1; clear hb1)
    | (refine wpList_store_at 48 (.tmp 7) (.tmp 15) rfl rfl w1.heap.size _ _ (CA (begC t)) rfl rfl (Blk.new _ _ _) (by rw [zeroCl, CA_size, CA_size]) (by rw [CA_size]; exact infoCl) (CA_one (fun j hj => rfl)) ?_; intro w2 hN2 hg2; have HN2 : Hid (CB w2 w1.heap.size (begC t)) := hN2; have HG2 := Lib.hid hg2; clear hN2 hg2))
  have hbw : Below w.heap.size w w2 := (((((Below.refl w.heap.size w).alloc (Nat.le_refl _) _).trans (HB1.out.mono (by simp)))).alloc (by have := HB1.out.size; simp at this; omega) _).grown HG2.out (by have := HB1.out.size; simp at this; simp; omega) (fun j hj => by cases hj; have := HB1.out.size; simp at this; omega)
  have hs1 : w.heap.size < w1.heap.size := by have := HB1.out.size; simp at this; omega
  have HS : Hid (BhRel w w1.heap.size t bad L (.slice none 0 0) (.slice none 0 0) (.int .i64 0) w2) :=
    ⟨0, fun _ => begC t, fun _ => .slice none 0 0, fun _ => [], rfl, Nat.zero_le _, rfl, fun k u hk => absurd hk (Nat.not_lt_zero _), fun k hk => (by obtain rfl : k = 0 := (by omega); exact ⟨rfl, fun j hj => rfl⟩), GInv.beg bad t HT.out, HN2.out, fun j hj => World.ownsRow_nil _ _ _ _, fun j hj => ⟨by simp, fun z hz => by cases hz⟩, World.ownsRow_nil _ _ _ _, World.ownsRow_nil _ _ _ _, fun k hk => absurd hk (Nat.not_lt_zero _), hbw⟩
  clear HN2 HG2 hbw HB1 KB y0 y1 y2 y3
  have hq7w : w.heap.size ≤ w1.heap.size := by omega
  generalize w1.heap.size = q7 at *
  go_loopw [8, 9, 10] (fun av ov iv wr => BhRel w q7 t bad L av ov iv wr) (fun _ _ iv _ => L.length - (intOf iv).toNat)
  case atStart => exact HS.out
  case round =>
    clear HS
    obtain ⟨i, C, R, bs, rfl, hi, hC0, hF, hFr, hG, hCB, hAg, hbs, hAv, hOv, hRv, hB⟩ := hrel
    obtain ⟨Aa, ca, rfl⟩ := own_shape hAv
    obtain ⟨Ao, co, rfl⟩ := own_shape hOv
    have hIR := HH.out.next hB
    have HC0 := Lib.hid hC0
    have HF := Lib.hid hF
    have HFr := Lib.hid hFr
    have HG := Lib.hid hG
    have HCB := Lib.hid hCB
    have HAg := Lib.hid hAg
    have Hbs := Lib.hid hbs
    have HAv := Lib.hid hAv
    have HOv := Lib.hid hOv
    have HRv := Lib.hid hRv
    have HB := Lib.hid hB
    clear hC0 hF hFr hG hCB hAg hbs hAv hOv hRv hB
    by_cases hil : i < L.length
    · have q0 : (i : Int) < (L.length : Int) := by omega
      have qq : (0 : Int) ≤ (i : Int) := by omega
      obtain ⟨b, off, u, rfl, hlt, hu, hok, hra⟩ := hIR.row hil
      have hum := List.mem_of_getElem? hu
      have hubad := HBAD.out u hum
      have hH : ∀ W, Below wr.heap.size wr W → FrH (C i) u.y bs u.A u.n u.c u.Ls W := fun W hW => ⟨fun p hp => HG.out.ids p hp, by rw [(HFr.out i (Nat.le_refl _)).1]; omega, by rw [(HFr.out i (Nat.le_refl _)).1]; omega, rfl, H400.out u hum, hok.1.next hW, fun p hp => HG.out.ok p hp, hok.2.2, fun p hp => (Hbs.out p hp).1, fun p hp => (Hbs.out p hp).2⟩
      have KF := Lib.hid (fun W (hW : Below wr.heap.size wr W) => frame_any (C i) u.y bs u.A u.n u.c u.Ls W (hH W hW) (by show -1 ≤ u.bad; omega) (by show u.bad < 4; omega) (fun p hp => by obtain ⟨Av, cv, e⟩ := own_shape (HAg.out p hp); have h2 := HAg.out p hp; rw [e] at h2; exact ⟨Av, _, cv, e, (VR.own h2).next hW⟩))
      have HRA := Lib.hid (fun W (hW : Below wr.heap.size wr W) => show W.rangeAt b (off + i * 14) (IA u.y).toList from fun j v hj => (hW.cell (p := ⟨b, off + i * 14 + j, none⟩) hlt).trans (hra j v hj))
      have HU := Lib.hid hu
      have HUB := Lib.hid hubad
      have hfri := (HFr.out i (Nat.le_refl _)).1
      have HFRI := Lib.hid hfri
      clear hIR hok hra hu hum hubad hH hfri
      go_upto_region 7 with fail
      go_cut [11, 12, 13] (fun s11 s12 s13 wx => BcCut wr u (C i) bs s11 s12 s13 wx)
      case first =>
        refine wp_region_G 13 (fun w' => Below wr.heap.size wr w') (by kernel_rfl) ((Below.refl _ _).drew) (fun hS => ?_)
        refine wpAnyG_take (i := 0) (v := .agg (CA (C i))) rfl (by kernel_rfl) (by kernel_rfl) (by kernel_rfl) (by kernel_rfl) (by kernel_rfl) (by kernel_rfl) (fun _ _ _ h => h) (Or.inl ⟨by rfl, fun wx hSw => exec_load_row 48 (.tmp 7) rfl q7 rfl _ _ _ (CB.next HCB.out hSw) Try.underlying48 rfl (by rw [CA_size]; exact infoCl)⟩) hS ?_
        try simp only [pts]
        refine wpAnyG_p (i := 1) (v := ?_) rfl (by kernel_rfl) (fun _ _ _ h => h) (by rfl) (fun wx => ?_) hS ?_
        rotate_left
        · go_simp; (try with_reducible rfl)
        try simp only [pts]
        refine wpAnyG_p (i := 2) (v := ?_) rfl (by kernel_rfl) (fun _ _ _ h => h) (by rfl) (fun wx => ?_) hS ?_
        rotate_left
        · go_simp; (try with_reducible rfl)
        try simp only [pts]
        refine wpAnyG_p (i := 3) (v := ?_) rfl (by kernel_rfl) (fun _ _ _ h => h) (by rfl) (fun wx => ?_) hS ?_
        rotate_left
        · go_simp; (try with_reducible rfl)
        try simp only [pts]
        refine wpAnyG_take (i := 4) (v := .agg (IA u.y)) rfl (by kernel_rfl) (by kernel_rfl) (by kernel_rfl) (by kernel_rfl) (by kernel_rfl) (by kernel_rfl) (fun _ _ _ h => h) (Or.inl ⟨by rfl, fun wx hSw => exec_load_in (.tmp 26) rfl b (off + i * 14) rfl _ (HRA.out _ hSw)⟩) hS ?_
        try simp only [pts]
        refine wpAnyG_two (i := 5) (j := 10) rfl rfl (by kernel_rfl) (fun K hK => ?_) (fun K hK => ?_)
        · go_simp
          (with_reducible refine (KF.out _ hS).mono ?_)
          rintro e w6 ⟨x', rv, rfl, hB6, hf6, hr6, hA6, hO6⟩
          have hs0 := hS.size
          have hS6 := hS.trans (hB6.mono hs0)
          have hs6 := hS6.size
          have hA := AgR.down hA6 hs0
          have hO := own_le hO6 hs0
          clear hA6 hO6 hB6 hS
          have hS := hS6
          refine hK.out _ _ hS ?_
          clear hK K
          try simp only [pts]
          refine wpAnyG_p (i := 6) (v := ?_) rfl (by kernel_rfl) (fun _ _ _ h => h) (by rfl) (fun wx => ?_) hS ?_
          rotate_left
          · go_simp; (try with_reducible rfl)
          try simp only [pts]
          refine wpAnyG_p (i := 7) (v := ?_) rfl (by kernel_rfl) (fun _ _ _ h => h) (by rfl) (fun wx => ?_) hS ?_
          rotate_left
          · go_simp; (try with_reducible rfl)
          try simp only [pts]
          refine wpAnyG_p (i := 8) (v := ?_) rfl (by kernel_rfl) (fun _ _ _ h => h) (by rfl) (fun wx => ?_) hS ?_
          rotate_left
          · go_simp; (try with_reducible rfl)
          try simp only [pts]
          refine wpAnyG_p (i := 9) (v := ?_) rfl (by kernel_rfl) (fun _ _ _ h => h) (by rfl) (fun wx => ?_) hS ?_
          rotate_left
          · go_simp; (try with_reducible rfl)
          try simp only [pts]
          refine wpAnyG_one (i := 10) rfl (by kernel_rfl) (fun K hK => ?_)
          go_simp
          have hX1 : Below wr.heap.size wr (w6.alloc (.cells Try.zeroCells48 48)) := hS.alloc hS.size _
          clear hS
          have hS := hX1
          have hz : Blk (w6.alloc (.cells Try.zeroCells48 48)) w6.heap.size 48 Try.zeroCells48 := Blk.new _ _ _
          have hA1 : AgR (w6.alloc (.cells Try.zeroCells48 48)) wr.heap.size x'.va _ := fun j hj => own_below (hA j hj) ((Below.refl _ _).alloc (Nat.le_refl _) _) (fun z hz => ((hA j hj).lt z hz).2)
          have hO1 := own_below hO ((Below.refl w6.heap.size w6).alloc (Nat.le_refl _) (.cells Try.zeroCells48 48)) (fun z hz => (hO.lt z hz).2)
          clear hA hO
          have hA := hA1
          have hO := hO1
          refine hK.out _ _ hS ?_
          clear hK K
          try simp only [pts]
          refine wpAnyG_one (i := 11) rfl (by kernel_rfl) (fun K hK => ?_)
          rw [if_pos (by rfl)]
          refine wp_store_row 48 (.tmp 11) (.tmp 29) rfl (w6.heap.size) _ _ (CA x') rfl rfl hz (by rw [zeroCl, CA_size, CA_size]) (by rw [CA_size]; exact infoCl) (CA_one (fun j hj => ag_one hA hj)) (fun w8 hN8 hg8 => ?_)
          have hS8 := hS.grown hg8 hS.size (fun j hj => by cases hj; omega)
          refine hK.out _ _ hS8 ?_
          clear hK K
          try simp only [pts]
          refine wpAnyG_p (i := 12) (v := ?_) rfl (by kernel_rfl) (fun _ _ _ h => h) (by rfl) (fun wx => ?_) hS8 ?_
          rotate_left
          · go_simp; (try with_reducible rfl)
          try simp only [pts]
          refine wpAnyG_last rfl (by kernel_rfl) (by kernel_rfl) (by kernel_rfl) (fun K hK => ?_)
          go_simp
          refine hK.out _ _ ?_
          clear hK K
          try simp only [pts]
          go_wp2_with fail
          go_meet
          exact bc_cut hz hS hf6 hr6 hA hO hN8 hg8 (by omega)
        · go_simp
          have hX1 : Below wr.heap.size wr (wr.alloc (.cells Try.zeroCells48 48)) := (Below.refl _ _).alloc (Nat.le_refl _) _
          clear hS
          have hS : Below wr.heap.size wr (wr.alloc (.cells Try.zeroCells48 48)).drew := hX1.drew
          have hz0 : Blk (wr.alloc (.cells Try.zeroCells48 48)).drew wr.heap.size 48 Try.zeroCells48 := Blk.new _ _ _
          refine hK.out _ _ hS ?_
          clear hK K
          try simp only [pts]
          refine wpAnyG_one (i := 5) rfl (by kernel_rfl) (fun K hK => ?_)
          go_simp
          (with_reducible refine (KF.out _ hS).mono ?_)
          rintro e w6 ⟨x', rv, rfl, hB6, hf6, hr6, hA6, hO6⟩
          have hs0 := hS.size
          have hS6 := hS.trans (hB6.mono hs0)
          have hs6 := hS6.size
          have hz := hz0.next hB6
          have hA := AgR.down hA6 hs0
          have hO := own_le hO6 hs0
          clear hA6 hO6 hB6 hS
          have hS := hS6
          refine hK.out _ _ hS ?_
          clear hK K
          try simp only [pts]
          refine wpAnyG_p (i := 6) (v := ?_) rfl (by kernel_rfl) (fun _ _ _ h => h) (by rfl) (fun wx => ?_) hS ?_
          rotate_left
          · go_simp; (try with_reducible rfl)
          try simp only [pts]
          refine wpAnyG_p (i := 7) (v := ?_) rfl (by kernel_rfl) (fun _ _ _ h => h) (by rfl) (fun wx => ?_) hS ?_
          rotate_left
          · go_simp; (try with_reducible rfl)
          try simp only [pts]
          refine wpAnyG_p (i := 8) (v := ?_) rfl (by kernel_rfl) (fun _ _ _ h => h) (by rfl) (fun wx => ?_) hS ?_
          rotate_left
          · go_simp; (try with_reducible rfl)
          try simp only [pts]
          refine wpAnyG_p (i := 9) (v := ?_) rfl (by kernel_rfl) (fun _ _ _ h => h) (by rfl) (fun wx => ?_) hS ?_
          rotate_left
          · go_simp; (try with_reducible rfl)
          try simp only [pts]
          refine wpAnyG_one (i := 11) rfl (by kernel_rfl) (fun K hK => ?_)
          rw [if_pos (by rfl)]
          refine wp_store_row 48 (.tmp 11) (.tmp 29) rfl (wr.heap.size) _ _ (CA x') rfl rfl hz (by rw [zeroCl, CA_size, CA_size]) (by rw [CA_size]; exact infoCl) (CA_one (fun j hj => ag_one hA hj)) (fun w8 hN8 hg8 => ?_)
          have hS8 := hS.grown hg8 hS.size (fun j hj => by cases hj; omega)
          refine hK.out _ _ hS8 ?_
          clear hK K
          try simp only [pts]
          refine wpAnyG_p (i := 12) (v := ?_) rfl (by kernel_rfl) (fun _ _ _ h => h) (by rfl) (fun wx => ?_) hS8 ?_
          rotate_left
          · go_simp; (try with_reducible rfl)
          try simp only [pts]
          refine wpAnyG_last rfl (by kernel_rfl) (by kernel_rfl) (by kernel_rfl) (fun K hK => ?_)
          go_simp
          refine hK.out _ _ ?_
          clear hK K
          try simp only [pts]
          go_wp2_with fail
          go_meet
          exact bc_cut hz hS hf6 hr6 hA hO hN8 hg8 (by omega)
      case rest =>
        obtain ⟨q11, x', rv, rfl, hrv, rfl, hN11, hBc, hfx, hrx, hAx, hOx, hq11⟩ := hcut
        obtain ⟨Ar, cr, har⟩ := own_shape hOx
        subst har
        subst hrv
        have k0 : wc.cell? ⟨q11, 0, none⟩ = some (.int .i64 ((i : Int) + 1)) := by have e := CB.fr hN11; rw [hfx, HFRI.out] at e; exact e
        have qn : (((i : Int) + 1) != ((i : Int) + 1)) = false := by simp
        have HN11 := Lib.hid hN11
        have HBc := Lib.hid hBc
        have HFX := Lib.hid hfx
        have HRX := Lib.hid hrx
        have HAX := Lib.hid hAx
        have HOX := Lib.hid hOx
        have HCBc := Lib.hid (CB.next HCB.out hBc)
        clear hN11 hBc hfx hrx hAx hOx KF HRA
        go_upto_region 11 with (first
          | (refine wpList_load_at 48 (.tmp 11) rfl rfl q11 rfl _ (CA x') _ HN11.out Try.underlying48 rfl (by rw [CA_size]; exact infoCl) ?_)
          | (refine wpList_store_at 48 (.tmp 7) (.tmp 41) rfl rfl q7 _ (CA (C i)) (CA x') rfl rfl HCBc.out (by rw [CA_size, CA_size]) (by rw [CA_size]; exact infoCl) (CA_one (fun j hj => ag_one HAX.out hj)) ?_; intro w4 hN4 hg4; have HN4 : Hid (CB w4 q7 x') := hN4; have HG4 := Lib.hid hg4; clear hN4 hg4)
          | go_big_skip)
        clear k0 qn
        have hAv4 : w4.ownsRow (q7 + 1) 48 297 (.slice Aa i ca) i (flatC C i) := (own_below HAv.out HBc.out (fun z hz => (HAv.out.lt z hz).2)).kept HG4.out (by
          cases hv : (Value.slice Aa i ca).ownBlock with
          | none => exact .inl rfl
          | some q => exact .inr (fun e => by have h1 := (HAv.out.lt q hv).1; have h2 := Option.some.inj e; omega))
        have hOv4 := own_kept_t (own_below HOv.out HBc.out (fun z hz => (HOv.out.lt z hz).2)) HG4.out HCBc.out (by decide)
        have ha1 : Below w4.heap.size w4 (w4.alloc (.cells (CA x') 48)) := (Below.refl _ _).alloc (Nat.le_refl _) _
        have HAvA := Lib.hid (own_below hAv4 ha1 (fun z hz => (hAv4.lt z hz).2))
        have HOvA := Lib.hid (own_below hOv4 ha1 (fun z hz => (hOv4.lt z hz).2))
        have HNW1 := Lib.hid (World.news_of_block (cs := CA x') (Blk.new w4 48 (CA x')))
        have hq7l := Blk.lt HN4.out
        have hwwr := HB.out.size
        have hwwc := HBc.out.size
        have hwc4 := HG4.out.size
        clear hAv4 hOv4 ha1
        go_wp2_with (first
          | (refine wpList_load_at 48 (.tmp 7) rfl rfl q7 rfl _ (CA x') _ HN4.out Try.underlying48 rfl (by rw [CA_size]; exact infoCl) ?_)
          | (refine wpList_buildSlice1 27 (.tmp 43) rfl rfl 48 i0 zc (CA x') Try.underlying27 hi0 (by rw [hz1, CA_size]) hz0 (by rw [CA_size]; exact HZS.out) (by rw [CA_size]; decide) (by rw [CA_size]; decide) rfl ?_)
          | (at_builtin; refine wpList_append_lies _ rfl _ _ 27 rfl (q7 + 1) 48 i0 zc 297 2344 Try.underlying27 hi0 hz0 hz1 hz2 HZS.out (by decide) (.slice Aa i ca) i (flatC C i) rfl HAvA.out ⟨w4.heap.size, 0, none⟩ 1 1 (CA x').toList rfl (by rw [Array.length_toList, CA_size]) HNW1.out (fun z hz => (Array.all_eq_true_iff_forall_mem.1 (CA_one (fun j hj => ag_one HAX.out hj))) z (Array.mem_toList_iff.1 hz)) (by decide) (by unfold maxLen; omega) (by omega) (by simp; omega) _ rfl ?_; intro ga ca2 w5 ho5 hg5 hv5 hl5; have hOv5 := own_keep_own HOvA.out hg5 HAvA.out (by decide); have HOvB := Lib.hid (own_below hOv5 ((Below.refl w5.heap.size w5).alloc (Nat.le_refl _) (.cells #[(.slice Ar (repsN u.bad 4) cr)] 54)) (fun z hz => (hOv5.lt z hz).2)); have hs5 := hg5.size; have HO5 := Lib.hid ho5; have HG5 := Lib.hid hg5; have HNW2 := Lib.hid (World.news_of_block (cs := #[(.slice Ar (repsN u.bad 4) cr)]) (Blk.new w5 54 #[(.slice Ar (repsN u.bad 4) cr)])); clear ho5 hg5 hv5 hl5 hOv5)
          | (at_builtin; refine wpList_append_lies _ rfl _ _ 28 rfl w.heap.size 54 j0 (.slice none 0 0) 1 24 Try.underlying28 hj0 jz0 jz1 jz2 rfl (by decide) (.slice Ao i co) i ((List.range i).map R) rfl HOvB.out ⟨w5.heap.size, 0, none⟩ 1 1 [(.slice Ar (repsN u.bad 4) cr)] rfl rfl HNW2.out (by intro z hz; rw [List.mem_singleton] at hz; subst hz; rfl) (by decide) (by unfold maxLen; omega) (by omega) (by simp at hs5; simp; omega) _ rfl ?_; intro ga2 co2 w6 ho6 hg6 hv6 hl6; have HO6 := Lib.hid ho6; have HG6 := Lib.hid hg6; clear ho6 hg6 hv6 hl6))
        go_roundw
        case rel => exact BhRel.put HU.out HUB.out (by go_num) HC0.out HF.out HFr.out HG.out HAg.out Hbs.out HAv.out HOv.out HRv.out HB.out HCB.out hq7w HBc.out HFX.out HRX.out HAX.out HOX.out HN4.out HG4.out HO5.out HG5.out HO6.out HG6.out
        case measure => simp [intOf]; omega
    · have q0 : decide ((i : Int) < (L.length : Int)) = false := by rw [decide_eq_false_iff_not]; omega
      clear hIR
      obtain rfl : i = L.length := by omega
      go_wp2_with fail
      refine bodyPost_ret (results_three Try.results12 _ _ _ _ _ rfl rfl rfl) rfl ?_
      exact ⟨_, _, q7, rfl, _, C, R, bs, rfl, hi, HC0.out, HF.out, HFr.out, HG.out, HCB.out, HAg.out, Hbs.out, HAv.out, HOv.out, HRv.out, HB.out⟩
end Go.Proofs.Ytofeoeknmlkjgaa.Nk
end
section
/- The Top laws: spot; what is known of each frame behind 'behind'; the inputs that one makes. -/
set_option linter.unusedVariables false
namespace Go.Proofs.Ytofeoeknmlkjgaa.Nk
open Go.RowKit Go.Proofs.Ytofeoeknmlkjgaa Mb Fi Sm

theorem tspot_any (v n : Int) (w : World) (hn : 1 ≤ n) (hn' : n ≤ 4611686018427387904) :
    Calls Try.prog 10 #[.int .i64 v, .int .i64 n] w fun e w' => e = .returned (.int .i64 (v % n)) ∧ w = w' := by
  have hne : (n == 0) = false := by simp; omega
  have b1 := Int.emod_nonneg v (b := n) (by omega)
  have b2 := Int.emod_lt_of_pos v (b := n) (by omega)
  have b3 : -4611686018427387904 ≤ v.tmod n := by
    rcases tmod_two (v := v) hn with e | e <;> omega
  have hp := fun h => spot_pos (v := v) hn h
  have hm := fun h => spot_neg (v := v) hn h
  have HP := Lib.hid hp
  have HM := Lib.hid hm
  clear hp hm
  by_cases h : v.tmod n < 0
  · go_enter Try.func10, Try.ntmps10
    go_wp2
    go_ret
    exact ⟨ret_i64 (HM.out h), rfl⟩
  · go_enter Try.func10, Try.ntmps10
    go_wp2
    go_ret
    exact ⟨ret_i64 (HP.out h), rfl⟩

/-! the inputs that one makes -/
theorem cutI_bad (bad : Int) (u : Inp) : (cutI bad u).bad = bad := by unfold cutI; split <;> rfl
theorem cutI_n (bad : Int) (u : Inp) : (cutI bad u).n ≤ 400 := by
  unfold cutI
  split
  · exact Nat.le_refl _
  · show u.n ≤ 400; omega
theorem VR_take {w : World} {sz : Nat} {A : Option Addr} {m c k : Nat} {xs : List Value} (h : VR w sz A m c xs) (hk : k ≤ m) (hc : 0 < k) : VR w sz A k c (xs.take (k * sz)) := by
  refine ⟨?_, fun e => ?_, fun _ => ?_⟩
  · rw [List.length_take, h.1]
    exact Nat.min_eq_left (Nat.mul_le_mul_right sz hk)
  · have := h.2.1 e; omega
  · obtain ⟨b, off, e, hlt, hcell⟩ := h.2.2 (by omega)
    refine ⟨b, off, e, hlt, fun j u hj => ?_⟩
    refine hcell j u ?_
    rw [List.getElem?_take] at hj
    split at hj
    · exact hj
    · cases hj
theorem flatLi_take : ∀ (L : List Li) (k : Nat), flatLi (L.take k) = (flatLi L).take (k * 3)
  | [], k => by simp [flatLi]
  | l :: L, 0 => by simp [flatLi]
  | l :: L, k + 1 => by
    rw [List.take_succ_cons, flatLi, flatLi, flatLi_take L k, show (k + 1) * 3 = l.cells.length + k * 3 by simp [Li.cells]; omega, List.take_length_add_append]
theorem cutI_ok {w : World} {bad : Int} {u : Inp} (h : u.Ok w) : (cutI bad u).Ok w := by
  unfold cutI
  split
  · rename_i hn
    refine ⟨⟨?_, ?_, fun x hx => h.1.2.2 x (List.mem_of_mem_take hx)⟩, ?_, h.2.2⟩
    · show (u.Ls.take 400).length = 400
      rw [List.length_take, h.1.1]; omega
    · show VR w 3 u.A 400 u.c (flatLi (u.Ls.take 400))
      rw [flatLi_take]
      exact VR_take h.1.2.1 (by omega) (by omega)
    · show 400 ≤ u.c
      have := h.2.1; omega
  · exact ⟨h.1, h.2.1, h.2.2⟩
theorem oneL_ir {w' : World} {B n : Nat} {bad : Int} {A : Option Addr} {c : Nat} {L : List Inp} (hn : n ≤ L.length) (ho : w'.ownsRow B 51 14 (.slice A n c) n (flatI (oneL bad L n))) (hok : ∀ u ∈ L, u.Ok w') : IR w' A n c (oneL bad L n) := by
  refine ⟨?_, VR.own ho, fun u hu => ?_⟩
  · unfold oneL; rw [List.length_map, List.length_take]; omega
  · unfold oneL at hu
    obtain ⟨v, hv, rfl⟩ := List.mem_map.1 hu
    exact cutI_ok (hok v (List.mem_of_mem_take hv))
theorem oneL_bad {bad : Int} {L : List Inp} {n : Nat} : ∀ u ∈ oneL bad L n, u.bad = bad := fun u hu => by
  unfold oneL at hu
  obtain ⟨v, _, rfl⟩ := List.mem_map.1 hu
  exact cutI_bad bad v
theorem oneL_400 {bad : Int} {L : List Inp} {n : Nat} : ∀ u ∈ oneL bad L n, u.n ≤ 400 := fun u hu => by
  unfold oneL at hu
  obtain ⟨v, _, rfl⟩ := List.mem_map.1 hu
  exact cutI_n bad v

/-! each frame -/
theorem flatC_get (C : Nat → Cl) : ∀ (n k j : Nat), k < n → j < 297 → (flatC C n)[k * 297 + j]? = some ((C (k + 1)).c j)
  | 0, k, j, hk, hj => absurd hk (Nat.not_lt_zero _)
  | n + 1, k, j, hk, hj => by
    have hl : ∀ n, (flatC C n).length = n * 297 := fun n => by
      induction n with
      | zero => rfl
      | succ n ih => rw [flatC, List.length_append, ih, Array.length_toList, CA_size]; omega
    rw [flatC]
    by_cases e : k = n
    · subst e
      rw [List.getElem?_append_right (by rw [hl]; omega), hl, show k * 297 + j - k * 297 = j by omega, Array.getElem?_toList]
      unfold CA; rw [AN_get hj]
    · rw [List.getElem?_append_left (by rw [hl]; omega)]
      exact flatC_get C n k j (by omega) hj
theorem chain_inv {bad : Int} {t : Tu} (ht : t.In) {L : List Inp} {C : Nat → Cl} {n : Nat} (hn : n ≤ L.length) (hbad : ∀ u ∈ L, u.bad = bad) (h0 : C 0 = begC t) (hF : ∀ k u, k < n → L[k]? = some u → FrameR u (C k) (C (k + 1))) : ∀ k, k ≤ n → GInv bad (C k).N
  | 0, _ => by rw [h0]; exact GInv.beg bad t ht
  | k + 1, hk => by
    have hL : k < L.length := by omega
    have hu : L[k]? = some L[k] := List.getElem?_eq_getElem hL
    have hb := hbad _ (List.getElem_mem hL)
    have ih := chain_inv ht hn hbad h0 hF k (by omega)
    have hr := (hF k _ (by omega) hu).2
    have h1 : GInv (FX (C k) (L[k]).y (L[k]).Ls).bad (C k).N := by rw [show (FX (C k) (L[k]).y (L[k]).Ls).bad = (L[k]).bad from rfl, hb]; exact ih
    have := h1.step hr
    rw [show (FX (C k) (L[k]).y (L[k]).Ls).bad = (L[k]).bad from rfl, hb] at this
    exact this
theorem chain_at {bad : Int} {t : Tu} (ht : t.In) {L : List Inp} {C : Nat → Cl} {n : Nat} (hn : n ≤ L.length) (hbad : ∀ u ∈ L, u.bad = bad) (h0 : C 0 = begC t) (hF : ∀ k u, k < n → L[k]? = some u → FrameR u (C k) (C (k + 1))) {k : Nat} (hk : k < n) {u : Inp} (hu : L[k]? = some u) :
    GInv (FX (C k) u.y u.Ls).bad (C k).N ∧ (∀ p, p < 4 → ClRel (FX (C k) u.y u.Ls) (C k).N p ((C (k + 1)).N p)) ∧ (FX (C k) u.y u.Ls).bad = bad ∧ (FX (C k) u.y u.Ls).rd = u.rd := by
  have hb := hbad u (List.mem_of_getElem? hu)
  have hi := chain_inv ht hn hbad h0 hF k (by omega)
  refine ⟨?_, (hF k u hk hu).2, hb, rfl⟩
  rw [show (FX (C k) u.y u.Ls).bad = u.bad from rfl, hb]
  exact hi
end Go.Proofs.Ytofeoeknmlkjgaa.Nk
end
section
/- The Top laws: what is read of the clusters, the inputs and the reports behind each frame. -/
set_option linter.unusedVariables false
namespace Go.Proofs.Ytofeoeknmlkjgaa.Nk
open Go.RowKit Go.Proofs.Ytofeoeknmlkjgaa Mb Fi Sm

section
variable {W W' : World} {g p f k : Nat} {x : Cl}
theorem CB.nd (h : CB W g x) (hp : p < 4) (hf : f < 74) : W.cell? ⟨g, 1 + p * 74 + f, none⟩ = some ((x.N p).c (x.va p) f) := by
  rw [h.at_ (by omega)]
  unfold Cl.c
  rw [if_neg (by omega), show (1 + p * 74 + f - 1) / 74 = p by omega, show (1 + p * 74 + f - 1) % 74 = f by omega]
theorem CB.agR (h : CB W g x) {s : Nat} (hp : p < 4) (hs : s < 4) : W.rangeAt g (1 + p * 74 + 55 + s * 3) [.int .i64 ((x.N p).ag (s * 3)), .int .i64 ((x.N p).ag (s * 3 + 1)), .int .i64 ((x.N p).ag (s * 3 + 2))] := by
  intro j v hj
  have hlt : j < 3 := (List.getElem?_eq_some_iff.1 hj).1
  rw [show 1 + p * 74 + 55 + s * 3 + j = 1 + p * 74 + (55 + s * 3 + j) by omega, h.nd hp (by omega), c_ag (by omega) (by omega), show 55 + s * 3 + j - 55 = s * 3 + j by omega]
  have : j = 0 ∨ j = 1 ∨ j = 2 := by omega
  rcases this with rfl | rfl | rfl <;> (cases hj; rfl)
theorem clus_at {A : Option Addr} {n ca : Nat} {C : Nat → Cl} (h : VR W 297 A n ca (flatC C n)) (hk : k < n) : ∃ b off, A = some ⟨b, off, none⟩ ∧ b < W.heap.size ∧ W.rangeAt b (off + k * 297) (CA (C (k + 1))).toList := by
  obtain ⟨b, off, rfl, hlt, hc⟩ := h.2.2 (by omega)
  refine ⟨b, off, rfl, hlt, fun j v hj => ?_⟩
  obtain ⟨hj2, e⟩ := AN_list hj
  rw [Nat.add_assoc, hc (k * 297 + j) ((C (k + 1)).c j) (flatC_get C n k j hk hj2), e]
theorem inp_rd {b off : Nat} {u : Inp} (h : W.rangeAt b (off + k * 14) (IA u.y).toList) {s : Nat} (hs : s < 4) : W.rangeAt b (off + k * 14 + s * 3) [.int .i64 (u.rd (s * 3)), .int .i64 (u.rd (s * 3 + 1)), .int .i64 (u.rd (s * 3 + 2))] := by
  intro j v hj
  have hlt : j < 3 := (List.getElem?_eq_some_iff.1 hj).1
  have hz : (s * 3 + j) < (IA u.y).size := by rw [IA_size]; omega
  rw [Nat.add_assoc, h (s * 3 + j) ((IA u.y)[s * 3 + j]) (by rw [Array.getElem?_toList]; exact Array.getElem?_eq_getElem hz)]
  have e : (IA u.y)[s * 3 + j]? = some (u.y.c (s * 3 + j)) := by unfold IA; rw [AN_get (by omega)]
  rw [← Array.getElem?_eq_getElem hz, e]
  unfold InD.c
  rw [if_pos (by omega)]
  have : j = 0 ∨ j = 1 ∨ j = 2 := by omega
  rcases this with rfl | rfl | rfl <;> (cases hj; rfl)
end
theorem eq3 (a b c : Int) (w : World) : (Op.equalIn 10000 39 (.agg #[.int .i64 a, .int .i64 b, .int .i64 c]) (.agg #[.int .i64 a, .int .i64 b, .int .i64 c])).run Try.prog w = .ok true w := eql_self (by kernel_rfl) (by kernel_rfl) w
theorem below_range {w w' : World} {n b off : Nat} {cs : List Value} (h : Below n w w') (hb : b < n) (hr : w.rangeAt b off cs) : w'.rangeAt b off cs := fun j v hj => (h.cell (p := ⟨b, off + j, none⟩) hb).trans (hr j v hj)
theorem wpAnyH_takeL {P : Program} {ops : Array Oper} {Q : Exit → Act → World → Prop} {md : Region.Mode} {S : World → Prop} {i : Nat} {oi : Oper} {v : Value} {fuel : Nat} {listed : Array Bool} {a : Act} {w : World} (hi' : ops.toList[i]? = some oi)
    (hs : Region.noSelect ops = true) (hf : Region.free md ops listed i = true) (hr : (Region.ready md ops listed).contains i = true)
    (hQ : ∀ c a w, Q (.panic c) (a.put oi.dst v) w → Q (.panic c) a w) (hy : YieldsIf P ops S oi v a) (hS : S w)
    (h : wpAnyH P md ops Q S fuel (listed.setIfInBounds i true) (a.put oi.dst v) w) : wpAnyH P md ops Q S (fuel + 1) listed a w :=
  wpAnyH_take (by rw [← Array.getElem?_toList]; exact hi') hs hf hr hQ hy hS h
end Go.Proofs.Ytofeoeknmlkjgaa.Nk
end
section
/- Inputs that came in: lists of structs, read. -/
set_option linter.unusedVariables false
namespace Go.Proofs.Ytofeoeknmlkjgaa.Nk
open Go.RowKit Go.Proofs.Ytofeoeknmlkjgaa Mb Fi Sm Crc Go.ChangeShapes Go.WideShapes

theorem weights_all {H : Type} {P : Program} {e : TypeId} : ∀ {l : List (DataW H)} {d : DataW H}, d ∈ l → ∀ x ∈ d.weights P e, x ∈ DataW.weightsAll P e l
  | y :: l, d, h, x, hx => by
    simp only [DataW.weightsAll, List.mem_append]
    rcases List.mem_cons.1 h with rfl | h
    · exact .inl hx
    · exact .inr (weights_all h x hx)
theorem flatMap_at {α : Type} (f : α → List Value) (sz : Nat) (hf : ∀ a, (f a).length = sz) : ∀ (L : List α) (j : Nat) (u : Value), (L.flatMap f)[j]? = some u → ∃ i a k, L[i]? = some a ∧ k < sz ∧ j = i * sz + k ∧ (f a)[k]? = some u
  | [], j, u, h => by simp at h
  | a :: L, j, u, h => by
    rw [List.flatMap_cons] at h
    by_cases c : j < sz
    · rw [List.getElem?_append_left (by rw [hf]; exact c)] at h
      exact ⟨0, a, j, rfl, c, by omega, h⟩
    · rw [List.getElem?_append_right (by rw [hf]; omega), hf] at h
      obtain ⟨i, b, k, h1, h2, h3, h4⟩ := flatMap_at f sz hf L (j - sz) u h
      exact ⟨i + 1, b, k, by simpa using h1, h2, by rw [Nat.succ_mul]; omega, h4⟩
theorem flatMap_len {α : Type} (f : α → List Value) (sz : Nat) (hf : ∀ a, (f a).length = sz) : ∀ (L : List α), (L.flatMap f).length = L.length * sz
  | [] => by simp
  | a :: L => by rw [List.flatMap_cons, List.length_append, hf, flatMap_len f sz hf L, List.length_cons, Nat.succ_mul]; omega
theorem vr_in {P : Program} {W : World} {H : Type} {enc : TypeId × Value → H} {t e : TypeId} {A : Option Addr} {n c sz : Nat} {d : DataW H} {p : List MemPlace} (ht : P.underlying t = some (.slice e)) (ce : P.cellsOf e = sz) (hsz : 0 < sz)
    (h : DataW.Trod enc P W 0 (fun _ => true) true t (.slice A n c) d p) (hw : ∀ x ∈ d.weights P t, x ≤ reachBytes) {α : Type} [Inhabited α] (f : α → List Value) (hf : ∀ a, (f a).length = sz) (Ok : α → Prop)
    (each : ∀ (fuel : Nat) (cs : List Value) (x : DataW H × List MemPlace), cs.length = sz → DataW.trod enc P W 0 (fun _ => true) true fuel e cs = some x → (∀ y ∈ x.1.weights P e, y ≤ reachBytes) → ∃ a : α, cs = f a ∧ Ok a) :
    ∃ L : List α, L.length = n ∧ VR W sz A n c (L.flatMap f) ∧ (∀ a ∈ L, Ok a) ∧ n ≤ c ∧ n * P.bytesOf e ≤ reachBytes := by
  obtain ⟨fuel, hh⟩ := h
  rcases Go.Deep.open_slice ht hh with ⟨hcs, _⟩ | ⟨a, len, cap, m, q, D, Pl, hcs, _, hl, _, hm, hd, hx⟩
  · simp [Value.cells] at hcs
    obtain ⟨rfl, rfl, rfl⟩ := hcs
    exact ⟨[], rfl, VR.nil _ _, (fun a h => by cases h), Nat.le_refl _, by simp⟩
  · simp [Value.cells] at hcs
    obtain ⟨rfl, rfl, rfl⟩ := hcs
    have hd1 := (Prod.mk.inj hd).1
    have hlen : n * P.bytesOf e ≤ reachBytes := by
      have := hw (n * P.bytesOf e + (m - n) * P.bytesOf e) (by rw [hd1]; simp [DataW.weights, ht, Nat.add_mul])
      omega
    have ex : ∀ j, j < n → ∃ D : α, (∀ i, i < sz → W.cell? (a.add (j * sz + i)) = (f D)[i]?) ∧ Ok D := by
      intro j hj
      obtain ⟨cs, h1, h2⟩ := hx j (by rw [hm]; simp; omega)
      rw [ce] at h1
      obtain ⟨_, hlen, hcell⟩ := World.cells?_some h1
      obtain ⟨D', e, r⟩ := each _ cs _ hlen h2 (fun y hy => hw y (by
        rw [hd1]
        simp only [DataW.weights, ht, List.mem_cons, List.mem_append]
        exact .inr (.inl (weights_all (List.mem_map.2 ⟨j, List.mem_range.2 hj, rfl⟩) y hy))))
      refine ⟨D', fun i hi => ?_, r⟩
      have := hcell i hi
      rw [Go.Deep.add_add] at this
      rw [this, e]
    obtain ⟨M, hM⟩ := Go.Deep.choose_lt ex
    refine ⟨(List.range n).map M, by simp, ⟨by rw [flatMap_len f sz hf]; simp, fun e => by simp at e, fun hn => ?_⟩, fun z hz => ?_, hl, hlen⟩
    · have h0 := (hM 0 hn).1 0 hsz
      have hs0 : ∃ v, (f (M 0))[0]? = some v := ⟨_, List.getElem?_eq_getElem (by rw [hf]; exact hsz)⟩
      obtain ⟨v, hv⟩ := hs0
      rw [hv] at h0
      have hsp : a.spot = none := by
        have := World.cell?_spot h0
        simpa [Addr.add] using this
      obtain ⟨b, off, sp⟩ := a
      simp only at hsp
      subst hsp
      have ea : ∀ k, (⟨b, off, none⟩ : Addr).add k = ⟨b, off + k, none⟩ := fun k => by unfold Addr.add; split <;> simp_all
      refine ⟨b, off, rfl, ?_, fun j u hj => ?_⟩
      · have := World.block_lt_of_cell? _ _ h0
        simpa [Addr.add] using this
      · obtain ⟨i, x, k, h1, h2, h3, h4⟩ := flatMap_at f sz hf _ j u hj
        have hi : i < n := by have := (List.getElem?_eq_some_iff.1 h1).1; simpa using this
        rw [List.getElem?_map, List.getElem?_range hi] at h1
        have hx : M i = x := by simpa using h1
        have := (hM i hi).1 k h2
        rw [ea, hx, h4, ← h3] at this
        exact this
    · obtain ⟨j, hj, rfl⟩ := List.mem_map.1 hz
      exact (hM j (List.mem_range.1 hj)).2
theorem flatLi_map : ∀ L : List Li, flatLi L = L.flatMap Li.cells
  | [] => rfl
  | l :: L => by rw [flatLi, List.flatMap_cons, flatLi_map L]
theorem flatI_map : ∀ L : List Inp, flatI L = L.flatMap (fun u => (IA u.y).toList)
  | [] => rfl
  | l :: L => by rw [flatI, List.flatMap_cons, flatI_map L]
instance : Inhabited Li := ⟨⟨0, 0, none, 0, 0, []⟩⟩
instance : Inhabited Inp := ⟨⟨0, fun _ => 0, none, 0, 0, []⟩⟩

set_option maxRecDepth 100000 in
theorem lie_at {H : Type} {enc : TypeId × Value → H} {W : World} {fuel : Nat} {cs : List Value} {x : DataW H × List MemPlace} (hl : cs.length = 3)
    (h : DataW.trod enc Try.prog W 0 (fun _ => true) true fuel 80 cs = some x) (hw : ∀ y ∈ x.1.weights Try.prog 80, y ≤ reachBytes) :
    ∃ D : Li, cs = D.cells ∧ D.Reads W := by
  match cs, hl with
  | [v0, v1, v2], _ =>
    obtain ⟨xs, k, _, hxx, _, hxl, hf⟩ := DataW.trod_struct Try.underlying80 h
    match xs, hxl with
    | [y0, y1, y2], _ =>
      have c1 : Try.prog.cellsOf 3 = 1 := by kernel_rfl
      have c2 : Try.prog.cellsOf 78 = 1 := by kernel_rfl
      have g0 : DataW.trod enc Try.prog W 0 (fun _ => true) true k 3 ((([v0, v1, v2] : List Value).drop 0).take (Try.prog.cellsOf 3)) = some y0 := hf 0 _ rfl
      rw [c1] at g0
      change DataW.trod enc Try.prog W 0 (fun _ => true) true k 3 [v0] = some y0 at g0
      have g1 : DataW.trod enc Try.prog W 0 (fun _ => true) true k 3 ((([v0, v1, v2] : List Value).drop 1).take (Try.prog.cellsOf 3)) = some y1 := hf 1 _ rfl
      rw [c1] at g1
      change DataW.trod enc Try.prog W 0 (fun _ => true) true k 3 [v1] = some y1 at g1
      have g3 : DataW.trod enc Try.prog W 0 (fun _ => true) true k 78 ((([v0, v1, v2] : List Value).drop 2).take (Try.prog.cellsOf 78)) = some y2 := hf 2 _ rfl
      rw [c2] at g3
      change DataW.trod enc Try.prog W 0 (fun _ => true) true k 78 [v2] = some y2 at g3
      obtain ⟨z0, e0, _, _⟩ := DataW.trod_int Try.underlying3 g0
      obtain ⟨z1, e1, _, _⟩ := DataW.trod_int Try.underlying3 g1
      obtain ⟨A, n, c, e3⟩ : ∃ A n c, v2 = .slice A n c := by
        rcases DataW.trod_slice Try.underlying78 g3 with ⟨he, _⟩ | ⟨a, len, cap, _, _, _, _, he, _⟩
        · exact ⟨none, 0, 0, by simpa using he⟩
        · exact ⟨some a, len, cap, by simpa using he⟩
      injection e0 with e0; injection e1 with e1
      subst e0 e1 e3
      have hb : Try.prog.bytesOf 5 = 1 := by kernel_rfl
      obtain ⟨zs, hI, hz, hnc, hr⟩ := ints_in Try.underlying78 Try.underlying5 (by kernel_rfl) (enc := enc) (d := y2.1) (p := y2.2) ⟨k, g3⟩ (by
        intro es sp he
        have hm := DataW.weights_mem_each (P := Try.prog) (ts := [3, 3, 78]) (ds := [y0.1, y1.1, y2.1]) (j := 2) rfl rfl ((es.length + sp.length) * Try.prog.bytesOf 5) (by rw [he]; simp [DataW.weights, Try.underlying78])
        refine hw _ ?_
        rw [hxx]
        simp only [DataW.weights, Try.underlying80]
        exact hm)
      rw [hb] at hr
      exact ⟨⟨z0, z1, A, n, c, zs⟩, rfl, hI, hnc, by unfold reachBytes at hr; show n ≤ _; omega, fun z hz2 => bounds_u8 (hz z hz2)⟩

theorem in64_of {z : Int} (h : (Lit.int .i64 z).wf = true) : In64 z := by
  unfold In64
  simpa [Lit.wf, IntKind.has, IntKind.min, IntKind.max, IntKind.signed, IntKind.bits] using h
set_option maxRecDepth 100000 in
theorem read_at {H : Type} {enc : TypeId × Value → H} {W : World} {fuel : Nat} {cs : List Value} {x : DataW H × List MemPlace} (hl : cs.length = 12)
    (h : DataW.trod enc Try.prog W 0 (fun _ => true) true fuel 40 cs = some x) : ∃ rd : Nat → Int, (∀ k, k < 12 → cs[k]? = some (.int .i64 (rd k))) ∧ ∀ k, k < 12 → In64 (rd k) := by
  have c3 : Try.prog.cellsOf 39 = 3 := by kernel_rfl
  have c1 : Try.prog.cellsOf 3 = 1 := by kernel_rfl
  obtain ⟨xs, k, _, _, _, hxl, hel⟩ := DataW.trod_array Try.underlying40 h
  rw [c3] at hel
  have each : ∀ j, j < 12 → ∃ z : Int, cs[j]? = some (.int .i64 z) ∧ In64 z := by
    intro j hj
    have h3 := hel (j / 3) (by omega)
    rw [List.getElem?_eq_getElem (by omega)] at h3
    obtain ⟨ys, k2, _, _, _, hyl, hel2⟩ := DataW.trod_array Try.underlying39 h3
    have h4 := hel2 (j % 3) (by omega)
    rw [c1, Nat.mul_one, List.getElem?_eq_getElem (by omega)] at h4
    obtain ⟨z, e, _, hz⟩ := DataW.trod_int Try.underlying3 h4
    refine ⟨z, ?_, in64_of hz⟩
    have h5 := congrArg (fun l => l[0]?) e
    simp only [List.getElem?_take, List.getElem?_drop, List.getElem?_cons_zero] at h5
    rw [if_pos (by omega), if_pos (by omega)] at h5
    rw [← h5]
    congr 1; omega
  obtain ⟨M, hM⟩ := Go.Deep.choose_lt each
  exact ⟨M, fun k hk => (hM k hk).1, fun k hk => (hM k hk).2⟩

set_option maxRecDepth 100000 in
theorem input_at {H : Type} {enc : TypeId × Value → H} {W : World} {fuel : Nat} {cs : List Value} {x : DataW H × List MemPlace} (hl : cs.length = 14)
    (h : DataW.trod enc Try.prog W 0 (fun _ => true) true fuel 51 cs = some x) (hw : ∀ y ∈ x.1.weights Try.prog 51, y ≤ reachBytes) :
    ∃ u : Inp, cs = (IA u.y).toList ∧ u.Ok W := by
  obtain ⟨xs, k, _, hxx, _, hxl, hf⟩ := DataW.trod_struct Try.underlying51 h
  match xs, hxl with
  | [y0, y1, y2], _ =>
    have c0 : Try.prog.cellsOf 40 = 12 := by kernel_rfl
    have c1 : Try.prog.cellsOf 3 = 1 := by kernel_rfl
    have c2 : Try.prog.cellsOf 49 = 1 := by kernel_rfl
    have g0 : DataW.trod enc Try.prog W 0 (fun _ => true) true k 40 ((cs.drop 0).take (Try.prog.cellsOf 40)) = some y0 := hf 0 _ rfl
    have g1 : DataW.trod enc Try.prog W 0 (fun _ => true) true k 3 ((cs.drop 12).take (Try.prog.cellsOf 3)) = some y1 := hf 1 _ rfl
    have g2 : DataW.trod enc Try.prog W 0 (fun _ => true) true k 49 ((cs.drop 13).take (Try.prog.cellsOf 49)) = some y2 := hf 2 _ rfl
    rw [c0] at g0
    rw [c1] at g1
    rw [c2] at g2
    obtain ⟨rd, hrd, hri⟩ := read_at (by simp; omega) g0
    obtain ⟨z1, e1, _, _⟩ := DataW.trod_int Try.underlying3 g1
    obtain ⟨A, n, c, e2⟩ : ∃ A n c, (cs.drop 13).take 1 = [.slice A n c] := by
      rcases DataW.trod_slice Try.underlying49 g2 with ⟨he, _⟩ | ⟨a, len, cap, _, _, _, _, he, _⟩
      · exact ⟨none, 0, 0, he⟩
      · exact ⟨some a, len, cap, he⟩
    rw [e2] at g2
    have cl : Try.prog.cellsOf 80 = 3 := by kernel_rfl
    obtain ⟨Ls, h1, h2, h3, h4, _⟩ := vr_in (d := y2.1) (p := y2.2) Try.underlying49 cl (by decide) ⟨k, g2⟩ (by
      intro y hy
      have hm := DataW.weights_mem_each (P := Try.prog) (ts := [40, 3, 49]) (ds := [y0.1, y1.1, y2.1]) (j := 2) rfl rfl y hy
      refine hw _ ?_
      rw [hxx]
      simp only [DataW.weights, Try.underlying51]
      exact hm) Li.cells (fun _ => rfl) (Li.Reads W) (fun fuel cs x hl h hw => lie_at hl h hw)
    rw [← flatLi_map] at h2
    refine ⟨⟨z1, rd, A, n, c, Ls⟩, ?_, ⟨h1, h2, h3⟩, h4, hri⟩
    refine List.ext_getElem? fun j => ?_
    unfold IA
    conv => rhs; rw [Array.getElem?_toList]
    by_cases hj : j < 14
    · rw [AN_get hj]
      unfold InD.c
      by_cases a : j < 12
      · rw [if_pos a]
        have := hrd j a
        rw [List.getElem?_take, if_pos a, List.drop_zero] at this
        exact this
      · rw [if_neg a]
        by_cases b : j < 13
        · rw [if_pos b]
          obtain rfl : j = 12 := by omega
          have h5 := congrArg (fun l => l[0]?) e1
          have h6 : cs[12]? = some (.int .i64 z1) := by simpa [List.getElem?_take, List.getElem?_drop] using h5
          exact h6
        · rw [if_neg b]
          obtain rfl : j = 13 := by omega
          have h5 := congrArg (fun l => l[0]?) e2
          have h6 : cs[13]? = some (.slice A n c) := by simpa [List.getElem?_take, List.getElem?_drop] using h5
          exact h6
    · rw [List.getElem?_eq_none (by omega)]
      exact (Array.getElem?_eq_none (by rw [AN_size]; omega)).symm

theorem inputs_in {H : Type} {enc : TypeId × Value → H} {W : World} {A : Option Addr} {n c : Nat} {d : DataW H} {p : List MemPlace}
    (h : DataW.Trod enc Try.prog W 0 (fun _ => true) true 24 (.slice A n c) d p) (hw : ∀ x ∈ d.weights Try.prog 24, x ≤ reachBytes) : ∃ L, IR W A n c L ∧ n ≤ 17592186044416 := by
  have cl : Try.prog.cellsOf 51 = 14 := by kernel_rfl
  have hb : Try.prog.bytesOf 51 = 128 := by kernel_rfl
  obtain ⟨L, h1, h2, h3, h4, h5⟩ := vr_in Try.underlying24 cl (by decide) h hw (fun u : Inp => (IA u.y).toList) (fun u => IA_len u.y) (Inp.Ok W) (fun fuel cs x hl h hw => input_at hl h hw)
  rw [← flatI_map] at h2
  rw [hb] at h5
  unfold reachBytes at h5
  exact ⟨L, ⟨h1, h2, h3⟩, by omega⟩
set_option maxRecDepth 100000 in
theorem tuning_in {W : World} {base : Nat} {v : Value} (h : Value.okWide Try.prog W .any base 23 v) : ∃ t : Tu, v = t.val ∧ t.In := by
  obtain ⟨x, y, z, q, rfl, h0, h1, h2, h3⟩ := ok_ints4 (u := 3) (.inl ⟨_, Try.underlying23⟩) (by kernel_rfl) (by kernel_rfl) Try.underlying3 h
  exact ⟨⟨x, y, z, q⟩, rfl, in_i64 h0, in_i64 h1, in_i64 h2, in_i64 h3⟩
end Go.Proofs.Ytofeoeknmlkjgaa.Nk
end
