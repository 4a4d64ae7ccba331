/- WNodeMemory, over merged texts. -/
import Derived.Test.YtofeoeknmlkjgaaZ04
import Derived.Test.YtofeoeknmlkjgaaZ09
import Derived.Test.YtofeoeknmlkjgaaZ48
set_option linter.unusedVariables false
set_option linter.unusedSimpArgs false
section
/- The walk of NodeMemory. -/
set_option linter.unusedVariables false
namespace Go.Proofs.Ytofeoeknmlkjgaa.Nk
open Go.RowKit Go.Proofs.Ytofeoeknmlkjgaa Mb Fi Sm

theorem infoMsgN : (Try.prog.info? 64).map (fun i => (i.zero, i.size, i.bytes)) = some (some (.agg #[.int .i64 0, .int .i64 0, .int .i64 0, .slice none 0 0]), 4, 48) := by kernel_rfl
theorem infoRepS : (Try.prog.info? 60).map (·.size) = some 14 := by kernel_rfl
theorem infoMsgS : (Try.prog.info? 64).map (·.size) = some 4 := by kernel_rfl
theorem infoBoolM : (Try.prog.info? 4).map (fun i => (i.zero, i.size, i.bytes)) = some (some (.bool false), 1, 1) := by kernel_rfl
def rmX (x : Mg) (g : Nat) : Mg := ⟨x.k, x.f, x.r, some ⟨g, 0, none⟩, x.n, x.n + 2, x.vs⟩
def rmM (Ms : List Mg) (gs : Nat → Nat) : Nat → List Mg
  | 0 => []
  | i + 1 => rmM Ms gs i ++ (match Ms[i]? with | some x => [rmX x (gs i)] | none => [])
theorem rmM_len {Ms : List Mg} {gs : Nat → Nat} : ∀ i, i ≤ Ms.length → (rmM Ms gs i).length = i
  | 0, _ => rfl
  | i + 1, h => by
    rw [rmM, List.getElem?_eq_getElem (by omega), List.length_append, rmM_len i (by omega)]; rfl
theorem rmM_congr {Ms : List Mg} {gs gs' : Nat → Nat} : ∀ i, (∀ j, j < i → gs j = gs' j) → rmM Ms gs i = rmM Ms gs' i
  | 0, _ => rfl
  | i + 1, h => by rw [rmM, rmM, rmM_congr i (fun j hj => h j (by omega)), h i (by omega)]
theorem rmM_mem {Ms : List Mg} {gs : Nat → Nat} {y : Mg} : ∀ i, y ∈ rmM Ms gs i → ∃ j x, j < i ∧ Ms[j]? = some x ∧ y = rmX x (gs j)
  | 0, h => by cases h
  | i + 1, h => by
    rw [rmM] at h
    rcases List.mem_append.1 h with h | h
    · obtain ⟨j, x, h1, h2, h3⟩ := rmM_mem i h
      exact ⟨j, x, by omega, h2, h3⟩
    · cases e : Ms[i]? with
      | none => rw [e] at h; cases h
      | some x => rw [e] at h; exact ⟨i, x, by omega, e, by simpa using h⟩
theorem rmM_get {Ms : List Mg} {gs : Nat → Nat} {j : Nat} {x : Mg} (hx : Ms[j]? = some x) : ∀ i, j < i → i ≤ Ms.length → (rmM Ms gs i)[j]? = some (rmX x (gs j))
  | 0, h, _ => by omega
  | i + 1, h, hl => by
    rw [rmM]
    rcases Nat.lt_or_ge j i with h1 | h1
    · rw [List.getElem?_append_left (by rw [rmM_len i (by omega)]; exact h1), rmM_get hx i h1 (by omega)]
    · obtain rfl : j = i := by omega
      rw [List.getElem?_append_right (by rw [rmM_len j (by omega)]; exact Nat.le_refl _), rmM_len j (by omega), hx]; simp
def BxIn (w1 : World) (Ms : List Mg) (gs : Nat → Nat) (bv : Value) (i : Nat) (wr : World) : Prop :=
  wr.ownsRow w1.heap.size 64 4 bv i (flatM (rmM Ms gs i)) ∧ (∀ j x, j < i → Ms[j]? = some x → Blk wr (gs j) 3 (Ro.roomC x.vs)) ∧ Below w1.heap.size w1 wr
def BxRel (w1 : World) (Ms : List Mg) (bv iv : Value) (wr : World) : Prop := ∃ (i : Nat) (gs : Nat → Nat), iv = .int .i64 i ∧ i ≤ Ms.length ∧ BxIn w1 Ms gs bv i wr
theorem BxRel.start (w1 : World) (Ms : List Mg) : BxRel w1 Ms (.slice none 0 0) (.int .i64 0) w1 := ⟨0, fun _ => 0, rfl, Nat.zero_le _, World.ownsRow_nil _ _ _ _, fun _ _ h => absurd h (Nat.not_lt_zero _), Below.refl _ _⟩
theorem BxRel.put {w1 wr wd we : World} {Ms : List Mg} {gs : Nat → Nat} {bv v' iv : Value} {i g : Nat} {x : Mg} (h : BxIn w1 Ms gs bv i wr) (hx : Ms[i]? = some x) (hbd : Below wr.heap.size wr wd)
    (ho : we.ownsRow w1.heap.size 64 4 v' (i + 1) (flatM (rmM Ms gs i) ++ (rmX x g).cells)) (hg : wd.grownBy we bv.ownBlock) (hk : Blk wd g 3 (Ro.roomC x.vs)) (hi : iv = .int .i64 ((i + 1 : Nat) : Int)) : BxRel w1 Ms v' iv we := by
  obtain ⟨h1, h2, h3⟩ := h
  have hil : i < Ms.length := (List.getElem?_eq_some_iff.1 hx).1
  have h1d := own_below h1 hbd (fun z hz => (h1.lt z hz).2)
  have up : ∀ q cs, Blk wd q 3 cs → Blk we q 3 cs := fun q cs hq => hq.grown hg (fun e => own_blk_ne h1d hq (by decide) e)
  refine ⟨i + 1, upd gs i g, hi, by omega, ?_, fun j y hj hy => ?_, ?_⟩
  · rw [rmM, hx, rmM_congr i (gs' := gs) (fun j hj => upd_far _ _ (by omega)), upd_same, flatM_app]
    simpa [flatM] using ho
  · rcases Nat.lt_or_ge j i with c | c
    · rw [upd_far _ _ (by omega)]
      exact up _ _ ((h2 j y c hy).next hbd)
    · obtain rfl : j = i := by omega
      rw [upd_same]
      rw [hx] at hy; cases hy
      exact up _ _ hk
  · exact (h3.trans (hbd.mono h3.size)).grown hg (by have := h3.size; have := hbd.size; omega) (fun k hk => (h1.lt k hk).1)
theorem BxIn.mr {w1 wr wz : World} {Ms : List Mg} {gs : Nat → Nat} {A : Option Addr} {c i : Nat} {W : World} {Am : Option Addr} {mm cm : Nat} (hM : MR W Am mm cm Ms) (hi : i = Ms.length) (h : BxIn w1 Ms gs (.slice A i c) i wr) (hb : Below wr.heap.size wr wz) : MR wz A i c (rmM Ms gs i) := by
  obtain ⟨h1, h2, h3⟩ := h
  refine ⟨rmM_len i (by omega), (VR.own h1).next hb, fun y hy => ?_⟩
  obtain ⟨j, x, hj, hx, rfl⟩ := rmM_mem i hy
  have hr := hM.2.2 x (List.mem_of_getElem? hx)
  exact ⟨Ro.room_ints hr.1.1 ((h2 j x hj hx).next hb), (fun e => by cases e), hr.2.2.1, hr.2.2.2⟩
def FlRel (wq : World) (q : Nat) (n : Nd) (A : Option Addr) (m c : Nat) (jv : Value) (wr : World) : Prop :=
  ∃ (j : Nat) (bs : List Bool), jv = .int .i64 j ∧ j ≤ m ∧ NB wr q n (.slice A m c) ∧ wr.ownsRow wq.heap.size 4 1 (.slice A m c) m (bs.map Value.bool) ∧ Below wq.heap.size wq wr
theorem FlRel.put {wq wr : World} {q g : Nat} {n : Nd} {m c j : Nat} {bs : List Bool} {b : Bool} {jv : Value} (hN : NB wr q n (.slice (some ⟨g, 0, none⟩) m c)) (ho : wr.ownsRow wq.heap.size 4 1 (.slice (some ⟨g, 0, none⟩) m c) m (bs.map Value.bool))
    (hb : Below wq.heap.size wq wr) (hj : j < m) (hjv : jv = .int .i64 ((j + 1 : Nat) : Int)) : FlRel wq q n (some ⟨g, 0, none⟩) m c jv (wr.setCell ⟨g, j, none⟩ (.bool b)) := by
  have hq : g ≠ q := fun e => by
    obtain ⟨cur, h1, _⟩ := Sm.own_blk ho
    subst e
    have h2 : wr.heap[g]? = _ := h1
    rw [show wr.heap[g]? = _ from hN] at h2
    injection h2 with h2; injection h2 with _ h2
    exact absurd h2 (by decide)
  have hg := (ho.lt g rfl)
  refine ⟨j + 1, bs.set j b, hjv, hj, Blk.grown hN (grown_set _ _ _ _) (fun e => hq (Option.some.inj e).symm), ?_, hb.setCell (p := ⟨g, j, none⟩) hg.1 _⟩
  have := Sm.own_set_in ho hj (.bool b)
  rwa [List.map_set]
theorem own_max {w : World} {base n : Nat} {e : TypeId} {v : Value} {xs : List Value} (h : w.ownsRow base e 1 v n xs) : n ≤ 9223372036854775807 := by
  rcases h.2 with ⟨_, h2⟩ | ⟨g, cap, cur, _, _, _, h2, h3, _⟩
  · omega
  · unfold maxLen at h3; omega
theorem bools_at {bs : List Bool} {m j : Nat} (hl : (bs.map Value.bool).length = m * 1) (hj : j < m) : ∃ b, (bs.map Value.bool)[j]? = some (.bool b) := by
  have h : j < bs.length := by rw [List.length_map] at hl; omega
  exact ⟨bs[j], by rw [List.getElem?_map, List.getElem?_eq_getElem h]; rfl⟩
theorem two_alloc {w5 w6 w7 : World} {a b : Obj} (h6 : ((w5.alloc a).alloc b).grownBy w6 (some w5.heap.size)) (h7 : w6.grownBy w7 (some (w5.heap.size + 1))) : Below w5.heap.size w5 w7 := by
  have h1 : Below w5.heap.size w5 (w5.alloc a) := (Below.refl _ _).alloc (Nat.le_refl _) _
  have h2 := h1.alloc h1.size b
  have h3 := h2.grown h6 h2.size (fun j hj => by cases hj; exact Nat.le_refl _)
  exact h3.grown h7 h3.size (fun j hj => by cases hj; exact Nat.le_succ _)
theorem nm_scr {wq w5 w7 w8 : World} {n' : Nd} {A2 Av : Option Addr} {m2 c2 mv cv q : Nat} {xs : List Value} {vs : List Int} (hb5 : Below wq.heap.size wq w5) (ho5 : w5.ownsRow wq.heap.size 4 1 (.slice A2 m2 c2) m2 xs) (hi5 : OwnI w5 wq.heap.size Av mv cv vs)
    (h57 : Below w5.heap.size w5 w7) (hN7 : NB w7 w5.heap.size n' (.slice A2 m2 c2)) (hg8 : w7.grownBy w8 (some q)) (hq8 : wq.heap.size ≤ q) (hq9 : q < w7.heap.size → ∃ t cur, Blk w7 q t cur ∧ t ≠ 4 ∧ Av.map Addr.block = some q) :
    NB w8 w5.heap.size n' (.slice A2 m2 c2) ∧ w8.ownsRow wq.heap.size 4 1 (.slice A2 m2 c2) m2 xs ∧ Below wq.heap.size wq w8 := by
  have ho7 := own_below ho5 h57 (fun z hz => (ho5.lt z hz).2)
  have hb7 := hb5.trans (h57.mono hb5.size)
  have hl7 := Blk.lt hN7
  refine ⟨Blk.grown hN7 hg8 (fun e => ?_), ?_, hb7.grown hg8 hb7.size (fun k hk => by cases hk; exact hq8)⟩
  · have e : w5.heap.size = q := Option.some.inj e
    subst e
    obtain ⟨t, cur, _, _, h3⟩ := hq9 hl7
    cases Av with
    | none => cases h3
    | some ad =>
      have := (hi5.2.2.2 ad rfl).2.2.1
      have e : ad.block = w5.heap.size := Option.some.inj h3
      omega
  · rcases Nat.lt_or_ge q w7.heap.size with h | h
    · obtain ⟨t, cur, h1, h2, _⟩ := hq9 h
      exact own_kept_t ho7 hg8 h1 h2.symm
    · exact ho7.kept hg8 (.inr fun e => by have := (ho7.lt q e).2; omega)
section
variable {P : Program} {w : World} {ops : Array Oper} {o : Oper} {a : Act} {Q : Exit → Act → World → Prop}
theorem step_make_own {K : Act → World → Prop} {E : Prop} (hgd : o.guard = none) (l c : Operand) (t : TypeId) (hop : o.op = Op.makeSlice t l c)
    (base : Nat) (e : TypeId) (i : TypeInfo) (z : Value) (size : Nat) (h1 : P.underlying t = some (.slice e)) (h2 : P.info? e = some i) (h3 : i.zero = some z) (h4 : i.size = size)
    (kl kc : IntKind) (C : Int) (n : Nat) (hl : a.eval l = .int kl 0) (hc : a.eval c = .int kc C) (hC : C = (n : Int)) (b2 : i.bytes * n ≤ 281474976710656) (b3 : n ≤ maxLen) (b4 : base ≤ w.heap.size)
    (hK : ∀ w', w'.ownsRow base e size (.slice (some ⟨w.heap.size, 0, none⟩) 0 n) 0 [] → w.grownBy w' none → K (a.put o.dst (.slice (some ⟨w.heap.size, 0, none⟩) 0 n)) w') :
    if Region.wanted o (yielded ops a.tmps) = true then Oper.wp P o a w K Q else E := by
  have hw : Region.wanted o (yielded ops a.tmps) = true := by simp [Region.wanted, hgd]
  rw [if_pos hw]
  obtain ⟨w', hrun, r1, r2⟩ := run_make_own (P := P) w base t e i z size h1 h2 h3 h4 kl kc n b2 b3 b4
  subst hC
  unfold Oper.wp
  simp only [execOp, hop, hl, hc, Sem.run_bind, Sem.run_pure, Result.andThen_ok, hrun]
  exact hK w' r1 r2
end
set_option maxRecDepth 100000 in
set_option maxHeartbeats 8000000 in
theorem nodemem_walk (n : Nd) (A : Option Addr) (m c : Nat) (bs : List Bool) (Am : Option Addr) (mm cm : Nat) (Ms : List Mg) (w : World) (hn : NIn n) (hV : VR w 1 A m c (bs.map Value.bool)) (hm : m ≤ 140737488351232) (hM : MR w Am mm cm Ms) (hmm : mm * 48 ≤ 140737488351232) :
    Calls Try.prog 6 #[.agg (NA n (.slice A m c)), .slice Am mm cm] w fun e w' => e = .returned (.bool true) ∧ Below w.heap.size w w' := by
  obtain ⟨i0, hi0, hz0, hz1, hz2⟩ := info_parts infoBoolM
  obtain ⟨k0, hk0, kz0, kz1, kz2⟩ := info_parts infoMsgN
  have hNB0 : NB (w.alloc (.cells (NA n (.slice A m c)) 45)) w.heap.size n (.slice A m c) := Blk.new _ _ _
  have hB0 : Below w.heap.size w (w.alloc (.cells (NA n (.slice A m c)) 45)) := (Below.refl _ _).alloc (Nat.le_refl _) _
  have HN := Lib.hid hNB0
  have HB0 := Lib.hid hB0
  have HV := Lib.hid (hV.next hB0)
  have HM := Lib.hid (hM.next hB0)
  have HNI := Lib.hid hn
  have hms := hM.1
  have hsl : w.heap.size < (w.alloc (.cells (NA n (.slice A m c)) 45)).heap.size := by simp
  clear hNB0 hB0 hV hM hn
  go_enter Try.func6, Try.ntmps6
  go_upto_region 1 with fail
  generalize (w.alloc (.cells (NA n (.slice A m c)) 45)) = w0 at *
  have hzs : (Try.zeroCells45).size = 74 := by kernel_rfl
  have HZS := Lib.hid hzs
  clear hzs
  go_upto_region 2 with (first
    | (refine wpList_load_at 45 (.tmp 2) rfl rfl w.heap.size rfl _ (NA n (.slice A m c)) _ HN.out Try.underlying45 rfl (by rw [NA_size]; exact infoNode) ?_)
    | (refine wpList_store_at 45 (.tmp 5) (.tmp 22) rfl rfl w0.heap.size _ _ (NA n (.slice A m c)) rfl rfl (Blk.new _ _ _) (by rw [NA_size, HZS.out]) (by rw [NA_size]; exact infoNode) (NA_one _ _ _ _) ?_; intro w1 hN1 hg1; have HN1 : Hid (NB w1 w0.heap.size n (.slice A m c)) := hN1; have HG1 := Lib.hid hg1; clear hN1 hg1))
  have hb1 : Below w0.heap.size w0 w1 := ((Below.refl w0.heap.size w0).alloc (Nat.le_refl _) _).grown HG1.out (by simp) (fun j hj => by cases hj; exact Nat.le_refl _)
  have HB1 := Lib.hid hb1
  have hsw1 : w0.heap.size + 1 ≤ w1.heap.size := by have := HG1.out.size; simpa using this
  clear hb1 HG1
  have HN1b := Lib.hid (NB.next HN.out HB1.out)
  have hv2 : VR w1 1 A m c (bs.map Value.bool) := HV.out.next HB1.out
  have HV1 := Lib.hid hv2
  clear hv2
  have hw2 : IntKind.i64.wrap ((m : Int) + 2) = (m : Int) + 2 := IntWalk.i64_in _ (by omega)
  
  refine wp_region_G 12 (fun w' => NB w' w.heap.size n (.slice A m c) ∧ NB w' w0.heap.size n (.slice A m c)) (by kernel_rfl) (⟨HN1b.out.next (Below.refl _ _).drew, HN1.out.next (Below.refl _ _).drew⟩) (fun hS => ?_)
  refine wpG 0 ?_ rfl (by kernel_rfl) (fun _ _ _ h => h) (by rfl) (fun wx => ?_) hS ?_
  rotate_left
  · go_simp; (try with_reducible rfl)
  try simp only [pts]
  refine wpG 1 ?_ rfl (by kernel_rfl) (fun _ _ _ h => h) (by rfl) (fun wx => ?_) hS ?_
  rotate_left
  · go_simp; (try with_reducible rfl)
  try simp only [pts]
  refine wpT 2 ?_ rfl (by kernel_rfl) (fun _ _ _ h => h) (Or.inl ⟨by rfl, fun wx hSw => ?_⟩) hS ?_
  rotate_left
  · have hq := NB.agr hSw.1; (try dsimp only at hSw); go_simp; (try with_reducible rfl)
  try simp only [pts]
  refine wpG 6 ?_ rfl (by kernel_rfl) (fun _ _ _ h => h) (by rfl) (fun wx => ?_) hS ?_
  rotate_left
  · go_simp; (try with_reducible rfl)
  try simp only [pts]
  refine wpG 7 ?_ rfl (by kernel_rfl) (fun _ _ _ h => h) (by rfl) (fun wx => ?_) hS ?_
  rotate_left
  · go_simp; (try with_reducible rfl)
  try simp only [pts]
  refine wpT 8 ?_ rfl (by kernel_rfl) (fun _ _ _ h => h) (Or.inl ⟨by rfl, fun wx hSw => ?_⟩) hS ?_
  rotate_left
  · have hq := NB.agr hSw.1; (try dsimp only at hSw); go_simp; (try with_reducible rfl)
  try simp only [pts]
  refine wpG 3 ?_ rfl (by kernel_rfl) (fun _ _ _ h => h) (by rfl) (fun wx => ?_) hS ?_
  rotate_left
  · go_simp; (try with_reducible rfl)
  try simp only [pts]
  refine wpG 4 ?_ rfl (by kernel_rfl) (fun _ _ _ h => h) (by rfl) (fun wx => ?_) hS ?_
  rotate_left
  · have hq := hw2; go_simp; (try with_reducible rfl)
  try simp only [pts]
  refine wpAnyG_one (i := 5) rfl (by kernel_rfl) (fun K hK => ?_)
  refine step_make_own rfl _ _ 41 rfl w1.heap.size 4 i0 (.bool false) 1 Try.underlying41 hi0 hz0 hz1 .i64 .i64 _ (m + 2) rfl rfl (by push_cast; rfl) (by rw [hz2]; omega) (by unfold maxLen; omega) (Nat.le_refl _) (fun w2 ho2 hg2 => ?_)
  have hS2 : NB w2 w.heap.size n (.slice A m c) ∧ NB w2 w0.heap.size n (.slice A m c) := ⟨Blk.grown hS.1 hg2 (by intro e; cases e), Blk.grown hS.2 hg2 (by intro e; cases e)⟩
  refine hK.out _ _ hS2 ?_
  clear hK K hS
  have hS := hS2
  clear hS2
  have HO2 := Lib.hid ho2
  have HG2 := Lib.hid hg2
  have hsz2 : w1.heap.size ≤ w2.heap.size := hg2.size
  clear ho2 hg2
  try simp only [pts]
  refine wpAnyG_one (i := 9) rfl (by kernel_rfl) (fun K hK => ?_)
  refine step_append_vr _ _ 41 rfl rfl w1.heap.size 4 i0 (.bool false) 1 1 Try.underlying41 hi0 hz0 hz1 hz2 rfl (by decide) (.slice (some ⟨w1.heap.size, 0, none⟩) 0 (m + 2)) 0 [] rfl HO2.out A m c (bs.map Value.bool) rfl (HV1.out.next ((Below.refl w1.heap.size w1).drew.grown HG2.out (Nat.le_refl _) (fun j e => by cases e))) (bools_one bs) (by unfold maxLen; omega) (by omega) (by have := hsz2; exact this) (fun v3 w3 ho3 hg3 => ?_)
  have hS3 : NB w3 w.heap.size n (.slice A m c) ∧ NB w3 w0.heap.size n (.slice A m c) := ⟨Blk.grown hS.1 hg3 (by intro e; have h : w.heap.size = w1.heap.size := Option.some.inj e; omega), Blk.grown hS.2 hg3 (by intro e; have h : w0.heap.size = w1.heap.size := Option.some.inj e; omega)⟩
  refine hK.out _ _ hS3 ?_
  clear hK K hS
  have hS := hS3
  clear hS3
  rw [Nat.zero_add, List.nil_append] at ho3
  obtain ⟨A3, c3, rfl⟩ := own_shape ho3
  have HO3 := Lib.hid ho3
  have HG3 := Lib.hid hg3
  have hsz3 := hg3.size
  clear ho3 hg3
  try simp only [pts]
  have f73 := Blk.frozen hS.2 73
  have k73 := NB.agr hS.2
  refine wpG 10 ?_ rfl (by kernel_rfl) (fun _ _ _ h => h) (by rfl) (fun wx => ?_) hS ?_
  rotate_left
  · go_simp; (try with_reducible rfl)
  try simp only [pts]
  refine wpG 11 ?_ rfl (by kernel_rfl) (fun _ _ _ h => h) (by rfl) (fun wx => ?_) hS ?_
  rotate_left
  · go_simp; (try with_reducible rfl)
  try simp only [pts]
  refine wpAnyG_last rfl (by kernel_rfl) (by kernel_rfl) (by kernel_rfl) (fun K hK => ?_)
  go_simp
  refine hK.out _ _ ?_
  clear hK K
  try simp only [pts]
  have hN4 : NB (w3.setCell ⟨w0.heap.size, 73, none⟩ (.slice A3 m c3)) w0.heap.size n (.slice A3 m c3) := hS.2.va_set
  have hN4w : NB (w3.setCell ⟨w0.heap.size, 73, none⟩ (.slice A3 m c3)) w.heap.size n (.slice A m c) := Blk.grown hS.1 (grown_set _ _ _ _) (by intro e; have := Option.some.inj e; omega)
  have hO4 : (w3.setCell ⟨w0.heap.size, 73, none⟩ (.slice A3 m c3)).ownsRow w1.heap.size 4 1 (.slice A3 m c3) m (bs.map Value.bool) := own_kept_t HO3.out (grown_set _ _ _ _) hS.2 (by decide)
  have hB4 : Below w0.heap.size w0 (w3.setCell ⟨w0.heap.size, 73, none⟩ (.slice A3 m c3)) := ((((HB1.out.drew).grown HG2.out (by show w0.heap.size ≤ w1.heap.size; omega) (fun j e => by cases e)).grown HG3.out (by omega) (fun j e => by have h : w1.heap.size = j := Option.some.inj e; omega))).setCell (p := ⟨w0.heap.size, 73, none⟩) (Nat.le_refl _) _
  clear hS f73 k73
  generalize w3.setCell ⟨w0.heap.size, 73, none⟩ (.slice A3 m c3) = w4 at *
  have HN4 := Lib.hid hN4
  have HN4W := Lib.hid hN4w
  have HO4 := Lib.hid hO4
  have HB4 := Lib.hid hB4
  have HM4 := Lib.hid (HM.out.next HB4.out)
  have HV4 := Lib.hid (HV.out.next HB4.out)
  have hs4 := hB4.size
  clear hN4 hN4w hO4 hB4 HO2 HG2 HO3 HG3 HN1 HB1 HN1b HV1 HM HV hw2 hsw1 hsz2 hsz3 HZS
  go_wp2_with fail
  go_loopw [6, 7] (fun bv iv wr => BxRel w4 Ms bv iv wr) (fun _ i _ => mm - (intOf i).toNat)
  case atStart => exact BxRel.start _ _
  case round =>
    obtain ⟨i, gs, rfl, hi, hIn⟩ := hrel
    obtain ⟨Av, cv, rfl⟩ := own_shape hIn.1
    have HIN := Lib.hid hIn
    clear hIn
    rw [hms] at hi
    by_cases him : i < mm
    · obtain ⟨b, off, x, rfl, hlt, hx, hxm, hxr, c0, c1, c2, c3⟩ := (HM4.out.next HIN.out.2.2).row him
      have hi1 : (0 : Int) ≤ (i : Int) := by omega
      have hi2 : (i : Int) < (mm : Int) := by omega
      have HX := Lib.hid hx
      have HXR := Lib.hid hxr
      clear hx hxr hxm
      go_upto_region 8 with fail
      have hG : Blk (wr.alloc (.cells #[.int .i64 x.k, .int .i64 x.f, .int .i64 x.r, .slice x.A x.n x.c] 64)) wr.heap.size 64 #[.int .i64 x.k, .int .i64 x.f, .int .i64 x.r, .slice x.A x.n x.c] := Blk.new _ _ _
      have hb5 : Below wr.heap.size wr (wr.alloc (.cells #[.int .i64 x.k, .int .i64 x.f, .int .i64 x.r, .slice x.A x.n x.c] 64)) := (Below.refl _ _).alloc (Nat.le_refl _) _
      have hs5 : wr.heap.size < (wr.alloc (.cells #[.int .i64 x.k, .int .i64 x.f, .int .i64 x.r, .slice x.A x.n x.c] 64)).heap.size := by simp
      generalize (wr.alloc (.cells #[.int .i64 x.k, .int .i64 x.f, .int .i64 x.r, .slice x.A x.n x.c] 64)) = w5 at *
      clear c0 c1 c2 c3
      have c3 : w5.cell? ⟨wr.heap.size, 3, none⟩ = some (.slice x.A x.n x.c) := hG.cell 3
      have KR := Lib.hid (Ro.roomy_any x.A x.n x.c x.vs w5 (HXR.out.next hb5).1 (by have := HXR.out.2.2.1; omega))
      have HG := Lib.hid hG
      have HB5 := Lib.hid hb5
      clear hG hb5
      go_upto_region 9 with (first
        | (go_at_call 16; (with_reducible refine KR.out.mono ?_); rintro e w6 ⟨rfl, hg6, hb6⟩; have h7 := HG.out.next hb6; have d3 := h7.cell 3; have f3 := h7.frozen 3; have HG7 := Lib.hid h7; have HR6 := Lib.hid hg6; have HB6 := Lib.hid hb6; have hs6 := hb6.size; clear h7 hg6 hb6))
      have hG8 : Blk (w6.setCell ⟨wr.heap.size, 3, none⟩ (.slice (some ⟨w5.heap.size, 0, none⟩) x.n (x.n + 2))) wr.heap.size 64 #[.int .i64 x.k, .int .i64 x.f, .int .i64 x.r, .slice (some ⟨w5.heap.size, 0, none⟩) x.n (x.n + 2)] := HG7.out.set_ 3 _
      have hR8 : Blk (w6.setCell ⟨wr.heap.size, 3, none⟩ (.slice (some ⟨w5.heap.size, 0, none⟩) x.n (x.n + 2))) w5.heap.size 3 (Ro.roomC x.vs) := HR6.out.grown (grown_set _ _ _ _) (by intro e; have := Option.some.inj e; omega)
      have hb8 : Below wr.heap.size wr (w6.setCell ⟨wr.heap.size, 3, none⟩ (.slice (some ⟨w5.heap.size, 0, none⟩) x.n (x.n + 2))) := (HB5.out.trans (HB6.out.mono (Nat.le_of_lt hs5))).setCell (p := ⟨wr.heap.size, 3, none⟩) (Nat.le_refl _) _
      clear d3 f3
      generalize w6.setCell ⟨wr.heap.size, 3, none⟩ (.slice (some ⟨w5.heap.size, 0, none⟩) x.n (x.n + 2)) = w8 at *
      have hs8 := hb8.size
      have hn9 : Blk (w8.alloc (.cells #[.int .i64 x.k, .int .i64 x.f, .int .i64 x.r, .slice (some ⟨w5.heap.size, 0, none⟩) x.n (x.n + 2)] 64)) w8.heap.size 64 #[.int .i64 x.k, .int .i64 x.f, .int .i64 x.r, .slice (some ⟨w5.heap.size, 0, none⟩) x.n (x.n + 2)] := Blk.new _ _ _
      have hb9 : Below wr.heap.size wr (w8.alloc (.cells #[.int .i64 x.k, .int .i64 x.f, .int .i64 x.r, .slice (some ⟨w5.heap.size, 0, none⟩) x.n (x.n + 2)] 64)) := hb8.alloc hs8 _
      have hr9 := hR8.alloc (.cells #[.int .i64 x.k, .int .i64 x.f, .int .i64 x.r, .slice (some ⟨w5.heap.size, 0, none⟩) x.n (x.n + 2)] 64)
      have hv9 : VR (w8.alloc (.cells #[.int .i64 x.k, .int .i64 x.f, .int .i64 x.r, .slice (some ⟨w5.heap.size, 0, none⟩) x.n (x.n + 2)] 64)) 4 (some ⟨w8.heap.size, 0, none⟩) 1 1 (rmX x w5.heap.size).cells := ⟨rfl, (fun e => by cases e), fun _ => ⟨w8.heap.size, 0, rfl, hn9.lt, fun j u hu => by rw [Nat.zero_add, hn9.cell]; rw [← hu]; exact (List.getElem?_toArray ..)⟩⟩
      have ho9 := own_below HIN.out.1 hb9 (fun z hz => (HIN.out.1.lt z hz).2)
      have hsw4 : w4.heap.size ≤ (w8.alloc (.cells #[.int .i64 x.k, .int .i64 x.f, .int .i64 x.r, .slice (some ⟨w5.heap.size, 0, none⟩) x.n (x.n + 2)] 64)).heap.size := Nat.le_trans HIN.out.2.2.size hb9.size
      have HG8 := Lib.hid hG8
      have HB9 := Lib.hid hb9
      have HR9 := Lib.hid hr9
      have HV9 := Lib.hid hv9
      have HO9 := Lib.hid ho9
      clear hG8 hb8 hb9 hr9 hv9 ho9 hn9 hR8 HG7 HR6 HB6 HB5 HG
      go_upto_region 6 with (first
        | (refine wpList_load_at 64 (.tmp 8) rfl rfl wr.heap.size rfl _ #[.int .i64 x.k, .int .i64 x.f, .int .i64 x.r, .slice (some ⟨w5.heap.size, 0, none⟩) x.n (x.n + 2)] _ HG8.out Try.underlying64 rfl infoMsgS ?_)
        | (refine wpList_buildSlice1 62 (.tmp 50) rfl rfl 64 k0 _ #[.int .i64 x.k, .int .i64 x.f, .int .i64 x.r, .slice (some ⟨w5.heap.size, 0, none⟩) x.n (x.n + 2)] Try.underlying62 hk0 kz1 kz0 rfl (by decide) (by decide) rfl ?_)
        | (at_builtin; go_loud (refine wpList_append_vr _ _ 62 rfl rfl w4.heap.size 64 k0 _ 4 48 Try.underlying62 hk0 kz0 kz1 kz2 rfl (by decide) (.slice Av i cv) i (flatM (rmM Ms gs i)) rfl HO9.out (some ⟨w8.heap.size, 0, none⟩) 1 1 (rmX x w5.heap.size).cells rfl HV9.out (by intro u hu; simp [rmX, Mg.cells] at hu; rcases hu with rfl | rfl | rfl | rfl <;> rfl) (by unfold maxLen; omega) (by omega) hsw4 ?_); intro v10 w10 ho10 hg10; have HO10 := Lib.hid ho10; have HG10 := Lib.hid hg10; clear ho10 hg10))
      go_wp2_with fail
      go_roundw
      case rel => exact BxRel.put HIN.out HX.out HB9.out HO10.out HG10.out HR9.out (by go_num)
      case measure => simp [intOf]; omega
    · obtain rfl : mm = i := by omega
      clear him
      obtain ⟨wb, hren⟩ : ∃ wb, wb = wr := ⟨_, rfl⟩
      subst hren
      have HBX := Lib.hid (fun W (hb : Below wb.heap.size wb W) => HIN.out.mr HM4.out hms.symm hb)
      have HBC := Lib.hid (fun W (hb : Below wb.heap.size wb W) j x (hj : j < mm) (hx : Ms[j]? = some x) => (HIN.out.2.1 j x hj hx).next hb)
      have hbr := HIN.out.2.2
      have hsr := hbr.size
      have HNB := Lib.hid (fun W (hb : Below wb.heap.size wb W) => NB.next HN4.out (hbr.trans (hb.mono hsr)))
      have HNW := Lib.hid (fun W (hb : Below wb.heap.size wb W) => NB.next HN4W.out (hbr.trans (hb.mono hsr)))
      have HV3 := Lib.hid (fun W (hb : Below wb.heap.size wb W) => (VR.own HO4.out).next (hbr.trans (hb.mono hsr)))
      have HVW := Lib.hid (fun W (hb : Below wb.heap.size wb W) => HV4.out.next (hbr.trans (hb.mono hsr)))
      have HMW := Lib.hid (fun W (hb : Below wb.heap.size wb W) => HM4.out.next (hbr.trans (hb.mono hsr)))
      have HBR := Lib.hid (HB0.out.trans ((HB4.out.mono HB0.out.size).trans (hbr.mono (by have := HB0.out.size; omega))))
      clear HIN HN4 HN4W HO4 HV4 HM4 HB4 HB0 hbr
      go_wp2_with fail
      have hF : Blk (wb.alloc (.cells #[.func (.func 17) #[] #[], .func (.func 18) #[] #[], .func (.func 19) #[] #[], .func (.func 20) #[] #[]] 66)) wb.heap.size 66 #[.func (.func 17) #[] #[], .func (.func 18) #[] #[], .func (.func 19) #[] #[], .func (.func 20) #[] #[]] := Blk.new _ _ _
      have hbf : Below wb.heap.size wb (wb.alloc (.cells #[.func (.func 17) #[] #[], .func (.func 18) #[] #[], .func (.func 19) #[] #[], .func (.func 20) #[] #[]] 66)) := (Below.refl _ _).alloc (Nat.le_refl _) _
      generalize wb.alloc (.cells #[.func (.func 17) #[] #[], .func (.func 18) #[] #[], .func (.func 19) #[] #[], .func (.func 20) #[] #[]] 66) = wf at *
      have HF := Lib.hid hF
      have HBF := Lib.hid hbf
      clear hF hbf
      have UP := Lib.hid (fun W (hb : Below wf.heap.size wf W) => (HBF.out.trans (hb.mono HBF.out.size) : Below wb.heap.size wb W))
      go_loopw [56] (fun iv wq => ∃ k : Nat, iv = .int .i64 k ∧ k ≤ 4 ∧ Below wf.heap.size wf wq) (fun iv _ => 4 - (intOf iv).toNat)
      case atStart => exact ⟨0, rfl, by omega, Below.refl _ _⟩
      case round =>
        obtain ⟨k, rfl, hk, hq⟩ := hrel
        obtain ⟨wq, hren⟩ : ∃ wq, wq = wr := ⟨_, rfl⟩
        subst hren
        have HQ := Lib.hid hq
        clear hq
        have HQR := Lib.hid (UP.out _ HQ.out)
        by_cases hk4 : k < 4
        · have hf : ∃ f, wq.cell? ⟨wb.heap.size, k, none⟩ = some (.func (.func f) #[] #[]) ∧ (f = 17 ∨ f = 18 ∨ f = 19 ∨ f = 20) := by
            have hc := (HF.out.next HQ.out).cell k
            have hkk : k = 0 ∨ k = 1 ∨ k = 2 ∨ k = 3 := by omega
            rcases hkk with rfl | rfl | rfl | rfl
            · exact ⟨_, hc, .inl rfl⟩
            · exact ⟨_, hc, .inr (.inl rfl)⟩
            · exact ⟨_, hc, .inr (.inr (.inl rfl))⟩
            · exact ⟨_, hc, .inr (.inr (.inr rfl))⟩
          obtain ⟨f, d0, hf⟩ := hf
          have hk1 : (0 : Int) ≤ (k : Int) := by omega
          have hk2 : (k : Int) < 4 := by omega
          have hmB : m ≤ 140737488355328 := by omega
          have hmmB : mm ≤ 17592186044416 := by omega
          rcases hf with rfl | rfl | rfl | rfl
          · have KC := Lib.hid (nm_relay n A3 m c3 bs Av mm cv (rmM Ms gs mm) wq HNI.out (HV3.out _ HQR.out) hmB (HBX.out _ HQR.out) hmmB)
            have hZZ : (Try.zeroCells45).size = 74 := by kernel_rfl
            have HZZ := Lib.hid hZZ
            clear hZZ
            go_upto_region 15 with (first
              | (refine wpList_load_at 45 (.tmp 5) rfl rfl w0.heap.size rfl _ (NA n (.slice A3 m c3)) _ (HNB.out _ HQR.out) Try.underlying45 rfl (by rw [NA_size]; exact infoNode) ?_)
              | (go_at_call 17; (with_reducible refine KC.out.mono ?_); rintro e w5 ⟨n', A2, m2, c2, bs2, k', f', r', Ax, mx, cx, vs', rfl, ho5, hi5, hmx, hb5⟩; have HO5 := Lib.hid ho5; have HI5 := Lib.hid hi5; have HB5 := Lib.hid hb5; clear ho5 hi5 hb5)
              | (refine wpList_store_at 45 (.tmp 12) (.tmp 65) rfl rfl w5.heap.size _ _ (NA n' (.slice A2 m2 c2)) rfl rfl ((Blk.new _ _ _).alloc _) (by rw [NA_size, HZZ.out]) (by rw [NA_size]; exact infoNode) (NA_one _ _ _ _) ?_; intro w6 hN6 hg6; have HN6 : Hid (NB w6 w5.heap.size n' (.slice A2 m2 c2)) := hN6; have HG6 := Lib.hid hg6; clear hN6 hg6)
              | (refine wpList_store_at 64 (.tmp 13) (.tmp 66) rfl rfl (w5.heap.size + 1) _ _ #[.int .i64 k', .int .i64 f', .int .i64 r', .slice Ax mx cx] rfl rfl ((Blk.at_ _ _ _ _ (by simp)).grown HG6.out (by intro e; have := Option.some.inj e; omega)) rfl infoMsgS (by simp [Value.oneCell']) ?_; intro w7 hM7 hg7; have HM7 := Lib.hid hM7; have HG7 := Lib.hid hg7; clear hM7 hg7))
            have h57 := two_alloc HG6.out HG7.out
            have hN7 : NB w7 w5.heap.size n' (.slice A2 m2 c2) := Blk.grown HN6.out HG7.out (by intro e; have := Option.some.inj e; omega)
            have d3 : w7.cell? ⟨w5.heap.size + 1, 3, none⟩ = some (.slice Ax mx cx) := HM7.out.cell 3
            have KS := Lib.hid (Sc.scribble_ownI w7 (HI5.out.next h57) (by omega) (Nat.le_trans HB5.out.size h57.size))
            have H57 := Lib.hid h57
            have HN7 := Lib.hid hN7
            clear h57 hN7 HM7 HN6 HG6 HG7 KC d0
            go_upto_region 16 with (first
              | (go_at_call 21; (with_reducible refine KS.out.mono ?_); rintro e w8 ⟨rfl, q, hg8, hq8, hq9⟩; have HS := Lib.hid (And.intro hg8 (And.intro hq8 hq9)); clear hg8 hq8 hq9))
            obtain ⟨hN8, hO8, hB8⟩ := nm_scr HB5.out HO5.out HI5.out H57.out HN7.out HS.out.1 HS.out.2.1 HS.out.2.2
            have HN8 := Lib.hid hN8
            have HO8 := Lib.hid hO8
            have HB8 := Lib.hid hB8
            clear hN8 hO8 hB8 HS KS HN7 H57 HO5 HI5 HB5 d3
            go_wp2_with fail
            go_loopw [14] (fun jv wz => FlRel wq (w5.heap.size) n' A2 m2 c2 jv wz) (fun jv _ => m2 - (intOf jv).toNat)
            case atStart => exact ⟨0, bs2, rfl, Nat.zero_le _, HN8.out, HO8.out, HB8.out⟩
            case round =>
              obtain ⟨j, bz, rfl, hj, hNz, hOz, hBz⟩ := hrel
              have kv := NB.agr hNz
              have hmx := own_max hOz
              by_cases hjm : j < m2
              · obtain ⟨b, hbz⟩ := bools_at hOz.1 hjm
                obtain ⟨_, _, hAg⟩ := Sm.own_parts hOz
                obtain ⟨g, rfl, _, _⟩ := hAg (by omega)
                have hj1 : (0 : Int) ≤ (j : Int) := by omega
                have hj2 : (j : Int) < (m2 : Int) := by omega
                have HNz := Lib.hid hNz
                have HOz := Lib.hid hOz
                have HBz := Lib.hid hBz
                have HBZ := Lib.hid hbz
                clear hNz hOz hBz hbz
                go_wp2_with fail
                refine wp_region_G 12 (fun w' => NB w' (w5.heap.size) n' (.slice (some ⟨g, 0, none⟩) m2 c2) ∧ w'.ownsRow wq.heap.size 4 1 (.slice (some ⟨g, 0, none⟩) m2 c2) m2 (bz.map Value.bool)) (by kernel_rfl) (⟨HNz.out.next (Below.refl _ _).drew, HOz.out⟩) (fun hS => ?_)
                refine wpG 0 ?_ rfl (by kernel_rfl) (fun _ _ _ h => h) (by rfl) (fun wx => ?_) hS ?_
                rotate_left
                · go_simp; (try with_reducible rfl)
                try simp only [pts]
                refine wpG 1 ?_ rfl (by kernel_rfl) (fun _ _ _ h => h) (by rfl) (fun wx => ?_) hS ?_
                rotate_left
                · go_simp; (try with_reducible rfl)
                try simp only [pts]
                refine wpT 2 ?_ rfl (by kernel_rfl) (fun _ _ _ h => h) (Or.inl ⟨by rfl, fun wx hSw => ?_⟩) hS ?_
                rotate_left
                · have hq := NB.agr hSw.1; (try dsimp only at hSw); go_simp; (try with_reducible rfl)
                try simp only [pts]
                refine wpG 3 ?_ rfl (by kernel_rfl) (fun _ _ _ h => h) (by rfl) (fun wx => ?_) hS ?_
                rotate_left
                · go_simp; (try with_reducible rfl)
                try simp only [pts]
                refine wpG 4 ?_ rfl (by kernel_rfl) (fun _ _ _ h => h) (by rfl) (fun wx => ?_) hS ?_
                rotate_left
                · go_simp; (try with_reducible rfl)
                try simp only [pts]
                refine wpG 5 ?_ rfl (by kernel_rfl) (fun _ _ _ h => h) (by rfl) (fun wx => ?_) hS ?_
                rotate_left
                · go_simp; (try with_reducible rfl)
                try simp only [pts]
                refine wpT 6 ?_ rfl (by kernel_rfl) (fun _ _ _ h => h) (Or.inl ⟨by rfl, fun wx hSw => ?_⟩) hS ?_
                rotate_left
                · have hq := NB.agr hSw.1; (try dsimp only at hSw); go_simp; (try with_reducible rfl)
                try simp only [pts]
                refine wpG 7 ?_ rfl (by kernel_rfl) (fun _ _ _ h => h) (by rfl) (fun wx => ?_) hS ?_
                rotate_left
                · go_simp; (try with_reducible rfl)
                try simp only [pts]
                refine wpG 8 ?_ rfl (by kernel_rfl) (fun _ _ _ h => h) (by rfl) (fun wx => ?_) hS ?_
                rotate_left
                · go_simp; (try with_reducible rfl)
                try simp only [pts]
                refine wpT 9 (.bool b) rfl (by kernel_rfl) (fun _ _ _ h => h) (Or.inl ⟨by rfl, fun wx hSw => (by have hq := (hSw.2.cellAt j (by omega)).trans HBZ.out; go_simp; (try with_reducible rfl))⟩) hS ?_
                try simp only [pts]
                refine wpG 10 ?_ rfl (by kernel_rfl) (fun _ _ _ h => h) (by rfl) (fun wx => ?_) hS ?_
                rotate_left
                · go_simp; (try with_reducible rfl)
                try simp only [pts]
                refine wpG 11 ?_ rfl (by kernel_rfl) (fun _ _ _ h => h) (by rfl) (fun wx => ?_) hS ?_
                rotate_left
                · go_simp; (try with_reducible rfl)
                try simp only [pts]
                refine wpAnyG_last rfl (by kernel_rfl) (by kernel_rfl) (by kernel_rfl) (fun K hK => ?_)
                have fz := Sm.own_frozen hS.2 j
                have cz := (hS.2.cellAt j (by omega)).trans HBZ.out
                go_simp
                refine hK.out _ _ ?_
                clear hK K
                try simp only [pts]
                go_wp2_with fail
                go_roundw
                case rel => exact FlRel.put hS.1 hS.2 (HBz.out.drew) hjm (by go_num)
                case measure => simp [intOf]; omega
              · have HBZZ := Lib.hid hBz
                clear hNz hOz
                obtain rfl : j = m2 := by omega
                go_wp2_with fail
                go_roundw
                case rel => exact ⟨k + 1, by go_num, by omega, HQ.out.trans (HBZZ.out.mono HQ.out.size)⟩
                case measure => simp [intOf]; omega
          · have KC := Lib.hid (nm_decide n A3 m c3 bs Av mm cv (rmM Ms gs mm) wq HNI.out (HV3.out _ HQR.out) hmB (HBX.out _ HQR.out) hmmB)
            have hZZ : (Try.zeroCells45).size = 74 := by kernel_rfl
            have HZZ := Lib.hid hZZ
            clear hZZ
            go_upto_region 15 with (first
              | (refine wpList_load_at 45 (.tmp 5) rfl rfl w0.heap.size rfl _ (NA n (.slice A3 m c3)) _ (HNB.out _ HQR.out) Try.underlying45 rfl (by rw [NA_size]; exact infoNode) ?_)
              | (go_at_call 18; (with_reducible refine KC.out.mono ?_); rintro e w5 ⟨n', A2, m2, c2, bs2, k', f', r', Ax, mx, cx, vs', rfl, ho5, hi5, hmx, hb5⟩; have HO5 := Lib.hid ho5; have HI5 := Lib.hid hi5; have HB5 := Lib.hid hb5; clear ho5 hi5 hb5)
              | (refine wpList_store_at 45 (.tmp 12) (.tmp 65) rfl rfl w5.heap.size _ _ (NA n' (.slice A2 m2 c2)) rfl rfl ((Blk.new _ _ _).alloc _) (by rw [NA_size, HZZ.out]) (by rw [NA_size]; exact infoNode) (NA_one _ _ _ _) ?_; intro w6 hN6 hg6; have HN6 : Hid (NB w6 w5.heap.size n' (.slice A2 m2 c2)) := hN6; have HG6 := Lib.hid hg6; clear hN6 hg6)
              | (refine wpList_store_at 64 (.tmp 13) (.tmp 66) rfl rfl (w5.heap.size + 1) _ _ #[.int .i64 k', .int .i64 f', .int .i64 r', .slice Ax mx cx] rfl rfl ((Blk.at_ _ _ _ _ (by simp)).grown HG6.out (by intro e; have := Option.some.inj e; omega)) rfl infoMsgS (by simp [Value.oneCell']) ?_; intro w7 hM7 hg7; have HM7 := Lib.hid hM7; have HG7 := Lib.hid hg7; clear hM7 hg7))
            have h57 := two_alloc HG6.out HG7.out
            have hN7 : NB w7 w5.heap.size n' (.slice A2 m2 c2) := Blk.grown HN6.out HG7.out (by intro e; have := Option.some.inj e; omega)
            have d3 : w7.cell? ⟨w5.heap.size + 1, 3, none⟩ = some (.slice Ax mx cx) := HM7.out.cell 3
            have KS := Lib.hid (Sc.scribble_ownI w7 (HI5.out.next h57) (by omega) (Nat.le_trans HB5.out.size h57.size))
            have H57 := Lib.hid h57
            have HN7 := Lib.hid hN7
            clear h57 hN7 HM7 HN6 HG6 HG7 KC d0
            go_upto_region 16 with (first
              | (go_at_call 21; (with_reducible refine KS.out.mono ?_); rintro e w8 ⟨rfl, q, hg8, hq8, hq9⟩; have HS := Lib.hid (And.intro hg8 (And.intro hq8 hq9)); clear hg8 hq8 hq9))
            obtain ⟨hN8, hO8, hB8⟩ := nm_scr HB5.out HO5.out HI5.out H57.out HN7.out HS.out.1 HS.out.2.1 HS.out.2.2
            have HN8 := Lib.hid hN8
            have HO8 := Lib.hid hO8
            have HB8 := Lib.hid hB8
            clear hN8 hO8 hB8 HS KS HN7 H57 HO5 HI5 HB5 d3
            go_wp2_with fail
            go_loopw [14] (fun jv wz => FlRel wq (w5.heap.size) n' A2 m2 c2 jv wz) (fun jv _ => m2 - (intOf jv).toNat)
            case atStart => exact ⟨0, bs2, rfl, Nat.zero_le _, HN8.out, HO8.out, HB8.out⟩
            case round =>
              obtain ⟨j, bz, rfl, hj, hNz, hOz, hBz⟩ := hrel
              have kv := NB.agr hNz
              have hmx := own_max hOz
              by_cases hjm : j < m2
              · obtain ⟨b, hbz⟩ := bools_at hOz.1 hjm
                obtain ⟨_, _, hAg⟩ := Sm.own_parts hOz
                obtain ⟨g, rfl, _, _⟩ := hAg (by omega)
                have hj1 : (0 : Int) ≤ (j : Int) := by omega
                have hj2 : (j : Int) < (m2 : Int) := by omega
                have HNz := Lib.hid hNz
                have HOz := Lib.hid hOz
                have HBz := Lib.hid hBz
                have HBZ := Lib.hid hbz
                clear hNz hOz hBz hbz
                go_wp2_with fail
                refine wp_region_G 12 (fun w' => NB w' (w5.heap.size) n' (.slice (some ⟨g, 0, none⟩) m2 c2) ∧ w'.ownsRow wq.heap.size 4 1 (.slice (some ⟨g, 0, none⟩) m2 c2) m2 (bz.map Value.bool)) (by kernel_rfl) (⟨HNz.out.next (Below.refl _ _).drew, HOz.out⟩) (fun hS => ?_)
                refine wpG 0 ?_ rfl (by kernel_rfl) (fun _ _ _ h => h) (by rfl) (fun wx => ?_) hS ?_
                rotate_left
                · go_simp; (try with_reducible rfl)
                try simp only [pts]
                refine wpG 1 ?_ rfl (by kernel_rfl) (fun _ _ _ h => h) (by rfl) (fun wx => ?_) hS ?_
                rotate_left
                · go_simp; (try with_reducible rfl)
                try simp only [pts]
                refine wpT 2 ?_ rfl (by kernel_rfl) (fun _ _ _ h => h) (Or.inl ⟨by rfl, fun wx hSw => ?_⟩) hS ?_
                rotate_left
                · have hq := NB.agr hSw.1; (try dsimp only at hSw); go_simp; (try with_reducible rfl)
                try simp only [pts]
                refine wpG 3 ?_ rfl (by kernel_rfl) (fun _ _ _ h => h) (by rfl) (fun wx => ?_) hS ?_
                rotate_left
                · go_simp; (try with_reducible rfl)
                try simp only [pts]
                refine wpG 4 ?_ rfl (by kernel_rfl) (fun _ _ _ h => h) (by rfl) (fun wx => ?_) hS ?_
                rotate_left
                · go_simp; (try with_reducible rfl)
                try simp only [pts]
                refine wpG 5 ?_ rfl (by kernel_rfl) (fun _ _ _ h => h) (by rfl) (fun wx => ?_) hS ?_
                rotate_left
                · go_simp; (try with_reducible rfl)
                try simp only [pts]
                refine wpT 6 ?_ rfl (by kernel_rfl) (fun _ _ _ h => h) (Or.inl ⟨by rfl, fun wx hSw => ?_⟩) hS ?_
                rotate_left
                · have hq := NB.agr hSw.1; (try dsimp only at hSw); go_simp; (try with_reducible rfl)
                try simp only [pts]
                refine wpG 7 ?_ rfl (by kernel_rfl) (fun _ _ _ h => h) (by rfl) (fun wx => ?_) hS ?_
                rotate_left
                · go_simp; (try with_reducible rfl)
                try simp only [pts]
                refine wpG 8 ?_ rfl (by kernel_rfl) (fun _ _ _ h => h) (by rfl) (fun wx => ?_) hS ?_
                rotate_left
                · go_simp; (try with_reducible rfl)
                try simp only [pts]
                refine wpT 9 (.bool b) rfl (by kernel_rfl) (fun _ _ _ h => h) (Or.inl ⟨by rfl, fun wx hSw => (by have hq := (hSw.2.cellAt j (by omega)).trans HBZ.out; go_simp; (try with_reducible rfl))⟩) hS ?_
                try simp only [pts]
                refine wpG 10 ?_ rfl (by kernel_rfl) (fun _ _ _ h => h) (by rfl) (fun wx => ?_) hS ?_
                rotate_left
                · go_simp; (try with_reducible rfl)
                try simp only [pts]
                refine wpG 11 ?_ rfl (by kernel_rfl) (fun _ _ _ h => h) (by rfl) (fun wx => ?_) hS ?_
                rotate_left
                · go_simp; (try with_reducible rfl)
                try simp only [pts]
                refine wpAnyG_last rfl (by kernel_rfl) (by kernel_rfl) (by kernel_rfl) (fun K hK => ?_)
                have fz := Sm.own_frozen hS.2 j
                have cz := (hS.2.cellAt j (by omega)).trans HBZ.out
                go_simp
                refine hK.out _ _ ?_
                clear hK K
                try simp only [pts]
                go_wp2_with fail
                go_roundw
                case rel => exact FlRel.put hS.1 hS.2 (HBz.out.drew) hjm (by go_num)
                case measure => simp [intOf]; omega
              · have HBZZ := Lib.hid hBz
                clear hNz hOz
                obtain rfl : j = m2 := by omega
                go_wp2_with fail
                go_roundw
                case rel => exact ⟨k + 1, by go_num, by omega, HQ.out.trans (HBZZ.out.mono HQ.out.size)⟩
                case measure => simp [intOf]; omega
          · have KC := Lib.hid (nm_pass n A3 m c3 bs Av mm cv (rmM Ms gs mm) wq HNI.out (HV3.out _ HQR.out) hmB (HBX.out _ HQR.out) hmmB)
            have hZZ : (Try.zeroCells45).size = 74 := by kernel_rfl
            have HZZ := Lib.hid hZZ
            clear hZZ
            go_upto_region 15 with (first
              | (refine wpList_load_at 45 (.tmp 5) rfl rfl w0.heap.size rfl _ (NA n (.slice A3 m c3)) _ (HNB.out _ HQR.out) Try.underlying45 rfl (by rw [NA_size]; exact infoNode) ?_)
              | (go_at_call 19; (with_reducible refine KC.out.mono ?_); rintro e w5 ⟨n', A2, m2, c2, bs2, k', f', r', Ax, mx, cx, vs', rfl, ho5, hi5, hmx, hb5⟩; have HO5 := Lib.hid ho5; have HI5 := Lib.hid hi5; have HB5 := Lib.hid hb5; clear ho5 hi5 hb5)
              | (refine wpList_store_at 45 (.tmp 12) (.tmp 65) rfl rfl w5.heap.size _ _ (NA n' (.slice A2 m2 c2)) rfl rfl ((Blk.new _ _ _).alloc _) (by rw [NA_size, HZZ.out]) (by rw [NA_size]; exact infoNode) (NA_one _ _ _ _) ?_; intro w6 hN6 hg6; have HN6 : Hid (NB w6 w5.heap.size n' (.slice A2 m2 c2)) := hN6; have HG6 := Lib.hid hg6; clear hN6 hg6)
              | (refine wpList_store_at 64 (.tmp 13) (.tmp 66) rfl rfl (w5.heap.size + 1) _ _ #[.int .i64 k', .int .i64 f', .int .i64 r', .slice Ax mx cx] rfl rfl ((Blk.at_ _ _ _ _ (by simp)).grown HG6.out (by intro e; have := Option.some.inj e; omega)) rfl infoMsgS (by simp [Value.oneCell']) ?_; intro w7 hM7 hg7; have HM7 := Lib.hid hM7; have HG7 := Lib.hid hg7; clear hM7 hg7))
            have h57 := two_alloc HG6.out HG7.out
            have hN7 : NB w7 w5.heap.size n' (.slice A2 m2 c2) := Blk.grown HN6.out HG7.out (by intro e; have := Option.some.inj e; omega)
            have d3 : w7.cell? ⟨w5.heap.size + 1, 3, none⟩ = some (.slice Ax mx cx) := HM7.out.cell 3
            have KS := Lib.hid (Sc.scribble_ownI w7 (HI5.out.next h57) (by omega) (Nat.le_trans HB5.out.size h57.size))
            have H57 := Lib.hid h57
            have HN7 := Lib.hid hN7
            clear h57 hN7 HM7 HN6 HG6 HG7 KC d0
            go_upto_region 16 with (first
              | (go_at_call 21; (with_reducible refine KS.out.mono ?_); rintro e w8 ⟨rfl, q, hg8, hq8, hq9⟩; have HS := Lib.hid (And.intro hg8 (And.intro hq8 hq9)); clear hg8 hq8 hq9))
            obtain ⟨hN8, hO8, hB8⟩ := nm_scr HB5.out HO5.out HI5.out H57.out HN7.out HS.out.1 HS.out.2.1 HS.out.2.2
            have HN8 := Lib.hid hN8
            have HO8 := Lib.hid hO8
            have HB8 := Lib.hid hB8
            clear hN8 hO8 hB8 HS KS HN7 H57 HO5 HI5 HB5 d3
            go_wp2_with fail
            go_loopw [14] (fun jv wz => FlRel wq (w5.heap.size) n' A2 m2 c2 jv wz) (fun jv _ => m2 - (intOf jv).toNat)
            case atStart => exact ⟨0, bs2, rfl, Nat.zero_le _, HN8.out, HO8.out, HB8.out⟩
            case round =>
              obtain ⟨j, bz, rfl, hj, hNz, hOz, hBz⟩ := hrel
              have kv := NB.agr hNz
              have hmx := own_max hOz
              by_cases hjm : j < m2
              · obtain ⟨b, hbz⟩ := bools_at hOz.1 hjm
                obtain ⟨_, _, hAg⟩ := Sm.own_parts hOz
                obtain ⟨g, rfl, _, _⟩ := hAg (by omega)
                have hj1 : (0 : Int) ≤ (j : Int) := by omega
                have hj2 : (j : Int) < (m2 : Int) := by omega
                have HNz := Lib.hid hNz
                have HOz := Lib.hid hOz
                have HBz := Lib.hid hBz
                have HBZ := Lib.hid hbz
                clear hNz hOz hBz hbz
                go_wp2_with fail
                refine wp_region_G 12 (fun w' => NB w' (w5.heap.size) n' (.slice (some ⟨g, 0, none⟩) m2 c2) ∧ w'.ownsRow wq.heap.size 4 1 (.slice (some ⟨g, 0, none⟩) m2 c2) m2 (bz.map Value.bool)) (by kernel_rfl) (⟨HNz.out.next (Below.refl _ _).drew, HOz.out⟩) (fun hS => ?_)
                refine wpG 0 ?_ rfl (by kernel_rfl) (fun _ _ _ h => h) (by rfl) (fun wx => ?_) hS ?_
                rotate_left
                · go_simp; (try with_reducible rfl)
                try simp only [pts]
                refine wpG 1 ?_ rfl (by kernel_rfl) (fun _ _ _ h => h) (by rfl) (fun wx => ?_) hS ?_
                rotate_left
                · go_simp; (try with_reducible rfl)
                try simp only [pts]
                refine wpT 2 ?_ rfl (by kernel_rfl) (fun _ _ _ h => h) (Or.inl ⟨by rfl, fun wx hSw => ?_⟩) hS ?_
                rotate_left
                · have hq := NB.agr hSw.1; (try dsimp only at hSw); go_simp; (try with_reducible rfl)
                try simp only [pts]
                refine wpG 3 ?_ rfl (by kernel_rfl) (fun _ _ _ h => h) (by rfl) (fun wx => ?_) hS ?_
                rotate_left
                · go_simp; (try with_reducible rfl)
                try simp only [pts]
                refine wpG 4 ?_ rfl (by kernel_rfl) (fun _ _ _ h => h) (by rfl) (fun wx => ?_) hS ?_
                rotate_left
                · go_simp; (try with_reducible rfl)
                try simp only [pts]
                refine wpG 5 ?_ rfl (by kernel_rfl) (fun _ _ _ h => h) (by rfl) (fun wx => ?_) hS ?_
                rotate_left
                · go_simp; (try with_reducible rfl)
                try simp only [pts]
                refine wpT 6 ?_ rfl (by kernel_rfl) (fun _ _ _ h => h) (Or.inl ⟨by rfl, fun wx hSw => ?_⟩) hS ?_
                rotate_left
                · have hq := NB.agr hSw.1; (try dsimp only at hSw); go_simp; (try with_reducible rfl)
                try simp only [pts]
                refine wpG 7 ?_ rfl (by kernel_rfl) (fun _ _ _ h => h) (by rfl) (fun wx => ?_) hS ?_
                rotate_left
                · go_simp; (try with_reducible rfl)
                try simp only [pts]
                refine wpG 8 ?_ rfl (by kernel_rfl) (fun _ _ _ h => h) (by rfl) (fun wx => ?_) hS ?_
                rotate_left
                · go_simp; (try with_reducible rfl)
                try simp only [pts]
                refine wpT 9 (.bool b) rfl (by kernel_rfl) (fun _ _ _ h => h) (Or.inl ⟨by rfl, fun wx hSw => (by have hq := (hSw.2.cellAt j (by omega)).trans HBZ.out; go_simp; (try with_reducible rfl))⟩) hS ?_
                try simp only [pts]
                refine wpG 10 ?_ rfl (by kernel_rfl) (fun _ _ _ h => h) (by rfl) (fun wx => ?_) hS ?_
                rotate_left
                · go_simp; (try with_reducible rfl)
                try simp only [pts]
                refine wpG 11 ?_ rfl (by kernel_rfl) (fun _ _ _ h => h) (by rfl) (fun wx => ?_) hS ?_
                rotate_left
                · go_simp; (try with_reducible rfl)
                try simp only [pts]
                refine wpAnyG_last rfl (by kernel_rfl) (by kernel_rfl) (by kernel_rfl) (fun K hK => ?_)
                have fz := Sm.own_frozen hS.2 j
                have cz := (hS.2.cellAt j (by omega)).trans HBZ.out
                go_simp
                refine hK.out _ _ ?_
                clear hK K
                try simp only [pts]
                go_wp2_with fail
                go_roundw
                case rel => exact FlRel.put hS.1 hS.2 (HBz.out.drew) hjm (by go_num)
                case measure => simp [intOf]; omega
              · have HBZZ := Lib.hid hBz
                clear hNz hOz
                obtain rfl : j = m2 := by omega
                go_wp2_with fail
                go_roundw
                case rel => exact ⟨k + 1, by go_num, by omega, HQ.out.trans (HBZZ.out.mono HQ.out.size)⟩
                case measure => simp [intOf]; omega
          · have KC := Lib.hid (nm_judge n A3 m c3 bs Av mm cv (rmM Ms gs mm) wq HNI.out (HV3.out _ HQR.out) hmB (HBX.out _ HQR.out) hmmB)
            have hZZ : (Try.zeroCells45).size = 74 := by kernel_rfl
            have HZZ := Lib.hid hZZ
            clear hZZ
            go_upto_region 15 with (first
              | (refine wpList_load_at 45 (.tmp 5) rfl rfl w0.heap.size rfl _ (NA n (.slice A3 m c3)) _ (HNB.out _ HQR.out) Try.underlying45 rfl (by rw [NA_size]; exact infoNode) ?_)
              | (go_at_call 20; (with_reducible refine KC.out.mono ?_); rintro e w5 ⟨n', A2, m2, c2, bs2, k', f', r', Ax, mx, cx, vs', rfl, ho5, hi5, hmx, hb5⟩; have HO5 := Lib.hid ho5; have HI5 := Lib.hid hi5; have HB5 := Lib.hid hb5; clear ho5 hi5 hb5)
              | (refine wpList_store_at 45 (.tmp 12) (.tmp 65) rfl rfl w5.heap.size _ _ (NA n' (.slice A2 m2 c2)) rfl rfl ((Blk.new _ _ _).alloc _) (by rw [NA_size, HZZ.out]) (by rw [NA_size]; exact infoNode) (NA_one _ _ _ _) ?_; intro w6 hN6 hg6; have HN6 : Hid (NB w6 w5.heap.size n' (.slice A2 m2 c2)) := hN6; have HG6 := Lib.hid hg6; clear hN6 hg6)
              | (refine wpList_store_at 64 (.tmp 13) (.tmp 66) rfl rfl (w5.heap.size + 1) _ _ #[.int .i64 k', .int .i64 f', .int .i64 r', .slice Ax mx cx] rfl rfl ((Blk.at_ _ _ _ _ (by simp)).grown HG6.out (by intro e; have := Option.some.inj e; omega)) rfl infoMsgS (by simp [Value.oneCell']) ?_; intro w7 hM7 hg7; have HM7 := Lib.hid hM7; have HG7 := Lib.hid hg7; clear hM7 hg7))
            have h57 := two_alloc HG6.out HG7.out
            have hN7 : NB w7 w5.heap.size n' (.slice A2 m2 c2) := Blk.grown HN6.out HG7.out (by intro e; have := Option.some.inj e; omega)
            have d3 : w7.cell? ⟨w5.heap.size + 1, 3, none⟩ = some (.slice Ax mx cx) := HM7.out.cell 3
            have KS := Lib.hid (Sc.scribble_ownI w7 (HI5.out.next h57) (by omega) (Nat.le_trans HB5.out.size h57.size))
            have H57 := Lib.hid h57
            have HN7 := Lib.hid hN7
            clear h57 hN7 HM7 HN6 HG6 HG7 KC d0
            go_upto_region 16 with (first
              | (go_at_call 21; (with_reducible refine KS.out.mono ?_); rintro e w8 ⟨rfl, q, hg8, hq8, hq9⟩; have HS := Lib.hid (And.intro hg8 (And.intro hq8 hq9)); clear hg8 hq8 hq9))
            obtain ⟨hN8, hO8, hB8⟩ := nm_scr HB5.out HO5.out HI5.out H57.out HN7.out HS.out.1 HS.out.2.1 HS.out.2.2
            have HN8 := Lib.hid hN8
            have HO8 := Lib.hid hO8
            have HB8 := Lib.hid hB8
            clear hN8 hO8 hB8 HS KS HN7 H57 HO5 HI5 HB5 d3
            go_wp2_with fail
            go_loopw [14] (fun jv wz => FlRel wq (w5.heap.size) n' A2 m2 c2 jv wz) (fun jv _ => m2 - (intOf jv).toNat)
            case atStart => exact ⟨0, bs2, rfl, Nat.zero_le _, HN8.out, HO8.out, HB8.out⟩
            case round =>
              obtain ⟨j, bz, rfl, hj, hNz, hOz, hBz⟩ := hrel
              have kv := NB.agr hNz
              have hmx := own_max hOz
              by_cases hjm : j < m2
              · obtain ⟨b, hbz⟩ := bools_at hOz.1 hjm
                obtain ⟨_, _, hAg⟩ := Sm.own_parts hOz
                obtain ⟨g, rfl, _, _⟩ := hAg (by omega)
                have hj1 : (0 : Int) ≤ (j : Int) := by omega
                have hj2 : (j : Int) < (m2 : Int) := by omega
                have HNz := Lib.hid hNz
                have HOz := Lib.hid hOz
                have HBz := Lib.hid hBz
                have HBZ := Lib.hid hbz
                clear hNz hOz hBz hbz
                go_wp2_with fail
                refine wp_region_G 12 (fun w' => NB w' (w5.heap.size) n' (.slice (some ⟨g, 0, none⟩) m2 c2) ∧ w'.ownsRow wq.heap.size 4 1 (.slice (some ⟨g, 0, none⟩) m2 c2) m2 (bz.map Value.bool)) (by kernel_rfl) (⟨HNz.out.next (Below.refl _ _).drew, HOz.out⟩) (fun hS => ?_)
                refine wpG 0 ?_ rfl (by kernel_rfl) (fun _ _ _ h => h) (by rfl) (fun wx => ?_) hS ?_
                rotate_left
                · go_simp; (try with_reducible rfl)
                try simp only [pts]
                refine wpG 1 ?_ rfl (by kernel_rfl) (fun _ _ _ h => h) (by rfl) (fun wx => ?_) hS ?_
                rotate_left
                · go_simp; (try with_reducible rfl)
                try simp only [pts]
                refine wpT 2 ?_ rfl (by kernel_rfl) (fun _ _ _ h => h) (Or.inl ⟨by rfl, fun wx hSw => ?_⟩) hS ?_
                rotate_left
                · have hq := NB.agr hSw.1; (try dsimp only at hSw); go_simp; (try with_reducible rfl)
                try simp only [pts]
                refine wpG 3 ?_ rfl (by kernel_rfl) (fun _ _ _ h => h) (by rfl) (fun wx => ?_) hS ?_
                rotate_left
                · go_simp; (try with_reducible rfl)
                try simp only [pts]
                refine wpG 4 ?_ rfl (by kernel_rfl) (fun _ _ _ h => h) (by rfl) (fun wx => ?_) hS ?_
                rotate_left
                · go_simp; (try with_reducible rfl)
                try simp only [pts]
                refine wpG 5 ?_ rfl (by kernel_rfl) (fun _ _ _ h => h) (by rfl) (fun wx => ?_) hS ?_
                rotate_left
                · go_simp; (try with_reducible rfl)
                try simp only [pts]
                refine wpT 6 ?_ rfl (by kernel_rfl) (fun _ _ _ h => h) (Or.inl ⟨by rfl, fun wx hSw => ?_⟩) hS ?_
                rotate_left
                · have hq := NB.agr hSw.1; (try dsimp only at hSw); go_simp; (try with_reducible rfl)
                try simp only [pts]
                refine wpG 7 ?_ rfl (by kernel_rfl) (fun _ _ _ h => h) (by rfl) (fun wx => ?_) hS ?_
                rotate_left
                · go_simp; (try with_reducible rfl)
                try simp only [pts]
                refine wpG 8 ?_ rfl (by kernel_rfl) (fun _ _ _ h => h) (by rfl) (fun wx => ?_) hS ?_
                rotate_left
                · go_simp; (try with_reducible rfl)
                try simp only [pts]
                refine wpT 9 (.bool b) rfl (by kernel_rfl) (fun _ _ _ h => h) (Or.inl ⟨by rfl, fun wx hSw => (by have hq := (hSw.2.cellAt j (by omega)).trans HBZ.out; go_simp; (try with_reducible rfl))⟩) hS ?_
                try simp only [pts]
                refine wpG 10 ?_ rfl (by kernel_rfl) (fun _ _ _ h => h) (by rfl) (fun wx => ?_) hS ?_
                rotate_left
                · go_simp; (try with_reducible rfl)
                try simp only [pts]
                refine wpG 11 ?_ rfl (by kernel_rfl) (fun _ _ _ h => h) (by rfl) (fun wx => ?_) hS ?_
                rotate_left
                · go_simp; (try with_reducible rfl)
                try simp only [pts]
                refine wpAnyG_last rfl (by kernel_rfl) (by kernel_rfl) (by kernel_rfl) (fun K hK => ?_)
                have fz := Sm.own_frozen hS.2 j
                have cz := (hS.2.cellAt j (by omega)).trans HBZ.out
                go_simp
                refine hK.out _ _ ?_
                clear hK K
                try simp only [pts]
                go_wp2_with fail
                go_roundw
                case rel => exact FlRel.put hS.1 hS.2 (HBz.out.drew) hjm (by go_num)
                case measure => simp [intOf]; omega
              · have HBZZ := Lib.hid hBz
                clear hNz hOz
                obtain rfl : j = m2 := by omega
                go_wp2_with fail
                go_roundw
                case rel => exact ⟨k + 1, by go_num, by omega, HQ.out.trans (HBZZ.out.mono HQ.out.size)⟩
                case measure => simp [intOf]; omega
        · obtain rfl : k = 4 := by omega
          have hmB : m ≤ 140737488355328 := by omega
          have hmmB : mm ≤ 17592186044416 := by omega
          have KC := Lib.hid (nc_close n A3 m c3 bs Av mm cv (rmM Ms gs mm) wq HNI.out (HV3.out _ HQR.out) hmB (HBX.out _ HQR.out) hmmB)
          have hZZ : (Try.zeroCells45).size = 74 := by kernel_rfl
          have HZZ := Lib.hid hZZ
          clear hZZ
          go_upto_region 22 with (first
            | (refine wpList_load_at 45 (.tmp 5) rfl rfl w0.heap.size rfl _ (NA n (.slice A3 m c3)) _ (HNB.out _ HQR.out) Try.underlying45 rfl (by rw [NA_size]; exact infoNode) ?_)
            | (go_at_call 22; (with_reducible refine KC.out.mono ?_); rintro e w5 ⟨n', A2, m2, c2, bs2, rp, rfl, hrs, hr1, ho5, hb5⟩; have HO5 := Lib.hid ho5; have HRS := Lib.hid (And.intro hrs hr1); have HB5 := Lib.hid hb5; clear ho5 hrs hr1 hb5)
            | (refine wpList_store_at 45 (.tmp 15) (.tmp 95) rfl rfl w5.heap.size _ _ (NA n' (.slice A2 m2 c2)) rfl rfl ((Blk.new _ _ _).alloc _) (by rw [NA_size, HZZ.out]) (by rw [NA_size]; exact infoNode) (NA_one _ _ _ _) ?_; intro w6 hN6 hg6; have HN6 : Hid (NB w6 w5.heap.size n' (.slice A2 m2 c2)) := hN6; have HG6 := Lib.hid hg6; clear hN6 hg6)
            | (refine wpList_store_at 60 (.tmp 16) (.tmp 96) rfl rfl (w5.heap.size + 1) _ _ rp rfl rfl ((Blk.at_ _ _ _ _ (by simp)).grown HG6.out (by intro e; have := Option.some.inj e; omega)) (by rw [HRS.out.1]; rfl) (by rw [HRS.out.1]; exact infoRepS) HRS.out.2 ?_; intro w8 hM8 hg8; have HG8 := Lib.hid hg8; clear hM8 hg8))
          have h57 := two_alloc HG6.out HG8.out
          have hN8 : NB w8 w5.heap.size n' (.slice A2 m2 c2) := Blk.grown HN6.out HG8.out (by intro e; have := Option.some.inj e; omega)
          have HO8 := Lib.hid (own_below HO5.out h57 (fun z hz => (HO5.out.lt z hz).2))
          have HB8 := Lib.hid (HB5.out.trans (h57.mono HB5.out.size))
          have HN8 := Lib.hid hN8
          clear hN8 h57 HO5 HB5 HN6 HG6 HG8 HRS KC HZZ
          go_wp2_with fail
          go_loopw [17] (fun jv wz => FlRel wq (w5.heap.size) n' A2 m2 c2 jv wz) (fun jv _ => m2 - (intOf jv).toNat)
          case atStart => exact ⟨0, bs2, rfl, Nat.zero_le _, HN8.out, HO8.out, HB8.out⟩
          case round =>
            obtain ⟨j, bz, rfl, hj, hNz, hOz, hBz⟩ := hrel
            have kv := NB.agr hNz
            have hmx := own_max hOz
            by_cases hjm : j < m2
            · obtain ⟨b, hbz⟩ := bools_at hOz.1 hjm
              obtain ⟨_, _, hAg⟩ := Sm.own_parts hOz
              obtain ⟨g, rfl, _, _⟩ := hAg (by omega)
              have hj1 : (0 : Int) ≤ (j : Int) := by omega
              have hj2 : (j : Int) < (m2 : Int) := by omega
              have HNz := Lib.hid hNz
              have HOz := Lib.hid hOz
              have HBz := Lib.hid hBz
              have HBZ := Lib.hid hbz
              clear hNz hOz hBz hbz
              go_wp2_with fail
              refine wp_region_G 12 (fun w' => NB w' (w5.heap.size) n' (.slice (some ⟨g, 0, none⟩) m2 c2) ∧ w'.ownsRow wq.heap.size 4 1 (.slice (some ⟨g, 0, none⟩) m2 c2) m2 (bz.map Value.bool)) (by kernel_rfl) (⟨HNz.out.next (Below.refl _ _).drew, HOz.out⟩) (fun hS => ?_)
              refine wpG 0 ?_ rfl (by kernel_rfl) (fun _ _ _ h => h) (by rfl) (fun wx => ?_) hS ?_
              rotate_left
              · go_simp; (try with_reducible rfl)
              try simp only [pts]
              refine wpG 1 ?_ rfl (by kernel_rfl) (fun _ _ _ h => h) (by rfl) (fun wx => ?_) hS ?_
              rotate_left
              · go_simp; (try with_reducible rfl)
              try simp only [pts]
              refine wpT 2 ?_ rfl (by kernel_rfl) (fun _ _ _ h => h) (Or.inl ⟨by rfl, fun wx hSw => ?_⟩) hS ?_
              rotate_left
              · have hq := NB.agr hSw.1; (try dsimp only at hSw); go_simp; (try with_reducible rfl)
              try simp only [pts]
              refine wpG 3 ?_ rfl (by kernel_rfl) (fun _ _ _ h => h) (by rfl) (fun wx => ?_) hS ?_
              rotate_left
              · go_simp; (try with_reducible rfl)
              try simp only [pts]
              refine wpG 4 ?_ rfl (by kernel_rfl) (fun _ _ _ h => h) (by rfl) (fun wx => ?_) hS ?_
              rotate_left
              · go_simp; (try with_reducible rfl)
              try simp only [pts]
              refine wpG 5 ?_ rfl (by kernel_rfl) (fun _ _ _ h => h) (by rfl) (fun wx => ?_) hS ?_
              rotate_left
              · go_simp; (try with_reducible rfl)
              try simp only [pts]
              refine wpT 6 ?_ rfl (by kernel_rfl) (fun _ _ _ h => h) (Or.inl ⟨by rfl, fun wx hSw => ?_⟩) hS ?_
              rotate_left
              · have hq := NB.agr hSw.1; (try dsimp only at hSw); go_simp; (try with_reducible rfl)
              try simp only [pts]
              refine wpG 7 ?_ rfl (by kernel_rfl) (fun _ _ _ h => h) (by rfl) (fun wx => ?_) hS ?_
              rotate_left
              · go_simp; (try with_reducible rfl)
              try simp only [pts]
              refine wpG 8 ?_ rfl (by kernel_rfl) (fun _ _ _ h => h) (by rfl) (fun wx => ?_) hS ?_
              rotate_left
              · go_simp; (try with_reducible rfl)
              try simp only [pts]
              refine wpT 9 (.bool b) rfl (by kernel_rfl) (fun _ _ _ h => h) (Or.inl ⟨by rfl, fun wx hSw => (by have hq := (hSw.2.cellAt j (by omega)).trans HBZ.out; go_simp; (try with_reducible rfl))⟩) hS ?_
              try simp only [pts]
              refine wpG 10 ?_ rfl (by kernel_rfl) (fun _ _ _ h => h) (by rfl) (fun wx => ?_) hS ?_
              rotate_left
              · go_simp; (try with_reducible rfl)
              try simp only [pts]
              refine wpG 11 ?_ rfl (by kernel_rfl) (fun _ _ _ h => h) (by rfl) (fun wx => ?_) hS ?_
              rotate_left
              · go_simp; (try with_reducible rfl)
              try simp only [pts]
              refine wpAnyG_last rfl (by kernel_rfl) (by kernel_rfl) (by kernel_rfl) (fun K hK => ?_)
              have fz := Sm.own_frozen hS.2 j
              have cz := (hS.2.cellAt j (by omega)).trans HBZ.out
              go_simp
              refine hK.out _ _ ?_
              clear hK K
              try simp only [pts]
              go_wp2_with fail
              go_roundw
              case rel => exact FlRel.put hS.1 hS.2 (HBz.out.drew) hjm (by go_num)
              case measure => simp [intOf]; omega
            · have HBZZ := Lib.hid hBz
              clear hNz hOz
              obtain rfl : j = m2 := by omega
              have HE := Lib.hid (HQ.out.trans (HBZZ.out.mono HQ.out.size))
              clear HBZZ HN8 HO8 HB8
              go_wp2_with fail
              go_loopw [18] (fun iv wl => ∃ i : Nat, iv = .int .i64 i ∧ i ≤ mm ∧ Below wf.heap.size wf wl) (fun iv _ => mm - (intOf iv).toNat)
              case atStart => exact ⟨0, rfl, Nat.zero_le _, HE.out⟩
              case round =>
                obtain ⟨i, rfl, hi, hl⟩ := hrel
                obtain ⟨wl, hren⟩ : ∃ wl, wl = wr := ⟨_, rfl⟩
                subst hren
                have HL := Lib.hid hl
                clear hl
                by_cases him : i < mm
                · obtain ⟨ba, oa, x, rfl, hla, hx, hxm, hxr, a0, a1, a2, a3⟩ := (HMW.out _ (UP.out _ HL.out)).row him
                  obtain ⟨bb, ob, y, rfl, hlb, hy, hym, hyr, b0, b1, b2, b3⟩ := (HBX.out _ (UP.out _ HL.out)).row him
                  obtain rfl := Option.some.inj (hy.symm.trans (rmM_get hx mm him (by omega)))
                  have b3 : wl.cell? ⟨bb, ob + i * 4 + 3, none⟩ = some (.slice (some ⟨gs i, 0, none⟩) x.n (x.n + 2)) := b3
                  have hk := HBC.out _ (UP.out _ HL.out) i x him hx
                  have hI := hxr.1
                  have hxn := hxr.2.2.1
                  have KT := Lib.hid (fun W (h : Below wl.heap.size wl W) => Ro.stayed_any x.A (gs i) x.n x.c x.vs W (hk.next h) (hI.next h) (by omega))
                  have HR := Lib.hid (fun W (h : Below wl.heap.size wl W) => (show W.cell? ⟨bb, ob + i * 4 + 3, none⟩ = _ ∧ W.cell? ⟨ba, oa + i * 4 + 3, none⟩ = _ from ⟨(h.cell (p := ⟨bb, ob + i * 4 + 3, none⟩) hlb).trans b3, (h.cell (p := ⟨ba, oa + i * 4 + 3, none⟩) hla).trans a3⟩))
                  have hi1 : (0 : Int) ≤ (i : Int) := by omega
                  have hi2 : (i : Int) < (mm : Int) := by omega
                  clear hx hxm hxr a0 a1 a2 a3 hy hym hyr b0 b1 b2 b3 hk hI hxn hla hlb
                  go_wp2_with fail
                  refine wp_region_held (S := fun w' => Below wl.heap.size wl w') (by kernel_rfl) ?_
                  have hS := (Below.refl wl.heap.size wl).drew
                  refine wpAnyH_takeL (i := 0) (v := ?_) rfl (by kernel_rfl) (by kernel_rfl) (by kernel_rfl) (fun _ _ _ h => h) (Or.inl ⟨by rfl, fun wx hSw => ?_⟩) hS ?_
                  rotate_left
                  · go_simp; (try with_reducible rfl)
                  try simp only [pts]
                  refine wpAnyH_takeL (i := 1) (v := ?_) rfl (by kernel_rfl) (by kernel_rfl) (by kernel_rfl) (fun _ _ _ h => h) (Or.inl ⟨by rfl, fun wx hSw => ?_⟩) hS ?_
                  rotate_left
                  · go_simp; (try with_reducible rfl)
                  try simp only [pts]
                  refine wpAnyH_takeL (i := 2) (v := ?_) rfl (by kernel_rfl) (by kernel_rfl) (by kernel_rfl) (fun _ _ _ h => h) (Or.inl ⟨by rfl, fun wx hSw => ?_⟩) hS ?_
                  rotate_left
                  · go_simp; (try with_reducible rfl)
                  try simp only [pts]
                  refine wpAnyH_takeL (i := 3) (v := ?_) rfl (by kernel_rfl) (by kernel_rfl) (by kernel_rfl) (fun _ _ _ h => h) (Or.inl ⟨by rfl, fun wx hSw => ?_⟩) hS ?_
                  rotate_left
                  · go_simp; (try with_reducible rfl)
                  try simp only [pts]
                  refine wpAnyH_takeL (i := 4) (v := .slice (some ⟨gs i, 0, none⟩) x.n (x.n + 2)) rfl (by kernel_rfl) (by kernel_rfl) (by kernel_rfl) (fun _ _ _ h => h) (Or.inl ⟨by rfl, fun wx hSw => by have hc := (HR.out _ hSw).1; go_simp⟩) hS ?_
                  try simp only [pts]
                  refine wpAnyH_takeL (i := 5) (v := ?_) rfl (by kernel_rfl) (by kernel_rfl) (by kernel_rfl) (fun _ _ _ h => h) (Or.inl ⟨by rfl, fun wx hSw => ?_⟩) hS ?_
                  rotate_left
                  · go_simp; (try with_reducible rfl)
                  try simp only [pts]
                  refine wpAnyH_takeL (i := 6) (v := ?_) rfl (by kernel_rfl) (by kernel_rfl) (by kernel_rfl) (fun _ _ _ h => h) (Or.inl ⟨by rfl, fun wx hSw => ?_⟩) hS ?_
                  rotate_left
                  · go_simp; (try with_reducible rfl)
                  try simp only [pts]
                  refine wpAnyH_takeL (i := 7) (v := ?_) rfl (by kernel_rfl) (by kernel_rfl) (by kernel_rfl) (fun _ _ _ h => h) (Or.inl ⟨by rfl, fun wx hSw => ?_⟩) hS ?_
                  rotate_left
                  · go_simp; (try with_reducible rfl)
                  try simp only [pts]
                  refine wpAnyH_takeL (i := 8) (v := ?_) rfl (by kernel_rfl) (by kernel_rfl) (by kernel_rfl) (fun _ _ _ h => h) (Or.inl ⟨by rfl, fun wx hSw => ?_⟩) hS ?_
                  rotate_left
                  · go_simp; (try with_reducible rfl)
                  try simp only [pts]
                  refine wpAnyH_takeL (i := 9) (v := .slice x.A x.n x.c) rfl (by kernel_rfl) (by kernel_rfl) (by kernel_rfl) (fun _ _ _ h => h) (Or.inl ⟨by rfl, fun wx hSw => by have hc := (HR.out _ hSw).2; go_simp⟩) hS ?_
                  try simp only [pts]
                  refine wpAnyH_one (i := 10) rfl (by kernel_rfl) (fun K hK => ?_)
                  go_simp
                  (with_reducible refine (KT.out _ hS).mono ?_)
                  rintro e w6 ⟨rfl, hB6⟩
                  have hS6 := hS.trans (hB6.mono hS.size)
                  clear hS
                  have hS := hS6
                  refine hK.out _ _ hS ?_
                  clear hK K
                  try simp only [pts]
                  refine wpAnyH_takeL (i := 11) (v := ?_) rfl (by kernel_rfl) (by kernel_rfl) (by kernel_rfl) (fun _ _ _ h => h) (Or.inl ⟨by rfl, fun wx hSw => ?_⟩) hS ?_
                  rotate_left
                  · go_simp; (try with_reducible rfl)
                  try simp only [pts]
                  refine wpAnyH_done (by kernel_rfl) ?_ _
                  have HS6 := Lib.hid (HL.out.trans (hS.mono HL.out.size))
                  clear hS hS6 HR KT
                  go_wp2_with fail
                  go_roundw
                  case rel => exact ⟨i + 1, by go_num, by omega, HS6.out⟩
                  case measure => simp [intOf]; omega
                · obtain rfl : i = mm := by omega
                  clear him
                  go_wp2_with fail
                  go_loopw [19] (fun iv wl => ∃ i : Nat, iv = .int .i64 i ∧ i ≤ m ∧ Below wf.heap.size wf wl) (fun iv _ => m - (intOf iv).toNat)
                  case atStart => exact ⟨0, rfl, Nat.zero_le _, HL.out⟩
                  case round =>
                    obtain ⟨i, rfl, hi, hl⟩ := hrel
                    obtain ⟨wl, hren⟩ : ∃ wl, wl = wr := ⟨_, rfl⟩
                    subst hren
                    have HL := Lib.hid hl
                    have kn := NB.agr (HNW.out _ (UP.out _ hl))
                    clear hl
                    by_cases him : i < m
                    · have u6 := UP.out _ HL.out
                      obtain ⟨ba, oa, rfl, hla, hca⟩ := (HVW.out _ u6).2.2 (by omega)
                      obtain ⟨bb, ob, rfl, hlb, hcb⟩ := (HV3.out _ u6).2.2 (by omega)
                      obtain ⟨b, hbb⟩ := bools_at (HVW.out _ u6).1 him
                      have ka := hca i _ hbb
                      have kb := hcb i _ hbb
                      have km := NB.agr (HNB.out _ u6)
                      have HC := Lib.hid (And.intro km (And.intro kn (And.intro kb ka)))
                      have hi1 : (0 : Int) ≤ (i : Int) := by omega
                      have hi2 : (i : Int) < (m : Int) := by omega
                      clear ka kb km hca hcb hbb u6 hla hlb
                      go_wp2_with fail
                      refine wp_region_held (S := fun w' => w'.cell? ⟨w0.heap.size, 73, none⟩ = some (.slice (some ⟨bb, ob, none⟩) m c3) ∧ w'.cell? ⟨w.heap.size, 73, none⟩ = some (.slice (some ⟨ba, oa, none⟩) m c) ∧ w'.cell? ⟨bb, ob + i, none⟩ = some (.bool b) ∧ w'.cell? ⟨ba, oa + i, none⟩ = some (.bool b)) (by kernel_rfl) ?_
                      have hS := HC.out
                      refine wpAnyH_takeL (i := 0) (v := ?_) rfl (by kernel_rfl) (by kernel_rfl) (by kernel_rfl) (fun _ _ _ h => h) (Or.inl ⟨by rfl, fun wx hSw => ?_⟩) hS ?_
                      rotate_left
                      · go_simp; (try with_reducible rfl)
                      try simp only [pts]
                      refine wpAnyH_takeL (i := 1) (v := ?_) rfl (by kernel_rfl) (by kernel_rfl) (by kernel_rfl) (fun _ _ _ h => h) (Or.inl ⟨by rfl, fun wx hSw => ?_⟩) hS ?_
                      rotate_left
                      · go_simp; (try with_reducible rfl)
                      try simp only [pts]
                      refine wpAnyH_takeL (i := 2) (v := .slice (some ⟨bb, ob, none⟩) m c3) rfl (by kernel_rfl) (by kernel_rfl) (by kernel_rfl) (fun _ _ _ h => h) (Or.inl ⟨by rfl, fun wx hSw => by have hc := hSw.1; go_simp⟩) hS ?_
                      try simp only [pts]
                      refine wpAnyH_takeL (i := 3) (v := ?_) rfl (by kernel_rfl) (by kernel_rfl) (by kernel_rfl) (fun _ _ _ h => h) (Or.inl ⟨by rfl, fun wx hSw => ?_⟩) hS ?_
                      rotate_left
                      · go_simp; (try with_reducible rfl)
                      try simp only [pts]
                      refine wpAnyH_takeL (i := 4) (v := ?_) rfl (by kernel_rfl) (by kernel_rfl) (by kernel_rfl) (fun _ _ _ h => h) (Or.inl ⟨by rfl, fun wx hSw => ?_⟩) hS ?_
                      rotate_left
                      · go_simp; (try with_reducible rfl)
                      try simp only [pts]
                      refine wpAnyH_takeL (i := 5) (v := .bool b) rfl (by kernel_rfl) (by kernel_rfl) (by kernel_rfl) (fun _ _ _ h => h) (Or.inl ⟨by rfl, fun wx hSw => by have hc := hSw.2.2.1; go_simp⟩) hS ?_
                      try simp only [pts]
                      refine wpAnyH_takeL (i := 6) (v := ?_) rfl (by kernel_rfl) (by kernel_rfl) (by kernel_rfl) (fun _ _ _ h => h) (Or.inl ⟨by rfl, fun wx hSw => ?_⟩) hS ?_
                      rotate_left
                      · go_simp; (try with_reducible rfl)
                      try simp only [pts]
                      refine wpAnyH_takeL (i := 7) (v := ?_) rfl (by kernel_rfl) (by kernel_rfl) (by kernel_rfl) (fun _ _ _ h => h) (Or.inl ⟨by rfl, fun wx hSw => ?_⟩) hS ?_
                      rotate_left
                      · go_simp; (try with_reducible rfl)
                      try simp only [pts]
                      refine wpAnyH_takeL (i := 8) (v := .slice (some ⟨ba, oa, none⟩) m c) rfl (by kernel_rfl) (by kernel_rfl) (by kernel_rfl) (fun _ _ _ h => h) (Or.inl ⟨by rfl, fun wx hSw => by have hc := hSw.2.1; go_simp⟩) hS ?_
                      try simp only [pts]
                      refine wpAnyH_takeL (i := 9) (v := ?_) rfl (by kernel_rfl) (by kernel_rfl) (by kernel_rfl) (fun _ _ _ h => h) (Or.inl ⟨by rfl, fun wx hSw => ?_⟩) hS ?_
                      rotate_left
                      · go_simp; (try with_reducible rfl)
                      try simp only [pts]
                      refine wpAnyH_takeL (i := 10) (v := ?_) rfl (by kernel_rfl) (by kernel_rfl) (by kernel_rfl) (fun _ _ _ h => h) (Or.inl ⟨by rfl, fun wx hSw => ?_⟩) hS ?_
                      rotate_left
                      · go_simp; (try with_reducible rfl)
                      try simp only [pts]
                      refine wpAnyH_takeL (i := 11) (v := .bool b) rfl (by kernel_rfl) (by kernel_rfl) (by kernel_rfl) (fun _ _ _ h => h) (Or.inl ⟨by rfl, fun wx hSw => by have hc := hSw.2.2.2; go_simp⟩) hS ?_
                      try simp only [pts]
                      refine wpAnyH_takeL (i := 12) (v := .bool false) rfl (by kernel_rfl) (by kernel_rfl) (by kernel_rfl) (fun _ _ _ h => h) (Or.inl ⟨by rfl, fun wx hSw => by go_simp⟩) hS ?_
                      try simp only [pts]
                      refine wpAnyH_done (by kernel_rfl) ?_ _
                      clear HC kn
                      go_wp2_with fail
                      go_roundw
                      case rel => exact ⟨i + 1, by go_num, by omega, HL.out.trans (below_drewN _ _ _)⟩
                      case measure => simp [intOf]; omega
                    · obtain rfl : i = m := by omega
                      have kb : ∀ W, Calls Try.prog 24 #[.int .i64 3, .agg #[.int .i64 0, .int .i64 0, .int .i64 0, .int .i64 0]] W fun e w' => e = .returned (.tuple #[.agg (NA (begN 3 ⟨0, 0, 0, 0⟩) (.slice none 0 0)), .int .i64 0]) ∧ Below W.heap.size W w' := fun W => nbegin_any 3 ⟨0, 0, 0, 0⟩ W (by decide)
                      have KB := Lib.hid kb
                      clear kb
                      have hZZ : (Try.zeroCells45).size = 74 := by kernel_rfl
                      have HZZ := Lib.hid hZZ
                      clear hZZ
                      go_upto_region 37 with (first
                        | (go_at_call 24; (with_reducible refine (KB.out _).mono ?_); rintro e w5 ⟨rfl, hb5⟩; have HB5 := Lib.hid hb5; clear hb5)
                        | (refine wpList_store_at 45 (.tmp 20) (.tmp 159) rfl rfl w5.heap.size _ _ (NA (begN 3 ⟨0, 0, 0, 0⟩) (.slice none 0 0)) rfl rfl (Blk.new _ _ _) (by rw [NA_size, HZZ.out]) (by rw [NA_size]; exact infoNode) (NA_one _ _ _ _) ?_; intro w6 hN6 hg6; have HN6 : Hid (NB w6 w5.heap.size (begN 3 ⟨0, 0, 0, 0⟩) (.slice none 0 0)) := hN6; have HG6 := Lib.hid hg6; clear hN6 hg6))
                      have c0 : w6.cell? ⟨w5.heap.size, 0, none⟩ = some (.int .i64 3) := NB.id HN6.out
                      have c8 : w6.cell? ⟨w5.heap.size, 8, none⟩ = some (.int .i64 4294967296) := NB.ax HN6.out (a := 0) (k := 2) (by decide) (by decide)
                      go_wp2_with (first | go_big_skip)
                      go_ret
                      have hB6 : Below w5.heap.size w5 w6 := ((Below.refl w5.heap.size w5).alloc (Nat.le_refl _) _).grown HG6.out (by simp) (fun j hj => by cases hj; exact Nat.le_refl _)
                      have e1 := HBR.out.trans ((UP.out _ HL.out).mono HBR.out.size)
                      have e2 := e1.trans (HB5.out.mono e1.size)
                      exact ⟨rfl, e2.trans (hB6.mono e2.size)⟩
end Go.Proofs.Ytofeoeknmlkjgaa.Nk
end
