/- The walk of MatMemory: nothing that is handed in is changed, answers are memory of their own. -/
import Derived.Test.YtnhklfdchfndjaaMatAns
import Derived.Test.YtnhklfdchfndjaaRoomy
import Derived.Test.YtnhklfdchfndjaaMatCut
import Derived.Test.YtnhklfdchfndjaaMatStands
set_option linter.unusedVariables false
namespace Go.Proofs.Ytnhklfdchfndjaa.lawMatMemory
open Go.RowKit Go.Proofs.Ytnhklfdchfndjaa Fx Mt Sc Ro

def CutRm (W0 : World) (N : Int) (n : Nat) (zs : List Int) (s : Value) (wx : World) : Prop :=
  ∃ q gr, s = .pointer (some ⟨q, 0, none⟩) ∧ Blk wx q 30 #[.int .i64 N, .slice (some ⟨gr, 0, none⟩) n (n + 2)] ∧ Blk wx gr 3 (roomC zs) ∧ W0.heap.size ≤ q ∧ W0.heap.size ≤ gr ∧ Below W0.heap.size W0 wx
theorem cutRm1 {W0 W : World} {q gr n : Nat} {N : Int} {zs : List Int} (hZ : ZB W0 W q) (hb : Blk W gr 3 (roomC zs)) (hgr : W0.heap.size ≤ gr) (hF : Below W0.heap.size W0 W) :
    CutRm W0 N n zs (.pointer (some ⟨q, 0, none⟩)) ((W.setCell ⟨q, 0, none⟩ (.int .i64 N)).setCell ⟨q, 1, none⟩ (.slice (some ⟨gr, 0, none⟩) n (n + 2))) := by
  have hne : gr ≠ q := hb.ne_ hZ.1 (by decide)
  exact ⟨q, gr, rfl, (hZ.1.set_ 0 _).set_ 1 _, (hb.far hne _).far hne _, hZ.2, hgr, (hF.setCell hZ.2 _).setCell hZ.2 _⟩
theorem cutRm2 {W0 W : World} {gr n : Nat} {N : Int} {zs : List Int} (hb : Blk W gr 3 (roomC zs)) (hgr : W0.heap.size ≤ gr) (hF : Below W0.heap.size W0 W) :
    CutRm W0 N n zs (.pointer (some ⟨W.heap.size, 0, none⟩)) (W.alloc (.cells #[.int .i64 N, .slice (some ⟨gr, 0, none⟩) n (n + 2)] 30)) :=
  ⟨_, gr, rfl, Blk.new _ _ _, hb.alloc _, hF.size, hgr, hF.alloc hF.size _⟩

theorem heap_alloc_size (w : World) (o : Obj) : (w.alloc o).heap.size = w.heap.size + 1 := by simp
/-- the block of one of these -/
def InOwn : List Value → Nat → Prop
  | [], _ => False
  | v :: vs, k => v.ownBlock = some k ∨ InOwn vs k
/-- all blocks but some are as they were -/
def Same (W0 : World) (S : Nat → Prop) (W : World) : Prop := W.os = W0.os ∧ W.tape = W0.tape ∧ W.output = W0.output ∧ W0.heap.size ≤ W.heap.size ∧ ∀ k, k < W0.heap.size → ¬ S k → W.heap[k]? = W0.heap[k]?
section
variable {W0 W W' : World} {S S' : Nat → Prop}
theorem Same.refl (W0 : World) (S : Nat → Prop) : Same W0 S W0 := ⟨rfl, rfl, rfl, Nat.le_refl _, fun _ _ _ => rfl⟩
theorem Same.grown {row : Option Nat} (h : Same W0 S W) (hg : W.grownBy W' row) (hr : ∀ k, row = some k → k < W0.heap.size → S k) : Same W0 S W' :=
  ⟨hg.os.trans h.1, hg.tape.trans h.2.1, hg.output.trans h.2.2.1, Nat.le_trans h.2.2.2.1 hg.size, fun k hk hS => (hg.block k (Nat.lt_of_lt_of_le hk h.2.2.2.1) (fun e => hS (hr k e.symm hk))).trans (h.2.2.2.2 k hk hS)⟩
theorem Same.mono (h : Same W0 S W) (hS : ∀ k, S k → S' k) : Same W0 S' W := ⟨h.1, h.2.1, h.2.2.1, h.2.2.2.1, fun k hk hn => h.2.2.2.2 k hk (fun hs => hn (hS k hs))⟩
theorem Same.next (h : Same W0 S W) (hb : Below W.heap.size W W') : Same W0 S W' := h.grown (row := none) (grown_below hb) (fun k e => by cases e)
theorem Same.blk {g : Nat} {t : TypeId} {cs : Array Value} (h : Same W0 S W) (hb : Blk W0 g t cs) (hg : ¬ S g) : Blk W g t cs := (h.2.2.2.2 g hb.lt hg).trans hb
theorem Same.ints {A : Option Addr} {n : Nat} {zs : List Int} (h : Same W0 S W) (hi : Ints W0 .i64 A n zs) (hg : ∀ ad, A = some ad → 0 < n → ¬ S ad.block) : Ints W .i64 A n zs := by
  refine ⟨hi.1, fun hn => ?_⟩
  obtain ⟨b, off, rfl, hlt, hc⟩ := hi.2 hn
  have hh := h.2.2.2.2 b hlt (hg _ rfl hn)
  refine ⟨b, off, rfl, Nat.lt_of_lt_of_le hlt h.2.2.2.1, fun j hj => ?_⟩
  rw [← hc j hj]
  unfold World.cell?
  simp only
  rw [hh]
theorem Same.ans {lo : Nat} {v : Value} (h : Same W0 S W) (ha : Ans W0 lo v) (hg : ∀ k, v.ownBlock = some k → ¬ S k) : Ans W lo v := by
  rcases ha with rfl | ⟨g, n, cap, rfl, hlo, ⟨cur, hb, hc⟩, hn⟩
  · exact .inl rfl
  · exact .inr ⟨g, n, cap, rfl, hlo, ⟨cur, h.blk hb (hg g rfl), hc⟩, hn⟩
theorem Same.below {B : Nat} {w : World} (h : Same W0 S W) (hb : Below B w W0) (hB : B ≤ W0.heap.size) (hS : ∀ k, S k → B ≤ k) : Below B w W :=
  ⟨h.1.trans hb.os, h.2.1.trans hb.tape, h.2.2.1.trans hb.output, Nat.le_trans hb.size h.2.2.2.1, fun k hk => (h.2.2.2.2 k (by omega) (fun hs => by have := hS k hs; omega)).trans (hb.block k hk)⟩
end

set_option maxRecDepth 100000 in
set_option maxHeartbeats 8000000 in
theorem walk1 (N : Int) (A B : Option Addr) (n c m d : Nat) (zs vs : List Int) (w : World) (h : Ints w .i64 A n zs) (hz : ∀ z ∈ zs, In z) (hn : n * 8 ≤ 140737488355328) (h' : Ints w .i64 B m vs) (hv : ∀ z ∈ vs, In z) (hm : m * 8 ≤ 140737488355328) :
    Calls Try.prog 4 #[.agg #[.int .i64 N, .slice A n c], .slice B m d] w fun e w' => e = .returned (.bool true) ∧ Below w.heap.size w w' := by
  obtain ⟨i0, hi0, hz0, hz1, hz2⟩ := info_parts infoIntF
  have kr := fun W (hI : Ints W .i64 A n zs) => roomy_any A n c zs W hI hn
  have kr2 := fun W (hI : Ints W .i64 B m vs) => roomy_any B m d vs W hI hm
  have KR := Lib.hid kr
  have KR2 := Lib.hid kr2
  have H := Lib.hid (h.alloc (.cells #[.int .i64 N, .slice A n c] 30))
  have H' := Lib.hid (h'.alloc (.cells #[.int .i64 N, .slice A n c] 30))
  have P := Lib.hid (Blk.new w 30 #[.int .i64 N, .slice A n c])
  have BW := Lib.hid ((Below.refl w.heap.size w).alloc (Nat.le_refl _) (.cells #[.int .i64 N, .slice A n c] 30))
  have HS0 : Hid ((w.alloc (.cells #[.int .i64 N, .slice A n c] 30)).heap.size = w.heap.size + 1) := Lib.hid (by simp)
  have hl1 := h.1
  have hl2 := h'.1
  have HZ := Lib.hid hz
  have HV := Lib.hid hv
  have hAlt : ∀ ad, A = some ad → 0 < n → ad.block < w.heap.size := fun ad e hn => by obtain ⟨b, off, e2, hlt, _⟩ := h.2 hn; rw [e] at e2; cases e2; exact hlt
  have hBlt : ∀ ad, B = some ad → 0 < m → ad.block < w.heap.size := fun ad e hn => by obtain ⟨b, off, e2, hlt, _⟩ := h'.2 hn; rw [e] at e2; cases e2; exact hlt
  have HALT := Lib.hid hAlt
  have HBLT := Lib.hid hBlt
  clear kr kr2 h h' hz hv hAlt hBlt
  go_enter Try.func4, Try.ntmps4
  go_upto_region 1 with fail
  generalize w.alloc (.cells #[.int .i64 N, .slice A n c] 30) = W0 at *
  have H2 := Lib.hid (fun W (hW : Below W0.heap.size W0 W) => H.out.next hW)
  have H3 := Lib.hid (fun W (hW : Below W0.heap.size W0 W) => H'.out.next hW)
  have PS := Lib.hid (fun W (hW : Below W0.heap.size W0 W) => P.out.next hW)
  clear H H' P
  go_cut [5] (fun s wx => CutRm W0 N n zs s wx)
  case first =>
    have hF := (Below.refl W0.heap.size W0).drew
    go_region_held3 (fun w' => w'.cell? ⟨w.heap.size, 0, none⟩ = some (.int .i64 N) ∧ w'.cell? ⟨w.heap.size, 1, none⟩ = some (.slice A n c))
      (first | exact ⟨(PS.out _ hF).cell 0, (PS.out _ hF).cell 1⟩ | exact ⟨(PS.out _ (hF.alloc hF.size _)).cell 0, (PS.out _ (hF.alloc hF.size _)).cell 1⟩ | exact ⟨(PS.out _ ((hF.setCell hZ.2 _).setCell hZ.2 _)).cell 0, (PS.out _ ((hF.setCell hZ.2 _).setCell hZ.2 _)).cell 1⟩ | exact ⟨(PS.out _ (((Below.refl W0.heap.size W0).alloc (Nat.le_refl _) _).drew)).cell 0, (PS.out _ (((Below.refl W0.heap.size W0).alloc (Nat.le_refl _) _).drew)).cell 1⟩)
      (first
        | (go_at_call 8; (with_reducible refine (KR.out _ ?_).mono ?_); (first | exact H2.out _ hF | exact H2.out _ (((Below.refl W0.heap.size W0).alloc (Nat.le_refl _) _).drew)); rintro e w4 ⟨rfl, hb, hB4⟩; (first | have hF4 := below_next hF hB4 | (have hF4 := F_start0 hB4; have hZ := ZB.start0 hB4)); clear hF hB4; have hF := hF4; clear hF4; (try obtain ⟨z0, z1, z2, z3⟩ := hZ.cells)))
    all_goals (go_wp2_with fail; go_meet)
    all_goals first
      | exact cutRm1 hZ hb (by simp) hF
      | exact cutRm2 hb (by simp) hF
      | exact cutRm1 hZ (by simpa using hb) (by simp) hF
      | exact cutRm2 (by simpa using hb) (by simp) hF
  case rest =>
    obtain ⟨q5, gr, rfl, hq5, hgr, hq5l, hgrl, hc1⟩ := hcut
    obtain ⟨W1, rfl⟩ : ∃ W1 : World, W1 = wc := ⟨_, rfl⟩
    have I1 := Lib.hid (H2.out _ hc1)
    have J1 := Lib.hid (H3.out _ hc1)
    have P1 := Lib.hid (PS.out _ hc1)
    have Q1 := Lib.hid hq5
    have R1 := Lib.hid hgr
    have B1 := Lib.hid (below_next BW.out hc1)
    have hw1 : w.heap.size < W1.heap.size := by have := hc1.size; have := HS0.out; omega
    clear hq5 hgr hc1 H2 H3 PS BW KR
    go_wp2_with fail
    refine (KR2.out _ J1.out).mono ?_
    rintro e W2 ⟨rfl, hb2, hB2⟩
    have S1 := Lib.hid hb2
    have hw2 : W1.heap.size < W2.heap.size := hb2.lt
    have s1 := hB2.size
    have hgs : gr < W1.heap.size := R1.out.lt
    have hq5w : q5 < W1.heap.size := Q1.out.lt
    have hne5 : gr ≠ q5 := R1.out.ne_ Q1.out (by decide)
    have I2 := Lib.hid (I1.out.next hB2)
    clear I1
    have J2 := Lib.hid (J1.out.next hB2)
    clear J1
    have P2 := Lib.hid (P1.out.next hB2)
    clear P1
    have Q2 := Lib.hid (Q1.out.next hB2)
    clear Q1
    have R2 := Lib.hid (R1.out.next hB2)
    clear R1
    have B2 := Lib.hid (below_next B1.out hB2)
    clear B1 hB2 hb2
    have c0 := Q2.out.cell 0
    have c1 := Q2.out.cell 1
    simp only [List.getElem?_toArray, List.getElem?_cons_zero, List.getElem?_cons_succ] at c0 c1
    go_wp2_with fail
    refine (Turn_ans N (some ⟨gr, 0, none⟩) n (n + 2) zs _ (room_ints hl1 R2.out) HZ.out (by omega)).mono ?_
    rintro e W3 ⟨Ma, va, ea, rfl, ha, -, hB⟩
    clear c0 c1
    obtain ⟨qAa, qna, qca, rfl⟩ := ha.shape
    have s3 := hB.size
    have ra := fun k (hk : (Value.slice qAa qna qca).ownBlock = some k) => ha.lt hk
    have I3 := Lib.hid ((I2.out.next hB).alloc (.cells #[.int .i64 Ma, .slice qAa qna qca] 30))
    clear I2
    have J3 := Lib.hid ((J2.out.next hB).alloc (.cells #[.int .i64 Ma, .slice qAa qna qca] 30))
    clear J2
    have P3 := Lib.hid ((P2.out.next hB).alloc (.cells #[.int .i64 Ma, .slice qAa qna qca] 30))
    clear P2
    have Q3 := Lib.hid ((Q2.out.next hB).alloc (.cells #[.int .i64 Ma, .slice qAa qna qca] 30))
    clear Q2
    have R3 := Lib.hid ((R2.out.next hB).alloc (.cells #[.int .i64 Ma, .slice qAa qna qca] 30))
    clear R2
    have S2 := Lib.hid ((S1.out.next hB).alloc (.cells #[.int .i64 Ma, .slice qAa qna qca] 30))
    clear S1
    have B3 := Lib.hid ((below_next B2.out hB).alloc (below_next B2.out hB).size (.cells #[.int .i64 Ma, .slice qAa qna qca] 30))
    clear B2 hB
    have AA1 := Lib.hid (ha.alloc (.cells #[.int .i64 Ma, .slice qAa qna qca] 30))
    clear ha
    have PA1 := Lib.hid (Blk.new W3 30 #[.int .i64 Ma, .slice qAa qna qca])
    have c0 := Q3.out.cell 0
    have c1 := Q3.out.cell 1
    simp only [List.getElem?_toArray, List.getElem?_cons_zero, List.getElem?_cons_succ] at c0 c1
    go_wp2_with fail
    refine (Mul_ans N (some ⟨gr, 0, none⟩) n (n + 2) zs _ (room_ints hl1 R3.out) HZ.out (by omega)).mono ?_
    rintro e W4 ⟨Mb, vb, ob, eb, rfl, hb, hB⟩
    clear c0 c1
    obtain ⟨qAb, qnb, qcb, rfl⟩ := hb.shape
    have s4 := hB.size
    have rb := fun k (hk : (Value.slice qAb qnb qcb).ownBlock = some k) => hb.lt hk
    have I4 := Lib.hid ((I3.out.next hB).alloc (.cells #[.int .i64 Mb, .slice qAb qnb qcb] 30))
    clear I3
    have J4 := Lib.hid ((J3.out.next hB).alloc (.cells #[.int .i64 Mb, .slice qAb qnb qcb] 30))
    clear J3
    have P4 := Lib.hid ((P3.out.next hB).alloc (.cells #[.int .i64 Mb, .slice qAb qnb qcb] 30))
    clear P3
    have Q4 := Lib.hid ((Q3.out.next hB).alloc (.cells #[.int .i64 Mb, .slice qAb qnb qcb] 30))
    clear Q3
    have R4 := Lib.hid ((R3.out.next hB).alloc (.cells #[.int .i64 Mb, .slice qAb qnb qcb] 30))
    clear R3
    have S3 := Lib.hid ((S2.out.next hB).alloc (.cells #[.int .i64 Mb, .slice qAb qnb qcb] 30))
    clear S2
    have AA2 := Lib.hid ((AA1.out.next hB).alloc (.cells #[.int .i64 Mb, .slice qAb qnb qcb] 30))
    clear AA1
    have PA2 := Lib.hid ((PA1.out.next hB).alloc (.cells #[.int .i64 Mb, .slice qAb qnb qcb] 30))
    clear PA1
    have B4 := Lib.hid ((below_next B3.out hB).alloc (below_next B3.out hB).size (.cells #[.int .i64 Mb, .slice qAb qnb qcb] 30))
    clear B3 hB
    have AB1 := Lib.hid (hb.alloc (.cells #[.int .i64 Mb, .slice qAb qnb qcb] 30))
    clear hb
    have PB1 := Lib.hid (Blk.new W4 30 #[.int .i64 Mb, .slice qAb qnb qcb])
    have c0 := Q4.out.cell 0
    have c1 := Q4.out.cell 1
    simp only [List.getElem?_toArray, List.getElem?_cons_zero, List.getElem?_cons_succ] at c0 c1
    go_wp2_with fail
    refine (Times_ans N (some ⟨gr, 0, none⟩) n (n + 2) zs _ (room_ints hl1 R4.out) HZ.out (by omega) (some ⟨W1.heap.size, 0, none⟩) m (m + 2) vs (room_ints hl2 S3.out) HV.out (by omega)).mono ?_
    rintro e W5 ⟨vc, oc, ec, rfl, hc, hB⟩
    clear c0 c1
    obtain ⟨qAc, qnc, qcc, rfl⟩ := hc.shape
    have s5 := hB.size
    have rc := fun k (hk : (Value.slice qAc qnc qcc).ownBlock = some k) => hc.lt hk
    have I5 := Lib.hid (I4.out.next hB)
    clear I4
    have J5 := Lib.hid (J4.out.next hB)
    clear J4
    have P5 := Lib.hid (P4.out.next hB)
    clear P4
    have Q5 := Lib.hid (Q4.out.next hB)
    clear Q4
    have R5 := Lib.hid (R4.out.next hB)
    clear R4
    have S4 := Lib.hid (S3.out.next hB)
    clear S3
    have AA3 := Lib.hid (AA2.out.next hB)
    clear AA2
    have PA3 := Lib.hid (PA2.out.next hB)
    clear PA2
    have AB2 := Lib.hid (AB1.out.next hB)
    clear AB1
    have PB2 := Lib.hid (PB1.out.next hB)
    clear PB1
    have B5 := Lib.hid (below_next B4.out hB)
    clear B4 hB
    have AC1 := Lib.hid (hc)
    clear hc
    have c0 := Q5.out.cell 0
    have c1 := Q5.out.cell 1
    simp only [List.getElem?_toArray, List.getElem?_cons_zero, List.getElem?_cons_succ] at c0 c1
    go_wp2_with fail
    refine (Factor_ans N (some ⟨gr, 0, none⟩) n (n + 2) zs _ (room_ints hl1 R5.out) HZ.out (by omega)).mono ?_
    rintro e W6 ⟨Ml, vl, vd, od, ed, rfl, hl, hd, hld, hB⟩
    clear c0 c1
    obtain ⟨qAl, qnl, qcl, rfl⟩ := hl.shape
    obtain ⟨qAd, qnd, qcd, rfl⟩ := hd.shape
    have s6 := hB.size
    have rl := fun k (hk : (Value.slice qAl qnl qcl).ownBlock = some k) => hl.lt hk
    have rd := fun k (hk : (Value.slice qAd qnd qcd).ownBlock = some k) => hd.lt hk
    have I6 := Lib.hid ((I5.out.next hB).alloc (.cells #[.int .i64 Ml, .slice qAl qnl qcl] 30))
    clear I5
    have J6 := Lib.hid ((J5.out.next hB).alloc (.cells #[.int .i64 Ml, .slice qAl qnl qcl] 30))
    clear J5
    have P6 := Lib.hid ((P5.out.next hB).alloc (.cells #[.int .i64 Ml, .slice qAl qnl qcl] 30))
    clear P5
    have Q6 := Lib.hid ((Q5.out.next hB).alloc (.cells #[.int .i64 Ml, .slice qAl qnl qcl] 30))
    clear Q5
    have R6 := Lib.hid ((R5.out.next hB).alloc (.cells #[.int .i64 Ml, .slice qAl qnl qcl] 30))
    clear R5
    have S5 := Lib.hid ((S4.out.next hB).alloc (.cells #[.int .i64 Ml, .slice qAl qnl qcl] 30))
    clear S4
    have AA4 := Lib.hid ((AA3.out.next hB).alloc (.cells #[.int .i64 Ml, .slice qAl qnl qcl] 30))
    clear AA3
    have PA4 := Lib.hid ((PA3.out.next hB).alloc (.cells #[.int .i64 Ml, .slice qAl qnl qcl] 30))
    clear PA3
    have AB3 := Lib.hid ((AB2.out.next hB).alloc (.cells #[.int .i64 Ml, .slice qAl qnl qcl] 30))
    clear AB2
    have PB3 := Lib.hid ((PB2.out.next hB).alloc (.cells #[.int .i64 Ml, .slice qAl qnl qcl] 30))
    clear PB2
    have AC2 := Lib.hid ((AC1.out.next hB).alloc (.cells #[.int .i64 Ml, .slice qAl qnl qcl] 30))
    clear AC1
    have B6 := Lib.hid ((below_next B5.out hB).alloc (below_next B5.out hB).size (.cells #[.int .i64 Ml, .slice qAl qnl qcl] 30))
    clear B5 hB
    have AL1 := Lib.hid (hl.alloc (.cells #[.int .i64 Ml, .slice qAl qnl qcl] 30))
    clear hl
    have AD1 := Lib.hid (hd.alloc (.cells #[.int .i64 Ml, .slice qAl qnl qcl] 30))
    clear hd
    have PL1 := Lib.hid (Blk.new W6 30 #[.int .i64 Ml, .slice qAl qnl qcl])
    have c0 := Q6.out.cell 0
    have c1 := Q6.out.cell 1
    simp only [List.getElem?_toArray, List.getElem?_cons_zero, List.getElem?_cons_succ] at c0 c1
    go_wp2_with fail
    refine (Solve_ans N (some ⟨gr, 0, none⟩) n (n + 2) zs _ (room_ints hl1 R6.out) HZ.out (by omega) (some ⟨W1.heap.size, 0, none⟩) m (m + 2) vs (room_ints hl2 S5.out) HV.out (by omega)).mono ?_
    rintro e W7 ⟨vx, ox, ex, rfl, hx, hB⟩
    clear c0 c1
    obtain ⟨qAx, qnx, qcx, rfl⟩ := hx.shape
    have s7 := hB.size
    have rx := fun k (hk : (Value.slice qAx qnx qcx).ownBlock = some k) => hx.lt hk
    have I7 := Lib.hid (I6.out.next hB)
    clear I6
    have J7 := Lib.hid (J6.out.next hB)
    clear J6
    have P7 := Lib.hid (P6.out.next hB)
    clear P6
    have Q7 := Lib.hid (Q6.out.next hB)
    clear Q6
    have R7 := Lib.hid (R6.out.next hB)
    clear R6
    have S6 := Lib.hid (S5.out.next hB)
    clear S5
    have AA5 := Lib.hid (AA4.out.next hB)
    clear AA4
    have PA5 := Lib.hid (PA4.out.next hB)
    clear PA4
    have AB4 := Lib.hid (AB3.out.next hB)
    clear AB3
    have PB4 := Lib.hid (PB3.out.next hB)
    clear PB3
    have AC3 := Lib.hid (AC2.out.next hB)
    clear AC2
    have AL2 := Lib.hid (AL1.out.next hB)
    clear AL1
    have AD2 := Lib.hid (AD1.out.next hB)
    clear AD1
    have PL2 := Lib.hid (PL1.out.next hB)
    clear PL1
    have B7 := Lib.hid (below_next B6.out hB)
    clear B6 hB
    have AX1 := Lib.hid (hx)
    clear hx
    have c0 := Q7.out.cell 0
    have c1 := Q7.out.cell 1
    simp only [List.getElem?_toArray, List.getElem?_cons_zero, List.getElem?_cons_succ] at c0 c1
    go_wp2_with fail
    refine (Turn_ans N (some ⟨gr, 0, none⟩) n (n + 2) zs _ (room_ints hl1 R7.out) HZ.out (by omega)).mono ?_
    rintro e W8 ⟨My, vy, ey, rfl, hy, hrd, hB⟩
    clear c0 c1
    obtain ⟨qAy, qny, qcy, rfl⟩ := hy.shape
    have s8 := hB.size
    have ry := fun k (hk : (Value.slice qAy qny qcy).ownBlock = some k) => hy.lt hk
    have I8 := Lib.hid ((I7.out.next hB).alloc (.cells #[.int .i64 My, .slice qAy qny qcy] 30))
    clear I7
    have J8 := Lib.hid ((J7.out.next hB).alloc (.cells #[.int .i64 My, .slice qAy qny qcy] 30))
    clear J7
    have P8 := Lib.hid ((P7.out.next hB).alloc (.cells #[.int .i64 My, .slice qAy qny qcy] 30))
    clear P7
    have Q8 := Lib.hid ((Q7.out.next hB).alloc (.cells #[.int .i64 My, .slice qAy qny qcy] 30))
    clear Q7
    have R8 := Lib.hid ((R7.out.next hB).alloc (.cells #[.int .i64 My, .slice qAy qny qcy] 30))
    clear R7
    have S7 := Lib.hid ((S6.out.next hB).alloc (.cells #[.int .i64 My, .slice qAy qny qcy] 30))
    clear S6
    have AA6 := Lib.hid ((AA5.out.next hB).alloc (.cells #[.int .i64 My, .slice qAy qny qcy] 30))
    clear AA5
    have PA6 := Lib.hid ((PA5.out.next hB).alloc (.cells #[.int .i64 My, .slice qAy qny qcy] 30))
    clear PA5
    have AB5 := Lib.hid ((AB4.out.next hB).alloc (.cells #[.int .i64 My, .slice qAy qny qcy] 30))
    clear AB4
    have PB5 := Lib.hid ((PB4.out.next hB).alloc (.cells #[.int .i64 My, .slice qAy qny qcy] 30))
    clear PB4
    have AC4 := Lib.hid ((AC3.out.next hB).alloc (.cells #[.int .i64 My, .slice qAy qny qcy] 30))
    clear AC3
    have AL3 := Lib.hid ((AL2.out.next hB).alloc (.cells #[.int .i64 My, .slice qAy qny qcy] 30))
    clear AL2
    have AD3 := Lib.hid ((AD2.out.next hB).alloc (.cells #[.int .i64 My, .slice qAy qny qcy] 30))
    clear AD2
    have PL3 := Lib.hid ((PL2.out.next hB).alloc (.cells #[.int .i64 My, .slice qAy qny qcy] 30))
    clear PL2
    have AX2 := Lib.hid ((AX1.out.next hB).alloc (.cells #[.int .i64 My, .slice qAy qny qcy] 30))
    clear AX1
    have B8 := Lib.hid ((below_next B7.out hB).alloc (below_next B7.out hB).size (.cells #[.int .i64 My, .slice qAy qny qcy] 30))
    clear B7 hB
    clear hy
    have PY1 := Lib.hid (Blk.new W8 30 #[.int .i64 My, .slice qAy qny qcy])
    obtain ⟨ys, qA, qn, qc, e0, hy3, hy4, hy5, hy6⟩ := hrd
    injection e0 with e1 e2 e3
    subst e1 e2 e3
    simp only [heap_alloc_size] at ra rb rc rl rd rx ry s3 s4 s5 s6 s7 s8
    have sX : W8.heap.size < (W8.alloc (.cells #[.int .i64 My, .slice qAy qny qcy] 30)).heap.size := by rw [heap_alloc_size]; omega
    have HY := Lib.hid (hy3.alloc (.cells #[.int .i64 My, .slice qAy qny qcy] 30))
    clear hy3
    have c0 := PY1.out.cell 1
    simp only [List.getElem?_toArray, List.getElem?_cons_zero, List.getElem?_cons_succ] at c0
    have HYN := Lib.hid hy4
    clear hy4
    go_wp2_with (at_builtin; go_loud (refine wpList_append_ints rfl _ _ 28 rfl (W8.alloc (.cells #[.int .i64 My, .slice qAy qny qcy] 30)).heap.size 3 i0 (.int .i64 0) .i64 8 Try.underlying28 hi0 hz0 hz1 hz2 rfl _ 0 [] rfl (World.ownsRow_nil _ _ _ _) qAy qny qcy ys rfl HYN.out HY.out (by unfold maxLen; omega) (by omega) (Nat.le_refl _) ?_; intro v10 X10 hown10 hg10; have hB := (Below.refl (W8.alloc (.cells #[.int .i64 My, .slice qAy qny qcy] 30)).heap.size (W8.alloc (.cells #[.int .i64 My, .slice qAy qny qcy] 30))).grown hg10 (Nat.le_refl _) (fun j hj => by cases hj); have d1 := (PA6.out.next hB).cell 1; simp only [List.getElem?_toArray, List.getElem?_cons_zero, List.getElem?_cons_succ] at d1; clear c0; have HB10 := Lib.hid hB; clear hB hg10))
    have hB := HB10.out
    have s10 := hB.size
    clear d1
    simp only [Nat.zero_add, List.nil_append] at hown10
    obtain ⟨A10, c10, rfl⟩ := own_shape hown10
    have I9 := Lib.hid (I8.out.next hB)
    clear I8
    have J9 := Lib.hid (J8.out.next hB)
    clear J8
    have P9 := Lib.hid (P8.out.next hB)
    clear P8
    have Q9 := Lib.hid (Q8.out.next hB)
    clear Q8
    have R9 := Lib.hid (R8.out.next hB)
    clear R8
    have S8 := Lib.hid (S7.out.next hB)
    clear S7
    have AA7 := Lib.hid (AA6.out.next hB)
    clear AA6
    have PA7 := Lib.hid (PA6.out.next hB)
    clear PA6
    have AB6 := Lib.hid (AB5.out.next hB)
    clear AB5
    have PB6 := Lib.hid (PB5.out.next hB)
    clear PB5
    have AC5 := Lib.hid (AC4.out.next hB)
    clear AC4
    have AL4 := Lib.hid (AL3.out.next hB)
    clear AL3
    have AD4 := Lib.hid (AD3.out.next hB)
    clear AD3
    have PL4 := Lib.hid (PL3.out.next hB)
    clear PL3
    have AX3 := Lib.hid (AX2.out.next hB)
    clear AX2
    have PY2 := Lib.hid (PY1.out.next hB)
    clear PY1
    have B9 := Lib.hid (below_next B8.out hB)
    clear B8
    have HY1 := Lib.hid (HY.out.next hB)
    clear HY hB HB10
    have hwant := fun k (hk : (Value.slice A10 qny c10).ownBlock = some k) => hown10.lt k hk
    have HOW := Lib.hid hown10
    clear hown10
    have SA0 : Hid (Same X10 (InOwn []) X10) := Lib.hid (Same.refl _ _)
    refine (scribble_ans _ (SA0.out.ans AA7.out (fun k hk hin => hin))).mono ?_
    rintro e Y1 ⟨rfl, hG⟩
    have SA1 : Hid (Same X10 (InOwn [.slice qAa qna qca]) Y1) := Lib.hid ((SA0.out.mono (fun k hk => .inr hk)).grown hG (fun k hk _ => .inl hk))
    clear SA0 hG
    have ia : ∀ k, InOwn [.slice qAa qna qca] k → W2.heap.size ≤ k ∧ k < W3.heap.size := by
      intro k h
      rcases h with h | h
      · have := ra k h; omega
      · exact h.elim
    have c0 := (SA1.out.blk PB6.out (fun hin => by have := ia _ hin; omega)).cell 1
    simp only [List.getElem?_toArray, List.getElem?_cons_zero, List.getElem?_cons_succ] at c0
    go_wp2_with fail
    refine (scribble_ans _ (SA1.out.ans AB6.out (fun k hk hin => by rcases ia k hin with hq; have := rb k hk; omega))).mono ?_
    rintro e Y2 ⟨rfl, hG⟩
    clear c0
    have SA2 : Hid (Same X10 (InOwn [.slice qAb qnb qcb, .slice qAa qna qca]) Y2) := Lib.hid ((SA1.out.mono (fun k hk => .inr hk)).grown hG (fun k hk _ => .inl hk))
    clear SA1 hG
    have ib : ∀ k, InOwn [.slice qAb qnb qcb, .slice qAa qna qca] k → W2.heap.size ≤ k ∧ k < W4.heap.size := by
      intro k h
      rcases h with h | h
      · have := rb k h; omega
      · have := ia k h; omega
    go_wp2_with fail
    refine (scribble_ans _ (SA2.out.ans AC5.out (fun k hk hin => by rcases ib k hin with hq; have := rc k hk; omega))).mono ?_
    rintro e Y3 ⟨rfl, hG⟩
    have SA3 : Hid (Same X10 (InOwn [.slice qAc qnc qcc, .slice qAb qnb qcb, .slice qAa qna qca]) Y3) := Lib.hid ((SA2.out.mono (fun k hk => .inr hk)).grown hG (fun k hk _ => .inl hk))
    clear SA2 hG
    have ic : ∀ k, InOwn [.slice qAc qnc qcc, .slice qAb qnb qcb, .slice qAa qna qca] k → W2.heap.size ≤ k ∧ k < W5.heap.size := by
      intro k h
      rcases h with h | h
      · have := rc k h; omega
      · have := ib k h; omega
    have c0 := (SA3.out.blk PL4.out (fun hin => by have := ic _ hin; omega)).cell 1
    simp only [List.getElem?_toArray, List.getElem?_cons_zero, List.getElem?_cons_succ] at c0
    go_wp2_with fail
    refine (scribble_ans _ (SA3.out.ans AL4.out (fun k hk hin => by rcases ic k hin with hq; have := rl k hk; omega))).mono ?_
    rintro e Y4 ⟨rfl, hG⟩
    clear c0
    have SA4 : Hid (Same X10 (InOwn [.slice qAl qnl qcl, .slice qAc qnc qcc, .slice qAb qnb qcb, .slice qAa qna qca]) Y4) := Lib.hid ((SA3.out.mono (fun k hk => .inr hk)).grown hG (fun k hk _ => .inl hk))
    clear SA3 hG
    have il : ∀ k, InOwn [.slice qAl qnl qcl, .slice qAc qnc qcc, .slice qAb qnb qcb, .slice qAa qna qca] k → W2.heap.size ≤ k ∧ k < W6.heap.size := by
      intro k h
      rcases h with h | h
      · have := rl k h; omega
      · have := ic k h; omega
    have hdd : ∀ k, (Value.slice qAd qnd qcd).ownBlock = some k → ¬ InOwn [.slice qAl qnl qcl, .slice qAc qnc qcc, .slice qAb qnb qcb, .slice qAa qna qca] k := by
      intro k hk hin
      rcases hin with hin | hin
      · exact hld k hin hk
      · have := ic k hin; have := rd k hk; omega
    go_wp2_with fail
    refine (scribble_ans _ (SA4.out.ans AD4.out (hdd))).mono ?_
    rintro e Y5 ⟨rfl, hG⟩
    have SA5 : Hid (Same X10 (InOwn [.slice qAd qnd qcd, .slice qAl qnl qcl, .slice qAc qnc qcc, .slice qAb qnb qcb, .slice qAa qna qca]) Y5) := Lib.hid ((SA4.out.mono (fun k hk => .inr hk)).grown hG (fun k hk _ => .inl hk))
    clear SA4 hG
    have id : ∀ k, InOwn [.slice qAd qnd qcd, .slice qAl qnl qcl, .slice qAc qnc qcc, .slice qAb qnb qcb, .slice qAa qna qca] k → W2.heap.size ≤ k ∧ k < W6.heap.size := by
      intro k h
      rcases h with h | h
      · have := rd k h; omega
      · have := il k h; omega
    go_wp2_with fail
    refine (scribble_ans _ (SA5.out.ans AX3.out (fun k hk hin => by rcases id k hin with hq; have := rx k hk; omega))).mono ?_
    rintro e Y6 ⟨rfl, hG⟩
    have SA6 : Hid (Same X10 (InOwn [.slice qAx qnx qcx, .slice qAd qnd qcd, .slice qAl qnl qcl, .slice qAc qnc qcc, .slice qAb qnb qcb, .slice qAa qna qca]) Y6) := Lib.hid ((SA5.out.mono (fun k hk => .inr hk)).grown hG (fun k hk _ => .inl hk))
    clear SA5 hG
    have ix : ∀ k, InOwn [.slice qAx qnx qcx, .slice qAd qnd qcd, .slice qAl qnl qcl, .slice qAc qnc qcc, .slice qAb qnb qcb, .slice qAa qna qca] k → W2.heap.size ≤ k ∧ k < W7.heap.size := by
      intro k h
      rcases h with h | h
      · have := rx k h; omega
      · have := id k h; omega
    have nS : ∀ k, k < W2.heap.size ∨ W7.heap.size ≤ k → ¬ InOwn [.slice qAx qnx qcx, .slice qAd qnd qcd, .slice qAl qnl qcl, .slice qAc qnc qcc, .slice qAb qnb qcb, .slice qAa qna qca] k := fun k hk hin => by have := ix k hin; omega
    have hgr2 := R9.out.lt
    go_wp2_with fail
    refine (stands_any _).mono ?_
    rintro e Z1 ⟨rfl, hB⟩
    have T1 := Lib.hid (SA6.out.next hB)
    clear SA6 hB
    have c0 := (T1.out.blk Q9.out (nS _ (by omega))).cell 1
    simp only [List.getElem?_toArray, List.getElem?_cons_zero, List.getElem?_cons_succ] at c0
    have c1 := (T1.out.blk P9.out (nS _ (by omega))).cell 1
    simp only [List.getElem?_toArray, List.getElem?_cons_zero, List.getElem?_cons_succ] at c1
    go_wp2_with fail
    refine (stayed_any A gr n c zs _ (T1.out.blk R9.out (nS _ (by omega))) (T1.out.ints I9.out (fun ad e hn => nS _ (by have := HALT.out ad e hn; omega))) (by omega)).mono ?_
    rintro e Z2 ⟨rfl, hB⟩
    have T2 := Lib.hid (T1.out.next hB)
    clear T1 hB c0 c1
    go_wp2_with fail
    refine (stayed_any B W1.heap.size m d vs _ (T2.out.blk S8.out (nS _ (by omega))) (T2.out.ints J9.out (fun ad e hn => nS _ (by have := HBLT.out ad e hn; omega))) (by omega)).mono ?_
    rintro e Z3 ⟨rfl, hB⟩
    have T3 := Lib.hid (T2.out.next hB)
    clear T2 hB
    have c0 := (T3.out.blk PY2.out (nS _ (by omega))).cell 1
    simp only [List.getElem?_toArray, List.getElem?_cons_zero, List.getElem?_cons_succ] at c0
    go_wp2_with fail
    refine (Ro.same_true qAy A10 qny qcy c10 ys _ (T3.out.ints HY1.out (fun ad e hn => nS _ (by have := ry ad.block (by rw [e]; rfl); omega))) (T3.out.ints (Ints.own HOW.out) (fun ad e hn => nS _ (by have := hwant ad.block (by rw [e]; rfl); have := heap_alloc_size W8 (.cells #[.int .i64 My, .slice qAy qny qcy] 30); omega))) (by omega)).mono ?_
    rintro e Z4 ⟨rfl, hB⟩
    have T4 := Lib.hid (T3.out.next hB)
    clear T3 hB c0
    go_wp2_with fail
    go_ret
    exact ⟨rfl, T4.out.below B9.out (by have := B9.out.size; omega) (fun k hk => by have := ix k hk; omega)⟩

set_option maxRecDepth 100000 in
theorem walk {H : Type} {enc : TypeId × Value → H} {d0 d1 : DataW H} {p0 p1 : List MemPlace} (v0 v1 : Value) (W : World) (base : Nat)
    (h0 : Value.okWide Try.prog W .any base 30 v0) (k0 : DataW.Trod enc Try.prog W 0 (fun _ => true) true 30 v0 d0 p0)
    (h1 : Value.okWide Try.prog W .any base 28 v1) (k1 : DataW.Trod enc Try.prog W 0 (fun _ => true) true 28 v1 d1 p1)
    (s0 : ∀ x ∈ d0.weights Try.prog 30, x ≤ reachBytes) (s1 : ∀ x ∈ d1.weights Try.prog 28, x ≤ reachBytes) :
    Calls Try.prog 4 #[v0, v1] W fun e w' => e = .returned (.bool true) ∧ Below W.heap.size W w' := by
  obtain ⟨N, A, n, c, zs, rfl, iN, hI, hz, hA, hnc, hn⟩ := mat_in h0 k0 s0
  obtain ⟨B, m, d, rfl, hmd, _, hB, _⟩ := ok_slice Try.underlying28 h1
  have hb : Try.prog.bytesOf 3 = 8 := by kernel_rfl
  obtain ⟨vs, hJ, hw, _, hr⟩ := ints_in Try.underlying28 Try.underlying3 (by kernel_rfl) k1 (fun es sp he => s1 _ (by rw [he]; simp [DataW.weights, Try.underlying28]))
  rw [hb] at hr
  refine walk1 N A B n c m d zs vs W hI hz (by omega) hJ (fun z hz => ?_) (by unfold reachBytes at hr; omega)
  unfold In
  simpa [Lit.wf, IntKind.has, IntKind.min, IntKind.max, IntKind.signed, IntKind.bits] using hw z hz
end Go.Proofs.Ytnhklfdchfndjaa.lawMatMemory
