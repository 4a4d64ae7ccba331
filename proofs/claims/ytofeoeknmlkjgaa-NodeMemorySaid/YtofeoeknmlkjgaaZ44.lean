/- Merged: ClPlain ClLaw NodeAdopt. -/
import Derived.Deep.RegionHeld3
import Derived.Test.YtofeoeknmlkjgaaZ36
import Derived.Test.YtofeoeknmlkjgaaZ37
import Derived.Test.YtofeoeknmlkjgaaZ39
import Derived.Test.YtofeoeknmlkjgaaZ41
import Derived.Test.YtofeoeknmlkjgaaZ43
set_option linter.unusedVariables false
set_option linter.unusedSimpArgs false
section
/- Four computers, one of which may be faulty: what a frame computes, plain; and what the good ones agree on. -/
set_option linter.unusedVariables false
namespace Go.Proofs.Ytofeoeknmlkjgaa.Nk
open Go.RowKit Go.Proofs.Ytofeoeknmlkjgaa Mb Fi Sm

/-! what is heard -/
def fitsS (fr kind : Int) (many s : Nat) (x : Pm) : Bool := decide (x.k = kind) && decide (x.r = fr) && decide (x.vs.length = many) && decide (x.f = (s : Int))
def firstM (fr kind : Int) (many s : Nat) (L : List Pm) : Option (List Int) := (L.find? (fitsS fr kind many s)).map (·.vs)
/-! boxes -/
def boxF (bad : Int) (lie : List Pm) (m : Nat → Pm) (tt : Nat) : Nat → List Pm
  | 0 => []
  | i + 1 => boxF bad lie m tt i ++ (if (i : Int) = bad then lie else if i = tt then [] else [m i])
structure Ly where
  ph : Int
  tt : Int
  m : Option Pm
def lyM (bad : Int) (k tt : Nat) (l : Ly) : Option Pm := if l.ph = (k : Int) ∧ l.tt = (tt : Int) ∧ (tt : Int) ≠ bad then l.m.filter (fun x => decide (x.f = bad)) else none
def lieL (bad : Int) (k tt : Nat) (Ls : List Ly) : List Pm := Ls.filterMap (lyM bad k tt)
/-! a frame -/
structure Fr where
  bad : Int
  fr : Int
  rd : Nat → Int
  Ls : List Ly
section
variable (x : Fr) (N : Nat → Nd)
def N1 (i : Nat) : Nd := if (i : Int) = x.bad then N i else senseN (N i) i x.fr (x.rd (i * 3)) (x.rd (i * 3 + 1)) (x.rd (i * 3 + 2))
def M1 (i : Nat) : Pm := ⟨1, i, x.fr, [x.rd (i * 3), x.rd (i * 3 + 1), x.rd (i * 3 + 2)]⟩
def B1 (tt : Nat) : List Pm := boxF x.bad (lieL x.bad 0 tt x.Ls) (M1 x) tt 4
def N2 (i : Nat) : Nd := if (i : Int) = x.bad then N i else relayN (N1 x N i) (B1 x i)
def M2 (i : Nat) : Pm := ⟨2, i, x.fr, dirL (N2 x N i).di 12⟩
def B2 (tt : Nat) : List Pm := boxF x.bad (lieL x.bad 1 tt x.Ls) (M2 x N) tt 4
def N3 (i : Nat) : Nd := if (i : Int) = x.bad then N i else decideN (N2 x N i) (B2 x N i) i
def M3 (i : Nat) : Pm := ⟨3, i, x.fr, [(N3 x N i).dg]⟩
def B3 (tt : Nat) : List Pm := boxF x.bad (lieL x.bad 2 tt x.Ls) (M3 x N) tt 4
def N4 (i : Nat) : Nd := if (i : Int) = x.bad then N i else passN (N3 x N i) (B3 x N i)
def M4 (i : Nat) : Pm := ⟨2, i, x.fr, heL (N4 x N i).he⟩
def B4 (tt : Nat) : List Pm := boxF x.bad (lieL x.bad 3 tt x.Ls) (M4 x N) tt 4
noncomputable def N5 (i : Nat) : Nd := if (i : Int) = x.bad then N i else judgeN (N4 x N i) (B4 x N i) i
noncomputable def M5 (i : Nat) : Pm := ⟨5, i, x.fr, packL (N5 x N i)⟩
noncomputable def B5 (tt : Nat) : List Pm := boxF x.bad (lieL x.bad 4 tt x.Ls) (M5 x N) tt 4
end

/-! told -/
def valH (h : Hd) (q k : Nat) : Int := match h q with | some l => l.getD k 0 | none => 0
end Go.Proofs.Ytofeoeknmlkjgaa.Nk
end
section
/- Four computers: the good ones agree (plain). -/
set_option linter.unusedVariables false
namespace Go.Proofs.Ytofeoeknmlkjgaa.Nk
open Go.RowKit Go.Proofs.Ytofeoeknmlkjgaa Mb Fi Sm

section
variable {x : Fr} {N : Nat → Nd}
def Ids (x : Fr) (N : Nat → Nd) : Prop := ∀ p : Nat, p < 4 → ¬ (p : Int) = x.bad → (N p).id = (p : Int)
def dBad (x : Fr) (p s a : Nat) : Int := match firstM x.fr 1 3 s (lieL x.bad 0 p x.Ls) with | some l => l.getD a 0 | none => 0
/-! behind Decide -/
def Tw (n m : Nd) : Prop := n.ax = m.ax ∧ n.tu = m.tu ∧ n.ro = m.ro
/-! behind Pass -/
def hBad (x : Fr) (p s : Nat) : Int := match firstM x.fr 3 1 s (lieL x.bad 2 p x.Ls) with | some l => l.getD 0 0 | none => 0
/-! behind Judge -/
def JV (x : Fr) (N : Nat → Nd) (p s : Nat) : Int := jF (N4 x N p) (judgeH (N4 x N p) (B4 x N p)) p s
def Inn (bad : Int) (R : Rl) : Prop := Mb.Good R ∧ ∀ s : Nat, s < 4 → ¬ (s : Int) = bad → R.inn s = true ∧ R.miss s = 0
theorem stays (R : Rl) (A : Nat → Bool) (q : Nat) (hA : A q = true) (hi : R.inn q = true) (hm : R.miss q = 0) :
    ∀ k, (stepTo R A k).1.inn q = true ∧ (stepTo R A k).1.miss q = 0
  | 0 => ⟨hi, hm⟩
  | k + 1 => by
    obtain ⟨h1, h2⟩ := stays R A q hA hi hm k
    unfold stepTo
    generalize (stepTo R A k).1 = P at *
    generalize (stepTo R A k).2 = l at *
    by_cases e : k = q
    · subst e
      rw [if_pos h1, hA]
      unfold stay1
      simp only [if_true, upd_same]
      exact ⟨h1, trivial⟩
    · have eq' : q ≠ k := fun h => e h.symm
      split
      · refine ⟨?_, ?_⟩
        · unfold stay1; split
          · exact h1
          · split
            · exact h1
            · simp only []; rw [upd_far _ _ eq']; exact h1
        · unfold stay1; split
          · simp only []; rw [upd_far _ _ eq']; exact h2
          · split <;> (simp only []; rw [upd_far _ _ eq']; exact h2)
      · refine ⟨?_, ?_⟩
        · unfold wait1; split
          · exact h1
          · split
            · exact h1
            · simp only []; rw [upd_far _ _ eq']; exact h1
        · unfold wait1; split
          · exact h2
          · split
            · exact h2
            · simp only []; rw [upd_far _ _ eq']; exact h2
end
end Go.Proofs.Ytofeoeknmlkjgaa.Nk
end
section
/- node.adopt: of the node only the axes and the roll change. -/
set_option linter.unusedVariables false
namespace Go.Proofs.Ytofeoeknmlkjgaa.Nk
open Go.RowKit Go.Proofs.Ytofeoeknmlkjgaa Mb Fi Sm

theorem run_eql_slice_nil_w {P : Program} (w : World) (t e : TypeId) (a : Option Addr) (l c : Nat) (h : P.underlying t = some (.slice e)) : (binOp .eql t (.slice a l c) (.slice none 0 0)).run P w = .ok (.bool a.isNone) w := by
  simp only [binOp]
  simp [Op.equal, Op.maxDepth, Lib.run_equalIn_slice_nil w 9999 t e a l c 0 0 h]
def AdPost (n : Nd) (va : Value) (g : Nat) (w : World) (e : Ending) (w' : World) : Prop := ∃ n' : Nd, e = .returned (.tuple #[]) ∧ NB w' g n' va ∧ w.grownBy w' (some g) ∧ Lk n n'
def AdCut (wr : World) (s : Value) (wx : World) : Prop := ∃ b : Bool, s = .bool b ∧ Below wr.heap.size wr wx
def AdRel (w : World) (iv : Value) (wr : World) : Prop := ∃ i : Nat, iv = .int .i64 i ∧ i ≤ 4 ∧ Below w.heap.size w wr
def AdIn (w : World) (i : Nat) (kv : Value) (wr : World) : Prop := ∃ k : Nat, kv = .int .i64 k ∧ i < k ∧ k ≤ 4 ∧ Below w.heap.size w wr
def Sl24 (w : World) (sv : Nat → Value) : Prop := ∀ i, i < 4 → sv i = .slice none 0 0 ∨ ∃ l ad c, sv i = .slice (some ad) 24 c ∧ 24 ≤ c ∧ Ints w .i64 (some ad) 24 l ∧ ∀ z ∈ l, In64 z

set_option maxRecDepth 100000 in
set_option maxHeartbeats 4000000 in
theorem adopt_any (n : Nd) (va : Value) (g : Nat) (sv : Nat → Value) (w : World) (hN : NB w g n va) (hS : Sl24 w sv) (hin : ∀ a, a < 3 → (n.ax a).In) :
    Calls Try.prog 47 #[.pointer (some ⟨g, 0, none⟩), .agg (AN 4 sv)] w (AdPost n va g w) := by
  have hb0 : Below w.heap.size w (w.alloc (.cells (AN 4 sv) 94)) := (Below.refl _ _).alloc (Nat.le_refl _) _
  have HBB := Lib.hid (Blk.new w 94 (AN 4 sv))
  have HSV := Lib.hid hS
  have HN := Lib.hid hN
  have HIN := Lib.hid hin
  have hgl := Blk.lt hN
  have HW1 := Lib.hid hb0
  obtain ⟨w1, hw1⟩ : ∃ w1, w.alloc (.cells (AN 4 sv) 94) = w1 := ⟨_, rfl⟩
  clear hS hN hin hb0
  go_enter Try.func47, Try.ntmps47
  go_upto_region 1 with fail
  rw [hw1] at HBB HW1
  clear hw1
  have hs1 := HW1.out.size
  go_wp2_with fail
  go_loopw [6] (fun iv wr => AdRel w1 iv wr) (fun iv _ => 4 - (intOf iv).toNat)
  case atStart => exact ⟨0, rfl, by omega, Below.refl _ _⟩
  case round =>
    obtain ⟨i, rfl, hi4, hB⟩ := hrel
    by_cases hi : i < 4
    · have q0 : (i : Int) < 4 := by omega
      have z0 : (0 : Int) ≤ (i : Int) := by omega
      have HB := Lib.hid hB
      clear hB
      obtain ⟨wo, rfl⟩ : ∃ wo : World, wo = wr := ⟨_, rfl⟩
      go_upto_region 5 with fail
      go_loopw [5] (fun kv wr => AdIn w1 i kv wr) (fun kv _ => 4 - (intOf kv).toNat)
      case atStart => exact ⟨i + 1, by go_num, by omega, by omega, HB.out⟩
      case round =>
        obtain ⟨k, rfl, hik, hk4, hB⟩ := hrel
        have HB := Lib.hid hB
        clear hB
        by_cases hk : k < 4
        · have q1 : (k : Int) < 4 := by omega
          have z1 : (0 : Int) ≤ (k : Int) := by omega
          have q22 : ∀ (w : World) (a : Option Addr) (n c : Nat), (binOp .eql 58 (.slice a n c) (.slice none 0 0)).run Try.prog w = .ok (.bool a.isNone) w := fun w a n c => run_eql_slice_nil_w w _ _ a n c Try.underlying58
          have ci := Blk.cell (HBB.out.next HB.out) i
          have ck := Blk.cell (HBB.out.next HB.out) k
          rw [AN_get hi] at ci
          rw [AN_get hk] at ck
          rcases HSV.out i hi with e1 | ⟨l1, ad1, c1, e1, hc1, hI1, hl1⟩
          · rw [e1] at ci
            go_upto_region 7 with fail
            go_quiet (fail)
            go_wp2_with fail
            go_roundw
            case rel => exact ⟨k + 1, by go_num, by omega, by omega, HB.out.trans ((below_drewN _ _ _).mono HB.out.size)⟩
            case measure => simp [intOf]; omega
          · rw [e1] at ci
            rcases HSV.out k hk with e2 | ⟨l2, ad2, c2, e2, hc2, hI2, hl2⟩
            · rw [e2] at ck
              go_upto_region 7 with fail
              go_quiet (fail)
              go_wp2_with fail
              go_roundw
              case rel => exact ⟨k + 1, by go_num, by omega, by omega, HB.out.trans ((below_drewN _ _ _).mono HB.out.size)⟩
              case measure => simp [intOf]; omega
            · rw [e2] at ck
              have KS := Lib.hid (fun W (h : Below wr.heap.size wr W) => nsame_any (some ad1) (some ad2) 24 c1 c2 l1 l2 W (hI1.next (HW1.out.trans ((HB.out.mono hs1).trans (h.mono (Nat.le_trans hs1 HB.out.size))))) (hI2.next (HW1.out.trans ((HB.out.mono hs1).trans (h.mono (Nat.le_trans hs1 HB.out.size))))) (by omega))
              have hlw := Blk.lt (HBB.out.next HB.out)
              have HLW := Lib.hid hlw
              clear hlw
              go_upto_region 7 with fail
              go_cut [34] (fun s34 wx => AdCut wr s34 wx)
              case first =>
                have cid : wr.drew.cell? ⟨w.heap.size, i, none⟩ = some (.slice (some ad1) 24 c1) := ci
                have ckd : wr.drew.cell? ⟨w.heap.size, k, none⟩ = some (.slice (some ad2) 24 c2) := ck
                go_region_held3 (fun w' => w'.cell? ⟨w.heap.size, i, none⟩ = some (.slice (some ad1) 24 c1) ∧ w'.cell? ⟨w.heap.size, k, none⟩ = some (.slice (some ad2) 24 c2))
                  (first | with_reducible exact ⟨cid, ckd⟩ | with_reducible exact ⟨ci2, ck2⟩) (first
                  | (go_at_call 62; (with_reducible refine (KS.out _ (Below.refl wr.heap.size wr).drew).mono ?_); rintro e w2 ⟨⟨bb, rfl⟩, hb2⟩; have hb3 : Below wr.heap.size wr w2 := (Below.refl wr.heap.size wr).drew.trans hb2; have ci2 := (hb3.cell (p := ⟨w.heap.size, i, none⟩) HLW.out).trans ci; have ck2 := (hb3.cell (p := ⟨w.heap.size, k, none⟩) HLW.out).trans ck; have HB3 := Lib.hid hb3; clear hb2 hb3))
                go_wp2_with fail
                go_meet
                exact ⟨_, rfl, HB3.out⟩
              case rest =>
                obtain ⟨bb, rfl, hbc⟩ := hcut
                have cic := (hbc.cell (p := ⟨w.heap.size, i, none⟩) HLW.out).trans ci
                have HBC := Lib.hid hbc
                clear hbc KS ci ck
                cases bb with
                | true =>
                  go_wp2_with fail
                  go_roundw
                  case rel => exact ⟨k + 1, by go_num, by omega, by omega, HB.out.trans (HBC.out.mono HB.out.size)⟩
                  case measure => simp [intOf]; omega
                | false =>
                  have hbw := HW1.out.trans ((HB.out.trans (HBC.out.mono HB.out.size)).mono hs1)
                  have KU := Lib.hid (unpack_any n va g (some ad1) c1 l1 wc (HN.out.next hbw) hc1 (hI1.next hbw) hl1 HIN.out)
                  have HBW := Lib.hid hbw
                  clear hbw
                  go_wp2_with (first
                    | (go_at_call 63; (with_reducible refine KU.out.mono ?_); rintro e w3 ⟨b3, n3, rfl, hN3, hg3, hl3⟩; have HN3 := Lib.hid hN3; have HG3 := Lib.hid hg3; have HL3 := Lib.hid hl3; clear hN3 hg3 hl3))
                  exact bodyPost_ret (results_none rfl _ _ _) rfl ⟨n3, rfl, HN3.out, grown_trans (grown_below HBW.out) HG3.out, HL3.out⟩
        · obtain rfl : k = 4 := by omega
          go_wp2_with fail
          go_roundw
          case rel => exact ⟨i + 1, by go_num, hi, HB.out⟩
          case measure => simp [intOf]; omega
    · obtain rfl : i = 4 := by omega
      have HB := Lib.hid hB
      clear hB
      go_wp2_with fail
      go_end0
      have hbw := HW1.out.trans (HB.out.mono hs1)
      exact ⟨n, rfl, HN.out.next hbw, grown_below hbw, Lk.refl n⟩
end Go.Proofs.Ytofeoeknmlkjgaa.Nk
end
