/- The contract of fix.Text. -/
import Derived.Test.YtnhklfdchfndjaaTxtPlain
import Derived.Test.YtnhklfdchfndjaaFixBits
import Derived.Test.YtnhklfdchfndjaaAppend
import Derived.Test.YtnhklfdchfndjaaKit2
import Derived.Test.YtnhklfdchfndjaaRows4
set_option linter.unusedVariables false
namespace Go.Proofs.Ytnhklfdchfndjaa.Tx
open Go.RowKit Go.Proofs.Ytnhklfdchfndjaa

theorem infoByteT : (Try.prog.info? 5).map (fun i => (i.zero, i.size, i.bytes)) = some (some (.int .u8 0), 1, 1) := by kernel_rfl
/-- digits as bytes -/
def dg (l : List Nat) : List Int := l.map fun (d : Nat) => 48 + (d : Int)
theorem dg_snoc (l : List Nat) (d : Nat) : dg (l ++ [d]) = dg l ++ [48 + (d : Int)] := by simp [dg]
theorem dg_len (l : List Nat) : (dg l).length = l.length := by simp [dg]
/-- a number's text, of its size n and its sign -/
def txt (a : Int) : List Int := (if a < 0 then [45] else []) ++ dg (low (a.natAbs / 4294967296)).reverse ++ (if 0 < a.natAbs % 4294967296 then 46 :: dg (fr 32 (a.natAbs % 4294967296)) else [])
def lenOf : Value → Nat
  | .slice _ n _ => n
  | _ => 0
def R1 (W1 : World) (N : Nat) (s5 s6 : Value) (W : World) : Prop := ∃ m ds, s5 = .int .u64 ((m : Nat) : Int) ∧ W.ownsRow W1.heap.size 5 1 s6 ds.length ((dg ds).map (Value.int .u8)) ∧ LowAt N ds m ∧ Below W1.heap.size W1 W ∧ m ≤ N
def R2 (w w1 : World) (g6 c6 : Nat) (sg : List Int) (ds : List Nat) (s3 s7 : Value) (W : World) : Prop := ∃ k q : Nat, k ≤ ds.length ∧ s7 = .int .i64 ((ds.length : Int) - 1 - k) ∧ W.ownsRow w.heap.size 5 1 s3 q ((sg ++ dg (ds.reverse.take k)).map (Value.int .u8)) ∧
  W.ownsRow w1.heap.size 5 1 (.slice (some ⟨g6, 0, none⟩) ds.length c6) ds.length ((dg ds).map (Value.int .u8)) ∧ s3.ownBlock ≠ some g6 ∧ Below w.heap.size w W ∧ w1.heap.size ≤ W.heap.size
def R3 (w : World) (pr : List Int) (p : Nat) (s3 s8 : Value) (W : World) : Prop := ∃ (k q n : Nat) (dn : List Nat), s8 = .int .u64 ((q : Nat) : Int) ∧ W.ownsRow w.heap.size 5 1 s3 n ((pr ++ dg dn).map (Value.int .u8)) ∧ dn ++ fr k q = fr 32 p ∧ Fits k q ∧ k ≤ 32 ∧ Below w.heap.size w W
theorem own_cast {w : World} {base size n n' : Nat} {e : TypeId} {v : Value} {xs xs' : List Value} (h : w.ownsRow base e size v n xs) (hn : n = n') (hx : xs = xs') : w.ownsRow base e size v n' xs' := by subst hn hx; exact h
theorem ret_str {a b : List Int} (h : a = b) : Ending.returned (.string (strOfNums a)) = .returned (.string (strOfNums b)) := by rw [h]
theorem fr_zero (k : Nat) : fr k 0 = [] := by cases k <;> simp [fr]
theorem take_snocN (l : List Nat) (k : Nat) (h : k < l.length) : l.take (k + 1) = l.take k ++ [l.getD k 0] := by
  rw [List.take_succ_eq_append_getElem h]
  simp [List.getD, List.getElem?_eq_getElem h]
theorem dg_at (ds : List Nat) (k : Nat) (h : k < ds.length) : (dg ds)[ds.length - 1 - k]? = some (48 + ((ds.reverse.getD k 0 : Nat) : Int)) := by
  have h2 : ds.length - 1 - k < ds.length := by omega
  simp [dg, List.getD, List.getElem?_reverse h, List.getElem?_eq_getElem h2]
theorem revD_lt (ds : List Nat) (h : ∀ d ∈ ds, d < 10) (k : Nat) : ds.reverse.getD k 0 < 10 := by
  by_cases hk : k < ds.reverse.length
  · simp only [List.getD, List.getElem?_eq_getElem hk, Option.getD_some]
    exact h _ (List.mem_reverse.1 (List.getElem_mem _))
  · simp only [List.getD, List.getElem?_eq_none (Nat.le_of_not_lt hk), Option.getD_none]
    decide

set_option maxRecDepth 100000 in
set_option maxHeartbeats 4000000 in
theorem Text_any (a : Int) (h0 : -9223372036854775808 ≤ a) (h1 : a ≤ 9223372036854775807) (w : World) :
    Calls Try.prog 6 #[.int .i64 a] w fun e w' => e = .returned (.string (strOfNums (txt a))) ∧ Below w.heap.size w w' := by
  obtain ⟨i0, hi, hz0, hz1, hz2⟩ := info_parts infoByteT
  have KS := Lib.hid (fun W => (size_any a h0 h1 W).mono (R' := fun e w' => e = .returned (.int .u64 ((a.natAbs : Nat) : Int)) ∧ W = w') (fun _ _ h => ⟨h.1, h.2.symm⟩))
  have hu : a.natAbs ≤ 9223372036854775808 := by omega
  obtain ⟨sg, hsg⟩ : ∃ sg : List Int, sg = if a < 0 then [45] else [] := ⟨_, rfl⟩
  unfold txt
  rw [← hsg]
  have hm := Fx.maskN a.natAbs (by omega)
  have HM := Lib.hid hm
  generalize hU : a.natAbs = u at *
  obtain ⟨p, hp⟩ : ∃ p, p = u % 4294967296 := ⟨_, rfl⟩
  rw [← hp] at HM ⊢
  have hpl : p < 4294967296 := by omega
  clear hU hm hp
  by_cases ha : a < 0
  · rw [if_pos ha] at hsg
    subst hsg
    go_enter Try.func6, Try.ntmps6
    go_wp2_with (first
      | (go_at_call 20; refine (KS.out _).mono ?_; rintro e w' ⟨rfl, rfl⟩)
      | (at_builtin; refine wpList_append_own _ rfl (.tmp 13) (.tmp 14) 49 rfl w.heap.size 5 i0 (.int .u8 0) 1 1 Try.underlying49 hi hz0 hz1 hz2 rfl (by decide) (.slice none 0 0) 0 [] rfl (World.ownsRow_nil _ _ _ _) ⟨w.heap.size, 0, none⟩ 1 1 [.int .u8 45] rfl rfl (cell_one_new _ _ _) (by intro u hu; simp at hu; subst hu; rfl) (by decide) (by decide) (by simp) ?_; intro v1 w1 hown1 hg1 _; have hB1 := ((Below.refl w.heap.size w).alloc (Nat.le_refl _) (.cells #[.int .u8 45] 5)).grown hg1 (by simp) (fun j hj => by cases hj); (obtain ⟨A1, c1, rfl⟩ := own_shape hown1); have HO := Lib.hid hown1; have HB := Lib.hid hB1; clear hown1 hg1 hB1))
    -- loops begin
    go_loopw [5, 6] (fun s5 s6 W => R1 w1 (u / 4294967296) s5 s6 W) (fun s5 s6 _ => (intOf s5).toNat + (1 - lenOf s6))
    case atStart => exact ⟨u / 4294967296, [], by rw [← Fx.divN], World.ownsRow_nil _ _ _ _, LowAt.start _, Below.refl _ _, Nat.le_refl _⟩
    case round =>
      obtain ⟨m, ds, rfl, hown, hL, hB, hmN⟩ := hrel
      obtain ⟨wi, rfl⟩ : ∃ wi : World, wi = wr := ⟨_, rfl⟩
      have HLA := Lib.hid hL
      have HBW := Lib.hid hB
      obtain ⟨A6, c6, rfl⟩ := own_shape hown
      have HOW := Lib.hid hown
      have hsz := hB.size
      clear hown hL hB
      by_cases hg : 0 < m ∨ ds = []
      · have hlen : ds.length < 10 := by
            have h3 := congrArg List.length (HLA.out.app hg)
            have h4 := low_len 9 (u / 4294967296) (by omega)
            have h5 := List.length_pos_iff.2 (low_ne m)
            rw [List.length_append] at h3
            omega
        have HST := Lib.hid (HLA.out.step hg)
        by_cases hm0 : 0 < m
        · clear hg
          go_wp2_with (at_builtin; go_loud (refine wpList_append_own_at _ rfl (.tmp 25) (.tmp 30) 49 rfl w1.heap.size 5 i0 (.int .u8 0) 1 1 Try.underlying49 hi hz0 hz1 hz2 rfl (by decide) (.slice A6 ds.length c6) ds.length _ rfl (HOW.out.alloc _) ⟨wi.heap.size, 0, none⟩ 1 1 [.int .u8 (48 + (m : Int) % 10)] rfl rfl (cell_one_new _ _ _) (by intro u hu; simp at hu; subst hu; rfl) (by unfold maxLen; omega) (by omega) (by simp; omega) ?_); intro v2 w2 hown2 hg2 _ _; have hB2 := (HBW.out.alloc hsz (.cells #[.int .u8 (48 + (m : Int) % 10)] 5)).grown hg2 (by simp; omega) (fun j hj => (HOW.out.lt j hj).1); (obtain ⟨A2, c2, rfl⟩ := own_shape hown2); have HO2 := Lib.hid hown2; have HB2 := Lib.hid hB2; clear hown2 hg2 hB2)
          go_roundw
          case rel => exact ⟨m / 10, ds ++ [m % 10], by rw [Int.natCast_ediv]; rfl, by rw [dg_snoc]; simpa using HO2.out, HST.out, HB2.out, by omega⟩
          case measure => simp [intOf, lenOf]; omega
        · obtain rfl : m = 0 := by omega
          obtain rfl : ds = [] := hg.resolve_left (by omega)
          clear hg hm0
          simp only [List.length_nil] at HOW hlen ⊢
          go_wp2_with (at_builtin; go_loud (refine wpList_append_own_at _ rfl (.tmp 25) (.tmp 30) 49 rfl w1.heap.size 5 i0 (.int .u8 0) 1 1 Try.underlying49 hi hz0 hz1 hz2 rfl (by decide) (.slice A6 0 c6) 0 _ rfl (HOW.out.alloc _) ⟨wi.heap.size, 0, none⟩ 1 1 [.int .u8 48] rfl rfl (cell_one_new _ _ _) (by intro u hu; simp at hu; subst hu; rfl) (by unfold maxLen; omega) (by omega) (by simp; omega) ?_); intro v2 w2 hown2 hg2 _ _; have hB2 := (HBW.out.alloc hsz (.cells #[.int .u8 48] 5)).grown hg2 (by simp; omega) (fun j hj => (HOW.out.lt j hj).1); (obtain ⟨A2, c2, rfl⟩ := own_shape hown2); have HO2 := Lib.hid hown2; have HB2 := Lib.hid hB2; clear hown2 hg2 hB2)
          go_roundw
          case rel => exact ⟨0 / 10, [] ++ [0 % 10], by rfl, by simpa [dg] using HO2.out, HST.out, HB2.out, by omega⟩
          case measure => simp [intOf, lenOf]
      · obtain rfl : m = 0 := by omega
        have hne : ds ≠ [] := fun e => hg (.inr e)
        have hds := HLA.out.done rfl hne
        have hpos := List.length_pos_iff.2 hne
        have hlen : ds.length ≤ 10 := by rw [hds]; exact low_len 9 _ (by omega)
        have t0 : ((ds.length : Int) == 0) = false := by rw [beq_eq_false_iff_ne]; omega
        have HDS := Lib.hid hds
        clear hg hne hds HLA
        have HS3 := Lib.hid (own_below HO.out HBW.out (fun g hg => (HO.out.lt g hg).2))
        go_wp2_with fail
        obtain ⟨g6, cap6, e6, hg6, hg6l, _⟩ := own_form HOW.out hpos
        injection e6 with e6a e6b e6c
        subst e6a e6c
        have HNE : (Value.slice A1 1 c1).ownBlock ≠ some g6 := by intro e; have := (HO.out.lt _ e).2; omega
        go_loopw [3, 7] (fun s3 s7 W => R2 w w1 g6 c6 [45] ds s3 s7 W) (fun _ s7 _ => (intOf s7 + 1).toNat)
        case atStart => exact ⟨0, _, by omega, by simp, by simpa [dg] using HS3.out, HOW.out, HNE, HB.out.trans (HBW.out.mono HB.out.size), by omega⟩
        case round =>
          obtain ⟨k, q, hk, rfl, hown, hown6, hne6, hB, hs6⟩ := hrel
          obtain ⟨wj, rfl⟩ : ∃ wj : World, wj = wr := ⟨_, rfl⟩
          obtain ⟨A3, c3, rfl⟩ := own_shape hown
          have hql := hown.1
          simp only [List.length_map, List.length_append, dg_len, List.length_take, List.length_reverse, List.length_cons, List.length_nil, Nat.mul_one] at hql
          have hqb : q ≤ 20 := by omega
          clear hql
          have HOB := Lib.hid hown
          have HO6 := Lib.hid hown6
          have HBJ := Lib.hid hB
          have hsj := hB.size
          clear hown hown6 hB
          by_cases hlt : k < ds.length
          · have hx := HO6.out.cellAt (ds.length - 1 - k) (by omega)
            have hy := dg_at ds k hlt
            simp only [List.getElem?_map, hy, Option.map_some] at hx
            have htk : ds.reverse.take (k + 1) = ds.reverse.take k ++ [ds.reverse.getD k 0] := take_snocN _ _ (by simpa using hlt)
            have HTK := Lib.hid htk
            have hd9 : ds.reverse.getD k 0 < 10 := revD_lt ds (by rw [HDS.out]; exact low_lt _) k
            generalize ds.reverse.getD k 0 = y at *
            have z1 : (0 : Int) ≤ (ds.length : Int) - 1 - (k : Int) := by omega
            have z2 : (ds.length : Int) - 1 - (k : Int) < (ds.length : Int) := by omega
            have z3 : ((ds.length : Int) - 1 - (k : Int)).toNat = ds.length - 1 - k := by omega
            clear hy htk
            go_wp2_with (at_builtin; go_loud (refine wpList_append_own_at _ rfl (.tmp 41) (.tmp 46) 49 rfl w.heap.size 5 i0 (.int .u8 0) 1 1 Try.underlying49 hi hz0 hz1 hz2 rfl (by decide) (.slice A3 q c3) q _ rfl (HOB.out.alloc _) ⟨wj.heap.size, 0, none⟩ 1 1 [.int .u8 (48 + (y : Int))] rfl rfl (cell_one_new _ _ _) (by intro u hu; simp at hu; subst hu; rfl) (by unfold maxLen; omega) (by omega) (by simp; omega) ?_); intro v2 w2 hown2 hg2 _ hat2; have hB2 := (HBJ.out.alloc hsj (.cells #[.int .u8 (48 + (y : Int))] 5)).grown hg2 (by simp; omega) (fun j hj => (HOB.out.lt j hj).1); have hn2 : v2.ownBlock ≠ some g6 := hat2.elim (fun h => (by rw [h]; exact hne6)) (fun h => (by rw [h]; have := (HO6.out.lt g6 rfl).2; simp; omega)); have h62 := (HO6.out.alloc (.cells #[.int .u8 (48 + (y : Int))] 5)).kept hg2 (.inr (fun e => hne6 (e.symm ▸ rfl))); have hs2 := hg2.size; have HN2 := Lib.hid hn2; have H62 := Lib.hid h62; (obtain ⟨A2, c2, rfl⟩ := own_shape hown2); have HO2 := Lib.hid hown2; have HB2 := Lib.hid hB2; clear hown2 hg2 hB2 hat2 hn2 h62)
            go_roundw
            case rel => exact ⟨k + 1, q + 1, by omega, by go_num, by rw [HTK.out, dg_snoc]; simpa [← Nat.add_assoc] using HO2.out, H62.out, HN2.out, HB2.out, by simp at hs2; omega⟩
            case measure => simp [intOf]; omega
          · obtain rfl : k = ds.length := by omega
            have hrow := HOB.out
            rw [List.take_of_length_le (by simp)] at hrow
            have HRW := Lib.hid hrow
            clear hrow
            have hm2 := HM.out
            clear HM hne6
            have hfl := fr_len 32 p
            by_cases hp0 : 0 < p
            · have HP0 := Lib.hid hp0
              go_wp2_with (at_builtin; go_loud (refine wpList_append_own_at _ rfl (.tmp 52) (.tmp 53) 49 rfl w.heap.size 5 i0 (.int .u8 0) 1 1 Try.underlying49 hi hz0 hz1 hz2 rfl (by decide) (.slice A3 q c3) q _ rfl (HRW.out.alloc _) ⟨wj.heap.size, 0, none⟩ 1 1 [.int .u8 46] rfl rfl (cell_one_new _ _ _) (by intro u hu; simp at hu; subst hu; rfl) (by unfold maxLen; omega) (by omega) (by simp; omega) ?_); intro v2 w2 hown2 hg2 _ _; have hB2 := (HBJ.out.alloc hsj (.cells #[.int .u8 46] 5)).grown hg2 (by simp; omega) (fun j hj => (HRW.out.lt j hj).1); (obtain ⟨A2, c2, rfl⟩ := own_shape hown2); have HO2 := Lib.hid hown2; have HB2 := Lib.hid hB2; clear hown2 hg2 hB2)
              have hprl : ([45] ++ dg ds.reverse ++ [46]).length = (1 + ds.length + 1) := by simp only [List.length_append, List.length_cons, List.length_nil, dg_len, List.length_reverse]; try omega
              obtain ⟨PR, hPR⟩ : ∃ PR, PR = ([45] ++ dg ds.reverse ++ [46]) := ⟨_, rfl⟩
              rw [← hPR] at hprl
              have hprb : PR.length ≤ 12 := by omega
              have HPL := Lib.hid hprl
              clear hprl
              have HPR := Lib.hid hPR
              go_loopw [3, 8] (fun s3 s8 W => R3 w PR p s3 s8 W) (fun s3 _ _ => 100 - lenOf s3)
              case atStart => exact ⟨32, p, _, [], rfl, own_cast HO2.out rfl (by rw [hPR]; simp [dg]), by simp, Fits.start (by omega), by omega, HB2.out⟩
              case round =>
                obtain ⟨k, qq, m, dn, rfl, hown, hdn, hF, hk, hB⟩ := hrel
                obtain ⟨wk, rfl⟩ : ∃ wk : World, wk = wr := ⟨_, rfl⟩
                obtain ⟨A9, c9, rfl⟩ := own_shape hown
                have hml := hown.1
                simp only [List.length_map, List.length_append, dg_len, Nat.mul_one] at hml
                have HOK := Lib.hid hown
                have HBK := Lib.hid hB
                have HDN := Lib.hid hdn
                have HF := Lib.hid hF
                have hql := hF.1
                have hsk := hB.size
                have hdl : dn.length ≤ 32 := by have h := congrArg List.length hdn; rw [List.length_append] at h; omega
                have hmb : m ≤ 44 := by omega
                clear hown hB hdn hF hPR hml
                by_cases hq0 : 0 < qq
                · have hk0 : 0 < k := by
                      rcases Nat.eq_zero_or_pos k with h | h
                      · subst h; have := HF.out.zero; omega
                      · exact h
                  obtain ⟨k, rfl⟩ : ∃ k', k = k' + 1 := ⟨k - 1, by omega⟩
                  have hstep := HF.out.step
                  have hfr : fr (k + 1) qq = qq * 10 / 4294967296 :: fr k (qq * 10 % 4294967296) := by rw [fr, if_neg (by omega)]
                  have hdn2 := HDN.out
                  rw [hfr, ← List.singleton_append, ← List.append_assoc] at hdn2
                  have hdl2 : dn.length < 32 := by have h := congrArg List.length hdn2; rw [List.length_append, List.length_append] at h; simp at h; omega
                  have hmk : bits .and .u64 ((qq : Int) * 10) 4294967295 = ((qq * 10 % 4294967296 : Nat) : Int) := by have := Fx.maskN (qq * 10) (by omega); rw [Int.natCast_mul] at this; exact this
                  have hd9 : qq * 10 / 4294967296 < 10 := by omega
                  obtain ⟨y, hy⟩ : ∃ y, y = qq * 10 / 4294967296 := ⟨_, rfl⟩
                  have hyi : (qq : Int) * 10 / 4294967296 = (y : Int) := by omega
                  obtain ⟨r, hr⟩ : ∃ r, r = qq * 10 % 4294967296 := ⟨_, rfl⟩
                  rw [← hy] at hd9 hdn2
                  rw [← hr] at hmk hstep hdn2
                  have HDN2 := Lib.hid hdn2
                  have HST := Lib.hid hstep
                  clear hdn2 hstep hfr hy hr
                  go_wp2_with (at_builtin; go_loud (refine wpList_append_own_at _ rfl (.tmp 59) (.tmp 64) 49 rfl w.heap.size 5 i0 (.int .u8 0) 1 1 Try.underlying49 hi hz0 hz1 hz2 rfl (by decide) (.slice A9 m c9) m _ rfl (HOK.out.alloc _) ⟨wk.heap.size, 0, none⟩ 1 1 [.int .u8 (48 + (y : Int))] rfl rfl (cell_one_new _ _ _) (by intro u hu; simp at hu; subst hu; rfl) (by unfold maxLen; omega) (by omega) (by simp; omega) ?_); intro v5 w5 hown5 hg5 _ _; have hB5 := (HBK.out.alloc hsk (.cells #[.int .u8 (48 + (y : Int))] 5)).grown hg5 (by simp; omega) (fun j hj => (HOK.out.lt j hj).1); (obtain ⟨A5, c5, rfl⟩ := own_shape hown5); have HO5 := Lib.hid hown5; have HB5 := Lib.hid hB5; clear hown5 hg5 hB5)
                  go_roundw
                  case rel => exact ⟨k, r, m + 1, dn ++ [y], rfl, by rw [dg_snoc]; simpa [← Nat.add_assoc] using HO5.out, HDN2.out, HST.out, by omega, HB5.out⟩
                  case measure => simp [lenOf]; omega
                · obtain rfl : qq = 0 := by omega
                  have hdd : dn = fr 32 p := by have h := HDN.out; rw [fr_zero, List.append_nil] at h; exact h
                  have cv := conv_ints (P := Try.prog) (dst := 9) Try.underlying49 Try.underlying5 Try.underlying9 (Ints.own HOK.out) (own_none HOK.out).1
                  have HDD := Lib.hid hdd
                  clear hdd hq0
                  generalize hST : strOfNums (PR ++ dg dn) = st at *
                  have HSTR := Lib.hid hST
                  clear hST
                  go_wp2_with fail
                  go_ret
                  refine ⟨?_, HBK.out⟩
                  show Ending.returned (.string st) = _
                  rw [← HSTR.out]
                  exact ret_str (by rw [HPR.out, HDD.out, HDS.out]; simp [fr_zero, dg])
            · obtain rfl : p = 0 := by omega
              clear hp0
              go_wp2_with fail
              have hprl : ([45] ++ dg ds.reverse).length = (1 + ds.length) := by simp only [List.length_append, List.length_cons, List.length_nil, dg_len, List.length_reverse]; try omega
              obtain ⟨PR, hPR⟩ : ∃ PR, PR = ([45] ++ dg ds.reverse) := ⟨_, rfl⟩
              rw [← hPR] at hprl
              have hprb : PR.length ≤ 12 := by omega
              have HPL := Lib.hid hprl
              clear hprl
              have HPR := Lib.hid hPR
              go_loopw [3, 8] (fun s3 s8 W => R3 w PR 0 s3 s8 W) (fun s3 _ _ => 100 - lenOf s3)
              case atStart => exact ⟨32, 0, _, [], rfl, own_cast HRW.out rfl (by rw [hPR]; simp [dg]), by simp, Fits.start (by omega), by omega, HBJ.out⟩
              case round =>
                obtain ⟨k, qq, m, dn, rfl, hown, hdn, hF, hk, hB⟩ := hrel
                obtain ⟨wk, rfl⟩ : ∃ wk : World, wk = wr := ⟨_, rfl⟩
                obtain ⟨A9, c9, rfl⟩ := own_shape hown
                have hml := hown.1
                simp only [List.length_map, List.length_append, dg_len, Nat.mul_one] at hml
                have HOK := Lib.hid hown
                have HBK := Lib.hid hB
                have HDN := Lib.hid hdn
                have HF := Lib.hid hF
                have hql := hF.1
                have hsk := hB.size
                have hdl : dn.length ≤ 32 := by have h := congrArg List.length hdn; rw [List.length_append] at h; omega
                have hmb : m ≤ 44 := by omega
                clear hown hB hdn hF hPR hml
                by_cases hq0 : 0 < qq
                · have hk0 : 0 < k := by
                      rcases Nat.eq_zero_or_pos k with h | h
                      · subst h; have := HF.out.zero; omega
                      · exact h
                  obtain ⟨k, rfl⟩ : ∃ k', k = k' + 1 := ⟨k - 1, by omega⟩
                  have hstep := HF.out.step
                  have hfr : fr (k + 1) qq = qq * 10 / 4294967296 :: fr k (qq * 10 % 4294967296) := by rw [fr, if_neg (by omega)]
                  have hdn2 := HDN.out
                  rw [hfr, ← List.singleton_append, ← List.append_assoc] at hdn2
                  have hdl2 : dn.length < 32 := by have h := congrArg List.length hdn2; rw [List.length_append, List.length_append] at h; simp at h; omega
                  have hmk : bits .and .u64 ((qq : Int) * 10) 4294967295 = ((qq * 10 % 4294967296 : Nat) : Int) := by have := Fx.maskN (qq * 10) (by omega); rw [Int.natCast_mul] at this; exact this
                  have hd9 : qq * 10 / 4294967296 < 10 := by omega
                  obtain ⟨y, hy⟩ : ∃ y, y = qq * 10 / 4294967296 := ⟨_, rfl⟩
                  have hyi : (qq : Int) * 10 / 4294967296 = (y : Int) := by omega
                  obtain ⟨r, hr⟩ : ∃ r, r = qq * 10 % 4294967296 := ⟨_, rfl⟩
                  rw [← hy] at hd9 hdn2
                  rw [← hr] at hmk hstep hdn2
                  have HDN2 := Lib.hid hdn2
                  have HST := Lib.hid hstep
                  clear hdn2 hstep hfr hy hr
                  go_wp2_with (at_builtin; go_loud (refine wpList_append_own_at _ rfl (.tmp 59) (.tmp 64) 49 rfl w.heap.size 5 i0 (.int .u8 0) 1 1 Try.underlying49 hi hz0 hz1 hz2 rfl (by decide) (.slice A9 m c9) m _ rfl (HOK.out.alloc _) ⟨wk.heap.size, 0, none⟩ 1 1 [.int .u8 (48 + (y : Int))] rfl rfl (cell_one_new _ _ _) (by intro u hu; simp at hu; subst hu; rfl) (by unfold maxLen; omega) (by omega) (by simp; omega) ?_); intro v5 w5 hown5 hg5 _ _; have hB5 := (HBK.out.alloc hsk (.cells #[.int .u8 (48 + (y : Int))] 5)).grown hg5 (by simp; omega) (fun j hj => (HOK.out.lt j hj).1); (obtain ⟨A5, c5, rfl⟩ := own_shape hown5); have HO5 := Lib.hid hown5; have HB5 := Lib.hid hB5; clear hown5 hg5 hB5)
                  go_roundw
                  case rel => exact ⟨k, r, m + 1, dn ++ [y], rfl, by rw [dg_snoc]; simpa [← Nat.add_assoc] using HO5.out, HDN2.out, HST.out, by omega, HB5.out⟩
                  case measure => simp [lenOf]; omega
                · obtain rfl : qq = 0 := by omega
                  have hdd : dn = fr 32 0 := by have h := HDN.out; rw [fr_zero, List.append_nil] at h; exact h
                  have cv := conv_ints (P := Try.prog) (dst := 9) Try.underlying49 Try.underlying5 Try.underlying9 (Ints.own HOK.out) (own_none HOK.out).1
                  have HDD := Lib.hid hdd
                  clear hdd hq0
                  generalize hST : strOfNums (PR ++ dg dn) = st at *
                  have HSTR := Lib.hid hST
                  clear hST
                  go_wp2_with fail
                  go_ret
                  refine ⟨?_, HBK.out⟩
                  show Ending.returned (.string st) = _
                  rw [← HSTR.out]
                  exact ret_str (by rw [HPR.out, HDD.out, HDS.out]; simp [fr_zero, dg])
  · rw [if_neg ha] at hsg
    subst hsg
    have HO := Lib.hid (World.ownsRow_nil w w.heap.size 5 1)
    have HB := Lib.hid (Below.refl w.heap.size w)
    go_enter Try.func6, Try.ntmps6
    go_wp2_with (go_at_call 20; refine (KS.out _).mono ?_; rintro e w' ⟨rfl, rfl⟩)
    go_loopw [5, 6] (fun s5 s6 W => R1 w (u / 4294967296) s5 s6 W) (fun s5 s6 _ => (intOf s5).toNat + (1 - lenOf s6))
    case atStart => exact ⟨u / 4294967296, [], by rw [← Fx.divN], World.ownsRow_nil _ _ _ _, LowAt.start _, Below.refl _ _, Nat.le_refl _⟩
    case round =>
      obtain ⟨m, ds, rfl, hown, hL, hB, hmN⟩ := hrel
      obtain ⟨wi, rfl⟩ : ∃ wi : World, wi = wr := ⟨_, rfl⟩
      have HLA := Lib.hid hL
      have HBW := Lib.hid hB
      obtain ⟨A6, c6, rfl⟩ := own_shape hown
      have HOW := Lib.hid hown
      have hsz := hB.size
      clear hown hL hB
      by_cases hg : 0 < m ∨ ds = []
      · have hlen : ds.length < 10 := by
            have h3 := congrArg List.length (HLA.out.app hg)
            have h4 := low_len 9 (u / 4294967296) (by omega)
            have h5 := List.length_pos_iff.2 (low_ne m)
            rw [List.length_append] at h3
            omega
        have HST := Lib.hid (HLA.out.step hg)
        by_cases hm0 : 0 < m
        · clear hg
          go_wp2_with (at_builtin; go_loud (refine wpList_append_own_at _ rfl (.tmp 25) (.tmp 30) 49 rfl w.heap.size 5 i0 (.int .u8 0) 1 1 Try.underlying49 hi hz0 hz1 hz2 rfl (by decide) (.slice A6 ds.length c6) ds.length _ rfl (HOW.out.alloc _) ⟨wi.heap.size, 0, none⟩ 1 1 [.int .u8 (48 + (m : Int) % 10)] rfl rfl (cell_one_new _ _ _) (by intro u hu; simp at hu; subst hu; rfl) (by unfold maxLen; omega) (by omega) (by simp; omega) ?_); intro v2 w2 hown2 hg2 _ _; have hB2 := (HBW.out.alloc hsz (.cells #[.int .u8 (48 + (m : Int) % 10)] 5)).grown hg2 (by simp; omega) (fun j hj => (HOW.out.lt j hj).1); (obtain ⟨A2, c2, rfl⟩ := own_shape hown2); have HO2 := Lib.hid hown2; have HB2 := Lib.hid hB2; clear hown2 hg2 hB2)
          go_roundw
          case rel => exact ⟨m / 10, ds ++ [m % 10], by rw [Int.natCast_ediv]; rfl, by rw [dg_snoc]; simpa using HO2.out, HST.out, HB2.out, by omega⟩
          case measure => simp [intOf, lenOf]; omega
        · obtain rfl : m = 0 := by omega
          obtain rfl : ds = [] := hg.resolve_left (by omega)
          clear hg hm0
          simp only [List.length_nil] at HOW hlen ⊢
          go_wp2_with (at_builtin; go_loud (refine wpList_append_own_at _ rfl (.tmp 25) (.tmp 30) 49 rfl w.heap.size 5 i0 (.int .u8 0) 1 1 Try.underlying49 hi hz0 hz1 hz2 rfl (by decide) (.slice A6 0 c6) 0 _ rfl (HOW.out.alloc _) ⟨wi.heap.size, 0, none⟩ 1 1 [.int .u8 48] rfl rfl (cell_one_new _ _ _) (by intro u hu; simp at hu; subst hu; rfl) (by unfold maxLen; omega) (by omega) (by simp; omega) ?_); intro v2 w2 hown2 hg2 _ _; have hB2 := (HBW.out.alloc hsz (.cells #[.int .u8 48] 5)).grown hg2 (by simp; omega) (fun j hj => (HOW.out.lt j hj).1); (obtain ⟨A2, c2, rfl⟩ := own_shape hown2); have HO2 := Lib.hid hown2; have HB2 := Lib.hid hB2; clear hown2 hg2 hB2)
          go_roundw
          case rel => exact ⟨0 / 10, [] ++ [0 % 10], by rfl, by simpa [dg] using HO2.out, HST.out, HB2.out, by omega⟩
          case measure => simp [intOf, lenOf]
      · obtain rfl : m = 0 := by omega
        have hne : ds ≠ [] := fun e => hg (.inr e)
        have hds := HLA.out.done rfl hne
        have hpos := List.length_pos_iff.2 hne
        have hlen : ds.length ≤ 10 := by rw [hds]; exact low_len 9 _ (by omega)
        have t0 : ((ds.length : Int) == 0) = false := by rw [beq_eq_false_iff_ne]; omega
        have HDS := Lib.hid hds
        clear hg hne hds HLA
        have HS3 := Lib.hid (own_below HO.out HBW.out (fun g hg => (HO.out.lt g hg).2))
        go_wp2_with fail
        obtain ⟨g6, cap6, e6, hg6, hg6l, _⟩ := own_form HOW.out hpos
        injection e6 with e6a e6b e6c
        subst e6a e6c
        have HNE : (Value.slice none 0 0).ownBlock ≠ some g6 := by intro e; have := (HO.out.lt _ e).2; omega
        go_loopw [3, 7] (fun s3 s7 W => R2 w w g6 c6 ([] : List Int) ds s3 s7 W) (fun _ s7 _ => (intOf s7 + 1).toNat)
        case atStart => exact ⟨0, _, by omega, by simp, by simpa [dg] using HS3.out, HOW.out, HNE, HB.out.trans (HBW.out.mono HB.out.size), by omega⟩
        case round =>
          obtain ⟨k, q, hk, rfl, hown, hown6, hne6, hB, hs6⟩ := hrel
          obtain ⟨wj, rfl⟩ : ∃ wj : World, wj = wr := ⟨_, rfl⟩
          obtain ⟨A3, c3, rfl⟩ := own_shape hown
          have hql := hown.1
          simp only [List.length_map, List.length_append, dg_len, List.length_take, List.length_reverse, List.length_cons, List.length_nil, Nat.mul_one] at hql
          have hqb : q ≤ 20 := by omega
          clear hql
          have HOB := Lib.hid hown
          have HO6 := Lib.hid hown6
          have HBJ := Lib.hid hB
          have hsj := hB.size
          clear hown hown6 hB
          by_cases hlt : k < ds.length
          · have hx := HO6.out.cellAt (ds.length - 1 - k) (by omega)
            have hy := dg_at ds k hlt
            simp only [List.getElem?_map, hy, Option.map_some] at hx
            have htk : ds.reverse.take (k + 1) = ds.reverse.take k ++ [ds.reverse.getD k 0] := take_snocN _ _ (by simpa using hlt)
            have HTK := Lib.hid htk
            have hd9 : ds.reverse.getD k 0 < 10 := revD_lt ds (by rw [HDS.out]; exact low_lt _) k
            generalize ds.reverse.getD k 0 = y at *
            have z1 : (0 : Int) ≤ (ds.length : Int) - 1 - (k : Int) := by omega
            have z2 : (ds.length : Int) - 1 - (k : Int) < (ds.length : Int) := by omega
            have z3 : ((ds.length : Int) - 1 - (k : Int)).toNat = ds.length - 1 - k := by omega
            clear hy htk
            go_wp2_with (at_builtin; go_loud (refine wpList_append_own_at _ rfl (.tmp 41) (.tmp 46) 49 rfl w.heap.size 5 i0 (.int .u8 0) 1 1 Try.underlying49 hi hz0 hz1 hz2 rfl (by decide) (.slice A3 q c3) q _ rfl (HOB.out.alloc _) ⟨wj.heap.size, 0, none⟩ 1 1 [.int .u8 (48 + (y : Int))] rfl rfl (cell_one_new _ _ _) (by intro u hu; simp at hu; subst hu; rfl) (by unfold maxLen; omega) (by omega) (by simp; omega) ?_); intro v2 w2 hown2 hg2 _ hat2; have hB2 := (HBJ.out.alloc hsj (.cells #[.int .u8 (48 + (y : Int))] 5)).grown hg2 (by simp; omega) (fun j hj => (HOB.out.lt j hj).1); have hn2 : v2.ownBlock ≠ some g6 := hat2.elim (fun h => (by rw [h]; exact hne6)) (fun h => (by rw [h]; have := (HO6.out.lt g6 rfl).2; simp; omega)); have h62 := (HO6.out.alloc (.cells #[.int .u8 (48 + (y : Int))] 5)).kept hg2 (.inr (fun e => hne6 (e.symm ▸ rfl))); have hs2 := hg2.size; have HN2 := Lib.hid hn2; have H62 := Lib.hid h62; (obtain ⟨A2, c2, rfl⟩ := own_shape hown2); have HO2 := Lib.hid hown2; have HB2 := Lib.hid hB2; clear hown2 hg2 hB2 hat2 hn2 h62)
            go_roundw
            case rel => exact ⟨k + 1, q + 1, by omega, by go_num, by rw [HTK.out, dg_snoc]; simpa [← Nat.add_assoc] using HO2.out, H62.out, HN2.out, HB2.out, by simp at hs2; omega⟩
            case measure => simp [intOf]; omega
          · obtain rfl : k = ds.length := by omega
            have hrow := HOB.out
            rw [List.take_of_length_le (by simp)] at hrow
            have HRW := Lib.hid hrow
            clear hrow
            have hm2 := HM.out
            clear HM hne6
            have hfl := fr_len 32 p
            by_cases hp0 : 0 < p
            · have HP0 := Lib.hid hp0
              go_wp2_with (at_builtin; go_loud (refine wpList_append_own_at _ rfl (.tmp 52) (.tmp 53) 49 rfl w.heap.size 5 i0 (.int .u8 0) 1 1 Try.underlying49 hi hz0 hz1 hz2 rfl (by decide) (.slice A3 q c3) q _ rfl (HRW.out.alloc _) ⟨wj.heap.size, 0, none⟩ 1 1 [.int .u8 46] rfl rfl (cell_one_new _ _ _) (by intro u hu; simp at hu; subst hu; rfl) (by unfold maxLen; omega) (by omega) (by simp; omega) ?_); intro v2 w2 hown2 hg2 _ _; have hB2 := (HBJ.out.alloc hsj (.cells #[.int .u8 46] 5)).grown hg2 (by simp; omega) (fun j hj => (HRW.out.lt j hj).1); (obtain ⟨A2, c2, rfl⟩ := own_shape hown2); have HO2 := Lib.hid hown2; have HB2 := Lib.hid hB2; clear hown2 hg2 hB2)
              have hprl : (([] : List Int) ++ dg ds.reverse ++ [46]).length = (0 + ds.length + 1) := by simp only [List.length_append, List.length_cons, List.length_nil, dg_len, List.length_reverse]; try omega
              obtain ⟨PR, hPR⟩ : ∃ PR, PR = (([] : List Int) ++ dg ds.reverse ++ [46]) := ⟨_, rfl⟩
              rw [← hPR] at hprl
              have hprb : PR.length ≤ 12 := by omega
              have HPL := Lib.hid hprl
              clear hprl
              have HPR := Lib.hid hPR
              go_loopw [3, 8] (fun s3 s8 W => R3 w PR p s3 s8 W) (fun s3 _ _ => 100 - lenOf s3)
              case atStart => exact ⟨32, p, _, [], rfl, own_cast HO2.out rfl (by rw [hPR]; simp [dg]), by simp, Fits.start (by omega), by omega, HB2.out⟩
              case round =>
                obtain ⟨k, qq, m, dn, rfl, hown, hdn, hF, hk, hB⟩ := hrel
                obtain ⟨wk, rfl⟩ : ∃ wk : World, wk = wr := ⟨_, rfl⟩
                obtain ⟨A9, c9, rfl⟩ := own_shape hown
                have hml := hown.1
                simp only [List.length_map, List.length_append, dg_len, Nat.mul_one] at hml
                have HOK := Lib.hid hown
                have HBK := Lib.hid hB
                have HDN := Lib.hid hdn
                have HF := Lib.hid hF
                have hql := hF.1
                have hsk := hB.size
                have hdl : dn.length ≤ 32 := by have h := congrArg List.length hdn; rw [List.length_append] at h; omega
                have hmb : m ≤ 44 := by omega
                clear hown hB hdn hF hPR hml
                by_cases hq0 : 0 < qq
                · have hk0 : 0 < k := by
                      rcases Nat.eq_zero_or_pos k with h | h
                      · subst h; have := HF.out.zero; omega
                      · exact h
                  obtain ⟨k, rfl⟩ : ∃ k', k = k' + 1 := ⟨k - 1, by omega⟩
                  have hstep := HF.out.step
                  have hfr : fr (k + 1) qq = qq * 10 / 4294967296 :: fr k (qq * 10 % 4294967296) := by rw [fr, if_neg (by omega)]
                  have hdn2 := HDN.out
                  rw [hfr, ← List.singleton_append, ← List.append_assoc] at hdn2
                  have hdl2 : dn.length < 32 := by have h := congrArg List.length hdn2; rw [List.length_append, List.length_append] at h; simp at h; omega
                  have hmk : bits .and .u64 ((qq : Int) * 10) 4294967295 = ((qq * 10 % 4294967296 : Nat) : Int) := by have := Fx.maskN (qq * 10) (by omega); rw [Int.natCast_mul] at this; exact this
                  have hd9 : qq * 10 / 4294967296 < 10 := by omega
                  obtain ⟨y, hy⟩ : ∃ y, y = qq * 10 / 4294967296 := ⟨_, rfl⟩
                  have hyi : (qq : Int) * 10 / 4294967296 = (y : Int) := by omega
                  obtain ⟨r, hr⟩ : ∃ r, r = qq * 10 % 4294967296 := ⟨_, rfl⟩
                  rw [← hy] at hd9 hdn2
                  rw [← hr] at hmk hstep hdn2
                  have HDN2 := Lib.hid hdn2
                  have HST := Lib.hid hstep
                  clear hdn2 hstep hfr hy hr
                  go_wp2_with (at_builtin; go_loud (refine wpList_append_own_at _ rfl (.tmp 59) (.tmp 64) 49 rfl w.heap.size 5 i0 (.int .u8 0) 1 1 Try.underlying49 hi hz0 hz1 hz2 rfl (by decide) (.slice A9 m c9) m _ rfl (HOK.out.alloc _) ⟨wk.heap.size, 0, none⟩ 1 1 [.int .u8 (48 + (y : Int))] rfl rfl (cell_one_new _ _ _) (by intro u hu; simp at hu; subst hu; rfl) (by unfold maxLen; omega) (by omega) (by simp; omega) ?_); intro v5 w5 hown5 hg5 _ _; have hB5 := (HBK.out.alloc hsk (.cells #[.int .u8 (48 + (y : Int))] 5)).grown hg5 (by simp; omega) (fun j hj => (HOK.out.lt j hj).1); (obtain ⟨A5, c5, rfl⟩ := own_shape hown5); have HO5 := Lib.hid hown5; have HB5 := Lib.hid hB5; clear hown5 hg5 hB5)
                  go_roundw
                  case rel => exact ⟨k, r, m + 1, dn ++ [y], rfl, by rw [dg_snoc]; simpa [← Nat.add_assoc] using HO5.out, HDN2.out, HST.out, by omega, HB5.out⟩
                  case measure => simp [lenOf]; omega
                · obtain rfl : qq = 0 := by omega
                  have hdd : dn = fr 32 p := by have h := HDN.out; rw [fr_zero, List.append_nil] at h; exact h
                  have cv := conv_ints (P := Try.prog) (dst := 9) Try.underlying49 Try.underlying5 Try.underlying9 (Ints.own HOK.out) (own_none HOK.out).1
                  have HDD := Lib.hid hdd
                  clear hdd hq0
                  generalize hST : strOfNums (PR ++ dg dn) = st at *
                  have HSTR := Lib.hid hST
                  clear hST
                  go_wp2_with fail
                  go_ret
                  refine ⟨?_, HBK.out⟩
                  show Ending.returned (.string st) = _
                  rw [← HSTR.out]
                  exact ret_str (by rw [HPR.out, HDD.out, HDS.out]; simp [fr_zero, dg])
            · obtain rfl : p = 0 := by omega
              clear hp0
              go_wp2_with fail
              have hprl : (([] : List Int) ++ dg ds.reverse).length = (0 + ds.length) := by simp only [List.length_append, List.length_cons, List.length_nil, dg_len, List.length_reverse]; try omega
              obtain ⟨PR, hPR⟩ : ∃ PR, PR = (([] : List Int) ++ dg ds.reverse) := ⟨_, rfl⟩
              rw [← hPR] at hprl
              have hprb : PR.length ≤ 12 := by omega
              have HPL := Lib.hid hprl
              clear hprl
              have HPR := Lib.hid hPR
              go_loopw [3, 8] (fun s3 s8 W => R3 w PR 0 s3 s8 W) (fun s3 _ _ => 100 - lenOf s3)
              case atStart => exact ⟨32, 0, _, [], rfl, own_cast HRW.out rfl (by rw [hPR]; simp [dg]), by simp, Fits.start (by omega), by omega, HBJ.out⟩
              case round =>
                obtain ⟨k, qq, m, dn, rfl, hown, hdn, hF, hk, hB⟩ := hrel
                obtain ⟨wk, rfl⟩ : ∃ wk : World, wk = wr := ⟨_, rfl⟩
                obtain ⟨A9, c9, rfl⟩ := own_shape hown
                have hml := hown.1
                simp only [List.length_map, List.length_append, dg_len, Nat.mul_one] at hml
                have HOK := Lib.hid hown
                have HBK := Lib.hid hB
                have HDN := Lib.hid hdn
                have HF := Lib.hid hF
                have hql := hF.1
                have hsk := hB.size
                have hdl : dn.length ≤ 32 := by have h := congrArg List.length hdn; rw [List.length_append] at h; omega
                have hmb : m ≤ 44 := by omega
                clear hown hB hdn hF hPR hml
                by_cases hq0 : 0 < qq
                · have hk0 : 0 < k := by
                      rcases Nat.eq_zero_or_pos k with h | h
                      · subst h; have := HF.out.zero; omega
                      · exact h
                  obtain ⟨k, rfl⟩ : ∃ k', k = k' + 1 := ⟨k - 1, by omega⟩
                  have hstep := HF.out.step
                  have hfr : fr (k + 1) qq = qq * 10 / 4294967296 :: fr k (qq * 10 % 4294967296) := by rw [fr, if_neg (by omega)]
                  have hdn2 := HDN.out
                  rw [hfr, ← List.singleton_append, ← List.append_assoc] at hdn2
                  have hdl2 : dn.length < 32 := by have h := congrArg List.length hdn2; rw [List.length_append, List.length_append] at h; simp at h; omega
                  have hmk : bits .and .u64 ((qq : Int) * 10) 4294967295 = ((qq * 10 % 4294967296 : Nat) : Int) := by have := Fx.maskN (qq * 10) (by omega); rw [Int.natCast_mul] at this; exact this
                  have hd9 : qq * 10 / 4294967296 < 10 := by omega
                  obtain ⟨y, hy⟩ : ∃ y, y = qq * 10 / 4294967296 := ⟨_, rfl⟩
                  have hyi : (qq : Int) * 10 / 4294967296 = (y : Int) := by omega
                  obtain ⟨r, hr⟩ : ∃ r, r = qq * 10 % 4294967296 := ⟨_, rfl⟩
                  rw [← hy] at hd9 hdn2
                  rw [← hr] at hmk hstep hdn2
                  have HDN2 := Lib.hid hdn2
                  have HST := Lib.hid hstep
                  clear hdn2 hstep hfr hy hr
                  go_wp2_with (at_builtin; go_loud (refine wpList_append_own_at _ rfl (.tmp 59) (.tmp 64) 49 rfl w.heap.size 5 i0 (.int .u8 0) 1 1 Try.underlying49 hi hz0 hz1 hz2 rfl (by decide) (.slice A9 m c9) m _ rfl (HOK.out.alloc _) ⟨wk.heap.size, 0, none⟩ 1 1 [.int .u8 (48 + (y : Int))] rfl rfl (cell_one_new _ _ _) (by intro u hu; simp at hu; subst hu; rfl) (by unfold maxLen; omega) (by omega) (by simp; omega) ?_); intro v5 w5 hown5 hg5 _ _; have hB5 := (HBK.out.alloc hsk (.cells #[.int .u8 (48 + (y : Int))] 5)).grown hg5 (by simp; omega) (fun j hj => (HOK.out.lt j hj).1); (obtain ⟨A5, c5, rfl⟩ := own_shape hown5); have HO5 := Lib.hid hown5; have HB5 := Lib.hid hB5; clear hown5 hg5 hB5)
                  go_roundw
                  case rel => exact ⟨k, r, m + 1, dn ++ [y], rfl, by rw [dg_snoc]; simpa [← Nat.add_assoc] using HO5.out, HDN2.out, HST.out, by omega, HB5.out⟩
                  case measure => simp [lenOf]; omega
                · obtain rfl : qq = 0 := by omega
                  have hdd : dn = fr 32 0 := by have h := HDN.out; rw [fr_zero, List.append_nil] at h; exact h
                  have cv := conv_ints (P := Try.prog) (dst := 9) Try.underlying49 Try.underlying5 Try.underlying9 (Ints.own HOK.out) (own_none HOK.out).1
                  have HDD := Lib.hid hdd
                  clear hdd hq0
                  generalize hST : strOfNums (PR ++ dg dn) = st at *
                  have HSTR := Lib.hid hST
                  clear hST
                  go_wp2_with fail
                  go_ret
                  refine ⟨?_, HBK.out⟩
                  show Ending.returned (.string st) = _
                  rw [← HSTR.out]
                  exact ret_str (by rw [HPR.out, HDD.out, HDS.out]; simp [fr_zero, dg])
end Go.Proofs.Ytnhklfdchfndjaa.Tx
