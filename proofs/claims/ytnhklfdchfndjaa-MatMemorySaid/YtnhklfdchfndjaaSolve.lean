/- mat.Solve: the column that a matrix times it makes another. -/
import Derived.Test.YtnhklfdchfndjaaSolFr
import Derived.Test.YtnhklfdchfndjaaMatIn
import Derived.Deep.RegionHeld3
import Derived.Deep.DrawnRows
set_option linter.unusedVariables false
namespace Go.Proofs.Ytnhklfdchfndjaa.Mt
open Go.RowKit Go.Proofs.Ytnhklfdchfndjaa Fx
attribute [local go_sem ↓] Go.wp_at_zero Go.wp_at_succ

/-- what Solve answers -/
def SolPost (n : Nat) (f bf : Nat → Int) (w : World) (e : Ending) (w' : World) : Prop :=
  ((∀ j, j < n → 0 < facD n f j) ∧ ∃ gx o X, e = .returned (.tuple #[.slice (some ⟨gx, 0, none⟩) n n, .bool o, .int .i64 0]) ∧ w.heap.size ≤ gx ∧ RowX w' gx n X ∧ Xs n (facL n f) X (divTo bf (facD n f) n) ∧ Below w.heap.size w w') ∨
  (¬ (∀ j, j < n → 0 < facD n f j)) ∧ e = .returned (.tuple #[.slice none 0 0, .bool false, .int .i64 9]) ∧ Below w.heap.size w w'

def SRel1 (w0 : World) (q g b gd gx n : Nat) (A : Option Addr) (c : Nat) (F D E : Nat → Int) (iv : Value) (W : World) : Prop :=
  ∃ (i : Nat) (X : Nat → Int), i ≤ n ∧ iv = .int .i64 i ∧ Xs n F X E ∧ SoFr w0 W q g b gd gx n A c F D X
def SRel2 (w0 : World) (q g b gd gx n : Nat) (A : Option Addr) (c : Nat) (F D E : Nat → Int) (m : Nat) (iv : Value) (W : World) : Prop :=
  ∃ (k : Nat) (X : Nat → Int), k ≤ m ∧ iv = .int .i64 k ∧ Xs n F X E ∧ SoFr w0 W q g b gd gx n A c F D X
def SRel3 (w0 : World) (q g b gd gx n : Nat) (A : Option Addr) (c : Nat) (F D bf : Nat → Int) (iv : Value) (W : World) : Prop :=
  ∃ (i : Nat) (X : Nat → Int), i ≤ n ∧ iv = .int .i64 i ∧ Xs n F X (divTo bf D i) ∧ SoFr w0 W q g b gd gx n A c F D X
def SRel4 (w0 : World) (q g b gd gx n : Nat) (A : Option Addr) (c : Nat) (F D E : Nat → Int) (iv : Value) (W : World) : Prop :=
  ∃ (i : Nat) (X : Nat → Int), i ≤ n ∧ iv = .int .i64 ((i : Int) - 1) ∧ Xs n F X E ∧ SoFr w0 W q g b gd gx n A c F D X
def SRel5 (w0 : World) (q g b gd gx n : Nat) (A : Option Addr) (c : Nat) (F D E : Nat → Int) (i : Nat) (iv : Value) (W : World) : Prop :=
  ∃ (k : Nat) (X : Nat → Int), i < k ∧ k ≤ n ∧ iv = .int .i64 k ∧ Xs n F X E ∧ SoFr w0 W q g b gd gx n A c F D X

set_option maxRecDepth 100000 in
set_option maxHeartbeats 8000000 in
theorem Solve_any (n c m : Nat) (A B : Option Addr) (f : Nat → Int) (bs : List Int) (h1 : 1 ≤ n) (h6 : n ≤ 6) (w : World) (hA : Nums w A (n * n) f) (hf : ∀ t, t < n * n → In (f t)) (hB : Ints w .i64 B n bs) (hbs : ∀ z ∈ bs, In z) :
    Calls Try.prog 13 #[.agg #[.int .i64 n, .slice A (n * n) c], .slice B n m] w (SolPost n f (fun j => bs.getD j 0) w) := by
  have hp : n * n ≤ 36 := Nat.le_trans (Nat.mul_le_mul h6 h6) (by omega)
  have kga := fun W => Good_any (n : Int) A (n * n) c W (by omega)
  rw [good_yes h1 h6] at kga
  have KGA := Lib.hid kga
  have kf := fun W (hA : Nums W A (n * n) f) => Factor_any n c A f h1 h6 W hA hf
  have KF := Lib.hid kf
  have kcl := fun W (hI : Ints W .i64 B n bs) => Clone_any B n m bs W hI h1 (by omega)
  have KCL := Lib.hid kcl
  have HA := Lib.hid (hA.below ((Below.refl w.heap.size w).alloc (Nat.le_refl _) (.cells #[.int .i64 n, .slice A (n * n) c] 30)))
  have HB := Lib.hid (hB.alloc (.cells #[.int .i64 n, .slice A (n * n) c] 30))
  have HLI := Lib.hid (facS_in hf n (Nat.le_refl _)).1
  have HDI := Lib.hid (facS_in hf n (Nat.le_refl _)).2
  have HX0 := Lib.hid (show Xs n (facL n f) (fun j => bs.getD j 0) (fun j => bs.getD j 0) from ⟨Go.Proofs.Ytnhklfdchfndjaa.Mt.getD_in hbs, fun _ _ _ => rfl⟩)
  have tn : ((n : Int) != (n : Int)) = false := by simp
  clear kga kf kcl hA hf hB hbs
  go_enter Try.func13, Try.ntmps13
  go_wp2_with fail
  refine (KGA.out _).mono ?_
  rintro e w1 ⟨rfl, hB1⟩
  have p0 := (Blk.new w 30 #[.int .i64 n, .slice A (n * n) c]).next hB1
  have b0 := below_next ((Below.refl w.heap.size w).alloc (Nat.le_refl _) (.cells #[.int .i64 n, .slice A (n * n) c] 30)) hB1
  have HA1 := Lib.hid (HA.out.below hB1)
  have HB1 := Lib.hid (HB.out.next hB1)
  have c0 := p0.cell 0
  have c1 := p0.cell 1
  simp only [List.getElem?_toArray, List.getElem?_cons_zero, List.getElem?_cons_succ] at c0 c1
  have P0 := Lib.hid p0
  have B0 := Lib.hid b0
  clear p0 b0 hB1 HA HB KGA
  go_wp2_with fail
  refine (KF.out _ HA1.out).mono ?_
  rintro e w2 hpost
  clear c0 c1
  rcases hpost with ⟨hok, g, v, o, rfl, hg, hgb, hgd, hvg, hB2⟩ | ⟨hno, rfl, hB2⟩
  rotate_left
  · have B2 := Lib.hid (below_next B0.out hB2)
    have HNO := Lib.hid hno
    clear hB2 hno B0 P0 HA1 HB1 KF KCL HX0
    go_wp2_with fail
    refine bodyPost_ret (v := .tuple #[.slice none 0 0, .bool false, .int .i64 9]) (by simp [results, Try.results13, go_sem]) rfl (.inr ⟨HNO.out, rfl, ?_⟩)
    exact (B2.out.alloc B2.out.size _).alloc (by have := B2.out.size; simp; omega) _
  · unfold matV
    obtain ⟨gd, cd, rfl, hgd0, hncd, hrow⟩ := rowX_own hgd h1
    have hrow := hrow.congr (Y := facD n f) (fun j hj => lsN_get _ hj)
    clear hgd KF HA1
    have P2 := Lib.hid (P0.out.next hB2)
    have HB2 := Lib.hid (HB1.out.next hB2)
    have B2 := Lib.hid (below_next B0.out hB2)
    have HG := Lib.hid hgb
    have HD := Lib.hid hrow
    have hg1 : w.heap.size < g := by have := P0.out.lt; omega
    have hd1 : w.heap.size < gd := by have := P0.out.lt; omega
    have hg2 : g < w2.heap.size + 1 := by have := hgb.lt; omega
    have hd2 : gd < w2.heap.size + 1 := by have := hrow.lt; omega
    have HOK := Lib.hid hok
    clear hgb hrow hok hB2 P0 B0 HB1
    go_wp2_with fail
    refine (KCL.out _ (((HB2.out.alloc _).alloc _).alloc _)).mono ?_
    rintro e w4 ⟨v', rfl, hown, hB4⟩
    obtain ⟨gx, cx, rfl, hgx, hncx, hrx⟩ := rowX_own hown h1
    simp only [World.size_alloc] at hgx
    have hB3 : Below w2.heap.size w2 (((w2.alloc (.cells #[.int .i64 n, .slice (some ⟨g, 0, none⟩) (n * n) (n * n)] 30)).alloc (.cells #[.bool o] 4)).alloc (.cells #[.int .i64 n, .slice (some ⟨g, 0, none⟩) (n * n) (n * n), .pointer (some ⟨w2.heap.size + 1, 0, none⟩)] 57)) := (((Below.refl w2.heap.size w2).alloc (Nat.le_refl _) _).alloc (by simp) _).alloc (by simp; omega) _
    have hB5 := hB3.trans (hB4.mono (by simp; omega))
    have hF : SoFr w w4 (w2.heap.size + 1 + 1) g (w2.heap.size + 1) gd gx n A c (facL n f) (facD n f) (fun j => bs.getD j 0) :=
      ⟨P2.out.next hB5, (Blk.at_ _ _ _ _ (by simp)).next hB4, HG.out.next hB5, ⟨o, ((Blk.at_ _ _ _ _ (by simp)).alloc _).next hB4⟩, HD.out.next hB5, hrx, ⟨hg1, hd1, hg2, hd2, by omega, by omega⟩, below_next B2.out hB5⟩
    have c0 := hF.n0
    have hcap : cx ≤ 9223372036854775807 := by
      rcases hown.2 with ⟨h, _⟩ | ⟨g', cap, cur, hv, _, _, _, hcm, _⟩
      · cases h
      · cases hv; unfold maxLen at hcm; omega
    generalize w2.heap.size + 1 + 1 = q at *
    generalize w2.heap.size + 1 = b at *
    have HF := Lib.hid hF
    clear hF hB5 hB3 hB4 hown hrx P2 HB2 B2 HG HD KCL hgx
    go_wp2_with fail
    go_loopw [44] (fun iv W => SRel1 w q g b gd gx n A c (facL n f) (facD n f) (fun j => bs.getD j 0) iv W) (fun iv _ => n - (intOf iv).toNat)
    case atStart => exact ⟨0, _, by omega, rfl, HX0.out, HF.out⟩
    case round =>
      clear HF HX0 c0
      obtain ⟨i, X, hi, rfl, hX, hF⟩ := hrel
      have c0 := hF.n0
      have HF := Lib.hid hF
      clear hF
      by_cases hin : i < n
      · go_wp2_with fail
        go_loopw [48] (fun kv W => SRel2 w q g b gd gx n A c (facL n f) (facD n f) (fun j => bs.getD j 0) i kv W) (fun kv _ => i - (intOf kv).toNat)
        case atStart => exact ⟨0, _, by omega, rfl, hX, HF.out⟩
        case round =>
          clear HF hX c0
          obtain ⟨k, X, hk, rfl, hX, hF⟩ := hrel
          by_cases hki : k < i
          · have hkn : k < n := by omega
            have zi0 : (0 : Int) ≤ (i : Int) := by omega
            have zi1 : (i : Int) < (n : Int) := by omega
            have zk0 : (0 : Int) ≤ (k : Int) := by omega
            have zk1 : (k : Int) < (n : Int) := by omega
            have hXn := hX.less (i := i) (k := k) (t := i * n + k) hin (fun hd => hd i k hin hkn (by omega))
            have hF0 := hF
            have kat := fun W (hW : SoFr w W q g b gd gx n A c (facL n f) (facD n f) X) => at_any n b i k (n * n) (some ⟨g, 0, none⟩) (facL n f) h6 hin hkn W hW.num
            have kmul := fun W => mul_any (facL n f (i * n + k)) (X k) (HLI.out _) (hX.1 k) W
            have ksub := fun W => sub_any (X i) (cl (mulZ (facL n f (i * n + k)) (X k))) (hX.1 i) (In_cl _) W
            simp only [Fx.res] at kmul ksub
            generalize out (mulZ (facL n f (i * n + k)) (X k)) = o1 at *
            generalize cl (mulZ (facL n f (i * n + k)) (X k)) = p at *
            generalize facL n f (i * n + k) = fv at *
            generalize out (X i - p) = o2 at *
            generalize cl (X i - p) = s at *
            have ks1 := fun W o (hb : Blk W b 4 #[.bool o]) => msee_any n p (some ⟨g, 0, none⟩) (n * n) (n * n) b o o1 W hb
            have ks2 := fun W o (hb : Blk W b 4 #[.bool o]) => msee_any n s (some ⟨g, 0, none⟩) (n * n) (n * n) b o o2 W hb
            unfold workA at kat ks1 ks2
            have KAT := Lib.hid kat
            have KMUL := Lib.hid kmul
            have KSUB := Lib.hid ksub
            have KS1 := Lib.hid ks1
            have KS2 := Lib.hid ks2
            have HXN := Lib.hid hXn
            clear kat kmul ksub ks1 ks2 hXn hX hF0
            have HF := Lib.hid hF
            clear hF
            go_wp2_with fail
            have hF := HF.out
            clear HF
            have hN := hF.drew
            clear hF
            refine wp_region_F 25 (fun w' => w'.cell? ⟨q, 0, none⟩ = some (.int .i64 n) ∧ w'.cell? ⟨q, 1, none⟩ = some (.slice (some ⟨g, 0, none⟩) (n * n) (n * n)) ∧ w'.cell? ⟨q, 2, none⟩ = some (.pointer (some ⟨b, 0, none⟩)) ∧ w'.cell? ⟨gx, i, none⟩ = some (.int .i64 (X i)) ∧ w'.cell? ⟨gx, k, none⟩ = some (.int .i64 (X k))) (by kernel_rfl) ⟨hN.cells.1, hN.cells.2.1, hN.cells.2.2, hN.x hin, hN.x hkn⟩ (fun hS => ?_)
            refine wpAnyF_take (i := 0) (v := ?_) rfl (by kernel_rfl) (by kernel_rfl) (by kernel_rfl) (by kernel_rfl) (fun _ _ _ h => h) (Or.inl ⟨by rfl, fun wx hSw => ?_⟩) hS ?_
            rotate_left
            · (try dsimp only at hSw); go_simp; (try with_reducible rfl)
            try simp only [Act.put, List.setIfInBounds_toArray, List.set_cons_zero, List.set_cons_succ]
            refine wpAnyF_take (i := 1) (v := ?_) rfl (by kernel_rfl) (by kernel_rfl) (by kernel_rfl) (by kernel_rfl) (fun _ _ _ h => h) (Or.inl ⟨by rfl, fun wx hSw => ?_⟩) hS ?_
            rotate_left
            · (try dsimp only at hSw); go_simp; (try with_reducible rfl)
            try simp only [Act.put, List.setIfInBounds_toArray, List.set_cons_zero, List.set_cons_succ]
            refine wpAnyF_take (i := 2) (v := ?_) rfl (by kernel_rfl) (by kernel_rfl) (by kernel_rfl) (by kernel_rfl) (fun _ _ _ h => h) (Or.inl ⟨by rfl, fun wx hSw => ?_⟩) hS ?_
            rotate_left
            · (try dsimp only at hSw); go_simp; (try with_reducible rfl)
            try simp only [Act.put, List.setIfInBounds_toArray, List.set_cons_zero, List.set_cons_succ]
            refine wpAnyF_take (i := 3) (v := ?_) rfl (by kernel_rfl) (by kernel_rfl) (by kernel_rfl) (by kernel_rfl) (fun _ _ _ h => h) (Or.inl ⟨by rfl, fun wx hSw => ?_⟩) hS ?_
            rotate_left
            · (try dsimp only at hSw); go_simp; (try with_reducible rfl)
            try simp only [Act.put, List.setIfInBounds_toArray, List.set_cons_zero, List.set_cons_succ]
            refine wpAnyF_take (i := 4) (v := ?_) rfl (by kernel_rfl) (by kernel_rfl) (by kernel_rfl) (by kernel_rfl) (fun _ _ _ h => h) (Or.inl ⟨by rfl, fun wx hSw => ?_⟩) hS ?_
            rotate_left
            · (try dsimp only at hSw); go_simp; (try with_reducible rfl)
            try simp only [Act.put, List.setIfInBounds_toArray, List.set_cons_zero, List.set_cons_succ]
            refine wpAnyF_take (i := 5) (v := ?_) rfl (by kernel_rfl) (by kernel_rfl) (by kernel_rfl) (by kernel_rfl) (fun _ _ _ h => h) (Or.inl ⟨by rfl, fun wx hSw => ?_⟩) hS ?_
            rotate_left
            · (try dsimp only at hSw); go_simp; (try with_reducible rfl)
            try simp only [Act.put, List.setIfInBounds_toArray, List.set_cons_zero, List.set_cons_succ]
            refine wpAnyF_take (i := 6) (v := ?_) rfl (by kernel_rfl) (by kernel_rfl) (by kernel_rfl) (by kernel_rfl) (fun _ _ _ h => h) (Or.inl ⟨by rfl, fun wx hSw => ?_⟩) hS ?_
            rotate_left
            · (try dsimp only at hSw); go_simp; (try with_reducible rfl)
            try simp only [Act.put, List.setIfInBounds_toArray, List.set_cons_zero, List.set_cons_succ]
            refine wpAnyF_take (i := 7) (v := ?_) rfl (by kernel_rfl) (by kernel_rfl) (by kernel_rfl) (by kernel_rfl) (fun _ _ _ h => h) (Or.inl ⟨by rfl, fun wx hSw => ?_⟩) hS ?_
            rotate_left
            · (try dsimp only at hSw); go_simp; (try with_reducible rfl)
            try simp only [Act.put, List.setIfInBounds_toArray, List.set_cons_zero, List.set_cons_succ]
            refine wpAnyF_take (i := 8) (v := ?_) rfl (by kernel_rfl) (by kernel_rfl) (by kernel_rfl) (by kernel_rfl) (fun _ _ _ h => h) (Or.inl ⟨by rfl, fun wx hSw => ?_⟩) hS ?_
            rotate_left
            · (try dsimp only at hSw); go_simp; (try with_reducible rfl)
            try simp only [Act.put, List.setIfInBounds_toArray, List.set_cons_zero, List.set_cons_succ]
            refine wpAnyF_take (i := 9) (v := ?_) rfl (by kernel_rfl) (by kernel_rfl) (by kernel_rfl) (by kernel_rfl) (fun _ _ _ h => h) (Or.inl ⟨by rfl, fun wx hSw => ?_⟩) hS ?_
            rotate_left
            · (try dsimp only at hSw); go_simp; (try with_reducible rfl)
            try simp only [Act.put, List.setIfInBounds_toArray, List.set_cons_zero, List.set_cons_succ]
            refine wpAnyF_take (i := 10) (v := ?_) rfl (by kernel_rfl) (by kernel_rfl) (by kernel_rfl) (by kernel_rfl) (fun _ _ _ h => h) (Or.inl ⟨by rfl, fun wx hSw => ?_⟩) hS ?_
            rotate_left
            · (try dsimp only at hSw); go_simp; (try with_reducible rfl)
            try simp only [Act.put, List.setIfInBounds_toArray, List.set_cons_zero, List.set_cons_succ]
            refine wpAnyF_take (i := 12) (v := ?_) rfl (by kernel_rfl) (by kernel_rfl) (by kernel_rfl) (by kernel_rfl) (fun _ _ _ h => h) (Or.inl ⟨by rfl, fun wx hSw => ?_⟩) hS ?_
            rotate_left
            · (try dsimp only at hSw); go_simp; (try with_reducible rfl)
            try simp only [Act.put, List.setIfInBounds_toArray, List.set_cons_zero, List.set_cons_succ]
            refine wpAnyF_take (i := 13) (v := ?_) rfl (by kernel_rfl) (by kernel_rfl) (by kernel_rfl) (by kernel_rfl) (fun _ _ _ h => h) (Or.inl ⟨by rfl, fun wx hSw => ?_⟩) hS ?_
            rotate_left
            · (try dsimp only at hSw); go_simp; (try with_reducible rfl)
            try simp only [Act.put, List.setIfInBounds_toArray, List.set_cons_zero, List.set_cons_succ]
            refine wpAnyF_take (i := 14) (v := ?_) rfl (by kernel_rfl) (by kernel_rfl) (by kernel_rfl) (by kernel_rfl) (fun _ _ _ h => h) (Or.inl ⟨by rfl, fun wx hSw => ?_⟩) hS ?_
            rotate_left
            · (try dsimp only at hSw); go_simp; (try with_reducible rfl)
            try simp only [Act.put, List.setIfInBounds_toArray, List.set_cons_zero, List.set_cons_succ]
            refine wpAnyF_take (i := 15) (v := ?_) rfl (by kernel_rfl) (by kernel_rfl) (by kernel_rfl) (by kernel_rfl) (fun _ _ _ h => h) (Or.inl ⟨by rfl, fun wx hSw => ?_⟩) hS ?_
            rotate_left
            · (try dsimp only at hSw); go_simp; (try with_reducible rfl)
            try simp only [Act.put, List.setIfInBounds_toArray, List.set_cons_zero, List.set_cons_succ]
            refine wpAnyF_one (i := 11) rfl (by kernel_rfl) (fun K hK => ?_)
            go_simp
            (with_reducible refine (KAT.out _ hN).mono ?_)
            rintro e w21 ⟨rfl, hB4⟩
            have hN4 := hN.next hB4
            clear hN hB4 hS
            have hN := hN4
            clear hN4
            have hS : (fun w' => w'.cell? ⟨q, 0, none⟩ = some (.int .i64 n) ∧ w'.cell? ⟨q, 1, none⟩ = some (.slice (some ⟨g, 0, none⟩) (n * n) (n * n)) ∧ w'.cell? ⟨q, 2, none⟩ = some (.pointer (some ⟨b, 0, none⟩)) ∧ w'.cell? ⟨gx, i, none⟩ = some (.int .i64 (X i)) ∧ w'.cell? ⟨gx, k, none⟩ = some (.int .i64 (X k))) w21 := ⟨hN.cells.1, hN.cells.2.1, hN.cells.2.2, hN.x hin, hN.x hkn⟩
            refine hK.out _ _ hS ?_
            clear hK K
            try simp only [Act.put, List.setIfInBounds_toArray, List.set_cons_zero, List.set_cons_succ]
            refine wpAnyF_one (i := 16) rfl (by kernel_rfl) (fun K hK => ?_)
            go_simp
            (with_reducible refine (KMUL.out _).mono ?_)
            rintro e w22 ⟨rfl, hB4⟩
            have hN4 := hN.next hB4
            clear hN hB4 hS
            have hN := hN4
            clear hN4
            have hS : (fun w' => w'.cell? ⟨q, 0, none⟩ = some (.int .i64 n) ∧ w'.cell? ⟨q, 1, none⟩ = some (.slice (some ⟨g, 0, none⟩) (n * n) (n * n)) ∧ w'.cell? ⟨q, 2, none⟩ = some (.pointer (some ⟨b, 0, none⟩)) ∧ w'.cell? ⟨gx, i, none⟩ = some (.int .i64 (X i)) ∧ w'.cell? ⟨gx, k, none⟩ = some (.int .i64 (X k))) w22 := ⟨hN.cells.1, hN.cells.2.1, hN.cells.2.2, hN.x hin, hN.x hkn⟩
            refine hK.out _ _ hS ?_
            clear hK K
            try simp only [Act.put, List.setIfInBounds_toArray, List.set_cons_zero, List.set_cons_succ]
            refine wpAnyF_take (i := 17) (v := ?_) rfl (by kernel_rfl) (by kernel_rfl) (by kernel_rfl) (by kernel_rfl) (fun _ _ _ h => h) (Or.inl ⟨by rfl, fun wx hSw => ?_⟩) hS ?_
            rotate_left
            · (try dsimp only at hSw); go_simp; (try with_reducible rfl)
            try simp only [Act.put, List.setIfInBounds_toArray, List.set_cons_zero, List.set_cons_succ]
            refine wpAnyF_take (i := 18) (v := ?_) rfl (by kernel_rfl) (by kernel_rfl) (by kernel_rfl) (by kernel_rfl) (fun _ _ _ h => h) (Or.inl ⟨by rfl, fun wx hSw => ?_⟩) hS ?_
            rotate_left
            · (try dsimp only at hSw); go_simp; (try with_reducible rfl)
            try simp only [Act.put, List.setIfInBounds_toArray, List.set_cons_zero, List.set_cons_succ]
            refine wpAnyF_one (i := 19) rfl (by kernel_rfl) (fun K hK => ?_)
            go_simp
            obtain ⟨ob, hob⟩ := hN.mark
            (with_reducible refine (KS1.out _ _ hob).mono ?_)
            rintro e w23 ⟨rfl, hb4, hg4⟩
            have hN4 := hN.see ⟨_, hb4⟩ hg4
            clear hN hb4 hg4 hob hS
            have hN := hN4
            clear hN4
            have hS : (fun w' => w'.cell? ⟨q, 0, none⟩ = some (.int .i64 n) ∧ w'.cell? ⟨q, 1, none⟩ = some (.slice (some ⟨g, 0, none⟩) (n * n) (n * n)) ∧ w'.cell? ⟨q, 2, none⟩ = some (.pointer (some ⟨b, 0, none⟩)) ∧ w'.cell? ⟨gx, i, none⟩ = some (.int .i64 (X i)) ∧ w'.cell? ⟨gx, k, none⟩ = some (.int .i64 (X k))) w23 := ⟨hN.cells.1, hN.cells.2.1, hN.cells.2.2, hN.x hin, hN.x hkn⟩
            refine hK.out _ _ hS ?_
            clear hK K
            try simp only [Act.put, List.setIfInBounds_toArray, List.set_cons_zero, List.set_cons_succ]
            refine wpAnyF_one (i := 20) rfl (by kernel_rfl) (fun K hK => ?_)
            go_simp
            (with_reducible refine (KSUB.out _).mono ?_)
            rintro e w24 ⟨rfl, rfl⟩
            clear hS
            have hS : (fun w' => w'.cell? ⟨q, 0, none⟩ = some (.int .i64 n) ∧ w'.cell? ⟨q, 1, none⟩ = some (.slice (some ⟨g, 0, none⟩) (n * n) (n * n)) ∧ w'.cell? ⟨q, 2, none⟩ = some (.pointer (some ⟨b, 0, none⟩)) ∧ w'.cell? ⟨gx, i, none⟩ = some (.int .i64 (X i)) ∧ w'.cell? ⟨gx, k, none⟩ = some (.int .i64 (X k))) w24 := ⟨hN.cells.1, hN.cells.2.1, hN.cells.2.2, hN.x hin, hN.x hkn⟩
            refine hK.out _ _ hS ?_
            clear hK K
            try simp only [Act.put, List.setIfInBounds_toArray, List.set_cons_zero, List.set_cons_succ]
            refine wpAnyF_take (i := 21) (v := ?_) rfl (by kernel_rfl) (by kernel_rfl) (by kernel_rfl) (by kernel_rfl) (fun _ _ _ h => h) (Or.inl ⟨by rfl, fun wx hSw => ?_⟩) hS ?_
            rotate_left
            · (try dsimp only at hSw); go_simp; (try with_reducible rfl)
            try simp only [Act.put, List.setIfInBounds_toArray, List.set_cons_zero, List.set_cons_succ]
            refine wpAnyF_take (i := 22) (v := ?_) rfl (by kernel_rfl) (by kernel_rfl) (by kernel_rfl) (by kernel_rfl) (fun _ _ _ h => h) (Or.inl ⟨by rfl, fun wx hSw => ?_⟩) hS ?_
            rotate_left
            · (try dsimp only at hSw); go_simp; (try with_reducible rfl)
            try simp only [Act.put, List.setIfInBounds_toArray, List.set_cons_zero, List.set_cons_succ]
            refine wpAnyF_one (i := 23) rfl (by kernel_rfl) (fun K hK => ?_)
            go_simp
            obtain ⟨ob, hob⟩ := hN.mark
            (with_reducible refine (KS2.out _ _ hob).mono ?_)
            rintro e w25 ⟨rfl, hb4, hg4⟩
            have hN4 := hN.see ⟨_, hb4⟩ hg4
            clear hN hb4 hg4 hob hS
            have hN := hN4
            clear hN4
            have hS : (fun w' => w'.cell? ⟨q, 0, none⟩ = some (.int .i64 n) ∧ w'.cell? ⟨q, 1, none⟩ = some (.slice (some ⟨g, 0, none⟩) (n * n) (n * n)) ∧ w'.cell? ⟨q, 2, none⟩ = some (.pointer (some ⟨b, 0, none⟩)) ∧ w'.cell? ⟨gx, i, none⟩ = some (.int .i64 (X i)) ∧ w'.cell? ⟨gx, k, none⟩ = some (.int .i64 (X k))) w25 := ⟨hN.cells.1, hN.cells.2.1, hN.cells.2.2, hN.x hin, hN.x hkn⟩
            refine hK.out _ _ hS ?_
            clear hK K
            try simp only [Act.put, List.setIfInBounds_toArray, List.set_cons_zero, List.set_cons_succ]
            refine wpAnyF_take (i := 24) (v := ?_) rfl (by kernel_rfl) (by kernel_rfl) (by kernel_rfl) (by kernel_rfl) (fun _ _ _ h => h) (Or.inl ⟨by rfl, fun wx hSw => ?_⟩) hS ?_
            rotate_left
            · (try dsimp only at hSw); go_simp; (try with_reducible rfl)
            try simp only [Act.put, List.setIfInBounds_toArray, List.set_cons_zero, List.set_cons_succ]
            clear hS
            have d0 := hN.x hin
            have f0 := hN.xf i
            have hF1 := Lib.hid (hN.set_ hin s)
            clear hN
            refine wpAnyF_last rfl (by kernel_rfl) (by kernel_rfl) (fun K hK => ?_)
            go_simp
            refine hK.out _ _ ?_
            clear hK K d0 f0
            try simp only [Act.put, List.setIfInBounds_toArray, List.set_cons_zero, List.set_cons_succ]
            go_wp2_with fail
            go_roundw
            case rel => exact ⟨k + 1, _, by omega, by go_num, HXN.out, hF1.out⟩
            case measure => simp [intOf]; omega
          · obtain rfl : k = i := by omega
            have HF := Lib.hid hF
            clear hF
            go_wp2_with fail
            go_roundw
            case rel => exact ⟨k + 1, X, by omega, by go_num, hX, HF.out⟩
            case measure => simp [intOf]; omega
      · obtain rfl : n = i := by omega
        have HX1 := Lib.hid (show Xs n (facL n f) X (divTo (fun j => bs.getD j 0) (facD n f) 0) from ⟨hX.1, fun hd j hj => by rw [hX.2 hd j hj]; simp [divTo]⟩)
        clear hX
        go_wp2_with fail
        go_loopw [80] (fun iv W => SRel3 w q g b gd gx n A c (facL n f) (facD n f) (fun j => bs.getD j 0) iv W) (fun iv _ => n - (intOf iv).toNat)
        case atStart => exact ⟨0, _, by omega, rfl, HX1.out, HF.out⟩
        case round =>
          clear HF HX1 c0
          obtain ⟨i, X, hi, rfl, hX, hF⟩ := hrel
          have c0 := hF.n0
          by_cases hin : i < n
          · have zi0 : (0 : Int) ≤ (i : Int) := by omega
            have zi1 : (i : Int) < (n : Int) := by omega
            have hXn := hX.div hin
            have kdiv := fun W => div_any (X i) (facD n f i) (hX.1 i) (HDI.out i) W
            generalize divB (X i) (facD n f i) = o1 at *
            generalize divR (X i) (facD n f i) = s at *
            have ks1 := fun W o (hb : Blk W b 4 #[.bool o]) => msee_any n s (some ⟨g, 0, none⟩) (n * n) (n * n) b o o1 W hb
            unfold workA at ks1
            have KDIV := Lib.hid kdiv
            have KS1 := Lib.hid ks1
            have HXN := Lib.hid hXn
            have HF := Lib.hid hF
            clear kdiv ks1 hXn hX hF
            go_wp2_with fail
            have hF := HF.out
            clear HF
            have hN := hF.drew
            clear hF
            refine wp_region_F 16 (fun w' => w'.cell? ⟨q, 0, none⟩ = some (.int .i64 n) ∧ w'.cell? ⟨q, 1, none⟩ = some (.slice (some ⟨g, 0, none⟩) (n * n) (n * n)) ∧ w'.cell? ⟨q, 2, none⟩ = some (.pointer (some ⟨b, 0, none⟩)) ∧ w'.cell? ⟨gx, i, none⟩ = some (.int .i64 (X i)) ∧ w'.cell? ⟨gd, i, none⟩ = some (.int .i64 (facD n f i))) (by kernel_rfl) ⟨hN.cells.1, hN.cells.2.1, hN.cells.2.2, hN.x hin, hN.d hin⟩ (fun hS => ?_)
            refine wpAnyF_take (i := 0) (v := ?_) rfl (by kernel_rfl) (by kernel_rfl) (by kernel_rfl) (by kernel_rfl) (fun _ _ _ h => h) (Or.inl ⟨by rfl, fun wx hSw => ?_⟩) hS ?_
            rotate_left
            · (try dsimp only at hSw); go_simp; (try with_reducible rfl)
            try simp only [Act.put, List.setIfInBounds_toArray, List.set_cons_zero, List.set_cons_succ]
            refine wpAnyF_take (i := 1) (v := ?_) rfl (by kernel_rfl) (by kernel_rfl) (by kernel_rfl) (by kernel_rfl) (fun _ _ _ h => h) (Or.inl ⟨by rfl, fun wx hSw => ?_⟩) hS ?_
            rotate_left
            · (try dsimp only at hSw); go_simp; (try with_reducible rfl)
            try simp only [Act.put, List.setIfInBounds_toArray, List.set_cons_zero, List.set_cons_succ]
            refine wpAnyF_take (i := 2) (v := ?_) rfl (by kernel_rfl) (by kernel_rfl) (by kernel_rfl) (by kernel_rfl) (fun _ _ _ h => h) (Or.inl ⟨by rfl, fun wx hSw => ?_⟩) hS ?_
            rotate_left
            · (try dsimp only at hSw); go_simp; (try with_reducible rfl)
            try simp only [Act.put, List.setIfInBounds_toArray, List.set_cons_zero, List.set_cons_succ]
            refine wpAnyF_take (i := 3) (v := ?_) rfl (by kernel_rfl) (by kernel_rfl) (by kernel_rfl) (by kernel_rfl) (fun _ _ _ h => h) (Or.inl ⟨by rfl, fun wx hSw => ?_⟩) hS ?_
            rotate_left
            · (try dsimp only at hSw); go_simp; (try with_reducible rfl)
            try simp only [Act.put, List.setIfInBounds_toArray, List.set_cons_zero, List.set_cons_succ]
            refine wpAnyF_take (i := 4) (v := ?_) rfl (by kernel_rfl) (by kernel_rfl) (by kernel_rfl) (by kernel_rfl) (fun _ _ _ h => h) (Or.inl ⟨by rfl, fun wx hSw => ?_⟩) hS ?_
            rotate_left
            · (try dsimp only at hSw); go_simp; (try with_reducible rfl)
            try simp only [Act.put, List.setIfInBounds_toArray, List.set_cons_zero, List.set_cons_succ]
            refine wpAnyF_take (i := 5) (v := ?_) rfl (by kernel_rfl) (by kernel_rfl) (by kernel_rfl) (by kernel_rfl) (fun _ _ _ h => h) (Or.inl ⟨by rfl, fun wx hSw => ?_⟩) hS ?_
            rotate_left
            · (try dsimp only at hSw); go_simp; (try with_reducible rfl)
            try simp only [Act.put, List.setIfInBounds_toArray, List.set_cons_zero, List.set_cons_succ]
            refine wpAnyF_take (i := 6) (v := ?_) rfl (by kernel_rfl) (by kernel_rfl) (by kernel_rfl) (by kernel_rfl) (fun _ _ _ h => h) (Or.inl ⟨by rfl, fun wx hSw => ?_⟩) hS ?_
            rotate_left
            · (try dsimp only at hSw); go_simp; (try with_reducible rfl)
            try simp only [Act.put, List.setIfInBounds_toArray, List.set_cons_zero, List.set_cons_succ]
            refine wpAnyF_take (i := 7) (v := ?_) rfl (by kernel_rfl) (by kernel_rfl) (by kernel_rfl) (by kernel_rfl) (fun _ _ _ h => h) (Or.inl ⟨by rfl, fun wx hSw => ?_⟩) hS ?_
            rotate_left
            · (try dsimp only at hSw); go_simp; (try with_reducible rfl)
            try simp only [Act.put, List.setIfInBounds_toArray, List.set_cons_zero, List.set_cons_succ]
            refine wpAnyF_take (i := 8) (v := ?_) rfl (by kernel_rfl) (by kernel_rfl) (by kernel_rfl) (by kernel_rfl) (fun _ _ _ h => h) (Or.inl ⟨by rfl, fun wx hSw => ?_⟩) hS ?_
            rotate_left
            · (try dsimp only at hSw); go_simp; (try with_reducible rfl)
            try simp only [Act.put, List.setIfInBounds_toArray, List.set_cons_zero, List.set_cons_succ]
            refine wpAnyF_take (i := 9) (v := ?_) rfl (by kernel_rfl) (by kernel_rfl) (by kernel_rfl) (by kernel_rfl) (fun _ _ _ h => h) (Or.inl ⟨by rfl, fun wx hSw => ?_⟩) hS ?_
            rotate_left
            · (try dsimp only at hSw); go_simp; (try with_reducible rfl)
            try simp only [Act.put, List.setIfInBounds_toArray, List.set_cons_zero, List.set_cons_succ]
            refine wpAnyF_take (i := 10) (v := ?_) rfl (by kernel_rfl) (by kernel_rfl) (by kernel_rfl) (by kernel_rfl) (fun _ _ _ h => h) (Or.inl ⟨by rfl, fun wx hSw => ?_⟩) hS ?_
            rotate_left
            · (try dsimp only at hSw); go_simp; (try with_reducible rfl)
            try simp only [Act.put, List.setIfInBounds_toArray, List.set_cons_zero, List.set_cons_succ]
            refine wpAnyF_one (i := 11) rfl (by kernel_rfl) (fun K hK => ?_)
            go_simp
            (with_reducible refine (KDIV.out _).mono ?_)
            rintro e w31 ⟨rfl, hB4⟩
            have hN4 := hN.next hB4
            clear hN hB4 hS
            have hN := hN4
            clear hN4
            have hS : (fun w' => w'.cell? ⟨q, 0, none⟩ = some (.int .i64 n) ∧ w'.cell? ⟨q, 1, none⟩ = some (.slice (some ⟨g, 0, none⟩) (n * n) (n * n)) ∧ w'.cell? ⟨q, 2, none⟩ = some (.pointer (some ⟨b, 0, none⟩)) ∧ w'.cell? ⟨gx, i, none⟩ = some (.int .i64 (X i)) ∧ w'.cell? ⟨gd, i, none⟩ = some (.int .i64 (facD n f i))) w31 := ⟨hN.cells.1, hN.cells.2.1, hN.cells.2.2, hN.x hin, hN.d hin⟩
            refine hK.out _ _ hS ?_
            clear hK K
            try simp only [Act.put, List.setIfInBounds_toArray, List.set_cons_zero, List.set_cons_succ]
            refine wpAnyF_take (i := 12) (v := ?_) rfl (by kernel_rfl) (by kernel_rfl) (by kernel_rfl) (by kernel_rfl) (fun _ _ _ h => h) (Or.inl ⟨by rfl, fun wx hSw => ?_⟩) hS ?_
            rotate_left
            · (try dsimp only at hSw); go_simp; (try with_reducible rfl)
            try simp only [Act.put, List.setIfInBounds_toArray, List.set_cons_zero, List.set_cons_succ]
            refine wpAnyF_take (i := 13) (v := ?_) rfl (by kernel_rfl) (by kernel_rfl) (by kernel_rfl) (by kernel_rfl) (fun _ _ _ h => h) (Or.inl ⟨by rfl, fun wx hSw => ?_⟩) hS ?_
            rotate_left
            · (try dsimp only at hSw); go_simp; (try with_reducible rfl)
            try simp only [Act.put, List.setIfInBounds_toArray, List.set_cons_zero, List.set_cons_succ]
            refine wpAnyF_one (i := 14) rfl (by kernel_rfl) (fun K hK => ?_)
            go_simp
            obtain ⟨ob, hob⟩ := hN.mark
            (with_reducible refine (KS1.out _ _ hob).mono ?_)
            rintro e w32 ⟨rfl, hb4, hg4⟩
            have hN4 := hN.see ⟨_, hb4⟩ hg4
            clear hN hb4 hg4 hob hS
            have hN := hN4
            clear hN4
            have hS : (fun w' => w'.cell? ⟨q, 0, none⟩ = some (.int .i64 n) ∧ w'.cell? ⟨q, 1, none⟩ = some (.slice (some ⟨g, 0, none⟩) (n * n) (n * n)) ∧ w'.cell? ⟨q, 2, none⟩ = some (.pointer (some ⟨b, 0, none⟩)) ∧ w'.cell? ⟨gx, i, none⟩ = some (.int .i64 (X i)) ∧ w'.cell? ⟨gd, i, none⟩ = some (.int .i64 (facD n f i))) w32 := ⟨hN.cells.1, hN.cells.2.1, hN.cells.2.2, hN.x hin, hN.d hin⟩
            refine hK.out _ _ hS ?_
            clear hK K
            try simp only [Act.put, List.setIfInBounds_toArray, List.set_cons_zero, List.set_cons_succ]
            refine wpAnyF_take (i := 15) (v := ?_) rfl (by kernel_rfl) (by kernel_rfl) (by kernel_rfl) (by kernel_rfl) (fun _ _ _ h => h) (Or.inl ⟨by rfl, fun wx hSw => ?_⟩) hS ?_
            rotate_left
            · (try dsimp only at hSw); go_simp; (try with_reducible rfl)
            try simp only [Act.put, List.setIfInBounds_toArray, List.set_cons_zero, List.set_cons_succ]
            clear hS
            have d0 := hN.x hin
            have f0 := hN.xf i
            have hF1 := Lib.hid (hN.set_ hin s)
            clear hN
            refine wpAnyF_last rfl (by kernel_rfl) (by kernel_rfl) (fun K hK => ?_)
            go_simp
            refine hK.out _ _ ?_
            clear hK K d0 f0
            try simp only [Act.put, List.setIfInBounds_toArray, List.set_cons_zero, List.set_cons_succ]
            go_wp2_with fail
            go_roundw
            case rel => exact ⟨i + 1, _, by omega, by go_num, HXN.out, hF1.out⟩
            case measure => simp [intOf]; omega
          · obtain rfl : n = i := by omega
            have HX := Lib.hid hX
            have HF := Lib.hid hF
            clear hX hF
            have en : ((n : Int) - 1) = ((n : Int) - 1) := rfl
            go_wp2_with fail
            go_loopw [16] (fun iv W => SRel4 w q g b gd gx n A c (facL n f) (facD n f) (divTo (fun j => bs.getD j 0) (facD n f) n) iv W) (fun iv _ => (intOf iv + 1).toNat)
            case atStart => exact ⟨n, _, by omega, rfl, HX.out, HF.out⟩
            case round =>
              clear HF HX c0
              obtain ⟨i, X, hi, rfl, hX, hF⟩ := hrel
              have c0 := hF.n0
              have HF := Lib.hid hF
              clear hF
              by_cases h0 : 0 < i
              · obtain ⟨i, rfl⟩ : ∃ j, i = j + 1 := ⟨i - 1, by omega⟩
                have hin : i < n := by omega
                have ei : (((i + 1 : Nat) : Int) - 1) = (i : Int) := by push_cast; omega
                rw [ei]
                have zi2 : (0 : Int) ≤ (i : Int) := by omega
                go_wp2_with fail
                go_loopw [17] (fun kv W => SRel5 w q g b gd gx n A c (facL n f) (facD n f) (divTo (fun j => bs.getD j 0) (facD n f) n) i kv W) (fun kv _ => n - (intOf kv).toNat)
                case atStart => exact ⟨i + 1, _, by omega, by omega, by go_num, hX, HF.out⟩
                case round =>
                  clear HF hX c0
                  obtain ⟨k, X, hik, hk, rfl, hX, hF⟩ := hrel
                  have c0 := hF.n0
                  by_cases hkn : k < n
                  · clear zi2
                    have zi0 : (0 : Int) ≤ (i : Int) := by omega
                    have zi1 : (i : Int) < (n : Int) := by omega
                    have zk0 : (0 : Int) ≤ (k : Int) := by omega
                    have zk1 : (k : Int) < (n : Int) := by omega
                    have hXn := hX.less (i := i) (k := k) (t := k * n + i) hin (fun hd => hd k i hkn hin (by omega))
                    have hF0 := hF
                    have kat := fun W (hW : SoFr w W q g b gd gx n A c (facL n f) (facD n f) X) => at_any n b k i (n * n) (some ⟨g, 0, none⟩) (facL n f) h6 hkn hin W hW.num
                    have kmul := fun W => mul_any (facL n f (k * n + i)) (X k) (HLI.out _) (hX.1 k) W
                    have ksub := fun W => sub_any (X i) (cl (mulZ (facL n f (k * n + i)) (X k))) (hX.1 i) (In_cl _) W
                    simp only [Fx.res] at kmul ksub
                    generalize out (mulZ (facL n f (k * n + i)) (X k)) = o1 at *
                    generalize cl (mulZ (facL n f (k * n + i)) (X k)) = p at *
                    generalize facL n f (k * n + i) = fv at *
                    generalize out (X i - p) = o2 at *
                    generalize cl (X i - p) = s at *
                    have ks1 := fun W o (hb : Blk W b 4 #[.bool o]) => msee_any n p (some ⟨g, 0, none⟩) (n * n) (n * n) b o o1 W hb
                    have ks2 := fun W o (hb : Blk W b 4 #[.bool o]) => msee_any n s (some ⟨g, 0, none⟩) (n * n) (n * n) b o o2 W hb
                    unfold workA at kat ks1 ks2
                    have KAT := Lib.hid kat
                    have KMUL := Lib.hid kmul
                    have KSUB := Lib.hid ksub
                    have KS1 := Lib.hid ks1
                    have KS2 := Lib.hid ks2
                    have HXN := Lib.hid hXn
                    clear kat kmul ksub ks1 ks2 hXn hX hF0
                    have HF := Lib.hid hF
                    clear hF
                    go_wp2_with fail
                    have hF := HF.out
                    clear HF
                    have hN := hF.drew
                    clear hF
                    refine wp_region_F 25 (fun w' => w'.cell? ⟨q, 0, none⟩ = some (.int .i64 n) ∧ w'.cell? ⟨q, 1, none⟩ = some (.slice (some ⟨g, 0, none⟩) (n * n) (n * n)) ∧ w'.cell? ⟨q, 2, none⟩ = some (.pointer (some ⟨b, 0, none⟩)) ∧ w'.cell? ⟨gx, i, none⟩ = some (.int .i64 (X i)) ∧ w'.cell? ⟨gx, k, none⟩ = some (.int .i64 (X k))) (by kernel_rfl) ⟨hN.cells.1, hN.cells.2.1, hN.cells.2.2, hN.x hin, hN.x hkn⟩ (fun hS => ?_)
                    refine wpAnyF_take (i := 0) (v := ?_) rfl (by kernel_rfl) (by kernel_rfl) (by kernel_rfl) (by kernel_rfl) (fun _ _ _ h => h) (Or.inl ⟨by rfl, fun wx hSw => ?_⟩) hS ?_
                    rotate_left
                    · (try dsimp only at hSw); go_simp; (try with_reducible rfl)
                    try simp only [Act.put, List.setIfInBounds_toArray, List.set_cons_zero, List.set_cons_succ]
                    refine wpAnyF_take (i := 1) (v := ?_) rfl (by kernel_rfl) (by kernel_rfl) (by kernel_rfl) (by kernel_rfl) (fun _ _ _ h => h) (Or.inl ⟨by rfl, fun wx hSw => ?_⟩) hS ?_
                    rotate_left
                    · (try dsimp only at hSw); go_simp; (try with_reducible rfl)
                    try simp only [Act.put, List.setIfInBounds_toArray, List.set_cons_zero, List.set_cons_succ]
                    refine wpAnyF_take (i := 2) (v := ?_) rfl (by kernel_rfl) (by kernel_rfl) (by kernel_rfl) (by kernel_rfl) (fun _ _ _ h => h) (Or.inl ⟨by rfl, fun wx hSw => ?_⟩) hS ?_
                    rotate_left
                    · (try dsimp only at hSw); go_simp; (try with_reducible rfl)
                    try simp only [Act.put, List.setIfInBounds_toArray, List.set_cons_zero, List.set_cons_succ]
                    refine wpAnyF_take (i := 3) (v := ?_) rfl (by kernel_rfl) (by kernel_rfl) (by kernel_rfl) (by kernel_rfl) (fun _ _ _ h => h) (Or.inl ⟨by rfl, fun wx hSw => ?_⟩) hS ?_
                    rotate_left
                    · (try dsimp only at hSw); go_simp; (try with_reducible rfl)
                    try simp only [Act.put, List.setIfInBounds_toArray, List.set_cons_zero, List.set_cons_succ]
                    refine wpAnyF_take (i := 4) (v := ?_) rfl (by kernel_rfl) (by kernel_rfl) (by kernel_rfl) (by kernel_rfl) (fun _ _ _ h => h) (Or.inl ⟨by rfl, fun wx hSw => ?_⟩) hS ?_
                    rotate_left
                    · (try dsimp only at hSw); go_simp; (try with_reducible rfl)
                    try simp only [Act.put, List.setIfInBounds_toArray, List.set_cons_zero, List.set_cons_succ]
                    refine wpAnyF_take (i := 5) (v := ?_) rfl (by kernel_rfl) (by kernel_rfl) (by kernel_rfl) (by kernel_rfl) (fun _ _ _ h => h) (Or.inl ⟨by rfl, fun wx hSw => ?_⟩) hS ?_
                    rotate_left
                    · (try dsimp only at hSw); go_simp; (try with_reducible rfl)
                    try simp only [Act.put, List.setIfInBounds_toArray, List.set_cons_zero, List.set_cons_succ]
                    refine wpAnyF_take (i := 6) (v := ?_) rfl (by kernel_rfl) (by kernel_rfl) (by kernel_rfl) (by kernel_rfl) (fun _ _ _ h => h) (Or.inl ⟨by rfl, fun wx hSw => ?_⟩) hS ?_
                    rotate_left
                    · (try dsimp only at hSw); go_simp; (try with_reducible rfl)
                    try simp only [Act.put, List.setIfInBounds_toArray, List.set_cons_zero, List.set_cons_succ]
                    refine wpAnyF_take (i := 7) (v := ?_) rfl (by kernel_rfl) (by kernel_rfl) (by kernel_rfl) (by kernel_rfl) (fun _ _ _ h => h) (Or.inl ⟨by rfl, fun wx hSw => ?_⟩) hS ?_
                    rotate_left
                    · (try dsimp only at hSw); go_simp; (try with_reducible rfl)
                    try simp only [Act.put, List.setIfInBounds_toArray, List.set_cons_zero, List.set_cons_succ]
                    refine wpAnyF_take (i := 8) (v := ?_) rfl (by kernel_rfl) (by kernel_rfl) (by kernel_rfl) (by kernel_rfl) (fun _ _ _ h => h) (Or.inl ⟨by rfl, fun wx hSw => ?_⟩) hS ?_
                    rotate_left
                    · (try dsimp only at hSw); go_simp; (try with_reducible rfl)
                    try simp only [Act.put, List.setIfInBounds_toArray, List.set_cons_zero, List.set_cons_succ]
                    refine wpAnyF_take (i := 9) (v := ?_) rfl (by kernel_rfl) (by kernel_rfl) (by kernel_rfl) (by kernel_rfl) (fun _ _ _ h => h) (Or.inl ⟨by rfl, fun wx hSw => ?_⟩) hS ?_
                    rotate_left
                    · (try dsimp only at hSw); go_simp; (try with_reducible rfl)
                    try simp only [Act.put, List.setIfInBounds_toArray, List.set_cons_zero, List.set_cons_succ]
                    refine wpAnyF_take (i := 10) (v := ?_) rfl (by kernel_rfl) (by kernel_rfl) (by kernel_rfl) (by kernel_rfl) (fun _ _ _ h => h) (Or.inl ⟨by rfl, fun wx hSw => ?_⟩) hS ?_
                    rotate_left
                    · (try dsimp only at hSw); go_simp; (try with_reducible rfl)
                    try simp only [Act.put, List.setIfInBounds_toArray, List.set_cons_zero, List.set_cons_succ]
                    refine wpAnyF_take (i := 12) (v := ?_) rfl (by kernel_rfl) (by kernel_rfl) (by kernel_rfl) (by kernel_rfl) (fun _ _ _ h => h) (Or.inl ⟨by rfl, fun wx hSw => ?_⟩) hS ?_
                    rotate_left
                    · (try dsimp only at hSw); go_simp; (try with_reducible rfl)
                    try simp only [Act.put, List.setIfInBounds_toArray, List.set_cons_zero, List.set_cons_succ]
                    refine wpAnyF_take (i := 13) (v := ?_) rfl (by kernel_rfl) (by kernel_rfl) (by kernel_rfl) (by kernel_rfl) (fun _ _ _ h => h) (Or.inl ⟨by rfl, fun wx hSw => ?_⟩) hS ?_
                    rotate_left
                    · (try dsimp only at hSw); go_simp; (try with_reducible rfl)
                    try simp only [Act.put, List.setIfInBounds_toArray, List.set_cons_zero, List.set_cons_succ]
                    refine wpAnyF_take (i := 14) (v := ?_) rfl (by kernel_rfl) (by kernel_rfl) (by kernel_rfl) (by kernel_rfl) (fun _ _ _ h => h) (Or.inl ⟨by rfl, fun wx hSw => ?_⟩) hS ?_
                    rotate_left
                    · (try dsimp only at hSw); go_simp; (try with_reducible rfl)
                    try simp only [Act.put, List.setIfInBounds_toArray, List.set_cons_zero, List.set_cons_succ]
                    refine wpAnyF_take (i := 15) (v := ?_) rfl (by kernel_rfl) (by kernel_rfl) (by kernel_rfl) (by kernel_rfl) (fun _ _ _ h => h) (Or.inl ⟨by rfl, fun wx hSw => ?_⟩) hS ?_
                    rotate_left
                    · (try dsimp only at hSw); go_simp; (try with_reducible rfl)
                    try simp only [Act.put, List.setIfInBounds_toArray, List.set_cons_zero, List.set_cons_succ]
                    refine wpAnyF_one (i := 11) rfl (by kernel_rfl) (fun K hK => ?_)
                    go_simp
                    (with_reducible refine (KAT.out _ hN).mono ?_)
                    rintro e w21 ⟨rfl, hB4⟩
                    have hN4 := hN.next hB4
                    clear hN hB4 hS
                    have hN := hN4
                    clear hN4
                    have hS : (fun w' => w'.cell? ⟨q, 0, none⟩ = some (.int .i64 n) ∧ w'.cell? ⟨q, 1, none⟩ = some (.slice (some ⟨g, 0, none⟩) (n * n) (n * n)) ∧ w'.cell? ⟨q, 2, none⟩ = some (.pointer (some ⟨b, 0, none⟩)) ∧ w'.cell? ⟨gx, i, none⟩ = some (.int .i64 (X i)) ∧ w'.cell? ⟨gx, k, none⟩ = some (.int .i64 (X k))) w21 := ⟨hN.cells.1, hN.cells.2.1, hN.cells.2.2, hN.x hin, hN.x hkn⟩
                    refine hK.out _ _ hS ?_
                    clear hK K
                    try simp only [Act.put, List.setIfInBounds_toArray, List.set_cons_zero, List.set_cons_succ]
                    refine wpAnyF_one (i := 16) rfl (by kernel_rfl) (fun K hK => ?_)
                    go_simp
                    (with_reducible refine (KMUL.out _).mono ?_)
                    rintro e w22 ⟨rfl, hB4⟩
                    have hN4 := hN.next hB4
                    clear hN hB4 hS
                    have hN := hN4
                    clear hN4
                    have hS : (fun w' => w'.cell? ⟨q, 0, none⟩ = some (.int .i64 n) ∧ w'.cell? ⟨q, 1, none⟩ = some (.slice (some ⟨g, 0, none⟩) (n * n) (n * n)) ∧ w'.cell? ⟨q, 2, none⟩ = some (.pointer (some ⟨b, 0, none⟩)) ∧ w'.cell? ⟨gx, i, none⟩ = some (.int .i64 (X i)) ∧ w'.cell? ⟨gx, k, none⟩ = some (.int .i64 (X k))) w22 := ⟨hN.cells.1, hN.cells.2.1, hN.cells.2.2, hN.x hin, hN.x hkn⟩
                    refine hK.out _ _ hS ?_
                    clear hK K
                    try simp only [Act.put, List.setIfInBounds_toArray, List.set_cons_zero, List.set_cons_succ]
                    refine wpAnyF_take (i := 17) (v := ?_) rfl (by kernel_rfl) (by kernel_rfl) (by kernel_rfl) (by kernel_rfl) (fun _ _ _ h => h) (Or.inl ⟨by rfl, fun wx hSw => ?_⟩) hS ?_
                    rotate_left
                    · (try dsimp only at hSw); go_simp; (try with_reducible rfl)
                    try simp only [Act.put, List.setIfInBounds_toArray, List.set_cons_zero, List.set_cons_succ]
                    refine wpAnyF_take (i := 18) (v := ?_) rfl (by kernel_rfl) (by kernel_rfl) (by kernel_rfl) (by kernel_rfl) (fun _ _ _ h => h) (Or.inl ⟨by rfl, fun wx hSw => ?_⟩) hS ?_
                    rotate_left
                    · (try dsimp only at hSw); go_simp; (try with_reducible rfl)
                    try simp only [Act.put, List.setIfInBounds_toArray, List.set_cons_zero, List.set_cons_succ]
                    refine wpAnyF_one (i := 19) rfl (by kernel_rfl) (fun K hK => ?_)
                    go_simp
                    obtain ⟨ob, hob⟩ := hN.mark
                    (with_reducible refine (KS1.out _ _ hob).mono ?_)
                    rintro e w23 ⟨rfl, hb4, hg4⟩
                    have hN4 := hN.see ⟨_, hb4⟩ hg4
                    clear hN hb4 hg4 hob hS
                    have hN := hN4
                    clear hN4
                    have hS : (fun w' => w'.cell? ⟨q, 0, none⟩ = some (.int .i64 n) ∧ w'.cell? ⟨q, 1, none⟩ = some (.slice (some ⟨g, 0, none⟩) (n * n) (n * n)) ∧ w'.cell? ⟨q, 2, none⟩ = some (.pointer (some ⟨b, 0, none⟩)) ∧ w'.cell? ⟨gx, i, none⟩ = some (.int .i64 (X i)) ∧ w'.cell? ⟨gx, k, none⟩ = some (.int .i64 (X k))) w23 := ⟨hN.cells.1, hN.cells.2.1, hN.cells.2.2, hN.x hin, hN.x hkn⟩
                    refine hK.out _ _ hS ?_
                    clear hK K
                    try simp only [Act.put, List.setIfInBounds_toArray, List.set_cons_zero, List.set_cons_succ]
                    refine wpAnyF_one (i := 20) rfl (by kernel_rfl) (fun K hK => ?_)
                    go_simp
                    (with_reducible refine (KSUB.out _).mono ?_)
                    rintro e w24 ⟨rfl, rfl⟩
                    clear hS
                    have hS : (fun w' => w'.cell? ⟨q, 0, none⟩ = some (.int .i64 n) ∧ w'.cell? ⟨q, 1, none⟩ = some (.slice (some ⟨g, 0, none⟩) (n * n) (n * n)) ∧ w'.cell? ⟨q, 2, none⟩ = some (.pointer (some ⟨b, 0, none⟩)) ∧ w'.cell? ⟨gx, i, none⟩ = some (.int .i64 (X i)) ∧ w'.cell? ⟨gx, k, none⟩ = some (.int .i64 (X k))) w24 := ⟨hN.cells.1, hN.cells.2.1, hN.cells.2.2, hN.x hin, hN.x hkn⟩
                    refine hK.out _ _ hS ?_
                    clear hK K
                    try simp only [Act.put, List.setIfInBounds_toArray, List.set_cons_zero, List.set_cons_succ]
                    refine wpAnyF_take (i := 21) (v := ?_) rfl (by kernel_rfl) (by kernel_rfl) (by kernel_rfl) (by kernel_rfl) (fun _ _ _ h => h) (Or.inl ⟨by rfl, fun wx hSw => ?_⟩) hS ?_
                    rotate_left
                    · (try dsimp only at hSw); go_simp; (try with_reducible rfl)
                    try simp only [Act.put, List.setIfInBounds_toArray, List.set_cons_zero, List.set_cons_succ]
                    refine wpAnyF_take (i := 22) (v := ?_) rfl (by kernel_rfl) (by kernel_rfl) (by kernel_rfl) (by kernel_rfl) (fun _ _ _ h => h) (Or.inl ⟨by rfl, fun wx hSw => ?_⟩) hS ?_
                    rotate_left
                    · (try dsimp only at hSw); go_simp; (try with_reducible rfl)
                    try simp only [Act.put, List.setIfInBounds_toArray, List.set_cons_zero, List.set_cons_succ]
                    refine wpAnyF_one (i := 23) rfl (by kernel_rfl) (fun K hK => ?_)
                    go_simp
                    obtain ⟨ob, hob⟩ := hN.mark
                    (with_reducible refine (KS2.out _ _ hob).mono ?_)
                    rintro e w25 ⟨rfl, hb4, hg4⟩
                    have hN4 := hN.see ⟨_, hb4⟩ hg4
                    clear hN hb4 hg4 hob hS
                    have hN := hN4
                    clear hN4
                    have hS : (fun w' => w'.cell? ⟨q, 0, none⟩ = some (.int .i64 n) ∧ w'.cell? ⟨q, 1, none⟩ = some (.slice (some ⟨g, 0, none⟩) (n * n) (n * n)) ∧ w'.cell? ⟨q, 2, none⟩ = some (.pointer (some ⟨b, 0, none⟩)) ∧ w'.cell? ⟨gx, i, none⟩ = some (.int .i64 (X i)) ∧ w'.cell? ⟨gx, k, none⟩ = some (.int .i64 (X k))) w25 := ⟨hN.cells.1, hN.cells.2.1, hN.cells.2.2, hN.x hin, hN.x hkn⟩
                    refine hK.out _ _ hS ?_
                    clear hK K
                    try simp only [Act.put, List.setIfInBounds_toArray, List.set_cons_zero, List.set_cons_succ]
                    refine wpAnyF_take (i := 24) (v := ?_) rfl (by kernel_rfl) (by kernel_rfl) (by kernel_rfl) (by kernel_rfl) (fun _ _ _ h => h) (Or.inl ⟨by rfl, fun wx hSw => ?_⟩) hS ?_
                    rotate_left
                    · (try dsimp only at hSw); go_simp; (try with_reducible rfl)
                    try simp only [Act.put, List.setIfInBounds_toArray, List.set_cons_zero, List.set_cons_succ]
                    clear hS
                    have d0 := hN.x hin
                    have f0 := hN.xf i
                    have hF1 := Lib.hid (hN.set_ hin s)
                    clear hN
                    refine wpAnyF_last rfl (by kernel_rfl) (by kernel_rfl) (fun K hK => ?_)
                    go_simp
                    refine hK.out _ _ ?_
                    clear hK K d0 f0
                    try simp only [Act.put, List.setIfInBounds_toArray, List.set_cons_zero, List.set_cons_succ]
                    go_wp2_with fail
                    go_roundw
                    case rel => exact ⟨k + 1, _, by omega, by omega, by go_num, HXN.out, hF1.out⟩
                    case measure => simp [intOf]; omega
                  · obtain rfl : n = k := by omega
                    have HF := Lib.hid hF
                    clear hF
                    go_wp2_with fail
                    go_roundw
                    case rel => exact ⟨i, X, by omega, by go_num, hX, HF.out⟩
                    case measure => (simp [intOf]; try omega)
              · obtain rfl : i = 0 := by omega
                have kc := fun W => Clip_any (some ⟨gx, 0, none⟩) n cx hncx hcap h1 (by simp) W
                have KC := Lib.hid kc
                obtain ⟨ob, hob⟩ := HF.out.mark
                have d0 := hob.cell 0
                simp only [List.getElem?_toArray, List.getElem?_cons_zero] at d0
                clear kc hob
                go_wp2_with fail
                have hF := HF.out.drew
                go_region_held3 (fun w' => w'.cell? ⟨b, 0, none⟩ = some (.bool ob)) (exact d0) ((go_at_call 33; (with_reducible refine (KC.out _).mono ?_); rintro e w9 ⟨rfl, rfl⟩))
                go_wp2_with fail
                refine bodyPost_ret (v := .tuple #[.slice (some ⟨gx, 0, none⟩) n n, .bool ob, .int .i64 0]) (by simp [results, Try.results13, go_sem]) rfl (.inl ⟨HOK.out, gx, ob, X, rfl, by have := hF.2.2.2.2.2.2.1; omega, hF.2.2.2.2.2.1, hX, hF.2.2.2.2.2.2.2⟩)
end Go.Proofs.Ytnhklfdchfndjaa.Mt
