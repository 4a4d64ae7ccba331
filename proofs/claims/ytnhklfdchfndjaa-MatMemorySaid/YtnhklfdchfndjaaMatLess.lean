/- mat.less: what is left of a number when products are taken away. -/
import Derived.Test.YtnhklfdchfndjaaMatMul
import Derived.Deep.AppendLies
set_option linter.unusedVariables false
namespace Go.Proofs.Ytnhklfdchfndjaa.Mt
open Go.RowKit Go.Proofs.Ytnhklfdchfndjaa Fx
attribute [local go_sem ↓] Go.wp_at_zero Go.wp_at_succ

def lessP (x y z : Int) : Int := cl (mulZ (cl (mulZ x y)) z)
/-- what is left when the first products are taken away -/
def lessZ (s : Int) (x y z : Nat → Int) : Nat → Int
  | 0 => s
  | k + 1 => cl (lessZ s x y z k - lessP (x k) (y k) (z k))
theorem lessZ_in {s : Int} (hs : In s) (x y z : Nat → Int) (k : Nat) : In (lessZ s x y z k) := by
  cases k with
  | zero => exact hs
  | succ k => exact In_cl _
theorem lessZ_congr {s : Int} {x y z x' y' z' : Nat → Int} : ∀ n : Nat, (∀ k, k < n → x k = x' k ∧ y k = y' k ∧ z k = z' k) → lessZ s x y z n = lessZ s x' y' z' n
  | 0, _ => rfl
  | n + 1, h => by
    obtain ⟨a, b, c⟩ := h n (by omega)
    unfold lessZ
    rw [lessZ_congr n (fun k hk => h k (by omega)), a, b, c]

/-- what stands in it -/
def LFr (w0 W : World) (b n : Nat) (A : Option Addr) (c : Nat) : Prop :=
  Blk W w0.heap.size 57 #[.int .i64 n, .slice A (n * n) c, .pointer (some ⟨b, 0, none⟩)] ∧ (∃ o, Blk W b 4 #[.bool o]) ∧ b < w0.heap.size ∧ w0.grownBy W (some b)
section
variable {w0 W W' : World} {b n c : Nat} {A : Option Addr} {o : Bool}
theorem LFr.see (h : LFr w0 W b n A c) (hb : Blk W' b 4 #[.bool o]) (hg : W.grownBy W' (some b)) : LFr w0 W' b n A c :=
  ⟨h.1.grown hg (by have := h.2.2.1; intro e; injection e with e; omega), ⟨o, hb⟩, h.2.2.1, grown_trans h.2.2.2 hg⟩
theorem LFr.next (h : LFr w0 W b n A c) (hb : Below W.heap.size W W') : LFr w0 W' b n A c :=
  ⟨h.1.next hb, h.2.1.imp fun _ k => k.next hb, h.2.2.1, grown_trans h.2.2.2 (grown_below hb)⟩
theorem LFr.drew (h : LFr w0 W b n A c) : LFr w0 W.drew b n A c := h.next ((Below.refl _ _).drew)
theorem LFr.cells (h : LFr w0 W b n A c) : W.cell? ⟨w0.heap.size, 0, none⟩ = some (.int .i64 n) ∧ W.cell? ⟨w0.heap.size, 1, none⟩ = some (.slice A (n * n) c) ∧ W.cell? ⟨w0.heap.size, 2, none⟩ = some (.pointer (some ⟨b, 0, none⟩)) :=
  ⟨h.1.cell 0, h.1.cell 1, h.1.cell 2⟩
theorem LFr.far (h : LFr w0 W b n A c) {g i : Nat} {v : Value} (hg : g < w0.heap.size) (hb : g ≠ b) (hc : w0.cell? ⟨g, i, none⟩ = some v) : W.cell? ⟨g, i, none⟩ = some v :=
  (h.2.2.2.cell_far ⟨g, i, none⟩ hg (by simpa using hb)).trans hc
end
/-- numbers that a mark does not hold -/
def NumsF (w : World) (b : Nat) (A : Option Addr) (m : Nat) (f : Nat → Int) : Prop := ∃ g off, A = some ⟨g, off, none⟩ ∧ g < w.heap.size ∧ g ≠ b ∧ ∀ j, j < m → w.cell? ⟨g, off + j, none⟩ = some (.int .i64 (f j))
theorem NumsF.at {w0 W : World} {b n c m : Nat} {A B : Option Addr} {f : Nat → Int} (h : NumsF w0 b B m f) (hF : LFr w0 W b n A c) : Nums W B m f := by
  obtain ⟨g, off, e, hg, hb, hc⟩ := h
  exact ⟨g, off, e, Nat.lt_of_lt_of_le hg hF.2.2.2.size, fun j hj => hF.far hg hb (hc j hj)⟩
def LRel (w0 : World) (b n : Nat) (A : Option Addr) (c : Nat) (s : Int) (x y z : Nat → Int) (upto : Nat) (sv iv : Value) (W : World) : Prop :=
  ∃ k : Nat, k ≤ upto ∧ iv = .int .i64 k ∧ sv = .int .i64 (lessZ s x y z k) ∧ LFr w0 W b n A c

set_option maxRecDepth 100000 in
set_option maxHeartbeats 4000000 in
theorem less_any (n c b i j m cD upto : Nat) (A D : Option Addr) (s : Int) (f z : Nat → Int) (o : Bool) (h6 : n ≤ 6) (hi : i < n) (hj : j < n) (hu : upto ≤ n) (hm : upto ≤ m) (w : World) (hb : Blk w b 4 #[.bool o]) (hA : NumsF w b A (n * n) f)
    (hD : 0 < upto → NumsF w b D upto z) (hs : In s) (hf : ∀ t, t < n * n → In (f t)) (hz : ∀ t, t < upto → In (z t)) :
    Calls Try.prog 30 #[workA n A (n * n) c b, .int .i64 s, .int .i64 i, .int .i64 j, .slice D m cD, .int .i64 upto] w fun e w' =>
      e = .returned (.int .i64 (lessZ s (fun k => f (i * n + k)) (fun k => f (j * n + k)) z upto)) ∧ (∃ o', Blk w' b 4 #[.bool o']) ∧ w.grownBy w' (some b) := by
  have HF0 := Lib.hid (show LFr w (w.alloc (.cells #[.int .i64 n, .slice A (n * n) c, .pointer (some ⟨b, 0, none⟩)] 57)) b n A c from
    ⟨Blk.new _ _ _, ⟨o, hb.alloc _⟩, hb.lt, grown_below ((Below.refl _ _).alloc (Nat.le_refl _) _)⟩)
  have HA := Lib.hid hA
  have HD := Lib.hid hD
  have HFI := Lib.hid hf
  have HZI := Lib.hid hz
  have HSI := Lib.hid hs
  clear hA hD hf hz hb hs
  unfold workA
  go_enter Try.func30, Try.ntmps30
  go_wp2_with fail
  go_loopw [1, 16] (fun sv iv W => LRel w b n A c s (fun k => f (i * n + k)) (fun k => f (j * n + k)) z upto sv iv W) (fun _ iv _ => upto - (intOf iv).toNat)
  case atStart => exact ⟨0, by omega, rfl, rfl, HF0.out⟩
  case round =>
    clear HF0
    obtain ⟨k, hk, rfl, rfl, hF⟩ := hrel
    by_cases hku : k < upto
    · have hkn : k < n := by omega
      obtain ⟨gD, oD, eD, hgD, hgb, hcD⟩ := HD.out (by omega)
      have hdk := hcD k hku
      have HDK := Lib.hid (fun W (hW : LFr w W b n A c) => hW.far hgD hgb hdk)
      subst eD
      have ix := HFI.out _ (idx_lt hi hkn)
      have iy := HFI.out _ (idx_lt hj hkn)
      have iz := HZI.out k hku
      have is_ := lessZ_in HSI.out (fun k => f (i * n + k)) (fun k => f (j * n + k)) z k
      have hstep : lessZ s (fun k => f (i * n + k)) (fun k => f (j * n + k)) z (k + 1) = cl (lessZ s (fun k => f (i * n + k)) (fun k => f (j * n + k)) z k - cl (mulZ (cl (mulZ (f (i * n + k)) (f (j * n + k)))) (z k))) := rfl
      have HST := Lib.hid hstep
      have ki := fun W (hW : LFr w W b n A c) => at_any n b i k c A f h6 hi hkn W (HA.out.at hW)
      have kj := fun W (hW : LFr w W b n A c) => at_any n b j k c A f h6 hj hkn W (HA.out.at hW)
      have km1 := fun W => mul_any (f (i * n + k)) (f (j * n + k)) ix iy W
      have km2 := fun W => mul_any (cl (mulZ (f (i * n + k)) (f (j * n + k)))) (z k) (In_cl _) iz W
      have ksub := fun W => sub_any (lessZ s (fun k => f (i * n + k)) (fun k => f (j * n + k)) z k) (cl (mulZ (cl (mulZ (f (i * n + k)) (f (j * n + k)))) (z k))) is_ (In_cl _) W
      simp only [Fx.res] at km1 km2 ksub
      clear hstep ix iy iz is_ hcD
      generalize lessZ s (fun k => f (i * n + k)) (fun k => f (j * n + k)) z k = sk at *
      generalize f (i * n + k) = x at *
      generalize f (j * n + k) = y at *
      generalize z k = zk at *
      generalize out (mulZ x y) = o1 at *
      generalize cl (mulZ x y) = p1 at *
      generalize out (mulZ p1 zk) = o2 at *
      generalize cl (mulZ p1 zk) = p2 at *
      generalize out (sk - p2) = o3 at *
      generalize cl (sk - p2) = s3 at *
      have ks1 := fun W o (hb : Blk W b 4 #[.bool o]) => msee_any n p1 A (n * n) c b o o1 W hb
      have ks2 := fun W o (hb : Blk W b 4 #[.bool o]) => msee_any n p2 A (n * n) c b o o2 W hb
      have ks3 := fun W o (hb : Blk W b 4 #[.bool o]) => msee_any n s3 A (n * n) c b o o3 W hb
      unfold workA at ki kj ks1 ks2 ks3
      have KI := Lib.hid ki
      have KJ := Lib.hid kj
      have KM1 := Lib.hid km1
      have KM2 := Lib.hid km2
      have KSUB := Lib.hid ksub
      have KS1 := Lib.hid ks1
      have KS2 := Lib.hid ks2
      have KS3 := Lib.hid ks3
      clear ki kj km1 km2 ksub ks1 ks2 ks3 hdk
      have z1 : (0 : Int) ≤ (k : Int) := by omega
      have z2 : (k : Int) < (m : Int) := by omega
      have z3 : (k : Int) < (upto : Int) := by omega
      have hN := hF.drew
      clear hF
      go_wp2_with fail
      go_region_held3 (fun w' => w'.cell? ⟨w.heap.size, 0, none⟩ = some (.int .i64 n) ∧ w'.cell? ⟨w.heap.size, 1, none⟩ = some (.slice A (n * n) c) ∧ w'.cell? ⟨w.heap.size, 2, none⟩ = some (.pointer (some ⟨b, 0, none⟩)) ∧ w'.cell? ⟨gD, oD + k, none⟩ = some (.int .i64 zk)) (exact ⟨hN.cells.1, hN.cells.2.1, hN.cells.2.2, HDK.out _ hN⟩) (first
        | (go_at_call 29; (with_reducible refine (KI.out _ hN).mono ?_); rintro e w4 ⟨rfl, hB4⟩; have hN4 := hN.next hB4; clear hN hB4; have hN := hN4; clear hN4)
        | (go_at_call 29; (with_reducible refine (KJ.out _ hN).mono ?_); rintro e w4 ⟨rfl, hB4⟩; have hN4 := hN.next hB4; clear hN hB4; have hN := hN4; clear hN4)
        | (go_at_call 22; (with_reducible refine (KM1.out _).mono ?_); rintro e w4 ⟨rfl, hB4⟩; have hN4 := hN.next hB4; clear hN hB4; have hN := hN4; clear hN4)
        | (go_at_call 22; (with_reducible refine (KM2.out _).mono ?_); rintro e w4 ⟨rfl, hB4⟩; have hN4 := hN.next hB4; clear hN hB4; have hN := hN4; clear hN4)
        | (go_at_call 28; obtain ⟨ob, hob⟩ := hN.2.1; (with_reducible refine (KS1.out _ _ hob).mono ?_); rintro e w4 ⟨rfl, hb4, hg4⟩; have hN4 := hN.see hb4 hg4; clear hN hb4 hg4 hob; have hN := hN4; clear hN4)
        | (go_at_call 28; obtain ⟨ob, hob⟩ := hN.2.1; (with_reducible refine (KS2.out _ _ hob).mono ?_); rintro e w4 ⟨rfl, hb4, hg4⟩; have hN4 := hN.see hb4 hg4; clear hN hb4 hg4 hob; have hN := hN4; clear hN4))
      have hM := hN.drew
      clear hN
      have hN := hM
      clear hM
      go_wp2_with fail
      go_region_held3 (fun w' => w'.cell? ⟨w.heap.size, 0, none⟩ = some (.int .i64 n) ∧ w'.cell? ⟨w.heap.size, 1, none⟩ = some (.slice A (n * n) c) ∧ w'.cell? ⟨w.heap.size, 2, none⟩ = some (.pointer (some ⟨b, 0, none⟩))) (exact hN.cells) (first
        | (go_at_call 32; (with_reducible refine (KSUB.out _).mono ?_); rintro e w4 ⟨rfl, rfl⟩)
        | (go_at_call 28; obtain ⟨ob, hob⟩ := hN.2.1; (with_reducible refine (KS3.out _ _ hob).mono ?_); rintro e w4 ⟨rfl, hb4, hg4⟩; have hN4 := hN.see hb4 hg4; clear hN hb4 hg4 hob; have hN := hN4; clear hN4))
      go_wp2_with fail
      go_roundw
      case rel => exact ⟨k + 1, by omega, by go_num, by rw [HST.out], hN⟩
      case measure => simp [intOf]; omega
    · obtain rfl : k = upto := by omega
      have HF := Lib.hid hF
      clear hF
      generalize hL : lessZ s (fun k => f (i * n + k)) (fun k => f (j * n + k)) z k = L at *
      go_wp2_with fail
      go_ret
      exact ⟨by rw [hL]; rfl, HF.out.2.1, HF.out.2.2.2⟩
end Go.Proofs.Ytnhklfdchfndjaa.Mt
