/- More on rows of the call's own. -/
import Derived.Test.YtdlcjieaoalhoaaKit
import Derived.Laws.BytesArg
set_option linter.unusedVariables false
namespace Go.Proofs.Ytdlcjieaoalhoaa
open Go.RowKit

theorem own_none {w : World} {base size n m c : Nat} {e : TypeId} {A : Option Addr} {xs : List Value} (h : w.ownsRow base e size (.slice A m c) n xs) : (A = none → m = 0 ∧ c = 0) ∧ m = n ∧ m ≤ c := by
  rcases h.2 with ⟨h1, h2⟩ | ⟨g, cap, cur, h1, _, _, h2, _⟩
  · injection h1 with a b c
    subst a b c
    exact ⟨fun _ => ⟨rfl, rfl⟩, h2.symm, Nat.le_refl _⟩
  · injection h1 with a b c
    subst a b c
    exact ⟨(fun q => by cases q), rfl, h2⟩

/-- 'string(b)' of bytes, whatever their place -/
theorem conv_ints {P : Program} {w : World} {src e dst : TypeId} (hs : P.underlying src = some (.slice e)) (he : P.underlying e = some (.int .u8)) (hd : P.underlying dst = some .string) {A : Option Addr} {n c : Nat} {zs : List Int} (h : Ints w .u8 A n zs) (hA : A = none → n = 0 ∧ c = 0) :
    (convert src dst (.slice A n c)).run P w = .ok (.string (strOfNums zs)) w := by
  by_cases hn : 0 < n
  · obtain ⟨b, off, rfl, _, hc⟩ := h.2 hn
    exact run_convert_bytes_arg w src e hs he b off n c zs h.1 hc dst hd
  · obtain rfl : n = 0 := by omega
    obtain rfl : zs = [] := List.eq_nil_of_length_eq_zero h.1
    cases A with
    | none => exact run_convert_bytes_nil w src e hs he 0 c dst hd
    | some a =>
      rw [run_convert_bytes_string w src dst e _ 0 c hs he hd]
      exact run_bytesToString w a 0 c [] (run_loadCells_list (P := P) w a [] (fun j v hj => by simp at hj))
theorem strOfNums_inj {xs ys : List Int} (hx : ∀ z ∈ xs, 0 ≤ z ∧ z ≤ 255) (hy : ∀ z ∈ ys, 0 ≤ z ∧ z ≤ 255) (h : strOfNums xs = strOfNums ys) : xs = ys := by
  have h2 : (strOfNums xs).data.toList = (strOfNums ys).data.toList := by rw [h]
  rw [strOfNums_data, strOfNums_data] at h2
  clear h
  induction xs generalizing ys with
  | nil => cases ys with
    | nil => rfl
    | cons y ys => simp at h2
  | cons x xs ih => cases ys with
    | nil => simp at h2
    | cons y ys =>
      simp only [List.map_cons, List.cons.injEq] at h2
      have h3 := congrArg UInt8.toNat h2.1
      simp only [UInt8.toNat_ofNat'] at h3
      have hx1 := hx x (by simp)
      have hy1 := hy y (by simp)
      rw [ih (fun z hz => hx z (by simp [hz])) (fun z hz => hy z (by simp [hz])) h2.2]
      congr 1
      omega
end Go.Proofs.Ytdlcjieaoalhoaa
