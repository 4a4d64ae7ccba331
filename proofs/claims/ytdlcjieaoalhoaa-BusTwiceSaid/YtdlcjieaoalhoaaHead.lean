/- What the closing theorem asks of the program's head (its sum and its roots' names), word by word: the head is never cut into words in the kernel. -/
import Derived.WalkKit
import Derived.ProofKit
set_option linter.unusedVariables false
namespace Go.Proofs.Ytdlcjieaoalhoaa.head
def joinSp : List (List Char) → List Char
  | [] => []
  | [w] => w
  | w :: v :: r => w ++ (Char.ofNat 32) :: joinSp (v :: r)
theorem words_one : ∀ w : List Char, w.contains (Char.ofNat 32) = false → wordsSigns w = [w]
  | [], _ => rfl
  | c :: r, h => by
    simp only [List.contains_cons, Bool.or_eq_false_iff] at h
    have hc : c ≠ (Char.ofNat 32) := by intro e; subst e; simp at h
    have ih := words_one r h.2
    rw [wordsSigns, ih]
    intro e; exact hc e
theorem words_more : ∀ (w r : List Char), w.contains (Char.ofNat 32) = false → wordsSigns (w ++ (Char.ofNat 32) :: r) = w :: wordsSigns r
  | [], r, _ => by rw [List.nil_append, wordsSigns]
  | c :: w, r, h => by
    simp only [List.contains_cons, Bool.or_eq_false_iff] at h
    have hc : c ≠ (Char.ofNat 32) := by intro e; subst e; simp at h
    have ih := words_more w r h.2
    rw [List.cons_append, wordsSigns, ih]
    intro e; exact hc e
theorem words_join : ∀ ws : List (List Char), ws ≠ [] → ws.all (fun w => !w.contains (Char.ofNat 32)) = true → wordsSigns (joinSp ws) = ws
  | [], h, _ => absurd rfl h
  | [w], _, h => by
    simp only [List.all_cons, List.all_nil, Bool.and_true, Bool.not_eq_true'] at h
    exact words_one w h
  | w :: v :: r, _, h => by
    rw [List.all_cons, Bool.and_eq_true, Bool.not_eq_true'] at h
    rw [joinSp, words_more w _ h.1, words_join (v :: r) (by simp) h.2]
theorem words_of {P : Program} {ws : List (List Char)} (hi : P.initOrder = String.ofList (joinSp ws)) (hn : ws ≠ []) (hw : ws.all (fun w => !w.contains (Char.ofNat 32)) = true) : wordsSigns P.initOrder.toList = ws := by
  rw [hi, String.toList_ofList, words_join ws hn hw]
section
variable {P : Program} {ws rest r : List (List Char)}
theorem enter_of (h : wordsSigns P.initOrder.toList = ws) (hb : behindMainWord ws = "cut".toList :: rest) (hs : stripLifts liftWords ("cut".toList :: rest) = ([], "cut".toList :: r))
    (hl : P.laysLater = false) (hr : P.bearsReflect = false) (hd : P.doorFits [] = true) : P.mayEnter = true := by
  unfold Program.mayEnter
  rw [h, hb]
  simp only [hs, hl, hr, hd]
  simp
theorem lift_of (h : wordsSigns P.initOrder.toList = ws) (hb : behindMainWord ws = "cut".toList :: rest) (hs : stripLifts liftWords ("cut".toList :: rest) = ([], "cut".toList :: r)) : P.liftsFinal = false := by
  unfold Program.liftsFinal Program.headLifts
  rw [h, hb]
  simp only [hs]
  simp
theorem make_of (h : wordsSigns P.initOrder.toList = ws) (hb : behindMainWord ws = "cut".toList :: rest) : P.make = some .cut := by
  unfold Program.make
  rw [h, hb]
  simp
end
end Go.Proofs.Ytdlcjieaoalhoaa.head
