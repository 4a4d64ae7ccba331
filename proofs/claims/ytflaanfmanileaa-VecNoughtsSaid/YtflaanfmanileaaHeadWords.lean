/- The program's head, word by word; what the closing theorems ask of it. -/
import Derived.Test.YtflaanfmanileaaHead
import Derived.Test.YtflaanfmanileaaRows
set_option linter.unusedVariables false
namespace Go.Proofs.Ytflaanfmanileaa.head
set_option maxRecDepth 100000 in
def words : List (List Char) := [['h', 'a', 'r', 'n', 'e', 's', 's'],
  ['2', '6', 'b', 'd', 'c', '6', '1', '9', '6', '3', '6', '4', '3', '7', 'f', 'c', 'c', 'b', '7', '2', '7', 'd', 'd', 'a', 'e', '1', 'e', '2', 'f', '7', '2', 'e', 'e', '5', '8', 'f', 'f', '6', '6', '6', '7', 'f', '0', '9', '0', '8', 'd', 'b', 'd', 'd', '1', '5', '9', 'e', '4', 'd', 'b', 'c', '5', '3', '4', '3', 'e', '1'],
  ['c', 'u', 't'],
  ['a', 't'],
  ['f', 'o', 'u', 'r', 'w', 'a', 't', 'c', 'h', '/', 'f', 'o', 'u', 'r', 'w', 'a', 't', 'c', 'h', 'k', 'e', 'e', 'p', '.', 'V', 'e', 'c', 'S', 'w', 'a', 'p', 's'],
  ['f', 'o', 'u', 'r', 'w', 'a', 't', 'c', 'h', '/', 'f', 'o', 'u', 'r', 'w', 'a', 't', 'c', 'h', 'k', 'e', 'e', 'p', '.', 'M', 'a', 't', 'U', 'n', 'i', 't'],
  ['f', 'o', 'u', 'r', 'w', 'a', 't', 'c', 'h', '/', 'f', 'o', 'u', 'r', 'w', 'a', 't', 'c', 'h', 'k', 'e', 'e', 'p', '.', 'V', 'e', 'c', 'L', 'o', 'n', 'g'],
  ['f', 'o', 'u', 'r', 'w', 'a', 't', 'c', 'h', '/', 'f', 'o', 'u', 'r', 'w', 'a', 't', 'c', 'h', 'k', 'e', 'e', 'p', '.', 'M', 'a', 't', 'T', 'u', 'r', 'n', 'T', 'w', 'i', 'c', 'e'],
  ['f', 'o', 'u', 'r', 'w', 'a', 't', 'c', 'h', '/', 'f', 'o', 'u', 'r', 'w', 'a', 't', 'c', 'h', 'k', 'e', 'e', 'p', '.', 'M', 'a', 't', 'T', 'u', 'r', 'n', 'M', 'u', 'l'],
  ['f', 'o', 'u', 'r', 'w', 'a', 't', 'c', 'h', '/', 'f', 'o', 'u', 'r', 'w', 'a', 't', 'c', 'h', 'k', 'e', 'e', 'p', '.', 'V', 'e', 'c', 'N', 'o', 'u', 'g', 'h', 't', 's'],
  ['f', 'o', 'u', 'r', 'w', 'a', 't', 'c', 'h', '/', 'f', 'o', 'u', 'r', 'w', 'a', 't', 'c', 'h', 'k', 'e', 'e', 'p', '.', 'M', 'a', 't', 'C', 'o', 'l', 'u', 'm', 'n', 's'],
  ['f', 'o', 'u', 'r', 'w', 'a', 't', 'c', 'h', '/', 'f', 'o', 'u', 'r', 'w', 'a', 't', 'c', 'h', 'k', 'e', 'e', 'p', '.', 'F', 'i', 'x', 'O', 'n', 'e', 's'],
  ['f', 'o', 'u', 'r', 'w', 'a', 't', 'c', 'h', '/', 'f', 'o', 'u', 'r', 'w', 'a', 't', 'c', 'h', 'k', 'e', 'e', 'p', '.', 'F', 'i', 'x', 'R', 'i', 's', 'e', 's'],
  ['f', 'o', 'u', 'r', 'w', 'a', 't', 'c', 'h', '/', 'f', 'o', 'u', 'r', 'w', 'a', 't', 'c', 'h', 'k', 'e', 'e', 'p', '.', 'F', 'i', 'x', 'E', 'x', 'a', 'c', 't'],
  ['f', 'o', 'u', 'r', 'w', 'a', 't', 'c', 'h', '/', 'f', 'o', 'u', 'r', 'w', 'a', 't', 'c', 'h', 'k', 'e', 'e', 'p', '.', 'F', 'i', 'x', 'R', 'o', 'o', 't', 'N', 'e', 'a', 'r'],
  ['f', 'o', 'u', 'r', 'w', 'a', 't', 'c', 'h', '/', 'f', 'o', 'u', 'r', 'w', 'a', 't', 'c', 'h', 'k', 'e', 'e', 'p', '.', 'F', 'i', 'x', 'O', 'r', 'd', 'e', 'r'],
  ['f', 'o', 'u', 'r', 'w', 'a', 't', 'c', 'h', '/', 'f', 'o', 'u', 'r', 'w', 'a', 't', 'c', 'h', 'k', 'e', 'e', 'p', '.', 'F', 'i', 'x', 'S', 'w', 'a', 'p', 's'],
  ['f', 'o', 'u', 'r', 'w', 'a', 't', 'c', 'h', '/', 'f', 'o', 'u', 'r', 'w', 'a', 't', 'c', 'h', 'k', 'e', 'e', 'p', '.', 'F', 'i', 'x', 'F', 'l', 'o', 'o', 'r', 's'],
  ['f', 'o', 'u', 'r', 'w', 'a', 't', 'c', 'h', '/', 'f', 'o', 'u', 'r', 'w', 'a', 't', 'c', 'h', 'k', 'e', 'e', 'p', '.', 'F', 'i', 'l', 't', 'e', 'r', 'P', 'a', 's', 's', 'e', 's'],
  ['f', 'o', 'u', 'r', 'w', 'a', 't', 'c', 'h', '/', 'f', 'o', 'u', 'r', 'w', 'a', 't', 'c', 'h', 'k', 'e', 'e', 'p', '.', 'F', 'i', 'l', 't', 'e', 'r', 'S', 't', 'i', 'l', 'l'],
  ['f', 'o', 'u', 'r', 'w', 'a', 't', 'c', 'h', '/', 'f', 'o', 'u', 'r', 'w', 'a', 't', 'c', 'h', 'k', 'e', 'e', 'p', '.', 'F', 'i', 'l', 't', 'e', 'r', 'C', 'u', 't'],
  ['f', 'o', 'u', 'r', 'w', 'a', 't', 'c', 'h', '/', 'f', 'o', 'u', 'r', 'w', 'a', 't', 'c', 'h', 'k', 'e', 'e', 'p', '.', 'F', 'i', 'l', 't', 'e', 'r', 'B', 'e', 'n', 't'],
  ['f', 'o', 'u', 'r', 'w', 'a', 't', 'c', 'h', '/', 'f', 'o', 'u', 'r', 'w', 'a', 't', 'c', 'h', 'k', 'e', 'e', 'p', '.', 'M', 'a', 't', 'F', 'a', 'c', 't', 'o', 'r', 'e', 'd'],
  ['f', 'o', 'u', 'r', 'w', 'a', 't', 'c', 'h', '/', 'f', 'o', 'u', 'r', 'w', 'a', 't', 'c', 'h', 'k', 'e', 'e', 'p', '.', 'M', 'a', 't', 'D', 'i', 'a', 'g', 'o', 'n', 'a', 'l'],
  ['f', 'o', 'u', 'r', 'w', 'a', 't', 'c', 'h', '/', 'f', 'o', 'u', 'r', 'w', 'a', 't', 'c', 'h', 'k', 'e', 'e', 'p', '.', 'F', 'i', 'x', 'B', 'a', 'c', 'k'],
  ['f', 'o', 'u', 'r', 'w', 'a', 't', 'c', 'h', '/', 'f', 'o', 'u', 'r', 'w', 'a', 't', 'c', 'h', 'k', 'e', 'e', 'p', '.', 'M', 'a', 't', 'M', 'e', 'm', 'o', 'r', 'y']]
theorem io : Try.prog.initOrder = String.ofList (joinSp words) := by kernel_rfl
theorem ws : wordsSigns Try.prog.initOrder.toList = words := words_of io (by intro h; cases h) (by kernel_rfl)
theorem hb : behindMainWord words = "cut".toList :: words.drop 3 := by kernel_rfl
theorem hs : stripLifts liftWords ("cut".toList :: words.drop 3) = ([], "cut".toList :: words.drop 3) := by kernel_rfl
theorem enters : Try.prog.mayEnter = true := enter_of ws hb hs (by kernel_rfl) (by kernel_rfl) (by kernel_rfl)
theorem lifts : Try.prog.liftsFinal = false := lift_of ws hb hs
theorem makes : Try.prog.make = some .cut := make_of ws hb
theorem and_true_of {a b : Bool} (h : a = true) (k : b = true) : (a && b) = true := by rw [h, k]; rfl
theorem lift_eq {b : Bool} (h : b = false) : (b == Try.prog.liftsFinal) = true := by rw [lifts, h]; rfl
theorem make_eq {m : Make} (h : m = .cut) : (Try.prog.make == some m) = true := by rw [makes, h]; rfl
end Go.Proofs.Ytflaanfmanileaa.head
