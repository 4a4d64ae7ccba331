/- The program's head, word by word; what the closing theorems ask of it. -/
import Derived.Test.YtdlcjieaoalhoaaHead
import Derived.Test.YtdlcjieaoalhoaaRows
set_option linter.unusedVariables false
namespace Go.Proofs.Ytdlcjieaoalhoaa.head
set_option maxRecDepth 100000 in
def words : List (List Char) := [[.ofNat 104, .ofNat 97, .ofNat 114, .ofNat 110, .ofNat 101, .ofNat 115, .ofNat 115],
  [.ofNat 48, .ofNat 49, .ofNat 101, .ofNat 48, .ofNat 98, .ofNat 100, .ofNat 101, .ofNat 53, .ofNat 101, .ofNat 99, .ofNat 97, .ofNat 51, .ofNat 56, .ofNat 98, .ofNat 55, .ofNat 100, .ofNat 102, .ofNat 51, .ofNat 50, .ofNat 54, .ofNat 54, .ofNat 51, .ofNat 49, .ofNat 56, .ofNat 98, .ofNat 51, .ofNat 54, .ofNat 99, .ofNat 49, .ofNat 100, .ofNat 99, .ofNat 102, .ofNat 55, .ofNat 55, .ofNat 99, .ofNat 50, .ofNat 53, .ofNat 50, .ofNat 99, .ofNat 100, .ofNat 98, .ofNat 52, .ofNat 49, .ofNat 102, .ofNat 51, .ofNat 55, .ofNat 99, .ofNat 99, .ofNat 55, .ofNat 50, .ofNat 56, .ofNat 56, .ofNat 54, .ofNat 100, .ofNat 52, .ofNat 99, .ofNat 48, .ofNat 56, .ofNat 50, .ofNat 52, .ofNat 55, .ofNat 51, .ofNat 51, .ofNat 55],
  [.ofNat 99, .ofNat 117, .ofNat 116],
  [.ofNat 97, .ofNat 116],
  [.ofNat 102, .ofNat 111, .ofNat 117, .ofNat 114, .ofNat 119, .ofNat 97, .ofNat 116, .ofNat 99, .ofNat 104, .ofNat 47, .ofNat 102, .ofNat 111, .ofNat 117, .ofNat 114, .ofNat 119, .ofNat 97, .ofNat 116, .ofNat 99, .ofNat 104, .ofNat 107, .ofNat 101, .ofNat 101, .ofNat 112, .ofNat 46, .ofNat 66, .ofNat 117, .ofNat 115, .ofNat 75, .ofNat 101, .ofNat 101, .ofNat 112, .ofNat 115],
  [.ofNat 102, .ofNat 111, .ofNat 117, .ofNat 114, .ofNat 119, .ofNat 97, .ofNat 116, .ofNat 99, .ofNat 104, .ofNat 47, .ofNat 102, .ofNat 111, .ofNat 117, .ofNat 114, .ofNat 119, .ofNat 97, .ofNat 116, .ofNat 99, .ofNat 104, .ofNat 107, .ofNat 101, .ofNat 101, .ofNat 112, .ofNat 46, .ofNat 66, .ofNat 117, .ofNat 115, .ofNat 76, .ofNat 105, .ofNat 110, .ofNat 107, .ofNat 115],
  [.ofNat 102, .ofNat 111, .ofNat 117, .ofNat 114, .ofNat 119, .ofNat 97, .ofNat 116, .ofNat 99, .ofNat 104, .ofNat 47, .ofNat 102, .ofNat 111, .ofNat 117, .ofNat 114, .ofNat 119, .ofNat 97, .ofNat 116, .ofNat 99, .ofNat 104, .ofNat 107, .ofNat 101, .ofNat 101, .ofNat 112, .ofNat 46, .ofNat 66, .ofNat 117, .ofNat 115, .ofNat 84, .ofNat 119, .ofNat 105, .ofNat 99, .ofNat 101],
  [.ofNat 102, .ofNat 111, .ofNat 117, .ofNat 114, .ofNat 119, .ofNat 97, .ofNat 116, .ofNat 99, .ofNat 104, .ofNat 47, .ofNat 102, .ofNat 111, .ofNat 117, .ofNat 114, .ofNat 119, .ofNat 97, .ofNat 116, .ofNat 99, .ofNat 104, .ofNat 107, .ofNat 101, .ofNat 101, .ofNat 112, .ofNat 46, .ofNat 66, .ofNat 117, .ofNat 115, .ofNat 77, .ofNat 101, .ofNat 109, .ofNat 111, .ofNat 114, .ofNat 121]]
theorem io : Try.prog.initOrder = String.ofList (joinSp words) := by kernel_rfl
theorem ws : wordsSigns Try.prog.initOrder.toList = words := words_of io (by intro h; cases h) (by kernel_rfl)
theorem hb : behindMainWord words = "cut".toList :: words.drop 3 := by kernel_rfl
theorem hs : stripLifts liftWords ("cut".toList :: words.drop 3) = ([], "cut".toList :: words.drop 3) := by kernel_rfl
theorem enters : Try.prog.mayEnter = true := enter_of ws hb hs (by kernel_rfl) (by kernel_rfl) (by kernel_rfl)
theorem lifts : Try.prog.liftsFinal = false := lift_of ws hb hs
theorem makes : Try.prog.make = some .cut := make_of ws hb
theorem and_true_of {a b : Bool} (h : a = true) (k : b = true) : (a && b) = true := by rw [h, k]; rfl
theorem lift_eq {b : Bool} (h : b = false) : (b == Try.prog.liftsFinal) = true := by rw [lifts, h]; rfl
theorem make_eq {m : Make} (h : m = .cut) : (Try.prog.make == some m) = true := by rw [makes, h]; rfl
end Go.Proofs.Ytdlcjieaoalhoaa.head
