/- The vote of three that say the same; the test vote. -/
import Derived.Test.YtllgjbjcdenchaaVote
import Derived.Test.YtllgjbjcdenchaaSpot
set_option linter.unusedVariables false
namespace Go.Proofs.Ytllgjbjcdenchaa
open Go.RowKit Vt

theorem votes_any (w : World) : Calls Try.prog 24 #[] w fun e w' => e = .returned (.bool true) ∧ Below w.heap.size w w' := by
  have k := fun (W : World) => vote_any 5 5 5 6 true true true true ⟨by decide, by decide⟩ ⟨by decide, by decide⟩ ⟨by decide, by decide⟩ ⟨by decide, by decide⟩ W
  have e1 : val (VL 5 5 5 6 true true true true) = 5 := by decide
  have e2 : strong (VL 5 5 5 6 true true true true) = true := by decide
  have e3 : agree (VL 5 5 5 6 true true true true) 5 = true := by decide
  have e4 : agree (VL 5 5 5 6 true true true true) 6 = false := by decide
  rw [e1, e2, e3, e4] at k
  have K := Lib.hid k
  clear k e1 e2 e3 e4
  go_enter Try.func24, Try.ntmps24
  go_wp2_with fail
  refine (K.out _).mono ?_
  rintro e w1 ⟨v, rfl, hown, hb⟩
  obtain ⟨g, cap, rfl, hg1, hg2, hcap⟩ := own_form hown (by omega)
  have c0 := hown.cellAt 0 (by omega)
  have c3 := hown.cellAt 3 (by omega)
  simp only [List.getElem?_cons_zero, List.getElem?_cons_succ] at c0 c3
  clear hown
  go_wp2
  go_ret
  exact ⟨rfl, hb.alloc hb.size _⟩
theorem mask0 (good lie : Int) (b : Bool) : val (VL lie good good good b true true true) = good ∧ strong (VL lie good good good b true true true) = true ∧ agree (VL lie good good good b true true true) good = true ∧ agree (VL lie good good good b true true true) lie = (lie == good) := by
  by_cases h : lie = good
  · subst h
    cases b <;> simp [val, bst, cnt, VL, strong, best, agree, tot]
  · have h' : ¬ good = lie := fun e => h e.symm
    cases b <;> simp [val, bst, cnt, VL, strong, best, agree, tot, h, h']

theorem vote_mask0 (good lie : Int) (b : Bool) (hg : IntKind.i64.has good) (hl : IntKind.i64.has lie) (w : World) :
    Calls Try.prog 23 #[.agg #[.int .i64 lie, .int .i64 good, .int .i64 good, .int .i64 good], .agg #[.bool b, .bool true, .bool true, .bool true]] w fun e w' =>
      ∃ v, e = .returned (.agg #[.int .i64 good, .bool true, v]) ∧ w'.ownsRow w.heap.size 4 1 v 4 [.bool (lie == good), .bool true, .bool true, .bool true] ∧ Below w.heap.size w w' := by
  obtain ⟨e1, e2, e3, e4⟩ := mask0 good lie b
  have k := vote_any lie good good good b true true true hl hg hg hg w
  rw [e1, e2, e3, e4] at k
  exact k

theorem mask1 (good lie : Int) (b : Bool) : val (VL good lie good good true b true true) = good ∧ strong (VL good lie good good true b true true) = true ∧ agree (VL good lie good good true b true true) good = true ∧ agree (VL good lie good good true b true true) lie = (lie == good) := by
  by_cases h : lie = good
  · subst h
    cases b <;> simp [val, bst, cnt, VL, strong, best, agree, tot]
  · have h' : ¬ good = lie := fun e => h e.symm
    cases b <;> simp [val, bst, cnt, VL, strong, best, agree, tot, h, h']

theorem vote_mask1 (good lie : Int) (b : Bool) (hg : IntKind.i64.has good) (hl : IntKind.i64.has lie) (w : World) :
    Calls Try.prog 23 #[.agg #[.int .i64 good, .int .i64 lie, .int .i64 good, .int .i64 good], .agg #[.bool true, .bool b, .bool true, .bool true]] w fun e w' =>
      ∃ v, e = .returned (.agg #[.int .i64 good, .bool true, v]) ∧ w'.ownsRow w.heap.size 4 1 v 4 [.bool true, .bool (lie == good), .bool true, .bool true] ∧ Below w.heap.size w w' := by
  obtain ⟨e1, e2, e3, e4⟩ := mask1 good lie b
  have k := vote_any good lie good good true b true true hg hl hg hg w
  rw [e1, e2, e3, e4] at k
  exact k

theorem mask2 (good lie : Int) (b : Bool) : val (VL good good lie good true true b true) = good ∧ strong (VL good good lie good true true b true) = true ∧ agree (VL good good lie good true true b true) good = true ∧ agree (VL good good lie good true true b true) lie = (lie == good) := by
  by_cases h : lie = good
  · subst h
    cases b <;> simp [val, bst, cnt, VL, strong, best, agree, tot]
  · have h' : ¬ good = lie := fun e => h e.symm
    cases b <;> simp [val, bst, cnt, VL, strong, best, agree, tot, h, h']

theorem vote_mask2 (good lie : Int) (b : Bool) (hg : IntKind.i64.has good) (hl : IntKind.i64.has lie) (w : World) :
    Calls Try.prog 23 #[.agg #[.int .i64 good, .int .i64 good, .int .i64 lie, .int .i64 good], .agg #[.bool true, .bool true, .bool b, .bool true]] w fun e w' =>
      ∃ v, e = .returned (.agg #[.int .i64 good, .bool true, v]) ∧ w'.ownsRow w.heap.size 4 1 v 4 [.bool true, .bool true, .bool (lie == good), .bool true] ∧ Below w.heap.size w w' := by
  obtain ⟨e1, e2, e3, e4⟩ := mask2 good lie b
  have k := vote_any good good lie good true true b true hg hg hl hg w
  rw [e1, e2, e3, e4] at k
  exact k

theorem mask3 (good lie : Int) (b : Bool) : val (VL good good good lie true true true b) = good ∧ strong (VL good good good lie true true true b) = true ∧ agree (VL good good good lie true true true b) good = true ∧ agree (VL good good good lie true true true b) lie = (lie == good) := by
  by_cases h : lie = good
  · subst h
    cases b <;> simp [val, bst, cnt, VL, strong, best, agree, tot]
  · have h' : ¬ good = lie := fun e => h e.symm
    cases b <;> simp [val, bst, cnt, VL, strong, best, agree, tot, h, h']

theorem vote_mask3 (good lie : Int) (b : Bool) (hg : IntKind.i64.has good) (hl : IntKind.i64.has lie) (w : World) :
    Calls Try.prog 23 #[.agg #[.int .i64 good, .int .i64 good, .int .i64 good, .int .i64 lie], .agg #[.bool true, .bool true, .bool true, .bool b]] w fun e w' =>
      ∃ v, e = .returned (.agg #[.int .i64 good, .bool true, v]) ∧ w'.ownsRow w.heap.size 4 1 v 4 [.bool true, .bool true, .bool true, .bool (lie == good)] ∧ Below w.heap.size w w' := by
  obtain ⟨e1, e2, e3, e4⟩ := mask3 good lie b
  have k := vote_any good good good lie true true true b hg hg hg hl w
  rw [e1, e2, e3, e4] at k
  exact k
end Go.Proofs.Ytllgjbjcdenchaa
