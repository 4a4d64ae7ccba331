/- '==' on arrays and structs of numbers and bools: a row is equal to itself. Over any program. -/
import Derived.Test.YtflaanfmanileaaKit
import Derived.ChangeKeysEq
import Derived.Laws.StructEq
set_option linter.unusedVariables false
namespace Go.Proofs.Ytflaanfmanileaa
open Go.RowKit

section
variable {P : Program}
/-- the cells of a value of type t, one kind's word for each -/
def fitB (P : Program) : Nat → TypeId → List Value → Bool
  | 0, _, _ => false
  | d + 1, t, cs =>
    match P.underlying t, cs with
    | some .bool, [.bool _] => true
    | some (.int q), [.int q' _] => q == q'
    | some (.array n e), cs => (P.info? e).isSome && (List.range n).all fun i => fitB P d e ((cs.drop (i * P.cellsOf e)).take (P.cellsOf e))
    | some (.struct fs), cs => !P.stoodInHeld t && fs.toList.all fun f => f.name != "_" && fitB P d f.type ((cs.drop f.offset).take (P.cellsOf f.type))
    | _, _ => false
/-- the value of such cells -/
def valOf (P : Program) (t : TypeId) (cs : List Value) : Value := if (match P.underlying t with | some (.array _ _) => true | some (.struct _) => true | _ => false) then .agg cs.toArray else cs.headD undef

theorem fitB_bool {m : Nat} {t : TypeId} {cs : List Value} (hu : P.underlying t = some .bool) (h : fitB P m t cs = true) : ∃ b, cs = [.bool b] := by
  cases m with
  | zero => simp [fitB] at h
  | succ m => rcases cs with _ | ⟨a, _ | ⟨b, r⟩⟩ <;> first | (simp [fitB, hu] at h; done) | (cases a <;> first | (simp [fitB, hu] at h; done) | exact ⟨_, rfl⟩)
theorem fitB_int {m : Nat} {t : TypeId} {q : IntKind} {cs : List Value} (hu : P.underlying t = some (.int q)) (h : fitB P m t cs = true) : ∃ n, cs = [.int q n] := by
  cases m with
  | zero => simp [fitB] at h
  | succ m => rcases cs with _ | ⟨a, _ | ⟨b, r⟩⟩ <;> first | (simp [fitB, hu] at h; done) | (cases a <;> first | (simp [fitB, hu] at h; done) | (simp [fitB, hu] at h; subst h; exact ⟨_, rfl⟩))
theorem fitB_info {m : Nat} {e : TypeId} {cs : List Value} (h : fitB P m e cs = true) : ∃ i, P.info? e = some i := by
  cases m with
  | zero => simp [fitB] at h
  | succ m =>
    cases hu : P.underlying e with
    | none => simp [fitB, hu] at h
    | some kd => exact info_of_underlying hu

theorem run_part_fit {m : Nat} {e : TypeId} {off : Nat} {xs : Array Value} (w : World) (h : fitB P m e ((xs.toList.drop off).take (P.cellsOf e)) = true) :
    (part e xs off).run P w = .ok (valOf P e ((xs.toList.drop off).take (P.cellsOf e))) w := by
  obtain ⟨i, hi⟩ := fitB_info h
  have hl : (xs.extract off (off + P.cellsOf e)) = ((xs.toList.drop off).take (P.cellsOf e)).toArray := by
    apply Array.toList_inj.1
    rw [Array.toList_extract]
    simp [List.extract]
  have one : ∀ x, (xs.toList.drop off).take (P.cellsOf e) = [x] → xs[off]? = some x := by
    intro x hx
    have := congrArg (fun l => l[0]?) hx
    simp only [List.getElem?_cons_zero, List.getElem?_take, List.getElem?_drop, Nat.add_zero, Array.getElem?_toList] at this
    split at this
    · exact this
    · cases this
  cases hu : P.underlying e with
  | none => cases m <;> simp [fitB, hu] at h
  | some kd =>
    cases kd
    case array n e' => simp [part, isAgg, run_underlying hu, run_sizeOf w hi, valOf, hu, hl]
    case struct fs => simp [part, isAgg, run_underlying hu, run_sizeOf w hi, valOf, hu, hl]
    case bool =>
      obtain ⟨b, hb⟩ := fitB_bool hu h
      have := one _ hb
      simp [part, isAgg, run_underlying hu, valOf, hu, hb, this]
    case int q =>
      obtain ⟨b, hb⟩ := fitB_int hu h
      have := one _ hb
      simp [part, isAgg, run_underlying hu, valOf, hu, hb, this]
    all_goals (cases m <;> (simp [fitB, hu] at h; done))

theorem eqItems_refl (dd m : Nat) {e : TypeId} (IH : ∀ (cs : List Value) (w : World), fitB P m e cs = true → (Op.equalIn dd e (valOf P e cs) (valOf P e cs)).run P w = .ok true w) (xs : Array Value) (w : World) :
    ∀ (is : List Nat), (is.all fun i => fitB P m e ((xs.toList.drop (i * P.cellsOf e)).take (P.cellsOf e))) = true → (Op.eqItems dd e (P.cellsOf e) xs xs is).run P w = .ok true w
  | [], _ => by simp [Op.eqItems]
  | i :: is, h => by
    rw [List.all_cons, Bool.and_eq_true] at h
    simp only [Op.eqItems, Sem.run_bind, run_part_fit w h.1, IH _ w h.1, Result.andThen_ok, Bool.not_true, Bool.false_eq_true, if_false]
    exact eqItems_refl dd m IH xs w is h.2
theorem eqFields_refl (dd m : Nat) (IH : ∀ (t : TypeId) (cs : List Value) (w : World), fitB P m t cs = true → (Op.equalIn dd t (valOf P t cs) (valOf P t cs)).run P w = .ok true w) (xs : Array Value) (w : World) :
    ∀ (fs : List Field), (fs.all fun f => f.name != "_" && fitB P m f.type ((xs.toList.drop f.offset).take (P.cellsOf f.type))) = true → (Op.eqFields dd xs xs fs).run P w = .ok true w
  | [], _ => by simp [Op.eqFields]
  | f :: fs, h => by
    rw [List.all_cons, Bool.and_eq_true, Bool.and_eq_true, bne_iff_ne] at h
    simp only [Op.eqFields, h.1.1, ne_eq, not_false_eq_true, if_true, Sem.run_bind, run_part_fit w h.1.2, IH _ _ w h.1.2, Result.andThen_ok, Bool.not_true, Bool.false_eq_true, if_false]
    exact eqFields_refl dd m IH xs w fs h.2

theorem equalIn_refl (d : Nat) : ∀ (m : Nat) (t : TypeId) (cs : List Value) (w : World), fitB P m t cs = true → (Op.equalIn (d + m) t (valOf P t cs) (valOf P t cs)).run P w = .ok true w
  | 0, _, _, _, h => by simp [fitB] at h
  | m + 1, t, cs, w, h => by
    cases hu : P.underlying t with
    | none => simp [fitB, hu] at h
    | some kd =>
      cases kd
      case bool =>
        obtain ⟨b, rfl⟩ := fitB_bool hu h
        rw [show d + (m + 1) = (d + m) + 1 from rfl]
        simp [valOf, hu, run_equalIn_bool' w (d + m) t _ _ hu]
      case int q =>
        obtain ⟨b, rfl⟩ := fitB_int hu h
        rw [show d + (m + 1) = (d + m) + 1 from rfl]
        simp [valOf, hu, run_equalIn_int w (d + m) t _ _ _ _ hu]
      case array n e =>
        unfold fitB at h
        simp only [hu, Bool.and_eq_true] at h
        have hv : valOf P t cs = .agg cs.toArray := by simp [valOf, hu]
        obtain ⟨i, hi⟩ := Option.isSome_iff_exists.1 h.1
        rw [hv, show d + (m + 1) = (d + m) + 1 from rfl, run_equalIn_array w (d + m) cs.toArray cs.toArray hu hi]
        exact eqItems_refl (d + m) m (fun cs w hc => equalIn_refl d m e cs w hc) cs.toArray w _ (by simpa using h.2)
      case struct fs =>
        unfold fitB at h
        simp only [hu, Bool.and_eq_true, Bool.not_eq_true'] at h
        have hv : valOf P t cs = .agg cs.toArray := by simp [valOf, hu]
        have hfs : P.fieldsOf t = fs := by simp [Program.fieldsOf, hu]
        rw [hv, show d + (m + 1) = (d + m) + 1 from rfl, run_equalIn_struct w (d + m) t cs.toArray cs.toArray (by rw [hfs]; exact hu) h.1, hfs]
        exact eqFields_refl (d + m) m (fun t cs w hc => equalIn_refl d m t cs w hc) cs.toArray w _ (by simpa using h.2)
      all_goals (simp [fitB, hu] at h; done)
theorem eql_self {t : TypeId} {cs : Array Value} (hrow : valOf P t cs.toList = .agg cs) (h : fitB P 10 t cs.toList = true) (w : World) : (Op.equalIn 10000 t (.agg cs) (.agg cs)).run P w = .ok true w := by
  have := equalIn_refl 9990 10 t cs.toList w h
  rw [hrow] at this
  exact this
end
end Go.Proofs.Ytflaanfmanileaa
