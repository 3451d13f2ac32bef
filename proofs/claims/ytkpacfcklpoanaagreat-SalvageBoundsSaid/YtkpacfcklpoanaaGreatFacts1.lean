/- Facts of the program as a whole that follow. -/
import Derived.Test.YtkpacfcklpoanaaGreatFacts0
set_option linter.unusedVariables false
set_option linter.unusedSimpArgs false
namespace Go.Proofs.YtkpacfcklpoanaaGreat
open Go
theorem may_enter0 (P : Program) (W : List (List Char)) (h : behindMainWord (wordsSigns P.initOrder.toList) = headC :: W) (h1 : P.laysLater = false) (h2 : P.bearsReflect = false) (h3 : P.doorRows = []) : P.mayEnter = true := by
  unfold Program.mayEnter
  rw [h]
  have e : ((some headC : Option (List Char)) == some ("cut").toList) = true := by rw [headC_is]; exact beq_self_eq_true _
  have d : P.doorFits [] = true := by unfold Program.doorFits; rw [h3]; rfl
  simp only [strip_none liftWords W lifts_none, ne_gc, ne_spec, ne_carried, h1, h2, List.head?_cons, e, d, Bool.false_or, Bool.or_false, Bool.false_and, Bool.and_false, Bool.not_false, Bool.or_true, Bool.true_or, Bool.true_and, Bool.and_true, List.contains_nil]
theorem head_lifts0 (P : Program) (W : List (List Char)) (h : behindMainWord (wordsSigns P.initOrder.toList) = headC :: W) : P.headLifts = [] := by
  unfold Program.headLifts
  rw [h]
  have e : ((some headC : Option (List Char)) == some ("cut").toList) = true := by rw [headC_is]; exact beq_self_eq_true _
  simp only [strip_none liftWords W lifts_none, List.head?_cons, e, if_true]
theorem lifts_final0 (P : Program) (W : List (List Char)) (h : behindMainWord (wordsSigns P.initOrder.toList) = headC :: W) : P.liftsFinal = false := by
  unfold Program.liftsFinal
  rw [h, head_lifts0 P W h]
  have e : ((some headC : Option (List Char)) == some ("carried").toList) = false := by
    have := ne_carried
    simp only [beq_eq_false_iff_ne, ne_eq, Option.some.injEq] at this ⊢
    exact this
  simp only [List.head?_cons, e, Bool.false_and, Bool.false_or, List.contains_nil]
theorem make_is0 (P : Program) (W : List (List Char)) (h : behindMainWord (wordsSigns P.initOrder.toList) = headC :: W) : P.make = some .cut := by
  unfold Program.make
  rw [h]
  simp only [ne_gc, ne_spec, eq_cut, Bool.or_false, Bool.true_or, Bool.false_eq_true, if_true, if_false]
theorem may_enter : Tryz.prog.mayEnter = true := by
  obtain ⟨W, h⟩ := words_are
  exact may_enter0 _ W h lays_not reflect_not doors_none
theorem lifts_final : Tryz.prog.liftsFinal = false := by
  obtain ⟨W, h⟩ := words_are
  exact lifts_final0 _ W h
theorem make_is : Tryz.prog.make = some .cut := by
  obtain ⟨W, h⟩ := words_are
  exact make_is0 _ W h
end Go.Proofs.YtkpacfcklpoanaaGreat

