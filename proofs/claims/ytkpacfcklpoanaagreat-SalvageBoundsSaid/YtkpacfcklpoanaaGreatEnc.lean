/- Records' image. -/
import Derived.Test.YtkpacfcklpoanaaGreatSeg2
set_option linter.unusedVariables false
set_option linter.unusedSimpArgs false
namespace Go.Proofs.YtkpacfcklpoanaaGreat
open Go.RowKit
theorem planGo_step {ex sg nr used cnt n m : Nat} {ns ms : List Nat} (h : planGo ex sg nr used cnt (n :: ns) = .ok (m :: ms)) :
    roomFits ex sg (hlen ex sg (sg - 1)) 0 n = true ∧ ((roomFits ex sg used cnt n = true ∧ m = nr ∧ planGo ex sg nr (used + n) (cnt + 1) ns = .ok ms) ∨
      (roomFits ex sg used cnt n = false ∧ nr + 1 < sg ∧ m = nr + 1 ∧ planGo ex sg (nr + 1) (hlen ex sg (nr + 1) + n) 1 ns = .ok ms)) := by
  rw [planGo] at h
  split at h
  · simp at h
  · rename_i h1
    refine ⟨by simpa using h1, ?_⟩
    split at h
    · rename_i h2
      refine .inl ⟨h2, ?_⟩
      split at h
      · rename_i l hl
        simp only [Except.ok.injEq, List.cons.injEq] at h
        obtain ⟨rfl, rfl⟩ := h
        exact ⟨rfl, hl⟩
      · simp at h
    · rename_i h2
      split at h
      · simp at h
      · rename_i h3
        refine .inr ⟨by simpa using h2, by omega, ?_⟩
        split at h
        · rename_i l hl
          simp only [Except.ok.injEq, List.cons.injEq] at h
          obtain ⟨rfl, rfl⟩ := h
          exact ⟨rfl, hl⟩
        · simp at h
theorem planGo_length {ex sg : Nat} : ∀ {ns ms : List Nat} {nr used cnt : Nat}, planGo ex sg nr used cnt ns = .ok ms → ms.length = ns.length := by
  intro ns
  induction ns with
  | nil => intro ms nr used cnt h; rw [planGo] at h; injection h with h; subst h; rfl
  | cons n ns ih =>
    intro ms nr used cnt h
    cases ms with
    | nil =>
      rw [planGo] at h
      split at h
      · simp at h
      · split at h
        · split at h <;> simp at h
        · split at h
          · simp at h
          · split at h <;> simp at h
    | cons m ms =>
      rcases (planGo_step h).2 with ⟨_, _, h2⟩ | ⟨_, _, _, h2⟩ <;> simp [ih h2]
/-- An image that goes on: out is sealed, a segment may be open. -/
def encGo (ex sg : Nat) (sealF : List UInt8 → List En → List UInt8) : List UInt8 → Option (Nat × List UInt8 × List En) → List Rc → List Nat → List UInt8
  | out, none, [], _ => out
  | out, some (_, fr, _), [], _ => out ++ wholeB ex sg fr
  | out, none, r :: l, ns => encGo ex sg sealF out (some (ns.headD 0, head ex sg (ns.headD 0) ++ rfr r, [(xxh 0 r.2.2.1, (head ex sg (ns.headD 0)).length)])) l ns.tail
  | out, some (nr, fr, tb), r :: l, ns =>
    if ns.headD 0 = nr then encGo ex sg sealF out (some (nr, fr ++ rfr r, tb ++ [(xxh 0 r.2.2.1, fr.length)])) l ns.tail
    else encGo ex sg sealF (out ++ sealF fr tb) (some (ns.headD 0, head ex sg (ns.headD 0) ++ rfr r, [(xxh 0 r.2.2.1, (head ex sg (ns.headD 0)).length)])) l ns.tail
def encR' (ex sg : Nat) (sealF : List UInt8 → List En → List UInt8) (l : List Rc) : Except Int (List UInt8) :=
  match planR ex sg l with
  | .ok ns => .ok (encGo ex sg sealF [] none l ns)
  | .error e => .error e
def TbOk (fr : List UInt8) (tb : List En) : Prop := ∀ e ∈ tb, 0 ≤ e.1 ∧ e.1 ≤ 18446744073709551615 ∧ e.2 < fr.length
/-- What sealing must do. -/
def SealC (ex sg : Nat) (sealF : List UInt8 → List En → List UInt8) : Prop :=
  ∀ (b base nr : Nat) (fr : List UInt8) (tb : List En) (W : World), IsB W b base ex sg nr fr tb → tb ≠ [] → TbOk fr tb → tb.length ≤ 100000 → fr.length + footMost tb.length ≤ cfgSize ex sg →
    (sealF fr tb).length ≤ 16777216 ∧ Calls Tryz.prog 123 #[.pointer (some ⟨b, 0, none⟩)] W fun e w' => ∃ x, e = .returned (.tuple #[x, .int .i64 0]) ∧ w'.ownsRow W.heap.size 5 1 x (sealF fr tb).length (B8 (sealF fr tb)) ∧ Below W.heap.size W w'
theorem roomFits_room {ex sg used cnt n : Nat} (h : roomFits ex sg used cnt n = true) : used + n + footMost (cnt + 1) ≤ cfgSize ex sg := by
  unfold roomFits roomLeft at h
  simp at h
  omega
end Go.Proofs.YtkpacfcklpoanaaGreat
