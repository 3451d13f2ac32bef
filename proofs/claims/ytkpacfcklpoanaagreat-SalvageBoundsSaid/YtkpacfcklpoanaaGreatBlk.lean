/- Laws of blocks of few cells: their cells read, and all of them stored. -/
import Derived.Test.YtkpacfcklpoanaaGreatRow
set_option linter.unusedVariables false
set_option linter.unusedSimpArgs false
namespace Go.Proofs.YtkpacfcklpoanaaGreat
open Go.RowKit
theorem heap_new2 (w : World) (a b : Obj) : ((w.alloc a).alloc b).heap[w.heap.size + 1]? = some b := by simpa using heap_new (w.alloc a) b
theorem heap_new3 (w : World) (a b c : Obj) : (((w.alloc a).alloc b).alloc c).heap[w.heap.size + 2]? = some c := by simpa using heap_new ((w.alloc a).alloc b) c
theorem c1 {w : World} {g : Nat} {t : TypeId} {a0 : Value} (h : w.heap[g]? = some (.cells #[a0] t (0, 0))) : w.cell? ⟨g, 0, none⟩ = some a0 :=
  (blk_cell h 0).trans rfl
theorem c2 {w : World} {g : Nat} {t : TypeId} {a0 a1 : Value} (h : w.heap[g]? = some (.cells #[a0, a1] t (0, 0))) : w.cell? ⟨g, 0, none⟩ = some a0 ∧ w.cell? ⟨g, 1, none⟩ = some a1 :=
  ⟨(blk_cell h 0).trans rfl, (blk_cell h 1).trans rfl⟩
theorem set2 {w : World} {g : Nat} {t : TypeId} {a0 a1 : Value} (h : w.heap[g]? = some (.cells #[a0, a1] t (0, 0))) (b0 b1 : Value) : ((w.setCell ⟨g, 0, none⟩ b0).setCell ⟨g, 1, none⟩ b1).heap[g]? = some (.cells #[b0, b1] t (0, 0)) :=
  (blk_set (blk_set h 0 b0) 1 b1).trans rfl
theorem bset2 {B g : Nat} {a w : World} (h : Below B a w) (hg : B ≤ g) (b0 b1 : Value) : Below B a ((w.setCell ⟨g, 0, none⟩ b0).setCell ⟨g, 1, none⟩ b1) :=
  (below_setG (below_setG h hg 0 b0) hg 1 b1)
theorem far2 {w : World} {g g2 : Nat} {ob : Obj} (h : w.heap[g2]? = some ob) (hne : g2 ≠ g) (b0 b1 : Value) : ((w.setCell ⟨g, 0, none⟩ b0).setCell ⟨g, 1, none⟩ b1).heap[g2]? = some ob :=
  (blk_far (blk_far h (p := ⟨g, 0, none⟩) hne b0) (p := ⟨g, 1, none⟩) hne b1)
theorem ofar2 {w : World} {base m : Nat} {e : TypeId} {size : Nat} {v : Value} {xs : List Value} {g : Nat} (h : w.ownsRow base e size v m xs) (hne : v.ownBlock ≠ some g) (b0 b1 : Value) : ((w.setCell ⟨g, 0, none⟩ b0).setCell ⟨g, 1, none⟩ b1).ownsRow base e size v m xs :=
  (own_far (own_far h ⟨g, 0, none⟩ b0 hne) ⟨g, 1, none⟩ b1 hne)
theorem c3 {w : World} {g : Nat} {t : TypeId} {a0 a1 a2 : Value} (h : w.heap[g]? = some (.cells #[a0, a1, a2] t (0, 0))) : w.cell? ⟨g, 0, none⟩ = some a0 ∧ w.cell? ⟨g, 1, none⟩ = some a1 ∧ w.cell? ⟨g, 2, none⟩ = some a2 :=
  ⟨(blk_cell h 0).trans rfl, (blk_cell h 1).trans rfl, (blk_cell h 2).trans rfl⟩
theorem set3 {w : World} {g : Nat} {t : TypeId} {a0 a1 a2 : Value} (h : w.heap[g]? = some (.cells #[a0, a1, a2] t (0, 0))) (b0 b1 b2 : Value) : (((w.setCell ⟨g, 0, none⟩ b0).setCell ⟨g, 1, none⟩ b1).setCell ⟨g, 2, none⟩ b2).heap[g]? = some (.cells #[b0, b1, b2] t (0, 0)) :=
  (blk_set (blk_set (blk_set h 0 b0) 1 b1) 2 b2).trans rfl
theorem bset3 {B g : Nat} {a w : World} (h : Below B a w) (hg : B ≤ g) (b0 b1 b2 : Value) : Below B a (((w.setCell ⟨g, 0, none⟩ b0).setCell ⟨g, 1, none⟩ b1).setCell ⟨g, 2, none⟩ b2) :=
  (below_setG (below_setG (below_setG h hg 0 b0) hg 1 b1) hg 2 b2)
theorem far3 {w : World} {g g2 : Nat} {ob : Obj} (h : w.heap[g2]? = some ob) (hne : g2 ≠ g) (b0 b1 b2 : Value) : (((w.setCell ⟨g, 0, none⟩ b0).setCell ⟨g, 1, none⟩ b1).setCell ⟨g, 2, none⟩ b2).heap[g2]? = some ob :=
  (blk_far (blk_far (blk_far h (p := ⟨g, 0, none⟩) hne b0) (p := ⟨g, 1, none⟩) hne b1) (p := ⟨g, 2, none⟩) hne b2)
theorem ofar3 {w : World} {base m : Nat} {e : TypeId} {size : Nat} {v : Value} {xs : List Value} {g : Nat} (h : w.ownsRow base e size v m xs) (hne : v.ownBlock ≠ some g) (b0 b1 b2 : Value) : (((w.setCell ⟨g, 0, none⟩ b0).setCell ⟨g, 1, none⟩ b1).setCell ⟨g, 2, none⟩ b2).ownsRow base e size v m xs :=
  (own_far (own_far (own_far h ⟨g, 0, none⟩ b0 hne) ⟨g, 1, none⟩ b1 hne) ⟨g, 2, none⟩ b2 hne)
theorem c4 {w : World} {g : Nat} {t : TypeId} {a0 a1 a2 a3 : Value} (h : w.heap[g]? = some (.cells #[a0, a1, a2, a3] t (0, 0))) : w.cell? ⟨g, 0, none⟩ = some a0 ∧ w.cell? ⟨g, 1, none⟩ = some a1 ∧ w.cell? ⟨g, 2, none⟩ = some a2 ∧ w.cell? ⟨g, 3, none⟩ = some a3 :=
  ⟨(blk_cell h 0).trans rfl, (blk_cell h 1).trans rfl, (blk_cell h 2).trans rfl, (blk_cell h 3).trans rfl⟩
theorem set4 {w : World} {g : Nat} {t : TypeId} {a0 a1 a2 a3 : Value} (h : w.heap[g]? = some (.cells #[a0, a1, a2, a3] t (0, 0))) (b0 b1 b2 b3 : Value) : ((((w.setCell ⟨g, 0, none⟩ b0).setCell ⟨g, 1, none⟩ b1).setCell ⟨g, 2, none⟩ b2).setCell ⟨g, 3, none⟩ b3).heap[g]? = some (.cells #[b0, b1, b2, b3] t (0, 0)) :=
  (blk_set (blk_set (blk_set (blk_set h 0 b0) 1 b1) 2 b2) 3 b3).trans rfl
theorem bset4 {B g : Nat} {a w : World} (h : Below B a w) (hg : B ≤ g) (b0 b1 b2 b3 : Value) : Below B a ((((w.setCell ⟨g, 0, none⟩ b0).setCell ⟨g, 1, none⟩ b1).setCell ⟨g, 2, none⟩ b2).setCell ⟨g, 3, none⟩ b3) :=
  (below_setG (below_setG (below_setG (below_setG h hg 0 b0) hg 1 b1) hg 2 b2) hg 3 b3)
theorem far4 {w : World} {g g2 : Nat} {ob : Obj} (h : w.heap[g2]? = some ob) (hne : g2 ≠ g) (b0 b1 b2 b3 : Value) : ((((w.setCell ⟨g, 0, none⟩ b0).setCell ⟨g, 1, none⟩ b1).setCell ⟨g, 2, none⟩ b2).setCell ⟨g, 3, none⟩ b3).heap[g2]? = some ob :=
  (blk_far (blk_far (blk_far (blk_far h (p := ⟨g, 0, none⟩) hne b0) (p := ⟨g, 1, none⟩) hne b1) (p := ⟨g, 2, none⟩) hne b2) (p := ⟨g, 3, none⟩) hne b3)
theorem ofar4 {w : World} {base m : Nat} {e : TypeId} {size : Nat} {v : Value} {xs : List Value} {g : Nat} (h : w.ownsRow base e size v m xs) (hne : v.ownBlock ≠ some g) (b0 b1 b2 b3 : Value) : ((((w.setCell ⟨g, 0, none⟩ b0).setCell ⟨g, 1, none⟩ b1).setCell ⟨g, 2, none⟩ b2).setCell ⟨g, 3, none⟩ b3).ownsRow base e size v m xs :=
  (own_far (own_far (own_far (own_far h ⟨g, 0, none⟩ b0 hne) ⟨g, 1, none⟩ b1 hne) ⟨g, 2, none⟩ b2 hne) ⟨g, 3, none⟩ b3 hne)
theorem c5 {w : World} {g : Nat} {t : TypeId} {a0 a1 a2 a3 a4 : Value} (h : w.heap[g]? = some (.cells #[a0, a1, a2, a3, a4] t (0, 0))) : w.cell? ⟨g, 0, none⟩ = some a0 ∧ w.cell? ⟨g, 1, none⟩ = some a1 ∧ w.cell? ⟨g, 2, none⟩ = some a2 ∧ w.cell? ⟨g, 3, none⟩ = some a3 ∧ w.cell? ⟨g, 4, none⟩ = some a4 :=
  ⟨(blk_cell h 0).trans rfl, (blk_cell h 1).trans rfl, (blk_cell h 2).trans rfl, (blk_cell h 3).trans rfl, (blk_cell h 4).trans rfl⟩
theorem set5 {w : World} {g : Nat} {t : TypeId} {a0 a1 a2 a3 a4 : Value} (h : w.heap[g]? = some (.cells #[a0, a1, a2, a3, a4] t (0, 0))) (b0 b1 b2 b3 b4 : Value) : (((((w.setCell ⟨g, 0, none⟩ b0).setCell ⟨g, 1, none⟩ b1).setCell ⟨g, 2, none⟩ b2).setCell ⟨g, 3, none⟩ b3).setCell ⟨g, 4, none⟩ b4).heap[g]? = some (.cells #[b0, b1, b2, b3, b4] t (0, 0)) :=
  (blk_set (blk_set (blk_set (blk_set (blk_set h 0 b0) 1 b1) 2 b2) 3 b3) 4 b4).trans rfl
theorem bset5 {B g : Nat} {a w : World} (h : Below B a w) (hg : B ≤ g) (b0 b1 b2 b3 b4 : Value) : Below B a (((((w.setCell ⟨g, 0, none⟩ b0).setCell ⟨g, 1, none⟩ b1).setCell ⟨g, 2, none⟩ b2).setCell ⟨g, 3, none⟩ b3).setCell ⟨g, 4, none⟩ b4) :=
  (below_setG (below_setG (below_setG (below_setG (below_setG h hg 0 b0) hg 1 b1) hg 2 b2) hg 3 b3) hg 4 b4)
theorem far5 {w : World} {g g2 : Nat} {ob : Obj} (h : w.heap[g2]? = some ob) (hne : g2 ≠ g) (b0 b1 b2 b3 b4 : Value) : (((((w.setCell ⟨g, 0, none⟩ b0).setCell ⟨g, 1, none⟩ b1).setCell ⟨g, 2, none⟩ b2).setCell ⟨g, 3, none⟩ b3).setCell ⟨g, 4, none⟩ b4).heap[g2]? = some ob :=
  (blk_far (blk_far (blk_far (blk_far (blk_far h (p := ⟨g, 0, none⟩) hne b0) (p := ⟨g, 1, none⟩) hne b1) (p := ⟨g, 2, none⟩) hne b2) (p := ⟨g, 3, none⟩) hne b3) (p := ⟨g, 4, none⟩) hne b4)
theorem ofar5 {w : World} {base m : Nat} {e : TypeId} {size : Nat} {v : Value} {xs : List Value} {g : Nat} (h : w.ownsRow base e size v m xs) (hne : v.ownBlock ≠ some g) (b0 b1 b2 b3 b4 : Value) : (((((w.setCell ⟨g, 0, none⟩ b0).setCell ⟨g, 1, none⟩ b1).setCell ⟨g, 2, none⟩ b2).setCell ⟨g, 3, none⟩ b3).setCell ⟨g, 4, none⟩ b4).ownsRow base e size v m xs :=
  (own_far (own_far (own_far (own_far (own_far h ⟨g, 0, none⟩ b0 hne) ⟨g, 1, none⟩ b1 hne) ⟨g, 2, none⟩ b2 hne) ⟨g, 3, none⟩ b3 hne) ⟨g, 4, none⟩ b4 hne)
theorem c6 {w : World} {g : Nat} {t : TypeId} {a0 a1 a2 a3 a4 a5 : Value} (h : w.heap[g]? = some (.cells #[a0, a1, a2, a3, a4, a5] t (0, 0))) : w.cell? ⟨g, 0, none⟩ = some a0 ∧ w.cell? ⟨g, 1, none⟩ = some a1 ∧ w.cell? ⟨g, 2, none⟩ = some a2 ∧ w.cell? ⟨g, 3, none⟩ = some a3 ∧ w.cell? ⟨g, 4, none⟩ = some a4 ∧ w.cell? ⟨g, 5, none⟩ = some a5 :=
  ⟨(blk_cell h 0).trans rfl, (blk_cell h 1).trans rfl, (blk_cell h 2).trans rfl, (blk_cell h 3).trans rfl, (blk_cell h 4).trans rfl, (blk_cell h 5).trans rfl⟩
theorem set6 {w : World} {g : Nat} {t : TypeId} {a0 a1 a2 a3 a4 a5 : Value} (h : w.heap[g]? = some (.cells #[a0, a1, a2, a3, a4, a5] t (0, 0))) (b0 b1 b2 b3 b4 b5 : Value) : ((((((w.setCell ⟨g, 0, none⟩ b0).setCell ⟨g, 1, none⟩ b1).setCell ⟨g, 2, none⟩ b2).setCell ⟨g, 3, none⟩ b3).setCell ⟨g, 4, none⟩ b4).setCell ⟨g, 5, none⟩ b5).heap[g]? = some (.cells #[b0, b1, b2, b3, b4, b5] t (0, 0)) :=
  (blk_set (blk_set (blk_set (blk_set (blk_set (blk_set h 0 b0) 1 b1) 2 b2) 3 b3) 4 b4) 5 b5).trans rfl
theorem bset6 {B g : Nat} {a w : World} (h : Below B a w) (hg : B ≤ g) (b0 b1 b2 b3 b4 b5 : Value) : Below B a ((((((w.setCell ⟨g, 0, none⟩ b0).setCell ⟨g, 1, none⟩ b1).setCell ⟨g, 2, none⟩ b2).setCell ⟨g, 3, none⟩ b3).setCell ⟨g, 4, none⟩ b4).setCell ⟨g, 5, none⟩ b5) :=
  (below_setG (below_setG (below_setG (below_setG (below_setG (below_setG h hg 0 b0) hg 1 b1) hg 2 b2) hg 3 b3) hg 4 b4) hg 5 b5)
theorem far6 {w : World} {g g2 : Nat} {ob : Obj} (h : w.heap[g2]? = some ob) (hne : g2 ≠ g) (b0 b1 b2 b3 b4 b5 : Value) : ((((((w.setCell ⟨g, 0, none⟩ b0).setCell ⟨g, 1, none⟩ b1).setCell ⟨g, 2, none⟩ b2).setCell ⟨g, 3, none⟩ b3).setCell ⟨g, 4, none⟩ b4).setCell ⟨g, 5, none⟩ b5).heap[g2]? = some ob :=
  (blk_far (blk_far (blk_far (blk_far (blk_far (blk_far h (p := ⟨g, 0, none⟩) hne b0) (p := ⟨g, 1, none⟩) hne b1) (p := ⟨g, 2, none⟩) hne b2) (p := ⟨g, 3, none⟩) hne b3) (p := ⟨g, 4, none⟩) hne b4) (p := ⟨g, 5, none⟩) hne b5)
theorem ofar6 {w : World} {base m : Nat} {e : TypeId} {size : Nat} {v : Value} {xs : List Value} {g : Nat} (h : w.ownsRow base e size v m xs) (hne : v.ownBlock ≠ some g) (b0 b1 b2 b3 b4 b5 : Value) : ((((((w.setCell ⟨g, 0, none⟩ b0).setCell ⟨g, 1, none⟩ b1).setCell ⟨g, 2, none⟩ b2).setCell ⟨g, 3, none⟩ b3).setCell ⟨g, 4, none⟩ b4).setCell ⟨g, 5, none⟩ b5).ownsRow base e size v m xs :=
  (own_far (own_far (own_far (own_far (own_far (own_far h ⟨g, 0, none⟩ b0 hne) ⟨g, 1, none⟩ b1 hne) ⟨g, 2, none⟩ b2 hne) ⟨g, 3, none⟩ b3 hne) ⟨g, 4, none⟩ b4 hne) ⟨g, 5, none⟩ b5 hne)
theorem c7 {w : World} {g : Nat} {t : TypeId} {a0 a1 a2 a3 a4 a5 a6 : Value} (h : w.heap[g]? = some (.cells #[a0, a1, a2, a3, a4, a5, a6] t (0, 0))) : w.cell? ⟨g, 0, none⟩ = some a0 ∧ w.cell? ⟨g, 1, none⟩ = some a1 ∧ w.cell? ⟨g, 2, none⟩ = some a2 ∧ w.cell? ⟨g, 3, none⟩ = some a3 ∧ w.cell? ⟨g, 4, none⟩ = some a4 ∧ w.cell? ⟨g, 5, none⟩ = some a5 ∧ w.cell? ⟨g, 6, none⟩ = some a6 :=
  ⟨(blk_cell h 0).trans rfl, (blk_cell h 1).trans rfl, (blk_cell h 2).trans rfl, (blk_cell h 3).trans rfl, (blk_cell h 4).trans rfl, (blk_cell h 5).trans rfl, (blk_cell h 6).trans rfl⟩
theorem c8 {w : World} {g : Nat} {t : TypeId} {a0 a1 a2 a3 a4 a5 a6 a7 : Value} (h : w.heap[g]? = some (.cells #[a0, a1, a2, a3, a4, a5, a6, a7] t (0, 0))) : w.cell? ⟨g, 0, none⟩ = some a0 ∧ w.cell? ⟨g, 1, none⟩ = some a1 ∧ w.cell? ⟨g, 2, none⟩ = some a2 ∧ w.cell? ⟨g, 3, none⟩ = some a3 ∧ w.cell? ⟨g, 4, none⟩ = some a4 ∧ w.cell? ⟨g, 5, none⟩ = some a5 ∧ w.cell? ⟨g, 6, none⟩ = some a6 ∧ w.cell? ⟨g, 7, none⟩ = some a7 :=
  ⟨(blk_cell h 0).trans rfl, (blk_cell h 1).trans rfl, (blk_cell h 2).trans rfl, (blk_cell h 3).trans rfl, (blk_cell h 4).trans rfl, (blk_cell h 5).trans rfl, (blk_cell h 6).trans rfl, (blk_cell h 7).trans rfl⟩
theorem c9 {w : World} {g : Nat} {t : TypeId} {a0 a1 a2 a3 a4 a5 a6 a7 a8 : Value} (h : w.heap[g]? = some (.cells #[a0, a1, a2, a3, a4, a5, a6, a7, a8] t (0, 0))) : w.cell? ⟨g, 0, none⟩ = some a0 ∧ w.cell? ⟨g, 1, none⟩ = some a1 ∧ w.cell? ⟨g, 2, none⟩ = some a2 ∧ w.cell? ⟨g, 3, none⟩ = some a3 ∧ w.cell? ⟨g, 4, none⟩ = some a4 ∧ w.cell? ⟨g, 5, none⟩ = some a5 ∧ w.cell? ⟨g, 6, none⟩ = some a6 ∧ w.cell? ⟨g, 7, none⟩ = some a7 ∧ w.cell? ⟨g, 8, none⟩ = some a8 :=
  ⟨(blk_cell h 0).trans rfl, (blk_cell h 1).trans rfl, (blk_cell h 2).trans rfl, (blk_cell h 3).trans rfl, (blk_cell h 4).trans rfl, (blk_cell h 5).trans rfl, (blk_cell h 6).trans rfl, (blk_cell h 7).trans rfl, (blk_cell h 8).trans rfl⟩
theorem addr_off (a : Addr) (j : Nat) (hj : j ≠ 0) : a.add j = ⟨a.block, a.off + j, none⟩ := by
  unfold Addr.add
  split <;> simp_all
theorem bdrewN {B : Nat} {a w : World} (h : Below B a w) (n : Nat) : Below B a (w.drewN n) := ⟨h.os, h.tape, h.output, h.size, h.block⟩
end Go.Proofs.YtkpacfcklpoanaaGreat
