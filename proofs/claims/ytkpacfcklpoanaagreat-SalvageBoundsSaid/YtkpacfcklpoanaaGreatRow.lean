import Derived.Test.YtkpacfcklpoanaaGreatBase
set_option linter.unusedVariables false
set_option linter.unusedSimpArgs false
namespace Go.Proofs.YtkpacfcklpoanaaGreat
open Go.RowKit
/-- How values of a Go type lie in a slice. -/
structure Row (t e size bytes : Nat) {α : Type} (enc : α → List Value) : Prop where
  ht : Tryz.prog.underlying t = some (.slice e)
  hi : ∃ i z, Tryz.prog.info? e = some i ∧ i.zero = some z ∧ z.cells.size = size ∧ i.size = size ∧ i.bytes = bytes
  hs : 0 < size
  hl : ∀ a, (enc a).length = size
  h1 : ∀ a, ∀ u ∈ enc a, u.oneCell' = true
def rowOf {α : Type} (enc : α → List Value) (xs : List α) : List Value := xs.flatMap enc
theorem rowOf_append {α : Type} (enc : α → List Value) (xs ys : List α) : rowOf enc (xs ++ ys) = rowOf enc xs ++ rowOf enc ys := by simp [rowOf]
theorem rowOf_length {α : Type} {enc : α → List Value} {size : Nat} (hl : ∀ a, (enc a).length = size) (xs : List α) : (rowOf enc xs).length = xs.length * size := by
  induction xs with
  | nil => simp [rowOf]
  | cons x l ih =>
    simp only [rowOf, List.flatMap_cons, List.length_append, hl, List.length_cons] at ih ⊢
    rw [ih, Nat.add_mul]; omega
theorem rowOf_at {α : Type} {enc : α → List Value} {size : Nat} (hl : ∀ a, (enc a).length = size) (xs : List α) (j i : Nat) (hi : i < size) (x : α) (hj : xs[j]? = some x) : (rowOf enc xs)[j * size + i]? = (enc x)[i]? := by
  induction xs generalizing j with
  | nil => simp at hj
  | cons y l ih =>
    cases j with
    | zero =>
      simp at hj
      subst hj
      simp only [rowOf, List.flatMap_cons, Nat.zero_mul, Nat.zero_add]
      rw [List.getElem?_append_left (by rw [hl]; exact hi)]
    | succ j =>
      have := ih j (by simpa using hj)
      simp only [rowOf, List.flatMap_cons] at this ⊢
      rw [List.getElem?_append_right (by rw [hl, Nat.add_mul]; omega), hl, ← this]
      congr 1
      rw [Nat.add_mul]; omega
theorem rowOf_one {α : Type} {enc : α → List Value} (h1 : ∀ a, ∀ u ∈ enc a, u.oneCell' = true) (xs : List α) : ∀ u ∈ rowOf enc xs, u.oneCell' = true := by
  intro u hu
  simp only [rowOf, List.mem_flatMap] at hu
  obtain ⟨a, _, ha⟩ := hu
  exact h1 a u ha
/-- A slice at A reads the values xs. -/
def RV {α : Type} (enc : α → List Value) (w : World) (A : Option Addr) (xs : List α) : Prop := RC w A (rowOf enc xs)
/-- .. of which block B and what stands behind it hold nothing. -/
def RVD {α : Type} (enc : α → List Value) (B : Nat) (w : World) (A : Option Addr) (xs : List α) : Prop :=
  0 < (rowOf enc xs).length → ∃ a, A = some a ∧ a.block < B ∧ ∀ j u, (rowOf enc xs)[j]? = some u → w.cell? (a.add j) = some u
section
variable {α : Type} {enc : α → List Value}
theorem RVD.rv {B : Nat} {w : World} {A : Option Addr} {xs : List α} (h : RVD enc B w A xs) : RV enc w A xs := fun h0 => by
  obtain ⟨a, h1, _, h3⟩ := h h0
  exact ⟨a, h1, h3⟩
theorem RVD.below {B : Nat} {w w1 : World} {A : Option Addr} {xs : List α} (h : RVD enc B w A xs) (hb : Below B w w1) : RVD enc B w1 A xs := fun h0 => by
  obtain ⟨a, rfl, hl, hc⟩ := h h0
  exact ⟨a, rfl, hl, fun j u hj => (hb.cell (by rw [addr_add_block]; exact hl)).trans (hc j u hj)⟩
theorem RVD.mono {B B' : Nat} {w : World} {A : Option Addr} {xs : List α} (h : RVD enc B w A xs) (hb : B ≤ B') : RVD enc B' w A xs := fun h0 => by
  obtain ⟨a, rfl, hl, hc⟩ := h h0
  exact ⟨a, rfl, by omega, hc⟩
theorem RV.rvd {w : World} {A : Option Addr} {xs : List α} (h : RV enc w A xs) : RVD enc w.heap.size w A xs := fun h0 => by
  obtain ⟨a, rfl, hc⟩ := h h0
  obtain ⟨u, hu⟩ : ∃ u, (rowOf enc xs)[0]? = some u := ⟨_, List.getElem?_eq_getElem h0⟩
  have := World.block_lt_of_cell? w _ (hc 0 u hu)
  rw [addr_add_block] at this
  exact ⟨a, rfl, this, hc⟩
theorem RV.own {w : World} {base e size n c : Nat} {A : Option Addr} {xs : List α} (h : w.ownsRow base e size (.slice A n c) n (rowOf enc xs)) : RV enc w A xs := fun h0 => by
  have hn : 0 < n := by
    rcases Nat.eq_zero_or_pos n with h1 | h1
    · have := h.1; rw [h1, Nat.zero_mul] at this; omega
    · exact h1
  obtain ⟨g, cap, he, _, _⟩ := h.form hn
  injection he with h1 h2 h3
  subst h1
  exact ⟨_, rfl, fun j u hu => h.cells (g := g) rfl j u hu⟩
/-- A row of values that the call itself made. -/
def OV (enc : α → List Value) (w : World) (base e size : Nat) (v : Value) (xs : List α) : Prop := w.ownsRow base e size v xs.length (rowOf enc xs)
theorem OV.nil (w : World) (base e size : Nat) : OV enc w base e size (.slice none 0 0) [] := own_nil _ _ _ _
theorem append_v {t e size bytes : Nat} (hR : Row t e size bytes enc) {w : World} {ops : Array Oper} {rest : List Oper} {o : Oper} {a : Act} {Q : Exit → Act → World → Prop} (hgd : o.guard = none) (s x : Operand)
    (ho : o.op = .call { callee := .builtin .append, args := #[s, x], argTypes := #[t, t] })
    (base : Nat) (v : Value) (xs : List α) (hs : a.eval s = v) (hown : OV enc w base e size v xs)
    (A : Option Addr) (c n : Nat) (ys : List α) (hn : ys.length = n) (hx : a.eval x = .slice A n c) (hr : RV enc w A ys) (hle : (xs.length + ys.length) * (bytes + 1) ≤ 140737488355328) (hbase : base ≤ w.heap.size)
    (h : ∀ A' c' zs w', Hid (zs = xs ++ ys) → OV enc w' base e size (.slice A' zs.length c') zs → w'.ownsRow base e size (.slice A' zs.length c') zs.length (rowOf enc zs) → w.grownBy w' v.ownBlock → wpList Tryz.prog ops Q rest (a.put o.dst (.slice A' zs.length c')) w') : wpList Tryz.prog ops Q (o :: rest) a w := by
  subst hn
  obtain ⟨i, z, hi, hz, hzs, hsi, hby⟩ := hR.hi
  have hl1 : xs.length + ys.length ≤ 140737488355328 := Nat.le_trans (Nat.le_mul_of_pos_right _ (by omega)) hle
  have hl2 : (xs.length + ys.length) * bytes ≤ 140737488355328 := Nat.le_trans (Nat.mul_le_mul_left _ (by omega)) hle
  refine wpList_append_rd hgd s x t ho base e i z size bytes hR.ht hi hz hsi hby hzs hR.hs v xs.length (rowOf enc xs) hs hown A ys.length c (rowOf enc ys) hx (rowOf_length hR.hl ys) hr (rowOf_one hR.h1 ys) (by unfold maxLen; omega) hl2 hbase ?_
  intro v' w' h1 h2 _
  rw [← List.length_append, ← rowOf_append] at h1
  obtain ⟨A', c', rfl⟩ := own_slice h1
  exact h A' c' (xs ++ ys) w' rfl h1 h1 h2
set_option maxRecDepth 100000 in
theorem step_append_v {t e size bytes : Nat} (hR : Row t e size bytes enc) {w : World} {ops : Array Oper} {o : Oper} {a : Act} {K : Act → World → Prop} {Q : Exit → Act → World → Prop} {E : Prop} (hgd : o.guard = none) (s x : Operand)
    (ho : o.op = .call { callee := .builtin .append, args := #[s, x], argTypes := #[t, t] })
    (base : Nat) (v : Value) (xs : List α) (hs : a.eval s = v) (hown : OV enc w base e size v xs)
    (A : Option Addr) (c n : Nat) (ys : List α) (hn : ys.length = n) (hx : a.eval x = .slice A n c) (hr : RV enc w A ys) (hle : (xs.length + ys.length) * (bytes + 1) ≤ 140737488355328) (hbase : base ≤ w.heap.size)
    (h : ∀ A' c' zs w', Hid (zs = xs ++ ys) → OV enc w' base e size (.slice A' zs.length c') zs → w'.ownsRow base e size (.slice A' zs.length c') zs.length (rowOf enc zs) → w.grownBy w' v.ownBlock → K (a.put o.dst (.slice A' zs.length c')) w') :
    if Region.wanted o (yielded ops a.tmps) = true then Oper.wp Tryz.prog o a w K Q else E := by
  have hw : Region.wanted o (yielded ops a.tmps) = true := by simp [Region.wanted, hgd]
  rw [if_pos hw]
  subst hn
  obtain ⟨i, z, hi, hz, hzs, hsi, hby⟩ := hR.hi
  have hl1 : xs.length + ys.length ≤ 140737488355328 := Nat.le_trans (Nat.le_mul_of_pos_right _ (by omega)) hle
  have hl2 : (xs.length + ys.length) * bytes ≤ 140737488355328 := Nat.le_trans (Nat.mul_le_mul_left _ (by omega)) hle
  cases A with
  | some ad =>
    refine wp_append_own w s x t ho base e i z size bytes hR.ht hi hz hsi hby hzs hR.hs v xs.length (rowOf enc xs) hs hown ad ys.length c (rowOf enc ys) hx (rowOf_length hR.hl ys) (fun j u hu => ?_) (rowOf_one hR.h1 ys) (by unfold maxLen; omega) hl2 hbase fun v' w' h1 h2 _ => ?_
    · obtain ⟨ad', e', hc⟩ := hr (by have := (List.getElem?_eq_some_iff.1 hu).1; omega)
      injection e' with e'
      subst e'
      exact hc j u hu
    · rw [← List.length_append, ← rowOf_append] at h1
      obtain ⟨A', c', rfl⟩ := own_slice h1
      exact h A' c' (xs ++ ys) w' rfl h1 h1 h2
  | none =>
    have hl0 : ys = [] := by
      cases ys with
      | nil => rfl
      | cons y l => obtain ⟨a, e, _⟩ := hr (by rw [rowOf_length hR.hl]; have := hR.hs; simp [Nat.add_mul]; omega); cases e
    subst hl0
    have hrun : ∀ ty, (Builtin.append_ #[t, t] ty #[v, .slice none 0 c]).run Tryz.prog w = .ok v w := by
      intro ty
      rcases hown.2 with ⟨rfl, h0⟩ | ⟨g, cap, cur, rfl, _, _, hnc, _⟩
      · simp [Builtin.append_, run_underlying hR.ht, sizeOf, typeInfo, hi, Builtin.lenOf, Builtin.firstCells]
      · simp [Builtin.append_, run_underlying hR.ht, sizeOf, typeInfo, hi, Builtin.lenOf, Builtin.firstCells, hnc, storeCells]
    obtain ⟨A', c', rfl⟩ := own_slice hown
    have hx' : a.eval x = .slice none 0 c := hx
    unfold Oper.wp
    simp [execOp, ho, resolve, invoke, builtin, hs, hx', hrun, Result.andThen]
    exact h A' c' xs w (by simp [Hid]) hown hown ⟨rfl, rfl, rfl, Nat.le_refl _, fun _ _ _ => rfl⟩
/-- A value that lies in a block of its own. -/
theorem RV.one (w : World) (x : α) (t : TypeId) (cs : Array Value) (h : cs.toList = enc x) : RV enc (w.alloc (.cells cs t)) (some ⟨w.heap.size, 0, none⟩) [x] := fun _ => by
  refine ⟨_, rfl, fun j u hu => ?_⟩
  have e : (⟨w.heap.size, 0, none⟩ : Addr).add j = ⟨w.heap.size, j, none⟩ := by
    unfold Addr.add
    split <;> simp_all
  rw [e, blk_cell (heap_new w _) j, ← Array.getElem?_toList, h]
  simpa [rowOf] using hu
end
theorem RV.drew {α : Type} {enc : α → List Value} {w : World} {A : Option Addr} {xs : List α} (h : RV enc w A xs) : RV enc w.drew A xs := h
theorem OV.drew {α : Type} {enc : α → List Value} {w : World} {base e size : Nat} {v : Value} {xs : List α} (h : OV enc w base e size v xs) : OV enc w.drew base e size v xs := h
theorem OV.alloc {α : Type} {enc : α → List Value} {w : World} {base e size : Nat} {v : Value} {xs : List α} (h : OV enc w base e size v xs) (o : Obj) : OV enc (w.alloc o) base e size v xs := World.ownsRow.alloc h o
theorem own_keep {w w1 : World} {base n : Nat} {e : TypeId} {size : Nat} {v : Value} {xs : List Value} (h : w.ownsRow base e size v n xs) (hb : Below w.heap.size w w1) : w1.ownsRow base e size v n xs := by
  refine ⟨h.1, ?_⟩
  rcases h.2 with h2 | ⟨g', cap, cur, h6, h7, h8, h9⟩
  · exact .inl h2
  · exact .inr ⟨g', cap, cur, h6, h7, blk_below h8 hb (blk_lt h8), h9⟩
theorem below_setG {B g : Nat} {a w : World} (h : Below B a w) (hg : B ≤ g) (i : Nat) (u : Value) : Below B a (w.setCell ⟨g, i, none⟩ u) := h.setCell hg u
/-- Of what was there block g and one row alone may have turned. -/
structure OnlyR (g : Nat) (row : Option Nat) (w w' : World) : Prop where
  os : w'.os = w.os
  tape : w'.tape = w.tape
  output : w'.output = w.output
  size : w.heap.size ≤ w'.heap.size
  block : ∀ k, k < w.heap.size → k ≠ g → some k ≠ row → w'.heap[k]? = w.heap[k]?
theorem OnlyR.refl (g : Nat) (row : Option Nat) (w : World) : OnlyR g row w w := ⟨rfl, rfl, rfl, Nat.le_refl _, fun _ _ _ _ => rfl⟩
theorem OnlyR.trans {g : Nat} {row : Option Nat} {a b c : World} (h : OnlyR g row a b) (k : OnlyR g row b c) : OnlyR g row a c :=
  ⟨k.os.trans h.os, k.tape.trans h.tape, k.output.trans h.output, Nat.le_trans h.size k.size, fun i hi hg hr => (k.block i (Nat.lt_of_lt_of_le hi h.size) hg hr).trans (h.block i hi hg hr)⟩
theorem OnlyR.alloc {g : Nat} {row : Option Nat} {a w : World} (h : OnlyR g row a w) (o : Obj) : OnlyR g row a (w.alloc o) :=
  h.trans ⟨rfl, rfl, rfl, by simp, fun k hk _ _ => Below.heap_alloc _ _ _ hk⟩
theorem OnlyR.drew {g : Nat} {row : Option Nat} {a w : World} (h : OnlyR g row a w) : OnlyR g row a w.drew := ⟨h.os, h.tape, h.output, h.size, h.block⟩
theorem OnlyR.grown {g : Nat} {row : Option Nat} {a w w' : World} (h : OnlyR g row a w) (hg : w.grownBy w' row) : OnlyR g row a w' :=
  h.trans ⟨hg.os, hg.tape, hg.output, hg.size, fun k hk _ hr => hg.block k hk hr⟩
theorem OnlyR.setG {g : Nat} {row : Option Nat} {a w : World} (h : OnlyR g row a w) (i : Nat) (u : Value) : OnlyR g row a (w.setCell ⟨g, i, none⟩ u) :=
  h.trans ⟨rfl, rfl, rfl, by simp [World.setCell], fun k _ hk _ => Below.heap_setCell _ _ _ _ (by simpa using hk)⟩
theorem OnlyR.below {g B : Nat} {row : Option Nat} {w w' : World} (h : OnlyR g row w w') (hB : B ≤ w.heap.size) (hg : B ≤ g) (hr : ∀ k, row = some k → B ≤ k) : Below B w w' :=
  ⟨h.os, h.tape, h.output, h.size, fun k hk => h.block k (by omega) (by omega) (fun e => by have := hr k e.symm; omega)⟩
/-- How long a slice is. -/
def slN : Value → Nat
  | .slice _ n _ => n
  | _ => 0
/-- Two rows of other types of elements are not one. -/
theorem own_own_ne {w : World} {b1 b2 n1 n2 s1 s2 : Nat} {e1 e2 : TypeId} {v1 v2 : Value} {xs ys : List Value} (h1 : w.ownsRow b1 e1 s1 v1 n1 xs) (h2 : w.ownsRow b2 e2 s2 v2 n2 ys) (hne : e1 ≠ e2) : v1.ownBlock = none ∨ v1.ownBlock ≠ v2.ownBlock := by
  rcases h1.2 with ⟨rfl, _⟩ | ⟨g, cap, cur, rfl, _, hh, _⟩
  · exact .inl rfl
  · refine .inr ?_
    have := own_ne hh h2 (Ne.symm hne)
    simpa [Value.ownBlock] using this
end Go.Proofs.YtkpacfcklpoanaaGreat
