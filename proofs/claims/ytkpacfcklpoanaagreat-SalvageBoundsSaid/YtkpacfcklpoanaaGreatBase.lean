/- Words that all walks of this seat share: bytes as values, slices of bytes that are read, numbers out of bytes. -/
import Derived.Test.YtkpacfcklpoanaaGreatProg
import Derived.Below
import Derived.WalkKit
import Derived.KernelRfl
import Derived.Laws.OwnMore
import Derived.Maps.AppendAt
import Derived.OneCell
import Derived.Deep.Draws
import Derived.Deep.AppendLies
import Derived.OwnWalk
import Derived.Laws.BytesArg
import Derived.Laws.MakeOwn
import Derived.Deep.OwnRows
import Derived.Tactics
import Derived.Lib.ConvBytes
import Derived.Laws.Slices
import Derived.RowKit3
import Derived.Deep.LoopGhost
import Derived.Deep.QuietTactic
import Derived.BigQuiet
import Derived.WideLaws
import Derived.Deep.RegionHeld3
import Derived.Laws.Rows
import Derived.Lib.AppendStr
import Derived.ArgAppend
import Derived.Laws.AppendOwnNone
import Derived.RegionTactic
import Derived.ChangeAlike
import Derived.Outline
import Derived.StillTailTactics
import Derived.WalkSpells
import Derived.WalkLawsBesides
import Derived.Laws.CopyOwn
import Derived.Laws.IdiomStrings
import Derived.Shelf.Bytes.SlIndexAt
import Derived.Laws.BitsLemmas
import Derived.IntWalk
set_option linter.unusedVariables false
set_option linter.unusedSimpArgs false
namespace Go.Proofs.YtkpacfcklpoanaaGreat
open Go.RowKit

/-- Bytes as values. -/
def B8 (l : List UInt8) : List Value := l.map fun b => .int .u8 (b.toNat : Int)
theorem B8_length (l : List UInt8) : (B8 l).length = l.length := by simp [B8]
theorem B8_append (l m : List UInt8) : B8 (l ++ m) = B8 l ++ B8 m := by simp [B8]
theorem B8_getElem? (l : List UInt8) (j : Nat) : (B8 l)[j]? = (l[j]?).map fun b => Value.int .u8 (b.toNat : Int) := by simp [B8]
theorem B8_oneCell (l : List UInt8) : ∀ u ∈ B8 l, u.oneCell' = true := by
  intro u hu
  simp only [B8, List.mem_map] at hu
  obtain ⟨b, _, rfl⟩ := hu
  rfl
/-- A slice of bytes at A reads l. -/
def RB (w : World) (A : Option Addr) (l : List UInt8) : Prop :=
  0 < l.length → ∃ a, A = some a ∧ ∀ j (h : j < l.length), w.cell? (a.add j) = some (.int .u8 ((l[j]'h).toNat : Int))
theorem RB.below {w w1 : World} {A : Option Addr} {l : List UInt8} (h : RB w A l) (hb : Below w.heap.size w w1) : RB w1 A l := fun h0 => by
  obtain ⟨a, rfl, hc⟩ := h h0
  exact ⟨a, rfl, fun j hj => (hb.cell (World.block_lt_of_cell? w _ (hc j hj))).trans (hc j hj)⟩
theorem RB.nil (w : World) (A : Option Addr) : RB w A [] := fun h => absurd h (by simp)
/-- The same, in a block below B: it stays so whatever becomes of what lies from B on. -/
def RD (B : Nat) (w : World) (A : Option Addr) (l : List UInt8) : Prop :=
  0 < l.length → ∃ a, A = some a ∧ a.block < B ∧ ∀ j (h : j < l.length), w.cell? (a.add j) = some (.int .u8 ((l[j]'h).toNat : Int))
theorem RD.rb {B : Nat} {w : World} {A : Option Addr} {l : List UInt8} (h : RD B w A l) : RB w A l := fun h0 => by
  obtain ⟨a, h1, _, h3⟩ := h h0
  exact ⟨a, h1, h3⟩
theorem addr_add_add (a : Addr) (i j : Nat) : (a.add i).add j = a.add (i + j) := by
  unfold Addr.add
  by_cases hj : j = 0
  · simp [hj]
  · by_cases hi : i = 0 <;> simp [hi, hj, Nat.add_assoc]
theorem addr_add_block (a : Addr) (j : Nat) : (a.add j).block = a.block := by
  unfold Addr.add
  split <;> rfl
theorem RD.below {B : Nat} {w w1 : World} {A : Option Addr} {l : List UInt8} (h : RD B w A l) (hb : Below B w w1) : RD B w1 A l := fun h0 => by
  obtain ⟨a, rfl, hl, hc⟩ := h h0
  exact ⟨a, rfl, hl, fun j hj => (hb.cell (by rw [addr_add_block]; exact hl)).trans (hc j hj)⟩
theorem RD.mono {B B' : Nat} {w : World} {A : Option Addr} {l : List UInt8} (h : RD B w A l) (hb : B ≤ B') : RD B' w A l := fun h0 => by
  obtain ⟨a, rfl, hl, hc⟩ := h h0
  exact ⟨a, rfl, by omega, hc⟩
theorem RB.rd {w : World} {A : Option Addr} {l : List UInt8} (h : RB w A l) : RD w.heap.size w A l := fun h0 => by
  obtain ⟨a, rfl, hc⟩ := h h0
  have := World.block_lt_of_cell? w _ (hc 0 h0)
  rw [addr_add_block] at this
  exact ⟨a, rfl, this, hc⟩
theorem RD.nil (B : Nat) (w : World) (A : Option Addr) : RD B w A [] := fun h => absurd h (by simp)
/-- Bytes that are read at a block of which S holds. -/
def RS (S : Nat → Prop) (w : World) (A : Option Addr) (l : List UInt8) : Prop :=
  0 < l.length → ∃ a, A = some a ∧ S a.block ∧ ∀ j (h : j < l.length), w.cell? (a.add j) = some (.int .u8 ((l[j]'h).toNat : Int))
theorem RS.rb {S : Nat → Prop} {w : World} {A : Option Addr} {l : List UInt8} (h : RS S w A l) : RB w A l := fun h0 => by
  obtain ⟨a, h1, _, h3⟩ := h h0
  exact ⟨a, h1, h3⟩
theorem RS.keep {S : Nat → Prop} {w w1 : World} {A : Option Addr} {l : List UInt8} (h : RS S w A l) (hb : ∀ k, S k → w1.heap[k]? = w.heap[k]?) : RS S w1 A l := fun h0 => by
  obtain ⟨a, rfl, hl, hc⟩ := h h0
  exact ⟨a, rfl, hl, fun j hj => (World.cell?_of_block (by rw [addr_add_block]; exact hb _ hl)).trans (hc j hj)⟩
theorem RS.setCell {g : Nat} {w : World} {A : Option Addr} {l : List UInt8} (h : RS (· ≠ g) w A l) (o : Nat) (u : Value) : RS (· ≠ g) (w.setCell ⟨g, o, none⟩ u) A l :=
  h.keep fun k hk => Below.heap_setCell _ _ _ _ hk
/-- Cut from the front. -/
theorem RB.drop {w : World} {a : Addr} {l : List UInt8} (h : RB w (some a) l) (k : Nat) : RB w (some (a.add k)) (l.drop k) := fun h0 => by
  simp at h0
  obtain ⟨a', e, hc⟩ := h (by omega)
  injection e with e
  subst e
  refine ⟨_, rfl, fun j hj => ?_⟩
  rw [addr_add_add, hc (k + j) (by simp at hj; omega)]
  simp
theorem RS.drop {S : Nat → Prop} {w : World} {a : Addr} {l : List UInt8} (h : RS S w (some a) l) (k : Nat) : RS S w (some (a.add k)) (l.drop k) := fun h0 => by
  simp at h0
  obtain ⟨a', e, hs, hc⟩ := h (by omega)
  injection e with e
  subst e
  refine ⟨_, rfl, by rw [addr_add_block]; exact hs, fun j hj => ?_⟩
  rw [addr_add_add, hc (k + j) (by simp at hj; omega)]
  simp
/-- Where a slice of elements of s cells begins, when cut from the front. -/
def slA (s : Nat) (A : Option Addr) (lo c : Nat) : Option Addr := if c = lo then A else A.map (·.add (lo * s))
theorem RS.sl {S : Nat → Prop} {w : World} {A : Option Addr} {l : List UInt8} (h : RS S w A l) (lo c : Nat) (hc : l.length ≤ c) : RS S w (slA 1 A lo c) (l.drop lo) := fun h0 => by
  simp at h0
  obtain ⟨a, rfl, _, _⟩ := h (by omega)
  unfold slA
  rw [if_neg (by omega), Option.map_some, Nat.mul_one]
  exact h.drop lo (by simpa using h0)
theorem RB.rs {w : World} {A : Option Addr} {l : List UInt8} (h : RB w A l) : RS (fun _ => True) w A l := fun h0 => by
  obtain ⟨a, rfl, hc⟩ := h h0
  exact ⟨a, rfl, trivial, hc⟩
theorem RB.sl {w : World} {A : Option Addr} {l : List UInt8} (h : RB w A l) (lo c : Nat) (hc : l.length ≤ c) : RB w (slA 1 A lo c) (l.drop lo) := (h.rs.sl lo c hc).rb
theorem RS.take {S : Nat → Prop} {w : World} {A : Option Addr} {l : List UInt8} (h : RS S w A l) (k : Nat) : RS S w A (l.take k) := fun h0 => by
  simp at h0
  obtain ⟨a, rfl, hs, hc⟩ := h (by cases l <;> simp_all)
  refine ⟨a, rfl, hs, fun j hj => ?_⟩
  simp at hj
  rw [hc j (by omega)]
  simp
theorem RB.take {w : World} {A : Option Addr} {l : List UInt8} (h : RB w A l) (k : Nat) : RB w A (l.take k) := (h.rs.take k).rb
/-- 's[lo:]', 's[lo:hi]', 's[:hi]'. -/
theorem run_sl_l' {P : Program} (t : TypeId) (sz : Nat) (ht : P.underlying t = some (.slice (P.elem t))) (hs : ∀ w, (sizeOf (P.elem t)).run P w = .ok sz w) (w : World) (A : Option Addr) (n c lo : Nat) (h : lo ≤ n) :
    (Instr.slice t (.slice A n c) (some (.int .i64 lo)) none none).run P w = .ok (.slice (slA sz A lo c) (n - lo) (c - lo)) w := by
  rw [run_slice_l w t A n c ht .i64 lo (by omega) (by omega)]
  simp [hs, Result.andThen, sliced, slA]
theorem run_sl_lh' {P : Program} (t : TypeId) (sz : Nat) (ht : P.underlying t = some (.slice (P.elem t))) (hs : ∀ w, (sizeOf (P.elem t)).run P w = .ok sz w) (w : World) (A : Option Addr) (n c lo hi : Nat) (h : lo ≤ hi) (h2 : hi ≤ c) :
    (Instr.slice t (.slice A n c) (some (.int .i64 lo)) (some (.int .i64 hi)) none).run P w = .ok (.slice (slA sz A lo c) (hi - lo) (c - lo)) w := by
  rw [run_slice_lh w t A n c ht .i64 .i64 lo hi (by omega) (by omega) (by omega)]
  simp [hs, Result.andThen, sliced, slA]
theorem run_sl_h' {P : Program} (t : TypeId) (sz : Nat) (ht : P.underlying t = some (.slice (P.elem t))) (hs : ∀ w, (sizeOf (P.elem t)).run P w = .ok sz w) (w : World) (A : Option Addr) (n c hi : Nat) (h2 : hi ≤ c) :
    (Instr.slice t (.slice A n c) none (some (.int .i64 hi)) none).run P w = .ok (.slice A hi c) w := by
  rw [run_slice_h w t A n c ht .i64 hi (by omega) (by omega)]
  have e : ∀ a : Addr, a.add 0 = a := fun a => by simp [Addr.add]
  cases A <;> simp [hs, Result.andThen, sliced, e]
theorem size22 (w : World) : (sizeOf (Tryz.prog.elem 22)).run Tryz.prog w = .ok 1 w := by kernel_rfl
theorem run_sl_l (w : World) (A : Option Addr) (n c lo : Nat) (h : lo ≤ n) : (Instr.slice 22 (.slice A n c) (some (.int .i64 lo)) none none).run Tryz.prog w = .ok (.slice (slA 1 A lo c) (n - lo) (c - lo)) w :=
  run_sl_l' 22 1 (by kernel_rfl) size22 w A n c lo h
theorem run_sl_lh (w : World) (A : Option Addr) (n c lo hi : Nat) (h : lo ≤ hi) (h2 : hi ≤ c) : (Instr.slice 22 (.slice A n c) (some (.int .i64 lo)) (some (.int .i64 hi)) none).run Tryz.prog w = .ok (.slice (slA 1 A lo c) (hi - lo) (c - lo)) w :=
  run_sl_lh' 22 1 (by kernel_rfl) size22 w A n c lo hi h h2
theorem run_sl_h (w : World) (A : Option Addr) (n c hi : Nat) (h2 : hi ≤ c) : (Instr.slice 22 (.slice A n c) none (some (.int .i64 hi)) none).run Tryz.prog w = .ok (.slice A hi c) w :=
  run_sl_h' 22 1 (by kernel_rfl) size22 w A n c hi h2
theorem blk_set {w : World} {g : Nat} {t : TypeId} {cs : Array Value} (h : w.heap[g]? = some (.cells cs t (0, 0))) (i : Nat) (u : Value) : (w.setCell ⟨g, i, none⟩ u).heap[g]? = some (.cells (cs.setIfInBounds i u) t (0, 0)) := by
  simp [World.setCell, Array.getElem?_modify, h]
theorem blk_far {w : World} {g : Nat} {o : Obj} (h : w.heap[g]? = some o) {p : Addr} (hp : g ≠ p.block) (u : Value) : (w.setCell p u).heap[g]? = some o := (Below.heap_setCell w p u g hp).trans h
theorem blk_lt {w : World} {g : Nat} {o : Obj} (h : w.heap[g]? = some o) : g < w.heap.size := (Array.getElem?_eq_some_iff.1 h).1
theorem blk_cell {w : World} {g : Nat} {t : TypeId} {cs : Array Value} (h : w.heap[g]? = some (.cells cs t (0, 0))) (i : Nat) : w.cell? ⟨g, i, none⟩ = cs[i]? := by
  simp [World.cell?, h]
theorem blk_frozen {w : World} {g : Nat} {t : TypeId} {cs : Array Value} (h : w.heap[g]? = some (.cells cs t (0, 0))) (i : Nat) : w.frozen? ⟨g, i, none⟩ = false := by simp [World.frozen?, h]
theorem blk_grown {w w1 : World} {g : Nat} {o : Obj} {row : Option Nat} (h : w.heap[g]? = some o) (hg : w.grownBy w1 row) (hne : some g ≠ row) : w1.heap[g]? = some o := (hg.block g (blk_lt h) hne).trans h
theorem blk_below {w w1 : World} {g B : Nat} {o : Obj} (h : w.heap[g]? = some o) (hb : Below B w w1) (hg : g < B) : w1.heap[g]? = some o := (hb.block g hg).trans h
theorem own_ne {w : World} {g : Nat} {t e : TypeId} {cs : Array Value} {fr : Nat × Nat} {base size n : Nat} {v : Value} {xs : List Value} (h : w.heap[g]? = some (.cells cs t fr)) (ho : w.ownsRow base e size v n xs) (ht : e ≠ t) : some g ≠ v.ownBlock := by
  rcases ho.2 with ⟨rfl, _⟩ | ⟨g', cap, cur, rfl, _, hh, _⟩
  · simp [Value.ownBlock]
  · simp only [Value.ownBlock, ne_eq, Option.some.injEq]
    rintro rfl
    rw [h] at hh
    injection hh with hh
    injection hh with _ ht2
    exact ht ht2.symm
theorem own_base {w : World} {base : Nat} {e : TypeId} {size n : Nat} {v : Value} {xs : List Value} (h : w.ownsRow base e size v n xs) (k : Nat) (hk : v.ownBlock = some k) : base ≤ k := by
  rcases h.2 with ⟨rfl, _⟩ | ⟨g, cap, cur, rfl, hb, _⟩
  · simp [Value.ownBlock] at hk
  · have : g = k := by simpa [Value.ownBlock] using hk
    omega
theorem own_far {w : World} {base : Nat} {e : TypeId} {size n : Nat} {v : Value} {xs : List Value} (h : w.ownsRow base e size v n xs) (p : Addr) (u : Value) (hp : v.ownBlock ≠ some p.block) : (w.setCell p u).ownsRow base e size v n xs := by
  obtain ⟨h1, h2⟩ := h
  refine ⟨h1, ?_⟩
  rcases h2 with h2 | ⟨g, cap, cur, rfl, hg, hh, r⟩
  · exact .inl h2
  · exact .inr ⟨g, cap, cur, rfl, hg, by rw [Below.heap_setCell _ _ _ _ (fun e => hp (by simp [Value.ownBlock, e]))]; exact hh, r⟩
theorem below_undrew {B : Nat} {w w1 : World} (h : Below B w.drew w1) : Below B w w1 := ⟨h.os, h.tape, h.output, h.size, h.block⟩
theorem below_undrewN {B n : Nat} {w w1 : World} (h : Below B (w.drewN n) w1) : Below B w w1 := ⟨h.os, h.tape, h.output, h.size, h.block⟩
theorem quietC {P : Program} {f : FuncId} {args : Array Value} {w : World} {v : Value} (h : Calls P f args w fun e w' => e = .returned v ∧ w = w') : Calls P f args w fun e w' => e = .returned v ∧ w' = w :=
  h.mono fun _ _ h => ⟨h.1, h.2.symm⟩
theorem own_nil (W : World) (base : Nat) (e : TypeId) (size : Nat) : W.ownsRow base e size (.slice none 0 0) 0 [] := ⟨by simp, .inl ⟨rfl, rfl⟩⟩
/-- A row of the call's own reads. -/
theorem RB.own {w : World} {base n : Nat} {A : Option Addr} {c : Nat} {l : List UInt8} (h : w.ownsRow base 5 1 (.slice A n c) l.length (B8 l)) : RB w A l := fun h0 => by
  obtain ⟨g, cap, he, _, _⟩ := h.form h0
  injection he with h1 h2 h3
  subst h1
  refine ⟨_, rfl, fun j hj => ?_⟩
  have hc := h.cells (g := g) rfl j (.int .u8 ((l[j]'hj).toNat : Int)) (by simp [B8_getElem?, hj])
  simpa [Addr.add] using hc

/-- Cells that stand at A. -/
def RC (w : World) (A : Option Addr) (cs : List Value) : Prop :=
  0 < cs.length → ∃ a, A = some a ∧ ∀ j u, cs[j]? = some u → w.cell? (a.add j) = some u
theorem RB.cells {w : World} {A : Option Addr} {l : List UInt8} (h : RB w A l) : RC w A (B8 l) := fun h0 => by
  rw [B8_length] at h0
  obtain ⟨a, rfl, hc⟩ := h h0
  refine ⟨a, rfl, fun j u hu => ?_⟩
  rw [B8_getElem?] at hu
  by_cases hj : j < l.length
  · rw [List.getElem?_eq_getElem hj] at hu
    simp at hu
    rw [hc j hj, hu]
  · rw [List.getElem?_eq_none (by omega)] at hu
    simp at hu
/-- Append to a row of the call's own, whatever slice is the source. -/
theorem wpList_append_rd {P : Program} {w : World} {ops : Array Oper} {rest : List Oper} {o : Oper} {a : Act} {Q : Exit → Act → World → Prop} (hgd : o.guard = none) (s x : Operand) (t : TypeId)
    (ho : o.op = .call { callee := .builtin .append, args := #[s, x], argTypes := #[t, t] })
    (base : Nat) (e : TypeId) (i : TypeInfo) (z : Value) (size bytes : Nat) (ht : P.underlying t = some (.slice e)) (hi : P.info? e = some i) (hz : i.zero = some z)
    (hsize : i.size = size) (hby : i.bytes = bytes) (hzs : z.cells.size = size) (hsz : 0 < size)
    (v : Value) (n : Nat) (xs : List Value) (hs : a.eval s = v) (hown : w.ownsRow base e size v n xs)
    (A : Option Addr) (m c : Nat) (news : List Value) (hx : a.eval x = .slice A m c) (hl : news.length = m * size) (hnews : RC w A news) (h1 : ∀ u ∈ news, u.oneCell' = true)
    (h63 : n + m ≤ maxLen) (hbytes : (n + m) * bytes ≤ 140737488355328) (hbase : base ≤ w.heap.size)
    (h : ∀ v' w', w'.ownsRow base e size v' (n + m) (xs ++ news) → w.grownBy w' v.ownBlock → (v' = .slice none 0 0 ↔ v = .slice none 0 0 ∧ m = 0) → wpList P ops Q rest (a.put o.dst v') w') : wpList P ops Q (o :: rest) a w := by
  cases A with
  | some ad =>
    refine wpList_append_own w hgd s x t ho base e i z size bytes ht hi hz hsize hby hzs hsz v n xs hs hown ad m c news hx hl (fun j u hu => ?_) h1 h63 hbytes hbase h
    obtain ⟨ad', e', hc⟩ := hnews (by have := (List.getElem?_eq_some_iff.1 hu).1; omega)
    injection e' with e'
    subst e'
    exact hc j u hu
  | none =>
    have hn0 : news = [] := by
      cases news with
      | nil => rfl
      | cons y ys => obtain ⟨ad, e', _⟩ := hnews (by simp); cases e'
    subst hn0
    have hm : m = 0 := by
      have hl' : 0 = m * size := hl
      rcases Nat.eq_zero_or_pos m with h0 | h0
      · exact h0
      · have := Nat.mul_pos h0 hsz
        omega
    subst hm
    refine wpList_plain hgd fun K hK => ?_
    have hrun : ∀ ty, (Builtin.append_ #[t, t] ty #[v, .slice none 0 c]).run P w = .ok v w := by
      intro ty
      rcases hown.2 with ⟨rfl, rfl⟩ | ⟨g, cap, cur, rfl, _, _, hnc, _⟩
      · simp [Builtin.append_, run_underlying ht, sizeOf, typeInfo, hi, Builtin.lenOf, Builtin.firstCells]
      · simp [Builtin.append_, run_underlying ht, sizeOf, typeInfo, hi, Builtin.lenOf, Builtin.firstCells, hnc, storeCells]
    unfold Oper.wp
    simp [execOp, ho, resolve, invoke, builtin, hs, hx, hrun, Result.andThen]
    exact hK _ _ (h v w (by simpa using hown) ⟨rfl, rfl, rfl, Nat.le_refl _, fun _ _ _ => rfl⟩ (by simp))
def maxB : Nat := 140737488351232

theorem maxB_eq : maxB = 140737488351232 := rfl
theorem info5 : (Tryz.prog.info? 5).map (fun i => (i.zero, i.size, i.bytes)) = some (some (.int .u8 0), 1, 1) := by kernel_rfl
theorem append_bytes {w : World} {ops : Array Oper} {rest : List Oper} {o : Oper} {a : Act} {Q : Exit → Act → World → Prop} (hgd : o.guard = none) (s x : Operand)
    (ho : o.op = .call { callee := .builtin .append, args := #[s, x], argTypes := #[22, 22] })
    (base : Nat) (v : Value) (xs : List UInt8) (hs : a.eval s = v) (hown : w.ownsRow base 5 1 v xs.length (B8 xs))
    (A : Option Addr) (c : Nat) (ys : List UInt8) (hx : a.eval x = .slice A ys.length c) (hr : RB w A ys) (hle : xs.length + ys.length ≤ maxB) (hbase : base ≤ w.heap.size)
    (h : ∀ v' w', w'.ownsRow base 5 1 v' (xs ++ ys).length (B8 (xs ++ ys)) → w.grownBy w' v.ownBlock → (v' = .slice none 0 0 ↔ v = .slice none 0 0 ∧ ys.length = 0) → wpList Tryz.prog ops Q rest (a.put o.dst v') w') : wpList Tryz.prog ops Q (o :: rest) a w := by
  obtain ⟨i0, hi, hz0, hz1, hz2⟩ := info_parts info5
  rw [maxB_eq] at hle
  refine wpList_append_rd hgd s x 22 ho base 5 i0 (.int .u8 0) 1 1 Tryz.underlying22 hi hz0 hz1 hz2 rfl (by decide) v xs.length (B8 xs) hs hown A ys.length c (B8 ys) hx (by simp [B8_length]) hr.cells (B8_oneCell _) (by unfold maxLen; omega) (by omega) hbase ?_
  intro v' w' h1 h2 h3
  refine h v' w' ?_ h2 h3
  rw [List.length_append, B8_append]
  exact h1

/-- The number that bytes are, the lowest first. -/
def leVal : List UInt8 → Int
  | [] => 0
  | b :: l => (b.toNat : Int) + 256 * leVal l
theorem leVal_range (l : List UInt8) : 0 ≤ leVal l ∧ leVal l < 256 ^ l.length := by
  induction l with
  | nil => simp [leVal]
  | cons b l ih =>
    have := b.toNat_lt
    simp only [leVal, List.length_cons, Int.pow_succ]
    omega
theorem leVal_snoc (l : List UInt8) (b : UInt8) : leVal (l ++ [b]) = leVal l + 256 ^ l.length * (b.toNat : Int) := by
  induction l with
  | nil => simp [leVal]
  | cons c l ih =>
    simp only [leVal, List.cons_append, ih, List.length_cons, Int.pow_succ]
    have : ∀ a b c : Int, 256 * (a + b * c) = 256 * a + b * 256 * c := fun a b c => by rw [Int.mul_add, ← Int.mul_assoc, Int.mul_comm 256 b]
    rw [this]; omega
theorem pow256_le (n : Nat) (h : n ≤ 8) : (256 : Int) ^ n ≤ 18446744073709551616 := by
  have : ∀ k : Nat, k ≤ 8 → (256 : Int) ^ k ≤ 18446744073709551616 := by decide
  exact this n h
theorem leVal_u64 (l : List UInt8) (h : l.length ≤ 8) : 0 ≤ leVal l ∧ leVal l ≤ 18446744073709551615 := by
  have h1 := leVal_range l
  have h2 := pow256_le l.length h
  omega
theorem u64_wrap {n : Int} (h0 : 0 ≤ n) (h1 : n ≤ 18446744073709551615) : IntKind.u64.wrap n = n := by simp [IntKind.wrap, IntKind.bits, IntKind.signed]; omega
theorem u64_wrap_eq (n : Int) : IntKind.u64.wrap n = n % 18446744073709551616 := by simp [IntKind.wrap, IntKind.bits, IntKind.signed]
theorem u64_join (i : Nat) (x y : Int) (hx : 0 ≤ x) (hm : x % 2 ^ i = 0) (hx2 : x ≤ 18446744073709551615) (hy : 0 ≤ y) (hy2 : y < 2 ^ i) (hy3 : y ≤ 18446744073709551615) : bits .or .u64 x y = x + y :=
  bits_join .u64 64 (by decide) (fun n h0 h1 => u64_wrap h0 (by omega)) i x y hx hm (by omega) hy hy2 (by omega)
theorem bits_or_comm (k : IntKind) (x y : Int) : bits .or k x y = bits .or k y x := by
  simp [bits, Nat.or_comm]
theorem heap_new (w : World) (o : Obj) : (w.alloc o).heap[w.heap.size]? = some o := by
  show (w.heap.push _)[w.heap.size]? = _
  rw [Array.getElem?_push, if_pos rfl]
theorem blk_alloc {w : World} {g : Nat} {o : Obj} (h : w.heap[g]? = some o) (o' : Obj) : (w.alloc o').heap[g]? = some o := by
  rw [Below.heap_alloc _ _ _ (blk_lt h)]
  exact h
theorem RB.one (w : World) (x : Int) (b : UInt8) (h : (b.toNat : Int) = x) : RB (w.alloc (.cells #[.int .u8 x] 5)) (some ⟨w.heap.size, 0, none⟩) [b] := fun _ => by
  refine ⟨_, rfl, fun j hj => ?_⟩
  obtain rfl : j = 0 := by simpa using hj
  exact (blk_cell (heap_new w _) 0).trans (by simp [h])
theorem own_slice {w : World} {base n : Nat} {e : TypeId} {size : Nat} {v : Value} {xs : List Value} (h : w.ownsRow base e size v n xs) : ∃ A c, v = .slice A n c := by
  rcases h.2 with ⟨rfl, rfl⟩ | ⟨g, cap, cur, rfl, _⟩
  · exact ⟨none, 0, rfl⟩
  · exact ⟨_, cap, rfl⟩
theorem own_cap {w : World} {base n : Nat} {e : TypeId} {size : Nat} {A : Option Addr} {c : Nat} {xs : List Value} (h : w.ownsRow base e size (.slice A n c) n xs) : n ≤ c := by
  rcases h.2 with ⟨h1, h2⟩ | ⟨g, cap, cur, h1, _, _, h3, _⟩
  · omega
  · injection h1 with _ _ h4
    omega
theorem own_mono {w : World} {base base' n : Nat} {e : TypeId} {size : Nat} {v : Value} {xs : List Value} (h : w.ownsRow base e size v n xs) (hb : base' ≤ base) : w.ownsRow base' e size v n xs := by
  refine ⟨h.1, ?_⟩
  rcases h.2 with h2 | ⟨g, cap, cur, h1, h2, r⟩
  · exact .inl h2
  · exact .inr ⟨g, cap, cur, h1, by omega, r⟩
/-- A row of the call's own, away from block g. -/
theorem RS.own {w : World} {base g : Nat} {A : Option Addr} {c : Nat} {l : List UInt8} (h : w.ownsRow base 5 1 (.slice A l.length c) l.length (B8 l)) (hg : g < base) : RS (· ≠ g) w A l := fun h0 => by
  obtain ⟨a, rfl, hc⟩ := RB.own h h0
  obtain ⟨g', cap, he, hb, _⟩ := h.form h0
  injection he with h1 h2 h3
  injection h1 with h1
  subst h1
  exact ⟨_, rfl, by simp; omega, hc⟩

theorem hid0 {p : Prop} (h : p) : Hid p := h
def R64 (x : Int) : Prop := 0 ≤ x ∧ x ≤ 18446744073709551615
/-- append on bytes, what comes of it under names of its own. -/
theorem append_b {w : World} {ops : Array Oper} {rest : List Oper} {o : Oper} {a : Act} {Q : Exit → Act → World → Prop} (hgd : o.guard = none) (s x : Operand)
    (ho : o.op = .call { callee := .builtin .append, args := #[s, x], argTypes := #[22, 22] })
    (base : Nat) (v : Value) (xs : List UInt8) (hs : a.eval s = v) (hown : w.ownsRow base 5 1 v xs.length (B8 xs))
    (A : Option Addr) (c n : Nat) (ys : List UInt8) (hn : ys.length = n) (hx : a.eval x = .slice A n c) (hr : RB w A ys) (hle : xs.length + ys.length ≤ maxB) (hbase : base ≤ w.heap.size)
    (h : ∀ A' c' zs w', Hid (zs = xs ++ ys) → zs.length ≤ maxB → w'.ownsRow base 5 1 (.slice A' zs.length c') zs.length (B8 zs) → w.grownBy w' v.ownBlock → wpList Tryz.prog ops Q rest (a.put o.dst (.slice A' zs.length c')) w') : wpList Tryz.prog ops Q (o :: rest) a w := by
  subst hn
  refine append_bytes hgd s x ho base v xs hs hown A c ys hx hr hle hbase fun v' w' h1 h2 _ => ?_
  obtain ⟨A', c', rfl⟩ := own_slice h1
  exact h A' c' (xs ++ ys) w' rfl (by simpa using hle) h1 h2
theorem str_rb (w : World) (s : ByteArray) : RB (Lib.bytesWorld w 5 s) (some ⟨w.heap.size, 0, none⟩) s.data.toList := fun _ => by
  refine ⟨_, rfl, fun j hj => ?_⟩
  have hj' : j < s.size := by simpa using hj
  have e : (⟨w.heap.size, 0, none⟩ : Addr).add j = ⟨w.heap.size, j, none⟩ := by
    unfold Addr.add
    split <;> simp_all
  rw [e, Lib.bytesWorld_cell w 5 s j hj']
  simp [hj']
theorem str_below (w : World) (s : ByteArray) : Below w.heap.size w (Lib.bytesWorld w 5 s) :=
  ⟨rfl, rfl, rfl, by rw [Lib.bytesWorld_size]; omega, fun k hk => Lib.bytesWorld_at_old w 5 s k hk⟩
theorem run_conv_9_22 (W : World) (s : ByteArray) : (convert 9 22 (.string s)).run Tryz.prog W = .ok (.slice (some ⟨W.heap.size, 0, none⟩) s.size (grownCap W s.size 0 5)) (Lib.bytesWorld W 5 s) :=
  Lib.run_convert_string_bytes W 9 22 5 s Tryz.underlying9 Tryz.underlying22 Tryz.underlying5
theorem run_conv_22_9 (W : World) (A : Option Addr) (c N : Nat) (l : List UInt8) (hr : RB W A l) (hN : l.length = N) : (convert 22 9 (.slice A N c)).run Tryz.prog W = .ok (.string ⟨l.toArray⟩) W := by
  subst hN
  cases A with
  | some a =>
    refine run_convert_bytes_back W 22 9 5 a c l Tryz.underlying22 Tryz.underlying5 Tryz.underlying9 fun j hj => ?_
    obtain ⟨a', e, hc⟩ := hr (by omega)
    injection e with e
    subst e
    exact hc j hj
  | none =>
    have hl0 : l = [] := by
      cases l with
      | nil => rfl
      | cons x xs => obtain ⟨a, e, _⟩ := hr (by simp); cases e
    subst hl0
    exact run_convert_bytes_nil W 22 5 Tryz.underlying22 Tryz.underlying5 0 c 9 Tryz.underlying9
theorem bs_len (s : ByteArray) : s.toList.length = s.size := by
  rw [Go.ByteArray.toList_eq, Array.length_toList]
  rfl
theorem bs_empty (s : ByteArray) : s.toList.isEmpty = decide (s.size = 0) := by
  rw [← bs_len s]
  cases s.toList <;> simp
theorem keepc {B : Nat} {w w' : World} (hb : Below B w w') {b o : Nat} {v : Value} (hl : b < B) (h : w.cell? ⟨b, o, none⟩ = some v) : w'.cell? ⟨b, o, none⟩ = some v := (hb.cell (p := ⟨b, o, none⟩) hl).trans h
theorem allocc {w : World} {b o : Nat} {v : Value} (h : w.cell? ⟨b, o, none⟩ = some v) (ob : Obj) : (w.alloc ob).cell? ⟨b, o, none⟩ = some v :=
  keepc (Below.alloc (Below.refl w.heap.size w) (Nat.le_refl _) ob) (World.block_lt_of_cell? w _ h) h
set_option maxRecDepth 100000 in
/-- The same law at a step of a region that draws its order. -/
theorem step_append_b {w : World} {ops : Array Oper} {o : Oper} {a : Act} {K : Act → World → Prop} {Q : Exit → Act → World → Prop} {E : Prop} (hgd : o.guard = none) (s x : Operand)
    (ho : o.op = .call { callee := .builtin .append, args := #[s, x], argTypes := #[22, 22] })
    (base : Nat) (v : Value) (xs : List UInt8) (hs : a.eval s = v) (hown : w.ownsRow base 5 1 v xs.length (B8 xs))
    (A : Option Addr) (c n : Nat) (ys : List UInt8) (hn : ys.length = n) (hx : a.eval x = .slice A n c) (hr : RB w A ys) (hle : xs.length + ys.length ≤ maxB) (hbase : base ≤ w.heap.size)
    (h : ∀ A' c' zs w', Hid (zs = xs ++ ys) → zs.length ≤ maxB → w'.ownsRow base 5 1 (.slice A' zs.length c') zs.length (B8 zs) → w.grownBy w' v.ownBlock → K (a.put o.dst (.slice A' zs.length c')) w') :
    if Region.wanted o (yielded ops a.tmps) = true then Oper.wp Tryz.prog o a w K Q else E := by
  have hw : Region.wanted o (yielded ops a.tmps) = true := by simp [Region.wanted, hgd]
  rw [if_pos hw]
  subst hn
  obtain ⟨i0, hi, hz0, hz1, hz2⟩ := info_parts info5
  have hle' := hle
  rw [maxB_eq] at hle'
  cases A with
  | some ad =>
    refine wp_append_own w s x 22 ho base 5 i0 (.int .u8 0) 1 1 Tryz.underlying22 hi hz0 hz1 hz2 rfl (by decide) v xs.length (B8 xs) hs hown ad ys.length c (B8 ys) hx (by simp [B8_length]) (fun j u hu => ?_) (B8_oneCell _) (by unfold maxLen; omega) (by omega) hbase fun v' w' h1 h2 _ => ?_
    · obtain ⟨ad', e', hc⟩ := hr.cells (by have := (List.getElem?_eq_some_iff.1 hu).1; omega)
      injection e' with e'
      subst e'
      exact hc j u hu
    · rw [← List.length_append, ← B8_append] at h1
      obtain ⟨A', c', rfl⟩ := own_slice h1
      exact h A' c' (xs ++ ys) w' rfl (by simpa using hle) h1 h2
  | none =>
    have hl0 : ys = [] := by
      cases ys with
      | nil => rfl
      | cons y l => obtain ⟨a, e, _⟩ := hr (by simp); cases e
    subst hl0
    have hrun : ∀ ty, (Builtin.append_ #[22, 22] ty #[v, .slice none 0 c]).run Tryz.prog w = .ok v w := by
      intro ty
      rcases hown.2 with ⟨rfl, h0⟩ | ⟨g, cap, cur, rfl, _, _, hnc, _⟩
      · simp [Builtin.append_, run_underlying Tryz.underlying22, sizeOf, typeInfo, hi, Builtin.lenOf, Builtin.firstCells]
      · simp [Builtin.append_, run_underlying Tryz.underlying22, sizeOf, typeInfo, hi, Builtin.lenOf, Builtin.firstCells, hnc, storeCells]
    obtain ⟨A', c', rfl⟩ := own_slice hown
    have hx' : a.eval x = .slice none 0 c := hx
    unfold Oper.wp
    simp [execOp, ho, resolve, invoke, builtin, hs, hx', hrun, Result.andThen]
    exact h A' c' xs w (by simp [Hid]) (by simpa using hle) hown ⟨rfl, rfl, rfl, Nat.le_refl _, fun _ _ _ => rfl⟩
theorem RB.drew {w : World} {A : Option Addr} {l : List UInt8} (h : RB w A l) : RB w.drew A l := h
theorem RD.drew {B : Nat} {w : World} {A : Option Addr} {l : List UInt8} (h : RD B w A l) : RD B w.drew A l := h
theorem own_drew {w : World} {base : Nat} {e : TypeId} {size n : Nat} {v : Value} {xs : List Value} (h : w.ownsRow base e size v n xs) : w.drew.ownsRow base e size v n xs := h
theorem RD.sl {B : Nat} {w : World} {A : Option Addr} {l : List UInt8} (h : RD B w A l) (lo c : Nat) (hc : l.length ≤ c) : RD B w (slA 1 A lo c) (l.drop lo) :=
  RS.sl (S := (· < B)) h lo c hc
theorem RD.take {B : Nat} {w : World} {A : Option Addr} {l : List UInt8} (h : RD B w A l) (k : Nat) : RD B w A (l.take k) := RS.take (S := (· < B)) h k
end Go.Proofs.YtkpacfcklpoanaaGreat
