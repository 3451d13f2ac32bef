import Derived.Test.YtkpacfcklpoanaaGreatWide
set_option linter.unusedVariables false
set_option linter.unusedSimpArgs false
namespace Go.Proofs.YtkpacfcklpoanaaGreat
open Go.RowKit
def u64a (a b : Int) : Int := (a + b) % 18446744073709551616
/-- What the lanes come to. -/
def hinto (h x : Int) : Int := (bits .xor .u64 h (xinto 0 x) * 11400714785074694791 + 9650029242287828579) % 18446744073709551616
def hstart (v0 v1 v2 v3 : Int) : Int :=
  hinto (hinto (hinto (hinto (u64a (u64a (u64a (rotl v0 1) (rotl v1 7)) (rotl v2 12)) (rotl v3 18)) v0) v1) v2) v3
theorem info3 : (Tryz.prog.info? 3).map (fun i => (i.zero, i.size, i.bytes)) = some (some (.int .i64 0), 1, 8) := by kernel_rfl
set_option maxHeartbeats 4000000 in
set_option maxRecDepth 100000 in
theorem wide_start (g : Nat) (seed v0 v1 v2 v3 : Int) (rest : Value) (n : Nat) (w : World)
    (hs : IsSt w g seed v0 v1 v2 v3 rest n) (r0 : R64 v0) (r1 : R64 v1) (r2 : R64 v2) (r3 : R64 v3) (hn : 32 ≤ n) :
    Calls Tryz.prog 430 #[.pointer (some ⟨g, 0, none⟩)] w fun e w' => e = .returned (.int .u64 (hstart v0 v1 v2 v3)) ∧ Below w.heap.size w w' := by
  obtain ⟨c0, c1, c2, c3, c4, c5, c6, cf⟩ := St_cells hs
  clear cf c5
  unfold R64 at *
  have hgl : g < w.heap.size := World.block_lt_of_cell? w _ c0
  have hd : decide ((n : Int) < 32) = false := by simp; omega
  go_enter Tryz.func430, Tryz.ntmps430
  go_wp2
  refine wp_loop_rounds 5 ?_
  iterate 5 (rw [rounds_succ]; go_wp2_with (go_at_call 431; (with_reducible refine (wide_rotI _ _ _ (by omega) (by omega) (by omega) (by omega)).mono ?_); rintro e w' ⟨rfl, rfl⟩))
  have i0 : ∀ W, (Instr.index 467 (.agg #[.int .u64 v0, .int .u64 v1, .int .u64 v2, .int .u64 v3]) (.int .i64 0)).run Tryz.prog W = .ok (.int .u64 v0) W := fun _ => by kernel_rfl
  have i1 : ∀ W, (Instr.index 467 (.agg #[.int .u64 v0, .int .u64 v1, .int .u64 v2, .int .u64 v3]) (.int .i64 1)).run Tryz.prog W = .ok (.int .u64 v1) W := fun _ => by kernel_rfl
  have i2 : ∀ W, (Instr.index 467 (.agg #[.int .u64 v0, .int .u64 v1, .int .u64 v2, .int .u64 v3]) (.int .i64 2)).run Tryz.prog W = .ok (.int .u64 v2) W := fun _ => by kernel_rfl
  have i3 : ∀ W, (Instr.index 467 (.agg #[.int .u64 v0, .int .u64 v1, .int .u64 v2, .int .u64 v3]) (.int .i64 3)).run Tryz.prog W = .ok (.int .u64 v3) W := fun _ => by kernel_rfl
  refine wp_loop_rounds 5 ?_
  iterate 5 (rw [rounds_succ]; go_wp2_with (go_at_call 428; (with_reducible refine (wide_into _ _ _ (by omega) (by omega) (by omega) (by omega)).mono ?_); rintro e w' ⟨rfl, rfl⟩))
  go_ret
  refine ⟨?_, (Below.refl _ _).alloc (Nat.le_refl _) _⟩
  simp only [hstart, hinto, u64a, u64_wrap_eq]
  simp
  trace_state
/-- What a sum is ahead of its last bytes. -/
def hs0 (seed : Int) (v : Int × Int × Int × Int) (n : Nat) : Int := if n < 32 then (seed + 2870177450012600261) % 18446744073709551616 else hstart v.1 v.2.1 v.2.2.1 v.2.2.2
set_option maxRecDepth 100000 in
theorem wide_start_any (g : Nat) (seed v0 v1 v2 v3 : Int) (rest : Value) (n : Nat) (w : World)
    (hs : IsSt w g seed v0 v1 v2 v3 rest n) (r0 : R64 v0) (r1 : R64 v1) (r2 : R64 v2) (r3 : R64 v3) :
    Calls Tryz.prog 430 #[.pointer (some ⟨g, 0, none⟩)] w fun e w' => e = .returned (.int .u64 (hs0 seed (v0, v1, v2, v3) n)) ∧ Below w.heap.size w w' := by
  unfold hs0
  by_cases hn : n < 32
  · rw [if_pos hn]
    obtain ⟨c0, c1, c2, c3, c4, c5, c6, cf⟩ := St_cells hs
    clear cf c5
    have hd : decide ((n : Int) < 32) = true := by simp; omega
    go_enter Tryz.func430, Tryz.ntmps430
    go_wp2
    go_ret
    exact ⟨by simp [u64_wrap_eq], Below.refl _ _⟩
  · rw [if_neg hn]
    exact wide_start g seed v0 v1 v2 v3 rest n w hs r0 r1 r2 r3 (by omega)
theorem bits_u64 (op : BinOp) (a b : Int) : 0 ≤ bits op .u64 a b ∧ bits op .u64 a b ≤ 18446744073709551615 := by
  unfold bits
  cases op <;> simp only [u64_wrap_eq] <;> omega
theorem hinto_range (h x : Int) : 0 ≤ hinto h x ∧ hinto h x ≤ 18446744073709551615 := by unfold hinto; omega
theorem hs0_range (seed : Int) (v : Int × Int × Int × Int) (n : Nat) : 0 ≤ hs0 seed v n ∧ hs0 seed v n ≤ 18446744073709551615 := by
  unfold hs0
  split
  · omega
  · exact hinto_range _ _
def p8 (h x : Int) : Int := (rotl (bits .xor .u64 h (xinto 0 x)) 27 * 11400714785074694791 + 9650029242287828579) % 18446744073709551616
def p4 (h x : Int) : Int := (rotl (bits .xor .u64 h (x * 11400714785074694791 % 18446744073709551616)) 23 * 14029467366897019727 + 1609587929392839161) % 18446744073709551616
def p1 (h x : Int) : Int := (rotl (bits .xor .u64 h (x * 2870177450012600261 % 18446744073709551616)) 11 * 11400714785074694791) % 18446744073709551616
def hmix (h : Int) : Int :=
  let a := bits .xor .u64 h (h / 8589934592) * 14029467366897019727 % 18446744073709551616
  let b := bits .xor .u64 a (a / 536870912) * 1609587929392839161 % 18446744073709551616
  bits .xor .u64 b (b / 4294967296)
def r8 : Nat → Int → List UInt8 → Int
  | 0, h, _ => h
  | k + 1, h, l => p8 (r8 k h l) (leVal ((l.drop (8 * k)).take 8))
def r1 : Nat → Int → List UInt8 → Int
  | 0, h, _ => h
  | k + 1, h, l => p1 (r1 k h l) ((l.getD k 0).toNat : Int)
theorem p8_range (h x : Int) : R64 (p8 h x) := by unfold p8 R64; omega
theorem p4_range (h x : Int) : R64 (p4 h x) := by unfold p4 R64; omega
theorem p1_range (h x : Int) : R64 (p1 h x) := by unfold p1 R64; omega
theorem r8_range (k : Nat) (h : Int) (l : List UInt8) (hr : R64 h) : R64 (r8 k h l) := by cases k with | zero => exact hr | succ k => exact p8_range _ _
theorem r1_range (k : Nat) (h : Int) (l : List UInt8) (hr : R64 h) : R64 (r1 k h l) := by cases k with | zero => exact hr | succ k => exact p1_range _ _
/-- The end of a sum, of what is left over. -/
def hfin (h : Int) (m : List UInt8) : Int :=
  let h' := r8 (m.length / 8) h m
  let m' := m.drop (8 * (m.length / 8))
  if 4 ≤ m'.length then hmix (r1 (m'.drop 4).length (p4 h' (leVal (m'.take 4))) (m'.drop 4)) else hmix (r1 m'.length h' m')
end Go.Proofs.YtkpacfcklpoanaaGreat
