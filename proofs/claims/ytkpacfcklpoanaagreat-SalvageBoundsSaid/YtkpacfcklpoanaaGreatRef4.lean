import Derived.Test.YtkpacfcklpoanaaGreatRef3
import Derived.Laws.DeepStrings4
set_option linter.unusedVariables false
set_option linter.unusedSimpArgs false
namespace Go.Proofs.YtkpacfcklpoanaaGreat
open Go.RowKit
/-- How long a text is. -/
def slS : Value → Nat
  | .string s => s.size
  | _ => 0
theorem bs_extract (l : List UInt8) (a b : Nat) : (⟨l.toArray⟩ : ByteArray).extract a b = ⟨((l.drop a).take (b - a)).toArray⟩ := by
  apply ByteArray.ext
  simp
  
theorem run_ssl_lh (W : World) (l : List UInt8) (a b : Nat) (h1 : a ≤ b) (h2 : b ≤ l.length) : (Instr.slice 9 (.string ⟨l.toArray⟩) (some (.int .i64 a)) (some (.int .i64 b)) none).run Tryz.prog W = .ok (.string ⟨((l.drop a).take (b - a)).toArray⟩) W := by
  rw [run_slice_string_if W 9 _ .i64 .i64 a b Tryz.underlying9, if_pos (by rw [bs_size]; omega), if_pos (by omega)]
  simp [bs_extract]
theorem run_ssl_l (W : World) (l : List UInt8) (a : Nat) (h2 : a ≤ l.length) : (Instr.slice 9 (.string ⟨l.toArray⟩) (some (.int .i64 a)) none none).run Tryz.prog W = .ok (.string ⟨(l.drop a).toArray⟩) W := by
  simp [Instr.slice, run_underlying Tryz.underlying9, Instr.sliceBounds, run_sliceBound, bs_size, h2, bs_extract, go_sem]
  exact List.take_of_length_le (by simp)
theorem run_ssl_h (W : World) (l : List UInt8) (b : Nat) (h2 : b ≤ l.length) : (Instr.slice 9 (.string ⟨l.toArray⟩) none (some (.int .i64 b)) none).run Tryz.prog W = .ok (.string ⟨(l.take b).toArray⟩) W := by
  simp [Instr.slice, run_underlying Tryz.underlying9, Instr.sliceBounds, run_sliceBound, bs_size, h2, bs_extract, go_sem]
set_option maxHeartbeats 4000000 in
set_option maxRecDepth 100000 in
theorem ref_begin (seed : Int) (l : List UInt8) (w : World) (h0 : 0 ≤ seed) (h1 : seed ≤ 18446744073709551615) (hlen : l.length ≤ 1000000000) :
    Calls Tryz.prog 265 #[.int .u64 seed, .string ⟨l.toArray⟩] w fun e w' => e = .returned (.tuple #[.int .u64 (hstart (strp (l.length / 32) (xv0 seed) l).1 (strp (l.length / 32) (xv0 seed) l).2.1 (strp (l.length / 32) (xv0 seed) l).2.2.1 (strp (l.length / 32) (xv0 seed) l).2.2.2), .string ⟨(l.drop (32 * (l.length / 32))).toArray⟩]) ∧ Below w.heap.size w w' := by
  have e1 : IntKind.u64.wrap (IntKind.u64.wrap (seed + 11400714785074694791) + 14029467366897019727) = (seed + 6983438078262162902) % 18446744073709551616 := by simp only [u64_wrap_eq]; omega
  have e2 : IntKind.u64.wrap (seed + 14029467366897019727) = (seed + 14029467366897019727) % 18446744073709551616 := by simp only [u64_wrap_eq]
  have e3 : IntKind.u64.wrap (seed - 11400714785074694791) = (seed + 7046029288634856825) % 18446744073709551616 := by simp only [u64_wrap_eq]; omega
  have hrg0 : R64 (xv0 seed).1 ∧ R64 (xv0 seed).2.1 ∧ R64 (xv0 seed).2.2.1 ∧ R64 (xv0 seed).2.2.2 := ⟨by simp [xv0, R64]; omega, by simp [xv0, R64]; omega, ⟨h0, h1⟩, by simp [xv0, R64]; omega⟩
  have hsz := bs_size
  go_enter Tryz.func265, Tryz.ntmps265
  go_wp2
  clear e1 e2 e3
  go_loopw [1, 9, 29] (fun a _ i wr => ∃ (k : Nat), 32 * k ≤ l.length ∧ a = .string ⟨(l.drop (32 * k)).toArray⟩ ∧ wr.heap[w.heap.size]? = some (.cells #[.int .u64 (strp k (xv0 seed) l).1, .int .u64 (strp k (xv0 seed) l).2.1, .int .u64 (strp k (xv0 seed) l).2.2.1, .int .u64 (strp k (xv0 seed) l).2.2.2] 467 (0, 0)) ∧ Below w.heap.size w wr)
     (fun a _ _ _ => slS a)
  case atStart => exact ⟨0, by omega, by simp, by exact heap_new w _, (Below.refl _ _).alloc (Nat.le_refl _) _⟩
  case round =>
    obtain ⟨k, hk, rfl, hst, hbl⟩ := hrel
    have hrg := strp_range k (xv0 seed) l hrg0
    generalize hu : strp k (xv0 seed) l = u at *
    have HU : Hid (strp k (xv0 seed) l = u) := hu
    clear hu
    obtain ⟨u0, u1, u2, u3⟩ := u
    simp only at hrg hst
    have hml : (l.drop (32 * k)).length = l.length - 32 * k := by simp
    have HML := hid0 hml
    clear hml
    generalize hm : l.drop (32 * k) = m at *
    have HM := hid0 hm
    clear hm
    by_cases hge : 32 ≤ m.length
    · have hd32 : decide ((32 : Int) ≤ (m.length : Int)) = true := by simp; omega
      have hsl32 : ∀ W, (Instr.slice 9 (.string ⟨m.toArray⟩) (some (.int .i64 32)) none none).run Tryz.prog W = .ok (.string ⟨(m.drop 32).toArray⟩) W := fun W => run_ssl_l W m 32 hge
      go_wp2
      obtain ⟨wo, rfl⟩ : ∃ wo : World, wo = wr := ⟨_, rfl⟩
      go_loopw [9, 29] (fun _ s wr2 => ∃ i : Nat, i ≤ 4 ∧ s = .int .i64 i ∧
         wr2.heap[w.heap.size]? = some (.cells #[.int .u64 (if 0 < i then lane u0 m 0 else u0), .int .u64 (if 1 < i then lane u1 m 1 else u1), .int .u64 (if 2 < i then lane u2 m 2 else u2), .int .u64 (if 3 < i then lane u3 m 3 else u3)] 467 (0, 0)) ∧ Below w.heap.size w wr2)
         (fun _ s _ => 4 - (intOf s).toNat)
      case atStart => exact ⟨0, by omega, rfl, hst, hbl⟩
      case round =>
        obtain ⟨i, hi, rfl, hst2, hbl2⟩ := hrel
        obtain rfl | rfl | rfl | rfl | rfl : i = 0 ∨ i = 1 ∨ i = 2 ∨ i = 3 ∨ i = 4 := by omega
        · simp only [Nat.reduceLT, if_true, if_false, Nat.lt_irrefl, Nat.not_lt_zero] at hst2
          rw [show ((0 : Nat) : Int) = 0 from rfl]
          have ci := (blk_cell hst2 0).trans rfl
          have cfi := blk_frozen hst2 0
          have hv := leVal_u64 ((m.drop 0).take 8) (by simp; omega)
          have H1 := hid0 (ref_Value ((m.drop 0).take 8) wr.drew (by simp; omega))
          have H2 := hid0 (ref_into u0 (leVal ((m.drop 0).take 8)) wr.drew hrg.1.1 hrg.1.2 hv.1 hv.2)
          have hsl : ∀ W, (Instr.slice 9 (.string ⟨m.toArray⟩) (some (.int .i64 0)) (some (.int .i64 8)) none).run Tryz.prog W = .ok (.string ⟨((m.drop 0).take 8).toArray⟩) W := fun W => run_ssl_lh W m 0 8 (by omega) (by omega)
          have hwr : IntKind.i64.wrap 0 = 0 := by decide
          have hwr2 : IntKind.i64.wrap 8 = 8 := by decide
          go_wp2
          refine wp_region_still_tail 14 (by kernel_rfl) (by kernel_rfl) ?_
          simp only [List.take_succ_cons, List.take_zero, List.drop_succ_cons, List.drop_zero]
          repeat still_step
          still_call (quietC H1.out)
          still_call (quietC H2.out)
          repeat still_step
          refine wpStill_nil ?_
          change wpList _ _ _ _ _ wr.drew
          have H3 := hid0 (blk_set (w := wr.drew) hst2 0 (.int .u64 (lane u0 m 0)))
          clear hsl
          go_wp2
          go_roundw
          case rel => exact ⟨1, by omega, by go_num, by exact H3.out, (hbl2.drew).setCell (by simp) _⟩
          case measure => simp [intOf]
        · simp only [Nat.reduceLT, if_true, if_false, Nat.lt_irrefl, Nat.not_lt_zero] at hst2
          rw [show ((1 : Nat) : Int) = 1 from rfl]
          have ci := (blk_cell hst2 1).trans rfl
          have cfi := blk_frozen hst2 1
          have hv := leVal_u64 ((m.drop 8).take 8) (by simp; omega)
          have H1 := hid0 (ref_Value ((m.drop 8).take 8) wr.drew (by simp; omega))
          have H2 := hid0 (ref_into u1 (leVal ((m.drop 8).take 8)) wr.drew hrg.2.1.1 hrg.2.1.2 hv.1 hv.2)
          have hsl : ∀ W, (Instr.slice 9 (.string ⟨m.toArray⟩) (some (.int .i64 8)) (some (.int .i64 16)) none).run Tryz.prog W = .ok (.string ⟨((m.drop 8).take 8).toArray⟩) W := fun W => run_ssl_lh W m 8 16 (by omega) (by omega)
          have hwr : IntKind.i64.wrap 8 = 8 := by decide
          have hwr2 : IntKind.i64.wrap 16 = 16 := by decide
          go_wp2
          refine wp_region_still_tail 14 (by kernel_rfl) (by kernel_rfl) ?_
          simp only [List.take_succ_cons, List.take_zero, List.drop_succ_cons, List.drop_zero]
          repeat still_step
          still_call (quietC H1.out)
          still_call (quietC H2.out)
          repeat still_step
          refine wpStill_nil ?_
          change wpList _ _ _ _ _ wr.drew
          have H3 := hid0 (blk_set (w := wr.drew) hst2 1 (.int .u64 (lane u1 m 1)))
          clear hsl
          go_wp2
          go_roundw
          case rel => exact ⟨2, by omega, by go_num, by exact H3.out, (hbl2.drew).setCell (by simp) _⟩
          case measure => simp [intOf]
        · simp only [Nat.reduceLT, if_true, if_false, Nat.lt_irrefl, Nat.not_lt_zero] at hst2
          rw [show ((2 : Nat) : Int) = 2 from rfl]
          have ci := (blk_cell hst2 2).trans rfl
          have cfi := blk_frozen hst2 2
          have hv := leVal_u64 ((m.drop 16).take 8) (by simp; omega)
          have H1 := hid0 (ref_Value ((m.drop 16).take 8) wr.drew (by simp; omega))
          have H2 := hid0 (ref_into u2 (leVal ((m.drop 16).take 8)) wr.drew hrg.2.2.1.1 hrg.2.2.1.2 hv.1 hv.2)
          have hsl : ∀ W, (Instr.slice 9 (.string ⟨m.toArray⟩) (some (.int .i64 16)) (some (.int .i64 24)) none).run Tryz.prog W = .ok (.string ⟨((m.drop 16).take 8).toArray⟩) W := fun W => run_ssl_lh W m 16 24 (by omega) (by omega)
          have hwr : IntKind.i64.wrap 16 = 16 := by decide
          have hwr2 : IntKind.i64.wrap 24 = 24 := by decide
          go_wp2
          refine wp_region_still_tail 14 (by kernel_rfl) (by kernel_rfl) ?_
          simp only [List.take_succ_cons, List.take_zero, List.drop_succ_cons, List.drop_zero]
          repeat still_step
          still_call (quietC H1.out)
          still_call (quietC H2.out)
          repeat still_step
          refine wpStill_nil ?_
          change wpList _ _ _ _ _ wr.drew
          have H3 := hid0 (blk_set (w := wr.drew) hst2 2 (.int .u64 (lane u2 m 2)))
          clear hsl
          go_wp2
          go_roundw
          case rel => exact ⟨3, by omega, by go_num, by exact H3.out, (hbl2.drew).setCell (by simp) _⟩
          case measure => simp [intOf]
        · simp only [Nat.reduceLT, if_true, if_false, Nat.lt_irrefl, Nat.not_lt_zero] at hst2
          rw [show ((3 : Nat) : Int) = 3 from rfl]
          have ci := (blk_cell hst2 3).trans rfl
          have cfi := blk_frozen hst2 3
          have hv := leVal_u64 ((m.drop 24).take 8) (by simp; omega)
          have H1 := hid0 (ref_Value ((m.drop 24).take 8) wr.drew (by simp; omega))
          have H2 := hid0 (ref_into u3 (leVal ((m.drop 24).take 8)) wr.drew hrg.2.2.2.1 hrg.2.2.2.2 hv.1 hv.2)
          have hsl : ∀ W, (Instr.slice 9 (.string ⟨m.toArray⟩) (some (.int .i64 24)) (some (.int .i64 32)) none).run Tryz.prog W = .ok (.string ⟨((m.drop 24).take 8).toArray⟩) W := fun W => run_ssl_lh W m 24 32 (by omega) (by omega)
          have hwr : IntKind.i64.wrap 24 = 24 := by decide
          have hwr2 : IntKind.i64.wrap 32 = 32 := by decide
          go_wp2
          refine wp_region_still_tail 14 (by kernel_rfl) (by kernel_rfl) ?_
          simp only [List.take_succ_cons, List.take_zero, List.drop_succ_cons, List.drop_zero]
          repeat still_step
          still_call (quietC H1.out)
          still_call (quietC H2.out)
          repeat still_step
          refine wpStill_nil ?_
          change wpList _ _ _ _ _ wr.drew
          have H3 := hid0 (blk_set (w := wr.drew) hst2 3 (.int .u64 (lane u3 m 3)))
          clear hsl
          go_wp2
          go_roundw
          case rel => exact ⟨4, by omega, by go_num, by exact H3.out, (hbl2.drew).setCell (by simp) _⟩
          case measure => simp [intOf]
        · simp only [Nat.reduceLT, if_true] at hst2
          rw [show ((4 : Nat) : Int) = 4 from rfl]
          go_wp2
          go_roundw
          case rel =>
            refine ⟨k + 1, by have := HML.out; omega, ?_, ?_, hbl2⟩
            · rw [← HM.out, List.drop_drop]; rw [show 32 * (k + 1) = 32 * k + 32 from by omega]
            · have : strp (k + 1) (xv0 seed) l = (lane u0 m 0, lane u1 m 1, lane u2 m 2, lane u3 m 3) := by rw [strp, HU.out, HM.out]
              rw [this]; exact hst2
          case measure => simp [slS, hsz]; omega
    · have hd32 : decide ((32 : Int) ≤ (m.length : Int)) = false := by simp; omega
      have hkk : Hid (l.length / 32 = k) := by have := HML.out; show l.length / 32 = k; omega
      obtain ⟨⟨a0, b0⟩, ⟨a1, b1⟩, ⟨a2, b2⟩, ⟨a3, b3⟩⟩ := hrg
      have k0 := (blk_cell (w := wr.drew) hst 0).trans rfl
      have k1 := (blk_cell (w := wr.drew) hst 1).trans rfl
      have k2 := (blk_cell (w := wr.drew) hst 2).trans rfl
      have k3 := (blk_cell (w := wr.drew) hst 3).trans rfl
      have H1 := hid0 (ref_turn u0 1 wr.drew a0 b0 (by decide) (by decide))
      have H2 := hid0 (ref_turn u1 7 wr.drew a1 b1 (by decide) (by decide))
      have H3 := hid0 (ref_turn u2 12 wr.drew a2 b2 (by decide) (by decide))
      have H4 := hid0 (ref_turn u3 18 wr.drew a3 b3 (by decide) (by decide))
      go_wp2
      refine wp_region_still_tail 15 (by kernel_rfl) (by kernel_rfl) ?_
      simp only [List.take_succ_cons, List.take_zero, List.drop_succ_cons, List.drop_zero]
      repeat still_step
      still_call (quietC H1.out)
      repeat still_step
      still_call (quietC H2.out)
      repeat still_step
      still_call (quietC H3.out)
      repeat still_step
      still_call (quietC H4.out)
      repeat still_step
      refine wpStill_nil ?_
      change wpList _ _ _ _ _ wr.drew
      have t1 := rotl_range u0 1 a0 b0 (by decide)
      have t2 := rotl_range u1 7 a1 b1 (by decide)
      have t3 := rotl_range u2 12 a2 b2 (by decide)
      have t4 := rotl_range u3 18 a3 b3 (by decide)
      go_wp2
      refine wp_loop_rounds 5 ?_
      iterate 5 (rw [rounds_succ]; go_wp2_with (go_at_call 266; (with_reducible refine (ref_into _ _ _ (by decide) (by decide) (by omega) (by omega)).mono ?_); rintro e w' ⟨rfl, rfl⟩))
      go_ret2
      rw [hkk.out, HU.out, HM.out]
      refine ⟨?_, hbl.drew⟩
      simp only [hstart, hinto, u64a, u64_wrap_eq]
      simp
end Go.Proofs.YtkpacfcklpoanaaGreat
