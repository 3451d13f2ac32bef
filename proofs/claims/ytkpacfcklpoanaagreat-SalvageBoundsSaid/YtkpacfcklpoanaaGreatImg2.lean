import Derived.Test.YtkpacfcklpoanaaGreatImg1
set_option linter.unusedVariables false
set_option linter.unusedSimpArgs false
namespace Go.Proofs.YtkpacfcklpoanaaGreat
open Go.RowKit
def cobsMost (n : Nat) : Nat := if n = 0 then 1 else n + 1 + (n - 1) / 254
def frameSize (n : Nat) : Nat := cobsMost (n + 8) + 1
def fenceCount (n : Nat) : Nat := (n + 15) / 16
def footMost (n : Nat) : Nat := frameSize (9 + 12 * n + 8 * fenceCount n)
theorem cobs_MostN (n : Nat) (w : World) (h1 : n ≤ maxB) :
    Calls Tryz.prog 390 #[.int .i64 n] w fun e w' => e = .returned (.int .i64 (cobsMost n)) ∧ w = w' := by
  refine (cobs_Most n w (by omega) (by omega)).mono ?_
  rintro e w' ⟨rfl, rfl⟩
  refine ⟨?_, rfl⟩
  unfold cobsMost
  by_cases h : n = 0
  · subst h; rfl
  · rw [if_neg (by omega), if_neg h]
    congr 2
    omega
theorem frame_Size (n : Nat) (w : World) (h1 : n ≤ 1000000000) :
    Calls Tryz.prog 434 #[.int .i64 n] w fun e w' => e = .returned (.int .i64 (frameSize n)) ∧ w = w' := by
  have h : Calls Tryz.prog 390 #[.int .i64 ((n : Int) + 8)] w _ := cobs_MostN (n + 8) w (by rw [maxB_eq]; omega)
  have hc : cobsMost (n + 8) ≤ 2000000000 := by unfold cobsMost; split <;> omega
  have HF := hid0 (show frameSize n = cobsMost (n + 8) + 1 from rfl)
  generalize cobsMost (n + 8) = c at *
  have H := hid0 h
  have hmx : max 0 (n : Int) = n := by omega
  clear h
  go_enter Tryz.func434, Tryz.ntmps434
  go_wp2_with (go_at_call 390; go_loud ((with_reducible refine (H.out).mono ?_); rintro e w1 ⟨rfl, rfl⟩))
  go_ret
  refine ⟨?_, rfl⟩
  rw [HF.out]
  rfl
theorem fence_Count (n : Nat) (w : World) (h1 : n ≤ 1000000000) :
    Calls Tryz.prog 396 #[.int .i64 n] w fun e w' => e = .returned (.int .i64 (fenceCount n)) ∧ w = w' := by
  have hmx : max 0 (n : Int) = n := by omega
  have HF := hid0 (show fenceCount n = (n + 15) / 16 from rfl)
  go_enter Tryz.func396, Tryz.ntmps396
  go_wp2
  go_ret
  refine ⟨?_, rfl⟩
  rw [HF.out]
  show Ending.returned (.int .i64 (((n : Int) + 16 - 1) / 16)) = _
  rw [show ((n : Int) + 16 - 1) / 16 = (((n + 15) / 16 : Nat) : Int) from by omega]
theorem footMost_le (n : Nat) (h1 : n ≤ 10000000) : footMost n ≤ 400000000 := by
  unfold footMost frameSize cobsMost fenceCount
  split <;> omega
theorem foot_Most (n : Nat) (w : World) (h1 : n ≤ 10000000) :
    Calls Tryz.prog 385 #[.int .i64 n] w fun e w' => e = .returned (.int .i64 (footMost n)) ∧ w = w' := by
  have hmx : max 0 (n : Int) = n := by omega
  have h2 := fence_Count n w (by omega)
  have hf : fenceCount n ≤ 10000000 := by unfold fenceCount; omega
  have HF := hid0 (show footMost n = frameSize (9 + 12 * n + 8 * fenceCount n) from rfl)
  generalize fenceCount n = f at *
  have h3 : Calls Tryz.prog 434 #[.int .i64 (9 + 12 * (n : Int) + 8 * (f : Int))] w _ := frame_Size (9 + 12 * n + 8 * f) w (by omega)
  have H2 := hid0 h2
  have H3 := hid0 h3
  clear h2 h3
  go_enter Tryz.func385, Tryz.ntmps385
  go_wp2_with (first
    | (go_at_call 396; go_loud ((with_reducible refine (H2.out).mono ?_); rintro e w1 ⟨rfl, rfl⟩))
    | (go_at_call 434; go_loud ((with_reducible refine (H3.out).mono ?_); rintro e w1 ⟨rfl, rfl⟩)))
  go_ret
  rw [HF.out]
  exact ⟨rfl, rfl⟩
def cfgSize (ex sg : Nat) : Nat := if cfgErr ex sg ≠ 0 then 0 else 2 ^ ex
theorem cfgErr_ok {ex sg : Nat} (h : cfgErr ex sg = 0) : 12 ≤ ex ∧ ex ≤ 24 ∧ 1 ≤ sg ∧ sg ≤ 65536 := by
  unfold cfgErr at h
  split at h <;> omega
theorem pow2_le (ex : Nat) (h : ex ≤ 24) : 2 ^ ex ≤ 16777216 := by
  have : ∀ k : Nat, k ≤ 24 → 2 ^ k ≤ 16777216 := by decide
  exact this ex h
theorem pow2_ge (ex : Nat) (h : 12 ≤ ex) : 4096 ≤ 2 ^ ex := Nat.pow_le_pow_right (n := 2) (by decide) h
theorem cfgSize_le (ex sg : Nat) : cfgSize ex sg ≤ 16777216 := by
  unfold cfgSize
  split
  · decide
  · rename_i h
    exact pow2_le ex (cfgErr_ok (Classical.not_not.1 h)).2.1
theorem config_Size (ex sg : Nat) (w : World) (he : ex ≤ 255) (hs : sg ≤ 4294967295) :
    Calls Tryz.prog 156 #[.agg #[.int .u8 ex, .int .u32 sg]] w fun e w' => e = .returned (.int .i64 (cfgSize ex sg)) ∧ Below w.heap.size w w' := by
  have HC := hid0 (fun W => config_Check ex sg W he hs)
  have HF := hid0 (show cfgSize ex sg = if cfgErr ex sg ≠ 0 then 0 else 2 ^ ex from rfl)
  have hok := @cfgErr_ok ex sg
  generalize cfgErr ex sg = ce at *
  obtain ⟨W0, hW0⟩ : ∃ W0, W0 = w.alloc (.cells #[.int .u8 ex, .int .u32 sg] 54) := ⟨_, rfl⟩
  have hh : W0.heap[w.heap.size]? = some (.cells #[.int .u8 ex, .int .u32 sg] 54 (0, 0)) := by rw [hW0]; exact heap_new _ _
  have hb : Below w.heap.size w W0 := by rw [hW0]; exact (Below.refl _ _).alloc (Nat.le_refl _) _
  by_cases hc : ce = 0
  · subst hc
    obtain ⟨h12, h24, _, _⟩ := hok rfl
    have hsz : wrap64 (2 ^ ex) = (cfgSize ex sg : Int) := by
      rw [HF.out, if_neg (by simp)]
      have h1 := pow2_le ex h24
      have h2 : ((2 ^ ex : Nat) : Int) = (2 : Int) ^ ex := by simp
      have h3 : (2 : Int) ^ ex ≤ 16777216 := by rw [← h2]; omega
      have h4 : (0 : Int) ≤ 2 ^ ex := Int.le_of_lt (Int.pow_pos (by decide))
      rw [h2]
      unfold wrap64
      omega
    have HSZ := hid0 hsz
    clear hok hsz
    have hbz : ((0 : Int) != 0) = false := rfl
    go_enter Tryz.func156, Tryz.ntmps156
    go_wp2_with (go_at_call 102; go_loud (rw [← hW0]; (with_reducible refine (HC.out _).mono ?_); rintro e w1 ⟨rfl, hb1⟩; have hh1 := blk_below hh hb1 (blk_lt hh); have k1 := (blk_cell hh1 0).trans rfl))
    go_ret
    refine ⟨?_, hb.trans (hb1.mono hb.size)⟩
    rw [← HSZ.out]
    rfl
  · clear hok
    have hbz : ((ce : Int) != 0) = true := by simpa using hc
    go_enter Tryz.func156, Tryz.ntmps156
    go_wp2_with (go_at_call 102; go_loud (rw [← hW0]; (with_reducible refine (HC.out _).mono ?_); rintro e w1 ⟨rfl, hb1⟩))
    go_ret
    rw [HF.out, if_pos hc]
    exact ⟨rfl, hb.trans (hb1.mono hb.size)⟩
end Go.Proofs.YtkpacfcklpoanaaGreat
