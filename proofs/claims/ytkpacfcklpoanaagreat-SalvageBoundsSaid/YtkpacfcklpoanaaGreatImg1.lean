import Derived.Test.YtkpacfcklpoanaaGreatFrame
set_option linter.unusedVariables false
set_option linter.unusedSimpArgs false
namespace Go.Proofs.YtkpacfcklpoanaaGreat
open Go.RowKit
/-- May a config be? The error's number. -/
def cfgErr (ex sg : Nat) : Int := if ex < 12 ∨ 24 < ex ∨ sg < 1 ∨ 65536 < sg then 1 else 0
theorem config_Check (ex sg : Nat) (w : World) (he : ex ≤ 255) (hs : sg ≤ 4294967295) :
    Calls Tryz.prog 102 #[.agg #[.int .u8 ex, .int .u32 sg]] w fun e w' => e = .returned (.int .i64 (cfgErr ex sg)) ∧ Below w.heap.size w w' := by
  go_enter Tryz.func102, Tryz.ntmps102
  go_wp2
  all_goals
    go_ret
    refine ⟨?_, (Below.refl _ _).alloc (Nat.le_refl _) _⟩
    first
      | (rw [show cfgErr ex sg = 1 from if_pos (by omega)]; rfl)
      | (rw [show cfgErr ex sg = 0 from if_neg (by omega)]; rfl)
def headErr (ex sg nr : Nat) : Int := if cfgErr ex sg ≠ 0 ∨ sg ≤ nr then 1 else 0
theorem frame_check (ex sg nr : Nat) (w : World) (he : ex ≤ 255) (hs : sg ≤ 4294967295) (hn : nr ≤ 4294967295) :
    Calls Tryz.prog 304 #[.agg #[.int .u8 ex, .int .u32 sg], .int .u32 nr] w fun e w' => e = .returned (.int .i64 (headErr ex sg nr)) ∧ Below w.heap.size w w' := by
  have HC := hid0 (fun W => config_Check ex sg W he hs)
  have hH1 : cfgErr ex sg ≠ 0 ∨ sg ≤ nr → headErr ex sg nr = 1 := fun h => if_pos h
  have hH0 : ¬ (cfgErr ex sg ≠ 0 ∨ sg ≤ nr) → headErr ex sg nr = 0 := fun h => if_neg h
  have HH1 := hid0 hH1
  have HH0 := hid0 hH0
  clear hH1 hH0
  generalize cfgErr ex sg = ce at *
  obtain ⟨W0, hW0⟩ : ∃ W0, W0 = w.alloc (.cells #[.int .u8 ex, .int .u32 sg] 54) := ⟨_, rfl⟩
  have hh : W0.heap[w.heap.size]? = some (.cells #[.int .u8 ex, .int .u32 sg] 54 (0, 0)) := by rw [hW0]; exact heap_new _ _
  have hb : Below w.heap.size w W0 := by rw [hW0]; exact (Below.refl _ _).alloc (Nat.le_refl _) _
  by_cases hc : ce = 0
  · subst hc
    have hbz : ((0 : Int) != 0) = false := rfl
    by_cases hl : nr < sg
    · have hd : decide ((sg : Int) ≤ (nr : Int)) = false := decide_eq_false (by omega)
      go_enter Tryz.func304, Tryz.ntmps304
      go_wp2_with (first
        | (go_at_call 102; go_loud (rw [← hW0]; (with_reducible refine (HC.out _).mono ?_); rintro e w1 ⟨rfl, hb1⟩; have hh1 := blk_below hh hb1 (blk_lt hh); have k1 := (blk_cell hh1 1).trans rfl)))
      go_ret
      rw [HH0.out (by omega)]
      exact ⟨rfl, hb.trans (hb1.mono hb.size)⟩
    · have hd : decide ((sg : Int) ≤ (nr : Int)) = true := decide_eq_true (by omega)
      go_enter Tryz.func304, Tryz.ntmps304
      go_wp2_with (first
        | (go_at_call 102; go_loud (rw [← hW0]; (with_reducible refine (HC.out _).mono ?_); rintro e w1 ⟨rfl, hb1⟩; have hh1 := blk_below hh hb1 (blk_lt hh); have k1 := (blk_cell hh1 1).trans rfl)))
      go_ret
      rw [HH1.out (by omega)]
      exact ⟨rfl, hb.trans (hb1.mono hb.size)⟩
  · have hbz : ((ce : Int) != 0) = true := by simpa using hc
    have HH := hid0 (HH1.out (.inl hc))
    go_enter Tryz.func304, Tryz.ntmps304
    go_wp2_with (first
      | (go_at_call 102; go_loud (rw [← hW0]; (with_reducible refine (HC.out _).mono ?_); rintro e w1 ⟨rfl, hb1⟩; have hh1 := blk_below hh hb1 (blk_lt hh); have k1 := (blk_cell hh1 1).trans rfl)))
    go_ret
    rw [HH.out]
    exact ⟨rfl, hb.trans (hb1.mono hb.size)⟩
/-- A segment's head. -/
def headB (ex sg nr : Nat) : List UInt8 := [by8 1, by8 2, by8 ex] ++ varint sg ++ varint nr
def head (ex sg nr : Nat) : List UInt8 := sealf (headB ex sg nr)
theorem headB_length (ex sg nr : Nat) : (headB ex sg nr).length ≤ 23 := by
  have h1 := varint_le sg
  have h2 := varint_le nr
  simp [headB]; omega
set_option maxRecDepth 100000 in
theorem frame_PutHead_err (ex sg nr : Nat) (w : World) (he : ex ≤ 255) (hs : sg ≤ 4294967295) (hn : nr ≤ 4294967295) (h : headErr ex sg nr ≠ 0) :
    Calls Tryz.prog 214 #[.agg #[.int .u8 ex, .int .u32 sg], .int .u32 nr] w fun e w' => e = .returned (.tuple #[.slice none 0 0, .int .i64 (headErr ex sg nr)]) ∧ Below w.heap.size w w' := by
  have HC := hid0 (fun W => frame_check ex sg nr W he hs hn)
  generalize headErr ex sg nr = ce at *
  have hbz : ((ce : Int) != 0) = true := by simpa using h
  go_enter Tryz.func214, Tryz.ntmps214
  go_wp2_with (first
    | (go_at_call 304; go_loud ((with_reducible refine (HC.out _).mono ?_); rintro e w1 ⟨rfl, hb1⟩)))
  go_ret2
  exact ⟨rfl, ((Below.refl _ _).alloc (Nat.le_refl _) _).trans (hb1.mono (by simp))⟩
set_option maxRecDepth 100000 in
set_option maxHeartbeats 2000000 in
theorem frame_PutHead (ex sg nr : Nat) (w : World) (he : ex ≤ 255) (hs : sg ≤ 4294967295) (hn : nr ≤ 4294967295) (h : headErr ex sg nr = 0) :
    Calls Tryz.prog 214 #[.agg #[.int .u8 ex, .int .u32 sg], .int .u32 nr] w fun e w' => ∃ x, e = .returned (.tuple #[x, .int .i64 0]) ∧ w'.ownsRow w.heap.size 5 1 x (head ex sg nr).length (B8 (head ex sg nr)) ∧ Below w.heap.size w w' := by
  have HC := hid0 (fun W => frame_check ex sg nr W he hs hn)
  rw [h] at HC
  have hl := headB_length ex sg nr
  have HF := hid0 (show head ex sg nr = sealf ([by8 1, by8 2, by8 ex] ++ varint sg ++ varint nr) from rfl)
  have v1 := varint_le sg
  have v2 := varint_le nr
  obtain ⟨W0, hW0⟩ : ∃ W0, W0 = w.alloc (.cells #[.int .u8 ex, .int .u32 sg] 54) := ⟨_, rfl⟩
  have hh : W0.heap[w.heap.size]? = some (.cells #[.int .u8 ex, .int .u32 sg] 54 (0, 0)) := by rw [hW0]; exact heap_new _ _
  have hb : Below w.heap.size w W0 := by rw [hW0]; exact (Below.refl _ _).alloc (Nat.le_refl _) _
  go_enter Tryz.func214, Tryz.ntmps214
  go_wp2_with (first
    | (go_at_call 304; go_loud (rw [← hW0]; (with_reducible refine (HC.out _).mono ?_); rintro e w1 ⟨rfl, hb1⟩; have hh1 := blk_below hh hb1 (blk_lt hh); have k0 := (blk_cell (blk_alloc hh1 (.cells #[.slice none 0 0] 415)) 0).trans rfl; have hlt := blk_lt hh1)))
  have hI : IsBuf (w1.alloc (.cells #[.slice none 0 0] 415)).drew w1.heap.size w1.heap.size [] := IsBuf.new w1
  go_region_held3 (fun w' => w'.cell? ⟨w.heap.size, 0, none⟩ = some (.int .u8 ex)) (first | exact q3 | exact q2 | exact q1 | exact k0) (first
    | (go_at_call 295; go_loud ((with_reducible refine (buf_Byte w1.heap.size w1.heap.size [] 1 _ hI (Nat.le_refl _) (by decide) (by decide) (by decide)).mono ?_); rintro e w2 ⟨rfl, hbuf2, hbl2⟩; have q1 := keepc hbl2 hlt k0))
    | (go_at_call 295; go_loud ((with_reducible refine (buf_Byte w1.heap.size w1.heap.size _ 2 _ hbuf2 (Nat.le_refl _) (by decide) (by decide) (by decide)).mono ?_); rintro e w3 ⟨rfl, hbuf3, hbl3⟩; have q2 := keepc hbl3 hlt q1))
    | (go_at_call 295; go_loud ((with_reducible refine (buf_Byte w1.heap.size w1.heap.size _ ex _ hbuf3 (Nat.le_refl _) (by omega) (by omega) (by decide)).mono ?_); rintro e w4 ⟨rfl, hbuf4, hbl4⟩; have q3 := keepc hbl4 hlt q2)))
  have hbw1 : Below w.heap.size w w1 := hb.trans (hb1.mono hb.size)
  have hbA : Below w1.heap.size w1 w4 := (((Below.refl _ _).alloc (Nat.le_refl _) _).trans (below_undrew hbl2)).trans (hbl3.trans hbl4)
  have hh4 := blk_below hh1 hbA hlt
  have q5 := (blk_cell hh4 1).trans rfl
  rw [show ([] ++ [by8 1] ++ [by8 2] ++ [by8 (ex : Int)] : List UInt8) = [by8 1, by8 2, by8 ex] from rfl] at hbuf4
  obtain ⟨vs, hvs⟩ : ∃ vs, Hid (vs = varint sg) := ⟨_, rfl⟩
  obtain ⟨vr, hvr⟩ : ∃ vr, Hid (vr = varint nr) := ⟨_, rfl⟩
  have P1 := varint_Put w1.heap.size w1.heap.size [by8 1, by8 2, by8 ex] sg w4 hbuf4 (Nat.le_refl _) (by omega) (by omega) (by rw [maxB_eq]; simp)
  have hz := hbw1.size
  clear k0 q1 q2 q3
  go_wp2_with (first
    | (go_at_call 305; go_loud ((with_reducible refine (P1).mono ?_); rintro e w5 ⟨rfl, hbuf5, hbl5⟩))
    | (go_at_call 305; go_loud ((with_reducible refine (varint_Put w1.heap.size w1.heap.size _ nr w5 hbuf5 (Nat.le_refl _) (by omega) (by omega) (by rw [maxB_eq]; simp; omega)).mono ?_); rintro e w6 ⟨rfl, hbuf6, hbl6⟩; obtain ⟨m, HM, hml⟩ : ∃ m, Hid (m = [by8 1, by8 2, by8 (ex : Int)] ++ varint sg ++ varint nr) ∧ m.length ≤ 23 := ⟨_, rfl, hl⟩; rw [← HM.out] at hbuf6))
    | (go_at_call 286; go_loud ((with_reducible refine (buf_Bytes w1.heap.size w1.heap.size m w6 hbuf6 (by rw [maxB_eq]; omega)).mono ?_); rintro e w7 ⟨x, rfl, ho7, hbl7⟩; obtain ⟨A7, c7, rfl⟩ := own_slice ho7; have hw6 : Below w.heap.size w w6 := hbw1.trans ((hbA.trans (hbl5.trans hbl6)).mono hz)))
    | (go_at_call 243; go_loud ((with_reducible refine (frame_Seal A7 c7 _ m w7 (RB.own ho7) rfl (by omega)).mono ?_); rintro e w8 ⟨x, rfl, ho8, hbl8⟩)))
  go_ret2
  rw [HF.out, ← HM.out]
  have hw7 : Below w.heap.size w w7 := hw6.trans (hbl7.mono hw6.size)
  exact ⟨x, rfl, own_mono ho8 hw7.size, hw7.trans (hbl8.mono hw7.size)⟩
end Go.Proofs.YtkpacfcklpoanaaGreat
