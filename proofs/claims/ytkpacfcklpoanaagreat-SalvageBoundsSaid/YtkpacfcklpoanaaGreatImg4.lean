/- What fits into a room. -/
import Derived.Test.YtkpacfcklpoanaaGreatImg3
set_option linter.unusedVariables false
set_option linter.unusedSimpArgs false
namespace Go.Proofs.YtkpacfcklpoanaaGreat
open Go.RowKit
def roomFits (ex sg used cnt n : Nat) : Bool := decide (1 ≤ n) && decide (n ≤ roomLeft ex sg used cnt)
set_option maxRecDepth 100000 in
theorem pack_Fits (ex sg nr used cnt n : Nat) (w : World) (he : ex ≤ 255) (hs : sg ≤ 4294967295) (hu : used ≤ 1000000000) (hc : cnt ≤ 1000000) :
    Calls Tryz.prog 224 #[.agg #[.int .u8 ex, .int .u32 sg, .int .u32 nr, .int .i64 used, .int .i64 cnt], .int .i64 n] w fun e w' => e = .returned (.bool (roomFits ex sg used cnt n)) ∧ Below w.heap.size w w' := by
  have HL := hid0 (fun W => pack_Left ex sg nr used cnt W he hs hu hc)
  have HF := hid0 (show roomFits ex sg used cnt n = (decide (1 ≤ n) && decide (n ≤ roomLeft ex sg used cnt)) from rfl)
  generalize roomLeft ex sg used cnt = L at *
  have hb0 : Below w.heap.size w (w.alloc (.cells #[.int .u8 ex, .int .u32 sg, .int .u32 nr, .int .i64 used, .int .i64 cnt] 221)) := (Below.refl _ _).alloc (Nat.le_refl _) _
  by_cases hn : 1 ≤ n
  · have hd : decide ((1 : Int) ≤ (n : Int)) = true := decide_eq_true (by omega)
    go_enter Tryz.func224, Tryz.ntmps224
    go_wp2_with (go_at_call 310; go_loud ((with_reducible refine (HL.out _).mono ?_); rintro e w1 ⟨rfl, hb1⟩))
    go_ret
    rw [HF.out, decide_eq_true hn]
    exact ⟨by simp, hb0.trans (hb1.mono hb0.size)⟩
  · have hd : decide ((1 : Int) ≤ (n : Int)) = false := decide_eq_false (by omega)
    go_enter Tryz.func224, Tryz.ntmps224
    go_wp2
    go_ret
    rw [HF.out, decide_eq_false hn]
    exact ⟨by simp, hb0⟩
theorem roomFits_le {ex sg used cnt n : Nat} (h : roomFits ex sg used cnt n = true) : 1 ≤ n ∧ used + n ≤ 16777216 := by
  unfold roomFits roomLeft at h
  simp at h
  have := cfgSize_le ex sg
  omega
theorem pack_Take_no (ex sg nr used cnt n : Nat) (w : World) (he : ex ≤ 255) (hs : sg ≤ 4294967295) (hu : used ≤ 1000000000) (hc : cnt ≤ 1000000) (h : roomFits ex sg used cnt n = false) :
    Calls Tryz.prog 217 #[.agg #[.int .u8 ex, .int .u32 sg, .int .u32 nr, .int .i64 used, .int .i64 cnt], .int .i64 n] w fun e w' => e = .returned (.tuple #[.agg #[.int .u8 0, .int .u32 0, .int .u32 0, .int .i64 0, .int .i64 0], .int .i64 7]) ∧ Below w.heap.size w w' := by
  have HL := hid0 (fun W => pack_Fits ex sg nr used cnt n W he hs hu hc)
  rw [h] at HL
  have hb0 : Below w.heap.size w ((w.alloc (.cells #[.int .u8 ex, .int .u32 sg, .int .u32 nr, .int .i64 used, .int .i64 cnt] 221)).alloc (.cells #[.int .u8 0, .int .u32 0, .int .u32 0, .int .i64 0, .int .i64 0] 221)) := ((Below.refl _ _).alloc (Nat.le_refl _) _).alloc (by simp) _
  go_enter Tryz.func217, Tryz.ntmps217
  go_wp2_with (go_at_call 224; go_loud ((with_reducible refine (HL.out _).mono ?_); rintro e w1 ⟨rfl, hb1⟩; have h221 := blk_below (heap_new2 w _ _) hb1 (by simp <;> omega); obtain ⟨z0, z1, z2, z3, z4⟩ := c5 h221; have zf := blk_frozen h221))
  have hbw := hb0.trans (hb1.mono hb0.size)
  obtain ⟨q0, q1, q2, q3, q4⟩ := c5 (set5 h221 (.int .u8 0) (.int .u32 0) (.int .u32 0) (.int .i64 0) (.int .i64 0))
  refine bodyPost_ret (v := .tuple #[.agg #[.int .u8 0, .int .u32 0, .int .u32 0, .int .i64 0, .int .i64 0], .int .i64 7]) ?_ rfl ⟨rfl, ?_⟩
  · simp [results, Tryz.results217, go_sem, q0, q1, q2, q3, q4]
  · exact bset5 hbw (by simp) _ _ _ _ _
theorem pack_Take (ex sg nr used cnt n : Nat) (w : World) (he : ex ≤ 255) (hs : sg ≤ 4294967295) (hu : used ≤ 1000000000) (hc : cnt ≤ 1000000) (h : roomFits ex sg used cnt n = true) :
    Calls Tryz.prog 217 #[.agg #[.int .u8 ex, .int .u32 sg, .int .u32 nr, .int .i64 used, .int .i64 cnt], .int .i64 n] w fun e w' => e = .returned (.tuple #[.agg #[.int .u8 ex, .int .u32 sg, .int .u32 nr, .int .i64 ((used : Int) + n), .int .i64 ((cnt : Int) + 1)], .int .i64 0]) ∧ Below w.heap.size w w' := by
  have hle := roomFits_le h
  have HL := hid0 (fun W => pack_Fits ex sg nr used cnt n W he hs hu hc)
  rw [h] at HL
  have hb0 : Below w.heap.size w ((w.alloc (.cells #[.int .u8 ex, .int .u32 sg, .int .u32 nr, .int .i64 used, .int .i64 cnt] 221)).alloc (.cells #[.int .u8 0, .int .u32 0, .int .u32 0, .int .i64 0, .int .i64 0] 221)) := ((Below.refl _ _).alloc (Nat.le_refl _) _).alloc (by simp) _
  go_enter Tryz.func217, Tryz.ntmps217
  go_wp2_with (go_at_call 224; go_loud ((with_reducible refine (HL.out _).mono ?_); rintro e w1 ⟨rfl, hb1⟩; have h2 := blk_below (blk_alloc (heap_new w _) _) hb1 (by simp <;> omega); have h221 := blk_below (heap_new2 w _ _) hb1 (by simp <;> omega); obtain ⟨p0, p1, p2, p3, p4⟩ := c5 h2; have pf := blk_frozen h2; obtain ⟨z0, z1, z2, z3, z4⟩ := c5 h221; have zf := blk_frozen h221))
  have hbw := hb0.trans (hb1.mono hb0.size)
  have h9 := blk_far (blk_far h221 (p := ⟨w.heap.size, 3, none⟩) (by simp) (.int .i64 ((used : Int) + n))) (p := ⟨w.heap.size, 4, none⟩) (by simp) (.int .i64 ((cnt : Int) + 1))
  obtain ⟨q0, q1, q2, q3, q4⟩ := c5 (set5 h9 (.int .u8 ex) (.int .u32 sg) (.int .u32 nr) (.int .i64 ((used : Int) + n)) (.int .i64 ((cnt : Int) + 1)))
  refine bodyPost_ret (v := .tuple #[.agg #[.int .u8 ex, .int .u32 sg, .int .u32 nr, .int .i64 ((used : Int) + n), .int .i64 ((cnt : Int) + 1)], .int .i64 0]) ?_ rfl ⟨rfl, ?_⟩
  · simp [results, Tryz.results217, go_sem, q0, q1, q2, q3, q4]
  · exact bset5 (below_setG (below_setG hbw (Nat.le_refl _) _ _) (Nat.le_refl _) _ _) (by simp) _ _ _ _ _
theorem pack_TooLarge (ex sg n : Nat) (w : World) (hcf : cfgErr ex sg = 0) :
    Calls Tryz.prog 216 #[.agg #[.int .u8 ex, .int .u32 sg], .int .i64 n] w fun e w' => e = .returned (.bool (!roomFits ex sg (head ex sg (sg - 1)).length 0 n)) ∧ Below w.heap.size w w' := by
  have hok := cfgErr_ok hcf
  have hhe : headErr ex sg (sg - 1) = 0 := by unfold headErr; rw [if_neg (by omega)]
  have hhl : (head ex sg (sg - 1)).length ≤ 100 := by
    have h1 := headB_length ex sg (sg - 1)
    have h2 := sealf_length (headB ex sg (sg - 1))
    show (sealf (headB ex sg (sg - 1))).length ≤ 100
    omega
  have HE := fun W => pack_Empty ex sg (sg - 1) W (by omega) (by omega) (by omega) hhe
  have HL : ∀ W, Calls Tryz.prog 224 #[.agg #[.int .u8 ex, .int .u32 sg, .int .u32 ((sg - 1 : Nat) : Int), .int .i64 (head ex sg (sg - 1)).length, .int .i64 0], .int .i64 n] W _ := fun W => pack_Fits ex sg (sg - 1) (head ex sg (sg - 1)).length 0 n W (by omega) (by omega) (by omega) (by omega)
  rw [show ((sg - 1 : Nat) : Int) = (sg : Int) - 1 from by omega] at HE HL
  have HL := hid0 HL
  have HE := hid0 HE
  rename_i HE' HL'
  clear HE' HL'
  generalize (head ex sg (sg - 1)).length = hl at *
  generalize roomFits ex sg hl 0 n = F at *
  have hb0 : Below w.heap.size w (w.alloc (.cells #[.int .u8 ex, .int .u32 sg] 54)) := (Below.refl _ _).alloc (Nat.le_refl _) _
  clear hcf hhe
  go_enter Tryz.func216, Tryz.ntmps216
  go_wp2_with (first
    | (go_at_call 127; go_loud ((with_reducible refine (HE.out _).mono ?_); rintro e w1 ⟨rfl, hb1⟩))
    | (go_at_call 224; go_loud ((with_reducible refine (HL.out _).mono ?_); rintro e w2 ⟨rfl, hb2⟩)))
  go_ret
  have h1 := hb0.trans (hb1.mono hb0.size)
  have h2 := h1.alloc h1.size (.cells #[.int .u8 ex, .int .u32 sg, .int .u32 ((sg : Int) - 1), .int .i64 hl, .int .i64 0] 221)
  exact ⟨rfl, h2.trans (hb2.mono h2.size)⟩
end Go.Proofs.YtkpacfcklpoanaaGreat
