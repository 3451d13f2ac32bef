import Derived.Test.YtkpacfcklpoanaaGreatSalv
set_option linter.unusedVariables false
set_option linter.unusedSimpArgs false
namespace Go.Proofs.YtkpacfcklpoanaaGreat
open Go.RowKit
set_option maxRecDepth 100000 in
set_option maxHeartbeats 2000000 in
theorem salv_hold (ss kk n base m : Nat) (s : SS) (x : UInt8) (w : World) (hs : IsSalv w ss kk n base s) (hok : SOk s m) (hbs : base ≤ ss) (hne : ss ≠ kk) (hbw : base ≤ w.heap.size) (v : Value) (xs : List Fnd) (hx : OV encF w base 30 7 v xs) :
    Calls Tryz.prog 118 #[.pointer (some ⟨ss, 0, none⟩), .int .u8 (x.toNat : Int)] w fun e w' => e = .returned (.tuple #[]) ∧ IsSalv w' ss kk n base { s with held := s.held ++ [x] } ∧ OV encF w' base 30 7 v xs ∧ Below base w w' := by
  obtain ⟨AH, cH, h1, h2, h3⟩ := hs
  obtain ⟨o1, o2, o3, o4, o5⟩ := hok
  have k1 := (blk_cell h1 1).trans rfl
  have k2 := (blk_cell h1 2).trans rfl
  have kf := blk_frozen h1
  have hss := blk_lt h1
  have hd : decide ((1060000 : Int) ≤ (s.held.length : Int)) = false := decide_eq_false (by omega)
  go_enter Tryz.func118, Tryz.ntmps118
  go_wp2_with (first
    | (at_builtin; go_loud (refine append_b rfl _ _ rfl base (.slice AH s.held.length cH) s.held rfl (h3.alloc _) (some ⟨w.heap.size, 0, none⟩) 1 1 [x] rfl rfl ?_ ?_ ?_ ?_; exact RB.one w _ _ rfl; (rw [maxB_eq]; simp; omega); (simp; omega); intro A5 c5 x5 w5 HX5 hx5 ho5 hg5; have y1 := blk_grown (blk_alloc h1 _) hg5 (own_ne h1 h3 (by decide)); have y2 := blk_grown (blk_alloc h2 _) hg5 (own_ne h2 h3 (by decide)); have z1 := (blk_cell y1 1).trans rfl; have zf := blk_frozen y1; have yb : Below base w w5 := ((Below.refl _ _).alloc (by omega) _).grown hg5 (by simp; omega) (own_base h3))))
  go_end0
  have hx5e : x5 = s.held ++ [x] := HX5.out
  have hq := Ne.symm (own_ne y1 ho5 (by decide))
  refine ⟨rfl, ⟨A5, c5, ?_, blk_far y2 (Ne.symm hne) _, ?_⟩, ?_, below_setG yb hbs _ _⟩
  · have := blk_set y1 1 (.slice A5 x5.length c5)
    rw [hx5e] at this ⊢
    exact this
  · rw [hx5e] at ho5 hq ⊢
    exact own_far ho5 _ _ hq
  · exact own_far (World.ownsRow.kept (World.ownsRow.alloc hx _) hg5 (own_own_ne hx h3 (by decide))) _ _ (Ne.symm (own_ne y1 (World.ownsRow.kept (World.ownsRow.alloc hx _) hg5 (own_own_ne hx h3 (by decide))) (by decide)))
theorem salv_Counts (ss kk n base : Nat) (s : SS) (w : World) (hs : IsSalv w ss kk n base s) :
    Calls Tryz.prog 34 #[.pointer (some ⟨ss, 0, none⟩)] w fun e w' => e = .returned (.tuple #[.int .i64 s.chunks, .int .i64 s.found, .int .i64 s.empty]) ∧ Below w.heap.size w w' := by
  obtain ⟨AH, cH, h1, h2, h3⟩ := hs
  have k3 := (blk_cell h1 3).trans rfl
  have k4 := (blk_cell h1 4).trans rfl
  have k5 := (blk_cell h1 5).trans rfl
  go_enter Tryz.func34, Tryz.ntmps34
  go_wp2
  go_region
  go_wp2
  refine bodyPost_ret (v := .tuple #[.int .i64 s.chunks, .int .i64 s.found, .int .i64 s.empty]) ?_ rfl ⟨rfl, (Below.refl _ _).drew⟩
  simp [results, Tryz.results34, go_sem]
theorem salv_Held (ss kk n base : Nat) (s : SS) (w : World) (hs : IsSalv w ss kk n base s) :
    Calls Tryz.prog 37 #[.pointer (some ⟨ss, 0, none⟩)] w fun e w' => e = .returned (.int .i64 s.held.length) ∧ w = w' := by
  obtain ⟨AH, cH, h1, h2, h3⟩ := hs
  have k1 := (blk_cell h1 1).trans rfl
  go_enter Tryz.func37, Tryz.ntmps37
  go_wp2
  go_ret
  exact ⟨rfl, rfl⟩
theorem salv_New (size : Int) (w : World) :
    Calls Tryz.prog 31 #[.int .i64 size] w fun e w' => e = .returned (.pointer (some ⟨w.heap.size + 1, 0, none⟩)) ∧
      w' = (w.alloc (.cells #[.int .i64 (max 1 size), .int .u64 0, .int .i64 0, .int .i64 0] 319)).alloc (.cells #[.pointer (some ⟨w.heap.size, 0, none⟩), .slice none 0 0, .bool false, .int .i64 0, .int .i64 0, .int .i64 0] 201) := by
  go_enter Tryz.func31, Tryz.ntmps31
  go_wp2_with (go_at_call 115; go_loud ((with_reducible refine (chunk_New size w).mono ?_); rintro e w1 ⟨rfl, rfl⟩))
  go_ret
  exact ⟨by simp, rfl⟩
end Go.Proofs.YtkpacfcklpoanaaGreat
