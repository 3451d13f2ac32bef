/- The rooms of segments. -/
import Derived.Test.YtkpacfcklpoanaaGreatImg2
import Derived.Test.YtkpacfcklpoanaaGreatBlk
set_option linter.unusedVariables false
set_option linter.unusedSimpArgs false
namespace Go.Proofs.YtkpacfcklpoanaaGreat
open Go.RowKit
theorem pack_Empty_err (ex sg nr : Nat) (w : World) (he : ex ≤ 255) (hs : sg ≤ 4294967295) (hn : nr ≤ 4294967295) (h : headErr ex sg nr ≠ 0) :
    Calls Tryz.prog 127 #[.agg #[.int .u8 ex, .int .u32 sg], .int .u32 nr] w fun e w' => e = .returned (.tuple #[.agg #[.int .u8 0, .int .u32 0, .int .u32 0, .int .i64 0, .int .i64 0], .int .i64 (headErr ex sg nr)]) ∧ Below w.heap.size w w' := by
  have HP := hid0 (fun W => frame_PutHead_err ex sg nr W he hs hn h)
  generalize headErr ex sg nr = ce at *
  have hbz : ((ce : Int) != 0) = true := by simpa using h
  have hb0 : Below w.heap.size w ((w.alloc (.cells #[.int .u8 ex, .int .u32 sg] 54)).alloc (.cells #[.int .u8 0, .int .u32 0, .int .u32 0, .int .i64 0, .int .i64 0] 221)) := ((Below.refl _ _).alloc (Nat.le_refl _) _).alloc (by simp) _
  go_enter Tryz.func127, Tryz.ntmps127
  go_wp2_with (go_at_call 214; go_loud ((with_reducible refine (HP.out _).mono ?_); rintro e w1 ⟨rfl, hb1⟩; have h54 := blk_below (blk_alloc (heap_new w _) _) hb1 (by simp <;> omega); have h221 := blk_below (heap_new2 w _ _) hb1 (by simp <;> omega); obtain ⟨p0, p1⟩ := c2 h54; obtain ⟨z0, z1, z2, z3, z4⟩ := c5 h221; have zf := blk_frozen h221))
  have hbw := hb0.trans (hb1.mono hb0.size)
  obtain ⟨q0, q1, q2, q3, q4⟩ := c5 (set5 h221 (.int .u8 0) (.int .u32 0) (.int .u32 0) (.int .i64 0) (.int .i64 0))
  refine bodyPost_ret (v := .tuple #[.agg #[.int .u8 0, .int .u32 0, .int .u32 0, .int .i64 0, .int .i64 0], .int .i64 ce]) ?_ rfl ⟨rfl, ?_⟩
  · simp [results, Tryz.results127, go_sem, q0, q1, q2, q3, q4]
  · exact bset5 hbw (by simp) _ _ _ _ _
theorem pack_Empty (ex sg nr : Nat) (w : World) (he : ex ≤ 255) (hs : sg ≤ 4294967295) (hn : nr ≤ 4294967295) (h : headErr ex sg nr = 0) :
    Calls Tryz.prog 127 #[.agg #[.int .u8 ex, .int .u32 sg], .int .u32 nr] w fun e w' => e = .returned (.tuple #[.agg #[.int .u8 ex, .int .u32 sg, .int .u32 nr, .int .i64 (head ex sg nr).length, .int .i64 0], .int .i64 0]) ∧ Below w.heap.size w w' := by
  have HP := hid0 (fun W => frame_PutHead ex sg nr W he hs hn h)
  generalize head ex sg nr = hd at *
  have hb0 : Below w.heap.size w ((w.alloc (.cells #[.int .u8 ex, .int .u32 sg] 54)).alloc (.cells #[.int .u8 0, .int .u32 0, .int .u32 0, .int .i64 0, .int .i64 0] 221)) := ((Below.refl _ _).alloc (Nat.le_refl _) _).alloc (by simp) _
  go_enter Tryz.func127, Tryz.ntmps127
  go_wp2_with (go_at_call 214; go_loud ((with_reducible refine (HP.out _).mono ?_); rintro e w1 ⟨x, rfl, ho1, hb1⟩; obtain ⟨A1, cp1, rfl⟩ := own_slice ho1; clear ho1; have h54 := blk_below (blk_alloc (heap_new w _) _) hb1 (by simp <;> omega); have h221 := blk_below (heap_new2 w _ _) hb1 (by simp <;> omega); obtain ⟨p0, p1⟩ := c2 h54; obtain ⟨z0, z1, z2, z3, z4⟩ := c5 h221; have zf := blk_frozen h221))
  have hbw := hb0.trans (hb1.mono hb0.size)
  obtain ⟨q0, q1, q2, q3, q4⟩ := c5 (set5 h221 (.int .u8 ex) (.int .u32 sg) (.int .u32 nr) (.int .i64 hd.length) (.int .i64 0))
  refine bodyPost_ret (v := .tuple #[.agg #[.int .u8 ex, .int .u32 sg, .int .u32 nr, .int .i64 hd.length, .int .i64 0], .int .i64 0]) ?_ rfl ⟨rfl, ?_⟩
  · simp [results, Tryz.results127, go_sem, q0, q1, q2, q3, q4]
  · exact bset5 hbw (by simp) _ _ _ _ _
/-- What is left of a room. -/
def roomLeft (ex sg used cnt : Nat) : Nat := cfgSize ex sg - used - footMost (cnt + 1)
theorem held4 {w W W' : World} {B g : Nat} {i j k l : Nat} {a b c d : Value} (h : Below B w W ∧ W.cell? ⟨g, i, none⟩ = some a ∧ W.cell? ⟨g, j, none⟩ = some b ∧ W.cell? ⟨g, k, none⟩ = some c ∧ W.cell? ⟨g, l, none⟩ = some d) (hb : Below W.heap.size W W') (hB : B ≤ w.heap.size) :
    Below B w W' ∧ W'.cell? ⟨g, i, none⟩ = some a ∧ W'.cell? ⟨g, j, none⟩ = some b ∧ W'.cell? ⟨g, k, none⟩ = some c ∧ W'.cell? ⟨g, l, none⟩ = some d := by
  obtain ⟨h1, h2, h3, h4, h5⟩ := h
  have hg : g < W.heap.size := World.block_lt_of_cell? W _ h2
  exact ⟨h1.trans (hb.mono (Nat.le_trans hB h1.size)), keepc hb hg h2, keepc hb hg h3, keepc hb hg h4, keepc hb hg h5⟩
set_option maxRecDepth 100000 in
theorem pack_Left (ex sg nr used cnt : Nat) (w : World) (he : ex ≤ 255) (hs : sg ≤ 4294967295) (hu : used ≤ 1000000000) (hc : cnt ≤ 1000000) :
    Calls Tryz.prog 310 #[.agg #[.int .u8 ex, .int .u32 sg, .int .u32 nr, .int .i64 used, .int .i64 cnt]] w fun e w' => e = .returned (.int .i64 (roomLeft ex sg used cnt)) ∧ Below w.heap.size w w' := by
  have HC := hid0 (fun W => config_Size ex sg W he hs)
  have HM := hid0 (fun W => foot_Most (cnt + 1) W (by omega))
  have hm := footMost_le (cnt + 1) (by omega)
  have hz := cfgSize_le ex sg
  have HF := hid0 (show roomLeft ex sg used cnt = cfgSize ex sg - used - footMost (cnt + 1) from rfl)
  generalize cfgSize ex sg = S at *
  generalize footMost (cnt + 1) = M at *
  have e1 : ((cnt + 1 : Nat) : Int) = (cnt : Int) + 1 := by omega
  rw [e1] at HM
  clear e1
  obtain ⟨W0, hW0⟩ : ∃ W0, W0 = w.alloc (.cells #[.int .u8 ex, .int .u32 sg, .int .u32 nr, .int .i64 used, .int .i64 cnt] 221) := ⟨_, rfl⟩
  have hh : W0.heap[w.heap.size]? = some (.cells #[.int .u8 ex, .int .u32 sg, .int .u32 nr, .int .i64 used, .int .i64 cnt] 221 (0, 0)) := by rw [hW0]; exact heap_new _ _
  have hB : Below w.heap.size w W0 := by rw [hW0]; exact (Below.refl _ _).alloc (Nat.le_refl _) _
  obtain ⟨k0, k1, k2, k3, k4⟩ := c5 hh
  clear k2 hh
  have w1 : IntKind.i64.wrap ((S : Int) - used) = (S : Int) - used := by apply IntWalk.i64_in <;> omega
  have w2 : IntKind.i64.wrap ((cnt : Int) + 1) = (cnt : Int) + 1 := by apply IntWalk.i64_in <;> omega
  have w3 : IntKind.i64.wrap ((S : Int) - used - M) = (S : Int) - used - M := by apply IntWalk.i64_in <;> omega
  have hmx : max 0 ((S : Int) - used - M) = ((S - used - M : Nat) : Int) := by omega
  go_enter Tryz.func310, Tryz.ntmps310
  go_wp2
  rw [← hW0]
  clear hW0
  have hq : Below w.heap.size w W0.drew ∧ W0.drew.cell? ⟨w.heap.size, 0, none⟩ = some (.int .u8 ex) ∧ W0.drew.cell? ⟨w.heap.size, 1, none⟩ = some (.int .u32 sg) ∧ W0.drew.cell? ⟨w.heap.size, 3, none⟩ = some (.int .i64 used) ∧ W0.drew.cell? ⟨w.heap.size, 4, none⟩ = some (.int .i64 cnt) := ⟨hB.drew, k0, k1, k3, k4⟩
  go_region_held3 (fun w' => Below w.heap.size w w' ∧ w'.cell? ⟨w.heap.size, 0, none⟩ = some (.int .u8 ex) ∧ w'.cell? ⟨w.heap.size, 1, none⟩ = some (.int .u32 sg) ∧ w'.cell? ⟨w.heap.size, 3, none⟩ = some (.int .i64 used) ∧ w'.cell? ⟨w.heap.size, 4, none⟩ = some (.int .i64 cnt)) (first | exact hq | exact ⟨hB, k0, k1, k3, k4⟩) (first
    | (go_at_call 156; go_loud ((with_reducible refine (HC.out _).mono ?_); rintro e wn ⟨rfl, hbn⟩; have hq := held4 hq hbn (Nat.le_refl _)))
    | (go_at_call 385; go_loud ((with_reducible refine (HM.out _).mono ?_); rintro e wn ⟨rfl, rfl⟩)))
  all_goals
    go_wp2
    go_ret
    refine ⟨?_, hq.1⟩
    rw [HF.out]
    first | rfl | (rw [hmx])
end Go.Proofs.YtkpacfcklpoanaaGreat
