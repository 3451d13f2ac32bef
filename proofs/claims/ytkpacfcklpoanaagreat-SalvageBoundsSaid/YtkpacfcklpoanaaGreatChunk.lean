import Derived.Test.YtkpacfcklpoanaaGreatRow
set_option linter.unusedVariables false
set_option linter.unusedSimpArgs false
namespace Go.Proofs.YtkpacfcklpoanaaGreat
open Go.RowKit
/-- A chunk: segment, from, to. -/
def encC (c : Nat × Nat × Nat) : List Value := [.int .u64 c.1, .int .i64 c.2.1, .int .i64 c.2.2]
theorem infoC : (Tryz.prog.info? 204).map (fun i => (i.zero.map (·.cells.size), i.size, i.bytes)) = some (some 3, 3, 24) := by kernel_rfl
theorem row_of {α : Type} {t e size bytes : Nat} {enc : α → List Value} (ht : Tryz.prog.underlying t = some (.slice e)) (hi : (Tryz.prog.info? e).map (fun i => (i.zero.map (·.cells.size), i.size, i.bytes)) = some (some size, size, bytes)) (hs : 0 < size) (hl : ∀ a, (enc a).length = size) (h1 : ∀ a, ∀ u ∈ enc a, u.oneCell' = true) : Row t e size bytes enc := by
  refine ⟨ht, ?_, hs, hl, h1⟩
  cases h : Tryz.prog.info? e with
  | none => rw [h] at hi; simp at hi
  | some i =>
    rw [h] at hi
    simp at hi
    obtain ⟨⟨z, hz, hz2⟩, h2, h3⟩ := hi
    exact ⟨i, z, rfl, hz, hz2, h2, h3⟩
theorem rowC : Row 202 204 3 24 encC := row_of Tryz.underlying202 infoC (by decide) (fun _ => rfl) (fun a u hu => by simp [encC] at hu; rcases hu with rfl | rfl | rfl <;> rfl)
theorem chunk_New (size : Int) (w : World) :
    Calls Tryz.prog 115 #[.int .i64 size] w fun e w' => e = .returned (.pointer (some ⟨w.heap.size, 0, none⟩)) ∧ w' = w.alloc (.cells #[.int .i64 (max 1 size), .int .u64 0, .int .i64 0, .int .i64 0] 319) := by
  go_enter Tryz.func115, Tryz.ntmps115
  go_wp2
  go_ret
  exact ⟨rfl, rfl⟩
/-- A cutter, at block g: segments of n bytes; which segment, where in it, where the chunk began. -/
def IsCut (w : World) (g n : Nat) (s : Nat × Nat × Nat) : Prop :=
  w.heap[g]? = some (.cells #[.int .i64 n, .int .u64 s.1, .int .i64 s.2.1, .int .i64 s.2.2] 319 (0, 0))
/-- A byte more: the cutter's state. -/
def cstep (n : Nat) (s : Nat × Nat × Nat) (x : UInt8) : Nat × Nat × Nat :=
  if s.2.1 + 1 = n then (s.1 + 1, 0, 0) else (s.1, s.2.1 + 1, if x = 0 then s.2.1 + 1 else s.2.2)
/-- .. and the chunk that it ends. -/
def cout (s : Nat × Nat × Nat) (x : UInt8) : List (Nat × Nat × Nat) := if x = 0 then [(s.1, s.2.2, s.2.1)] else []
def CutOk (n : Nat) (s : Nat × Nat × Nat) : Prop := 0 < n ∧ n ≤ 9223372036854775807 ∧ s.2.1 < n ∧ s.2.2 ≤ s.2.1 ∧ s.1 ≤ 1000000000
theorem cut_Open (g n : Nat) (s : Nat × Nat × Nat) (w : World) (hc : IsCut w g n s) (hs : CutOk n s) :
    Calls Tryz.prog 119 #[.pointer (some ⟨g, 0, none⟩)] w fun e w' => e = .returned (.int .i64 ((s.2.1 - s.2.2 : Nat) : Int)) ∧ Below w.heap.size w w' := by
  obtain ⟨seg, at1, fr⟩ := s
  obtain ⟨h1, h2, h3, h4, h5⟩ := hs
  simp only at h1 h2 h3 h4 h5
  have c2 := (blk_cell hc 2).trans rfl
  have c3 := (blk_cell hc 3).trans rfl
  have hw : IntKind.i64.wrap ((at1 : Int) - (fr : Int)) = ((at1 - fr : Nat) : Int) := by rw [show (at1 : Int) - (fr : Int) = ((at1 - fr : Nat) : Int) from by omega]; apply IntWalk.i64_in <;> omega
  go_enter Tryz.func119, Tryz.ntmps119
  go_wp2
  go_region
  go_wp2
  go_ret
  exact ⟨rfl, (Below.refl _ _).drew⟩
set_option maxRecDepth 100000 in
set_option maxHeartbeats 2000000 in
theorem cut_one (g n base : Nat) (s : Nat × Nat × Nat) (x : UInt8) (A : Option Addr) (c : Nat) (xs : List (Nat × Nat × Nat)) (w : World) (hc : IsCut w g n s) (hs : CutOk n s) (hg : base ≤ w.heap.size) (hx : OV encC w base 204 3 (.slice A xs.length c) xs) (hxl : xs.length ≤ 1000000000) :
    Calls Tryz.prog 204 #[.pointer (some ⟨g, 0, none⟩), .int .u8 (x.toNat : Int), .slice A xs.length c] w fun e w' => ∃ A' c', e = .returned (.slice A' (xs ++ cout s x).length c') ∧ OV encC w' base 204 3 (.slice A' (xs ++ cout s x).length c') (xs ++ cout s x) ∧ IsCut w' g n (cstep n s x) ∧ OnlyR g (Value.slice A xs.length c).ownBlock w w' := by
  obtain ⟨seg, at1, fr⟩ := s
  obtain ⟨h1, h2, h3, h4, h5⟩ := hs
  simp only at h1 h2 h3 h4 h5
  have c0 := (blk_cell hc 0).trans rfl
  have c1 := (blk_cell hc 1).trans rfl
  have c2 := (blk_cell hc 2).trans rfl
  have c3 := (blk_cell hc 3).trans rfl
  have cf := blk_frozen hc
  have hgs := blk_lt hc
  have hw1 : IntKind.i64.wrap ((at1 : Int) + 1) = (at1 : Int) + 1 := by apply IntWalk.i64_in <;> omega
  have hw2 : IntKind.u64.wrap ((seg : Int) + 1) = (seg : Int) + 1 := by apply u64_wrap <;> omega
  by_cases hx0 : x = 0
  · subst hx0
    have hxe : (((0 : UInt8).toNat : Int) == 0) = true := rfl
    have hco : cout (seg, at1, fr) 0 = [(seg, fr, at1)] := rfl
    rw [hco]
    have hB0 : OnlyR g (Value.slice A xs.length c).ownBlock w (w.alloc (.cells #[.int .u64 seg, .int .i64 fr, .int .i64 at1] 204)) := (OnlyR.refl _ _ _).alloc _
    have hzl : (xs ++ [(seg, fr, at1)]).length = xs.length + 1 := by simp
    by_cases hn : at1 + 1 = n
    · have hcs : cstep n (seg, at1, fr) 0 = (seg + 1, 0, 0) := by simp [cstep, hn]
      have hne : ((at1 : Int) + 1 == (n : Int)) = true := by simp; omega
      rw [hcs]
      go_enter Tryz.func204, Tryz.ntmps204
      go_wp2
      go_region_held3 (fun w' => w'.cell? ⟨g, 1, none⟩ = some (.int .u64 seg) ∧ w'.cell? ⟨g, 2, none⟩ = some (.int .i64 at1) ∧ w'.cell? ⟨g, 3, none⟩ = some (.int .i64 fr)) (first | exact ⟨f1, f2, f3⟩ | exact ⟨allocc c1 _, allocc c2 _, allocc c3 _⟩ | exact ⟨c1, c2, c3⟩) (first
        | (go_loud (refine step_append_v rowC rfl _ _ rfl base (.slice A xs.length c) xs rfl ?_ (some ⟨w.heap.size, 0, none⟩) 1 1 [(seg, fr, at1)] rfl rfl ?_ ?_ ?_ ?_; go_loud (exact OV.drew (OV.alloc hx _)); go_loud (exact RV.drew (RV.one (enc := encC) w (seg, fr, at1) 204 #[.int .u64 seg, .int .i64 fr, .int .i64 at1] rfl)); go_loud (simp; omega); go_loud (simp; omega); intro A4 c4 x4 w4 HX4 ho4 ho4' hg4; have hv4 : w4.heap[g]? = some (.cells #[.int .i64 n, .int .u64 seg, .int .i64 at1, .int .i64 fr] 319 (0, 0)) := (hg4.block g (by simp; omega) (own_ne hc hx (by decide))).trans (blk_alloc hc _); have f1 := (blk_cell hv4 1).trans rfl; have f2 := (blk_cell hv4 2).trans rfl; have f3 := (blk_cell hv4 3).trans rfl; have hb4 : OnlyR g (Value.slice A xs.length c).ownBlock w w4 := (hB0.drew).grown hg4; have hq4 := Ne.symm (own_ne hv4 ho4' (by decide)))))
      have e5 := blk_set (blk_set hv4 3 (.int .i64 ((at1 : Int) + 1))) 2 (.int .i64 ((at1 : Int) + 1))
      have d0 := (blk_cell hv4 0).trans rfl
      have d1 := (blk_cell hv4 1).trans rfl
      have d2 := (blk_cell hv4 2).trans rfl
      have d3 := (blk_cell hv4 3).trans rfl
      have df := blk_frozen hv4
      go_wp2
      go_region
      go_wp2
      go_ret
      refine ⟨A4, c4, by rw [← HX4.out]; rfl, ?_, ?_, ?_⟩
      · rw [← HX4.out]
        exact own_drew (own_far (own_far (own_far (own_far (own_far (ho4') _ _ hq4) _ _ hq4) _ _ hq4) _ _ hq4) _ _ hq4)
      · exact blk_set (blk_set (blk_set (blk_set (blk_set hv4 3 (.int .i64 ((at1 : Int) + 1))) 2 (.int .i64 ((at1 : Int) + 1))) 1 (.int .u64 ((seg : Int) + 1))) 2 (.int .i64 0)) 3 (.int .i64 0)
      · exact (OnlyR.setG (OnlyR.setG (OnlyR.setG (OnlyR.setG (OnlyR.setG hb4 _ _) _ _) _ _) _ _) _ _).drew
    · have hcs : cstep n (seg, at1, fr) 0 = (seg, at1 + 1, at1 + 1) := by simp [cstep, hn]
      have hne : ((at1 : Int) + 1 == (n : Int)) = false := by simp; omega
      rw [hcs]
      go_enter Tryz.func204, Tryz.ntmps204
      go_wp2
      go_region_held3 (fun w' => w'.cell? ⟨g, 1, none⟩ = some (.int .u64 seg) ∧ w'.cell? ⟨g, 2, none⟩ = some (.int .i64 at1) ∧ w'.cell? ⟨g, 3, none⟩ = some (.int .i64 fr)) (first | exact ⟨f1, f2, f3⟩ | exact ⟨allocc c1 _, allocc c2 _, allocc c3 _⟩ | exact ⟨c1, c2, c3⟩) (first
        | (go_loud (refine step_append_v rowC rfl _ _ rfl base (.slice A xs.length c) xs rfl ?_ (some ⟨w.heap.size, 0, none⟩) 1 1 [(seg, fr, at1)] rfl rfl ?_ ?_ ?_ ?_; go_loud (exact OV.drew (OV.alloc hx _)); go_loud (exact RV.drew (RV.one (enc := encC) w (seg, fr, at1) 204 #[.int .u64 seg, .int .i64 fr, .int .i64 at1] rfl)); go_loud (simp; omega); go_loud (simp; omega); intro A4 c4 x4 w4 HX4 ho4 ho4' hg4; have hv4 : w4.heap[g]? = some (.cells #[.int .i64 n, .int .u64 seg, .int .i64 at1, .int .i64 fr] 319 (0, 0)) := (hg4.block g (by simp; omega) (own_ne hc hx (by decide))).trans (blk_alloc hc _); have f1 := (blk_cell hv4 1).trans rfl; have f2 := (blk_cell hv4 2).trans rfl; have f3 := (blk_cell hv4 3).trans rfl; have hb4 : OnlyR g (Value.slice A xs.length c).ownBlock w w4 := (hB0.drew).grown hg4; have hq4 := Ne.symm (own_ne hv4 ho4' (by decide)))))
      have d0 := (blk_cell hv4 0).trans rfl
      have d1 := (blk_cell hv4 1).trans rfl
      have d2 := (blk_cell hv4 2).trans rfl
      have d3 := (blk_cell hv4 3).trans rfl
      have df := blk_frozen hv4
      go_wp2
      go_region
      go_wp2
      go_ret
      refine ⟨A4, c4, by rw [← HX4.out]; rfl, ?_, ?_, ?_⟩
      · rw [← HX4.out]
        exact own_drew (own_far (own_far (ho4') _ _ hq4) _ _ hq4)
      · exact blk_set (blk_set hv4 3 (.int .i64 ((at1 : Int) + 1))) 2 (.int .i64 ((at1 : Int) + 1))
      · exact (OnlyR.setG (OnlyR.setG hb4 _ _) _ _).drew
  · have hxe : ((x.toNat : Int) == 0) = false := by
      have : x.toNat ≠ 0 := fun h => hx0 (UInt8.toNat.inj h)
      simp; omega
    have hco : cout (seg, at1, fr) x = [] := by simp [cout, hx0]
    rw [hco, List.append_nil]
    have hq := Ne.symm (own_ne hc hx (by decide))
    by_cases hn : at1 + 1 = n
    · have hcs : cstep n (seg, at1, fr) x = (seg + 1, 0, 0) := by simp [cstep, hn]
      have hne : ((at1 : Int) + 1 == (n : Int)) = true := by simp; omega
      rw [hcs]
      go_enter Tryz.func204, Tryz.ntmps204
      go_wp2
      go_region
      go_wp2
      go_ret
      refine ⟨A, c, rfl, ?_, ?_, ?_⟩
      · exact own_drew (own_far (own_far (own_far (own_far hx _ _ hq) _ _ hq) _ _ hq) _ _ hq)
      · exact blk_set (blk_set (blk_set (blk_set hc 2 (.int .i64 ((at1 : Int) + 1))) 1 (.int .u64 ((seg : Int) + 1))) 2 (.int .i64 0)) 3 (.int .i64 0)
      · exact (OnlyR.setG (OnlyR.setG (OnlyR.setG (OnlyR.setG (OnlyR.refl _ _ _) _ _) _ _) _ _) _ _).drew
    · have hcs : cstep n (seg, at1, fr) x = (seg, at1 + 1, fr) := by simp [cstep, hn, hx0]
      have hne : ((at1 : Int) + 1 == (n : Int)) = false := by simp; omega
      rw [hcs]
      go_enter Tryz.func204, Tryz.ntmps204
      go_wp2
      go_region
      go_wp2
      go_ret
      refine ⟨A, c, rfl, ?_, ?_, ?_⟩
      · exact own_drew (own_far hx _ _ hq)
      · exact blk_set hc 2 (.int .i64 ((at1 : Int) + 1))
      · exact (OnlyR.setG (OnlyR.refl _ _ _) _ _).drew
end Go.Proofs.YtkpacfcklpoanaaGreat
