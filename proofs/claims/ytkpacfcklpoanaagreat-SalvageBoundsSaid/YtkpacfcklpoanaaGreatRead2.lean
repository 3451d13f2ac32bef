import Derived.Test.YtkpacfcklpoanaaGreatRead
set_option linter.unusedVariables false
set_option linter.unusedSimpArgs false
namespace Go.Proofs.YtkpacfcklpoanaaGreat
open Go.RowKit
theorem rvf_err (k : Nat) : ∀ i acc r c, rvf k i acc r = .error c → c = 2 ∨ c = 3 ∨ c = 4 := by
  induction k with
  | zero => intro i acc r c h; simp [rvf] at h
  | succ k ih =>
    intro i acc r c h
    cases r with
    | nil => simp [rvf] at h; omega
    | cons b r =>
      rw [rvf] at h
      split at h
      · simp at h; omega
      · split at h
        · exact ih _ _ _ _ h
        · split at h
          · simp at h; omega
          · simp at h
theorem rtext_err (a b : Int) (r : List UInt8) (c : Int) (h : rtext a b r = .error c) : c = 2 ∨ c = 3 ∨ c = 4 := by
  unfold rtext at h
  split at h
  · rename_i hv
    injection h with h
    subst h
    exact rvf_err _ _ _ _ _ hv
  · split at h
    · simp at h; omega
    · split at h
      · simp at h; omega
      · unfold rtake at h
        split at h
        · simp at h
        · split at h
          · simp at h; omega
          · simp at h
theorem rrec_err (b : List UInt8) (c : Int) (h : rrec b = .error c) : c = 2 ∨ c = 3 ∨ c = 4 := by
  unfold rrec at h
  split at h
  · simp at h; omega
  · split at h
    · simp at h; omega
    · split at h
      · rename_i hv
        injection h with h
        subst h
        exact rvf_err _ _ _ _ _ hv
      · split at h
        · rename_i hv
          injection h with h
          subst h
          exact rtext_err _ _ _ _ hv
        · split at h
          · rename_i hv
            injection h with h
            subst h
            split at hv
            · simp at hv
            · exact rtext_err _ _ _ _ hv
          · split at h
            · simp at h
            · simp at h; omega
/-- A record as a value. -/
def recV (d : Bool) (q : Int) (k v : ByteArray) : Value := .agg #[.bool d, .int .u64 q, .string k, .string v]
def recOut : Except Int (Bool × Int × List UInt8 × List UInt8) → Value
  | .ok (d, q, k, v) => .tuple #[.agg #[.bool d, .int .u64 q, .string ⟨k.toArray⟩, .string ⟨v.toArray⟩], .int .i64 0]
  | .error c => .tuple #[.agg #[.bool false, .int .u64 0, .string ⟨#[]⟩, .string ⟨#[]⟩], .int .i64 c]
theorem enter360 (W : World) (args : Array Value) : (callFunc 360 args).run Tryz.prog W = .ok (.enter 360 args) W := enters_of Tryz.func360 (by kernel_rfl) rfl args W
set_option maxRecDepth 100000 in
theorem record_Read (A : Option Addr) (c N : Nat) (b : List UInt8) (w : World) (hr : RB w A b) (hN : b.length = N) (hl : N ≤ maxB) :
    Calls Tryz.prog 289 #[.slice A N c] w fun e w' => e = .returned (recOut (rrec b)) ∧ Below w.heap.size w w' := by
  obtain ⟨W0, hW0⟩ : ∃ W, W = (w.alloc (.cells #[.bool false, .int .u64 0, .string ⟨#[]⟩, .string ⟨#[]⟩] 28)).alloc (.cells #[.bool false, .int .u64 0, .string ⟨#[]⟩, .string ⟨#[]⟩] 28) := ⟨_, rfl⟩
  have hb0 : Below w.heap.size w W0 := by rw [hW0]; exact ((Below.refl _ _).alloc (Nat.le_refl _) _).alloc (by simp) _
  have hs0 : W0.heap.size = w.heap.size + 2 := by rw [hW0]; simp
  have hgr0 : W0.heap[w.heap.size + 1]? = some (.cells #[.bool false, .int .u64 0, .string ⟨#[]⟩, .string ⟨#[]⟩] 28 (0, 0)) := by
    rw [hW0]
    have := heap_new (w.alloc (.cells #[.bool false, .int .u64 0, .string ⟨#[]⟩, .string ⟨#[]⟩] 28)) (.cells #[.bool false, .int .u64 0, .string ⟨#[]⟩, .string ⟨#[]⟩] 28)
    simpa using this
  have hg0 : W0.heap[w.heap.size]? = some (.cells #[.bool false, .int .u64 0, .string ⟨#[]⟩, .string ⟨#[]⟩] 28 (0, 0)) := by
    rw [hW0]
    exact blk_alloc (heap_new _ _) _
  have hrun := cursor_Run 360 #[.pointer (some ⟨w.heap.size + 1, 0, none⟩)] (w.heap.size + 1) A c N b (errOf (rrec b)) (RecAt (w.heap.size + 1) (rrec b)) W0 (hr.below hb0) hN hl (by omega) enter360
    (fun W g hbl hg hcur => record_Read1 g (w.heap.size + 1) N b W hcur hl (blk_below hgr0 hbl (by omega)) (by omega))
  have herr := rrec_err b
  generalize rrec b = m at *
  have HR := hid0 hrun
  clear hrun
  have hmf : ∀ (fn : Fn) (first cap : Array Value) (w : World), (Instr.makeFunc fn first cap).run Tryz.prog w = .ok (.func fn first cap) w := fun _ _ _ _ => rfl
  go_enter Tryz.func289, Tryz.ntmps289
  cases m with
  | error cc =>
    have hcc := herr cc rfl
    have hne : ((cc : Int) != 0) = true := by simp; omega
    go_wp2_with (go_at_call 180; go_loud (rw [← hW0]; (with_reducible refine (HR.out).mono ?_); rintro e w1 ⟨⟨at1, rfl⟩, W2, hz, ho, hb1⟩; simp only [errOf, resNum]; have hq1 := (ho.block w.heap.size (by omega) (by omega) (by omega)).trans hg0; have hq2 := blk_below hq1 hb1 (by omega); have k1 := (blk_cell hq2 0).trans rfl; have k2 := (blk_cell hq2 1).trans rfl; have k3 := (blk_cell hq2 2).trans rfl; have k4 := (blk_cell hq2 3).trans rfl; have kf := blk_frozen hq2))
    have z0 := blk_set (blk_set (blk_set (blk_set hq2 0 (.bool false)) 1 (.int .u64 0)) 2 (.string ⟨#[]⟩)) 3 (.string ⟨#[]⟩)
    have z1 := (blk_cell z0 0).trans rfl
    have z2 := (blk_cell z0 1).trans rfl
    have z3 := (blk_cell z0 2).trans rfl
    have z4 := (blk_cell z0 3).trans rfl
    have hs := ho.size
    refine bodyPost_ret (v := .tuple #[.agg #[.bool false, .int .u64 0, .string ⟨#[]⟩, .string ⟨#[]⟩], .int .i64 cc]) ?_ rfl ⟨rfl, ?_⟩
    · simp [results, Tryz.results289, go_sem, z1, z2, z3, z4]
    · have hW2 : Below w.heap.size w W2 := hb0.trans ⟨ho.os, ho.tape, ho.output, ho.size, fun k hk => ho.block k (by omega) (by omega) (by omega)⟩
      exact ((((hW2.trans (hb1.mono (by omega))).setCell (by simp) _).setCell (by simp) _).setCell (by simp) _).setCell (by simp) _
  | ok m =>
    obtain ⟨d, q, k, v⟩ := m
    go_wp2_with (go_at_call 180; go_loud (rw [← hW0]; (with_reducible refine (HR.out).mono ?_); rintro e w1 ⟨⟨at1, rfl⟩, W2, hz, ho, hb1⟩; simp only [errOf, resNum]; have hq1 := (ho.block w.heap.size (by omega) (by omega) (by omega)).trans hg0; have hq2 := blk_below hq1 hb1 (by omega); have hq3 := blk_below hz hb1 (by have := ho.size; omega); have k1 := (blk_cell hq2 0).trans rfl; have k2 := (blk_cell hq2 1).trans rfl; have k3 := (blk_cell hq2 2).trans rfl; have k4 := (blk_cell hq2 3).trans rfl; have kf := blk_frozen hq2; have j1 := (blk_cell hq3 0).trans rfl; have j2 := (blk_cell hq3 1).trans rfl; have j3 := (blk_cell hq3 2).trans rfl; have j4 := (blk_cell hq3 3).trans rfl))
    have z0 := blk_set (blk_set (blk_set (blk_set hq2 0 (.bool d)) 1 (.int .u64 q)) 2 (.string ⟨k.toArray⟩)) 3 (.string ⟨v.toArray⟩)
    have z1 := (blk_cell z0 0).trans rfl
    have z2 := (blk_cell z0 1).trans rfl
    have z3 := (blk_cell z0 2).trans rfl
    have z4 := (blk_cell z0 3).trans rfl
    have hs := ho.size
    refine bodyPost_ret (v := .tuple #[.agg #[.bool d, .int .u64 q, .string ⟨k.toArray⟩, .string ⟨v.toArray⟩], .int .i64 0]) ?_ rfl ⟨rfl, ?_⟩
    · simp [results, Tryz.results289, go_sem, z1, z2, z3, z4]
    · have hW2 : Below w.heap.size w W2 := hb0.trans ⟨ho.os, ho.tape, ho.output, ho.size, fun k hk => ho.block k (by omega) (by omega) (by omega)⟩
      exact ((((hW2.trans (hb1.mono (by omega))).setCell (by simp) _).setCell (by simp) _).setCell (by simp) _).setCell (by simp) _
end Go.Proofs.YtkpacfcklpoanaaGreat
