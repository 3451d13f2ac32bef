/- bytes.Repeat of one byte. -/
import Derived.Test.YtkpacfcklpoanaaGreatBlk
import Derived.Lib.MakeNoZero
import Derived.Lib.SlBuf
import Derived.Laws.IdiomCopy
import Derived.Laws.MathBits
import Derived.Deep.RegionLaw
import Derived.Deep.Cut
import Derived.Deep.CutRange
import Derived.Deep.CutBlock
set_option linter.unusedVariables false
set_option linter.unusedSimpArgs false
namespace Go.Proofs.YtkpacfcklpoanaaGreat
open Go.RowKit
theorem bits_Mul64_one (n : Nat) (hn : n ≤ 1000000000) (w : World) :
    Calls Tryz.prog 387 #[.int .u64 1, .int .u64 n] w fun e w' => e = .returned (.tuple #[.int .u64 0, .int .u64 n]) ∧ w = w' := by
  have h0 : bits .and .u64 0 4294967295 = 0 := by decide
  have h1 : bits .and .u64 1 4294967295 = 1 := by decide
  have h2 : bits .and .u64 (n : Int) 4294967295 = (n : Int) := by rw [and_low32 _ (by omega) (by omega)]; omega
  have h3 : (n : Int) / 4294967296 = 0 := by omega
  go_enter Tryz.func387, Tryz.ntmps387
  go_wp2
  go_ret2
  exact ⟨rfl, rfl⟩
theorem bits_Mul_one (n : Nat) (hn : n ≤ 1000000000) (w : World) :
    Calls Tryz.prog 313 #[.int .u64 1, .int .u64 n] w fun e w' => e = .returned (.tuple #[.int .u64 0, .int .u64 n]) ∧ w = w' := by
  go_enter Tryz.func313, Tryz.ntmps313
  go_wp2_with (go_at_call 387; go_loud ((with_reducible refine (bits_Mul64_one n hn _).mono ?_); rintro e w1 ⟨rfl, rfl⟩))
  go_ret2
  exact ⟨rfl, rfl⟩
theorem run_sl_hm2 (w : World) (A : Option Addr) (n c hi m : Nat) (h1 : hi ≤ m) (h2 : m ≤ c) : (Instr.slice 22 (.slice A n c) none (some (.int .i64 hi)) (some (.int .i64 m))).run Tryz.prog w = .ok (.slice A hi m) w := by
  rw [run_slice_hm w 22 A n c (by kernel_rfl) .i64 .i64 hi m (by omega) (by omega) (by omega)]
  have e : ∀ a : Addr, a.add 0 = a := fun a => by simp [Addr.add]
  cases A <;> simp [size22, Result.andThen, sliced, e]
theorem size5 : (Tryz.prog.info? 5).map (·.size) = some 1 := by kernel_rfl
/-- A row at block g of which the first m of n cells hold X. -/
def Bf (w wr : World) (g n m : Nat) (X : Value) : Prop :=
  Below g w wr ∧ (∀ j, j < n → (wr.cell? ⟨g, j, none⟩).isSome = true) ∧ (∀ j, wr.frozen? ⟨g, j, none⟩ = false) ∧ ∀ j, j < m → wr.cell? ⟨g, j, none⟩ = some X
theorem Bf.step {w wr : World} {g n m L : Nat} {X : Value} (h : Bf w wr g n m X) (hm : m + L ≤ n) : Bf w (wr.drew.setCells g m (List.replicate L X)) g n (m + L) X := by
  obtain ⟨h1, h2, h3, h4⟩ := h
  have hl : (List.replicate L X).length = L := List.length_replicate
  have hin := World.cell?_setCells_in g (List.replicate L X) m wr.drew (fun j hj => h2 (m + j) (by omega))
  have hout := fun j (hj : j < m ∨ m + L ≤ j) => World.cell?_setCells_out g (List.replicate L X) m wr.drew ⟨g, j, none⟩ (fun _ _ => by rw [hl]; exact hj)
  refine ⟨Lib.below_setCells g (Nat.le_refl _) _ _ (bdrewN h1 1), fun j hj => ?_, fun j => ?_, fun j hj => ?_⟩
  · by_cases hjm : j < m ∨ m + L ≤ j
    · rw [hout j hjm]; exact h2 j hj
    · have := hin (j - m) (by omega)
      rw [show m + (j - m) = j from by omega] at this
      rw [this]; rfl
  · rw [World.frozen?_setCells]; exact h3 j
  · by_cases hjm : j < m
    · rw [hout j (.inl hjm)]; exact h4 j hjm
    · have := hin (j - m) (by omega)
      rw [show m + (j - m) = j from by omega] at this
      rw [this]; simp
set_option maxRecDepth 100000 in
set_option maxHeartbeats 1000000 in
theorem bytes_Repeat (x : UInt8) (n : Nat) (A : Option Addr) (cp : Nat) (w : World) (hr : RB w A [x]) (hn : n ≤ 100000000) :
    Calls Tryz.prog 228 #[.slice A 1 cp, .int .i64 n] w fun e w' => ∃ B c, e = .returned (.slice B n c) ∧ RB w' B (List.replicate n x) ∧ Below w.heap.size w w' := by
  by_cases h0 : n = 0
  · subst h0
    go_enter Tryz.func228, Tryz.ntmps228
    go_wp2
    go_ret
    exact ⟨_, _, rfl, RB.nil _ _, (Below.refl _ _).alloc (Nat.le_refl _) _⟩
  · have hz : ((n : Int) == 0) = false := by simpa using h0
    have hn0 : (0 : Int) ≤ n := by omega
    obtain ⟨a, rfl, hcx⟩ := hr (by simp)
    have hcx0 : w.cell? (a.add 0) = some (.int .u8 (x.toNat : Int)) := hcx 0 (by simp)
    have hal := World.block_lt_of_cell? w _ hcx0
    rw [addr_add_block] at hal
    obtain ⟨X, hX⟩ : ∃ X : Value, X = .int .u8 (x.toNat : Int) := ⟨_, rfl⟩
    rw [← hX] at hcx0
    have hX1 : X.oneCell' = true := by rw [hX]; rfl
    have HX := hid0 hX
    clear hX
    obtain ⟨cs, hrunM, hle, _⟩ := Lib.run_makeNoZero (P := Tryz.prog) w #[3] 22 5 Tryz.underlying22 n (by omega)
    have hcall : (callFunc 314 #[.int .i64 (n : Int)]).run Tryz.prog w = .ok (.value (.slice (some ⟨w.heap.size, 0, none⟩) n cs.size)) ((w.alloc (.cells cs 5)).drewN 2) := by
      rw [run_callFunc_extern Tryz.func314 (by kernel_rfl) (by kernel_rfl) (by kernel_rfl) (e := Extern.BytealgMakeNoZero.makeNoZero #[3] #[22]) (by kernel_rfl), hrunM]
      rfl
    clear hrunM
    have hM := hid0 (bits_Mul_one n (by omega) w)
    have hsl := run_sl_hm2 ((w.alloc (.cells cs 5)).drewN 2) (some ⟨w.heap.size, 0, none⟩) n cs.size n n (Nat.le_refl _) hle
    have hg0 : ((w.alloc (.cells cs 5)).drewN 2).heap[w.heap.size]? = some (.cells cs.toList.toArray 5 (0, 0)) := by
      rw [Array.toArray_toList]; exact heap_new w _
    have hcl : cs.toList.length = cs.size := Array.length_toList
    have hb0 : Below w.heap.size w ((w.alloc (.cells cs 5)).drewN 2) := bdrewN ((Below.refl _ _).alloc (Nat.le_refl _) _) 2
    have hx0 : ((w.alloc (.cells cs 5)).drewN 2).cell? (a.add 0) = some X := (hb0.cell (by rw [addr_add_block]; exact hal)).trans hcx0
    have hcopy : (Builtin.copy_ #[22, 22] 3 #[.slice (some ⟨w.heap.size, 0, none⟩) n n, .slice (some a) 1 cp]).run Tryz.prog ((w.alloc (.cells cs 5)).drewN 2) = .ok (.int .i64 1) (((w.alloc (.cells cs 5)).drewN 2).setCell ⟨w.heap.size, 0, none⟩ X) :=
      run_copy_cells (P := Tryz.prog) _ 22 22 3 5 w.heap.size 0 n n a 1 cp [X] Tryz.underlying22 size5 (by show 1 = min 1 n; omega)
        (fun j v hj => by
          have hj0 : j = 0 := by have := (List.getElem?_eq_some_iff.1 hj).1; simpa using this
          subst hj0
          simp at hj
          subst hj
          exact hx0)
        (fun j hj => by rw [Nat.zero_add, blk_cell hg0 j]; simp at hj ⊢; omega)
        (fun j hj => by rw [Nat.zero_add]; exact blk_frozen hg0 j)
        (fun v hv => by simp at hv; subst hv; exact hX1)
    have HG2 := hid0 (show Bf w (((w.alloc (.cells cs 5)).drewN 2).setCell ⟨w.heap.size, 0, none⟩ X) w.heap.size n 1 X from by
      have e := blk_set hg0 0 X
      refine ⟨below_setG hb0 (Nat.le_refl _) 0 X, fun j hj => ?_, fun j => blk_frozen e j, fun j hj => ?_⟩
      · rw [blk_cell e j, Array.getElem?_eq_getElem (by simp; omega)]; rfl
      · obtain rfl : j = 0 := by omega
        rw [blk_cell e 0, List.setIfInBounds_toArray, List.getElem?_toArray, List.getElem?_set_self (by omega)])
    by_cases h8 : n ≤ 8192
    · have h8i : ¬ (8192 : Int) < n := by omega
      go_enter Tryz.func228, Tryz.ntmps228
      go_wp2_with (go_at_call 313; go_loud ((with_reducible refine (hM.out).mono ?_); rintro e w1 ⟨rfl, rfl⟩))
      go_loopw [10, 11] (fun b _ wr => ∃ (m : Nat), 1 ≤ m ∧ m ≤ n ∧ b = .int .i64 m ∧ Hid (Bf w wr w.heap.size n m X)) (fun b _ _ => n - (intOf b).toNat)
      case atStart => exact ⟨1, Nat.le_refl _, by omega, rfl, HG2⟩
      case round =>
        obtain ⟨m, hm1, hmn, rfl, hbf⟩ := hrel
        by_cases hlt : m < n
        · obtain ⟨k, hk0, hk1, hk2, hk3⟩ : ∃ k : Nat, min (m : Int) (n : Int) = (k : Int) ∧ 1 ≤ k ∧ k ≤ m ∧ k ≤ n := ⟨min m n, by omega, by omega, by omega, by omega⟩
          obtain ⟨L, hL, hL1, hL2⟩ : ∃ L : Nat, Hid (L = Nat.min k (n - m)) ∧ 1 ≤ L ∧ m + L ≤ n := ⟨Nat.min k (n - m), hid0 rfl, by show 1 ≤ min k (n - m); omega, by show m + min k (n - m) ≤ n; omega⟩
          have hLk : L ≤ k := by rw [hL.out]; exact Nat.min_le_left _ _
          have hs1 : ∀ W, (Instr.slice 22 (.slice (some ⟨w.heap.size, 0, none⟩) n n) (some (.int .i64 (m : Int))) none none).run Tryz.prog W = .ok (.slice (some ⟨w.heap.size, m, none⟩) (n - m) (n - m)) W := fun W => by
            rw [run_sl_l W _ n n m (by omega)]
            unfold slA
            rw [if_neg (by omega), Option.map_some, addr_off _ _ (by omega)]
            simp
          have hs2 : ∀ W, (Instr.slice 22 (.slice (some ⟨w.heap.size, 0, none⟩) n n) none (some (.int .i64 (k : Int))) none).run Tryz.prog W = .ok (.slice (some ⟨w.heap.size, 0, none⟩) k n) W := fun W => run_sl_h W _ n n k (by omega)
          have hw1 : IntKind.i64.wrap ((m : Int) + (L : Int)) = (m : Int) + (L : Int) := by apply IntWalk.i64_in <;> omega
          have hc3 : (Builtin.copy_ #[22, 22] 3 #[.slice (some ⟨w.heap.size, m, none⟩) (n - m) (n - m), .slice (some ⟨w.heap.size, 0, none⟩) k n]).run Tryz.prog wr.drew = .ok (.int .i64 (L : Int)) (wr.drew.setCells w.heap.size m (List.replicate L X)) := by
            have hl : (List.replicate L X).length = L := List.length_replicate
            have := run_copy_cells (P := Tryz.prog) wr.drew 22 22 3 5 w.heap.size m (n - m) (n - m) ⟨w.heap.size, 0, none⟩ k n (List.replicate L X) Tryz.underlying22 size5 (by rw [hl]; exact hL.out)
              (fun j v hj => by
                have hjl : j < L := by have := (List.getElem?_eq_some_iff.1 hj).1; omega
                have hv : v = X := by rw [List.getElem?_replicate, if_pos hjl] at hj; injection hj with hj; exact hj.symm
                rw [hv, show (⟨w.heap.size, 0, none⟩ : Addr).add j = ⟨w.heap.size, j, none⟩ from by unfold Addr.add; split <;> simp_all]
                exact hbf.out.2.2.2 j (by omega))
              (fun j hj => hbf.out.2.1 (m + j) (by omega))
              (fun j hj => hbf.out.2.2.1 (m + j))
              (fun v hv => by rw [List.eq_of_mem_replicate hv]; exact hX1)
            rw [hl] at this
            exact this
          have hst := hid0 (hbf.out.step hL2)
          generalize wr.drew.setCells w.heap.size m (List.replicate L X) = w3 at *
          go_wp2
          go_region
          go_wp2
          go_roundw
          case rel => exact ⟨m + L, by omega, by omega, by go_num, hst⟩
          case measure => simp [intOf]; omega
        · obtain rfl : m = n := by omega
          go_wp2
          go_ret
          obtain ⟨b1, b2, b3, b4⟩ := hbf.out
          refine ⟨_, _, rfl, fun _ => ⟨_, rfl, fun j hj => ?_⟩, b1⟩
          simp at hj
          rw [show (⟨w.heap.size, 0, none⟩ : Addr).add j = ⟨w.heap.size, j, none⟩ from by unfold Addr.add; split <;> simp_all, b4 j hj, HX.out]
          simp
    · have h8i : (8192 : Int) < n := by omega
      go_enter Tryz.func228, Tryz.ntmps228
      go_wp2_with (go_at_call 313; go_loud ((with_reducible refine (hM.out).mono ?_); rintro e w1 ⟨rfl, rfl⟩))
      go_loopw [10, 11] (fun b _ wr => ∃ (m : Nat), 1 ≤ m ∧ m ≤ n ∧ b = .int .i64 m ∧ Hid (Bf w wr w.heap.size n m X)) (fun b _ _ => n - (intOf b).toNat)
      case atStart => exact ⟨1, Nat.le_refl _, by omega, rfl, HG2⟩
      case round =>
        obtain ⟨m, hm1, hmn, rfl, hbf⟩ := hrel
        by_cases hlt : m < n
        · obtain ⟨k, hk0, hk1, hk2, hk3⟩ : ∃ k : Nat, min (m : Int) (8192 : Int) = (k : Int) ∧ 1 ≤ k ∧ k ≤ m ∧ k ≤ n := ⟨min m 8192, by omega, by omega, by omega, by omega⟩
          obtain ⟨L, hL, hL1, hL2⟩ : ∃ L : Nat, Hid (L = Nat.min k (n - m)) ∧ 1 ≤ L ∧ m + L ≤ n := ⟨Nat.min k (n - m), hid0 rfl, by show 1 ≤ min k (n - m); omega, by show m + min k (n - m) ≤ n; omega⟩
          have hLk : L ≤ k := by rw [hL.out]; exact Nat.min_le_left _ _
          have hs1 : ∀ W, (Instr.slice 22 (.slice (some ⟨w.heap.size, 0, none⟩) n n) (some (.int .i64 (m : Int))) none none).run Tryz.prog W = .ok (.slice (some ⟨w.heap.size, m, none⟩) (n - m) (n - m)) W := fun W => by
            rw [run_sl_l W _ n n m (by omega)]
            unfold slA
            rw [if_neg (by omega), Option.map_some, addr_off _ _ (by omega)]
            simp
          have hs2 : ∀ W, (Instr.slice 22 (.slice (some ⟨w.heap.size, 0, none⟩) n n) none (some (.int .i64 (k : Int))) none).run Tryz.prog W = .ok (.slice (some ⟨w.heap.size, 0, none⟩) k n) W := fun W => run_sl_h W _ n n k (by omega)
          have hw1 : IntKind.i64.wrap ((m : Int) + (L : Int)) = (m : Int) + (L : Int) := by apply IntWalk.i64_in <;> omega
          have hc3 : (Builtin.copy_ #[22, 22] 3 #[.slice (some ⟨w.heap.size, m, none⟩) (n - m) (n - m), .slice (some ⟨w.heap.size, 0, none⟩) k n]).run Tryz.prog wr.drew = .ok (.int .i64 (L : Int)) (wr.drew.setCells w.heap.size m (List.replicate L X)) := by
            have hl : (List.replicate L X).length = L := List.length_replicate
            have := run_copy_cells (P := Tryz.prog) wr.drew 22 22 3 5 w.heap.size m (n - m) (n - m) ⟨w.heap.size, 0, none⟩ k n (List.replicate L X) Tryz.underlying22 size5 (by rw [hl]; exact hL.out)
              (fun j v hj => by
                have hjl : j < L := by have := (List.getElem?_eq_some_iff.1 hj).1; omega
                have hv : v = X := by rw [List.getElem?_replicate, if_pos hjl] at hj; injection hj with hj; exact hj.symm
                rw [hv, show (⟨w.heap.size, 0, none⟩ : Addr).add j = ⟨w.heap.size, j, none⟩ from by unfold Addr.add; split <;> simp_all]
                exact hbf.out.2.2.2 j (by omega))
              (fun j hj => hbf.out.2.1 (m + j) (by omega))
              (fun j hj => hbf.out.2.2.1 (m + j))
              (fun v hv => by rw [List.eq_of_mem_replicate hv]; exact hX1)
            rw [hl] at this
            exact this
          have hst := hid0 (hbf.out.step hL2)
          generalize wr.drew.setCells w.heap.size m (List.replicate L X) = w3 at *
          go_wp2
          go_region
          go_wp2
          go_roundw
          case rel => exact ⟨m + L, by omega, by omega, by go_num, hst⟩
          case measure => simp [intOf]; omega
        · obtain rfl : m = n := by omega
          go_wp2
          go_ret
          obtain ⟨b1, b2, b3, b4⟩ := hbf.out
          refine ⟨_, _, rfl, fun _ => ⟨_, rfl, fun j hj => ?_⟩, b1⟩
          simp at hj
          rw [show (⟨w.heap.size, 0, none⟩ : Addr).add j = ⟨w.heap.size, j, none⟩ from by unfold Addr.add; split <;> simp_all, b4 j hj, HX.out]
          simp
end Go.Proofs.YtkpacfcklpoanaaGreat
