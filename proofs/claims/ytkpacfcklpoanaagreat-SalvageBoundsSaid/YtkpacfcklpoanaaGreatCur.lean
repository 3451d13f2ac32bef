import Derived.Test.YtkpacfcklpoanaaGreatFrame
import Derived.Recover
import Derived.Defers
set_option linter.unusedVariables false
set_option linter.unusedSimpArgs false
namespace Go.Proofs.YtkpacfcklpoanaaGreat
open Go.RowKit
theorem RB.ownN {w : World} {base n : Nat} {A : Option Addr} {c : Nat} {l : List UInt8} (h : w.ownsRow base 5 1 (.slice A n c) n (B8 l)) (hl : l.length = n) : RB w A l := by
  subst hl
  exact RB.own h
/-- A reading at block g: of N bytes those of r are left. -/
def IsCur (w : World) (g base N : Nat) (r : List UInt8) : Prop :=
  ∃ (A : Option Addr) (c : Nat) (b : List UInt8) (p : Nat), w.heap[g]? = some (.cells #[.slice A N c, .int .i64 p, .bool true] 400 (0, 0)) ∧
    w.ownsRow base 5 1 (.slice A N c) N (B8 b) ∧ b.drop p = r ∧ p + r.length = N ∧ b.length = N
theorem IsCur.below {w w1 : World} {g base N : Nat} {r : List UInt8} (h : IsCur w g base N r) (hb : Below w.heap.size w w1) : IsCur w1 g base N r := by
  obtain ⟨A, c, b, p, h1, h2, h3, h4, h5⟩ := h
  refine ⟨A, c, b, p, blk_below h1 hb (blk_lt h1), ⟨h2.1, ?_⟩, h3, h4, h5⟩
  rcases h2.2 with h2 | ⟨g', cap, cur, h6, h7, h8, h9⟩
  · exact .inl h2
  · exact .inr ⟨g', cap, cur, h6, h7, blk_below h8 hb (blk_lt h8), h9⟩
/-- Of what was there block g alone may have turned. -/
structure Only (g : Nat) (w w' : World) : Prop where
  os : w'.os = w.os
  tape : w'.tape = w.tape
  output : w'.output = w.output
  size : w.heap.size ≤ w'.heap.size
  block : ∀ k, k < w.heap.size → k ≠ g → w'.heap[k]? = w.heap[k]?
theorem Only.refl (g : Nat) (w : World) : Only g w w := ⟨rfl, rfl, rfl, Nat.le_refl _, fun _ _ _ => rfl⟩
theorem Only.trans {g : Nat} {a b c : World} (h : Only g a b) (k : Only g b c) : Only g a c :=
  ⟨k.os.trans h.os, k.tape.trans h.tape, k.output.trans h.output, Nat.le_trans h.size k.size, fun i hi hg => (k.block i (Nat.lt_of_lt_of_le hi h.size) hg).trans (h.block i hi hg)⟩
theorem Only.of_below {g : Nat} {w w' : World} (h : Below w.heap.size w w') : Only g w w' := ⟨h.os, h.tape, h.output, h.size, fun k hk _ => h.block k hk⟩
theorem Only.below {g B : Nat} {w w' : World} (h : Only g w w') (hB : B ≤ w.heap.size) (hg : B ≤ g) : Below B w w' := ⟨h.os, h.tape, h.output, h.size, fun k hk => h.block k (by omega) (by omega)⟩
theorem Only.setCell (g i : Nat) (w : World) (u : Value) : Only g w (w.setCell ⟨g, i, none⟩ u) :=
  ⟨rfl, rfl, rfl, by simp [World.setCell], fun k _ hk => Below.heap_setCell _ _ _ _ (by simpa using hk)⟩
theorem Only.drew {g : Nat} {w w' : World} (h : Only g w w') : Only g w w'.drew := ⟨h.os, h.tape, h.output, h.size, h.block⟩
/-- What is thrown when a reading stops. -/
def fault (g : Nat) (c : Int) : List PanicEntry := [{ v := .iface 402 (.agg #[.pointer (some ⟨g, 0, none⟩), .int .i64 c]), recovered := false }]
theorem cur_dead (g base N : Nat) (r : List UInt8) (w : World) (h : IsCur w g base N r) :
    Calls Tryz.prog 273 #[.pointer (some ⟨g, 0, none⟩)] w fun e w' => e = .returned (.bool false) ∧ w = w' := by
  obtain ⟨A, c, b, p, h1, h2, h3, h4, h5⟩ := h
  have hc2 := (blk_cell h1 2).trans rfl
  have hnil : ∀ w : World, (binOp BinOp.eql 297 (.pointer (some ⟨g, 0, none⟩)) (.pointer none)).run Tryz.prog w = .ok (.bool false) w := fun _ => by kernel_rfl
  go_enter Tryz.func273, Tryz.ntmps273
  go_wp2
  go_ret
  exact ⟨rfl, rfl⟩
theorem cur_Left (g base N : Nat) (r : List UInt8) (w : World) (h : IsCur w g base N r) (hN : N ≤ maxB) :
    Calls Tryz.prog 183 #[.pointer (some ⟨g, 0, none⟩)] w fun e w' => e = .returned (.int .i64 r.length) ∧ Below w.heap.size w w' := by
  rw [maxB_eq] at hN
  have hd := cur_dead g base N r w h
  obtain ⟨A, c, b, p, h1, h2, h3, h4, h5⟩ := h
  have hc0 := (blk_cell h1 0).trans rfl
  have hc1 := (blk_cell h1 1).trans rfl
  have hN2 : ((N : Int) - (p : Int)) = (r.length : Int) := by omega
  have hw : IntKind.i64.wrap (r.length : Int) = (r.length : Int) := by apply IntWalk.i64_in <;> omega
  have HD := hid0 hd
  clear hd
  go_enter Tryz.func183, Tryz.ntmps183
  go_wp2_with (go_at_call 273; go_loud ((with_reducible refine (HD.out).mono ?_); rintro e w1 ⟨rfl, rfl⟩))
  go_region
  go_wp2
  go_ret
  exact ⟨rfl, (Below.refl _ _).drew⟩
theorem cur_Fail (g base N : Nat) (r : List UInt8) (c : Int) (w : World) (h : IsCur w g base N r) (hc : c ≠ 0) :
    Calls Tryz.prog 362 #[.pointer (some ⟨g, 0, none⟩), .int .i64 c] w fun e w' => e = .panicked (fault g c) ∧ w = w' := by
  have hd := cur_dead g base N r w h
  have HD := hid0 hd
  clear hd
  go_enter Tryz.func362, Tryz.ntmps362
  go_wp2_with (go_at_call 273; go_loud ((with_reducible refine (HD.out).mono ?_); rintro e w1 ⟨rfl, rfl⟩))
  exact ⟨rfl, rfl, rfl⟩
theorem cur_Take_none (g base N : Nat) (r : List UInt8) (n : Int) (w : World) (h : IsCur w g base N r) (hn : n ≤ 0) :
    Calls Tryz.prog 340 #[.pointer (some ⟨g, 0, none⟩), .int .i64 n] w fun e w' => e = .returned (.slice none 0 0) ∧ w = w' := by
  have hd := cur_dead g base N r w h
  have HD := hid0 hd
  clear hd
  go_enter Tryz.func340, Tryz.ntmps340
  go_wp2_with (go_at_call 273; go_loud ((with_reducible refine (HD.out).mono ?_); rintro e w1 ⟨rfl, rfl⟩))
  go_ret
  exact ⟨rfl, rfl⟩
set_option maxRecDepth 100000 in
theorem cur_Take_err (g base N : Nat) (r : List UInt8) (n : Int) (w : World) (h : IsCur w g base N r) (hN : N ≤ maxB) (hn : (r.length : Int) < n) :
    Calls Tryz.prog 340 #[.pointer (some ⟨g, 0, none⟩), .int .i64 n] w fun e w' => e = .panicked (fault g 2) ∧ Below w.heap.size w w' := by
  rw [maxB_eq] at hN
  have hd := cur_dead g base N r w h
  have hf := cur_Fail g base N r 2 w.drew h (by decide)
  obtain ⟨A, c, b, p, h1, h2, h3, h4, h5⟩ := h
  have hc0 := (blk_cell h1 0).trans rfl
  have hc1 := (blk_cell h1 1).trans rfl
  have hN2 : ((N : Int) - (p : Int)) = (r.length : Int) := by omega
  have hw : IntKind.i64.wrap (r.length : Int) = (r.length : Int) := by apply IntWalk.i64_in <;> omega
  have HD := hid0 hd
  have HF := hid0 hf
  clear hd hf
  go_enter Tryz.func340, Tryz.ntmps340
  go_wp2_with (go_at_call 273; go_loud ((with_reducible refine (HD.out).mono ?_); rintro e w1 ⟨rfl, rfl⟩))
  go_region
  go_wp2_with (go_at_call 362; go_loud ((with_reducible refine (HF.out).mono ?_); rintro e w1 ⟨rfl, rfl⟩))
  exact ⟨rfl, rfl, (Below.refl _ _).drew⟩
set_option maxRecDepth 100000 in
theorem cur_Take_ok (g base N : Nat) (r : List UInt8) (n : Nat) (w : World) (h : IsCur w g base N r) (hb : base ≤ g) (hN : N ≤ maxB) (h0 : 0 < n) (hn : n ≤ r.length) :
    Calls Tryz.prog 340 #[.pointer (some ⟨g, 0, none⟩), .int .i64 n] w fun e w' => ∃ x, e = .returned x ∧ w'.ownsRow w.heap.size 5 1 x n (B8 (r.take n)) ∧ IsCur w' g base N (r.drop n) ∧ Only g w w' := by
  rw [maxB_eq] at hN
  have hd := cur_dead g base N r w h
  obtain ⟨A, c, b, p, h1, h2, h3, h4, h5⟩ := h
  have hc0 := (blk_cell h1 0).trans rfl
  have hc1 := (blk_cell h1 1).trans rfl
  have hf1 := blk_frozen h1 1
  have hN2 : ((N : Int) - (p : Int)) = (r.length : Int) := by omega
  have hw : IntKind.i64.wrap (r.length : Int) = (r.length : Int) := by apply IntWalk.i64_in <;> omega
  have hw3 : IntKind.i64.wrap (p : Int) = (p : Int) := by apply IntWalk.i64_in <;> omega
  have hsl : ∀ W, (Instr.slice 22 (.slice A N c) (some (.int .i64 p)) (some (.int .i64 ((p : Int) + (n : Int)))) none).run Tryz.prog W = .ok (.slice (slA 1 A p c) n (c - p)) W := fun W => by
    have := run_sl_lh W A N c p (p + n) (by omega) (by have := own_cap h2; omega)
    rwa [show p + n - p = n from by omega] at this
  have HD := hid0 hd
  clear hd hN2
  go_enter Tryz.func340, Tryz.ntmps340
  go_wp2_with (go_at_call 273; go_loud ((with_reducible refine (HD.out).mono ?_); rintro e w1 ⟨rfl, rfl⟩))
  go_region
  go_wp2
  obtain ⟨w1, hw1⟩ : ∃ w1, Hid (w1 = (w.setCell ⟨g, 1, none⟩ (Value.int IntKind.i64 ((p : Int) + (n : Int)))).drew) := ⟨_, rfl⟩
  rw [← hw1.out]
  have hh1 : w1.heap[g]? = some (.cells #[.slice A N c, .int .i64 ((p : Int) + (n : Int)), .bool true] 400 (0, 0)) := by rw [hw1.out]; exact blk_set h1 1 _
  have hbl1 : Only g w w1 := by rw [hw1.out]; exact (Only.setCell g 1 w _).drew
  have ho1 : w1.ownsRow base 5 1 (.slice A N c) N (B8 b) := by rw [hw1.out]; exact own_drew (own_far h2 _ _ (Ne.symm (own_ne h1 h2 (by decide))))
  have hd0 := (blk_cell hh1 0).trans rfl
  have hd1 := (blk_cell hh1 1).trans rfl
  have hrb : RB w1 (slA 1 A p c) (r.take n) := by
    rw [← h3]
    exact ((RB.ownN ho1 h5).sl p c (by have := own_cap h2; omega)).take n
  clear hc0 hc1 hf1 hw
  go_region_held3 (fun w' => w'.cell? ⟨g, 0, none⟩ = some (.slice A N c) ∧ w'.cell? ⟨g, 1, none⟩ = some (.int .i64 ((p : Int) + (n : Int)))) (first | exact ⟨hd0, hd1⟩ | exact ⟨keepc hbl2 (blk_lt hh1) hd0, keepc hbl2 (blk_lt hh1) hd1⟩) (first
    | (go_at_call 128; go_loud ((with_reducible refine (bytes_Clone (slA 1 A p c) (c - p) n (r.take n) w1.drew ?_ ?_ ?_).mono ?_); exact hrb; (simp; omega); (rw [maxB_eq]; omega); rintro e w2 ⟨x, rfl, ho2, hbl2⟩)))
  go_wp2
  go_ret
  refine ⟨x, rfl, ?_, ?_, ?_⟩
  · have hs := hbl1.size
    rw [List.length_take, Nat.min_eq_left hn] at ho2
    refine own_mono ho2 ?_
    rw [hw1.out]
    simp [World.setCell]
  · refine IsCur.below ⟨A, c, b, p + n, hh1, ho1, ?_, ?_, h5⟩ (below_undrew hbl2)
    · rw [← h3, List.drop_drop]
    · simp; omega
  · exact hbl1.trans (Only.of_below (below_undrew hbl2))
theorem cur_num_err (g base N : Nat) (r : List UInt8) (n : Int) (w : World) (h : IsCur w g base N r) (hN : N ≤ maxB) (hn : (r.length : Int) < n) :
    Calls Tryz.prog 414 #[.pointer (some ⟨g, 0, none⟩), .int .i64 n] w fun e w' => e = .panicked (fault g 2) ∧ Below w.heap.size w w' := by
  have hd := cur_Take_err g base N r n w h hN hn
  have HD := hid0 hd
  clear hd
  go_enter Tryz.func414, Tryz.ntmps414
  go_wp2_with (go_at_call 340; go_loud ((with_reducible refine (HD.out).mono ?_); rintro e w1 ⟨rfl, hb1⟩))
  exact ⟨rfl, rfl, hb1⟩
theorem cur_num_ok (g base N : Nat) (r : List UInt8) (n : Nat) (w : World) (h : IsCur w g base N r) (hb : base ≤ g) (hN : N ≤ maxB) (h0 : 0 < n) (h8 : n ≤ 8) (hn : n ≤ r.length) :
    Calls Tryz.prog 414 #[.pointer (some ⟨g, 0, none⟩), .int .i64 n] w fun e w' => e = .returned (.int .u64 (leVal (r.take n))) ∧ IsCur w' g base N (r.drop n) ∧ Only g w w' := by
  have hd := cur_Take_ok g base N r n w h hb hN h0 hn
  have HD := hid0 hd
  clear hd
  obtain ⟨l, hl⟩ : ∃ l, Hid (l = r.take n) := ⟨_, rfl⟩
  rw [← hl.out] at HD ⊢
  have hll : l.length = n := by rw [hl.out]; simp; omega
  go_enter Tryz.func414, Tryz.ntmps414
  go_wp2_with (go_at_call 340; go_loud ((with_reducible refine (HD.out).mono ?_); rintro e w1 ⟨x, rfl, ho1, hcur1, hb1⟩; obtain ⟨A1, c1, rfl⟩ := own_slice ho1))
  have hrb := RB.ownN ho1 hll
  go_loop [5, 6, 7, 12] (fun x i6 b i => ∃ k : Nat, k ≤ n ∧ i = .int .i64 k ∧ x = .int .u64 (leVal (l.take k))) (fun _ _ _ i => n - (intOf i).toNat)
  case atStart => exact ⟨0, by omega, rfl, rfl⟩
  case round =>
    obtain ⟨k, hk, rfl, rfl⟩ := hrel
    by_cases hlt : k < n
    · obtain ⟨a, rfl, hc⟩ := hrb (by omega)
      have hck := hc k (by omega)
      have hs := le_shift l k (by omega) (by omega)
      have H : Hid (bits .or .u64 (leVal (l.take k)) (IntKind.u64.wrap (IntKind.u64.wrap ((l[k]'(by omega)).toNat : Int) * 2 ^ (8 * k))) = leVal (l.take (k + 1))) := hs
      clear hs
      go_wp2
      go_round
      case rel => exact ⟨k + 1, by omega, by go_num, by rw [← H.out]⟩
      case measure => simp [intOf]; omega
    · go_wp2
      go_ret
      have : k = n := by omega
      subst this
      refine ⟨?_, hcur1, hb1⟩
      rw [List.take_of_length_le (Nat.le_of_eq hll)]
      rfl
theorem cur_Byte_err (g base N : Nat) (w : World) (h : IsCur w g base N []) (hN : N ≤ maxB) :
    Calls Tryz.prog 361 #[.pointer (some ⟨g, 0, none⟩)] w fun e w' => e = .panicked (fault g 2) ∧ Below w.heap.size w w' := by
  have hd := cur_num_err g base N [] 1 w h hN (by simp)
  have HD := hid0 hd
  clear hd
  go_enter Tryz.func361, Tryz.ntmps361
  go_wp2_with (go_at_call 414; go_loud ((with_reducible refine (HD.out).mono ?_); rintro e w1 ⟨rfl, hb1⟩))
  exact ⟨rfl, rfl, hb1⟩
theorem cur_Byte_ok (g base N : Nat) (b : UInt8) (r : List UInt8) (w : World) (h : IsCur w g base N (b :: r)) (hb : base ≤ g) (hN : N ≤ maxB) :
    Calls Tryz.prog 361 #[.pointer (some ⟨g, 0, none⟩)] w fun e w' => e = .returned (.int .u8 (b.toNat : Int)) ∧ IsCur w' g base N r ∧ Only g w w' := by
  have hd : Calls Tryz.prog 414 #[.pointer (some ⟨g, 0, none⟩), .int .i64 1] w _ := cur_num_ok g base N (b :: r) 1 w h hb hN (by omega) (by omega) (by simp)
  have e1 : leVal (List.take 1 (b :: r)) = (b.toNat : Int) := by simp [leVal]
  rw [e1] at hd
  have HD := hid0 hd
  have hb2 := b.toNat_lt
  clear hd
  go_enter Tryz.func361, Tryz.ntmps361
  go_wp2_with (go_at_call 414; go_loud ((with_reducible refine (HD.out).mono ?_); rintro e w1 ⟨rfl, hc1, hb1⟩))
  go_ret
  exact ⟨rfl, hc1, hb1⟩
theorem cur_Eight_err (g base N : Nat) (r : List UInt8) (w : World) (h : IsCur w g base N r) (hN : N ≤ maxB) (hr : r.length < 8) :
    Calls Tryz.prog 359 #[.pointer (some ⟨g, 0, none⟩)] w fun e w' => e = .panicked (fault g 2) ∧ Below w.heap.size w w' := by
  have hd := cur_num_err g base N r 8 w h hN (by omega)
  have HD := hid0 hd
  clear hd
  go_enter Tryz.func359, Tryz.ntmps359
  go_wp2_with (go_at_call 414; go_loud ((with_reducible refine (HD.out).mono ?_); rintro e w1 ⟨rfl, hb1⟩))
  exact ⟨rfl, rfl, hb1⟩
theorem cur_Eight_ok (g base N : Nat) (r : List UInt8) (w : World) (h : IsCur w g base N r) (hb : base ≤ g) (hN : N ≤ maxB) (hr : 8 ≤ r.length) :
    Calls Tryz.prog 359 #[.pointer (some ⟨g, 0, none⟩)] w fun e w' => e = .returned (.int .u64 (leVal (r.take 8))) ∧ IsCur w' g base N (r.drop 8) ∧ Only g w w' := by
  have hd : Calls Tryz.prog 414 #[.pointer (some ⟨g, 0, none⟩), .int .i64 8] w _ := cur_num_ok g base N r 8 w h hb hN (by omega) (by omega) hr
  have HD := hid0 hd
  clear hd
  go_enter Tryz.func359, Tryz.ntmps359
  go_wp2_with (go_at_call 414; go_loud ((with_reducible refine (HD.out).mono ?_); rintro e w1 ⟨rfl, hc1, hb1⟩))
  go_ret
  exact ⟨rfl, hc1, hb1⟩
theorem cur_End_err (g base N : Nat) (r : List UInt8) (w : World) (h : IsCur w g base N r) (hN : N ≤ maxB) (hr : 0 < r.length) :
    Calls Tryz.prog 365 #[.pointer (some ⟨g, 0, none⟩)] w fun e w' => e = .panicked (fault g 3) ∧ Below w.heap.size w w' := by
  have hd := cur_Left g base N r w h hN
  have HD := hid0 hd
  clear hd
  go_enter Tryz.func365, Tryz.ntmps365
  go_wp2_with (first
    | (go_at_call 183; go_loud ((with_reducible refine (HD.out).mono ?_); rintro e w1 ⟨rfl, hb1⟩))
    | (go_at_call 362; go_loud ((with_reducible refine (cur_Fail g base N r 3 w1 ?_ ?_).mono ?_); exact h.below hb1; decide; rintro e w2 ⟨rfl, rfl⟩)))
  exact ⟨rfl, rfl, hb1⟩
theorem cur_End_ok (g base N : Nat) (w : World) (h : IsCur w g base N []) (hN : N ≤ maxB) :
    Calls Tryz.prog 365 #[.pointer (some ⟨g, 0, none⟩)] w fun e w' => e = .returned (.tuple #[]) ∧ Below w.heap.size w w' := by
  have hd := cur_Left g base N [] w h hN
  have HD := hid0 hd
  clear hd
  go_enter Tryz.func365, Tryz.ntmps365
  go_wp2_with (first
    | (go_at_call 183; go_loud ((with_reducible refine (HD.out).mono ?_); rintro e w1 ⟨rfl, hb1⟩)))
  go_end0
  exact ⟨rfl, hb1⟩
end Go.Proofs.YtkpacfcklpoanaaGreat
