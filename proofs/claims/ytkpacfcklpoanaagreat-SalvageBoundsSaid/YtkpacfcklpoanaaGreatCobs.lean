import Derived.Test.YtkpacfcklpoanaaGreatBuf
set_option linter.unusedVariables false
set_option linter.unusedSimpArgs false
namespace Go.Proofs.YtkpacfcklpoanaaGreat
open Go.RowKit
/-- How many bytes stand ahead of the first nought (all, where there is none). -/
def tw (b : List UInt8) : Nat := (b.takeWhile (· != 0)).length
theorem tw_le (b : List UInt8) : tw b ≤ b.length := by
  induction b with
  | nil => simp [tw]
  | cons x l ih =>
    unfold tw at *
    rw [List.takeWhile_cons]
    split <;> simp <;> omega
/-- Bytes without noughts. -/
def stuff (b : List UInt8) : List UInt8 :=
  if tw b < b.length ∧ tw b < 254 then by8 (tw b + 1) :: (b.take (tw b) ++ stuff (b.drop (tw b + 1)))
  else if 254 < b.length then 255 :: (b.take 254 ++ stuff (b.drop 254))
  else by8 (b.length + 1) :: b
termination_by b.length
decreasing_by all_goals simp; omega
theorem idx_take (b : List UInt8) : idx (b.take 254) 0 = if tw b < b.length ∧ tw b < 254 then (tw b : Int) else -1 := by
  have : ∀ (m : Nat) (b : List UInt8), idx (b.take m) 0 = if tw b < b.length ∧ tw b < m then (tw b : Int) else -1 := by
    intro m b
    induction b generalizing m with
    | nil => simp [idx, Lib.indexByte]
    | cons x l ih =>
      cases m with
      | zero => simp [idx, Lib.indexByte]
      | succ m =>
        have ih := ih m
        unfold idx at ih
        simp only [List.take_succ_cons, idx, Lib.indexByte]
        by_cases hx : x = 0
        · subst hx
          simp [tw]
        · have hx' : (x == 0) = false := by simpa using hx
          have ht : tw (x :: l) = tw l + 1 := by simp [tw, hx]
          rw [hx', ht]
          simp only [Bool.false_eq_true, if_false, List.length_cons]
          rw [ih]
          by_cases hc : tw l < l.length ∧ tw l < m
          · have h2 : tw l + 1 < l.length + 1 ∧ tw l + 1 < m + 1 := by omega
            have h3 : ((tw l : Int) == -1) = false := by simp
            simp only [hc, h2, and_self, if_true, h3, Bool.false_eq_true, if_false]
            omega
          · have h2 : ¬ (tw l + 1 < l.length + 1 ∧ tw l + 1 < m + 1) := by omega
            simp only [hc, h2, if_false]
            rfl
  exact this 254 b
theorem bytes_IndexByte0 (A : Option Addr) (c N : Nat) (l : List UInt8) (w : World) (hr : RB w A l) (hN : l.length = N) :
    Calls Tryz.prog 250 #[.slice A N c, .int .u8 0] w fun e w' => e = .returned (.int .i64 (idx l 0)) ∧ w = w' := bytes_IndexByte A c N l 0 w hr hN
theorem cobs_Most (n : Int) (w : World) (h0 : 0 ≤ n) (h1 : n ≤ maxB) :
    Calls Tryz.prog 390 #[.int .i64 n] w fun e w' => e = .returned (.int .i64 (if n = 0 then 1 else n + 1 + (n - 1) / 254)) ∧ w = w' := by
  rw [maxB_eq] at h1
  go_enter Tryz.func390, Tryz.ntmps390
  go_wp2
  · go_ret
    have : n = 0 := by omega
    exact ⟨by simp [this], rfl⟩
  · go_ret
    have : n ≠ 0 := by omega
    exact ⟨by simp [this], rfl⟩
set_option maxHeartbeats 1000000 in
set_option maxRecDepth 100000 in
theorem cobs_Stuff (A : Option Addr) (c N : Nat) (l : List UInt8) (w : World) (hr : RB w A l) (hN : l.length = N) (hc : N ≤ c) (hl : N ≤ 1000000000) :
    Calls Tryz.prog 323 #[.slice A N c] w fun e w' => ∃ x, e = .returned x ∧ w'.ownsRow w.heap.size 5 1 x (stuff l).length (B8 (stuff l)) ∧ Below w.heap.size w w' := by
  subst hN
  have hr0 := hr.rd
  obtain ⟨i0, hi, hz0, hz1, hz2⟩ := info_parts info5
  have hmost : ∀ n : Nat, n ≤ 1000000000 → ∃ m : Nat, (if (n : Int) = 0 then (1 : Int) else (n : Int) + 1 + ((n : Int) - 1) / 254) = (m : Int) ∧ m ≤ 2000000000 := by
    intro n hn
    by_cases h : (n : Int) = 0
    · exact ⟨1, by simp [h], by omega⟩
    · exact ⟨n + 1 + (n - 1) / 254, by rw [if_neg h]; omega, by omega⟩
  obtain ⟨m0, hm0, hm1⟩ := hmost l.length hl
  have HM0 := hid0 hm0
  clear hmost hm0
  go_enter Tryz.func323, Tryz.ntmps323
  go_wp2_with (first
    | (go_at_call 390; go_loud ((with_reducible refine (cobs_Most _ _ ?_ ?_).mono ?_); omega; (rw [maxB_eq]; omega); rintro e w' ⟨rfl, rfl⟩; rw [HM0.out]))
    | (at_make; go_loud (refine wpList_make_own _ rfl _ _ 22 rfl w.heap.size 5 i0 (.int .u8 0) 1 Tryz.underlying22 hi hz0 hz1 .i64 .i64 _ m0 rfl rfl rfl ?_ ?_ ?_ ?_; (rw [hz2]; omega); (unfold maxLen; omega); exact Nat.le_refl _; intro w1 ho1 hg1)))
  have HST := hid0 (rfl : stuff l = stuff l)
  go_loopw [0, 3] (fun a b wr => ∃ (A2 : Option Addr) (c2 : Nat) (m : List UInt8) (A3 : Option Addr) (c3 : Nat) (xs : List UInt8), a = .slice A2 m.length c2 ∧ RD w.heap.size wr A2 m ∧ m.length ≤ c2 ∧ m.length ≤ l.length ∧
     b = .slice A3 xs.length c3 ∧ wr.ownsRow w.heap.size 5 1 (.slice A3 xs.length c3) xs.length (B8 xs) ∧ xs ++ stuff m = stuff l ∧ xs.length + 2 * m.length ≤ 2 * l.length ∧ Below w.heap.size w wr) (fun a _ _ => match a with | .slice _ n _ => n | _ => 0)
  case atStart => exact ⟨A, c, l, _, _, [], rfl, hr0.below (Below.refl _ _ |>.grown hg1 (Nat.le_refl _) (by simp)), hc, Nat.le_refl _, rfl, ho1, rfl, by simp, Below.refl _ _ |>.grown hg1 (Nat.le_refl _) (by simp)⟩
  case round =>
    obtain ⟨A2, c2, m, A3, c3, xs, rfl, hrd, hmc, hml, rfl, how, hst, hlen, hbl⟩ := hrel
    have HS := hid0 hst
    clear hst
    have hix := bytes_IndexByte0 A2 c2 (min (m.length : Int) 254).toNat (m.take 254) wr ((hrd.rb).take 254) (by simp; omega)
    rw [idx_take] at hix
    have HIX := hid0 hix
    clear hix
    by_cases hz : tw m < m.length ∧ tw m < 254
    · have hsm : stuff m = by8 (tw m + 1) :: (m.take (tw m) ++ stuff (m.drop (tw m + 1))) := by rw [stuff, if_pos hz]
      rw [if_pos hz] at HIX
      have HSM := hid0 hsm
      clear hsm
      obtain ⟨hz1, hz2'⟩ := hz
      generalize tw m = n at *
      have hw1 : IntKind.i64.wrap ((n : Int) + 1) = (n : Int) + 1 := by apply IntWalk.i64_in <;> omega
      have hw2 : IntKind.u8.wrap ((n : Int) + 1) = (n : Int) + 1 := by rw [IntKind.wrap_u8]; omega
      have hb8 : ((by8 ((n : Int) + 1)).toNat : Int) = (n : Int) + 1 := by rw [by8_toNat]; omega
      have HB8 := hid0 hb8
      clear hb8
      have hsl1 : ∀ W, (Instr.slice 22 (.slice A2 m.length c2) none (some (.int .i64 n)) none).run Tryz.prog W = .ok (.slice A2 n c2) W := fun W => run_sl_h W A2 m.length c2 n (by omega)
      have hsl2 : ∀ W, (Instr.slice 22 (.slice A2 m.length c2) (some (.int .i64 ((n : Int) + 1))) none none).run Tryz.prog W = .ok (.slice (slA 1 A2 (n + 1) c2) (m.length - (n + 1)) (c2 - (n + 1))) W := fun W => run_sl_l W A2 m.length c2 (n + 1) (by omega)
      go_wp2_with (go_at_call 250; go_loud ((with_reducible refine (HIX.out).mono ?_); rintro e w' ⟨rfl, rfl⟩))
      go_region_held3 (fun _ => True) (first | exact trivial) (first
        | (go_loud (refine step_append_b rfl _ _ rfl w.heap.size (.slice A3 xs.length c3) xs rfl ?_ (some ⟨wr.heap.size, 0, none⟩) 1 1 [by8 ((n : Int) + 1)] rfl rfl ?_ ?_ ?_ ?_; exact own_drew (how.alloc _); exact (RB.one wr _ _ HB8.out).drew; (rw [maxB_eq]; simp; omega); (have := hbl.size; simp; omega); intro A4 c4 x1 w4 HX1 hx1 ho4 hg4; have hbw4 : Below w.heap.size wr w4 := ((((Below.refl _ wr).alloc hbl.size _).drew).grown hg4 (by have := hbl.size; simp; omega) (own_base how))))
        | (go_loud (refine step_append_b rfl _ _ rfl w.heap.size (.slice A4 x1.length c4) x1 rfl ?_ A2 c2 n (m.take n) ?_ rfl ?_ ?_ ?_ ?_; exact ho4; (simp; omega); exact ((hrd.below hbw4).rb).take n; (have := HX1.out; rw [maxB_eq]; subst this; simp; omega); (have := hbw4.size; have := hbl.size; omega); intro A5 c5 x2 w5 HX2 hx2 ho5 hg5)))
      have hbw5 : Below w.heap.size wr w5 := hbw4.grown hg5 (by have := hbw4.size; have := hbl.size; omega) (own_base ho4)
      clear hsl1
      go_wp2
      clear hsl2
      go_roundw
      case rel =>
        have hx12 : x2 = xs ++ by8 ((n : Int) + 1) :: m.take n := by rw [HX2.out, HX1.out]; simp
        have hxl : x2.length = xs.length + 1 + n := by rw [hx12]; simp; omega
        refine ⟨slA 1 A2 (n + 1) c2, c2 - (n + 1), m.drop (n + 1), A5, c5, x2, by simp, ?_, by simp; omega, by simp; omega, rfl, ho5, ?_, by simp; omega, hbl.trans hbw5⟩
        · exact (hrd.below hbw5).sl (n + 1) c2 hmc
        · rw [hx12, ← HS.out, HSM.out]; simp
      case measure => simp; omega
    · rw [if_neg hz] at HIX
      by_cases h2 : 254 < m.length
      · have hsm : stuff m = 255 :: (m.take 254 ++ stuff (m.drop 254)) := by rw [stuff, if_neg hz, if_pos h2]
        have HSM := hid0 hsm
        clear hsm hz
        have hb8 : (((255 : UInt8)).toNat : Int) = 255 := rfl
        have HB8 := hid0 hb8
        clear hb8
        have hsl1 : ∀ W, (Instr.slice 22 (.slice A2 m.length c2) none (some (.int .i64 254)) none).run Tryz.prog W = .ok (.slice A2 254 c2) W := fun W => run_sl_h W A2 m.length c2 254 (by omega)
        have hsl2 : ∀ W, (Instr.slice 22 (.slice A2 m.length c2) (some (.int .i64 254)) none none).run Tryz.prog W = .ok (.slice (slA 1 A2 254 c2) (m.length - 254) (c2 - 254)) W := fun W => run_sl_l W A2 m.length c2 254 (by omega)
        go_wp2_with (go_at_call 250; go_loud ((with_reducible refine (HIX.out).mono ?_); rintro e w' ⟨rfl, rfl⟩))
        go_region_held3 (fun _ => True) (first | exact trivial) (first
          | (refine step_append_b rfl _ _ rfl w.heap.size (.slice A3 xs.length c3) xs rfl ?_ (some ⟨wr.heap.size, 0, none⟩) 1 1 [255] rfl rfl ?_ ?_ ?_ ?_; exact own_drew (how.alloc _); exact (RB.one wr _ _ HB8.out).drew; (rw [maxB_eq]; simp; omega); (have := hbl.size; simp; omega); intro A4 c4 x1 w4 HX1 hx1 ho4 hg4; have hbw4 : Below w.heap.size wr w4 := ((((Below.refl _ wr).alloc hbl.size _).drew).grown hg4 (by have := hbl.size; simp; omega) (own_base how)))
          | (refine step_append_b rfl _ _ rfl w.heap.size (.slice A4 x1.length c4) x1 rfl ?_ A2 c2 254 (m.take 254) ?_ rfl ?_ ?_ ?_ ?_; exact ho4; (simp; omega); exact ((hrd.below hbw4).rb).take 254; (have := HX1.out; rw [maxB_eq]; subst this; simp; omega); (have := hbw4.size; have := hbl.size; omega); intro A5 c5 x2 w5 HX2 hx2 ho5 hg5))
        have hbw5 : Below w.heap.size wr w5 := hbw4.grown hg5 (by have := hbw4.size; have := hbl.size; omega) (own_base ho4)
        clear hsl1
        go_wp2
        clear hsl2
        go_roundw
        case rel =>
          have hx12 : x2 = xs ++ 255 :: m.take 254 := by rw [HX2.out, HX1.out]; simp
          have hxl : x2.length = xs.length + 1 + 254 := by rw [hx12]; simp; omega
          refine ⟨slA 1 A2 254 c2, c2 - 254, m.drop 254, A5, c5, x2, by simp, ?_, by simp; omega, by simp; omega, rfl, ho5, ?_, by simp; omega, hbl.trans hbw5⟩
          · exact (hrd.below hbw5).sl 254 c2 hmc
          · rw [hx12, ← HS.out, HSM.out]; simp
        case measure => simp; omega
      · have hsm : stuff m = by8 (m.length + 1) :: m := by rw [stuff, if_neg hz, if_neg h2]
        have HSM := hid0 hsm
        clear hsm hz
        have hb8 : ((by8 ((m.length : Int) + 1)).toNat : Int) = (m.length : Int) + 1 := by rw [by8_toNat]; omega
        have HB8 := hid0 hb8
        clear hb8
        have hw2 : ((m.length : Int) + 1) % 256 = (m.length : Int) + 1 := by omega
        go_wp2_with (first
          | (go_at_call 250; go_loud ((with_reducible refine (HIX.out).mono ?_); rintro e w' ⟨rfl, rfl⟩))
          | (at_builtin; have tok := HIX; go_loud (refine append_b rfl _ _ rfl w.heap.size (.slice A3 xs.length c3) xs rfl ?_ (some ⟨wr.heap.size, 0, none⟩) 1 1 [by8 ((m.length : Int) + 1)] rfl rfl ?_ ?_ ?_ ?_; exact how.alloc _; exact RB.one wr _ _ HB8.out; (rw [maxB_eq]; simp; omega); (have := hbl.size; simp; omega); intro A4 c4 x1 w4 HX1 hx1 ho4 hg4; have hbw4 : Below w.heap.size wr w4 := (((Below.refl _ wr).alloc hbl.size _).grown hg4 (by have := hbl.size; simp; omega) (own_base how)); clear HIX))
          | (at_builtin; go_loud (refine append_b rfl _ _ rfl w.heap.size (.slice A4 x1.length c4) x1 rfl ?_ A2 c2 m.length m rfl rfl ?_ ?_ ?_ ?_; exact ho4; exact (hrd.below hbw4).rb; (have := HX1.out; rw [maxB_eq]; subst this; simp; omega); (have := hbw4.size; have := hbl.size; omega); intro A5 c5 x2 w5 HX2 hx2 ho5 hg5)))
        go_ret
        have hx12 : x2 = stuff l := by rw [HX2.out, HX1.out, ← HS.out, HSM.out]; simp
        refine ⟨_, rfl, by rw [← hx12]; exact ho5, hbl.trans (hbw4.grown hg5 (by have := hbw4.size; have := hbl.size; omega) (own_base ho4))⟩
end Go.Proofs.YtkpacfcklpoanaaGreat
