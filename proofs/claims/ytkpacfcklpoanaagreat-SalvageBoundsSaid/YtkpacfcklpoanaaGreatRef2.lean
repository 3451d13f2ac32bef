import Derived.Deep.RegionHeld
import Derived.Test.YtkpacfcklpoanaaGreatRef1
import Derived.Test.YtkpacfcklpoanaaGreatFrame
set_option linter.unusedVariables false
set_option linter.unusedSimpArgs false
namespace Go.Proofs.YtkpacfcklpoanaaGreat
open Go.RowKit
theorem leVal_drop (l : List UInt8) (k : Nat) (h : k < l.length) : leVal (l.drop k) = ((l[k]'h).toNat : Int) + 256 * leVal (l.drop (k + 1)) := by
  rw [List.drop_eq_getElem_cons h, leVal]
theorem bs_get (l : List UInt8) (k : Nat) (h : k < l.length) : (⟨l.toArray⟩ : ByteArray)[k]'(by simpa [ByteArray.size] using h) = l[k] := rfl
theorem bs_size (l : List UInt8) : (⟨l.toArray⟩ : ByteArray).size = l.length := by simp [ByteArray.size]
theorem bs_append (a b : List UInt8) : (⟨a.toArray⟩ : ByteArray) ++ ⟨b.toArray⟩ = ⟨(a ++ b).toArray⟩ := by
  apply ByteArray.ext
  simp
set_option maxRecDepth 100000 in
theorem ref_Value (l : List UInt8) (w : World) (hl : l.length ≤ 8) :
    Calls Tryz.prog 267 #[.string ⟨l.toArray⟩] w fun e w' => e = .returned (.int .u64 (leVal l)) ∧ w = w' := by
  have hsz : (⟨l.toArray⟩ : ByteArray).size = l.length := by simp [ByteArray.size]
  have hg : ∀ k, k ≤ l.length → 0 ≤ leVal (l.drop k) ∧ leVal (l.drop k) ≤ 18446744073709551615 := fun k _ => leVal_u64 _ (by simp; omega)
  have hs := fun k h => leVal_drop l k h
  go_enter Tryz.func267, Tryz.ntmps267
  go_wp2
  go_loop [3, 4] (fun x i => ∃ k : Nat, k ≤ l.length ∧ i = .int .i64 ((k : Int) - 1) ∧ x = .int .u64 (leVal (l.drop k))) (fun _ i => (intOf i + 1).toNat)
  case atStart => exact ⟨l.length, by omega, by simp, by simp [leVal]⟩
  case round =>
    obtain ⟨k, hk, rfl, rfl⟩ := hrel
    cases k with
    | zero =>
      go_wp2
      go_ret
      exact ⟨rfl, rfl⟩
    | succ k =>
      have hsk := hs k (by omega)
      have hr := hg (k + 1) hk
      have hr0 := hg k (by omega)
      generalize leVal (l.drop (k + 1)) = r at *
      have HS := hid0 hsk
      clear hsk hs hg
      go_wp2
      go_round
      case rel =>
        refine ⟨k, by omega, rfl, ?_⟩
        rw [bs_get l k (by omega), HS.out]
        congr 1
        have := (l[k]'(by omega)).toNat_lt
        have h1 := HS.out
        rw [h1] at hr0
        rw [u64_wrap_eq, u64_wrap_eq (r * 256), u64_wrap_eq ((l[k]'(by omega)).toNat : Int)]
        omega
      case measure => simp [intOf]
theorem run_cat (a b : List UInt8) (h : a.length + b.length ≤ 9223372036854775807) (W : World) : (binOp .add 9 (.string ⟨a.toArray⟩) (.string ⟨b.toArray⟩)).run Tryz.prog W = .ok (.string ⟨(a ++ b).toArray⟩) W := by
  have := run_string_add_sum (P := Tryz.prog) W (⟨a.toArray⟩ : ByteArray) ⟨b.toArray⟩ (by rw [bs_size, bs_size]; exact h)
  rw [bs_append] at this
  simp only [binOp]
  exact this
theorem le_succ (x : Int) (n : Nat) : le x (n + 1) = le x n ++ [by8 (x / 256 ^ n)] := rfl
set_option maxRecDepth 100000 in
theorem ref_Num (x n : Int) (w : World) (h0 : 0 ≤ x) (h1 : x ≤ 18446744073709551615) (hn0 : 0 ≤ n) (hn : n ≤ 8) :
    Calls Tryz.prog 201 #[.int .u64 x, .int .i64 n] w fun e w' => e = .returned (.string ⟨(le x n.toNat).toArray⟩) ∧ Below w.heap.size w w' := by
  obtain ⟨m, rfl⟩ := Int.eq_ofNat_of_zero_le hn0
  have hd : ∀ k : Nat, 0 ≤ x / 256 ^ k ∧ x / 256 ^ k ≤ 18446744073709551615 := fun k => by
    have hp : (0 : Int) < 256 ^ k := Int.pow_pos (by decide)
    refine ⟨Int.ediv_nonneg h0 (by omega), ?_⟩
    have := Int.ediv_le_self (256 ^ k) h0
    omega
  have hs : ∀ k : Nat, x / 256 ^ (k + 1) = x / 256 ^ k / 256 := fun k => by rw [Int.pow_succ, Int.ediv_ediv_of_nonneg (Int.le_of_lt (Int.pow_pos (by decide)))]
  have hap := bs_append
  go_enter Tryz.func201, Tryz.ntmps201
  go_wp2
  go_loopw [0, 5, 7] (fun y o i wr => ∃ k : Nat, k ≤ m ∧ i = .int .i64 k ∧ y = .int .u64 (x / 256 ^ k) ∧ o = .string ⟨(le x k).toArray⟩ ∧ Below w.heap.size w wr) (fun _ _ i _ => m - (intOf i).toNat)
  case atStart => exact ⟨0, by omega, rfl, by simp, rfl, Below.refl _ _⟩
  case round =>
    obtain ⟨k, hk, rfl, rfl, rfl, hbl⟩ := hrel
    have hr := hd k
    have hsk := hid0 (hs k)
    have hle := hid0 (le_succ x k)
    clear hd hs
    by_cases hlt : k < m
    · generalize x / 256 ^ k = r at *
      have h8 : ((by8 r).toNat : Int) = r % 256 := by8_toNat r
      have hcv := run_conv_22_9 (wr.alloc (.cells #[.int .u8 (r % 256)] 5)) (some ⟨wr.heap.size, 0, none⟩) 1 1 [by8 r] (RB.one wr _ _ h8) rfl
      have hll := le_length x k
      go_wp2
      go_roundw
      case rel => exact ⟨k + 1, by omega, by go_num, by rw [hsk.out], by rw [hle.out], hbl.alloc hbl.size _⟩
      case measure => simp [intOf]; omega
    · go_wp2
      go_ret
      obtain rfl : k = m := by omega
      exact ⟨rfl, hbl⟩
set_option maxRecDepth 100000 in
theorem ref_VNum (f : Nat) : ∀ (x : Int) (w : World), f ≤ 9 → 0 ≤ x → x < 128 ^ (f + 1) → x ≤ 18446744073709551615 →
    Calls Tryz.prog 202 #[.int .u64 x] w fun e w' => e = .returned (.string ⟨(vnum f x).toArray⟩) ∧ Below w.heap.size w w' := by
  induction f with
  | zero =>
    intro x w hf h0 h1 h2
    have h3 : x < 128 := by simpa using h1
    have h8 : ((by8 x).toNat : Int) = x := by rw [by8_toNat]; omega
    have hcv := run_conv_22_9 (w.alloc (.cells #[.int .u8 x] 5)) (some ⟨w.heap.size, 0, none⟩) 1 1 [by8 x] (RB.one w _ _ h8) rfl
    go_enter Tryz.func202, Tryz.ntmps202
    go_wp2
    go_ret
    exact ⟨rfl, (Below.refl _ _).alloc (Nat.le_refl _) _⟩
  | succ f ih =>
    intro x w hf h0 h1 h2
    by_cases h3 : x < 128
    · have h8 : ((by8 x).toNat : Int) = x := by rw [by8_toNat]; omega
      have hcv := run_conv_22_9 (w.alloc (.cells #[.int .u8 x] 5)) (some ⟨w.heap.size, 0, none⟩) 1 1 [by8 x] (RB.one w _ _ h8) rfl
      have hv : vnum (f + 1) x = [by8 x] := by rw [vnum, if_pos h3]
      rw [hv]
      clear ih
      go_enter Tryz.func202, Tryz.ntmps202
      go_wp2
      go_ret
      exact ⟨rfl, (Below.refl _ _).alloc (Nat.le_refl _) _⟩
    · have h8 : ((by8 (x % 128 + 128)).toNat : Int) = 128 + x % 128 := by rw [by8_toNat]; omega
      have hcv := run_conv_22_9 ((w.alloc (.cells #[.int .u8 (128 + x % 128)] 5))) (some ⟨w.heap.size, 0, none⟩) 1 1 [by8 (x % 128 + 128)] (RB.one w _ _ h8) rfl
      have hcvA := fun W : World => run_conv_22_9 (W.alloc (.cells #[.int .u8 (128 + x % 128)] 5)) (some ⟨W.heap.size, 0, none⟩) 1 1 [by8 (x % 128 + 128)] (RB.one W _ _ h8) rfl
      have hcvd := run_conv_22_9 ((w.alloc (.cells #[.int .u8 (128 + x % 128)] 5)).drew) (some ⟨w.heap.size, 0, none⟩) 1 1 [by8 (x % 128 + 128)] (RB.drew (RB.one w _ _ h8)) rfl
      have hv : vnum (f + 1) x = by8 (x % 128 + 128) :: vnum f (x / 128) := by rw [vnum, if_neg h3]
      have hvl := vnum_length f (x / 128)
      rw [hv]
      have hih := fun W => ih (x / 128) W (by omega) (by omega) (by rw [Int.pow_succ] at h1; omega) (by omega)
      have hadd := fun W => run_cat [by8 (x % 128 + 128)] (vnum f (x / 128)) (by simp; omega) W
      generalize vnum f (x / 128) = v at *
      have HI := hid0 hih
      clear hih ih hv
      have hw1 : IntKind.u64.wrap (128 + x % 128) = 128 + x % 128 := u64_wrap (by omega) (by omega)
      have hw2 : IntKind.u8.wrap (128 + x % 128) = 128 + x % 128 := by rw [IntKind.wrap_u8]; omega
      have ht1 : x.tmod 128 = x % 128 := Int.tmod_eq_emod_of_nonneg h0
      have ht2 : x.tdiv 128 = x / 128 := Int.tdiv_eq_ediv_of_nonneg h0
      have hw3 : IntKind.u64.wrap (x / 128) = x / 128 := u64_wrap (by omega) (by omega)
      go_enter Tryz.func202, Tryz.ntmps202
      go_wp2
      go_region_held (fun _ => True) (first | exact trivial) (first
        | (go_at_call 202; go_loud ((with_reducible refine (HI.out _).mono ?_); rintro e w2 ⟨rfl, hb2⟩; first | (have hcv2 := run_conv_22_9 w2 (some ⟨w.heap.size, 0, none⟩) 1 1 [by8 (x % 128 + 128)] (RB.below (RB.drew (RB.one w _ _ h8)) hb2) rfl) | skip)))
      all_goals
        go_wp2
        go_ret
        refine ⟨?_, ?_⟩
        · show Ending.returned (.string ((⟨[by8 (x % 128 + 128)].toArray⟩ : ByteArray) ++ ⟨v.toArray⟩)) = _
          rw [bs_append]
          rfl
        · first
            | exact ((Below.refl _ _).alloc (Nat.le_refl _) _).trans ((below_undrew hb2).mono (by simp))
            | exact (below_undrew hb2 : Below w.heap.size w w2).alloc hb2.size _
theorem ref_Num2 (x : Int) (w : World) (h0 : 0 ≤ x) (h1 : x ≤ 18446744073709551615) :
    Calls Tryz.prog 202 #[.int .u64 x] w fun e w' => e = .returned (.string ⟨(varint x).toArray⟩) ∧ Below w.heap.size w w' :=
  ref_VNum 9 x w (Nat.le_refl _) h0 (Int.lt_of_le_of_lt h1 (by decide)) h1
theorem ref_Text (l : List UInt8) (w : World) (hl : l.length ≤ 1000000000) :
    Calls Tryz.prog 203 #[.string ⟨l.toArray⟩] w fun e w' => e = .returned (.string ⟨(varint l.length ++ l).toArray⟩) ∧ Below w.heap.size w w' := by
  have hsz := bs_size l
  have hN := hid0 (ref_Num2 l.length w (by omega) (by omega))
  have hvl := varint_le l.length
  have hap := bs_append
  generalize varint (l.length : Int) = v at *
  go_enter Tryz.func203, Tryz.ntmps203
  go_wp2_with (go_at_call 202; go_loud ((with_reducible refine (hN.out).mono ?_); rintro e w1 ⟨rfl, hb1⟩))
  go_ret
  exact ⟨rfl, hb1⟩
end Go.Proofs.YtkpacfcklpoanaaGreat
