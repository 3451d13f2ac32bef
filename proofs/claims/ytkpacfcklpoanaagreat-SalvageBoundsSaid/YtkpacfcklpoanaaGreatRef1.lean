import Derived.Test.YtkpacfcklpoanaaGreatWideSum
set_option linter.unusedVariables false
set_option linter.unusedSimpArgs false
namespace Go.Proofs.YtkpacfcklpoanaaGreat
open Go.RowKit
theorem rotl_zero (x : Int) (h0 : 0 ≤ x) (h1 : x ≤ 18446744073709551615) : rotl x 0 = x := by
  unfold rotl
  simp
  omega
theorem rotl_succ (x : Int) (k : Nat) (hk : k ≤ 63) (h0 : 0 ≤ x) (h1 : x ≤ 18446744073709551615) :
    rotl x (k + 1) = (2 * rotl x k) % 18446744073709551616 + rotl x k / 9223372036854775808 := by
  obtain ⟨P, hP⟩ : ∃ P : Int, P = 2 ^ (63 - k) := ⟨_, rfl⟩
  obtain ⟨K, hK⟩ : ∃ K : Int, K = 2 ^ k := ⟨_, rfl⟩
  have hPK : P * K = 9223372036854775808 := by
    rw [hP, hK, ← Int.pow_add, show 63 - k + k = 63 from by omega]; rfl
  have hP0 : 0 < P := by rw [hP]; exact Int.pow_pos (by decide)
  have hK0 : 0 < K := by rw [hK]; exact Int.pow_pos (by decide)
  have e1 : (2 : Int) ^ (64 - k) = P * 2 := by rw [hP, show 64 - k = (63 - k) + 1 from by omega, Int.pow_succ]
  have e2 : (2 : Int) ^ (64 - (k + 1)) = P := by rw [hP, show 64 - (k + 1) = 63 - k from by omega]
  have e3 : (2 : Int) ^ (k + 1) = 2 * K := by rw [hK, Int.pow_succ, Int.mul_comm]
  unfold rotl
  rw [e1, e2, e3, ← hK]
  obtain ⟨A, hA⟩ : ∃ A : Int, A = x / P := ⟨_, rfl⟩
  have hdd : x / (P * 2) = A / 2 := by rw [hA, Int.ediv_ediv_of_nonneg (by omega)]
  rw [hdd, ← hA]
  obtain ⟨y, hy⟩ : ∃ y : Int, y = x % P := ⟨_, rfl⟩
  have hx : x = P * A + y := by rw [hA, hy]; exact (Int.mul_ediv_add_emod x P).symm
  have hy0 : 0 ≤ y := by rw [hy]; exact Int.emod_nonneg _ (by omega)
  have hy1 : y < P := by rw [hy]; exact Int.emod_lt_of_pos _ hP0
  obtain ⟨Z, hZ⟩ : ∃ Z : Int, Z = y * K := ⟨_, rfl⟩
  have hZ0 : 0 ≤ Z := by rw [hZ]; exact Int.mul_nonneg hy0 (by omega)
  have hZ1 : Z + K ≤ 9223372036854775808 := by
    have : (y + 1) * K ≤ P * K := Int.mul_le_mul_of_nonneg_right (by omega) (by omega)
    rw [Int.add_mul, Int.one_mul, hPK] at this
    omega
  have hxK : x * K = A * 9223372036854775808 + Z := by
    rw [hx, Int.add_mul, ← hZ, Int.mul_comm P A, Int.mul_assoc, hPK]
  have hxK2 : x * (2 * K) = A * 18446744073709551616 + 2 * Z := by
    rw [← Int.mul_assoc, Int.mul_comm x 2, Int.mul_assoc, hxK]; omega
  have hA0 : 0 ≤ A := by rw [hA]; exact Int.ediv_nonneg h0 (by omega)
  have hA1 : A < 2 * K := by
    have : P * A ≤ 18446744073709551615 := by omega
    by_cases h : A < 2 * K
    · exact h
    · have : P * (2 * K) ≤ P * A := Int.mul_le_mul_of_nonneg_left (by omega) (by omega)
      rw [← Int.mul_assoc, Int.mul_comm P 2, Int.mul_assoc, hPK] at this
      omega
  rw [hxK, hxK2]
  clear hxK hxK2 hx hA hdd e1 e2 e3 hPK hP hK hy
  obtain ⟨q, b, hqb, hb⟩ : ∃ q b : Int, A = 2 * q + b ∧ (b = 0 ∨ b = 1) := ⟨A / 2, A % 2, by omega, by omega⟩
  subst hqb
  have r1 : ((2 * q + b) * 9223372036854775808 + Z) % 18446744073709551616 = b * 9223372036854775808 + Z := by omega
  have r2 : (2 * q + b) / 2 = q := by omega
  rw [r1, r2]
  have r3 : ((2 * q + b) * 18446744073709551616 + 2 * Z) % 18446744073709551616 = 2 * Z := by omega
  rw [r3]
  have r4 : (b * 9223372036854775808 + Z + q) / 9223372036854775808 = b := by omega
  have r5 : 2 * (b * 9223372036854775808 + Z + q) % 18446744073709551616 = 2 * (Z + q) := by omega
  rw [r4, r5]
  omega
set_option maxRecDepth 100000 in
theorem ref_turn (x n : Int) (w : World) (h0 : 0 ≤ x) (h1 : x ≤ 18446744073709551615) (hn0 : 0 ≤ n) (hn : n ≤ 64) :
    Calls Tryz.prog 268 #[.int .u64 x, .int .i64 n] w fun e w' => e = .returned (.int .u64 (rotl x n.toNat)) ∧ w = w' := by
  have hrr := fun k hk => rotl_range x k h0 h1 hk
  have hrs := fun k hk => rotl_succ x k hk h0 h1
  have hrz := rotl_zero x h0 h1
  obtain ⟨m, rfl⟩ := Int.eq_ofNat_of_zero_le hn0
  go_enter Tryz.func268, Tryz.ntmps268
  go_wp2
  go_loop [0, 5, 7] (fun y _ i => ∃ k : Nat, k ≤ m ∧ i = .int .i64 k ∧ y = .int .u64 (rotl x k)) (fun _ _ i => m - (intOf i).toNat)
  case atStart => exact ⟨0, by omega, rfl, by rw [hrz]⟩
  case round =>
    obtain ⟨k, hk, rfl, rfl⟩ := hrel
    have hr := hrr k (by omega)
    have hs := hid0 (hrs k)
    have hr2 := hid0 (hrr (k + 1))
    clear hrr hrs
    by_cases hlt : k < m
    · generalize hg : rotl x k = r at *
      have hs' := hs.out (by omega)
      have hr2' := hr2.out (by omega)
      have hsum : IntKind.u64.wrap ((2 * r) % 18446744073709551616 + r / 9223372036854775808) = rotl x (k + 1) := by rw [hs']; exact u64_wrap (by omega) (by omega)
      have HS := hid0 hsum
      clear hs hr2 hs' hr2' hsum hg
      go_wp2
      go_round
      case rel => 
        refine ⟨k + 1, by omega, by go_num, ?_⟩
        rw [← HS.out]
        rw [u64_wrap_eq (2 * r)]
      case measure => simp [intOf]; omega
    · go_wp2
      go_ret
      obtain rfl : k = m := by omega
      exact ⟨rfl, rfl⟩
theorem ref_into (x y : Int) (w : World) (h0 : 0 ≤ x) (h1 : x ≤ 18446744073709551615) (hy0 : 0 ≤ y) (hy1 : y ≤ 18446744073709551615) :
    Calls Tryz.prog 266 #[.int .u64 x, .int .u64 y] w fun e w' => e = .returned (.int .u64 (xinto x y)) ∧ w = w' := by
  have e1 : IntKind.u64.wrap (x + IntKind.u64.wrap (y * 14029467366897019727)) = (x + y * 14029467366897019727) % 18446744073709551616 := by simp only [u64_wrap_eq]; omega
  have hz : 0 ≤ (x + y * 14029467366897019727) % 18446744073709551616 ∧ (x + y * 14029467366897019727) % 18446744073709551616 ≤ 18446744073709551615 := by omega
  unfold xinto
  generalize (x + y * 14029467366897019727) % 18446744073709551616 = z at *
  have ht := hid0 (ref_turn z 31 w hz.1 hz.2 (by decide) (by decide))
  have e2 := u64_wrap_eq (rotl z 31 * 11400714785074694791)
  go_enter Tryz.func266, Tryz.ntmps266
  go_wp2_with (go_at_call 268; go_loud ((with_reducible refine (ht.out).mono ?_); rintro e w' ⟨rfl, rfl⟩; simp only [show Int.toNat 31 = 31 from rfl]))
  go_ret
  exact ⟨by first | rfl | rw [e2]; rfl, rfl⟩
/-- x, moved down n times. -/
theorem ref_mix (x n : Int) (w : World) (h0 : 0 ≤ x) (h1 : x ≤ 18446744073709551615) (hn0 : 0 ≤ n) (hn : n ≤ 63) :
    Calls Tryz.prog 269 #[.int .u64 x, .int .i64 n] w fun e w' => e = .returned (.int .u64 (bits .xor .u64 x (x / 2 ^ n.toNat))) ∧ w = w' := by
  obtain ⟨m, rfl⟩ := Int.eq_ofNat_of_zero_le hn0
  have hd : ∀ k : Nat, 0 ≤ x / 2 ^ k ∧ x / 2 ^ k ≤ 18446744073709551615 := fun k => by
    have hp : (0 : Int) < 2 ^ k := Int.pow_pos (by decide)
    refine ⟨Int.ediv_nonneg h0 (by omega), ?_⟩
    have := Int.ediv_le_self (2 ^ k) h0
    omega
  have hs : ∀ k : Nat, x / 2 ^ (k + 1) = x / 2 ^ k / 2 := fun k => by rw [Int.pow_succ, Int.ediv_ediv_of_nonneg (Int.le_of_lt (Int.pow_pos (by decide)))]
  go_enter Tryz.func269, Tryz.ntmps269
  go_wp2
  go_loop [5, 8] (fun y i => ∃ k : Nat, k ≤ m ∧ i = .int .i64 k ∧ y = .int .u64 (x / 2 ^ k)) (fun _ i => m - (intOf i).toNat)
  case atStart => exact ⟨0, by omega, rfl, by simp⟩
  case round =>
    obtain ⟨k, hk, rfl, rfl⟩ := hrel
    have hr := hd k
    have hsk := hid0 (hs k)
    clear hd hs
    by_cases hlt : k < m
    · generalize x / 2 ^ k = r at *
      go_wp2
      go_round
      case rel => exact ⟨k + 1, by omega, by go_num, by rw [hsk.out]⟩
      case measure => simp [intOf]; omega
    · go_wp2
      go_ret
      obtain rfl : k = m := by omega
      exact ⟨rfl, rfl⟩
end Go.Proofs.YtkpacfcklpoanaaGreat
