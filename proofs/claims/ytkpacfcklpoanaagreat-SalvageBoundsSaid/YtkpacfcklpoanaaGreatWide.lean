/- Package wide (XXH64): what its functions come to, step by step. -/
import Derived.Test.YtkpacfcklpoanaaGreatBase
set_option linter.unusedVariables false
set_option linter.unusedSimpArgs false
namespace Go.Proofs.YtkpacfcklpoanaaGreat
open Go.RowKit

/-- Turned to the left. -/
def rotl (x : Int) (k : Nat) : Int := x * 2 ^ k % 18446744073709551616 + x / 2 ^ (64 - k)
theorem and63 (k : Int) (hk : 0 ≤ k) (hk2 : k ≤ 63) : bits .and .u64 k 63 = k := by
  have := bits_mask .u64 64 (by decide) (fun n h0 h1 => u64_wrap h0 (by omega)) 6 (by decide) k hk (by omega)
  simp at this
  rw [this]; omega
theorem pow2_split (k : Nat) (hk : k ≤ 64) : (2 : Int) ^ k * 2 ^ (64 - k) = 18446744073709551616 := by
  rw [← Int.pow_add, show k + (64 - k) = 64 by omega]; rfl
theorem rotl_low (x : Int) (k : Nat) (hx : 0 ≤ x) (hx2 : x ≤ 18446744073709551615) (hk2 : k ≤ 64) : 0 ≤ x / 2 ^ (64 - k) ∧ x / 2 ^ (64 - k) < 2 ^ k := by
  have hp : (0 : Int) < 2 ^ (64 - k) := Int.pow_pos (by decide)
  have hs := pow2_split k hk2
  refine ⟨Int.ediv_nonneg hx (by omega), ?_⟩
  apply Int.ediv_lt_of_lt_mul hp
  omega
theorem rotl_high (x : Int) (k : Nat) (hk2 : k ≤ 64) : (x * 2 ^ k % 18446744073709551616) % 2 ^ k = 0 := by
  rw [← pow2_split k hk2, Int.emod_emod_of_dvd _ (Int.dvd_mul_right _ _)]
  simp
theorem rotl_high_le (x : Int) (k : Nat) (hk2 : k ≤ 64) : x * 2 ^ k % 18446744073709551616 + 2 ^ k ≤ 18446744073709551616 := by
  have hp : (0 : Int) < 2 ^ k := Int.pow_pos (by decide)
  have hs := pow2_split k hk2
  have e : x * 2 ^ k % 18446744073709551616 = (x % 2 ^ (64 - k)) * 2 ^ k := by
    rw [← hs, Int.mul_comm x, Int.mul_emod_mul_of_pos _ _ hp, Int.mul_comm]
  have hp2 : (0 : Int) < 2 ^ (64 - k) := Int.pow_pos (by decide)
  have h1 := Int.emod_lt_of_pos x hp2
  rw [e, ← hs, Int.mul_comm ((2 : Int) ^ k)]
  have : (x % 2 ^ (64 - k) + 1) * 2 ^ k ≤ 2 ^ (64 - k) * 2 ^ k := Int.mul_le_mul_of_nonneg_right (by omega) (by omega)
  rw [Int.add_mul] at this
  omega
theorem rotl_range (x : Int) (k : Nat) (hx : 0 ≤ x) (hx2 : x ≤ 18446744073709551615) (hk2 : k ≤ 64) : 0 ≤ rotl x k ∧ rotl x k ≤ 18446744073709551615 := by
  have h1 := rotl_low x k hx hx2 hk2
  have h2 := rotl_high_le x k hk2
  have h3 := Int.emod_nonneg (x * 2 ^ k) (show (18446744073709551616 : Int) ≠ 0 by decide)
  unfold rotl; omega
theorem rotl_bits (x : Int) (k : Nat) (hx : 0 ≤ x) (hx2 : x ≤ 18446744073709551615) (hk2 : k ≤ 64) :
    bits .or .u64 (IntKind.u64.wrap (x * 2 ^ k)) (x / 2 ^ (64 - k)) = rotl x k := by
  have h1 := rotl_low x k hx hx2 hk2
  have h2 := rotl_high_le x k hk2
  have h3 := Int.emod_nonneg (x * 2 ^ k) (show (18446744073709551616 : Int) ≠ 0 by decide)
  have hp : (0 : Int) < 2 ^ k := Int.pow_pos (by decide)
  rw [u64_wrap_eq, u64_join k _ _ h3 (rotl_high x k hk2) (by omega) h1.1 h1.2 (by omega)]
  rfl
theorem wide_rot (x : Int) (k : Nat) (w : World) (hx : 0 ≤ x) (hx2 : x ≤ 18446744073709551615) (hk : 0 < k) (hk2 : k ≤ 63) :
    Calls Tryz.prog 431 #[.int .u64 x, .int .i64 k] w fun e w' => e = .returned (.int .u64 (rotl x k)) ∧ w = w' := by
  have h1 := and63 k (by omega) (by omega)
  have h2 : IntKind.u64.wrap (64 - (k : Int)) = 64 - k := by simp [IntKind.wrap, IntKind.bits, IntKind.signed]; omega
  go_enter Tryz.func431, Tryz.ntmps431
  go_wp2
  go_ret
  exact ⟨by simp [rotl_bits x k hx hx2 (by omega)], rfl⟩
theorem wide_rotI (x k : Int) (w : World) (hx : 0 ≤ x) (hx2 : x ≤ 18446744073709551615) (hk : 0 < k) (hk2 : k ≤ 63) :
    Calls Tryz.prog 431 #[.int .u64 x, .int .i64 k] w fun e w' => e = .returned (.int .u64 (rotl x k.toNat)) ∧ w = w' := by
  obtain ⟨n, rfl⟩ := Int.eq_ofNat_of_zero_le (show 0 ≤ k by omega)
  exact wide_rot x n w hx hx2 (by omega) (by omega)
/-- A number goes into another one. -/
def xinto (x y : Int) : Int := rotl ((x + y * 14029467366897019727) % 18446744073709551616) 31 * 11400714785074694791 % 18446744073709551616
theorem xinto_range (x y : Int) : 0 ≤ xinto x y ∧ xinto x y ≤ 18446744073709551615 := by unfold xinto; omega
theorem wide_into (x y : Int) (w : World) (hx : 0 ≤ x) (hx2 : x ≤ 18446744073709551615) (hy : 0 ≤ y) (hy2 : y ≤ 18446744073709551615) :
    Calls Tryz.prog 428 #[.int .u64 x, .int .u64 y] w fun e w' => e = .returned (.int .u64 (xinto x y)) ∧ w = w' := by
  have e1 : IntKind.u64.wrap (x + IntKind.u64.wrap (y * 14029467366897019727)) = (x + y * 14029467366897019727) % 18446744073709551616 := by
    simp only [u64_wrap_eq]; omega
  have h1 : 0 ≤ (x + y * 14029467366897019727) % 18446744073709551616 := by omega
  have h2 : (x + y * 14029467366897019727) % 18446744073709551616 ≤ 18446744073709551615 := by omega
  have hfin : xinto x y = IntKind.u64.wrap (rotl ((x + y * 14029467366897019727) % 18446744073709551616) 31 * 11400714785074694791) := by rw [u64_wrap_eq]; rfl
  generalize (x + y * 14029467366897019727) % 18446744073709551616 = z at *
  have H : Hid (xinto x y = IntKind.u64.wrap (rotl z 31 * 11400714785074694791)) := hfin
  clear hfin
  go_enter Tryz.func428, Tryz.ntmps428
  go_wp2_with fail
  refine (wide_rot z 31 _ h1 h2 (by decide) (by decide)).mono ?_
  rintro e w' ⟨rfl, rfl⟩
  go_wp2
  go_ret
  exact ⟨by rw [H.out]; rfl, rfl⟩
theorem le_shift (l : List UInt8) (k : Nat) (hk : k < l.length) (h8 : k < 8) :
    bits .or .u64 (leVal (l.take k)) (IntKind.u64.wrap (IntKind.u64.wrap ((l[k]'hk).toNat : Int) * 2 ^ (8 * k))) = leVal (l.take (k + 1)) := by
  have hb := (l[k]'hk).toNat_lt
  have hl : (l.take k).length = k := by simp; omega
  have h1 := leVal_range (l.take k)
  rw [hl] at h1
  have e : (256 : Int) ^ k = 2 ^ (8 * k) := by rw [Int.pow_mul]; rfl
  have hp := pow256_le (k + 1) (by omega)
  rw [Int.pow_succ] at hp
  have hpos : (0 : Int) < 256 ^ k := Int.pow_pos (by decide)
  rw [List.take_succ_eq_append_getElem hk, leVal_snoc, hl, u64_wrap (n := ((l[k]'hk).toNat : Int)) (by omega) (by omega), ← e]
  have hm : ((l[k]'hk).toNat : Int) * 256 ^ k ≤ 255 * 256 ^ k := Int.mul_le_mul_of_nonneg_right (by omega) (by omega)
  have hm0 : 0 ≤ ((l[k]'hk).toNat : Int) * 256 ^ k := Int.mul_nonneg (by omega) (by omega)
  rw [u64_wrap (by omega) (by omega), bits_or_comm, u64_join (8 * k) _ _ hm0 (by rw [← e]; simp) (by omega) h1.1 (by rw [← e]; exact h1.2) (by omega), Int.mul_comm, Int.add_comm]
theorem wide_num (A : Option Addr) (c N : Nat) (l : List UInt8) (n : Nat) (w : World) (hr : RB w A l) (hN : l.length = N) (hn : n ≤ 8) (hl : n ≤ N) :
    Calls Tryz.prog 429 #[.slice A N c, .int .i64 n] w fun e w' => e = .returned (.int .u64 (leVal (l.take n))) ∧ w = w' := by
  subst hN
  go_enter Tryz.func429, Tryz.ntmps429
  go_wp2
  go_loop [5, 8] (fun x i => ∃ k : Nat, k ≤ n ∧ i = .int .i64 k ∧ x = .int .u64 (leVal (l.take k))) (fun _ i => n - (intOf i).toNat)
  case atStart => exact ⟨0, by omega, rfl, rfl⟩
  case round =>
    obtain ⟨k, hk, rfl, rfl⟩ := hrel
    by_cases hlt : k < n
    · obtain ⟨a, rfl, hc⟩ := hr (by omega)
      have hck := hc k (by omega)
      have hs := le_shift l k (by omega) (by omega)
      have H : Hid (bits .or .u64 (leVal (l.take k)) (IntKind.u64.wrap (IntKind.u64.wrap ((l[k]'(by omega)).toNat : Int) * 2 ^ (8 * k))) = leVal (l.take (k + 1))) := hs
      clear hs
      go_wp2
      go_round
      case rel => exact ⟨k + 1, by omega, by go_num, by rw [← H.out]⟩
      case measure => simp [intOf]; omega
    · go_wp2
      go_ret
      have : k = n := by omega
      subst this
      exact ⟨rfl, rfl⟩
/-- A sum's state, at block g: four lanes, what is left over, how many bytes. -/
def IsSt (w : World) (g : Nat) (seed v0 v1 v2 v3 : Int) (rest : Value) (n : Int) : Prop :=
  w.heap[g]? = some (.cells #[.int .u64 seed, .int .u64 v0, .int .u64 v1, .int .u64 v2, .int .u64 v3, rest, .int .u64 n] 544 (0, 0))
set_option maxRecDepth 100000 in
theorem wide_New (seed : Int) (w : World) (h0 : 0 ≤ seed) (h1 : seed ≤ 18446744073709551615) :
    Calls Tryz.prog 378 #[.int .u64 seed] w fun e w' => e = .returned (.pointer (some ⟨w.heap.size, 0, none⟩)) ∧
      IsSt w' w.heap.size seed ((seed + 6983438078262162902) % 18446744073709551616) ((seed + 14029467366897019727) % 18446744073709551616) seed ((seed + 7046029288634856825) % 18446744073709551616) (.slice none 0 0) 0 ∧ Below w.heap.size w w' := by
  have e1 : IntKind.u64.wrap (IntKind.u64.wrap (seed + 11400714785074694791) + 14029467366897019727) = (seed + 6983438078262162902) % 18446744073709551616 := by simp only [u64_wrap_eq]; omega
  have e2 : IntKind.u64.wrap (seed + 14029467366897019727) = (seed + 14029467366897019727) % 18446744073709551616 := by simp only [u64_wrap_eq]
  have e3 : IntKind.u64.wrap (seed - 11400714785074694791) = (seed + 7046029288634856825) % 18446744073709551616 := by simp only [u64_wrap_eq]; omega
  go_enter Tryz.func378, Tryz.ntmps378
  go_wp2
  go_region
  go_wp2
  go_region
  go_wp2
  go_region
  go_wp2
  go_region
  go_wp2
  go_ret
  refine ⟨rfl, ?_, ?_⟩
  · show (w.heap.push _)[w.heap.size]? = _
    rw [Array.getElem?_push, if_pos rfl]
  · exact (((((Below.refl _ _).alloc (Nat.le_refl _) _).drew).drew).drew).drew

theorem St_cells {w : World} {g : Nat} {seed v0 v1 v2 v3 : Int} {rest : Value} {n : Int} (h : IsSt w g seed v0 v1 v2 v3 rest n) :
    w.cell? ⟨g, 0, none⟩ = some (.int .u64 seed) ∧ w.cell? ⟨g, 1, none⟩ = some (.int .u64 v0) ∧ w.cell? ⟨g, 2, none⟩ = some (.int .u64 v1) ∧ w.cell? ⟨g, 3, none⟩ = some (.int .u64 v2) ∧
    w.cell? ⟨g, 4, none⟩ = some (.int .u64 v3) ∧ w.cell? ⟨g, 5, none⟩ = some rest ∧ w.cell? ⟨g, 6, none⟩ = some (.int .u64 n) ∧ (∀ o, w.frozen? ⟨g, o, none⟩ = false) := by
  unfold IsSt at h
  refine ⟨?_, ?_, ?_, ?_, ?_, ?_, ?_, ?_⟩ <;> simp [World.cell?, World.frozen?, h]
theorem St_0 {w : World} {g : Nat} {seed v0 v1 v2 v3 : Int} {rest : Value} {n : Int} (h : IsSt w g seed v0 v1 v2 v3 rest n) (x : Int) : IsSt (w.setCell ⟨g, 1, none⟩ (.int .u64 x)) g seed x v1 v2 v3 rest n := (blk_set h 1 _).trans rfl
theorem St_1 {w : World} {g : Nat} {seed v0 v1 v2 v3 : Int} {rest : Value} {n : Int} (h : IsSt w g seed v0 v1 v2 v3 rest n) (x : Int) : IsSt (w.setCell ⟨g, 2, none⟩ (.int .u64 x)) g seed v0 x v2 v3 rest n := (blk_set h 2 _).trans rfl
theorem St_2 {w : World} {g : Nat} {seed v0 v1 v2 v3 : Int} {rest : Value} {n : Int} (h : IsSt w g seed v0 v1 v2 v3 rest n) (x : Int) : IsSt (w.setCell ⟨g, 3, none⟩ (.int .u64 x)) g seed v0 v1 x v3 rest n := (blk_set h 3 _).trans rfl
theorem St_3 {w : World} {g : Nat} {seed v0 v1 v2 v3 : Int} {rest : Value} {n : Int} (h : IsSt w g seed v0 v1 v2 v3 rest n) (x : Int) : IsSt (w.setCell ⟨g, 4, none⟩ (.int .u64 x)) g seed v0 v1 v2 x rest n := (blk_set h 4 _).trans rfl
theorem St_rest {w : World} {g : Nat} {seed v0 v1 v2 v3 : Int} {rest : Value} {n : Int} (h : IsSt w g seed v0 v1 v2 v3 rest n) (x : Value) : IsSt (w.setCell ⟨g, 5, none⟩ x) g seed v0 v1 v2 v3 x n := (blk_set h 5 _).trans rfl
theorem St_n {w : World} {g : Nat} {seed v0 v1 v2 v3 : Int} {rest : Value} {n : Int} (h : IsSt w g seed v0 v1 v2 v3 rest n) (x : Int) : IsSt (w.setCell ⟨g, 6, none⟩ (.int .u64 x)) g seed v0 v1 v2 v3 rest x := (blk_set h 6 _).trans rfl
theorem St_drew {w : World} {g : Nat} {seed v0 v1 v2 v3 : Int} {rest : Value} {n : Int} (h : IsSt w g seed v0 v1 v2 v3 rest n) : IsSt w.drew g seed v0 v1 v2 v3 rest n := h
/-- A lane's number behind a stripe. -/
def lane (v : Int) (l : List UInt8) (i : Nat) : Int := xinto v (leVal ((l.drop (8 * i)).take 8))
/-- The lanes behind so many stripes. -/
def strp : Nat → Int × Int × Int × Int → List UInt8 → Int × Int × Int × Int
  | 0, v, _ => v
  | n + 1, v, l => (lane (strp n v l).1 (l.drop (32 * n)) 0, lane (strp n v l).2.1 (l.drop (32 * n)) 1, lane (strp n v l).2.2.1 (l.drop (32 * n)) 2, lane (strp n v l).2.2.2 (l.drop (32 * n)) 3)
theorem lane_range (v : Int) (l : List UInt8) (i : Nat) : R64 (lane v l i) := xinto_range _ _
theorem strp_range (n : Nat) (v : Int × Int × Int × Int) (l : List UInt8) (h : R64 v.1 ∧ R64 v.2.1 ∧ R64 v.2.2.1 ∧ R64 v.2.2.2) :
    R64 (strp n v l).1 ∧ R64 (strp n v l).2.1 ∧ R64 (strp n v l).2.2.1 ∧ R64 (strp n v l).2.2.2 := by
  cases n with
  | zero => exact h
  | succ n => exact ⟨lane_range _ _ _, lane_range _ _ _, lane_range _ _ _, lane_range _ _ _⟩
set_option maxHeartbeats 4000000 in
set_option maxRecDepth 100000 in
theorem wide_Write (g : Nat) (seed v0 v1 v2 v3 : Int) (A : Option Addr) (c : Nat) (l : List UInt8) (w : World) (hr : RD g w A l) (hlen : l.length ≤ maxB)
    (hs : IsSt w g seed v0 v1 v2 v3 (.slice none 0 0) 0) (r0 : R64 v0) (r1 : R64 v1) (r2 : R64 v2) (r3 : R64 v3) :
    Calls Tryz.prog 379 #[.pointer (some ⟨g, 0, none⟩), .slice A l.length c] w fun e w' => e = .returned (.pointer (some ⟨g, 0, none⟩)) ∧
      ∃ rest, IsSt w' g seed (strp (l.length / 32) (v0, v1, v2, v3) l).1 (strp (l.length / 32) (v0, v1, v2, v3) l).2.1 (strp (l.length / 32) (v0, v1, v2, v3) l).2.2.1 (strp (l.length / 32) (v0, v1, v2, v3) l).2.2.2 rest l.length ∧
        w'.ownsRow (g + 1) 5 1 rest (l.drop (32 * (l.length / 32))).length (B8 (l.drop (32 * (l.length / 32)))) ∧ Below g w w' := by
  obtain ⟨c0, c1, c2, c3, c4, c5, c6, cf⟩ := St_cells hs
  have cf5 := cf 5
  have cf6 := cf 6
  have hgl : g < w.heap.size := World.block_lt_of_cell? w _ c0
  clear cf
  rw [maxB_eq] at hlen
  go_enter Tryz.func379, Tryz.ntmps379
  go_wp2_with (at_builtin; refine append_bytes rfl _ _ rfl (w.heap.size) (.slice none 0 0) [] rfl ?_ A c l rfl ?_ ?_ ?_ ?_; exact own_nil _ _ _ _; exact (hr.below ((Below.refl _ _).setCell (by simp) _)).rb; (rw [maxB_eq]; simp; omega); simp; intro u1 w1 ho1 hg1 _)
  rw [List.nil_append] at ho1
  obtain ⟨A1, cp1, rfl⟩ := own_slice ho1
  have hread : RS (· ≠ g) w1 A1 l := RS.own ho1 hgl
  have hcp : l.length ≤ cp1 := own_cap ho1
  have hst1 : IsSt w1 g seed v0 v1 v2 v3 (.slice none 0 0) l.length := blk_grown (St_n hs _) hg1 (by simp [Value.ownBlock])
  go_loopw [5, 26] (fun a i wr => ∃ (k : Nat) (A2 : Option Addr) (c2 : Nat), 32 * k ≤ l.length ∧ (l.drop (32 * k)).length ≤ c2 ∧ a = .slice A2 (l.drop (32 * k)).length c2 ∧ RS (· ≠ g) wr A2 (l.drop (32 * k)) ∧
     IsSt wr g seed (strp k (v0, v1, v2, v3) l).1 (strp k (v0, v1, v2, v3) l).2.1 (strp k (v0, v1, v2, v3) l).2.2.1 (strp k (v0, v1, v2, v3) l).2.2.2 (.slice none 0 0) l.length ∧ Below g w wr)
     (fun a _ _ => match a with | .slice _ n _ => n | _ => 0)
  case atStart => exact ⟨0, A1, cp1, by omega, by simpa using hcp, by simp, by simpa using hread, by exact hst1, (((Below.refl _ _).setCell (by simp) _).grown hg1 (by simp; omega) (by simp [Value.ownBlock]))⟩
  case round =>
    obtain ⟨k, A2, c2', hk, hkc, rfl, hrd, hst, hbl⟩ := hrel
    have hrg := strp_range k (v0, v1, v2, v3) l ⟨r0, r1, r2, r3⟩
    generalize hu : strp k (v0, v1, v2, v3) l = u at *
    have HU : Hid (strp k (v0, v1, v2, v3) l = u) := hu
    clear hu
    obtain ⟨u0, u1, u2, u3⟩ := u
    simp only at hrg hst
    have hml : (l.drop (32 * k)).length = l.length - 32 * k := by simp
    have HML := hid0 hml
    clear hml
    generalize hm : l.drop (32 * k) = m at *
    have HM := hid0 hm
    clear hm
    by_cases hge : 32 ≤ m.length
    · have hd32 : decide ((32 : Int) ≤ (m.length : Int)) = true := by simp; omega
      go_wp2
      obtain ⟨wo, rfl⟩ : ∃ wo : World, wo = wr := ⟨_, rfl⟩
      go_loopw [26] (fun s wr2 => ∃ i : Nat, i ≤ 4 ∧ s = .int .i64 i ∧ RS (· ≠ g) wr2 A2 m ∧
         IsSt wr2 g seed (if 0 < i then lane u0 m 0 else u0) (if 1 < i then lane u1 m 1 else u1) (if 2 < i then lane u2 m 2 else u2) (if 3 < i then lane u3 m 3 else u3) (.slice none 0 0) l.length ∧ Below g w wr2)
         (fun s _ => 4 - (intOf s).toNat)
      case atStart => exact ⟨0, by omega, rfl, hrd, hst, hbl⟩
      case round =>
        obtain ⟨i, hi, rfl, hrd2, hst2, hbl2⟩ := hrel
        obtain rfl | rfl | rfl | rfl | rfl : i = 0 ∨ i = 1 ∨ i = 2 ∨ i = 3 ∨ i = 4 := by omega
        · simp only [Nat.reduceLT, if_true, if_false, Nat.lt_irrefl, Nat.not_lt_zero] at hst2
          rw [show ((0 : Nat) : Int) = 0 from rfl]
          obtain ⟨c0, c1, c2, c3, c4, c5, c6, cf⟩ := St_cells hst2
          have cfi := cf 1
          clear cf
          have hcn := wide_num (slA 1 A2 0 c2') (c2' - 0) (m.length - 0) (m.drop 0) 8 wr.drew ((hrd2.rb).sl 0 c2' (by omega)) (by simp) (by omega) (by omega)
          have hv := leVal_u64 ((m.drop 0).take 8) (by simp; omega)
          have hci := wide_into u0 (leVal ((m.drop 0).take 8)) wr.drew hrg.1.1 hrg.1.2 hv.1 hv.2
          have H1 := hid0 hcn
          have H2 := hid0 hci
          have hsl : ∀ W, (Instr.slice 22 (.slice A2 m.length c2') (some (.int .i64 0)) none none).run Tryz.prog W = .ok (.slice (slA 1 A2 0 c2') (m.length - 0) (c2' - 0)) W := fun W => run_sl_l W A2 m.length c2' 0 (by omega)
          have hwr : IntKind.i64.wrap 0 = 0 := by decide
          clear hcn hci
          go_wp2
          refine wp_region_still_tail 17 (by kernel_rfl) (by kernel_rfl) ?_
          simp only [List.take_succ_cons, List.take_zero, List.drop_succ_cons, List.drop_zero]
          repeat still_step
          still_call (quietC H1.out)
          still_call (quietC H2.out)
          repeat still_step
          refine wpStill_nil ?_
          change wpList _ _ _ _ _ wr.drew
          have hst3 := St_0 (St_drew hst2) (lane u0 m 0)
          have H3 := hid0 hst3
          clear hsl hst3
          go_wp2
          go_roundw
          case rel => exact ⟨1, by omega, by go_num, hrd2.setCell (w := wr.drew) _ _, by exact H3.out, (hbl2.drew).setCell (by simp) _⟩
          case measure => simp [intOf]
        · simp only [Nat.reduceLT, if_true, if_false, Nat.lt_irrefl, Nat.not_lt_zero] at hst2
          rw [show ((1 : Nat) : Int) = 1 from rfl]
          obtain ⟨c0, c1, c2, c3, c4, c5, c6, cf⟩ := St_cells hst2
          have cfi := cf 2
          clear cf
          have hcn := wide_num (slA 1 A2 8 c2') (c2' - 8) (m.length - 8) (m.drop 8) 8 wr.drew ((hrd2.rb).sl 8 c2' (by omega)) (by simp) (by omega) (by omega)
          have hv := leVal_u64 ((m.drop 8).take 8) (by simp; omega)
          have hci := wide_into u1 (leVal ((m.drop 8).take 8)) wr.drew hrg.2.1.1 hrg.2.1.2 hv.1 hv.2
          have H1 := hid0 hcn
          have H2 := hid0 hci
          have hsl : ∀ W, (Instr.slice 22 (.slice A2 m.length c2') (some (.int .i64 8)) none none).run Tryz.prog W = .ok (.slice (slA 1 A2 8 c2') (m.length - 8) (c2' - 8)) W := fun W => run_sl_l W A2 m.length c2' 8 (by omega)
          have hwr : IntKind.i64.wrap 8 = 8 := by decide
          clear hcn hci
          go_wp2
          refine wp_region_still_tail 17 (by kernel_rfl) (by kernel_rfl) ?_
          simp only [List.take_succ_cons, List.take_zero, List.drop_succ_cons, List.drop_zero]
          repeat still_step
          still_call (quietC H1.out)
          still_call (quietC H2.out)
          repeat still_step
          refine wpStill_nil ?_
          change wpList _ _ _ _ _ wr.drew
          have hst3 := St_1 (St_drew hst2) (lane u1 m 1)
          have H3 := hid0 hst3
          clear hsl hst3
          go_wp2
          go_roundw
          case rel => exact ⟨2, by omega, by go_num, hrd2.setCell (w := wr.drew) _ _, by exact H3.out, (hbl2.drew).setCell (by simp) _⟩
          case measure => simp [intOf]
        · simp only [Nat.reduceLT, if_true, if_false, Nat.lt_irrefl, Nat.not_lt_zero] at hst2
          rw [show ((2 : Nat) : Int) = 2 from rfl]
          obtain ⟨c0, c1, c2, c3, c4, c5, c6, cf⟩ := St_cells hst2
          have cfi := cf 3
          clear cf
          have hcn := wide_num (slA 1 A2 16 c2') (c2' - 16) (m.length - 16) (m.drop 16) 8 wr.drew ((hrd2.rb).sl 16 c2' (by omega)) (by simp) (by omega) (by omega)
          have hv := leVal_u64 ((m.drop 16).take 8) (by simp; omega)
          have hci := wide_into u2 (leVal ((m.drop 16).take 8)) wr.drew hrg.2.2.1.1 hrg.2.2.1.2 hv.1 hv.2
          have H1 := hid0 hcn
          have H2 := hid0 hci
          have hsl : ∀ W, (Instr.slice 22 (.slice A2 m.length c2') (some (.int .i64 16)) none none).run Tryz.prog W = .ok (.slice (slA 1 A2 16 c2') (m.length - 16) (c2' - 16)) W := fun W => run_sl_l W A2 m.length c2' 16 (by omega)
          have hwr : IntKind.i64.wrap 16 = 16 := by decide
          clear hcn hci
          go_wp2
          refine wp_region_still_tail 17 (by kernel_rfl) (by kernel_rfl) ?_
          simp only [List.take_succ_cons, List.take_zero, List.drop_succ_cons, List.drop_zero]
          repeat still_step
          still_call (quietC H1.out)
          still_call (quietC H2.out)
          repeat still_step
          refine wpStill_nil ?_
          change wpList _ _ _ _ _ wr.drew
          have hst3 := St_2 (St_drew hst2) (lane u2 m 2)
          have H3 := hid0 hst3
          clear hsl hst3
          go_wp2
          go_roundw
          case rel => exact ⟨3, by omega, by go_num, hrd2.setCell (w := wr.drew) _ _, by exact H3.out, (hbl2.drew).setCell (by simp) _⟩
          case measure => simp [intOf]
        · simp only [Nat.reduceLT, if_true, if_false, Nat.lt_irrefl, Nat.not_lt_zero] at hst2
          rw [show ((3 : Nat) : Int) = 3 from rfl]
          obtain ⟨c0, c1, c2, c3, c4, c5, c6, cf⟩ := St_cells hst2
          have cfi := cf 4
          clear cf
          have hcn := wide_num (slA 1 A2 24 c2') (c2' - 24) (m.length - 24) (m.drop 24) 8 wr.drew ((hrd2.rb).sl 24 c2' (by omega)) (by simp) (by omega) (by omega)
          have hv := leVal_u64 ((m.drop 24).take 8) (by simp; omega)
          have hci := wide_into u3 (leVal ((m.drop 24).take 8)) wr.drew hrg.2.2.2.1 hrg.2.2.2.2 hv.1 hv.2
          have H1 := hid0 hcn
          have H2 := hid0 hci
          have hsl : ∀ W, (Instr.slice 22 (.slice A2 m.length c2') (some (.int .i64 24)) none none).run Tryz.prog W = .ok (.slice (slA 1 A2 24 c2') (m.length - 24) (c2' - 24)) W := fun W => run_sl_l W A2 m.length c2' 24 (by omega)
          have hwr : IntKind.i64.wrap 24 = 24 := by decide
          clear hcn hci
          go_wp2
          refine wp_region_still_tail 17 (by kernel_rfl) (by kernel_rfl) ?_
          simp only [List.take_succ_cons, List.take_zero, List.drop_succ_cons, List.drop_zero]
          repeat still_step
          still_call (quietC H1.out)
          still_call (quietC H2.out)
          repeat still_step
          refine wpStill_nil ?_
          change wpList _ _ _ _ _ wr.drew
          have hst3 := St_3 (St_drew hst2) (lane u3 m 3)
          have H3 := hid0 hst3
          clear hsl hst3
          go_wp2
          go_roundw
          case rel => exact ⟨4, by omega, by go_num, hrd2.setCell (w := wr.drew) _ _, by exact H3.out, (hbl2.drew).setCell (by simp) _⟩
          case measure => simp [intOf]
        · simp only [Nat.reduceLT, if_true, if_false] at hst2
          rw [show ((4 : Nat) : Int) = 4 from rfl]
          have hsl : ∀ W, (Instr.slice 22 (.slice A2 m.length c2') (some (.int .i64 32)) none none).run Tryz.prog W = .ok (.slice (slA 1 A2 32 c2') (m.length - 32) (c2' - 32)) W := fun W => run_sl_l W A2 m.length c2' 32 (by omega)
          have hk1 : l.drop (32 * (k + 1)) = m.drop 32 := by rw [← HM.out, List.drop_drop]; congr 1
          have hml := HML.out
          have hrd3 := (hrd2.sl 32 c2' (by omega))
          have hs1 : strp (k + 1) (v0, v1, v2, v3) l = (lane u0 m 0, lane u1 m 1, lane u2 m 2, lane u3 m 3) := by simp only [strp, HU.out, HM.out]
          have H1 := hid0 hk1
          have H2 := hid0 hs1
          clear hk1 hml hs1
          go_wp2
          clear hsl
          go_roundw
          case rel =>
            have hml := HML.out
            exact ⟨k + 1, slA 1 A2 32 c2', c2' - 32, by omega, by rw [H1.out]; simp; omega, by rw [H1.out]; simp, by rw [H1.out]; exact hrd3, by rw [H2.out]; exact hst2, hbl2⟩
          case measure => simp; omega
    · have hd32 : decide ((32 : Int) ≤ (m.length : Int)) = false := by simp; omega
      have hml := HML.out
      have hsz : g < wr.heap.size := blk_lt hst
      have hkf : k = l.length / 32 := by omega
      clear hml
      obtain ⟨c0, c1, c2, c3, c4, c5, c6, cf⟩ := St_cells hst
      clear cf c0 c1 c2 c3 c4 c6
      go_wp2_with (at_builtin; refine append_bytes rfl _ _ rfl wr.heap.size (.slice none 0 0) [] rfl ?_ A2 c2' m rfl ?_ ?_ ?_ ?_; exact own_nil _ _ _ _; exact hrd.rb; (rw [maxB_eq]; simp; have := HML.out; omega); simp; intro ux w1 ho1 hg1 _; rw [List.nil_append] at ho1; obtain ⟨A3, cp3, rfl⟩ := own_slice ho1; have hst4 : IsSt w1 g seed u0 u1 u2 u3 (.slice none 0 0) l.length := blk_grown hst hg1 (by simp [Value.ownBlock]); obtain ⟨_, _, _, _, _, k5, _, cf⟩ := St_cells hst4; have cf5 := cf 5; clear cf)
      go_ret
      have hne := own_ne hst4 ho1 (by decide)
      refine ⟨rfl, .slice A3 m.length cp3, ?_, ?_, ?_⟩
      · rw [← hkf, HU.out]
        exact St_rest hst4 _
      · rw [← hkf, HM.out, ← HML.out]
        exact own_far (own_mono ho1 (show g + 1 ≤ wr.heap.size by omega)) ⟨g, 5, none⟩ _ (Ne.symm hne)
      · exact ((hbl.grown hg1 (by omega) (by simp [Value.ownBlock])).setCell (by simp) _)
theorem wide_numI (A : Option Addr) (c N : Nat) (l : List UInt8) (n : Int) (w : World) (hr : RB w A l) (hN : l.length = N) (h0 : 0 ≤ n) (hn : n ≤ 8) (hl : n ≤ N) :
    Calls Tryz.prog 429 #[.slice A N c, .int .i64 n] w fun e w' => e = .returned (.int .u64 (leVal (l.take n.toNat))) ∧ w = w' := by
  obtain ⟨n, rfl⟩ := Int.eq_ofNat_of_zero_le h0
  exact wide_num A c N l n w hr hN (by omega) (by omega)
end Go.Proofs.YtkpacfcklpoanaaGreat
