import Derived.Test.YtkpacfcklpoanaaGreatCur
set_option linter.unusedVariables false
set_option linter.unusedSimpArgs false
namespace Go.Proofs.YtkpacfcklpoanaaGreat
open Go.RowKit
/-- A number that is read, from its i-th byte on. -/
def rvf : Nat → Nat → Int → List UInt8 → Except Int (Int × List UInt8)
  | 0, _, acc, r => .ok (acc, r)
  | _ + 1, _, _, [] => .error 2
  | k + 1, i, acc, b :: r =>
    if i = 9 ∧ 1 < b.toNat then .error 3
    else if 128 ≤ b.toNat then rvf k (i + 1) (acc + (b.toNat : Int) % 128 * 128 ^ i) r
    else if b.toNat = 0 ∧ 0 < i then .error 4
    else .ok (acc + (b.toNat : Int) % 128 * 128 ^ i, r)
def rvar (r : List UInt8) : Except Int (Int × List UInt8) := rvf 10 0 0 r
set_option maxRecDepth 100000 in
theorem u8_andNot (b : UInt8) : bits .andNot .u8 (b.toNat : Int) 128 = (b.toNat : Int) % 128 := by
  have : ∀ n : Nat, n < 256 → bits .andNot .u8 (n : Int) 128 = (n : Int) % 128 := by decide
  exact this _ b.toNat_lt
theorem pow128_le (n : Nat) (h : n ≤ 9) : (128 : Int) ^ n ≤ 9223372036854775808 := by
  have : ∀ k : Nat, k ≤ 9 → (128 : Int) ^ k ≤ 9223372036854775808 := by decide
  exact this n h
theorem var_shift (acc : Int) (b : UInt8) (i : Nat) (hi : i ≤ 9) (h0 : 0 ≤ acc) (h1 : acc < 128 ^ i) (h9 : ¬ (i = 9 ∧ 1 < b.toNat)) :
    bits .or .u64 acc (IntKind.u64.wrap ((b.toNat : Int) % 128 * 2 ^ (7 * i))) = acc + (b.toNat : Int) % 128 * 128 ^ i ∧ acc + (b.toNat : Int) % 128 * 128 ^ i ≤ 18446744073709551615 ∧ acc + (b.toNat : Int) % 128 * 128 ^ i < 128 ^ (i + 1) := by
  have e : (128 : Int) ^ i = 2 ^ (7 * i) := by rw [Int.pow_mul]; rfl
  have hp := pow128_le i hi
  have hp0 : (0 : Int) < 128 ^ i := Int.pow_pos (by decide)
  obtain ⟨m, hmm⟩ : ∃ m : Nat, (m : Int) = (b.toNat : Int) % 128 := ⟨b.toNat % 128, by omega⟩
  have hm : m < 128 := by omega
  rw [← hmm]
  have hmb : (m : Int) * 128 ^ i + 128 ^ i ≤ 18446744073709551616 := by
    by_cases h : i = 9
    · subst h
      have : m ≤ 1 := by
        have := b.toNat_lt
        rcases Nat.lt_or_ge 1 b.toNat with h | h
        · exact absurd ⟨rfl, h⟩ h9
        · omega
      have : m = 0 ∨ m = 1 := by omega
      rcases this with rfl | rfl <;> decide
    · have h8 : (128 : Int) ^ i ≤ 128 ^ 8 := by
        have : ∀ k : Nat, k ≤ 8 → (128 : Int) ^ k ≤ 128 ^ 8 := by decide
        exact this i (by omega)
      have : ((m : Int) + 1) * 128 ^ i ≤ 128 * 128 ^ 8 := Int.mul_le_mul (by omega) h8 (by omega) (by omega)
      rw [Int.add_mul, Int.one_mul] at this
      have e2 : (128 : Int) * 128 ^ 8 ≤ 18446744073709551616 := by decide
      omega
  have hm0 : 0 ≤ (m : Int) * 128 ^ i := Int.mul_nonneg (by omega) (by omega)
  have hmm2 : (m : Int) * 128 ^ i ≤ 127 * 128 ^ i := Int.mul_le_mul_of_nonneg_right (by omega) (by omega)
  have hw : IntKind.u64.wrap ((m : Int) * 2 ^ (7 * i)) = (m : Int) * 128 ^ i := by rw [← e]; exact u64_wrap hm0 (by omega)
  rw [hw]
  refine ⟨?_, by omega, ?_⟩
  · rw [bits_or_comm, u64_join (7 * i) ((m : Int) * 128 ^ i) acc hm0 ?_ (by omega) h0 (by rw [← e]; exact h1) (by omega)]
    · omega
    · rw [e]; exact Int.mul_emod_left _ _
  · rw [Int.pow_succ]; clear hw; omega
theorem rvf_range (k : Nat) : ∀ i acc r x r', k + i = 10 → 0 ≤ acc → acc < 128 ^ i → acc ≤ 18446744073709551615 → rvf k i acc r = .ok (x, r') → 0 ≤ x ∧ x ≤ 18446744073709551615 ∧ r'.length ≤ r.length := by
  induction k with
  | zero => intro i acc r x r' hk h0 h1 h2 h; simp [rvf] at h; obtain ⟨rfl, rfl⟩ := h; exact ⟨h0, h2, Nat.le_refl _⟩
  | succ k ih =>
    intro i acc r x r' hk h0 h1 h2 h
    cases r with
    | nil => simp [rvf] at h
    | cons b r =>
      rw [rvf] at h
      split at h
      · simp at h
      · rename_i h9
        have hs := var_shift acc b i (by omega) h0 h1 h9
        have hp0 : (0 : Int) ≤ (b.toNat : Int) % 128 * 128 ^ i := Int.mul_nonneg (by omega) (Int.le_of_lt (Int.pow_pos (by decide)))
        split at h
        · have := ih (i + 1) _ r x r' (by omega) (by omega) hs.2.2 hs.2.1 h
          simp; omega
        · split at h
          · simp at h
          · simp at h
            obtain ⟨rfl, rfl⟩ := h
            simp; omega
theorem rvar_range (r : List UInt8) (x : Int) (r' : List UInt8) (h : rvar r = .ok (x, r')) : 0 ≤ x ∧ x ≤ 18446744073709551615 ∧ r'.length ≤ r.length :=
  rvf_range 10 0 0 r x r' rfl (by decide) (by decide) (by decide) h
/-- What comes of a reading's step. -/
def CurPost (g base N : Nat) {α : Type} (m : Except Int (α × List UInt8)) (V : α → Value) (e : Ending) (w' : World) : Prop :=
  match m with
  | .ok (x, r') => e = .returned (V x) ∧ IsCur w' g base N r'
  | .error c => e = .panicked (fault g c) ∧ ∃ r', IsCur w' g base N r'
set_option maxRecDepth 100000 in
set_option maxHeartbeats 1000000 in
theorem varint_Get (g base N : Nat) (r : List UInt8) (w : World) (h : IsCur w g base N r) (hb : base ≤ g) (hN : N ≤ maxB) :
    Calls Tryz.prog 363 #[.pointer (some ⟨g, 0, none⟩)] w fun e w' => CurPost g base N (rvar r) (.int .u64) e w' ∧ Only g w w' := by
  have HR := hid0 (show rvar r = rvf 10 0 0 r from rfl)
  generalize rvar r = res at *
  go_enter Tryz.func363, Tryz.ntmps363
  go_wp2
  go_loopw [3, 4, 5, 6] (fun x i4 b i wr => ∃ (k n : Nat) (acc : Int) (r1 : List UInt8), k + n = 10 ∧ i = .int .i64 n ∧ x = .int .u64 acc ∧ 0 ≤ acc ∧ acc < 128 ^ n ∧ acc ≤ 18446744073709551615 ∧ Hid (res = rvf k n acc r1) ∧ IsCur wr g base N r1 ∧ Only g w wr) (fun _ _ _ i _ => 10 - (intOf i).toNat)
  case atStart => exact ⟨10, 0, 0, r, rfl, rfl, rfl, by decide, by decide, by decide, HR, h, Only.refl _ _⟩
  case round =>
    obtain ⟨k, n, acc, r1, hk, rfl, rfl, h0, h1, h2, HRR, hcur, hbl⟩ := hrel
    have hbg : base ≤ wr.heap.size := by obtain ⟨_, _, _, _, hh, _⟩ := hcur; have := blk_lt hh; omega
    cases k with
    | zero =>
      go_wp2
      go_ret
      have hr : res = .ok (acc, r1) := HRR.out
      subst hr
      obtain rfl : n = 10 := by omega
      exact ⟨⟨rfl, hcur⟩, hbl⟩
    | succ k =>
      cases r1 with
      | nil =>
        go_wp2_with (go_at_call 361; go_loud ((with_reducible refine (cur_Byte_err g base N wr hcur hN).mono ?_); rintro e w1 ⟨rfl, hb1⟩))
        have hr : res = .error 2 := HRR.out
        subst hr
        exact ⟨rfl, ⟨rfl, [], hcur.below hb1⟩, hbl.trans (Only.of_below hb1)⟩
      | cons b r1 =>
        by_cases h9 : n = 9 ∧ 1 < b.toNat
        · have hb1 : (1 : Int) < (b.toNat : Int) := by omega
          obtain ⟨rfl, h9⟩ := h9
          go_wp2_with (first
            | (go_at_call 361; go_loud ((with_reducible refine (cur_Byte_ok g base N b r1 wr hcur hb hN).mono ?_); rintro e w1 ⟨rfl, hc1, hbl1⟩))
            | (go_at_call 362; go_loud ((with_reducible refine (cur_Fail g base N r1 3 w1 hc1 (by decide)).mono ?_); rintro e w2 ⟨rfl, rfl⟩)))
          have hr : res = .error 3 := by rw [HRR.out, rvf, if_pos ⟨rfl, h9⟩]
          subst hr
          exact ⟨rfl, ⟨rfl, r1, hc1⟩, hbl.trans hbl1⟩
        · have hs := var_shift acc b n (by omega) h0 h1 h9
          have hp0 : (0 : Int) ≤ (b.toNat : Int) % 128 * 128 ^ n := Int.mul_nonneg (by omega) (Int.le_of_lt (Int.pow_pos (by decide)))
          have ha := u8_andNot b
          have hw7 : IntKind.i64.wrap (7 * (n : Int)) = ((7 * n : Nat) : Int) := by rw [show 7 * (n : Int) = ((7 * n : Nat) : Int) from by omega]; apply IntWalk.i64_in <;> omega
          have hlt := b.toNat_lt
          have e9 : n = 9 → bits .or .u64 acc ((b.toNat : Int) % 128 * 9223372036854775808) = acc + (b.toNat : Int) % 128 * 128 ^ n := fun h => by
            subst h
            have h1 := hs.1
            have hb1 : b.toNat ≤ 1 := by omega
            rw [u64_wrap (by simp; omega) (by simp; omega)] at h1
            exact h1
          by_cases hge : 128 ≤ b.toNat
          · go_wp2_with (first
              | (go_at_call 361; go_loud ((with_reducible refine (cur_Byte_ok g base N b r1 wr hcur hb hN).mono ?_); rintro e w1 ⟨rfl, hc1, hbl1⟩)))
            go_roundw
            case rel =>
              have hr : rvf (k + 1) n acc (b :: r1) = rvf k (n + 1) (acc + (b.toNat : Int) % 128 * 128 ^ n) r1 := by rw [rvf, if_neg h9, if_pos hge]
              refine ⟨k, n + 1, _, r1, by omega, by go_num, (by first | rfl | rw [hs.1] | rw [e9 (by omega)]), by omega, hs.2.2, hs.2.1, ?_, hc1, hbl.trans hbl1⟩
              rw [← hr]; exact HRR
            case measure => simp [intOf]; omega
          · by_cases hz : b.toNat = 0 ∧ 0 < n
            · obtain ⟨hz1, hz2⟩ := hz
              have hb0 : b = 0 := UInt8.toNat.inj hz1
              subst hb0
              go_wp2_with (first
                | (go_at_call 361; go_loud ((with_reducible refine (cur_Byte_ok g base N 0 r1 wr hcur hb hN).mono ?_); rintro e w1 ⟨rfl, hc1, hbl1⟩))
                | (go_at_call 362; go_loud ((with_reducible refine (cur_Fail g base N r1 4 w1 hc1 (by decide)).mono ?_); rintro e w2 ⟨rfl, rfl⟩)))
              all_goals
                have hr : res = .error 4 := by rw [HRR.out, rvf, if_neg h9, if_neg hge, if_pos ⟨hz1, hz2⟩]
                subst hr
                exact ⟨rfl, ⟨rfl, r1, hc1⟩, hbl.trans hbl1⟩
            · go_wp2_with (first
                | (go_at_call 361; go_loud ((with_reducible refine (cur_Byte_ok g base N b r1 wr hcur hb hN).mono ?_); rintro e w1 ⟨rfl, hc1, hbl1⟩)))
              all_goals
                have hr : res = .ok (acc + (b.toNat : Int) % 128 * 128 ^ n, r1) := by rw [HRR.out, rvf, if_neg h9, if_neg hge, if_neg hz]
                subst hr
                go_ret
                refine ⟨⟨?_, hc1⟩, hbl.trans hbl1⟩
                first
                  | rfl
                  | (rw [e9 (by omega)]; rfl)
                  | (rw [hs.1]; rfl)
                  | (show Ending.returned (.int .u64 acc) = _; rw [show (b.toNat : Int) = 0 from by omega]; simp)
def rtake (n : Int) (r : List UInt8) : Except Int (List UInt8 × List UInt8) := if n ≤ 0 then .ok ([], r) else if (r.length : Int) < n then .error 2 else .ok (r.take n.toNat, r.drop n.toNat)
def rtext (least most : Int) (r : List UInt8) : Except Int (List UInt8 × List UInt8) :=
  match rvar r with
  | .error c => .error c
  | .ok (n, r1) => if most < n then .error 3 else if n < least then .error 4 else rtake n r1
set_option maxRecDepth 100000 in
set_option maxHeartbeats 1000000 in
theorem varint_GetText (g base N : Nat) (r : List UInt8) (least most : Int) (w : World) (h : IsCur w g base N r) (hb : base ≤ g) (hN : N ≤ maxB) (hl0 : 0 ≤ least) (hm0 : 0 ≤ most) (hl1 : least ≤ 1000000000) (hm1 : most ≤ 1000000000) :
    Calls Tryz.prog 364 #[.pointer (some ⟨g, 0, none⟩), .int .i64 least, .int .i64 most] w fun e w' => CurPost g base N (rtext least most r) (fun l => .string ⟨l.toArray⟩) e w' ∧ Only g w w' := by
  have hg := varint_Get g base N r w h hb hN
  have hrg := rvar_range r
  have hN' := hN
  rw [maxB_eq] at hN'
  have hbg : base ≤ w.heap.size := by obtain ⟨_, _, _, _, hh, _⟩ := h; have := blk_lt hh; omega
  unfold rtext
  have hmx : max 0 least = least := by omega
  have hmx2 : max 0 most = most := by omega
  rcases hv : rvar r with c | ⟨n, r1⟩
  · rw [hv] at hg
    have HG := hid0 hg
    clear hg hrg
    go_enter Tryz.func364, Tryz.ntmps364
    go_wp2_with (go_at_call 363; go_loud ((with_reducible refine (HG.out).mono ?_); rintro e w1 ⟨⟨rfl, r1, hc1⟩, hb1⟩))
    exact ⟨rfl, ⟨rfl, r1, hc1⟩, hb1⟩
  · rw [hv] at hg
    obtain ⟨hn0, hn1, _⟩ := hrg n r1 hv
    have HG := hid0 hg
    clear hg hrg hv
    simp only
    by_cases hgt : most < n
    · rw [if_pos hgt]
      go_enter Tryz.func364, Tryz.ntmps364
      go_wp2_with (first
        | (go_at_call 363; go_loud ((with_reducible refine (HG.out).mono ?_); rintro e w1 ⟨⟨rfl, hc1⟩, hb1⟩))
        | (go_at_call 362; go_loud ((with_reducible refine (cur_Fail g base N r1 3 w1 hc1 (by decide)).mono ?_); rintro e w2 ⟨rfl, rfl⟩)))
      exact ⟨rfl, ⟨rfl, r1, hc1⟩, hb1⟩
    rw [if_neg hgt]
    by_cases hlt : n < least
    · rw [if_pos hlt]
      go_enter Tryz.func364, Tryz.ntmps364
      go_wp2_with (first
        | (go_at_call 363; go_loud ((with_reducible refine (HG.out).mono ?_); rintro e w1 ⟨⟨rfl, hc1⟩, hb1⟩))
        | (go_at_call 362; go_loud ((with_reducible refine (cur_Fail g base N r1 4 w1 hc1 (by decide)).mono ?_); rintro e w2 ⟨rfl, rfl⟩)))
      exact ⟨rfl, ⟨rfl, r1, hc1⟩, hb1⟩
    rw [if_neg hlt]
    unfold rtake
    by_cases h0 : n ≤ 0
    · rw [if_pos h0]
      have hcv := fun w1 => run_conv_22_9 w1 none 0 0 [] (RB.nil _ _) rfl
      go_enter Tryz.func364, Tryz.ntmps364
      go_wp2_with (first
        | (go_at_call 363; go_loud ((with_reducible refine (HG.out).mono ?_); rintro e w1 ⟨⟨rfl, hc1⟩, hb1⟩))
        | (go_at_call 340; go_loud ((with_reducible refine (cur_Take_none g base N r1 n w1 hc1 h0).mono ?_); rintro e w2 ⟨rfl, rfl⟩)))
      go_ret
      exact ⟨⟨rfl, hc1⟩, hb1⟩
    rw [if_neg h0]
    by_cases hl : (r1.length : Int) < n
    · rw [if_pos hl]
      go_enter Tryz.func364, Tryz.ntmps364
      go_wp2_with (first
        | (go_at_call 363; go_loud ((with_reducible refine (HG.out).mono ?_); rintro e w1 ⟨⟨rfl, hc1⟩, hb1⟩))
        | (go_at_call 340; go_loud ((with_reducible refine (cur_Take_err g base N r1 n w1 hc1 hN hl).mono ?_); rintro e w2 ⟨rfl, hb2⟩)))
      have hbg1 : base ≤ w1.heap.size := by obtain ⟨_, _, _, _, hh, _⟩ := hc1; have := blk_lt hh; omega
      exact ⟨rfl, ⟨rfl, r1, hc1.below hb2⟩, hb1.trans (Only.of_below hb2)⟩
    rw [if_neg hl]
    obtain ⟨m, rfl⟩ := Int.eq_ofNat_of_zero_le hn0
    obtain ⟨l, hl⟩ : ∃ l, Hid (l = r1.take m) := ⟨_, rfl⟩
    have hml : l.length = m := by rw [hl.out]; simp; omega
    obtain ⟨r2, hr2⟩ : ∃ r2, Hid (r2 = r1.drop m) := ⟨_, rfl⟩
    have htk := fun w1 h => cur_Take_ok g base N r1 m w1 h hb hN (by omega) (by omega)
    rw [show r1.take (m : Int).toNat = l from hl.out.symm, show r1.drop (m : Int).toNat = r2 from hr2.out.symm]
    rw [← hl.out, ← hr2.out] at htk
    have HTK := hid0 htk
    clear htk
    go_enter Tryz.func364, Tryz.ntmps364
    go_wp2_with (first
      | (go_at_call 363; go_loud ((with_reducible refine (HG.out).mono ?_); rintro e w1 ⟨⟨rfl, hc1⟩, hb1⟩))
      | (go_at_call 340; go_loud ((with_reducible refine (HTK.out w1 hc1).mono ?_); rintro e w2 ⟨x, rfl, ho2, hc2, hb2⟩; obtain ⟨A2, c2, rfl⟩ := own_slice ho2; have hcv := run_conv_22_9 w2 A2 c2 m l (RB.ownN ho2 hml) hml)))
    go_ret
    exact ⟨⟨rfl, hc2⟩, hb1.trans hb2⟩
end Go.Proofs.YtkpacfcklpoanaaGreat
