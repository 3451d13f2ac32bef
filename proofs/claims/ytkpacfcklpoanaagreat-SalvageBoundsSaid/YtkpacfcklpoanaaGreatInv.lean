/- Plain laws: frames and records are read just as they are written. -/
import Derived.Test.YtkpacfcklpoanaaGreatSalv3
import Derived.Test.YtkpacfcklpoanaaGreatRef2
set_option linter.unusedVariables false
set_option linter.unusedSimpArgs false
namespace Go.Proofs.YtkpacfcklpoanaaGreat
open Go.RowKit
theorem by8_byte (b : UInt8) : by8 (b.toNat : Int) = b := by
  apply UInt8.toNat.inj
  have h1 := by8_toNat (b.toNat : Int)
  have h2 := b.toNat_lt
  omega
theorem by8_congr {x y : Int} (h : x % 256 = y % 256) : by8 x = by8 y := by unfold by8; rw [h]
theorem le_add (x z : Int) (m : Nat) : ∀ n, n ≤ m → le (x + 256 ^ m * z) n = le x n := by
  intro n
  induction n with
  | zero => intro _; rfl
  | succ n ih =>
    intro h
    rw [le, le, ih (by omega)]
    congr 2
    apply by8_congr
    obtain ⟨k, rfl⟩ : ∃ k, m = n + 1 + k := ⟨m - (n + 1), by omega⟩
    have e : (256 : Int) ^ (n + 1 + k) * z = 256 ^ k * z * 256 * 256 ^ n := by
      rw [Int.pow_add, Int.pow_succ]
      simp only [Int.mul_comm, Int.mul_left_comm, Int.mul_assoc]
    rw [e, Int.add_mul_ediv_right _ _ (Int.ne_of_gt (Int.pow_pos (by decide)))]
    generalize (256 : Int) ^ k * z = t
    generalize x / 256 ^ n = y
    omega
theorem le_leVal (l : List UInt8) : le (leVal l) l.length = l := by
  have : ∀ n (l : List UInt8), l.length = n → le (leVal l) n = l := by
    intro n
    induction n with
    | zero =>
      intro l h
      obtain rfl : l = [] := by cases l <;> simp_all
      rfl
    | succ n ih =>
      intro l h
      obtain ⟨a, b, rfl⟩ : ∃ a b, l = a ++ [b] := ⟨l.dropLast, l.getLast (by intro e; simp [e] at h), (List.dropLast_concat_getLast _).symm⟩
      have ha : a.length = n := by simpa using h
      rw [leVal_snoc, ha, le, le_add _ _ _ _ (Nat.le_refl _), ih a ha]
      congr 2
      have hr := leVal_range a
      rw [ha] at hr
      rw [Int.add_mul_ediv_left _ _ (Int.ne_of_gt (Int.pow_pos (by decide))), Int.ediv_eq_zero_of_lt hr.1 hr.2, Int.zero_add]
      exact by8_byte b
  exact this _ l rfl
theorem leVal_le (n : Nat) : ∀ x : Int, 0 ≤ x → x < 256 ^ n → leVal (le x n) = x := by
  induction n with
  | zero => intro x h0 h; simp at h; show (0 : Int) = x; omega
  | succ n ih =>
    intro x h0 h
    have hp : (0 : Int) < 256 ^ n := Int.pow_pos (by decide)
    have hx : x % 256 ^ n + 256 ^ n * (x / 256 ^ n) = x := Int.emod_add_mul_ediv x _
    have e : le x n = le (x % 256 ^ n) n := by
      have := le_add (x % 256 ^ n) (x / 256 ^ n) n n (Nat.le_refl _)
      rwa [hx] at this
    have h1 : x / 256 ^ n < 256 := Int.ediv_lt_of_lt_mul hp (by rw [Int.pow_succ, Int.mul_comm] at h; exact h)
    have h2 : 0 ≤ x / 256 ^ n := Int.ediv_nonneg h0 (by omega)
    rw [le, leVal_snoc, e, le_length, ih _ (Int.emod_nonneg _ (by omega)) (Int.emod_lt_of_pos _ hp), by8_toNat, Int.emod_eq_of_lt h2 h1]
    exact hx
/-- A number that was read stands there as it is written. -/
theorem rvf_inv (k : Nat) : ∀ i acc r x r', k + 1 + i = 10 → rvf (k + 1) i acc r = .ok (x, r') →
    ∃ y : Int, 0 ≤ y ∧ r = vnum k y ++ r' ∧ x = acc + y * 128 ^ i ∧ (0 < i → 0 < y) := by
  induction k with
  | zero =>
    intro i acc r x r' hk h
    cases r with
    | nil => simp [rvf] at h
    | cons b r =>
      obtain rfl : i = 9 := by omega
      rw [rvf] at h
      split at h
      · simp at h
      · rename_i h9
        have hb : b.toNat ≤ 1 := by omega
        rw [if_neg (by omega)] at h
        split at h
        · simp at h
        · rename_i h0
          simp only [Except.ok.injEq, Prod.mk.injEq] at h
          obtain ⟨rfl, rfl⟩ := h
          refine ⟨b.toNat, by omega, by simp [vnum, by8_byte], ?_, by omega⟩
          rw [Int.emod_eq_of_lt (by omega) (by omega)]
  | succ k ih =>
    intro i acc r x r' hk h
    cases r with
    | nil => simp [rvf] at h
    | cons b r =>
      rw [rvf] at h
      rw [if_neg (by omega)] at h
      have hbl := b.toNat_lt
      split at h
      · rename_i h1
        obtain ⟨y, hy0, hr, hx, hy⟩ := ih (i + 1) _ r x r' (by omega) h
        have hy := hy (by omega)
        refine ⟨(b.toNat : Int) % 128 + 128 * y, by omega, ?_, ?_, fun _ => by omega⟩
        · have e1 : ((b.toNat : Int) % 128 + 128 * y) / 128 = y := by omega
          have e2 : ((b.toNat : Int) % 128 + 128 * y) % 128 + 128 = b.toNat := by omega
          rw [vnum, if_neg (by omega), e1, e2, by8_byte, hr]
          rfl
        · rw [hx, Int.pow_succ, Int.add_mul, Int.add_assoc]
          congr 2
          simp only [Int.mul_comm, Int.mul_left_comm, Int.mul_assoc]
      · rename_i h1
        split at h
        · simp at h
        · rename_i h0
          simp only [Except.ok.injEq, Prod.mk.injEq] at h
          obtain ⟨rfl, rfl⟩ := h
          refine ⟨b.toNat, by omega, by rw [vnum, if_pos (by omega), by8_byte]; rfl, ?_, by omega⟩
          rw [Int.emod_eq_of_lt (by omega) (by omega)]
theorem rvar_inv {r r' : List UInt8} {x : Int} (h : rvar r = .ok (x, r')) : r = varint x ++ r' := by
  obtain ⟨y, _, h1, h2, _⟩ := rvf_inv 9 0 0 r x r' rfl h
  have : x = y := by rw [h2]; simp
  rw [this]; exact h1
/-- .. and is read again. -/
theorem rvf_vnum (k : Nat) : ∀ i acc (x : Int) r, k + 1 + i = 10 → 0 ≤ x → x * 128 ^ i < 18446744073709551616 → (0 < i → 0 < x) →
    rvf (k + 1) i acc (vnum k x ++ r) = .ok (acc + x * 128 ^ i, r) := by
  induction k with
  | zero =>
    intro i acc x r hk h0 hx hi
    obtain rfl : i = 9 := by omega
    have hx2 : x ≤ 1 := by
      have : (128 : Int) ^ 9 = 9223372036854775808 := by decide
      rw [this] at hx; omega
    have hi := hi (by omega)
    have hb := by8_toNat x
    rw [vnum, List.singleton_append, rvf, if_neg (by omega), if_neg (by omega), if_neg (by omega), hb, Int.emod_eq_of_lt (a := x) h0 (by omega), Int.emod_eq_of_lt h0 (by omega)]
  | succ k ih =>
    intro i acc x r hk h0 hx hi
    by_cases h : x < 128
    · have hb := by8_toNat x
      rw [Int.emod_eq_of_lt h0 (by omega)] at hb
      rw [vnum, if_pos h, List.singleton_append, rvf, if_neg (by omega), if_neg (by omega), if_neg (by omega), hb, Int.emod_eq_of_lt h0 (by omega)]
    · have hb := by8_toNat (x % 128 + 128)
      rw [Int.emod_eq_of_lt (a := x % 128 + 128) (by omega) (by omega)] at hb
      have e2 : (x % 128 + 128) % 128 = x % 128 := by omega
      have hsum : x % 128 * 128 ^ i + x / 128 * 128 ^ (i + 1) = x * 128 ^ i := by
        have h3 : x * 128 ^ i = (x % 128 + 128 * (x / 128)) * 128 ^ i := by rw [Int.emod_add_mul_ediv]
        rw [h3, Int.pow_succ, Int.add_mul]
        congr 1
        simp only [Int.mul_comm, Int.mul_left_comm, Int.mul_assoc]
      have hp : (0 : Int) < 128 ^ i := Int.pow_pos (by decide)
      have hnn : 0 ≤ x % 128 * 128 ^ i := Int.mul_nonneg (by omega) (by omega)
      rw [vnum, if_neg h, List.cons_append, rvf, if_neg (by omega), if_pos (by omega), hb, e2, ih (i + 1) _ (x / 128) r (by omega) (by omega) (by omega) (fun _ => by omega), Int.add_assoc, hsum]
theorem rvar_varint (x : Int) (r : List UInt8) (h0 : 0 ≤ x) (h1 : x ≤ 18446744073709551615) : rvar (varint x ++ r) = .ok (x, r) := by
  have := rvf_vnum 9 0 0 x r rfl h0 (by simp; omega) (by omega)
  simpa [rvar, varint] using this
theorem rtext_inv {least most : Int} {r t r' : List UInt8} (h : rtext least most r = .ok (t, r')) : r = varint t.length ++ (t ++ r') ∧ least ≤ t.length ∧ (t.length : Int) ≤ most := by
  unfold rtext at h
  split at h
  · simp at h
  · rename_i n r1 hv
    have h1 := rvar_inv hv
    have h2 := rvar_range _ _ _ hv
    split at h
    · simp at h
    · split at h
      · simp at h
      · unfold rtake at h
        split at h
        · simp only [Except.ok.injEq, Prod.mk.injEq] at h
          obtain ⟨rfl, rfl⟩ := h
          obtain rfl : n = 0 := by omega
          exact ⟨by simpa using h1, by simp; omega, by simp; omega⟩
        · split at h
          · simp at h
          · simp only [Except.ok.injEq, Prod.mk.injEq] at h
            obtain ⟨rfl, rfl⟩ := h
            have hl : (r1.take n.toNat).length = n.toNat := by simp; omega
            have hn : (((r1.take n.toNat).length : Nat) : Int) = n := by rw [hl]; omega
            rw [List.take_append_drop, hn]
            exact ⟨h1, by omega, by omega⟩
theorem rtext_text (least most : Int) (t r : List UInt8) (h0 : least ≤ t.length) (h1 : (t.length : Int) ≤ most) (h2 : t.length ≤ 1000000000) : rtext least most (varint t.length ++ (t ++ r)) = .ok (t, r) := by
  unfold rtext
  rw [rvar_varint _ _ (by omega) (by omega)]
  simp only
  rw [if_neg (by omega), if_neg (by omega)]
  unfold rtake
  by_cases h : t = []
  · subst h; simp
  · have : 0 < t.length := List.length_pos_iff.2 h
    rw [if_neg (by omega), if_neg (by simp; omega), Int.toNat_natCast]
    simp
theorem rrec_inv {b k v : List UInt8} {d : Bool} {q : Int} (h : rrec b = .ok (d, q, k, v)) :
    recBody d q ⟨k.toArray⟩ ⟨v.toArray⟩ = b ∧ recCheck d ⟨k.toArray⟩ ⟨v.toArray⟩ = 0 ∧ 0 ≤ q ∧ q ≤ 18446744073709551615 ∧ k.length ≤ 4096 ∧ v.length ≤ 1048576 := by
  cases b with
  | nil => simp [rrec] at h
  | cons x r0 =>
    rw [rrec] at h
    split at h
    · simp at h
    · rename_i hk
      split at h
      · simp at h
      · rename_i q' r1 hq
        have h1 := rvar_inv hq
        have h2 := rvar_range _ _ _ hq
        split at h
        · simp at h
        · rename_i key r2 ht
          obtain ⟨h3, h4, h5⟩ := rtext_inv ht
          split at h
          · simp at h
          · rename_i v' r3 hv
            split at h
            · rename_i hr3
              simp only [Except.ok.injEq, Prod.mk.injEq] at h
              obtain ⟨rfl, rfl, rfl, rfl⟩ := h
              subst hr3
              unfold recBody recCheck
              rw [bs_size, bs_size]
              by_cases h3' : x = 3
              · subst h3'
                rw [if_pos rfl] at hv
                simp only [Except.ok.injEq, Prod.mk.injEq] at hv
                obtain ⟨rfl, rfl⟩ := hv
                refine ⟨?_, ?_, h2.1, h2.2.1, by omega, by simp⟩
                · rw [h1, h3]; simp; rfl
                · rw [if_neg (by omega), if_neg (by omega), if_neg (by simp), if_neg (by simp)]
              · have hx : x = 2 := by
                  refine Classical.byContradiction fun h => hk ⟨h, h3'⟩
                subst hx
                rw [if_neg (by decide)] at hv
                obtain ⟨h6, h7, h8⟩ := rtext_inv hv
                refine ⟨?_, ?_, h2.1, h2.2.1, by omega, by omega⟩
                · rw [h1, h3, h6]; simp; rfl
                · rw [if_neg (by omega), if_neg (by omega), if_neg (by simp), if_neg (by omega)]
            · simp at h
theorem rrec_body (d : Bool) (q : Int) (k v : List UInt8) (hc : recCheck d ⟨k.toArray⟩ ⟨v.toArray⟩ = 0) (h0 : 0 ≤ q) (h1 : q ≤ 18446744073709551615) : rrec (recBody d q ⟨k.toArray⟩ ⟨v.toArray⟩) = .ok (d, q, k, v) := by
  have hs := recCheck_sizes _ _ _ hc
  rw [bs_size, bs_size] at hs
  obtain ⟨h2, h3, h4, h5⟩ := hs
  cases d with
  | true =>
    have hv : v = [] := by have := h5 rfl; cases v <;> simp_all
    subst hv
    have e : by8 3 = 3 := rfl
    have hb : recBody true q ⟨k.toArray⟩ ⟨([] : List UInt8).toArray⟩ = 3 :: (varint q ++ (varint k.length ++ (k ++ []))) := by
      unfold recBody
      rw [bs_size]
      simp [e]
    rw [hb, rrec, if_neg (by decide), rvar_varint _ _ h0 h1]
    simp only
    rw [rtext_text 1 4096 k [] (by omega) (by omega) (by omega)]
    simp
  | false =>
    have e : by8 2 = 2 := rfl
    have hb : recBody false q ⟨k.toArray⟩ ⟨v.toArray⟩ = 2 :: (varint q ++ (varint k.length ++ (k ++ (varint v.length ++ (v ++ []))))) := by
      unfold recBody
      rw [bs_size, bs_size]
      simp [e]
    rw [hb, rrec, if_neg (by decide), rvar_varint _ _ h0 h1]
    simp only
    rw [rtext_text 1 4096 k _ (by omega) (by omega) (by omega)]
    simp only
    rw [if_neg (by decide), rtext_text 0 1048576 v [] (by omega) (by omega) (by omega)]
    simp
theorem unst_inv {b o : List UInt8} (h : unst b = .ok o) : stuff o = b ∧ ∀ x ∈ b, x ≠ 0 := by
  unfold unst at h
  split at h
  · simp at h
  · rename_i hz
    split at h
    · simp at h
    · split at h
      · simp at h
      · split at h
        · rename_i he
          simp only [Except.ok.injEq] at h
          subst h
          exact ⟨by simpa using he, idx_mem b hz⟩
        · simp at h
theorem fopen_inv {b o : List UInt8} (h : fopen b = .ok o) : sealf o = b ++ [0] ∧ ∀ x ∈ b, x ≠ 0 := by
  unfold fopen at h
  split at h
  · simp at h
  · rename_i t ht
    obtain ⟨h1, h2⟩ := unst_inv ht
    split at h
    · simp at h
    · rename_i hl
      split at h
      · rename_i hx
        simp only [Except.ok.injEq] at h
        have hd : (t.drop (t.length - 8)).length = 8 := by simp; omega
        have hle := le_leVal (t.drop (t.length - 8))
        rw [hd, hx, h] at hle
        refine ⟨?_, h2⟩
        unfold sealf
        rw [hle, ← h, List.take_append_drop, h1]
      · simp at h
theorem frec_inv {b k v : List UInt8} {d : Bool} {q : Int} (h : frec b = .ok (d, q, k, v)) :
    recFrame d q ⟨k.toArray⟩ ⟨v.toArray⟩ = b ++ [0] ∧ recCheck d ⟨k.toArray⟩ ⟨v.toArray⟩ = 0 ∧ 0 ≤ q ∧ q ≤ 18446744073709551615 ∧ k.length ≤ 4096 ∧ v.length ≤ 1048576 ∧ ∀ x ∈ b, x ≠ 0 := by
  unfold frec at h
  split at h
  · simp at h
  · rename_i o ho
    obtain ⟨h1, h2⟩ := fopen_inv ho
    obtain ⟨h3, h4⟩ := rrec_inv h
    exact ⟨by unfold recFrame; rw [h3, h1], h4.1, h4.2.1, h4.2.2.1, h4.2.2.2.1, h4.2.2.2.2, h2⟩
theorem idx_no (b : List UInt8) (h : ∀ x ∈ b, x ≠ 0) : ¬ 0 ≤ idx b 0 := by
  induction b with
  | nil => decide
  | cons y l ih =>
    have ih := ih (fun x hx => h x (by simp [hx]))
    have hy : (y == 0) = false := by simpa using h y (by simp)
    have h1 : idx l 0 = -1 := by
      unfold idx at *
      have : ∀ l : List UInt8, -1 ≤ Lib.indexByte l 0 := by
        intro l
        induction l with
        | nil => decide
        | cons z m ihm => simp only [Lib.indexByte]; split <;> (try split) <;> omega
      have := this l
      omega
    unfold idx at *
    simp only [Lib.indexByte, hy, Bool.false_eq_true, if_false, h1]
    decide
theorem tw_lt {o : List UInt8} (h : tw o < o.length) : o.take (tw o) ++ 0 :: o.drop (tw o + 1) = o := by
  induction o with
  | nil => simp at h
  | cons x l ih =>
    by_cases hx : x = 0
    · subst hx; simp [tw]
    · have ht : tw (x :: l) = tw l + 1 := by simp [tw, hx]
      rw [ht] at h ⊢
      simp only [List.take_succ_cons, List.drop_succ_cons, List.cons_append]
      rw [ih (by simpa using h)]
theorem tw_take (o : List UInt8) (n : Nat) (h : n ≤ tw o) : ∀ x ∈ o.take n, x ≠ 0 := by
  induction o generalizing n with
  | nil => simp
  | cons x l ih =>
    cases n with
    | zero => simp
    | succ n =>
      by_cases hx : x = 0
      · subst hx; simp [tw] at h
      · have ht : tw (x :: l) = tw l + 1 := by simp [tw, hx]
        intro y hy
        rw [List.take_succ_cons, List.mem_cons] at hy
        rcases hy with rfl | hy
        · exact hx
        · exact ih n (by omega) y hy
theorem by8_small (n : Nat) (h : n ≤ 255) : (by8 ((n : Int))).toNat = n := by
  have := by8_toNat (n : Int)
  omega
theorem by8_nz (n : Nat) (h : n + 1 ≤ 255) : by8 ((n : Int) + 1) ≠ 0 := by
  intro e
  have h1 := by8_small (n + 1) h
  rw [show (((n + 1 : Nat)) : Int) = (n : Int) + 1 from by omega, e] at h1
  simp at h1
theorem stuff_nz (n : Nat) : ∀ o : List UInt8, o.length ≤ n → (∀ x ∈ stuff o, x ≠ 0) ∧ 0 < (stuff o).length := by
  induction n with
  | zero =>
    intro o h
    obtain rfl : o = [] := by cases o <;> simp_all
    rw [stuff]; simp [tw]; decide
  | succ n ih =>
    intro o h
    have hle := tw_le o
    rw [stuff]
    split
    · rename_i hc
      refine ⟨?_, by simp⟩
      intro x hx
      simp only [List.mem_cons, List.mem_append] at hx
      rcases hx with rfl | hx | hx
      · exact by8_nz _ (by omega)
      · exact tw_take o _ (Nat.le_refl _) x hx
      · exact (ih _ (by simp; omega)).1 x hx
    · rename_i hc
      split
      · rename_i h2
        refine ⟨?_, by simp⟩
        intro x hx
        simp only [List.mem_cons, List.mem_append] at hx
        rcases hx with rfl | hx | hx
        · decide
        · exact tw_take o _ (by omega) x hx
        · exact (ih _ (by simp; omega)).1 x hx
      · rename_i h2
        refine ⟨?_, by simp⟩
        intro x hx
        simp only [List.mem_cons] at hx
        rcases hx with rfl | hx
        · exact by8_nz _ (by omega)
        · exact tw_take o o.length (by omega) x (by simpa using hx)
theorem unrd_stuff (n : Nat) : ∀ (o out : List UInt8), o.length ≤ n → unrd (stuff o) out = some (out ++ o) := by
  induction n with
  | zero =>
    intro o out h
    obtain rfl : o = [] := by cases o <;> simp_all
    rw [stuff]; simp [tw]
    rw [unrd]; simp
    have : (by8 1).toNat = 1 := rfl
    rw [unrd]
    simp [this]
  | succ n ih =>
    intro o out h
    have hle := tw_le o
    rw [stuff]
    split
    · rename_i hc
      have hb := by8_small (tw o + 1) (by omega)
      rw [show (((tw o + 1 : Nat)) : Int) = (tw o : Int) + 1 from by omega] at hb
      have hd : (o.drop (tw o + 1)).length ≤ n := by simp; omega
      have hp := (stuff_nz n _ hd).2
      have htk : (o.take (tw o)).length = tw o := by simp; omega
      rw [unrd, hb, if_neg (by simp [htk]), Nat.add_sub_cancel]
      rw [List.drop_left' htk, List.take_left' htk, if_pos ⟨by omega, hp⟩, ih _ _ hd]
      congr 1
      have := tw_lt hc.1
      simp only [List.append_assoc, List.singleton_append]
      rw [this]
    · rename_i hc
      split
      · rename_i h2
        have hd : (o.drop 254).length ≤ n := by simp; omega
        have htk : (o.take 254).length = 254 := by simp; omega
        have hb : (255 : UInt8).toNat = 255 := rfl
        rw [unrd, hb, if_neg (by simp [htk]), show 255 - 1 = 254 from rfl, List.drop_left' htk, List.take_left' htk, if_neg (by omega), ih _ _ hd]
        simp
      · rename_i h2
        have hb := by8_small (o.length + 1) (by omega)
        rw [show (((o.length + 1 : Nat)) : Int) = (o.length : Int) + 1 from by omega] at hb
        rw [unrd, hb, if_neg (by omega), Nat.add_sub_cancel]
        simp
        rw [unrd]
theorem unst_stuff (o : List UInt8) : unst (stuff o) = .ok o := by
  obtain ⟨h1, h2⟩ := stuff_nz o.length o (Nat.le_refl _)
  unfold unst
  rw [if_neg (idx_no _ h1), if_neg (by omega), unrd_stuff o.length o [] (Nat.le_refl _)]
  simp
theorem fopen_seal (o h : List UInt8) (he : sealf o = h ++ [0]) : fopen h = .ok o := by
  unfold sealf at he
  obtain rfl : h = stuff (o ++ le (xxh 0 o) 8) := (List.append_inj_left he.symm (by have := congrArg List.length he; simpa using this.symm))
  unfold fopen
  rw [unst_stuff]
  have hx := xxh_range 0 o
  have hl : (o ++ le (xxh 0 o) 8).length - 8 = o.length := by simp [le_length]
  simp only
  have h8 : (256 : Int) ^ 8 = 18446744073709551616 := by decide
  rw [if_neg (by simp [le_length]), hl, List.drop_left, List.take_left, if_pos (leVal_le 8 _ hx.1 (by rw [h8]; omega))]
theorem sealf_end (o : List UInt8) : ∃ h, sealf o = h ++ [0] ∧ (∀ x ∈ h, x ≠ 0) ∧ 0 < h.length :=
  ⟨_, rfl, stuff_nz _ _ (Nat.le_refl _)⟩
theorem frec_frame (d : Bool) (q : Int) (k v : List UInt8) (hc : recCheck d ⟨k.toArray⟩ ⟨v.toArray⟩ = 0) (h0 : 0 ≤ q) (h1 : q ≤ 18446744073709551615) (h : List UInt8) (he : recFrame d q ⟨k.toArray⟩ ⟨v.toArray⟩ = h ++ [0]) : frec h = .ok (d, q, k, v) := by
  unfold frec
  rw [fopen_seal _ h he]
  exact rrec_body d q k v hc h0 h1
end Go.Proofs.YtkpacfcklpoanaaGreat
