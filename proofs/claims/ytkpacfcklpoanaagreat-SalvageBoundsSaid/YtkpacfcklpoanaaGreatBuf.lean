import Derived.Test.YtkpacfcklpoanaaGreatBase
set_option linter.unusedVariables false
set_option linter.unusedSimpArgs false
namespace Go.Proofs.YtkpacfcklpoanaaGreat
open Go.RowKit

theorem bytes_Clone (A : Option Addr) (c N : Nat) (l : List UInt8) (w : World) (hr : RB w A l) (hN : l.length = N) (hl : N ≤ maxB) :
    Calls Tryz.prog 128 #[.slice A N c] w fun e w' => ∃ v, e = .returned v ∧ w'.ownsRow w.heap.size 5 1 v l.length (B8 l) ∧ Below w.heap.size w w' := by
  subst hN
  rw [maxB_eq] at hl
  cases A with
  | none =>
    have hl0 : l = [] := by
      cases l with
      | nil => rfl
      | cons x xs => obtain ⟨a, e, _⟩ := hr (by simp); cases e
    subst hl0
    have he : ∀ W, (binOp .eql 22 (.slice none 0 c) (.slice none 0 0)).run Tryz.prog W = .ok (.bool true) W := fun W => by
      rw [Lib.run_eql_slice_nil W 22 5 none 0 c 0 0 Tryz.underlying22]; rfl
    go_enter Tryz.func128, Tryz.ntmps128
    go_wp2
    go_ret
    exact ⟨_, rfl, own_nil _ _ _ _, Below.refl _ _⟩
  | some a =>
    have he : ∀ W, (binOp .eql 22 (.slice (some a) l.length c) (.slice none 0 0)).run Tryz.prog W = .ok (.bool false) W := fun W => by
      rw [Lib.run_eql_slice_nil W 22 5 (some a) l.length c 0 0 Tryz.underlying22]; rfl
    go_enter Tryz.func128, Tryz.ntmps128
    go_wp2_with (at_builtin; refine append_bytes rfl _ _ rfl w.heap.size (.slice (some ⟨w.heap.size, 0, none⟩) 0 0) [] rfl ?_ (some a) c l rfl ?_ ?_ ?_ ?_; exact World.ownsRow_lit w #[] 0 (Nat.le_refl _) (Nat.zero_le _) rfl; exact (hr.below ((Below.refl _ _).alloc (Nat.le_refl _) _)); (rw [maxB_eq]; simp; omega); simp; intro ux w1 ho1 hg1 _; rw [List.nil_append] at ho1; obtain ⟨A3, cp3, rfl⟩ := own_slice ho1)
    go_ret
    refine ⟨_, rfl, ho1, ((Below.refl _ _).alloc (Nat.le_refl _) _).grown hg1 (by simp) ?_⟩
    simp [Value.ownBlock]

/-- The first place of a byte; -1: there is none. -/
def idx (l : List UInt8) (x : UInt8) : Int := Lib.indexByte l x
theorem bytesOf_toNat (l : List UInt8) : Lib.bytesOf (l.map fun b => (b.toNat : Int)) = l := by
  unfold Lib.bytesOf
  rw [List.map_map]
  conv => rhs; rw [← List.map_id l]
  apply List.map_congr_left
  intro b _
  simp
set_option maxRecDepth 100000 in
set_option maxHeartbeats 1000000 in
theorem bytes_IndexByte (A : Option Addr) (c N : Nat) (l : List UInt8) (x : UInt8) (w : World) (hr : RB w A l) (hN : l.length = N) :
    Calls Tryz.prog 250 #[.slice A N c, .int .u8 (x.toNat : Int)] w fun e w' => e = .returned (.int .i64 (idx l x)) ∧ w = w' := by
  subst hN
  have hx : ((x.toNat : Int)).toNat.toUInt8 = x := by simp
  cases A with
  | none =>
    have hl0 : l = [] := by
      cases l with
      | nil => rfl
      | cons x xs => obtain ⟨a, e, _⟩ := hr (by simp); cases e
    subst hl0
    go_enter Tryz.func250, Tryz.ntmps250
    go_wp2
    rw [run_callFunc_extern Tryz.func325 (by kernel_rfl) (by kernel_rfl) (by kernel_rfl) (e := Extern.BytealgIndexByte.indexByte) (by kernel_rfl), Lib.run_indexByteNil w _ c _]
    simp only [Result.andThen]
    rw [Oper.upon_value]
    go_wp2
    go_ret
    exact ⟨rfl, rfl⟩
  | some a =>
    go_enter Tryz.func250, Tryz.ntmps250
    go_wp2
    rw [run_callFunc_extern Tryz.func325 (by kernel_rfl) (by kernel_rfl) (by kernel_rfl) (e := Extern.BytealgIndexByte.indexByte) (by kernel_rfl), Lib.run_indexByteAt _ a l.length c (l.map fun b => (b.toNat : Int)) (by simp) (fun i hi => by
      obtain ⟨a', e, hc⟩ := hr (by omega)
      injection e with e
      subst e
      rw [hc i hi]
      simp [hi]) _]
    simp only [Result.andThen]
    rw [Oper.upon_value]
    go_wp2
    go_ret
    exact ⟨by rw [bytesOf_toNat]; rfl, rfl⟩
/-- A byte out of a number. -/
def by8 (x : Int) : UInt8 := UInt8.ofNat (x % 256).toNat
theorem by8_toNat (x : Int) : ((by8 x).toNat : Int) = x % 256 := by
  unfold by8
  have : (x % 256).toNat < 256 := by omega
  rw [UInt8.toNat_ofNat', Nat.mod_eq_of_lt (by simpa using this)]
  omega
/-- A number's bytes, the lowest first. -/
def le (x : Int) : Nat → List UInt8
  | 0 => []
  | n + 1 => le x n ++ [by8 (x / 256 ^ n)]
theorem le_length (x : Int) (n : Nat) : (le x n).length = n := by
  induction n with
  | zero => rfl
  | succ n ih => simp [le, ih]
/-- A buffer at block g, with its bytes. -/
def IsBuf (w : World) (g base : Nat) (l : List UInt8) : Prop :=
  ∃ v, w.heap[g]? = some (.cells #[v] 415 (0, 0)) ∧ w.ownsRow base 5 1 v l.length (B8 l)
theorem IsBuf.below {w w1 : World} {g base : Nat} {l : List UInt8} (h : IsBuf w g base l) (hb : Below w.heap.size w w1) : IsBuf w1 g base l := by
  obtain ⟨v, h1, h2⟩ := h
  refine ⟨v, blk_below h1 hb (blk_lt h1), ?_⟩
  exact h2.kept ⟨hb.os, hb.tape, hb.output, hb.size, fun i hi _ => hb.block i hi⟩ (row := none) (by cases v.ownBlock <;> simp)
theorem IsBuf.new (w : World) : IsBuf (w.alloc (.cells #[.slice none 0 0] 415)) w.heap.size w.heap.size [] := by
  refine ⟨.slice none 0 0, ?_, own_nil _ _ _ _⟩
  show (w.heap.push _)[w.heap.size]? = _
  rw [Array.getElem?_push, if_pos rfl]
set_option maxRecDepth 100000 in
set_option maxHeartbeats 1000000 in
theorem buf_num (g base : Nat) (l : List UInt8) (x n : Int) (w : World) (hb : IsBuf w g base l) (hg : base ≤ g) (hx0 : 0 ≤ x) (hx1 : x ≤ 18446744073709551615) (hn0 : 0 ≤ n) (hn1 : n ≤ 8) (hl : l.length + 8 ≤ maxB) :
    Calls Tryz.prog 372 #[.pointer (some ⟨g, 0, none⟩), .int .u64 x, .int .i64 n] w fun e w' => e = .returned (.pointer (some ⟨g, 0, none⟩)) ∧ IsBuf w' g base (l ++ le x n.toNat) ∧ Below base w w' := by
  obtain ⟨n, rfl⟩ := Int.eq_ofNat_of_zero_le hn0
  rw [maxB_eq] at hl
  go_enter Tryz.func372, Tryz.ntmps372
  go_wp2
  go_loopw [1, 8] (fun a b wr => ∃ k : Nat, k ≤ n ∧ a = .int .u64 (x / 256 ^ k) ∧ b = .int .i64 k ∧ IsBuf wr g base (l ++ le x k) ∧ Below base w wr) (fun _ i _ => n - (intOf i).toNat)
  case atStart => exact ⟨0, by omega, by simp, rfl, by simpa [le] using hb, Below.refl _ _⟩
  case round =>
    obtain ⟨k, hk, rfl, rfl, hbk, hbl⟩ := hrel
    by_cases hlt : k < n
    · have h1 : 0 ≤ x / 256 ^ k := Int.ediv_nonneg hx0 (Int.pow_nonneg (by decide))
      have h2 : x / 256 ^ k ≤ 18446744073709551615 := Int.le_trans (Int.ediv_le_self _ hx0) hx1
      have h3 : x / 256 ^ (k + 1) = x / 256 ^ k / 256 := by
        rw [Int.pow_succ, Int.ediv_ediv_of_nonneg (Int.pow_nonneg (by decide))]
      have hle : le x (k + 1) = le x k ++ [by8 (x / 256 ^ k)] := rfl
      have hll := le_length x k
      have H3 := hid0 h3
      have HLE := hid0 hle
      clear h3 hle
      generalize x / 256 ^ k = y at *
      obtain ⟨v, hv, hov⟩ := hbk
      have hc := blk_cell hv 0
      have hf := blk_frozen hv 0
      have hgs := blk_lt hv
      have hne := own_ne hv hov (by decide)
      have hb8 := by8_toNat y
      simp only [List.getElem?_toArray, List.getElem?_cons_zero] at hc
      have hlen : (l ++ le x k).length + 1 ≤ l.length + 8 := by simp [hll]; omega
      have hmk : l ++ (le x k ++ [by8 y]) = (l ++ le x k) ++ [by8 y] := by simp
      have HMK := hid0 hmk
      clear hmk
      generalize l ++ le x k = m at *
      have HB8 := hid0 hb8
      clear hb8 hll
      obtain ⟨Av, cv, rfl⟩ := own_slice hov
      go_wp2_with (at_builtin; go_loud (refine append_b rfl _ _ rfl base (.slice Av m.length cv) m rfl ?_ (some ⟨wr.heap.size, 0, none⟩) 1 1 [by8 y] rfl rfl ?_ ?_ ?_ ?_; exact hov.alloc _; exact RB.one _ _ _ HB8.out; (rw [maxB_eq]; simp; omega); (simp; omega); intro A3 cp3 m1 w1 HM1 _ ho1 hg1; have hv1 := blk_grown (blk_alloc hv _) hg1 hne; have hc1 := (blk_cell hv1 0).trans rfl; have hf1 := blk_frozen hv1 0))
      have hne1 := own_ne hv1 ho1 (by decide)
      have hbl1 : Below base w w1 := (hbl.alloc (by omega) _).grown hg1 (by simp; omega) (own_base hov)
      have hv2 := blk_set hv1 0 (.slice A3 m1.length cp3)
      have ho2 := own_far ho1 ⟨g, 0, none⟩ (.slice A3 m1.length cp3) (Ne.symm hne1)
      clear hc hf hv hov
      go_roundw
      case rel =>
        have hm1 : l ++ le x (k + 1) = m1 := by rw [HLE.out, HMK.out, HM1.out]
        exact ⟨k + 1, by omega, by rw [H3.out], by go_num, ⟨.slice A3 m1.length cp3, hv2, by rw [hm1]; exact ho2⟩, hbl1.setCell (by exact hg) _⟩
      case measure => simp [intOf]; omega
    · go_wp2
      go_ret
      have : k = n := by omega
      subst this
      exact ⟨rfl, by simpa using hbk, hbl⟩
end Go.Proofs.YtkpacfcklpoanaaGreat
