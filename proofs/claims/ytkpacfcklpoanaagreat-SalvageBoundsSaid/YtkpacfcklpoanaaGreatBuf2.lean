import Derived.Test.YtkpacfcklpoanaaGreatBuf
set_option linter.unusedVariables false
set_option linter.unusedSimpArgs false
namespace Go.Proofs.YtkpacfcklpoanaaGreat
open Go.RowKit
theorem le_one (x : Int) : le x 1 = [by8 x] := by simp [le]
theorem buf_Byte (g base : Nat) (l : List UInt8) (x : Int) (w : World) (hb : IsBuf w g base l) (hg : base ≤ g) (hx0 : 0 ≤ x) (hx1 : x ≤ 255) (hl : l.length + 8 ≤ maxB) :
    Calls Tryz.prog 295 #[.pointer (some ⟨g, 0, none⟩), .int .u8 x] w fun e w' => e = .returned (.pointer (some ⟨g, 0, none⟩)) ∧ IsBuf w' g base (l ++ [by8 x]) ∧ Below base w w' := by
  go_enter Tryz.func295, Tryz.ntmps295
  go_wp2_with (go_at_call 372; go_loud (with_reducible refine (buf_num g base l x 1 w hb hg (by omega) (by omega) (by omega) (by omega) hl).mono ?_); rintro e w1 ⟨rfl, hb1, hbl1⟩)
  go_ret
  rw [show Int.toNat 1 = 1 from rfl, le_one] at hb1
  exact ⟨rfl, hb1, hbl1⟩
theorem buf_Four (g base : Nat) (l : List UInt8) (x : Int) (w : World) (hb : IsBuf w g base l) (hg : base ≤ g) (hx0 : 0 ≤ x) (hx1 : x ≤ 4294967295) (hl : l.length + 8 ≤ maxB) :
    Calls Tryz.prog 296 #[.pointer (some ⟨g, 0, none⟩), .int .u32 x] w fun e w' => e = .returned (.pointer (some ⟨g, 0, none⟩)) ∧ IsBuf w' g base (l ++ le x 4) ∧ Below base w w' := by
  go_enter Tryz.func296, Tryz.ntmps296
  go_wp2_with (go_at_call 372; go_loud (with_reducible refine (buf_num g base l x 4 w hb hg (by omega) (by omega) (by omega) (by omega) hl).mono ?_); rintro e w1 ⟨rfl, hb1, hbl1⟩)
  go_ret
  exact ⟨rfl, hb1, hbl1⟩
theorem buf_Eight (g base : Nat) (l : List UInt8) (x : Int) (w : World) (hb : IsBuf w g base l) (hg : base ≤ g) (hx0 : 0 ≤ x) (hx1 : x ≤ 18446744073709551615) (hl : l.length + 8 ≤ maxB) :
    Calls Tryz.prog 322 #[.pointer (some ⟨g, 0, none⟩), .int .u64 x] w fun e w' => e = .returned (.pointer (some ⟨g, 0, none⟩)) ∧ IsBuf w' g base (l ++ le x 8) ∧ Below base w w' := by
  go_enter Tryz.func322, Tryz.ntmps322
  go_wp2_with (go_at_call 372; go_loud (with_reducible refine (buf_num g base l x 8 w hb hg (by omega) (by omega) (by omega) (by omega) hl).mono ?_); rintro e w1 ⟨rfl, hb1, hbl1⟩)
  go_ret
  exact ⟨rfl, hb1, hbl1⟩
set_option maxRecDepth 100000 in
theorem buf_Raw (g base : Nat) (l : List UInt8) (A : Option Addr) (c N : Nat) (m : List UInt8) (w : World) (hb : IsBuf w g base l) (hg : base ≤ g) (hr : RB w A m) (hN : m.length = N) (hl : l.length + N ≤ maxB) :
    Calls Tryz.prog 285 #[.pointer (some ⟨g, 0, none⟩), .slice A N c] w fun e w' => e = .returned (.pointer (some ⟨g, 0, none⟩)) ∧ IsBuf w' g base (l ++ m) ∧ Below base w w' := by
  obtain ⟨v, hv, hov⟩ := hb
  have hc := (blk_cell hv 0).trans rfl
  have hf := blk_frozen hv 0
  have hgs := blk_lt hv
  have hne := own_ne hv hov (by decide)
  obtain ⟨Av, cv, rfl⟩ := own_slice hov
  have HN := hid0 hN
  clear hN
  go_enter Tryz.func285, Tryz.ntmps285
  go_wp2_with (at_builtin; go_loud (refine append_b rfl _ _ rfl base (.slice Av l.length cv) l rfl ?_ A c N m HN.out rfl ?_ ?_ ?_ ?_; exact hov; exact hr; (rw [HN.out]; exact hl); omega; intro A3 cp3 m1 w1 HM1 _ ho1 hg1; have hv1 := blk_grown hv hg1 hne; have hc1 := (blk_cell hv1 0).trans rfl; have hf1 := blk_frozen hv1 0))
  go_ret
  have hne1 := own_ne hv1 ho1 (by decide)
  refine ⟨rfl, ⟨.slice A3 m1.length cp3, blk_set hv1 0 _, ?_⟩, ?_⟩
  · rw [← HM1.out]
    exact own_far ho1 ⟨g, 0, none⟩ _ (Ne.symm hne1)
  · exact ((Below.refl _ _).grown hg1 (by omega) (own_base hov)).setCell (by exact hg) _
theorem buf_Bytes (g base : Nat) (l : List UInt8) (w : World) (hb : IsBuf w g base l) (hl : l.length ≤ maxB) :
    Calls Tryz.prog 286 #[.pointer (some ⟨g, 0, none⟩)] w fun e w' => ∃ v, e = .returned v ∧ w'.ownsRow w.heap.size 5 1 v l.length (B8 l) ∧ Below w.heap.size w w' := by
  obtain ⟨v, hv, hov⟩ := hb
  have hc := (blk_cell hv 0).trans rfl
  obtain ⟨Av, cv, rfl⟩ := own_slice hov
  go_enter Tryz.func286, Tryz.ntmps286
  go_wp2_with (go_at_call 128; go_loud (with_reducible refine (bytes_Clone Av cv _ l w (RB.own hov) rfl hl).mono ?_); rintro e w1 ⟨v1, rfl, ho1, hbl1⟩)
  go_ret
  exact ⟨_, rfl, ho1, hbl1⟩
/-- A number in as few bytes as can be. -/
def vnum : Nat → Int → List UInt8
  | 0, x => [by8 x]
  | f + 1, x => if x < 128 then [by8 x] else by8 (x % 128 + 128) :: vnum f (x / 128)
def varint (x : Int) : List UInt8 := vnum 9 x
theorem vnum_length (f : Nat) : ∀ x, (vnum f x).length ≤ f + 1 := by
  induction f with
  | zero => intro x; simp [vnum]
  | succ f ih =>
    intro x
    unfold vnum
    split
    · simp
    · have := ih (x / 128); simp; omega
set_option maxRecDepth 100000 in
theorem u8_or128 (x : Int) (h : 0 ≤ x) : bits .or .u8 (x % 256) 128 = x % 128 + 128 := by
  have : ∀ n : Nat, n < 256 → bits .or .u8 (n : Int) 128 = (n : Int) % 128 + 128 := by decide
  obtain ⟨n, hn⟩ := Int.eq_ofNat_of_zero_le (show 0 ≤ x % 256 by omega)
  rw [hn, this n (by omega), ← hn]
  omega
set_option maxRecDepth 100000 in
theorem varint_Put (g base : Nat) (l : List UInt8) (x : Int) (w : World) (hb : IsBuf w g base l) (hg : base ≤ g) (hx0 : 0 ≤ x) (hx1 : x ≤ 18446744073709551615) (hl : l.length + 20 ≤ maxB) :
    Calls Tryz.prog 305 #[.pointer (some ⟨g, 0, none⟩), .int .u64 x] w fun e w' => e = .returned (.tuple #[]) ∧ IsBuf w' g base (l ++ varint x) ∧ Below base w w' := by
  rw [maxB_eq] at hl
  go_enter Tryz.func305, Tryz.ntmps305
  go_wp2
  go_loopw [1] (fun s wr => ∃ (f : Nat) (y : Int) (m : List UInt8), f ≤ 9 ∧ 0 ≤ y ∧ y < 128 ^ (f + 1) ∧ y ≤ 18446744073709551615 ∧ s = .int .u64 y ∧ IsBuf wr g base m ∧ m ++ vnum f y = l ++ varint x ∧ m.length + f = l.length + 9 ∧ Below base w wr) (fun s _ => (intOf s).toNat)
  case atStart => exact ⟨9, x, l, by omega, hx0, by simp; omega, hx1, rfl, hb, rfl, rfl, Below.refl _ _⟩
  case round =>
    obtain ⟨f, y, m, hf, hy0, hy1, hy2, rfl, hbm, hm, hml, hbl⟩ := hrel
    have HM := hid0 hm
    have HML := hid0 hml
    have hm20 : m.length + 8 ≤ maxB := by rw [maxB_eq]; omega
    clear hm hml
    by_cases hge : 128 ≤ y
    · obtain ⟨f, rfl⟩ : ∃ f', f = f' + 1 := by
        cases f with
        | zero => simp at hy1; omega
        | succ f => exact ⟨f, rfl⟩
      have hor := u8_or128 y hy0
      go_wp2_with (go_at_call 295; go_loud (with_reducible refine (buf_Byte g base m _ wr hbm hg (by omega) (by omega) hm20).mono ?_); rintro e w1 ⟨rfl, hb1, hbl1⟩)
      go_roundw
      case rel =>
        refine ⟨f, y / 128, _, by omega, by omega, ?_, by omega, rfl, hb1, ?_, ?_, hbl.trans hbl1⟩
        · rw [Int.pow_succ] at hy1; omega
        · rw [← HM.out]
          have : vnum (f + 1) y = by8 (y % 128 + 128) :: vnum f (y / 128) := by rw [vnum, if_neg (by omega)]
          rw [this]; simp
        · have := HML.out; simp; omega
      case measure => simp [intOf]; omega
    · go_wp2_with (go_at_call 295; go_loud (with_reducible refine (buf_Byte g base m _ wr hbm hg (by omega) (by omega) hm20).mono ?_); rintro e w1 ⟨rfl, hb1, hbl1⟩)
      have hv : vnum f y = [by8 y] := by
        cases f with
        | zero => rfl
        | succ f => rw [vnum, if_pos (by omega)]
      go_end0
      refine ⟨rfl, ?_, hbl.trans hbl1⟩
      rw [← HM.out, hv]
      exact hb1
theorem varint_PutText (g base : Nat) (l : List UInt8) (s : ByteArray) (w : World) (hb : IsBuf w g base l) (hg : base ≤ g) (hl : l.length + s.size + 20 ≤ maxB) :
    Calls Tryz.prog 321 #[.pointer (some ⟨g, 0, none⟩), .string s] w fun e w' => e = .returned (.tuple #[]) ∧ IsBuf w' g base (l ++ varint s.size ++ s.data.toList) ∧ Below base w w' := by
  have hcv := fun W => run_conv_9_22 W s
  rw [maxB_eq] at hl
  have hvl := vnum_length 9 (s.size : Int)
  go_enter Tryz.func321, Tryz.ntmps321
  go_wp2_with (first
    | (go_at_call 305; go_loud (with_reducible refine (varint_Put g base l _ w hb hg (by omega) (by omega) (by rw [maxB_eq]; omega)).mono ?_); rintro e w1 ⟨rfl, hb1, hbl1⟩)
    | (go_at_call 285; fail))
  refine (buf_Raw g base (l ++ varint (s.size : Int)) _ _ _ s.data.toList _ ?_ hg ?_ ?_ ?_).mono ?_
  · exact hb1.below (str_below w1 s)
  · exact str_rb w1 s
  · simp
  · rw [maxB_eq]; unfold varint; simp; omega
  rintro e w2 ⟨rfl, hb2, hbl2⟩
  go_wp2
  go_end0
  exact ⟨rfl, hb2, (hbl1.trans ((str_below w1 s).mono (by obtain ⟨v, hv, _⟩ := hb1; have := blk_lt hv; omega))).trans hbl2⟩
end Go.Proofs.YtkpacfcklpoanaaGreat
