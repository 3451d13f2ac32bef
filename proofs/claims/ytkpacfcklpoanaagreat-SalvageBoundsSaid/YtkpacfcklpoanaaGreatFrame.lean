import Derived.Test.YtkpacfcklpoanaaGreatCobs
import Derived.Test.YtkpacfcklpoanaaGreatRec
import Derived.Test.YtkpacfcklpoanaaGreatWideSum
set_option linter.unusedVariables false
set_option linter.unusedSimpArgs false
namespace Go.Proofs.YtkpacfcklpoanaaGreat
open Go.RowKit
theorem stuff_length (b : List UInt8) : (stuff b).length ≤ b.length + 1 + b.length / 254 := by
  have : ∀ n (b : List UInt8), b.length ≤ n → (stuff b).length ≤ b.length + 1 + b.length / 254 := by
    intro n
    induction n with
    | zero =>
      intro b hb
      obtain rfl : b = [] := by cases b <;> simp_all
      rw [stuff]; simp [tw]
    | succ n ih =>
      intro b hb
      rw [stuff]
      split
      · rename_i h
        have := ih (b.drop (tw b + 1)) (by simp; omega)
        simp at this ⊢
        omega
      · split
        · have := ih (b.drop 254) (by simp; omega)
          simp at this ⊢
          omega
        · simp
  exact this b.length b (Nat.le_refl _)
/-- A body's frame. -/
def sealf (l : List UInt8) : List UInt8 := stuff (l ++ le (xxh 0 l) 8) ++ [0]
theorem sealf_length (l : List UInt8) : (sealf l).length ≤ l.length + 10 + (l.length + 8) / 254 := by
  have := stuff_length (l ++ le (xxh 0 l) 8)
  simp [le_length] at this
  simp [sealf]
  omega
theorem own_capN {w : World} {base n N : Nat} {e : TypeId} {size : Nat} {A : Option Addr} {c : Nat} {xs : List Value} (h : w.ownsRow base e size (.slice A n c) n xs) (hn : n = N) : N ≤ c := hn ▸ own_cap h
set_option maxRecDepth 100000 in
set_option maxHeartbeats 1000000 in
theorem frame_Seal (A : Option Addr) (c N : Nat) (l : List UInt8) (w : World) (hr : RB w A l) (hN : l.length = N) (hl : N ≤ 100000000) :
    Calls Tryz.prog 243 #[.slice A N c] w fun e w' => ∃ x, e = .returned x ∧ w'.ownsRow w.heap.size 5 1 x (sealf l).length (B8 (sealf l)) ∧ Below w.heap.size w w' := by
  have hr0 := hr.rd
  have hx := xxh_range 0 l
  have HX := hid0 (show sealf l = stuff (l ++ le (xxh 0 l) 8) ++ [0] from rfl)
  have HSZ := stuff_length (l ++ le (xxh 0 l) 8)
  generalize sealf l = sl at *
  have HSL := hid0 (sealf_length l)
  have hS := fun W (h : RB W A l) => wide_Sum 0 A c N l W (by omega) (by omega) h hN (by rw [maxB_eq]; omega)
  generalize xxh 0 l = h0 at *
  have HS := hid0 hS
  clear hS
  go_enter Tryz.func243, Tryz.ntmps243
  go_wp2_with (first
    | (go_at_call 285; go_loud ((with_reducible refine (buf_Raw w.heap.size w.heap.size [] A c N l _ (IsBuf.new w) (Nat.le_refl _) ?_ hN ?_).mono ?_); exact hr.below ((Below.refl _ _).alloc (Nat.le_refl _) _); (rw [maxB_eq]; simp; omega); rintro e w2 ⟨rfl, hbuf2, hbl2⟩; have hbl2' : Below w.heap.size w w2 := ((Below.refl _ _).alloc (Nat.le_refl _) _).trans hbl2; rw [List.nil_append] at hbuf2))
    | (go_at_call 306; go_loud ((with_reducible refine (HS.out _ (hr.below hbl2')).mono ?_); rintro e w3 ⟨rfl, hbl3⟩; have hbuf3 := hbuf2.below hbl3; have hbl3' : Below w.heap.size w w3 := hbl2'.trans (hbl3.mono hbl2'.size)))
    | (go_at_call 322; go_loud ((with_reducible refine (buf_Eight w.heap.size w.heap.size l h0 _ hbuf3 (Nat.le_refl _) ?_ ?_ ?_).mono ?_); omega; omega; (rw [maxB_eq]; omega); rintro e w4 ⟨rfl, hbuf4, hbl4⟩; obtain ⟨m, HM, hml⟩ : ∃ m, Hid (m = l ++ le h0 8) ∧ m.length = N + 8 := ⟨_, rfl, (by simp [le_length, hN])⟩; rw [← HM.out] at hbuf4; have hbl4' : Below w.heap.size w w4 := hbl3'.trans hbl4))
    | (go_at_call 286; go_loud ((with_reducible refine (buf_Bytes w.heap.size w.heap.size m _ hbuf4 ?_).mono ?_); (rw [maxB_eq]; omega); rintro e w5 ⟨x, rfl, ho5, hbl5⟩; obtain ⟨A5, c5, rfl⟩ := own_slice ho5; have hbl5' : Below w.heap.size w w5 := hbl4'.trans (hbl5.mono hbl4'.size)))
    | (go_at_call 323; go_loud ((with_reducible refine (cobs_Stuff A5 c5 _ m _ (RB.own ho5) hml (own_capN ho5 hml) ?_).mono ?_); omega; rintro e w6 ⟨x, rfl, ho6, hbl6⟩; obtain ⟨A6, c6, rfl⟩ := own_slice ho6; have ho6' := own_mono ho6 hbl5'.size; have hbl6' : Below w.heap.size w w6 := hbl5'.trans (hbl6.mono hbl5'.size)))
    | (at_builtin; go_loud (refine append_b rfl _ _ rfl w.heap.size (.slice A6 (stuff m).length c6) (stuff m) rfl (ho6'.alloc _) (some ⟨w6.heap.size, 0, none⟩) 1 1 [0] rfl rfl ?_ ?_ ?_ ?_; exact RB.one _ 0 _ rfl; (rw [maxB_eq]; have h9 := stuff_length m; simp; omega); (have := hbl6'.size; simp; omega); intro A7 c7 m7 w7 HM7 hm7 ho7 hg7)))
  go_ret
  have h7 : m7 = sl := by rw [HM7.out, HX.out, HM.out]
  refine ⟨_, rfl, h7 ▸ ho7, (hbl6'.alloc hbl6'.size _).grown hg7 ?_ ?_⟩
  · have := hbl6'.size; simp; omega
  · exact own_base ho6'
/-- A record's frame. -/
def recFrame (d : Bool) (q : Int) (k v : ByteArray) : List UInt8 := sealf (recBody d q k v)
theorem recFrame_length (d : Bool) (q : Int) (k v : ByteArray) : (recFrame d q k v).length ≤ 41 + k.size + v.size + (39 + k.size + v.size) / 254 := by
  have h1 := sealf_length (recBody d q k v)
  have h2 := recBody_length d q k v
  unfold recFrame
  omega
set_option maxRecDepth 100000 in
theorem frame_PutRecord_err (d : Bool) (q : Int) (k v : ByteArray) (w : World) (hk : k.size ≤ maxB) (hv : v.size ≤ maxB) (he : recCheck d k v ≠ 0) :
    Calls Tryz.prog 157 #[.agg #[.bool d, .int .u64 q, .string k, .string v]] w fun e w' => e = .returned (.tuple #[.slice none 0 0, .int .i64 (recCheck d k v)]) ∧ Below w.heap.size w w' := by
  have hB := fun W => record_Body_err d q k v W hk hv he
  have HB := hid0 hB
  clear hB
  generalize recCheck d k v = e0 at *
  go_enter Tryz.func157, Tryz.ntmps157
  go_wp2_with (go_at_call 242; go_loud ((with_reducible refine (HB.out _).mono ?_); rintro e w1 ⟨rfl, hb1⟩))
  go_ret2
  exact ⟨rfl, ((Below.refl _ _).alloc (Nat.le_refl _) _).trans (hb1.mono (by simp))⟩
set_option maxRecDepth 100000 in
theorem frame_PutRecord_ok (d : Bool) (q : Int) (k v : ByteArray) (w : World) (hq0 : 0 ≤ q) (hq1 : q ≤ 18446744073709551615) (he : recCheck d k v = 0) :
    Calls Tryz.prog 157 #[.agg #[.bool d, .int .u64 q, .string k, .string v]] w fun e w' => ∃ x, e = .returned (.tuple #[x, .int .i64 0]) ∧ w'.ownsRow w.heap.size 5 1 x (recFrame d q k v).length (B8 (recFrame d q k v)) ∧ Below w.heap.size w w' := by
  have hkv := recCheck_sizes _ _ _ he
  have hB := fun W => record_Body_ok d q k v W hq0 hq1 he
  have hl := recBody_length d q k v
  have HF := hid0 (show recFrame d q k v = sealf (recBody d q k v) from rfl)
  generalize recFrame d q k v = rf at *
  generalize recBody d q k v = rb at *
  have HB := hid0 hB
  clear hB he
  go_enter Tryz.func157, Tryz.ntmps157
  go_wp2_with (first
    | (go_at_call 242; go_loud ((with_reducible refine (HB.out _).mono ?_); rintro e w1 ⟨x, rfl, ho1, hb1⟩; obtain ⟨A1, c1, rfl⟩ := own_slice ho1))
    | (go_at_call 243; go_loud ((with_reducible refine (frame_Seal A1 c1 _ rb w1 (RB.own ho1) rfl ?_).mono ?_); omega; rintro e w2 ⟨x, rfl, ho2, hb2⟩; obtain ⟨A2, c2, rfl⟩ := own_slice ho2)))
  go_ret2
  have h1 : Below w.heap.size w w1 := ((Below.refl _ _).alloc (Nat.le_refl _) _).trans (hb1.mono (by simp))
  rw [HF.out]
  exact ⟨_, rfl, own_mono ho2 h1.size, h1.trans (hb2.mono h1.size)⟩
end Go.Proofs.YtkpacfcklpoanaaGreat
