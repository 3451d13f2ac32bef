import Derived.Test.YtkpacfcklpoanaaGreatRef6
set_option linter.unusedVariables false
set_option linter.unusedSimpArgs false
namespace Go.Proofs.YtkpacfcklpoanaaGreat
open Go.RowKit
set_option maxRecDepth 100000 in
theorem ref_Seal (l : List UInt8) (w : World) (hl : l.length ≤ 900000000) :
    Calls Tryz.prog 113 #[.string ⟨l.toArray⟩] w fun e w' => e = .returned (.string ⟨(sealf l).toArray⟩) ∧ Below w.heap.size w w' := by
  have hx := xxh_range 0 l
  have HX := hid0 (show sealf l = stuff (l ++ le (xxh 0 l) 8) ++ [0] from rfl)
  have HS := hid0 (ref_Sum 0 l w (by decide) (by decide) (by omega))
  generalize xxh 0 l = h0 at *
  have hll := le_length h0 8
  have hN := hid0 (fun W => ref_Num h0 8 W hx.1 hx.2 (by decide) (by decide))
  have hc1 := bs_append l (le h0 8)
  have hst := stuff_length (l ++ le h0 8)
  have HT := hid0 (fun W => ref_Stuff (l ++ le h0 8) W (by simp [hll]; omega))
  have hc2 : (⟨(stuff (l ++ le h0 8)).toArray⟩ : ByteArray) ++ ⟨#[0]⟩ = ⟨(stuff (l ++ le h0 8) ++ [0]).toArray⟩ := bs_append _ [0]
  have hsl : (stuff (l ++ le h0 8)).length ≤ 1000000000 := by simp [hll] at hst; omega
  go_enter Tryz.func113, Tryz.ntmps113
  go_wp2_with (first
    | (go_at_call 178; go_loud ((with_reducible refine (HS.out).mono ?_); rintro e w1 ⟨rfl, hb1⟩))
    | (go_at_call 201; go_loud ((with_reducible refine (hN.out _).mono ?_); rintro e w2 ⟨rfl, hb2⟩; simp only [show Int.toNat 8 = 8 from rfl]))
    | (go_at_call 200; go_loud ((with_reducible refine (HT.out _).mono ?_); rintro e w3 ⟨rfl, hb3⟩)))
  go_ret
  rw [HX.out]
  exact ⟨rfl, (hb1.trans (hb2.mono hb1.size)).trans (hb3.mono (Nat.le_trans hb1.size hb2.size))⟩
set_option maxRecDepth 100000 in
theorem ref_Record (d : Bool) (q : Int) (k v : List UInt8) (w : World) (h0 : 0 ≤ q) (h1 : q ≤ 18446744073709551615) (hk : k.length ≤ 100000000) (hv : v.length ≤ 100000000) :
    Calls Tryz.prog 30 #[.agg #[.bool d, .int .u64 q, .string ⟨k.toArray⟩, .string ⟨v.toArray⟩]] w fun e w' =>
      e = .returned (.string ⟨(recFrame d q ⟨k.toArray⟩ ⟨v.toArray⟩).toArray⟩) ∧ Below w.heap.size w w' := by
  have hB := hid0 (fun W => ref_Body d q k v W h0 h1 (by omega) (by omega))
  have hl := recBody_length d q ⟨k.toArray⟩ ⟨v.toArray⟩
  rw [bs_size, bs_size] at hl
  have HF := hid0 (show recFrame d q ⟨k.toArray⟩ ⟨v.toArray⟩ = sealf (recBody d q ⟨k.toArray⟩ ⟨v.toArray⟩) from rfl)
  rw [HF.out]
  generalize recBody d q ⟨k.toArray⟩ ⟨v.toArray⟩ = b at *
  have hS := hid0 (fun W => ref_Seal b W (by omega))
  go_enter Tryz.func30, Tryz.ntmps30
  go_wp2_with (first
    | (go_at_call 114; go_loud ((with_reducible refine (hB.out _).mono ?_); rintro e w1 ⟨rfl, hb1⟩))
    | (go_at_call 113; go_loud ((with_reducible refine (hS.out _).mono ?_); rintro e w2 ⟨rfl, hb2⟩)))
  go_ret
  have hb0 : Below w.heap.size w w1 := ((Below.refl _ _).alloc (Nat.le_refl _) _).trans (hb1.mono (by simp))
  exact ⟨rfl, hb0.trans (hb2.mono hb0.size)⟩
end Go.Proofs.YtkpacfcklpoanaaGreat
