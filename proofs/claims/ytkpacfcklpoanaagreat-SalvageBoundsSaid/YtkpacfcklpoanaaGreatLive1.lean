/- What must be alive: a segment made and opened, an image of no record and of one. -/
import Derived.Test.YtkpacfcklpoanaaGreatEnc2
import Derived.Test.YtkpacfcklpoanaaGreatSb
set_option linter.unusedVariables false
set_option linter.unusedSimpArgs false
namespace Go.Proofs.YtkpacfcklpoanaaGreat
open Go.RowKit
theorem hlen_12 : hlen 12 1 0 = 15 := by rw [hlen_eq]; decide
theorem live_bytes : (wholeB 12 1 (head 12 1 0)).length = 4096 ∧ (wholeB 12 1 (head 12 1 0))[14]? = some 0 ∧ (wholeB 12 1 (head 12 1 0))[15]? = some 255 ∧ (wholeB 12 1 (head 12 1 0))[4095]? = some 255 := by
  have h1 : (head 12 1 0).length = 15 := hlen_12
  have hc : cfgSize 12 1 = 4096 := by decide
  obtain ⟨h, hh, _, _⟩ := sealf_end (headB 12 1 0)
  change head 12 1 0 = h ++ [0] at hh
  have hl : h.length = 14 := by rw [hh] at h1; simp at h1; omega
  unfold wholeB
  rw [hc, h1]
  refine ⟨by rw [List.length_append, List.length_replicate, h1], ?_, ?_, ?_⟩
  · rw [List.getElem?_append_left (by omega), hh, List.getElem?_append_right (by omega), hl]; rfl
  · rw [List.getElem?_append_right (by omega), h1, List.getElem?_replicate, if_pos (by omega)]
  · rw [List.getElem?_append_right (by omega), h1, List.getElem?_replicate, if_pos (by omega)]
theorem own_cells {w : World} {base n : Nat} {A : Option Addr} {c : Nat} {l : List UInt8} (h : w.ownsRow base 5 1 (.slice A n c) n (B8 l)) (hn : l.length = n) (h0 : 0 < n) : ∃ a, A = some a ∧ a.block < w.heap.size ∧ ∀ j x, l[j]? = some x → w.cell? (a.add j) = some (.int .u8 (x.toNat : Int)) := by
  subst hn
  have hr := (RB.own h).rd
  obtain ⟨a, rfl, h1, h2⟩ := hr (by simpa using h0)
  refine ⟨a, rfl, h1, fun j x hj => ?_⟩
  obtain ⟨hj1, rfl⟩ := List.getElem?_eq_some_iff.1 hj
  exact h2 j hj1
set_option maxRecDepth 100000 in
theorem law15_Lives (w : World) : Calls Tryz.prog 151 #[] w fun e w' => e = .returned (.bool true) ∧ Below w.heap.size w w' := by
  have HN : Hid (∀ W, Calls Tryz.prog 124 #[.agg #[.int .u8 12, .int .u32 1], .int .u32 0] W fun e w' => ∃ b, e = .returned (.tuple #[.pointer (some ⟨b, 0, none⟩), .int .i64 0]) ∧ IsB w' b W.heap.size 12 1 0 (head 12 1 0) [] ∧ W.heap.size ≤ b ∧ Below W.heap.size W w') :=
    hid0 (fun W => segment_New 12 1 0 W (by decide) (by decide) (by decide) (by decide))
  obtain ⟨l1, l2, l3, l4⟩ := live_bytes
  have hl : (head 12 1 0).length = 15 := hlen_12
  have HO := hid0 (fun b base W (h : IsB W b base 12 1 0 (head 12 1 0) []) => segment_Open b base 12 1 0 (head 12 1 0) [] W h (by decide) (by decide) (by rw [hl]; decide))
  rw [l1] at HO
  generalize wholeB 12 1 (head 12 1 0) = l at *
  have L1 := hid0 l1
  clear l1 hl
  go_enter Tryz.func151, Tryz.ntmps151
  go_wp2_with (first
    | (go_at_call 124; go_loud ((with_reducible refine (HN.out _).mono ?_); rintro e w1 ⟨b, rfl, hIB, hbb, hb1⟩))
    | (go_at_call 126; go_loud ((with_reducible refine (HO.out b _ w1 hIB).mono ?_); rintro e w2 ⟨x, rfl, ho2, hb2⟩; obtain ⟨A2, c2, rfl⟩ := own_slice ho2; obtain ⟨a, rfl, hal, hc⟩ := own_cells ho2 L1.out (by decide); have q1 : w2.cell? ⟨a.block, a.off + 14, none⟩ = some (.int .u8 0) := (by rw [← addr_off a 14 (by decide)]; exact hc 14 _ l2); have q2 : w2.cell? ⟨a.block, a.off + 15, none⟩ = some (.int .u8 255) := (by rw [← addr_off a 15 (by decide)]; exact hc 15 _ l3); have q3 : w2.cell? ⟨a.block, a.off + 4095, none⟩ = some (.int .u8 255) := (by rw [← addr_off a 4095 (by decide)]; exact hc 4095 _ l4))))
  clear hc
  go_ret
  exact ⟨rfl, hb1.trans (hb2.mono hb1.size)⟩
def rcA : Rc := (false, 0, [97], [])
theorem rcA_len : (rfr rcA).length ≤ 42 ∧ 1 ≤ (rfr rcA).length := by
  refine ⟨?_, rfr_pos rcA⟩
  have := recFrame_length false 0 ⟨[97].toArray⟩ ⟨[].toArray⟩
  have e1 : (⟨([97] : List UInt8).toArray⟩ : ByteArray).size = 1 := rfl
  have e2 : (⟨([] : List UInt8).toArray⟩ : ByteArray).size = 0 := rfl
  rw [e1, e2] at this
  exact this
theorem plan_nil : planR 12 1 [] = .ok [] := by
  unfold planR
  rw [if_neg (by decide), if_neg (by decide)]
  rfl
theorem planGo_one (n : Nat) (h1 : 1 ≤ n) (h2 : n ≤ 42) : planGo 12 1 0 15 0 [n] = .ok [0] := by
  have hl : roomLeft 12 1 15 0 ≥ 42 := by decide
  have hf : roomFits 12 1 15 0 n = true := by unfold roomFits; simp; omega
  rw [planGo]
  have e : hlen 12 1 (1 - 1) = 15 := hlen_12
  rw [e, hf]
  simp [planGo]
theorem plan_one : planR 12 1 [rcA] = .ok [0] := by
  unfold planR
  rw [if_neg (by decide), if_neg (by decide), hlen_12]
  exact planGo_one _ rcA_len.2 rcA_len.1
def noSeal : List UInt8 → List En → List UInt8 := fun _ _ => []
theorem enc_nil : encR' 12 1 noSeal [] = .ok [] := by
  unfold encR'
  rw [plan_nil]
  rfl
theorem enc_one : ∃ b, encR' 12 1 noSeal [rcA] = .ok b ∧ b.length = 4096 := by
  unfold encR'
  rw [plan_one]
  refine ⟨_, rfl, ?_⟩
  show ([] ++ wholeB 12 1 (head 12 1 0 ++ rfr rcA)).length = 4096
  have hc : cfgSize 12 1 = 4096 := by decide
  have h1 : (head 12 1 0).length = 15 := hlen_12
  have := rcA_len
  unfold wholeB
  rw [hc, List.nil_append, List.length_append, List.length_replicate, List.length_append, h1]
  omega
set_option maxRecDepth 100000 in
theorem law16_Lives (w : World) : Calls Tryz.prog 70 #[] w fun e w' => e = .returned (.bool true) ∧ Below w.heap.size w w' := by
  have H0 : Hid (∀ W, Calls Tryz.prog 42 #[.agg #[.int .u8 12, .int .u32 1], .slice none 0 0] W fun e w' => EncPost W.heap.size (encR' 12 1 noSeal []) e w' ∧ Below W.heap.size W w') :=
    hid0 (fun W => image_Encode 12 1 noSeal none 0 0 [] W (by decide) (by decide) (fun h => absurd h (by decide)) rfl (by decide) (by simp) (fun h => absurd h (by decide)))
  rw [enc_nil] at H0
  obtain ⟨b, hb1, hb2⟩ := enc_one
  have H1 : Hid (∀ A W, RV encR W A [rcA] → Calls Tryz.prog 42 #[.agg #[.int .u8 12, .int .u32 1], .slice A 1 1] W fun e w' => EncPost W.heap.size (encR' 12 1 noSeal [rcA]) e w' ∧ Below W.heap.size W w') :=
    hid0 (fun A W h => image_Encode 12 1 noSeal A 1 1 [rcA] W (by decide) (by decide) h rfl (by decide) (fun r hr => by simp at hr; subst hr; exact ⟨by decide, by decide, by decide, by decide⟩) (fun h => absurd h (by decide)))
  rw [hb1] at H1
  have HB2 := hid0 hb2
  clear hb1 hb2
  have HL := hid0 law15_Lives
  have hb0 := ((Below.refl w.heap.size w).alloc (Nat.le_refl _) (.cells #[.int .u8 12, .int .u32 1] 54))
  go_enter Tryz.func70, Tryz.ntmps70
  go_wp2_with (first
    | (go_at_call 42; go_loud ((with_reducible refine (H0.out _).mono ?_); rintro e w1 ⟨⟨A1, c1, rfl, _⟩, hb1⟩; have C1 := blk_below (heap_new w _) hb1 (by simp); obtain ⟨q0, q1⟩ := c2 C1))
    | (go_at_call 42; go_loud ((with_reducible refine (H1.out _ _ ?_).mono ?_); exact RV.at_ _ rcA 28 _ rfl _ (by simp); rintro e w2 ⟨⟨A2, c2, rfl, _⟩, hb2⟩; rw [HB2.out]))
    | (go_at_call 151; go_loud ((with_reducible refine (HL.out _).mono ?_); rintro e w3 ⟨rfl, hb3⟩)))
  go_ret
  have hw1 := hb0.trans (hb1.mono hb0.size)
  have hwA := hw1.alloc hw1.size (.cells #[.bool false, .int .u64 0, .string ⟨#[97]⟩, .string ⟨#[]⟩] 28)
  have hw2 := hwA.trans (hb2.mono hwA.size)
  exact ⟨rfl, hw2.trans (hb3.mono hw2.size)⟩
end Go.Proofs.YtkpacfcklpoanaaGreat
