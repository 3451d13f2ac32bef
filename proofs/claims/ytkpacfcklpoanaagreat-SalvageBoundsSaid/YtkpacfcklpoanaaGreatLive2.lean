/- What must be alive: a record that is salvaged. -/
import Derived.Test.YtkpacfcklpoanaaGreatLive1
import Derived.Test.YtkpacfcklpoanaaGreatRef7
set_option linter.unusedVariables false
set_option linter.unusedSimpArgs false
namespace Go.Proofs.YtkpacfcklpoanaaGreat
open Go.RowKit
theorem sAll_nz (n : Nat) : ∀ (h : List UInt8) (s : SS), (∀ x ∈ h, x ≠ 0) → s.cut.2.2 ≤ s.cut.2.1 → s.cut.2.1 + h.length + 1 < n → sAll n s (h ++ [0]) = fnds (s.held ++ h) (s.cut.1, s.cut.2.2, s.cut.2.1 + h.length) := by
  intro h
  induction h with
  | nil =>
    intro s _ _ _
    simp [sAll, sOuts]
  | cons x h ih =>
    intro s hz h1 h2
    have hx : x ≠ 0 := hz x (by simp)
    simp only [List.length_cons] at h2 ⊢
    have hcut : (sByte n s x).cut = (s.cut.1, s.cut.2.1 + 1, s.cut.2.2) := by
      rw [sByte_cut]
      unfold cstep
      rw [if_neg (by omega), if_neg hx]
    have hheld : (sByte n s x).held = s.held ++ [x] := by
      rw [sByte_held]
      have e := sByte_cut n s x
      rw [hcut] at e
      rw [← e]
      show (if s.cut.2.1 + 1 - s.cut.2.2 = 0 then _ else _) = _
      rw [if_neg (by omega), if_neg hx]
    show sOuts s x ++ sAll n (sByte n s x) (h ++ [0]) = _
    unfold sOuts
    rw [if_neg hx, List.nil_append, ih _ (fun y hy => hz y (by simp [hy])) (by rw [hcut]; show s.cut.2.2 ≤ s.cut.2.1 + 1; omega) (by rw [hcut]; show s.cut.2.1 + 1 + h.length + 1 < n; omega), hcut, hheld]
    simp only [List.append_assoc, List.singleton_append]
    congr 3
    omega
def rcB : Rc := (false, 1, [97], [])
theorem salv_one : ∃ f : Fnd, salvage 64 (rfr rcB) = [f] ∧ f.rc = rcB ∧ f.pos = 0 := by
  have hl := recFrame_length false 1 ⟨[97].toArray⟩ ⟨[].toArray⟩
  have e1 : (⟨([97] : List UInt8).toArray⟩ : ByteArray).size = 1 := rfl
  have e2 : (⟨([] : List UInt8).toArray⟩ : ByteArray).size = 0 := rfl
  rw [e1, e2] at hl
  change (rfr rcB).length ≤ _ at hl
  obtain ⟨h, hh, hz, h0⟩ := sealf_end (recBody false 1 ⟨[97].toArray⟩ ⟨[].toArray⟩)
  have hf := frec_frame false 1 [97] [] (by decide) (by decide) (by decide) h hh
  change rfr rcB = h ++ [0] at hh
  rw [hh] at hl ⊢
  rw [List.length_append] at hl
  unfold salvage
  rw [sAll_nz 64 h _ hz (Nat.le_refl _) (by show 0 + h.length + 1 < 64; simp at hl; omega)]
  show ∃ f, fnds ([] ++ h) _ = [f] ∧ _
  unfold fnds
  rw [List.nil_append, hf]
  exact ⟨_, rfl, rfl, rfl⟩
theorem salv_none : salvage 64 [] = [] := rfl
/-- The cells of what was found. -/
theorem fnds_at {w : World} {a : Addr} {l : List Fnd} (h : ∀ j u, (rowOf encF l)[j]? = some u → w.cell? (a.add j) = some u) {k : Nat} {f : Fnd} (hk : l[k]? = some f) :
    w.cell? (a.add (k * 7)) = some (.bool f.rc.1) ∧ w.cell? ⟨(a.add (k * 7)).block, (a.add (k * 7)).off + 1, none⟩ = some (.int .u64 f.rc.2.1) ∧ w.cell? ⟨(a.add (k * 7)).block, (a.add (k * 7)).off + 2, none⟩ = some (.string ⟨f.rc.2.2.1.toArray⟩) ∧ w.cell? ⟨(a.add (k * 7)).block, (a.add (k * 7)).off + 3, none⟩ = some (.string ⟨f.rc.2.2.2.toArray⟩) ∧
      w.cell? ⟨(a.add (k * 7)).block, (a.add (k * 7)).off + 4, none⟩ = some (.int .u64 f.seg) ∧ w.cell? ⟨(a.add (k * 7)).block, (a.add (k * 7)).off + 5, none⟩ = some (.int .i64 f.pos) ∧ w.cell? ⟨(a.add (k * 7)).block, (a.add (k * 7)).off + 6, none⟩ = some (.int .i64 f.len) :=
  ⟨row_elem (size := 7) (fun _ => rfl) h hk 0 _ rfl, row_elem (size := 7) (fun _ => rfl) h hk 1 _ rfl, row_elem (size := 7) (fun _ => rfl) h hk 2 _ rfl, row_elem (size := 7) (fun _ => rfl) h hk 3 _ rfl, row_elem (size := 7) (fun _ => rfl) h hk 4 _ rfl, row_elem (size := 7) (fun _ => rfl) h hk 5 _ rfl, row_elem (size := 7) (fun _ => rfl) h hk 6 _ rfl⟩
set_option maxRecDepth 100000 in
theorem law23_Lives (w : World) : Calls Tryz.prog 28 #[] w fun e w' => e = .returned (.bool true) ∧ Below w.heap.size w w' := by
  have HR : Hid (∀ W, Calls Tryz.prog 30 #[.agg #[.bool false, .int .u64 1, .string ⟨#[97]⟩, .string ⟨#[]⟩]] W fun e w' => e = .returned (.string ⟨(rfr rcB).toArray⟩) ∧ Below W.heap.size W w') :=
    hid0 (fun W => ref_Record false 1 [97] [] W (by decide) (by decide) (by decide) (by decide))
  obtain ⟨f, hf, hf1, hf2⟩ := salv_one
  have hfl := rfr_length rcB (by decide)
  have hl2 : (rfr rcB).length ≤ 43 := by
    have hl := recFrame_length false 1 ⟨[97].toArray⟩ ⟨[].toArray⟩
    have e1 : (⟨([97] : List UInt8).toArray⟩ : ByteArray).size = 1 := rfl
    have e2 : (⟨([] : List UInt8).toArray⟩ : ByteArray).size = 0 := rfl
    rw [e1, e2] at hl
    have h3 : (recFrame false 1 ⟨[97].toArray⟩ ⟨[].toArray⟩).length ≤ 43 := by omega
    exact h3
  have HS1 : Hid (∀ A c W, (rfr rcB).length ≤ c → RB W A (rfr rcB) → Calls Tryz.prog 29 #[.int .i64 64, .slice A (rfr rcB).length c] W fun e w' => ∃ A' c', e = .returned (.slice A' (salvage 64 (rfr rcB)).length c') ∧ OV encF w' W.heap.size 30 7 (.slice A' (salvage 64 (rfr rcB)).length c') (salvage 64 (rfr rcB)) ∧ Below W.heap.size W w') :=
    hid0 (fun A c W hc h => salv_Salvage 64 (rfr rcB) A c _ W (by decide) (by omega) rfl hc h)
  rw [hf] at HS1
  have HS0 : Hid (∀ W, Calls Tryz.prog 29 #[.int .i64 64, .slice none 0 0] W fun e w' => ∃ A' c', e = .returned (.slice A' 0 c') ∧ OV encF w' W.heap.size 30 7 (.slice A' 0 c') [] ∧ Below W.heap.size W w') :=
    hid0 (fun W => salv_Salvage 64 [] none 0 0 W (by decide) (by decide) rfl (by decide) (RB.nil _ _))
  have HL := hid0 law16_Lives
  generalize rfr rcB = b at *
  have hcv : ∀ W, (convert 9 22 (.string ⟨b.toArray⟩)).run Tryz.prog W = .ok (.slice (some ⟨W.heap.size, 0, none⟩) b.length (grownCap W b.length 0 5)) (Lib.bytesWorld W 5 ⟨b.toArray⟩) := fun W => by
    have := run_conv_9_22 W ⟨b.toArray⟩
    rwa [bs_size] at this
  have hrb : ∀ W, RB (Lib.bytesWorld W 5 ⟨b.toArray⟩) (some ⟨W.heap.size, 0, none⟩) b := fun W => by
    have := str_rb W ⟨b.toArray⟩
    have e1 : (⟨b.toArray⟩ : ByteArray).data.toList = b := by simp
    rwa [e1] at this
  have hbl := fun W => str_below W ⟨b.toArray⟩
  obtain ⟨⟨d, q, k, v⟩, seg, pos, len⟩ := f
  obtain ⟨rfl, rfl, rfl, rfl⟩ : d = false ∧ q = 1 ∧ k = [97] ∧ v = [] := by
    simp only [rcB, Prod.mk.injEq] at hf1
    exact hf1
  subst hf2
  have HC := hid0 hcv
  have HRB := hid0 hrb
  have HBL := hid0 hbl
  clear hcv hrb hbl hf hf1 hl2 hfl
  go_enter Tryz.func28, Tryz.ntmps28
  go_wp2_with (first
    | (go_at_call 30; go_loud ((with_reducible refine (HR.out _).mono ?_); rintro e w1 ⟨rfl, hb1⟩; have hcv1 := HC.out w1; have hrb1 := HRB.out w1; have hbl1 := HBL.out w1; have hcg := grownCap_ge w1 b.length 0 5; generalize Lib.bytesWorld w1 5 ⟨b.toArray⟩ = W1 at *; generalize grownCap w1 b.length 0 5 = cp1 at *))
    | (go_at_call 29; go_loud ((with_reducible refine (HS1.out _ _ W1 hcg hrb1).mono ?_); rintro e w2 ⟨A2, c2, rfl, ho2, hb2⟩; obtain ⟨a, rfl, hcc⟩ := (RV.own ho2) (by simp [rowOf, encF]); obtain ⟨_, _, k2, _, _, k5, _⟩ := fnds_at hcc (k := 0) rfl; rw [show a.add (0 * 7) = a from by simp [Addr.add]] at k2 k5))
    | (go_at_call 70; go_loud ((with_reducible refine (HL.out _).mono ?_); rintro e w3 ⟨rfl, hb3⟩; have m2 := keepc hb3 (World.block_lt_of_cell? _ _ k2) k2; have m5 := keepc hb3 (World.block_lt_of_cell? _ _ k5) k5))
    | (go_at_call 29; go_loud ((with_reducible refine (HS0.out _).mono ?_); rintro e w4 ⟨A4, c4, rfl, _, hb4⟩; have n2 := keepc hb4 (World.block_lt_of_cell? _ _ m2) m2; have n5 := keepc hb4 (World.block_lt_of_cell? _ _ m5) m5)))
  go_ret
  have hw1 := hb1.trans (hbl1.mono hb1.size)
  have hw2 := hw1.trans (hb2.mono hw1.size)
  have hw3 := hw2.trans (hb3.mono hw2.size)
  exact ⟨rfl, hw3.trans (hb4.mono hw3.size)⟩
end Go.Proofs.YtkpacfcklpoanaaGreat
