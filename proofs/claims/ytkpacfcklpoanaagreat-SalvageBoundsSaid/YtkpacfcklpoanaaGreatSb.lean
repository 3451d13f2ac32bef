/- Plain law: each record that is salvaged stands in the bytes, as its frame, whole, one behind the other. -/
import Derived.Test.YtkpacfcklpoanaaGreatInv
set_option linter.unusedVariables false
set_option linter.unusedSimpArgs false
namespace Go.Proofs.YtkpacfcklpoanaaGreat
open Go.RowKit
def frmOf (f : Fnd) : List UInt8 := recFrame f.rc.1 f.rc.2.1 ⟨f.rc.2.2.1.toArray⟩ ⟨f.rc.2.2.2.toArray⟩
def FOk (f : Fnd) : Prop := 0 ≤ f.rc.2.1 ∧ f.rc.2.1 ≤ 18446744073709551615 ∧ f.rc.2.2.1.length ≤ 4096 ∧ f.rc.2.2.2.length ≤ 1048576
def Bnd (n : Nat) (b : List UInt8) : Nat → List Fnd → Prop
  | _, [] => True
  | last, f :: l => FOk f ∧ last ≤ f.seg * n + f.pos ∧ f.pos + f.len ≤ n ∧ f.seg * n + f.pos + f.len ≤ b.length ∧ (b.drop (f.seg * n + f.pos)).take f.len = frmOf f ∧ (frmOf f).length = f.len ∧ Bnd n b (f.seg * n + f.pos + f.len) l
theorem sByte_held (n : Nat) (s : SS) (x : UInt8) : (sByte n s x).held = if (cstep n s.cut x).2.1 - (cstep n s.cut x).2.2 = 0 then [] else if x = 0 then [] else s.held ++ [x] := by
  unfold sByte sEnd
  simp only
  by_cases h : (cstep n s.cut x).2.1 - (cstep n s.cut x).2.2 = 0
  · rw [if_pos h, if_pos h]
  · rw [if_neg h, if_neg h]
    by_cases hx : x = 0
    · rw [if_pos hx, if_pos hx]
    · rw [if_neg hx, if_neg hx]
/-- What a salvager knows of the bytes so far. -/
def SAt (n : Nat) (p : List UInt8) (s : SS) : Prop :=
  s.cut.1 * n + s.cut.2.1 = p.length ∧ s.cut.2.2 ≤ s.cut.2.1 ∧ s.cut.2.1 < n ∧ s.held = p.drop (s.cut.1 * n + s.cut.2.2)
theorem SAt.step {n : Nat} {p : List UInt8} {s : SS} (h : SAt n p s) (x : UInt8) : SAt n (p ++ [x]) (sByte n s x) := by
  obtain ⟨h1, h2, h3, h4⟩ := h
  unfold SAt
  rw [sByte_cut, sByte_held, h4]
  unfold cstep
  by_cases hn : s.cut.2.1 + 1 = n
  · rw [if_pos hn]
    have hm : (s.cut.1 + 1) * n = s.cut.1 * n + n := by rw [Nat.add_mul, Nat.one_mul]
    refine ⟨?_, Nat.le_refl _, by show 0 < n; omega, ?_⟩
    · show (s.cut.1 + 1) * n + 0 = _
      simp; omega
    · show (if 0 - 0 = 0 then _ else _) = List.drop ((s.cut.1 + 1) * n + 0) _
      rw [if_pos rfl, List.drop_eq_nil_of_le (by simp; omega)]
  · rw [if_neg hn]
    by_cases hx : x = 0
    · rw [if_pos hx]
      refine ⟨?_, Nat.le_refl _, ?_, ?_⟩
      · show s.cut.1 * n + (s.cut.2.1 + 1) = _
        simp; omega
      · show s.cut.2.1 + 1 < n
        omega
      · show (if s.cut.2.1 + 1 - (s.cut.2.1 + 1) = 0 then _ else _) = List.drop (s.cut.1 * n + (s.cut.2.1 + 1)) _
        rw [if_pos (by omega), List.drop_eq_nil_of_le (by simp; omega)]
    · rw [if_neg hx]
      refine ⟨?_, ?_, ?_, ?_⟩
      · show s.cut.1 * n + (s.cut.2.1 + 1) = _
        simp; omega
      · show s.cut.2.2 ≤ s.cut.2.1 + 1
        omega
      · show s.cut.2.1 + 1 < n
        omega
      · show (if s.cut.2.1 + 1 - s.cut.2.2 = 0 then _ else _) = List.drop (s.cut.1 * n + s.cut.2.2) _
        rw [if_neg (by omega), if_neg hx, List.drop_append_of_le_length (by omega)]
theorem sAll_bnd (n : Nat) (b : List UInt8) : ∀ (l p : List UInt8) (s : SS) (last : Nat), b = p ++ l → SAt n p s → last ≤ s.cut.1 * n + s.cut.2.2 → Bnd n b last (sAll n s l) := by
  intro l
  induction l with
  | nil => intros; simp [sAll, Bnd]
  | cons x l ih =>
    intro p s last hb hs hl
    have hb' : b = (p ++ [x]) ++ l := by simp [hb]
    have hs' := hs.step x
    have key := fun last' => ih (p ++ [x]) (sByte n s x) last' hb' hs'
    rw [sAll]
    obtain ⟨h1, h2, h3, h4⟩ := hs
    have hmono : s.cut.1 * n + s.cut.2.2 ≤ (sByte n s x).cut.1 * n + (sByte n s x).cut.2.2 := by
      rw [sByte_cut]
      unfold cstep
      split
      · show _ ≤ (s.cut.1 + 1) * n + 0
        rw [Nat.add_mul, Nat.one_mul]; omega
      · show _ ≤ s.cut.1 * n + (if x = 0 then s.cut.2.1 + 1 else s.cut.2.2)
        split <;> omega
    by_cases hx : x = 0
    · subst hx
      unfold sOuts
      rw [if_pos rfl]
      unfold fnds
      split
      · rename_i r hr
        obtain ⟨d, q, k, v⟩ := r
        obtain ⟨e1, _, e2, e3, e4, e5, e6⟩ := frec_inv hr
        have hhl : s.held.length = s.cut.2.1 - s.cut.2.2 := by rw [h4]; simp; omega
        have hend : s.cut.1 * n + s.cut.2.1 + 1 ≤ (sByte n s 0).cut.1 * n + (sByte n s 0).cut.2.2 := by
          rw [sByte_cut]
          unfold cstep
          split
          · show _ ≤ (s.cut.1 + 1) * n + 0
            rw [Nat.add_mul, Nat.one_mul]; omega
          · show _ ≤ s.cut.1 * n + (if (0 : UInt8) = 0 then s.cut.2.1 + 1 else s.cut.2.2)
            rw [if_pos rfl]; omega
        show Bnd n b last (fndOf (d, q, k, v) (s.cut.1, s.cut.2.2, s.cut.2.1) :: sAll n (sByte n s 0) l)
        have hfl : (frmOf (fndOf (d, q, k, v) (s.cut.1, s.cut.2.2, s.cut.2.1))).length = s.cut.2.1 - s.cut.2.2 + 1 := by
          show (recFrame d q ⟨k.toArray⟩ ⟨v.toArray⟩).length = _
          rw [e1]; simp [hhl]
        refine ⟨⟨e2, e3, e4, e5⟩, hl, ?_, ?_, ?_, hfl, ?_⟩
        · show s.cut.2.2 + (s.cut.2.1 - s.cut.2.2 + 1) ≤ n
          omega
        · show s.cut.1 * n + s.cut.2.2 + (s.cut.2.1 - s.cut.2.2 + 1) ≤ b.length
          rw [hb]; simp; omega
        · show (b.drop (s.cut.1 * n + s.cut.2.2)).take (s.cut.2.1 - s.cut.2.2 + 1) = recFrame d q ⟨k.toArray⟩ ⟨v.toArray⟩
          rw [hb', List.append_assoc, List.drop_append_of_le_length (by omega), ← h4, ← List.append_assoc, ← e1]
          refine List.take_left' ?_
          rw [e1]; simp [hhl]
        · refine key _ ?_
          show s.cut.1 * n + s.cut.2.2 + (s.cut.2.1 - s.cut.2.2 + 1) ≤ _
          omega
      · exact key last (Nat.le_trans hl hmono)
    · unfold sOuts
      rw [if_neg hx]
      exact key last (Nat.le_trans hl hmono)
theorem salvage_bnd (n : Nat) (b : List UInt8) (hn : 0 < n) : Bnd n b 0 (salvage n b) :=
  sAll_bnd n b b [] _ 0 rfl ⟨by simp, Nat.le_refl _, hn, by simp⟩ (Nat.zero_le _)
def noughts (l : List UInt8) : Nat := (l.filter (· == 0)).length
theorem noughts_cons (x : UInt8) (l : List UInt8) : noughts (x :: l) = (if x = 0 then 1 else 0) + noughts l := by
  unfold noughts
  rw [List.filter_cons]
  by_cases h : x = 0
  · subst h; simp; omega
  · simp [h]
theorem noughts_le (l : List UInt8) : noughts l ≤ l.length := List.length_filter_le _ _
theorem sAll_noughts (n : Nat) : ∀ (l : List UInt8) (s : SS), (sAll n s l).length ≤ noughts l := by
  intro l
  induction l with
  | nil => intro s; simp [sAll]
  | cons x l ih =>
    intro s
    have := ih (sByte n s x)
    have h1 : (sOuts s x).length ≤ if x = 0 then 1 else 0 := by
      unfold sOuts
      split
      · exact fnds_length _ _
      · simp
    rw [sAll, noughts_cons, List.length_append]
    omega
end Go.Proofs.YtkpacfcklpoanaaGreat
