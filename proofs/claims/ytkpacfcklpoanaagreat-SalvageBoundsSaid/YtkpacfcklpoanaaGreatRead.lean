import Derived.Test.YtkpacfcklpoanaaGreatRun
set_option linter.unusedVariables false
set_option linter.unusedSimpArgs false
namespace Go.Proofs.YtkpacfcklpoanaaGreat
open Go.RowKit
theorem IsCur.far {w : World} {g base N gr : Nat} {t : TypeId} {cs : Array Value} {r : List UInt8} (h : IsCur w g base N r) (hgr : w.heap[gr]? = some (.cells cs t (0, 0))) (ht : 5 ≠ t) (hne : g ≠ gr) (i : Nat) (u : Value) : IsCur (w.setCell ⟨gr, i, none⟩ u) g base N r := by
  obtain ⟨A, c, b, p, h1, h2, h3, h4, h5⟩ := h
  exact ⟨A, c, b, p, blk_far h1 hne u, own_far h2 _ _ (Ne.symm (own_ne hgr h2 ht)), h3, h4, h5⟩
theorem Only2.refl (g h : Nat) (w : World) : Only2 g h w w := ⟨rfl, rfl, rfl, Nat.le_refl _, fun _ _ _ _ => rfl⟩
theorem Only2.only {g h : Nat} {a b c : World} (x : Only2 g h a b) (k : Only g b c) : Only2 g h a c :=
  ⟨k.os.trans x.os, k.tape.trans x.tape, k.output.trans x.output, Nat.le_trans x.size k.size, fun i hi hg hh => (k.block i (Nat.lt_of_lt_of_le hi x.size) hg).trans (x.block i hi hg hh)⟩
theorem Only2.below {g h : Nat} {a b c : World} (x : Only2 g h a b) (k : Below b.heap.size b c) : Only2 g h a c := x.only (Only.of_below k)
theorem Only2.setCell {g h : Nat} {a b : World} (x : Only2 g h a b) (i : Nat) (u : Value) : Only2 g h a (b.setCell ⟨h, i, none⟩ u) :=
  ⟨x.os, x.tape, x.output, by simpa [World.setCell] using x.size, fun k hk hg hh => (Below.heap_setCell _ _ _ _ (by simpa using hh)).trans (x.block k hk hg hh)⟩
theorem Only.blk {g k : Nat} {w w' : World} {o : Obj} (h : Only g w w') (hk : w.heap[k]? = some o) (hg : k ≠ g) : w'.heap[k]? = some o := (h.block k (blk_lt hk) hg).trans hk
/-- A record that is read. -/
def rrec : List UInt8 → Except Int (Bool × Int × List UInt8 × List UInt8)
  | [] => .error 2
  | k :: r0 =>
    if k ≠ 2 ∧ k ≠ 3 then .error 4
    else match rvar r0 with
      | .error c => .error c
      | .ok (q, r1) =>
        match rtext 1 4096 r1 with
        | .error c => .error c
        | .ok (key, r2) =>
          match (if k = 3 then .ok ([], r2) else rtext 0 1048576 r2 : Except Int (List UInt8 × List UInt8)) with
          | .error c => .error c
          | .ok (v, r3) => if r3 = [] then .ok (decide (k = 3), q, key, v) else .error 3
def errOf {α : Type} : Except Int α → Option Int
  | .ok _ => none
  | .error c => some c
def RecAt (gr : Nat) (m : Except Int (Bool × Int × List UInt8 × List UInt8)) (w : World) : Prop :=
  match m with
  | .ok (d, q, k, v) => w.heap[gr]? = some (.cells #[.bool d, .int .u64 q, .string ⟨k.toArray⟩, .string ⟨v.toArray⟩] 28 (0, 0))
  | .error _ => True
def S8 (l : List UInt8) : Value := .string ⟨l.toArray⟩
theorem end_err {P : Program} {fn : Func} {g N gr : Nat} {W w' : World} {Z : World → Prop} {a : Act} (c : Int) (r' : List UInt8) (had : a.defers = []) (hc : IsCur w' g 0 N r') (ho : Only2 g gr W w') (hz : Z w') :
    bodyPost P fn (fun e w' => e = resEnd g (some c) ∧ (∃ r', IsCur w' g 0 N r') ∧ Only2 g gr W w' ∧ Z w') (Exit.panic (fault g c)) a w' := ⟨had, rfl, ⟨r', hc⟩, ho, hz⟩
set_option maxRecDepth 100000 in
set_option maxHeartbeats 4000000 in
theorem record_Read2 (g gr N : Nat) (r0 : List UInt8) (W : World) (hcur : IsCur W g 0 N (2 :: r0)) (hN : N ≤ maxB) (hgr : W.heap[gr]? = some (.cells #[.bool false, .int .u64 0, .string ⟨#[]⟩, .string ⟨#[]⟩] 28 (0, 0))) (hne : gr ≠ g) :
    Calls Tryz.prog 360 #[.pointer (some ⟨g, 0, none⟩), .pointer (some ⟨gr, 0, none⟩)] W fun e w' => e = resEnd g (errOf (rrec (2 :: r0))) ∧ (∃ r', IsCur w' g 0 N r') ∧ Only2 g gr W w' ∧ RecAt gr (rrec (2 :: r0)) w' := by
  have hB : Calls Tryz.prog 361 #[.pointer (some ⟨g, 0, none⟩)] W fun e w' => e = .returned (.int .u8 2) ∧ IsCur w' g 0 N r0 ∧ Only g W w' := cur_Byte_ok g 0 N 2 r0 W hcur (Nat.zero_le _) hN
  have hByte := hid0 hB
  clear hB
  have hV := fun w h => varint_Get g 0 N r0 w h (Nat.zero_le _) hN
  simp only [rrec]
  rw [if_neg (by decide)]
  rcases hv : rvar r0 with c | ⟨q, r1⟩
  · rw [hv] at hV
    have HV := hid0 hV
    clear hV hv
    simp only
    go_enter Tryz.func360, Tryz.ntmps360
    go_wp2_with (first
      | (go_at_call 361; go_loud ((with_reducible refine (hByte.out).mono ?_); rintro e w1 ⟨rfl, hc1, hb1⟩; have hr1 := hb1.blk hgr hne; have ho1 := (Only2.refl g gr W).only hb1; have k10 := (blk_cell hr1 0).trans rfl; have k1f := blk_frozen hr1 0; have hX1 := hc1.far hr1 (by decide) (Ne.symm hne) 0 (.bool false); have hR1 := blk_set hr1 0 (.bool false); have hO1 := ho1.setCell 0 (.bool false)))
      | (go_at_call 363; go_loud ((with_reducible refine (HV.out _ hX1).mono ?_); rintro e w2 ⟨⟨rfl, r2', hc2⟩, hb2⟩)))
    exact end_err c r2' rfl hc2 (hO1.only hb2) trivial
  · rw [hv] at hV
    have HV := hid0 hV
    clear hV hv
    simp only
    have hT := fun w h => varint_GetText g 0 N r1 1 4096 w h (Nat.zero_le _) hN (by decide) (by decide) (by decide) (by decide)
    rcases ht : rtext 1 4096 r1 with c | ⟨key, r2⟩
    · rw [ht] at hT
      have HT := hid0 hT
      clear hT ht
      simp only
      go_enter Tryz.func360, Tryz.ntmps360
      go_wp2_with (first
        | (go_at_call 361; go_loud ((with_reducible refine (hByte.out).mono ?_); rintro e w1 ⟨rfl, hc1, hb1⟩; have hr1 := hb1.blk hgr hne; have ho1 := (Only2.refl g gr W).only hb1; have k10 := (blk_cell hr1 0).trans rfl; have k1f := blk_frozen hr1 0; have hX1 := hc1.far hr1 (by decide) (Ne.symm hne) 0 (.bool false); have hR1 := blk_set hr1 0 (.bool false); have hO1 := ho1.setCell 0 (.bool false)))
        | (go_at_call 363; go_loud ((with_reducible refine (HV.out _ hX1).mono ?_); rintro e w2 ⟨⟨rfl, hc2⟩, hb2⟩; have hr2 := hb2.blk hR1 hne; have ho2 := hO1.only hb2; have k20 := (blk_cell hr2 1).trans rfl; have k2f := blk_frozen hr2 1; have hX2 := hc2.far hr2 (by decide) (Ne.symm hne) 1 (.int .u64 q); have hR2 := blk_set hr2 1 (.int .u64 q); have hO2 := ho2.setCell 1 (.int .u64 q)))
        | (go_at_call 364; go_loud ((with_reducible refine (HT.out _ hX2).mono ?_); rintro e w3 ⟨⟨rfl, r3', hc3⟩, hb3⟩)))
      exact end_err c r3' rfl hc3 (hO2.only hb3) trivial
    · rw [ht] at hT
      have HT := hid0 hT
      clear hT ht
      simp only
      rw [if_neg (by decide)]
      have hU := fun w h => varint_GetText g 0 N r2 0 1048576 w h (Nat.zero_le _) hN (by decide) (by decide) (by decide) (by decide)
      rcases hu : rtext 0 1048576 r2 with c | ⟨v, r3⟩
      · rw [hu] at hU
        have HU := hid0 hU
        clear hU hu
        simp only
        go_enter Tryz.func360, Tryz.ntmps360
        go_wp2_with (first
          | (go_at_call 361; go_loud ((with_reducible refine (hByte.out).mono ?_); rintro e w1 ⟨rfl, hc1, hb1⟩; have hr1 := hb1.blk hgr hne; have ho1 := (Only2.refl g gr W).only hb1; have k10 := (blk_cell hr1 0).trans rfl; have k1f := blk_frozen hr1 0; have hX1 := hc1.far hr1 (by decide) (Ne.symm hne) 0 (.bool false); have hR1 := blk_set hr1 0 (.bool false); have hO1 := ho1.setCell 0 (.bool false)))
          | (go_at_call 363; go_loud ((with_reducible refine (HV.out _ hX1).mono ?_); rintro e w2 ⟨⟨rfl, hc2⟩, hb2⟩; have hr2 := hb2.blk hR1 hne; have ho2 := hO1.only hb2; have k20 := (blk_cell hr2 1).trans rfl; have k2f := blk_frozen hr2 1; have hX2 := hc2.far hr2 (by decide) (Ne.symm hne) 1 (.int .u64 q); have hR2 := blk_set hr2 1 (.int .u64 q); have hO2 := ho2.setCell 1 (.int .u64 q)))
          | (go_at_call 364; go_loud ((with_reducible refine (HT.out _ hX2).mono ?_); rintro e w3 ⟨⟨rfl, hc3⟩, hb3⟩; have hr3 := hb3.blk hR2 hne; have ho3 := hO2.only hb3; have k30 := (blk_cell hr3 2).trans rfl; have k3f := blk_frozen hr3 2; have hX3 := hc3.far hr3 (by decide) (Ne.symm hne) 2 (S8 key); have hR3 := blk_set hr3 2 (S8 key); have hO3 := ho3.setCell 2 (S8 key); have k31 := (blk_cell hR3 0).trans rfl; simp only [S8] at hX3 hR3 hO3 k31; clear HT HV k10 k1f k20 k2f))
          | (go_at_call 364; go_loud ((with_reducible refine (HU.out _ hX3).mono ?_); rintro e w4 ⟨⟨rfl, r4', hc4⟩, hb4⟩)))
        exact end_err c r4' rfl hc4 (hO3.only hb4) trivial
      · rw [hu] at hU
        have HU := hid0 hU
        clear hU hu
        simp only
        by_cases hr0 : r3 = []
        · rw [if_pos hr0]
          subst hr0
          go_enter Tryz.func360, Tryz.ntmps360
          go_wp2_with (first
            | (go_at_call 361; go_loud ((with_reducible refine (hByte.out).mono ?_); rintro e w1 ⟨rfl, hc1, hb1⟩; have hr1 := hb1.blk hgr hne; have ho1 := (Only2.refl g gr W).only hb1; have k10 := (blk_cell hr1 0).trans rfl; have k1f := blk_frozen hr1 0; have hX1 := hc1.far hr1 (by decide) (Ne.symm hne) 0 (.bool false); have hR1 := blk_set hr1 0 (.bool false); have hO1 := ho1.setCell 0 (.bool false)))
            | (go_at_call 363; go_loud ((with_reducible refine (HV.out _ hX1).mono ?_); rintro e w2 ⟨⟨rfl, hc2⟩, hb2⟩; have hr2 := hb2.blk hR1 hne; have ho2 := hO1.only hb2; have k20 := (blk_cell hr2 1).trans rfl; have k2f := blk_frozen hr2 1; have hX2 := hc2.far hr2 (by decide) (Ne.symm hne) 1 (.int .u64 q); have hR2 := blk_set hr2 1 (.int .u64 q); have hO2 := ho2.setCell 1 (.int .u64 q)))
            | (go_at_call 364; go_loud ((with_reducible refine (HT.out _ hX2).mono ?_); rintro e w3 ⟨⟨rfl, hc3⟩, hb3⟩; have hr3 := hb3.blk hR2 hne; have ho3 := hO2.only hb3; have k30 := (blk_cell hr3 2).trans rfl; have k3f := blk_frozen hr3 2; have hX3 := hc3.far hr3 (by decide) (Ne.symm hne) 2 (S8 key); have hR3 := blk_set hr3 2 (S8 key); have hO3 := ho3.setCell 2 (S8 key); have k31 := (blk_cell hR3 0).trans rfl; simp only [S8] at hX3 hR3 hO3 k31; clear HT HV k10 k1f k20 k2f))
            | (go_at_call 364; go_loud ((with_reducible refine (HU.out _ hX3).mono ?_); rintro e w4 ⟨⟨rfl, hc4⟩, hb4⟩; have hr4 := hb4.blk hR3 hne; have ho4 := hO3.only hb4; have k40 := (blk_cell hr4 3).trans rfl; have k4f := blk_frozen hr4 3; have hX4 := hc4.far hr4 (by decide) (Ne.symm hne) 3 (S8 v); have hR4 := blk_set hr4 3 (S8 v); have hO4 := ho4.setCell 3 (S8 v); simp only [S8] at hX4 hR4 hO4; clear HU))
            | (go_at_call 365; go_loud ((with_reducible refine (cur_End_ok g 0 N _ hX4 hN).mono ?_); rintro e w5 ⟨rfl, hb5⟩)))
          go_end0
          exact ⟨rfl, ⟨[], hX4.below hb5⟩, hO4.below hb5, (blk_below hR4 hb5 (blk_lt hR4))⟩
        · rw [if_neg hr0]
          have hr0 : 0 < r3.length := by cases r3 <;> simp_all
          go_enter Tryz.func360, Tryz.ntmps360
          go_wp2_with (first
            | (go_at_call 361; go_loud ((with_reducible refine (hByte.out).mono ?_); rintro e w1 ⟨rfl, hc1, hb1⟩; have hr1 := hb1.blk hgr hne; have ho1 := (Only2.refl g gr W).only hb1; have k10 := (blk_cell hr1 0).trans rfl; have k1f := blk_frozen hr1 0; have hX1 := hc1.far hr1 (by decide) (Ne.symm hne) 0 (.bool false); have hR1 := blk_set hr1 0 (.bool false); have hO1 := ho1.setCell 0 (.bool false)))
            | (go_at_call 363; go_loud ((with_reducible refine (HV.out _ hX1).mono ?_); rintro e w2 ⟨⟨rfl, hc2⟩, hb2⟩; have hr2 := hb2.blk hR1 hne; have ho2 := hO1.only hb2; have k20 := (blk_cell hr2 1).trans rfl; have k2f := blk_frozen hr2 1; have hX2 := hc2.far hr2 (by decide) (Ne.symm hne) 1 (.int .u64 q); have hR2 := blk_set hr2 1 (.int .u64 q); have hO2 := ho2.setCell 1 (.int .u64 q)))
            | (go_at_call 364; go_loud ((with_reducible refine (HT.out _ hX2).mono ?_); rintro e w3 ⟨⟨rfl, hc3⟩, hb3⟩; have hr3 := hb3.blk hR2 hne; have ho3 := hO2.only hb3; have k30 := (blk_cell hr3 2).trans rfl; have k3f := blk_frozen hr3 2; have hX3 := hc3.far hr3 (by decide) (Ne.symm hne) 2 (S8 key); have hR3 := blk_set hr3 2 (S8 key); have hO3 := ho3.setCell 2 (S8 key); have k31 := (blk_cell hR3 0).trans rfl; simp only [S8] at hX3 hR3 hO3 k31; clear HT HV k10 k1f k20 k2f))
            | (go_at_call 364; go_loud ((with_reducible refine (HU.out _ hX3).mono ?_); rintro e w4 ⟨⟨rfl, hc4⟩, hb4⟩; have hr4 := hb4.blk hR3 hne; have ho4 := hO3.only hb4; have k40 := (blk_cell hr4 3).trans rfl; have k4f := blk_frozen hr4 3; have hX4 := hc4.far hr4 (by decide) (Ne.symm hne) 3 (S8 v); have hR4 := blk_set hr4 3 (S8 v); have hO4 := ho4.setCell 3 (S8 v); simp only [S8] at hX4 hR4 hO4; clear HU))
            | (go_at_call 365; go_loud ((with_reducible refine (cur_End_err g 0 N _ _ hX4 hN ?_).mono ?_); exact hr0; rintro e w5 ⟨rfl, hb5⟩)))
          exact end_err 3 _ rfl (hX4.below hb5) (hO4.below hb5) trivial
set_option maxRecDepth 100000 in
set_option maxHeartbeats 4000000 in
theorem record_Read3 (g gr N : Nat) (r0 : List UInt8) (W : World) (hcur : IsCur W g 0 N (3 :: r0)) (hN : N ≤ maxB) (hgr : W.heap[gr]? = some (.cells #[.bool false, .int .u64 0, .string ⟨#[]⟩, .string ⟨#[]⟩] 28 (0, 0))) (hne : gr ≠ g) :
    Calls Tryz.prog 360 #[.pointer (some ⟨g, 0, none⟩), .pointer (some ⟨gr, 0, none⟩)] W fun e w' => e = resEnd g (errOf (rrec (3 :: r0))) ∧ (∃ r', IsCur w' g 0 N r') ∧ Only2 g gr W w' ∧ RecAt gr (rrec (3 :: r0)) w' := by
  have hB : Calls Tryz.prog 361 #[.pointer (some ⟨g, 0, none⟩)] W fun e w' => e = .returned (.int .u8 3) ∧ IsCur w' g 0 N r0 ∧ Only g W w' := cur_Byte_ok g 0 N 3 r0 W hcur (Nat.zero_le _) hN
  have hByte := hid0 hB
  clear hB
  have hV := fun w h => varint_Get g 0 N r0 w h (Nat.zero_le _) hN
  simp only [rrec]
  rw [if_neg (by decide)]
  rcases hv : rvar r0 with c | ⟨q, r1⟩
  · rw [hv] at hV
    have HV := hid0 hV
    clear hV hv
    simp only
    go_enter Tryz.func360, Tryz.ntmps360
    go_wp2_with (first
      | (go_at_call 361; go_loud ((with_reducible refine (hByte.out).mono ?_); rintro e w1 ⟨rfl, hc1, hb1⟩; have hr1 := hb1.blk hgr hne; have ho1 := (Only2.refl g gr W).only hb1; have k10 := (blk_cell hr1 0).trans rfl; have k1f := blk_frozen hr1 0; have hX1 := hc1.far hr1 (by decide) (Ne.symm hne) 0 (.bool true); have hR1 := blk_set hr1 0 (.bool true); have hO1 := ho1.setCell 0 (.bool true)))
      | (go_at_call 363; go_loud ((with_reducible refine (HV.out _ hX1).mono ?_); rintro e w2 ⟨⟨rfl, r2', hc2⟩, hb2⟩)))
    exact end_err c r2' rfl hc2 (hO1.only hb2) trivial
  · rw [hv] at hV
    have HV := hid0 hV
    clear hV hv
    simp only
    have hT := fun w h => varint_GetText g 0 N r1 1 4096 w h (Nat.zero_le _) hN (by decide) (by decide) (by decide) (by decide)
    rcases ht : rtext 1 4096 r1 with c | ⟨key, r2⟩
    · rw [ht] at hT
      have HT := hid0 hT
      clear hT ht
      simp only
      go_enter Tryz.func360, Tryz.ntmps360
      go_wp2_with (first
        | (go_at_call 361; go_loud ((with_reducible refine (hByte.out).mono ?_); rintro e w1 ⟨rfl, hc1, hb1⟩; have hr1 := hb1.blk hgr hne; have ho1 := (Only2.refl g gr W).only hb1; have k10 := (blk_cell hr1 0).trans rfl; have k1f := blk_frozen hr1 0; have hX1 := hc1.far hr1 (by decide) (Ne.symm hne) 0 (.bool true); have hR1 := blk_set hr1 0 (.bool true); have hO1 := ho1.setCell 0 (.bool true)))
        | (go_at_call 363; go_loud ((with_reducible refine (HV.out _ hX1).mono ?_); rintro e w2 ⟨⟨rfl, hc2⟩, hb2⟩; have hr2 := hb2.blk hR1 hne; have ho2 := hO1.only hb2; have k20 := (blk_cell hr2 1).trans rfl; have k2f := blk_frozen hr2 1; have hX2 := hc2.far hr2 (by decide) (Ne.symm hne) 1 (.int .u64 q); have hR2 := blk_set hr2 1 (.int .u64 q); have hO2 := ho2.setCell 1 (.int .u64 q)))
        | (go_at_call 364; go_loud ((with_reducible refine (HT.out _ hX2).mono ?_); rintro e w3 ⟨⟨rfl, r3', hc3⟩, hb3⟩)))
      exact end_err c r3' rfl hc3 (hO2.only hb3) trivial
    · rw [ht] at hT
      have HT := hid0 hT
      clear hT ht
      simp only
      rw [if_pos (by decide)]
      simp only
      by_cases hr0 : r2 = []
      · rw [if_pos hr0]
        subst hr0
        go_enter Tryz.func360, Tryz.ntmps360
        go_wp2_with (first
          | (go_at_call 361; go_loud ((with_reducible refine (hByte.out).mono ?_); rintro e w1 ⟨rfl, hc1, hb1⟩; have hr1 := hb1.blk hgr hne; have ho1 := (Only2.refl g gr W).only hb1; have k10 := (blk_cell hr1 0).trans rfl; have k1f := blk_frozen hr1 0; have hX1 := hc1.far hr1 (by decide) (Ne.symm hne) 0 (.bool true); have hR1 := blk_set hr1 0 (.bool true); have hO1 := ho1.setCell 0 (.bool true)))
          | (go_at_call 363; go_loud ((with_reducible refine (HV.out _ hX1).mono ?_); rintro e w2 ⟨⟨rfl, hc2⟩, hb2⟩; have hr2 := hb2.blk hR1 hne; have ho2 := hO1.only hb2; have k20 := (blk_cell hr2 1).trans rfl; have k2f := blk_frozen hr2 1; have hX2 := hc2.far hr2 (by decide) (Ne.symm hne) 1 (.int .u64 q); have hR2 := blk_set hr2 1 (.int .u64 q); have hO2 := ho2.setCell 1 (.int .u64 q)))
          | (go_at_call 364; go_loud ((with_reducible refine (HT.out _ hX2).mono ?_); rintro e w3 ⟨⟨rfl, hc3⟩, hb3⟩; have hr3 := hb3.blk hR2 hne; have ho3 := hO2.only hb3; have k30 := (blk_cell hr3 2).trans rfl; have k3f := blk_frozen hr3 2; have hX3 := hc3.far hr3 (by decide) (Ne.symm hne) 2 (S8 key); have hR3 := blk_set hr3 2 (S8 key); have hO3 := ho3.setCell 2 (S8 key); have k31 := (blk_cell hR3 0).trans rfl; simp only [S8] at hX3 hR3 hO3 k31; clear HT HV k10 k1f k20 k2f))
          | (go_at_call 365; go_loud ((with_reducible refine (cur_End_ok g 0 N _ hX3 hN).mono ?_); rintro e w5 ⟨rfl, hb5⟩)))
        go_end0
        exact ⟨rfl, ⟨[], hX3.below hb5⟩, hO3.below hb5, (blk_below hR3 hb5 (blk_lt hR3))⟩
      · rw [if_neg hr0]
        have hr0 : 0 < r2.length := by cases r2 <;> simp_all
        go_enter Tryz.func360, Tryz.ntmps360
        go_wp2_with (first
          | (go_at_call 361; go_loud ((with_reducible refine (hByte.out).mono ?_); rintro e w1 ⟨rfl, hc1, hb1⟩; have hr1 := hb1.blk hgr hne; have ho1 := (Only2.refl g gr W).only hb1; have k10 := (blk_cell hr1 0).trans rfl; have k1f := blk_frozen hr1 0; have hX1 := hc1.far hr1 (by decide) (Ne.symm hne) 0 (.bool true); have hR1 := blk_set hr1 0 (.bool true); have hO1 := ho1.setCell 0 (.bool true)))
          | (go_at_call 363; go_loud ((with_reducible refine (HV.out _ hX1).mono ?_); rintro e w2 ⟨⟨rfl, hc2⟩, hb2⟩; have hr2 := hb2.blk hR1 hne; have ho2 := hO1.only hb2; have k20 := (blk_cell hr2 1).trans rfl; have k2f := blk_frozen hr2 1; have hX2 := hc2.far hr2 (by decide) (Ne.symm hne) 1 (.int .u64 q); have hR2 := blk_set hr2 1 (.int .u64 q); have hO2 := ho2.setCell 1 (.int .u64 q)))
          | (go_at_call 364; go_loud ((with_reducible refine (HT.out _ hX2).mono ?_); rintro e w3 ⟨⟨rfl, hc3⟩, hb3⟩; have hr3 := hb3.blk hR2 hne; have ho3 := hO2.only hb3; have k30 := (blk_cell hr3 2).trans rfl; have k3f := blk_frozen hr3 2; have hX3 := hc3.far hr3 (by decide) (Ne.symm hne) 2 (S8 key); have hR3 := blk_set hr3 2 (S8 key); have hO3 := ho3.setCell 2 (S8 key); have k31 := (blk_cell hR3 0).trans rfl; simp only [S8] at hX3 hR3 hO3 k31; clear HT HV k10 k1f k20 k2f))
          | (go_at_call 365; go_loud ((with_reducible refine (cur_End_err g 0 N _ _ hX3 hN ?_).mono ?_); exact hr0; rintro e w5 ⟨rfl, hb5⟩)))
        exact end_err 3 _ rfl (hX3.below hb5) (hO3.below hb5) trivial
set_option maxRecDepth 100000 in
set_option maxHeartbeats 2000000 in
theorem record_Read1 (g gr N : Nat) (b : List UInt8) (W : World) (hcur : IsCur W g 0 N b) (hN : N ≤ maxB) (hgr : W.heap[gr]? = some (.cells #[.bool false, .int .u64 0, .string ⟨#[]⟩, .string ⟨#[]⟩] 28 (0, 0))) (hne : gr ≠ g) :
    Calls Tryz.prog 360 #[.pointer (some ⟨g, 0, none⟩), .pointer (some ⟨gr, 0, none⟩)] W fun e w' => e = resEnd g (errOf (rrec b)) ∧ (∃ r', IsCur w' g 0 N r') ∧ Only2 g gr W w' ∧ RecAt gr (rrec b) w' := by
  cases b with
  | nil =>
    go_enter Tryz.func360, Tryz.ntmps360
    go_wp2_with (go_at_call 361; go_loud ((with_reducible refine (cur_Byte_err g 0 N W hcur hN).mono ?_); rintro e w1 ⟨rfl, hb1⟩))
    exact end_err 2 [] rfl (hcur.below hb1) ((Only2.refl _ _ _).below hb1) trivial
  | cons kb r0 =>
    by_cases hk : kb ≠ 2 ∧ kb ≠ 3
    · have hm : rrec (kb :: r0) = .error 4 := by rw [rrec, if_pos hk]
      rw [hm]
      obtain ⟨hk2, hk3⟩ := hk
      have hk2' : ((kb.toNat : Int) != 2) = true := by
        have : kb.toNat ≠ 2 := fun h => hk2 (UInt8.toNat.inj h)
        simp; omega
      have hk3' : ((kb.toNat : Int) != 3) = true := by
        have : kb.toNat ≠ 3 := fun h => hk3 (UInt8.toNat.inj h)
        simp; omega
      go_enter Tryz.func360, Tryz.ntmps360
      go_wp2_with (first
        | (go_at_call 361; go_loud ((with_reducible refine (cur_Byte_ok g 0 N kb r0 W hcur (Nat.zero_le _) hN).mono ?_); rintro e w1 ⟨rfl, hc1, hb1⟩))
        | (go_at_call 362; go_loud ((with_reducible refine (cur_Fail g 0 N r0 4 w1 hc1 (by decide)).mono ?_); rintro e w2 ⟨rfl, rfl⟩)))
      exact end_err 4 r0 rfl hc1 ((Only2.refl _ _ _).only hb1) trivial
    · have hkk : kb = 2 ∨ kb = 3 := by
        by_cases h2 : kb = 2
        · exact .inl h2
        · exact .inr (Classical.byContradiction fun h => hk ⟨h2, h⟩)
      rcases hkk with rfl | rfl
      · exact record_Read2 g gr N r0 W hcur hN hgr hne
      · exact record_Read3 g gr N r0 W hcur hN hgr hne
end Go.Proofs.YtkpacfcklpoanaaGreat
