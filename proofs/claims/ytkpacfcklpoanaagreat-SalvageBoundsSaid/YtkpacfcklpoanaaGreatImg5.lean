/- Plain: how long heads are; what goes into which segment. -/
import Derived.Test.YtkpacfcklpoanaaGreatImg4
import Derived.Test.YtkpacfcklpoanaaGreatChunk
set_option linter.unusedVariables false
set_option linter.unusedSimpArgs false
namespace Go.Proofs.YtkpacfcklpoanaaGreat
open Go.RowKit
theorem stuff_short (n : Nat) : ∀ b : List UInt8, b.length ≤ n → b.length < 254 → (stuff b).length = b.length + 1 := by
  induction n with
  | zero =>
    intro b h _
    obtain rfl : b = [] := by cases b <;> simp_all
    rw [stuff]; simp [tw]
  | succ n ih =>
    intro b h hl
    rw [stuff]
    split
    · rename_i hc
      have := ih (b.drop (tw b + 1)) (by simp; omega) (by simp; omega)
      simp at this ⊢
      omega
    · rw [if_neg (by omega)]; simp
theorem vnum_mono (f : Nat) : ∀ x y : Int, 0 ≤ x → x ≤ y → (vnum f x).length ≤ (vnum f y).length := by
  induction f with
  | zero => intro x y _ _; simp [vnum]
  | succ f ih =>
    intro x y h0 h
    rw [vnum, vnum]
    split
    · split <;> simp
    · rw [if_neg (by omega)]
      have := ih (x / 128) (y / 128) (by omega) (by omega)
      simp; omega
def hlen (ex sg nr : Nat) : Nat := (head ex sg nr).length
theorem hlen_eq (ex sg nr : Nat) : hlen ex sg nr = 13 + (varint sg).length + (varint nr).length := by
  have hl := headB_length ex sg nr
  unfold hlen head sealf
  rw [List.length_append, stuff_short _ _ (Nat.le_refl _) (by simp [le_length]; omega)]
  simp [headB, le_length]
  omega
theorem hlen_mono (ex sg a b : Nat) (h : a ≤ b) : hlen ex sg a ≤ hlen ex sg b := by
  rw [hlen_eq, hlen_eq]
  have := vnum_mono 9 (a : Int) (b : Int) (by omega) (by omega)
  unfold varint
  omega
theorem hlen_le (ex sg nr : Nat) : hlen ex sg nr ≤ 33 := by
  rw [hlen_eq]
  have h1 := varint_le sg
  have h2 := varint_le nr
  omega
theorem roomFits_mono {ex sg u v c n : Nat} (h : u ≤ v) (hf : roomFits ex sg v c n = true) : roomFits ex sg u c n = true := by
  unfold roomFits roomLeft at *
  simp at *
  omega
/-- Into which segments frames of these sizes go, from a room on; the error. -/
def planGo (ex sg : Nat) : Nat → Nat → Nat → List Nat → Except Int (List Nat)
  | _, _, _, [] => .ok []
  | nr, used, cnt, n :: ns =>
    if roomFits ex sg (hlen ex sg (sg - 1)) 0 n = false then .error 6
    else if roomFits ex sg used cnt n = true then
      match planGo ex sg nr (used + n) (cnt + 1) ns with
      | .ok l => .ok (nr :: l)
      | .error e => .error e
    else if sg ≤ nr + 1 then .error 7
    else
      match planGo ex sg (nr + 1) (hlen ex sg (nr + 1) + n) 1 ns with
      | .ok l => .ok ((nr + 1) :: l)
      | .error e => .error e
def exPre (xs : List Nat) : Except Int (List Nat) → Except Int (List Nat)
  | .ok l => .ok (xs ++ l)
  | .error e => .error e
theorem planGo_last {ex sg nr used cnt n : Nat} {ns : List Nat} (xs : List Nat) (h : roomFits ex sg (hlen ex sg (sg - 1)) 0 n = false) : exPre xs (planGo ex sg nr used cnt (n :: ns)) = .error 6 := by
  rw [planGo, if_pos h]; rfl
theorem planGo_fits {ex sg nr used cnt n : Nat} {ns : List Nat} (xs : List Nat) (h : roomFits ex sg (hlen ex sg (sg - 1)) 0 n = true) (h2 : roomFits ex sg used cnt n = true) :
    exPre xs (planGo ex sg nr used cnt (n :: ns)) = exPre (xs ++ [nr]) (planGo ex sg nr (used + n) (cnt + 1) ns) := by
  rw [planGo, if_neg (by simp [h]), if_pos h2]
  cases planGo ex sg nr (used + n) (cnt + 1) ns <;> simp [exPre]
theorem planGo_full {ex sg nr used cnt n : Nat} {ns : List Nat} (xs : List Nat) (h : roomFits ex sg (hlen ex sg (sg - 1)) 0 n = true) (h2 : roomFits ex sg used cnt n = false) (h3 : sg ≤ nr + 1) :
    exPre xs (planGo ex sg nr used cnt (n :: ns)) = .error 7 := by
  rw [planGo, if_neg (by simp [h]), if_neg (by simp [h2]), if_pos h3]; rfl
theorem planGo_next {ex sg nr used cnt n : Nat} {ns : List Nat} (xs : List Nat) (h : roomFits ex sg (hlen ex sg (sg - 1)) 0 n = true) (h2 : roomFits ex sg used cnt n = false) (h3 : nr + 1 < sg) :
    exPre xs (planGo ex sg nr used cnt (n :: ns)) = exPre (xs ++ [nr + 1]) (planGo ex sg (nr + 1) (hlen ex sg (nr + 1) + n) 1 ns) := by
  rw [planGo, if_neg (by simp [h]), if_neg (by simp [h2]), if_neg (by omega)]
  cases planGo ex sg (nr + 1) (hlen ex sg (nr + 1) + n) 1 ns <;> simp [exPre]
def encN (n : Nat) : List Value := [.int .i64 n]
def encU (n : Nat) : List Value := [.int .u32 n]
theorem rowN : Row 210 3 1 8 encN := row_of Tryz.underlying210 (by kernel_rfl) (by decide) (fun _ => rfl) (fun a u hu => by simp [encN] at hu; subst hu; rfl)
theorem rowU : Row 115 52 1 4 encU := row_of Tryz.underlying115 (by kernel_rfl) (by decide) (fun _ => rfl) (fun a u hu => by simp [encU] at hu; subst hu; rfl)
theorem encN_at (xs : List Nat) (k : Nat) (h : k < xs.length) : (rowOf encN xs)[k]? = some (.int .i64 (xs[k] : Nat)) := by
  have := rowOf_at (enc := encN) (size := 1) (fun _ => rfl) xs k 0 (by decide) xs[k] (List.getElem?_eq_getElem h)
  simpa [encN] using this
theorem RV.at_ {α : Type} {enc : α → List Value} (w : World) (x : α) (t : TypeId) (cs : Array Value) (h : cs.toList = enc x) (g : Nat) (hg : w.heap.size = g) : RV enc (w.alloc (.cells cs t)) (some ⟨g, 0, none⟩) [x] := by
  subst hg
  exact RV.one w x t cs h
/-- What comes of a planning. -/
def PlanPost (base : Nat) (m : Except Int (List Nat)) (e : Ending) (w' : World) : Prop :=
  match m with
  | .ok l => ∃ A c, e = .returned (.tuple #[.slice A l.length c, .int .i64 0]) ∧ OV encU w' base 52 1 (.slice A l.length c) l
  | .error ec => e = .returned (.tuple #[.slice none 0 0, .int .i64 ec])
set_option maxRecDepth 100000 in
set_option maxHeartbeats 1000000 in
theorem pack_Plan (ex sg : Nat) (A : Option Addr) (cp N : Nat) (ns : List Nat) (w : World) (hcf : cfgErr ex sg = 0) (hr : RV encN w A ns) (hN : ns.length = N) (hNl : N ≤ 100000) :
    Calls Tryz.prog 209 #[.agg #[.int .u8 ex, .int .u32 sg], .slice A N cp] w fun e w' => PlanPost w.heap.size (planGo ex sg 0 (hlen ex sg 0) 0 ns) e w' ∧ Below w.heap.size w w' := by
  have hok := cfgErr_ok hcf
  have hr0 := hr.rvd
  have hh0 : headErr ex sg 0 = 0 := by unfold headErr; rw [if_neg (by omega)]
  have hh1 : headErr ex sg (sg - 1) = 0 := by unfold headErr; rw [if_neg (by omega)]
  have E0 : ∀ W, Calls Tryz.prog 127 #[.agg #[.int .u8 ex, .int .u32 sg], .int .u32 0] W _ := fun W => pack_Empty ex sg 0 W (by omega) (by omega) (by omega) hh0
  have E1 := fun W => pack_Empty ex sg (sg - 1) W (by omega) (by omega) (by omega) hh1
  rw [show ((sg - 1 : Nat) : Int) = (sg : Int) - 1 from by omega] at E1
  have l0 := hlen_le ex sg 0
  have l1 := hlen_le ex sg (sg - 1)
  have F1 : ∀ (n : Nat) W, Calls Tryz.prog 224 #[.agg #[.int .u8 ex, .int .u32 sg, .int .u32 ((sg - 1 : Nat) : Int), .int .i64 (hlen ex sg (sg - 1)), .int .i64 0], .int .i64 n] W _ := fun n W => pack_Fits ex sg (sg - 1) (hlen ex sg (sg - 1)) 0 n W (by omega) (by omega) (by omega) (by omega)
  rw [show ((sg - 1 : Nat) : Int) = (sg : Int) - 1 from by omega] at F1
  have E0' := hid0 E0
  have E1' := hid0 E1
  have F1' := hid0 F1
  clear E0 E1 F1
  have hP0 : planGo ex sg 0 (hlen ex sg 0) 0 ns = exPre [] (planGo ex sg 0 (hlen ex sg 0) 0 (ns.drop 0)) := by
    rw [List.drop_zero]; cases planGo ex sg 0 (hlen ex sg 0) 0 ns <;> rfl
  have HP0 := hid0 hP0
  clear hP0
  show Calls Tryz.prog 209 _ w fun e w' => PlanPost w.heap.size (planGo ex sg 0 (hlen ex sg 0) 0 ns) e w' ∧ Below w.heap.size w w'
  generalize hpl : planGo ex sg 0 (hlen ex sg 0) 0 ns = res at *
  clear hpl
  change Hid (∀ W, Calls Tryz.prog 127 _ W fun e w' => e = .returned (.tuple #[.agg #[.int .u8 ex, .int .u32 sg, .int .u32 0, .int .i64 (hlen ex sg 0), .int .i64 0], .int .i64 0]) ∧ Below W.heap.size W w') at E0'
  change Hid (∀ W, Calls Tryz.prog 127 _ W fun e w' => e = .returned (.tuple #[.agg #[.int .u8 ex, .int .u32 sg, .int .u32 ((sg : Int) - 1), .int .i64 (hlen ex sg (sg - 1)), .int .i64 0], .int .i64 0]) ∧ Below W.heap.size W w') at E1'
  go_enter Tryz.func209, Tryz.ntmps209
  go_wp2_with (first
    | (go_at_call 127; go_loud ((with_reducible refine (E0'.out _).mono ?_); rintro e w1 ⟨rfl, hb1⟩; have c54 := blk_below (heap_new w _) hb1 (by simp); obtain ⟨p0, p1⟩ := c2 (blk_alloc c54 (.cells #[.int .u8 ex, .int .u32 sg, .int .u32 0, .int .i64 (hlen ex sg 0), .int .i64 0] 221)); have hb0w := ((Below.refl w.heap.size w).alloc (Nat.le_refl _) (.cells #[.int .u8 ex, .int .u32 sg] 54)); have hbw1 := hb0w.trans (hb1.mono hb0w.size)))
    | (go_at_call 127; go_loud ((with_reducible refine (E1'.out _).mono ?_); rintro e w2 ⟨rfl, hb2⟩)))
  have hb2w : Below w.heap.size w w2 := (hbw1.alloc hbw1.size _).trans (hb2.mono (hbw1.alloc hbw1.size _).size)
  have s1 := hbw1.size
  have s2 := hb2.size
  have hl1 := blk_lt c54
  obtain ⟨g2, hg2⟩ : ∃ g, g = w.heap.size := ⟨_, rfl⟩
  obtain ⟨g6, hg6⟩ : ∃ g, g = w1.heap.size := ⟨_, rfl⟩
  obtain ⟨g8, hg8⟩ : ∃ g, g = w2.heap.size := ⟨_, rfl⟩
  have s3 : g2 < g6 := by rw [hg2, hg6]; exact hl1
  have s4 : g6 < g8 := by rw [hg6, hg8]; simp at s2; omega
  have B2 := blk_alloc (blk_below (blk_alloc c54 _) hb2 (by simp; omega)) (.cells #[.int .u8 ex, .int .u32 sg, .int .u32 ((sg : Int) - 1), .int .i64 (hlen ex sg (sg - 1)), .int .i64 0] 221)
  have B6 := blk_alloc (blk_below (heap_new w1 _) hb2 (by simp)) (.cells #[.int .u8 ex, .int .u32 sg, .int .u32 ((sg : Int) - 1), .int .i64 (hlen ex sg (sg - 1)), .int .i64 0] 221)
  have B8 := heap_new w2 (.cells #[.int .u8 ex, .int .u32 sg, .int .u32 ((sg : Int) - 1), .int .i64 (hlen ex sg (sg - 1)), .int .i64 0] 221)
  have hbW := hb2w.alloc hb2w.size (.cells #[.int .u8 ex, .int .u32 sg, .int .u32 ((sg : Int) - 1), .int .i64 (hlen ex sg (sg - 1)), .int .i64 0] 221)
  rw [← hg2] at B2
  rw [← hg6] at B6
  rw [← hg8] at B8
  rw [← hg2, ← hg6, ← hg8]
  rw [← hg2] at hr0 hbW
  clear p0 p1 c54
  have HG2 := hid0 hg2
  have s6 : g6 < w2.heap.size := by omega
  clear hg2 hg6 hg8 hl1
  go_loopw [7, 10, 12, 31] (fun e o _ i wr => ∃ (k nr used cnt : Nat) (xs : List Nat) (A2 : Option Addr) (c2 : Nat), k ≤ N ∧ i = .int .i64 k ∧ e = .int .i64 0 ∧ o = .slice A2 xs.length c2 ∧ OV encU wr g2 52 1 (.slice A2 xs.length c2) xs ∧
     wr.heap[g2]? = some (.cells #[.int .u8 ex, .int .u32 sg] 54 (0, 0)) ∧ wr.heap[g6]? = some (.cells #[.int .u8 ex, .int .u32 sg, .int .u32 nr, .int .i64 used, .int .i64 cnt] 221 (0, 0)) ∧
     wr.heap[g8]? = some (.cells #[.int .u8 ex, .int .u32 sg, .int .u32 ((sg : Int) - 1), .int .i64 (hlen ex sg (sg - 1)), .int .i64 0] 221 (0, 0)) ∧ nr < sg ∧ used ≤ 16777216 ∧ cnt ≤ k ∧ xs.length ≤ k ∧
     Hid (res = exPre xs (planGo ex sg nr used cnt (ns.drop k))) ∧ Below g2 w wr) (fun _ _ _ i _ => N - (intOf i).toNat)
  case atStart => exact ⟨0, 0, hlen ex sg 0, 0, [], none, 0, by omega, rfl, rfl, rfl, OV.nil _ _ _ _, B2, B6, B8, by omega, by omega, by omega, by simp, HP0, hbW⟩
  case round =>
    obtain ⟨k, nr, used, cnt, xs, A2, cc2, hk, rfl, rfl, rfl, hov, b2, b6, b8, hnr, hus, hcn, hxl, hres, hbl⟩ := hrel
    by_cases hlt : k < N
    · obtain ⟨a, rfl, hal, hcell⟩ := (hr0.below hbl) (by rw [rowOf_length (size := 1) (fun _ => rfl)]; omega)
      have hkn : k < ns.length := by omega
      have hck := hcell k _ (encN_at ns k hkn)
      have hdk : ns.drop k = ns[k] :: ns.drop (k + 1) := List.drop_eq_getElem_cons hkn
      have hres := hres.out
      rw [hdk] at hres
      generalize ns[k] = n at *
      clear hdk hcell
      have hgw := blk_lt b2
      obtain ⟨x0, x1⟩ := c2 b2
      obtain ⟨y0, y1, y2, y3, y4⟩ := c5 b6
      obtain ⟨z0, z1, z2, z3, z4⟩ := c5 b8
      have L1 := F1'.out n
      cases f1 : roomFits ex sg (hlen ex sg (sg - 1)) 0 n with
      | false =>
        rw [f1] at L1
        rw [planGo_last xs f1] at hres
        have HRES := hid0 hres
        have HL1 := hid0 L1
        clear L1 hres F1' E0' E1' HP0 f1
        go_wp2_with (go_at_call 224; go_loud ((with_reducible refine (HL1.out _).mono ?_); rintro e w3 ⟨rfl, hb3⟩))
        go_ret2
        rw [HRES.out, ← HG2.out]
        exact ⟨rfl, hbl.trans (hb3.mono (Nat.le_of_lt hgw))⟩
      | true =>
        rw [f1] at L1
        have HL1 := hid0 L1
        have L2 := fun W => pack_Fits ex sg nr used cnt n W (by omega) (by omega) (by omega) (by omega)
        clear L1 F1'
        cases f2 : roomFits ex sg used cnt n with
        | true =>
          rw [f2] at L2
          rw [planGo_fits xs f1 f2] at hres
          have T2 := fun W => pack_Take ex sg nr used cnt n W (by omega) (by omega) (by omega) (by omega) f2
          have hle := roomFits_le f2
          have HRES := hid0 hres
          have HL2 := hid0 L2
          have HT2 := hid0 T2
          clear L2 T2 hres E0' E1' HP0 f1 f2
          go_wp2_with (first
            | (go_at_call 224; go_loud ((with_reducible refine (HL1.out _).mono ?_); rintro e w3 ⟨rfl, hb3⟩; have d6 := blk_below b6 hb3 (blk_lt b6); obtain ⟨u0, u1, u2, u3, u4⟩ := c5 d6))
            | (go_at_call 224; go_loud ((with_reducible refine (HL2.out _).mono ?_); rintro e w4 ⟨rfl, hb4⟩; have e6 := blk_below d6 hb4 (blk_lt d6); obtain ⟨v0, v1, v2, v3, v4⟩ := c5 e6))
            | (go_at_call 217; go_loud ((with_reducible refine (HT2.out _).mono ?_); rintro e w5 ⟨rfl, hb5⟩; have f6 := blk_below e6 hb5 (blk_lt e6); obtain ⟨t0, t1, t2, t3, t4⟩ := c5 f6; have tf := blk_frozen f6; have hb35 : Below wr.heap.size wr w5 := (hb3.trans (hb4.mono hb3.size)).trans (hb5.mono (Nat.le_trans hb3.size hb4.size)); have ov5 := own_keep hov hb35; have hne6 := Ne.symm (own_ne f6 ov5 (by decide)); have hz5 := hb35.size))
            | (at_builtin; go_loud (refine append_v rowU rfl _ _ rfl g2 (.slice A2 xs.length cc2) xs rfl ?_ (some ⟨w5.heap.size, 0, none⟩) 1 1 [nr] rfl rfl ?_ ?_ ?_ ?_; exact OV.alloc (ofar5 ov5 hne6 _ _ _ _ _) _; exact RV.at_ _ nr 52 _ rfl _ (by simp); (simp; omega); (simp; omega); intro A4 c4 x4 w6 HX4 ho4 ho4' hg4)))
          have b2' := blk_grown (blk_alloc (far5 (blk_below b2 hb35 (blk_lt b2)) (by omega) _ _ _ _ _) _) hg4 (own_ne b2 hov (by decide))
          have b6' := blk_grown (blk_alloc (set5 f6 _ _ _ _ _) _) hg4 (own_ne f6 ov5 (by decide))
          have b8' := blk_grown (blk_alloc (far5 (blk_below b8 hb35 (blk_lt b8)) (by omega) _ _ _ _ _) _) hg4 (own_ne b8 hov (by decide))
          have hB := ((bset5 (hbl.trans (hb35.mono (Nat.le_of_lt hgw))) (Nat.le_of_lt s3) _ _ _ _ _).alloc (by simp; omega) _).grown hg4 (by simp; omega) (own_base hov)
          go_roundw
          case rel => exact ⟨k + 1, nr, used + n, cnt + 1, x4, A4, c4, by omega, by go_num, rfl, rfl, ho4, b2', b6', b8', hnr, by omega, by omega, by rw [HX4.out]; simp; omega, hid0 (by rw [HX4.out]; exact HRES.out), hB⟩
          case measure => simp [intOf]; omega
        | false =>
          rw [f2] at L2
          have HL2 := hid0 L2
          clear L2
          by_cases hs7 : sg ≤ nr + 1
          · rw [planGo_full xs f1 f2 hs7] at hres
            have hhe : headErr ex sg (nr + 1) = 1 := by unfold headErr; rw [if_pos (Or.inr hs7)]
            have EE := fun W => pack_Empty_err ex sg (nr + 1) W (by omega) (by omega) (by omega) (by rw [hhe]; decide)
            rw [hhe, show ((nr + 1 : Nat) : Int) = (nr : Int) + 1 from by omega] at EE
            have HEE := hid0 EE
            have HRES := hid0 hres
            clear EE hhe hres E0' E1' HP0 f1 f2
            go_wp2_with (first
            | (go_at_call 224; go_loud ((with_reducible refine (HL1.out _).mono ?_); rintro e w3 ⟨rfl, hb3⟩; have d6 := blk_below b6 hb3 (blk_lt b6); obtain ⟨u0, u1, u2, u3, u4⟩ := c5 d6))
            | (go_at_call 224; go_loud ((with_reducible refine (HL2.out _).mono ?_); rintro e w4 ⟨rfl, hb4⟩; have e6 := blk_below d6 hb4 (blk_lt d6); obtain ⟨v0, v1, v2, v3, v4⟩ := c5 e6; have hb34 := hb3.trans (hb4.mono hb3.size); have e2 := blk_below b2 hb34 (blk_lt b2); obtain ⟨q0, q1⟩ := c2 e2))
              | (go_at_call 127; go_loud ((with_reducible refine (HEE.out _).mono ?_); rintro e w5 ⟨rfl, hb5⟩; have f6 := blk_below e6 hb5 (blk_lt e6); obtain ⟨t0, t1, t2, t3, t4⟩ := c5 f6; have tf := blk_frozen f6; have hb35 : Below wr.heap.size wr w5 := hb34.trans (hb5.mono hb34.size))))
            go_ret2
            rw [HRES.out, ← HG2.out]
            exact ⟨rfl, bset5 (hbl.trans (hb35.mono (Nat.le_of_lt hgw))) (Nat.le_of_lt s3) _ _ _ _ _⟩
          · rw [planGo_next xs f1 f2 (by omega)] at hres
            have hhe : headErr ex sg (nr + 1) = 0 := by unfold headErr; rw [if_neg (by omega)]
            have f3 := roomFits_mono (hlen_mono ex sg (nr + 1) (sg - 1) (by omega)) f1
            have hle := roomFits_le f3
            have EE : ∀ W, Calls Tryz.prog 127 #[.agg #[.int .u8 ex, .int .u32 sg], .int .u32 ((nr : Int) + 1)] W fun e w' => e = .returned (.tuple #[.agg #[.int .u8 ex, .int .u32 sg, .int .u32 ((nr : Int) + 1), .int .i64 (hlen ex sg (nr + 1)), .int .i64 0], .int .i64 0]) ∧ Below W.heap.size W w' := fun W => pack_Empty ex sg (nr + 1) W (by omega) (by omega) (by omega) hhe
            have T3 : ∀ W, Calls Tryz.prog 217 #[.agg #[.int .u8 ex, .int .u32 sg, .int .u32 ((nr : Int) + 1), .int .i64 (hlen ex sg (nr + 1)), .int .i64 0], .int .i64 n] W fun e w' => e = .returned (.tuple #[.agg #[.int .u8 ex, .int .u32 sg, .int .u32 ((nr : Int) + 1), .int .i64 ((hlen ex sg (nr + 1) : Int) + n), .int .i64 1], .int .i64 0]) ∧ Below W.heap.size W w' := fun W => pack_Take ex sg (nr + 1) (hlen ex sg (nr + 1)) 0 n W (by omega) (by omega) (by omega) (by omega) f3
            have HEE := hid0 EE
            have HT3 := hid0 T3
            have HRES := hid0 hres
            have hln := hlen_le ex sg (nr + 1)
            obtain ⟨hl2, hhl2⟩ : ∃ h, Hid (h = hlen ex sg (nr + 1)) := ⟨_, hid0 rfl⟩
            rw [← hhl2.out] at HEE HT3 hle hln
            clear EE T3 hhe hres E0' E1' HP0 f1 f2 f3
            go_wp2_with (first
            | (go_at_call 224; go_loud ((with_reducible refine (HL1.out _).mono ?_); rintro e w3 ⟨rfl, hb3⟩; have d6 := blk_below b6 hb3 (blk_lt b6); obtain ⟨u0, u1, u2, u3, u4⟩ := c5 d6))
            | (go_at_call 224; go_loud ((with_reducible refine (HL2.out _).mono ?_); rintro e w4 ⟨rfl, hb4⟩; have e6 := blk_below d6 hb4 (blk_lt d6); obtain ⟨v0, v1, v2, v3, v4⟩ := c5 e6; have hb34 := hb3.trans (hb4.mono hb3.size); have e2 := blk_below b2 hb34 (blk_lt b2); obtain ⟨q0, q1⟩ := c2 e2))
              | (go_at_call 127; go_loud ((with_reducible refine (HEE.out _).mono ?_); rintro e w5 ⟨rfl, hb5⟩; have f6 := blk_below e6 hb5 (blk_lt e6); obtain ⟨t0, t1, t2, t3, t4⟩ := c5 f6; have tf := blk_frozen f6; have hb35 : Below wr.heap.size wr w5 := hb34.trans (hb5.mono hb34.size); have hbw5 := bset5 (hbl.trans (hb35.mono (Nat.le_of_lt hgw))) (Nat.le_of_lt s3) (.int .u8 ex) (.int .u32 sg) (.int .u32 ((nr : Int) + 1)) (.int .i64 hl2) (.int .i64 0); have f62 := set5 f6 (.int .u8 ex) (.int .u32 sg) (.int .u32 ((nr : Int) + 1)) (.int .i64 hl2) (.int .i64 0)))
              | (go_at_call 217; go_loud ((with_reducible refine (HT3.out _).mono ?_); rintro e w7 ⟨rfl, hb7⟩; have f67 := blk_below f62 hb7 (by simp; exact blk_lt f6); obtain ⟨r0, r1, r2, r3, r4⟩ := c5 f67; have rf := blk_frozen f67; have ov5 := own_keep hov hb35; have ov52 := ofar5 ov5 (Ne.symm (own_ne f6 ov5 (by decide))) (.int .u8 ex) (.int .u32 sg) (.int .u32 ((nr : Int) + 1)) (.int .i64 hl2) (.int .i64 0); have ov7 := own_keep ov52 hb7; have hne7 := Ne.symm (own_ne f67 ov7 (by decide)); have hz7 := hb7.size; have hz5 := hb35.size))
              | (at_builtin; go_loud (refine append_v rowU rfl _ _ rfl g2 (.slice A2 xs.length cc2) xs rfl ?_ (some ⟨w7.heap.size, 0, none⟩) 1 1 [nr + 1] rfl rfl ?_ ?_ ?_ ?_; exact OV.alloc (ofar5 ov7 hne7 _ _ _ _ _) _; exact RV.at_ _ (nr + 1) 52 _ rfl _ (by simp); (simp; omega); (simp at hz7 ⊢; omega); intro A4 c4 x4 w6 HX4 ho4 ho4' hg4)))
            simp at hz7
            have hB7 := hbw5.trans (hb7.mono (by simp; omega))
            have e27 := blk_below (far5 (blk_below b2 hb35 (blk_lt b2)) (show g2 ≠ g6 by omega) (.int .u8 ex) (.int .u32 sg) (.int .u32 ((nr : Int) + 1)) (.int .i64 hl2) (.int .i64 0)) hb7 (by have := blk_lt b2; simp; omega)
            have e87 := blk_below (far5 (blk_below b8 hb35 (blk_lt b8)) (show g8 ≠ g6 by omega) (.int .u8 ex) (.int .u32 sg) (.int .u32 ((nr : Int) + 1)) (.int .i64 hl2) (.int .i64 0)) hb7 (by have := blk_lt b8; simp; omega)
            have b2' := blk_grown (blk_alloc (far5 e27 (show g2 ≠ g6 by omega) _ _ _ _ _) _) hg4 (own_ne b2 hov (by decide))
            have b6' := blk_grown (blk_alloc (set5 f67 _ _ _ _ _) _) hg4 (own_ne f67 ov7 (by decide))
            have b8' := blk_grown (blk_alloc (far5 e87 (show g8 ≠ g6 by omega) _ _ _ _ _) _) hg4 (own_ne b8 hov (by decide))
            have hB := ((bset5 hB7 (Nat.le_of_lt s3) _ _ _ _ _).alloc (by simp; omega) _).grown hg4 (by simp; omega) (own_base hov)
            go_roundw
            case rel => exact ⟨k + 1, nr + 1, hl2 + n, 1, x4, A4, c4, by omega, by go_num, rfl, rfl, ho4, b2', b6', b8', by omega, by omega, by omega, by rw [HX4.out]; simp; omega, hid0 (by rw [HX4.out, hhl2.out]; exact HRES.out), hB⟩
            case measure => simp [intOf]; omega
    · go_wp2
      go_ret2
      have hd : ns.drop k = [] := List.drop_eq_nil_of_le (by omega)
      have h9 := hres.out
      rw [hd, planGo] at h9
      rw [h9, ← HG2.out]
      exact ⟨⟨A2, cc2, by simp [exPre], by simpa [exPre] using hov⟩, hbl⟩
end Go.Proofs.YtkpacfcklpoanaaGreat
