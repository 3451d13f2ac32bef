import Derived.Test.YtkpacfcklpoanaaGreatSalv2
set_option linter.unusedVariables false
set_option linter.unusedSimpArgs false
namespace Go.Proofs.YtkpacfcklpoanaaGreat
open Go.RowKit
theorem IsSalv.below {w w1 : World} {ss kk n base : Nat} {s : SS} (h : IsSalv w ss kk n base s) (hb : Below w.heap.size w w1) : IsSalv w1 ss kk n base s := by
  obtain ⟨A, c, h1, h2, h3⟩ := h
  exact ⟨A, c, blk_below h1 hb (blk_lt h1), blk_below h2 hb (blk_lt h2), own_keep h3 hb⟩
theorem own_only {w w1 : World} {base n g : Nat} {e : TypeId} {size : Nat} {v : Value} {xs : List Value} (h : w.ownsRow base e size v n xs) (hb : OnlyR g none w w1) (hg : some g ≠ v.ownBlock) : w1.ownsRow base e size v n xs := by
  refine ⟨h.1, ?_⟩
  rcases h.2 with h2 | ⟨g', cap, cur, h6, h7, h8, h9⟩
  · exact .inl h2
  · refine .inr ⟨g', cap, cur, h6, h7, (hb.block g' (blk_lt h8) (fun e => hg ?_) (by simp)).trans h8, h9⟩
    rw [h6, ← e]; rfl
/-- One byte more. -/
def sByte (n : Nat) (s : SS) (x : UInt8) : SS :=
  let s2 : SS := if x = 0 then sEnd { s with cut := cstep n s.cut x } (s.cut.1, s.cut.2.2, s.cut.2.1) else { s with cut := cstep n s.cut x, held := s.held ++ [x] }
  if (cstep n s.cut x).2.1 - (cstep n s.cut x).2.2 = 0 then { s2 with held := [] } else s2
def sOuts (s : SS) (x : UInt8) : List Fnd := if x = 0 then fnds s.held (s.cut.1, s.cut.2.2, s.cut.2.1) else []
def sFold (n : Nat) : SS → List UInt8 → SS
  | s, [] => s
  | s, x :: l => sFold n (sByte n s x) l
def sAll (n : Nat) : SS → List UInt8 → List Fnd
  | _, [] => []
  | s, x :: l => sOuts s x ++ sAll n (sByte n s x) l
theorem fnds_length (held : List UInt8) (c : Nat × Nat × Nat) : (fnds held c).length ≤ 1 := by unfold fnds; split <;> simp
theorem sOuts_length (s : SS) (x : UInt8) : (sOuts s x).length ≤ 1 := by
  unfold sOuts
  split
  · exact fnds_length _ _
  · simp
theorem sByte_cut (n : Nat) (s : SS) (x : UInt8) : (sByte n s x).cut = cstep n s.cut x := by
  unfold sByte sEnd
  simp only
  repeat' split
  all_goals rfl
theorem sByte_ok {n m : Nat} {s : SS} {x : UInt8} (h : SOk s m) (hm : m + 1 ≤ 1000000) : SOk (sByte n s x) (m + 1) := by
  obtain ⟨h1, h2, h3, h4, h5⟩ := h
  have hf := fnds_length s.held (s.cut.1, s.cut.2.2, s.cut.2.1)
  unfold sByte sEnd SOk
  simp only
  repeat' split
  all_goals simp
  all_goals omega
set_option maxRecDepth 100000 in
set_option maxHeartbeats 4000000 in
theorem salv_Write (ss kk n base m : Nat) (s : SS) (l : List UInt8) (A : Option Addr) (c N : Nat) (w : World) (hs : IsSalv w ss kk n base s) (hok : SOk s m) (hcu : CutOk n s.cut) (hm : m + l.length ≤ 1000000) (hcs : s.cut.1 + l.length ≤ 1000000000)
    (hbs : base ≤ ss) (hbk : base ≤ kk) (hne : ss ≠ kk) (hbw : base ≤ w.heap.size) (hN : l.length = N) (hNc : N ≤ c) (hr : RD base w A l) :
    Calls Tryz.prog 32 #[.pointer (some ⟨ss, 0, none⟩), .slice A N c] w fun e w' => ∃ A' c', e = .returned (.slice A' (sAll n s l).length c') ∧ OV encF w' base 30 7 (.slice A' (sAll n s l).length c') (sAll n s l) ∧ IsSalv w' ss kk n base (sFold n s l) ∧ Below base w w' := by
  have hn1 : (N : Int) ≤ 1000000 := by omega
  go_enter Tryz.func32, Tryz.ntmps32
  go_wp2
  go_loopw [5, 6, 8, 11, 25] (fun o _ _ i _ wr => ∃ (k : Nat) (A2 : Option Addr) (c2 : Nat) (xs : List Fnd) (t : SS), k ≤ N ∧ i = .int .i64 k ∧ o = .slice A2 xs.length c2 ∧ OV encF wr base 30 7 (.slice A2 xs.length c2) xs ∧ IsSalv wr ss kk n base t ∧ CutOk n t.cut ∧ SOk t (m + k) ∧ t.cut.1 + (N - k) ≤ 1000000000 ∧ xs.length ≤ k ∧
     xs ++ sAll n t (l.drop k) = sAll n s l ∧ sFold n t (l.drop k) = sFold n s l ∧ Below base w wr) (fun _ _ _ i _ _ => N - (intOf i).toNat)
  case atStart => exact ⟨0, none, 0, [], s, by omega, rfl, rfl, OV.nil _ _ _ _, hs, hcu, hok, by omega, by simp, rfl, rfl, Below.refl _ _⟩
  case round =>
    obtain ⟨k, A2, c2, xs, t, hk, rfl, rfl, hov, hst, hct, htk, hle, hxl, hco, hcf, hbl⟩ := hrel
    have HCO := hid0 hco
    have HCF := hid0 hcf
    clear hco hcf
    by_cases hlt : k < N
    · have hbwr := Nat.le_trans hbw hbl.size
      have hrd := hr.below hbl
      obtain ⟨a, rfl, hal, hcell⟩ := hrd (by omega)
      have hck := hcell k (by omega)
      have hdk : l.drop k = l[k] :: l.drop (k + 1) := List.drop_eq_getElem_cons (by omega)
      obtain ⟨x, hx⟩ : ∃ x, Hid (x = l[k]'(by omega)) := ⟨l[k]'(by omega), hid0 rfl⟩
      rw [← hx.out] at hck hdk
      have hwk : IntKind.i64.wrap ((k : Int) + 1) = (k : Int) + 1 := by apply IntWalk.i64_in <;> omega
      have hsl : ∀ W, (Instr.slice 22 (.slice (some a) N c) (some (.int .i64 k)) (some (.int .i64 ((k : Int) + 1))) none).run Tryz.prog W = .ok (.slice (slA 1 (some a) k c) 1 (c - k)) W := fun W => by
        have := run_sl_lh W (some a) N c k (k + 1) (by omega) (by omega)
        rwa [show k + 1 - k = 1 from by omega] at this
      have hr1 : RS (· ≠ kk) wr.drew (slA 1 (some a) k c) [x] := by
        have := (hrd.sl k c (by omega)).take 1
        rw [hdk] at this
        obtain ⟨a', e', hl', hc'⟩ := this (by simp)
        exact fun _ => ⟨a', e', by omega, by simpa using hc'⟩
      obtain ⟨AH, cH, h1, h2, h3⟩ := hst
      have k0 := (blk_cell h1 0).trans rfl
      have hW := cut_Write kk n t.cut [x] (slA 1 (some a) k c) (c - k) 1 wr.drew h2 hct (by simp; omega) rfl hr1
      simp only [couts, cfold, List.append_nil] at hW
      have HW := hid0 hW
      clear hW
      have hstp := cstep_ok (x := x) (k := 0) hct (by omega)
      have hcell' : ∀ w2, OnlyR kk none wr w2 → RD base w2 (some a) l := fun w2 h => hrd.below (h.below hbwr hbk (by simp))
      have hIS : ∀ w2, OnlyR kk none wr w2 → IsCut w2 kk n (cstep n t.cut x) → IsSalv w2 ss kk n base { t with cut := cstep n t.cut x } := fun w2 h h' => by
        have hh1 := (h.block ss (blk_lt h1) hne (by simp)).trans h1
        exact ⟨AH, cH, hh1, h', own_only h3 h (own_ne h2 h3 (by decide))⟩
      have hOV : ∀ w2, OnlyR kk none wr w2 → OV encF w2 base 30 7 (.slice A2 xs.length c2) xs := fun w2 h => own_only hov h (own_ne h2 hov (by decide))
      have hbx := fun w2 (h : OnlyR kk none wr w2) => (h.below hbwr hbk (by simp) : Below base wr w2)
      have hso : sAll n t (l.drop k) = sOuts t x ++ sAll n (sByte n t x) (l.drop (k + 1)) := by rw [hdk, sAll]
      have hsf : sFold n t (l.drop k) = sFold n (sByte n t x) (l.drop (k + 1)) := by rw [hdk, sFold]
      have htk' := sByte_ok (n := n) (x := x) htk (by omega)
      have hol := sOuts_length t x
      have hxb := x.toNat_lt
      have htk2 : SOk { t with cut := cstep n t.cut x } (m + k) := htk
      by_cases hx0 : x = 0
      · subst hx0
        have hco : cout t.cut 0 = [(t.cut.1, t.cut.2.2, t.cut.2.1)] := rfl
        rw [hco] at HW
        go_wp2
        go_region_held3 (fun w' => w'.cell? ⟨ss, 0, none⟩ = some (.pointer (some ⟨kk, 0, none⟩))) (first | exact k0 | exact kq) (first
          | (go_at_call 116; go_loud ((with_reducible refine (HW.out).mono ?_); rintro e w2 ⟨A3, c3, rfl, ho3, hc3, hb3'⟩; have hb3 : OnlyR kk none wr w2 := ⟨hb3'.os, hb3'.tape, hb3'.output, hb3'.size, hb3'.block⟩; obtain ⟨AH', cH', e1, e2, e3⟩ := hIS w2 hb3 hc3; have kq := (blk_cell e1 0).trans rfl; have ex := hOV w2 hb3; have eb := hbx w2 hb3; obtain ⟨g3, cap3, he3, hg3, _⟩ := World.ownsRow.form ho3 (by simp); injection he3 with he31 he32 he33; subst he31; have m0 : w2.cell? ⟨g3, 0, none⟩ = some (.int .u64 t.cut.1) := (World.ownsRow.cellAt ho3 0 (by simp)).trans rfl; have m1 : w2.cell? ⟨g3, 1, none⟩ = some (.int .i64 t.cut.2.2) := (World.ownsRow.cellAt ho3 1 (by simp)).trans rfl; have m2 : w2.cell? ⟨g3, 2, none⟩ = some (.int .i64 t.cut.2.1) := (World.ownsRow.cellAt ho3 2 (by simp)).trans rfl; have hcl2 := hcell' w2 hb3)))
        have hz : (cstep n t.cut 0).2.1 - (cstep n t.cut 0).2.2 = 0 := by unfold cstep; simp only; split <;> simp
        have hzz : (((cstep n t.cut 0).2.1 - (cstep n t.cut 0).2.2 : Nat) : Int) = 0 := by rw [hz]; rfl
        have hsb : sByte n t 0 = { sEnd { t with cut := cstep n t.cut 0 } (t.cut.1, t.cut.2.2, t.cut.2.1) with held := [] } := by unfold sByte; simp only [if_true]; rw [if_pos hz]
        have hou : sOuts t 0 = fnds t.held (t.cut.1, t.cut.2.2, t.cut.2.1) := by unfold sOuts; rw [if_pos rfl]
        have hcut5 : (sEnd { t with cut := cstep n t.cut 0 } (t.cut.1, t.cut.2.2, t.cut.2.1)).cut = cstep n t.cut 0 := rfl
        go_wp2
        refine wp_loop_rounds 2 ?_
        iterate 2 (rw [rounds_succ]; go_wp2_with (first
          | (go_at_call 117; go_loud ((with_reducible refine (salv_end ss kk n base (m + k) _ (t.cut.1, t.cut.2.2, t.cut.2.1) A2 c2 xs _ ((hIS w2 hb3 hc3).below ((Below.refl _ _).alloc (Nat.le_refl _) _)) htk2 hbs hne ?_ (OV.alloc ex _) ?_ ?_ ?_).mono ?_); (have := eb.size; simp; omega); omega; exact hct.2.2.2.1; (have := hct.2.1; have := hct.2.2.1; show t.cut.2.1 < _; omega); rintro e w3 ⟨A4, c4, rfl, ho4, ⟨AH5, cH5, j1, j2, j3⟩, hb4⟩; rw [← hou] at ho4; have kq3 := (blk_cell j1 0).trans rfl; have eb3 : Below base wr w3 := (eb.alloc (by have := eb.size; omega) _).trans hb4; have hck3 := (hb4.cell (p := a.add k) (by rw [addr_add_block]; exact hal)).trans ((((eb.alloc (by have := eb.size; omega) _)).cell (p := a.add k) (by rw [addr_add_block]; exact hal)).trans hck); rw [hcut5] at j2))
          | (go_at_call 119; go_loud ((with_reducible refine (cut_Open kk n _ w3 j2 ?_).mono ?_); exact hstp.1; rintro e w4 ⟨rfl, hb5⟩; have i1 := blk_below j1 hb5 (blk_lt j1); have i2 := blk_below j2 hb5 (blk_lt j2); have i3 := own_keep j3 hb5; have ix := own_keep ho4 hb5))
          | (go_at_call 120; go_loud ((with_reducible refine (salv_drop ss _ AH5 _ cH5 false _ _ _ w4 i1).mono ?_); rintro e w5 ⟨rfl, rfl⟩))))
        have hqy := Ne.symm (own_ne i1 i3 (by decide))
        have hqz := Ne.symm (own_ne i1 ix (by decide))
        have hb6 : Below base w w4 := hbl.trans <| eb3.trans (hb5.mono (by have := eb3.size; omega))
        go_roundw
        case rel =>
          refine ⟨k + 1, A4, c4, xs ++ sOuts t 0, sByte n t 0, by omega, by go_num, by simp [hou], own_far (own_far ix _ _ hqz) _ _ hqz, ?_, by rw [sByte_cut]; exact hstp.1, by rw [Nat.add_assoc] at htk'; exact htk', by rw [sByte_cut]; have := hstp.2; omega, by simp; omega, ?_, ?_, below_setG (below_setG hb6 hbs _ _) hbs _ _⟩
          · rw [hsb]
            exact ⟨AH5, cH5, blk_set (blk_set i1 1 (.slice AH5 0 cH5)) 2 (.bool false), blk_far (blk_far i2 (Ne.symm hne) _) (Ne.symm hne) _, own_cut0 (own_far (own_far i3 _ _ hqy) _ _ hqy)⟩
          · rw [← HCO.out, hso, List.append_assoc]
          · rw [← HCF.out, hsf]
        case measure => simp [intOf]; omega
      · have hco : cout t.cut x = [] := by unfold cout; rw [if_neg hx0]
        rw [hco] at HW
        have hou : sOuts t x = [] := by unfold sOuts; rw [if_neg hx0]
        have hxe : ((x.toNat : Int) != 0) = true := by
          have : x.toNat ≠ 0 := fun h => hx0 (UInt8.toNat.inj h)
          simp; omega
        have harm : ∀ w2, OnlyR kk none wr w2 → w2.cell? (a.add k) = some (.int .u8 (x.toNat : Int)) := fun w2 h => ((hbx w2 h).cell (p := a.add k) (by rw [addr_add_block]; exact hal)).trans hck
        by_cases hn : t.cut.2.1 + 1 = n
        · have hz : (cstep n t.cut x).2.1 - (cstep n t.cut x).2.2 = 0 := by unfold cstep; rw [if_pos hn]; rfl
          have hzz : (((cstep n t.cut x).2.1 - (cstep n t.cut x).2.2 : Nat) : Int) = 0 := by rw [hz]; rfl
          have hsb : sByte n t x = { t with cut := cstep n t.cut x, held := [] } := by unfold sByte; simp only; rw [if_neg hx0, if_pos hz]
          go_wp2
          go_region_held3 (fun w' => w'.cell? ⟨ss, 0, none⟩ = some (.pointer (some ⟨kk, 0, none⟩))) (first | exact k0 | exact kq) (first
            | (go_at_call 116; go_loud ((with_reducible refine (HW.out).mono ?_); rintro e w2 ⟨A3, c3, rfl, ho3, hc3, hb3'⟩; have hb3 : OnlyR kk none wr w2 := ⟨hb3'.os, hb3'.tape, hb3'.output, hb3'.size, hb3'.block⟩; obtain ⟨AH', cH', e1, e2, e3⟩ := hIS w2 hb3 hc3; have kq := (blk_cell e1 0).trans rfl; have ex := hOV w2 hb3; have eb := hbx w2 hb3; have hck3 := harm w2 hb3)))
          go_wp2
          refine wp_loop_rounds 1 ?_
          rw [rounds_succ]
          go_wp2_with (first
            | (go_at_call 118; go_loud ((with_reducible refine (salv_hold ss kk n base (m + k) _ x w2 (hIS w2 hb3 hc3) htk2 hbs hne ?_ _ xs ex).mono ?_); (have := eb.size; omega); rintro e w3 ⟨rfl, ⟨AH5, cH5, j1, j2, j3⟩, ex3, hb4⟩; have kq3 := (blk_cell j1 0).trans rfl; have eb3 : Below base wr w3 := eb.trans hb4))
            | (go_at_call 119; go_loud ((with_reducible refine (cut_Open kk n _ w3 j2 ?_).mono ?_); exact hstp.1; rintro e w4 ⟨rfl, hb5⟩; have i1 := blk_below j1 hb5 (blk_lt j1); have i2 := blk_below j2 hb5 (blk_lt j2); have i3 := own_keep j3 hb5; have ix := own_keep ex3 hb5))
            | (go_at_call 120; go_loud ((with_reducible refine (salv_drop ss _ AH5 _ cH5 false _ _ _ w4 i1).mono ?_); rintro e w5 ⟨rfl, rfl⟩)))
          have hqy := Ne.symm (own_ne i1 i3 (by decide))
          have hqz := Ne.symm (own_ne i1 ix (by decide))
          have hb6 : Below base w w4 := hbl.trans <| eb3.trans (hb5.mono (by have := eb3.size; omega))
          go_roundw
          case rel =>
            refine ⟨k + 1, A2, c2, xs, sByte n t x, by omega, by go_num, rfl, own_far (own_far ix _ _ hqz) _ _ hqz, ?_, by rw [sByte_cut]; exact hstp.1, by rw [Nat.add_assoc] at htk'; exact htk', by rw [sByte_cut]; have := hstp.2; omega, by omega, ?_, ?_, below_setG (below_setG hb6 hbs _ _) hbs _ _⟩
            · rw [hsb]
              exact ⟨AH5, cH5, blk_set (blk_set i1 1 (.slice AH5 0 cH5)) 2 (.bool false), blk_far (blk_far i2 (Ne.symm hne) _) (Ne.symm hne) _, own_cut0 (own_far (own_far i3 _ _ hqy) _ _ hqy)⟩
            · rw [← HCO.out, hso, hou, List.nil_append]
            · rw [← HCF.out, hsf]
          case measure => simp [intOf]; omega
        · have hz : (cstep n t.cut x).2.1 - (cstep n t.cut x).2.2 ≠ 0 := by unfold cstep; rw [if_neg hn, if_neg hx0]; have := hct.2.2.2.1; simp; omega
          have hzz : ((((cstep n t.cut x).2.1 - (cstep n t.cut x).2.2 : Nat) : Int) == 0) = false := by simp; omega
          have hsb : sByte n t x = { t with cut := cstep n t.cut x, held := t.held ++ [x] } := by unfold sByte; simp only; rw [if_neg hx0, if_neg hz]
          go_wp2
          go_region_held3 (fun w' => w'.cell? ⟨ss, 0, none⟩ = some (.pointer (some ⟨kk, 0, none⟩))) (first | exact k0 | exact kq) (first
            | (go_at_call 116; go_loud ((with_reducible refine (HW.out).mono ?_); rintro e w2 ⟨A3, c3, rfl, ho3, hc3, hb3'⟩; have hb3 : OnlyR kk none wr w2 := ⟨hb3'.os, hb3'.tape, hb3'.output, hb3'.size, hb3'.block⟩; obtain ⟨AH', cH', e1, e2, e3⟩ := hIS w2 hb3 hc3; have kq := (blk_cell e1 0).trans rfl; have ex := hOV w2 hb3; have eb := hbx w2 hb3; have hck3 := harm w2 hb3)))
          go_wp2
          refine wp_loop_rounds 1 ?_
          rw [rounds_succ]
          go_wp2_with (first
            | (go_at_call 118; go_loud ((with_reducible refine (salv_hold ss kk n base (m + k) _ x w2 (hIS w2 hb3 hc3) htk2 hbs hne ?_ _ xs ex).mono ?_); (have := eb.size; omega); rintro e w3 ⟨rfl, ⟨AH5, cH5, j1, j2, j3⟩, ex3, hb4⟩; have kq3 := (blk_cell j1 0).trans rfl; have eb3 : Below base wr w3 := eb.trans hb4))
            | (go_at_call 119; go_loud ((with_reducible refine (cut_Open kk n _ w3 j2 ?_).mono ?_); exact hstp.1; rintro e w4 ⟨rfl, hb5⟩; have i1 := blk_below j1 hb5 (blk_lt j1); have i2 := blk_below j2 hb5 (blk_lt j2); have i3 := own_keep j3 hb5; have ix := own_keep ex3 hb5))
            | (go_at_call 120; go_loud ((with_reducible refine (salv_drop ss _ AH5 _ cH5 false _ _ _ w4 i1).mono ?_); rintro e w5 ⟨rfl, rfl⟩)))
          have hb6 : Below base w w4 := hbl.trans <| eb3.trans (hb5.mono (by have := eb3.size; omega))
          go_roundw
          case rel =>
            refine ⟨k + 1, A2, c2, xs, sByte n t x, by omega, by go_num, rfl, ix, ?_, by rw [sByte_cut]; exact hstp.1, by rw [Nat.add_assoc] at htk'; exact htk', by rw [sByte_cut]; have := hstp.2; omega, by omega, ?_, ?_, hb6⟩
            · rw [hsb]
              exact ⟨AH5, cH5, i1, i2, i3⟩
            · rw [← HCO.out, hso, hou, List.nil_append]
            · rw [← HCF.out, hsf]
          case measure => simp [intOf]; omega
    · go_wp2
      go_ret
      have hk2 : k = N := by omega
      have hd : l.drop k = [] := List.drop_eq_nil_of_le (by omega)
      have h1 := HCO.out
      have h2 := HCF.out
      rw [hd] at h1 h2
      simp only [sAll, sFold, List.append_nil] at h1 h2
      rw [← h1, ← h2]
      exact ⟨A2, c2, rfl, hov, hst, hbl⟩
/-- What a salvager of segments of n bytes finds. -/
def salvage (n : Nat) (l : List UInt8) : List Fnd := sAll n ⟨(0, 0, 0), [], 0, 0, 0⟩ l
theorem salv_Salvage (size : Int) (l : List UInt8) (A : Option Addr) (c N : Nat) (w : World) (hs : size ≤ 9223372036854775807) (hm : l.length ≤ 1000000) (hN : l.length = N) (hNc : N ≤ c) (hr : RB w A l) :
    Calls Tryz.prog 29 #[.int .i64 size, .slice A N c] w fun e w' => ∃ A' c', e = .returned (.slice A' (salvage (max 1 size).toNat l).length c') ∧ OV encF w' w.heap.size 30 7 (.slice A' (salvage (max 1 size).toNat l).length c') (salvage (max 1 size).toNat l) ∧ Below w.heap.size w w' := by
  obtain ⟨n, hn⟩ : ∃ n : Nat, (n : Int) = max 1 size := ⟨(max 1 size).toNat, by omega⟩
  rw [show (max 1 size).toNat = n from by omega]
  have hW := fun w1 (h : IsSalv w1 (w.heap.size + 1) w.heap.size n w.heap.size ⟨(0, 0, 0), [], 0, 0, 0⟩) (hr1 : RD w.heap.size w1 A l) (hb : w.heap.size ≤ w1.heap.size) =>
    salv_Write (w.heap.size + 1) w.heap.size n w.heap.size 0 ⟨(0, 0, 0), [], 0, 0, 0⟩ l A c N w1 h ⟨Nat.le_refl _, Nat.le_refl _, Nat.le_refl _, Nat.le_refl _, by decide⟩ ⟨by omega, by omega, by show 0 < n; omega, Nat.le_refl _, by decide⟩ (by omega) (by show 0 + l.length ≤ _; omega) (by omega) (Nat.le_refl _) (by omega) hb hN hNc hr1
  have HW := hid0 hW
  clear hW
  go_enter Tryz.func29, Tryz.ntmps29
  go_wp2_with (first
    | (go_at_call 31; go_loud ((with_reducible refine (salv_New size w).mono ?_); rintro e w1 ⟨rfl, hw1⟩; have hb1 : Below w.heap.size w w1 := (by rw [hw1]; exact (((Below.refl _ _).alloc (Nat.le_refl _) _).alloc (by simp) _)); have hS : IsSalv w1 (w.heap.size + 1) w.heap.size n w.heap.size ⟨(0, 0, 0), [], 0, 0, 0⟩ := (by rw [hw1]; refine ⟨none, 0, ?_, ?_, own_nil _ _ _ _⟩; (have := heap_new (w.alloc (.cells #[.int .i64 (max 1 size), .int .u64 0, .int .i64 0, .int .i64 0] 319)) (.cells #[.pointer (some ⟨w.heap.size, 0, none⟩), .slice none 0 0, .bool false, .int .i64 0, .int .i64 0, .int .i64 0] 201); simpa using this); (rw [← hn]; exact blk_alloc (heap_new _ _) _)); clear hw1))
    | (go_at_call 32; go_loud ((with_reducible refine (HW.out w1 hS (hr.rd.below hb1) hb1.size).mono ?_); rintro e w2 ⟨A2, c2, rfl, ho2, _, hb2⟩)))
  go_ret
  exact ⟨A2, c2, rfl, ho2, hb1.trans hb2⟩
end Go.Proofs.YtkpacfcklpoanaaGreat
