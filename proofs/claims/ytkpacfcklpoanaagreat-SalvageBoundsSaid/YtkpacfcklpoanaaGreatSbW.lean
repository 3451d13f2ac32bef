/- SalvageBounds: the walk. -/
import Derived.Test.YtkpacfcklpoanaaGreatLive2
set_option linter.unusedVariables false
set_option linter.unusedSimpArgs false
namespace Go.Proofs.YtkpacfcklpoanaaGreat
open Go.RowKit
theorem noughts_take (b : List UInt8) (k : Nat) (h : k < b.length) : noughts (b.take (k + 1)) = noughts (b.take k) + if b[k] = 0 then 1 else 0 := by
  rw [List.take_succ_eq_append_getElem h]
  unfold noughts
  rw [List.filter_append, List.length_append]
  congr 1
  by_cases h0 : b[k] = 0
  · rw [if_pos h0]; simp [h0]
  · rw [if_neg h0]; simp [h0]
set_option maxRecDepth 100000 in
set_option maxHeartbeats 1000000 in
theorem law23_SalvageBounds (size : Int) (b : List UInt8) (A : Option Addr) (c N : Nat) (w : World) (hs0 : -9223372036854775808 ≤ size) (hs : size ≤ 9223372036854775807) (hN : b.length = N) (hNc : N ≤ c) (hr : RB w A b) :
    Calls Tryz.prog 3 #[.int .i64 size, .slice A N c] w fun e w' => e = .returned (.bool true) ∧ Below w.heap.size w w' := by
  have HL := hid0 law23_Lives
  by_cases hbig : 3000 < N
  · have hbi : (3000 : Int) < N := by omega
    go_enter Tryz.func3, Tryz.ntmps3
    go_wp2_with (first
      | (go_at_call 28; have tok := hb1; go_loud ((with_reducible refine (HL.out _).mono ?_); rintro e w2 ⟨rfl, hb2⟩))
      | (go_at_call 28; go_loud ((with_reducible refine (HL.out _).mono ?_); rintro e w1 ⟨rfl, hb1⟩)))
    go_ret
    exact ⟨rfl, hb1.trans (hb2.mono hb1.size)⟩
  · have hbi : (N : Int) ≤ 3000 := by omega
    obtain ⟨n, hn⟩ : ∃ n : Nat, max 1 size = (n : Int) := ⟨(max 1 size).toNat, by omega⟩
    have hn1 : 0 < n := by omega
    have hn2 : (n : Int) ≤ 9223372036854775807 := by omega
    have HB := hid0 (salvage_bnd n b hn1)
    have HNO := hid0 (sAll_noughts n b ⟨(0, 0, 0), [], 0, 0, 0⟩)
    change Hid ((salvage n b).length ≤ _) at HNO
    have HS := hid0 (fun W (h : RB W A b) => salv_Salvage size b A c N W hs (by omega) hN hNc h)
    rw [show (max 1 size).toNat = n from by omega] at HS
    have HRR := hid0 (fun d q k v W h0 h1 hk hv => ref_Record d q k v W h0 h1 hk hv)
    generalize salvage n b = l at *
    have hrd := hr.rd
    have HN := hid0 hN
    go_enter Tryz.func3, Tryz.ntmps3
    go_wp2_with (go_at_call 28; go_loud ((with_reducible refine (HL.out _).mono ?_); rintro e w1 ⟨rfl, hb1⟩))
    go_loopw [6, 10, 28] (fun m _ i wr => ∃ (k x : Nat), k ≤ N ∧ i = .int .i64 k ∧ m = .int .i64 x ∧ Hid (x = noughts (b.take k)) ∧ x ≤ k ∧ wr = w1) (fun _ _ i _ => N - (intOf i).toNat)
    case atStart => exact ⟨0, 0, by omega, rfl, rfl, hid0 rfl, by omega, rfl⟩
    case round =>
      obtain ⟨k, x, hk, rfl, rfl, hx, hxk, rfl⟩ := hrel
      by_cases hlt : k < N
      · obtain ⟨a, rfl, hal, hcell⟩ := (hrd.below hb1) (by omega)
        have hkb : k < b.length := by omega
        have hc := hcell k hkb
        have hnt := noughts_take b k hkb
        have HNT := hid0 hnt
        clear hnt hcell
        by_cases h0 : b[k] = 0
        · have hu : ((b[k].toNat : Int) == 0) = true := by rw [h0]; rfl
          have H0 := hid0 h0
          clear h0
          go_wp2
          go_roundw
          case rel => exact ⟨k + 1, x + 1, by omega, by go_num, by go_num, hid0 (by rw [HNT.out, if_pos H0.out, ← hx.out]), by omega, trivial⟩
          case measure => simp [intOf]; omega
        · have hu : ((b[k].toNat : Int) == 0) = false := by
            have : b[k].toNat ≠ 0 := fun h => h0 (UInt8.toNat_inj.1 h)
            simp; omega
          have H0 := hid0 h0
          clear h0
          go_wp2
          go_roundw
          case rel => exact ⟨k + 1, x, by omega, by go_num, rfl, hid0 (by rw [HNT.out, if_neg H0.out, ← hx.out]; rfl), by omega, trivial⟩
          case measure => simp [intOf]; omega
      · obtain rfl : k = N := by omega
        have hx2 := hx.out
        rw [List.take_of_length_le (by omega)] at hx2
        have hlx : l.length ≤ x := by rw [hx2]; exact HNO.out
        clear hx2 hx
        go_wp2_with (go_at_call 29; go_loud ((with_reducible refine (HS.out _ (hrd.below hb1).rb).mono ?_); rintro e w2 ⟨A2, c2, rfl, ho2, hb2⟩))
        have hrf := (RV.own ho2).rvd
        have hw2 := hb1.trans (hb2.mono hb1.size)
        have hrd2 := hrd.below hw2
        have hzw := hw2.size
        clear hN HS ho2 hb2 hb1 hr
        go_loopw [7, 8, 13, 14, 15, 42] (fun s7 s8 _ _ _ i wl => ∃ (j al la : Nat), j ≤ l.length ∧ i = .int .i64 j ∧ s7 = .int .i64 al ∧ s8 = .int .i64 la ∧ al ≤ la ∧ la ≤ k ∧ Hid (Bnd n b la (l.drop j)) ∧ Below w2.heap.size w2 wl) (fun _ _ _ _ _ i _ => l.length - (intOf i).toNat)
        case atStart => exact ⟨0, 0, 0, by omega, rfl, rfl, rfl, by omega, by omega, hid0 (by rw [List.drop_zero]; exact HB.out), Below.refl _ _⟩
        case round =>
          obtain ⟨j, al, la, hj, rfl, rfl, rfl, hal, hla, hbd, hbl⟩ := hrel
          by_cases hlt2 : j < l.length
          · obtain ⟨a, rfl, hab, hcell⟩ := (hrf.below hbl) (rows_pos (k := j) (size := 7) (fun _ => rfl) (by decide) hlt2)
            obtain ⟨k0, k1, k2, k3, k4, k5, k6⟩ := fnds_at hcell (List.getElem?_eq_getElem hlt2)
            have hbd := hbd.out
            rw [List.drop_eq_getElem_cons hlt2] at hbd
            clear hcell
            generalize l[j] = f at *
            obtain ⟨⟨d, q, ky, v⟩, seg, pos, len⟩ := f
            obtain ⟨⟨hq0, hq1, hky, hv⟩, h1, h2, h3, h4, h5, h6⟩ := hbd
            simp only [frmOf] at h1 h2 h3 h4 h5 h6 hq0 hq1 hky hv k0 k1 k2 k3 k4 k5 k6
            have HR2 := hid0 (fun W => HRR.out d q ky v W hq0 hq1 (by omega) (by omega))
            generalize recFrame d q ⟨ky.toArray⟩ ⟨v.toArray⟩ = frm at *
            subst h5
            obtain ⟨P, hP⟩ : ∃ P, P = seg * n := ⟨_, rfl⟩
            rw [← hP] at h1 h3 h4 h6
            have hsP : seg ≤ P := by rw [hP]; exact Nat.le_mul_of_pos_right _ hn1
            have hPI : (seg : Int) * (n : Int) = (P : Int) := by rw [hP]; simp
            have HB6 := hid0 h6
            clear hP h6
            have hkb := HN.out
            have w0 : IntKind.i64.wrap (seg : Int) = (seg : Int) := by apply IntWalk.i64_in <;> omega
            have w1' : IntKind.i64.wrap ((P : Int) + (pos : Int)) = (P : Int) + (pos : Int) := by apply IntWalk.i64_in <;> omega
            have w2' : IntKind.i64.wrap (P : Int) = (P : Int) := by apply IntWalk.i64_in <;> omega
            have g1 : ¬ ((P : Int) + (pos : Int) < (la : Int)) := by omega
            have g2 : ¬ ((n : Int) < (pos : Int) + (frm.length : Int)) := by omega
            have g4 : ¬ ((k : Int) < (P : Int) + (pos : Int) + (frm.length : Int)) := by have := HN.out; omega
            have hsl : ∀ W, (Instr.slice 22 (.slice A k c) (some (.int .i64 ((P : Int) + (pos : Int)))) (some (.int .i64 ((P : Int) + (pos : Int) + (frm.length : Int)))) none).run Tryz.prog W = .ok (.slice (slA 1 A (P + pos) c) frm.length (c - (P + pos))) W := fun W => by
              have := run_sl_lh W A k c (P + pos) (P + pos + frm.length) (by omega) (by omega)
              rw [show P + pos + frm.length - (P + pos) = frm.length from by omega] at this
              simpa using this
            have hrb : ∀ W, Below w2.heap.size w2 W → RB W (slA 1 A (P + pos) c) frm := fun W h => by
              have := (((hrd.below hw2).mono hzw).below h).rb
              have := (this.sl (P + pos) c (by omega)).take frm.length
              rwa [h4] at this
            generalize slA 1 A (P + pos) c = A3 at *
            have HRB := hid0 hrb
            clear hrb h4 hkb
            have hb7 := (Below.refl wr.heap.size wr).alloc (Nat.le_refl _) (.cells #[.bool d, .int .u64 q, .string ⟨ky.toArray⟩, .string ⟨v.toArray⟩, .int .u64 seg, .int .i64 pos, .int .i64 frm.length] 30)
            go_wp2_with (go_at_call 30; go_loud ((with_reducible refine (HR2.out _).mono ?_); rintro e w3 ⟨rfl, hb3⟩; have C7 := blk_below (heap_new wr _) hb3 (by simp); obtain ⟨e0, e1, e2, e3, e4, e5, e6⟩ := c7 C7; have hb73 := hbl.trans ((hb7.trans (hb3.mono hb7.size)).mono hbl.size); have hcv := run_conv_22_9 w3 A3 (c - (P + pos)) _ frm (HRB.out _ hb73) rfl))
            go_roundw
            case rel => exact ⟨j + 1, al + frm.length, P + pos + frm.length, by omega, by go_num, by go_num, by go_num, by omega, by omega, HB6, hb73⟩
            case measure => simp [intOf]; omega
          · have hle : (l.length : Int) ≤ (x : Int) := by omega
            have hle2 : (al : Int) ≤ (k : Int) := by omega
            go_wp2
            go_ret
            exact ⟨rfl, hw2.trans (hbl.mono hzw)⟩
end Go.Proofs.YtkpacfcklpoanaaGreat
