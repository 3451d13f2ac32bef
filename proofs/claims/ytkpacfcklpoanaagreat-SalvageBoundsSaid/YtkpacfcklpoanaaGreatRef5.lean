import Derived.Test.YtkpacfcklpoanaaGreatRef4
set_option linter.unusedVariables false
set_option linter.unusedSimpArgs false
namespace Go.Proofs.YtkpacfcklpoanaaGreat
open Go.RowKit
def FF (z : List UInt8) (g : Int) : Int := if 4 ≤ z.length then hmix (r1 (z.drop 4).length (p4 g (leVal (z.take 4))) (z.drop 4)) else hmix (r1 z.length g z)
set_option maxHeartbeats 4000000 in
set_option maxRecDepth 100000 in
theorem ref_Sum (seed : Int) (l : List UInt8) (w : World) (h0 : 0 ≤ seed) (h1 : seed ≤ 18446744073709551615) (hlen : l.length ≤ 1000000000) :
    Calls Tryz.prog 178 #[.int .u64 seed, .string ⟨l.toArray⟩] w fun e w' => e = .returned (.int .u64 (xxh seed l)) ∧ Below w.heap.size w w' := by
  have hsz := bs_size
  have HB := hid0 (ref_begin seed l w h0 h1 hlen)
  obtain ⟨H, hH⟩ : ∃ H, Hid (H = hs0 seed (strp (l.length / 32) (xv0 seed) l) l.length) := ⟨_, rfl⟩
  have hHr := hs0_range seed (strp (l.length / 32) (xv0 seed) l) l.length
  rw [← hH.out] at hHr
  obtain ⟨m, hm⟩ : ∃ m, Hid (m = l.drop (32 * (l.length / 32))) := ⟨_, rfl⟩
  have hml : m.length ≤ l.length := by rw [hm.out]; simp
  obtain ⟨G, hG⟩ : ∃ G, Hid (G = u64a H l.length) := ⟨_, rfl⟩
  have hGr : 0 ≤ G ∧ G ≤ 18446744073709551615 := by rw [hG.out]; unfold u64a; omega
  have hres : xxh seed l = hfin G m := by unfold xxh; rw [hG.out, hH.out, hm.out]
  rw [hres]
  clear hres
  -- the walk from the first loop on
  by_cases h32 : 32 ≤ l.length
  · have hd : decide ((32 : Int) ≤ (l.length : Int)) = true := by simp; omega
    have hH2 : H = hstart (strp (l.length / 32) (xv0 seed) l).1 (strp (l.length / 32) (xv0 seed) l).2.1 (strp (l.length / 32) (xv0 seed) l).2.2.1 (strp (l.length / 32) (xv0 seed) l).2.2.2 := by rw [hH.out]; unfold hs0; rw [if_neg (by omega)]
    rw [← hH2, ← hm.out] at HB
    clear hH2
    have hw : IntKind.u64.wrap (H + (l.length : Int)) = G := by rw [hG.out, u64_wrap_eq]; rfl
    go_enter Tryz.func178, Tryz.ntmps178
    go_wp2_with (go_at_call 265; go_loud ((with_reducible refine (HB.out).mono ?_); rintro e w1 ⟨rfl, hb1⟩))
    have hwm : ∀ a b : Int, IntKind.u64.wrap (a * b) = a * b % 18446744073709551616 := fun a b => u64_wrap_eq _
    go_loopw [1, 6] (fun a h wr => ∃ k : Nat, 8 * k ≤ m.length ∧ a = .string ⟨(m.drop (8 * k)).toArray⟩ ∧ h = .int .u64 (r8 k G m) ∧ Below w.heap.size w wr) (fun a _ _ => slS a)
    case atStart => exact ⟨0, by omega, by simp, rfl, hb1⟩
    case round =>
      obtain ⟨k, hk, rfl, rfl, hbl⟩ := hrel
      have hr8 := r8_range k G m hGr
      have hml2 : (m.drop (8 * k)).length = m.length - 8 * k := by simp
      by_cases hge : 8 ≤ (m.drop (8 * k)).length
      · have hp : r8 (k + 1) G m = p8 (r8 k G m) (leVal ((m.drop (8 * k)).take 8)) := rfl
        have hdd : (m.drop (8 * k)).drop 8 = m.drop (8 * (k + 1)) := by rw [List.drop_drop]; rw [show 8 * (k + 1) = 8 * k + 8 from by omega]
        have HP := hid0 hp
        have HD := hid0 hdd
        have HL := hid0 hml2
        clear hp hdd hml2
        generalize r8 k G m = h at *
        generalize m.drop (8 * k) = n at *
        have hd8 : decide ((8 : Int) ≤ (n.length : Int)) = true := by simp; omega
        have hv := leVal_u64 (n.take 8) (by simp; omega)
        have hsl1 : ∀ W, (Instr.slice 9 (.string ⟨n.toArray⟩) none (some (.int .i64 8)) none).run Tryz.prog W = .ok (.string ⟨(n.take 8).toArray⟩) W := fun W => run_ssl_h W n 8 hge
        have hsl2 : ∀ W, (Instr.slice 9 (.string ⟨n.toArray⟩) (some (.int .i64 8)) none none).run Tryz.prog W = .ok (.string ⟨(n.drop 8).toArray⟩) W := fun W => run_ssl_l W n 8 hge
        have H1 := hid0 (ref_Value (n.take 8) wr (by simp; omega))
        generalize hval : leVal (n.take 8) = val at *
        have H2 := hid0 (ref_into 0 val wr (by decide) (by decide) hv.1 hv.2)
        have hxb := bits_u64 .xor h (xinto 0 val)
        have hxr := xinto_range 0 val
        have H3 := hid0 (ref_turn (bits .xor .u64 h (xinto 0 val)) 27 wr hxb.1 hxb.2 (by decide) (by decide))
        have hp8 : IntKind.u64.wrap (IntKind.u64.wrap (rotl (bits .xor .u64 h (xinto 0 val)) (Int.toNat 27) * 11400714785074694791) + 9650029242287828579) = p8 h val := by simp only [u64_wrap_eq, p8, show Int.toNat 27 = 27 from rfl]; omega
        go_wp2_with (first
          | (go_at_call 267; go_loud ((with_reducible refine (H1.out).mono ?_); rintro e w' ⟨rfl, rfl⟩))
          | (go_at_call 266; go_loud ((with_reducible refine (H2.out).mono ?_); rintro e w' ⟨rfl, rfl⟩))
          | (go_at_call 268; go_loud ((with_reducible refine (H3.out).mono ?_); rintro e w' ⟨rfl, rfl⟩)))
        go_roundw
        case rel =>
          refine ⟨k + 1, by have := HL.out; omega, by rw [HD.out], ?_, hbl⟩
          rw [HP.out, ← hp8]
          simp only [u64_wrap_eq, show Int.toNat 27 = 27 from rfl]
        case measure => simp [slS, hsz]; omega
      · have hkk : k = m.length / 8 := by omega
        have hd8 : decide ((8 : Int) ≤ ((m.drop (8 * k)).length : Int)) = false := by simp only [decide_eq_false_iff_not]; omega
        have hfin0 : hfin G m = (if 4 ≤ (m.drop (8 * k)).length then hmix (r1 ((m.drop (8 * k)).drop 4).length (p4 (r8 k G m) (leVal ((m.drop (8 * k)).take 4))) ((m.drop (8 * k)).drop 4)) else hmix (r1 (m.drop (8 * k)).length (r8 k G m) (m.drop (8 * k)))) := by unfold hfin; rw [← hkk]
        have HF := hid0 hfin0
        clear hfin0 hkk
        generalize r8 k G m = h at *
        generalize hn : m.drop (8 * k) = n at *
        generalize hfv : hfin G m = F at *
        have hn8 : n.length < 8 := by omega
        have HFV := hid0 hfv
        clear hml2 hn hfv hk
        go_wp2
        obtain ⟨wo, rfl⟩ : ∃ wo : World, wo = wr := ⟨_, rfl⟩
        have HF0 : Hid (F = FF n h) := HF
        clear HF hd8 hge
        go_loopw [1, 6, 7] (fun a h2 _ wr2 => (∃ (z : List UInt8) (g : Int), z.length < 8 ∧ R64 g ∧ Hid (F = FF z g) ∧ a = .string ⟨z.toArray⟩ ∧ h2 = .int .u64 g) ∧ wr2 = wo) (fun a _ _ _ => slS a)
        case atStart => exact ⟨⟨n, h, hn8, hr8, HF0, rfl, rfl⟩, rfl⟩
        case round =>
          obtain ⟨⟨z, g, hz8, hgr, HZ, rfl, rfl⟩, rfl⟩ := hrel
          clear HF0
          by_cases h4 : 4 ≤ z.length
          · have HZ2 : Hid (F = FF (z.drop 4) (p4 g (leVal (z.take 4)))) := by
              have := HZ.out
              unfold FF at this ⊢
              rw [if_pos h4] at this
              rw [if_neg (by simp; omega)]
              exact this
            have hd4 : decide ((4 : Int) ≤ (z.length : Int)) = true := by simp; omega
            have hv := leVal_u64 (z.take 4) (by simp; omega)
            have hsl1 : ∀ W, (Instr.slice 9 (.string ⟨z.toArray⟩) none (some (.int .i64 4)) none).run Tryz.prog W = .ok (.string ⟨(z.take 4).toArray⟩) W := fun W => run_ssl_h W z 4 h4
            have hsl2 : ∀ W, (Instr.slice 9 (.string ⟨z.toArray⟩) (some (.int .i64 4)) none none).run Tryz.prog W = .ok (.string ⟨(z.drop 4).toArray⟩) W := fun W => run_ssl_l W z 4 h4
            have H1 := hid0 (ref_Value (z.take 4) wr (by simp; omega))
            have hpr := p4_range g (leVal (z.take 4))
            generalize hval : leVal (z.take 4) = val at *
            have hxb := bits_u64 .xor g (val * 11400714785074694791 % 18446744073709551616)
            have H3 := hid0 (ref_turn (bits .xor .u64 g (val * 11400714785074694791 % 18446744073709551616)) 23 wr hxb.1 hxb.2 (by decide) (by decide))
            go_wp2_with (first
              | (go_at_call 267; go_loud ((with_reducible refine (H1.out).mono ?_); rintro e w' ⟨rfl, rfl⟩))
              | (go_at_call 268; go_loud ((with_reducible refine (H3.out).mono ?_); rintro e w' ⟨rfl, rfl⟩)))
            go_roundw
            case rel =>
              refine ⟨⟨z.drop 4, _, by simp; omega, hpr, HZ2, rfl, ?_⟩, by first | rfl | trivial⟩
              simp only [p4, u64_wrap_eq, Int.emod_add_emod, show Int.toNat 23 = 23 from rfl]
            case measure => simp [slS, hsz]; omega
          · have hd4 : decide ((4 : Int) ≤ (z.length : Int)) = false := by simp; omega
            have HZ2 : Hid (F = hmix (r1 z.length g z)) := by
              have := HZ.out
              unfold FF at this
              rwa [if_neg h4] at this
            clear HZ
            go_wp2
            obtain ⟨wo, rfl⟩ : ∃ wo : World, wo = wr := ⟨_, rfl⟩
            go_loopw [6, 8, 9] (fun h2 i9 _ wr2 => (∃ i : Nat, i ≤ z.length ∧ i9 = .int .i64 i ∧ h2 = .int .u64 (r1 i g z)) ∧ wr2 = wo) (fun _ i _ _ => 8 - (intOf i).toNat)
            case atStart => exact ⟨⟨0, by omega, rfl, rfl⟩, rfl⟩
            case round =>
              obtain ⟨⟨i, hi, rfl, rfl⟩, rfl⟩ := hrel
              have hri := r1_range i g z hgr
              by_cases hlt : i < z.length
              · have hs : r1 (i + 1) g z = p1 (r1 i g z) (((z[i]'hlt).toNat : Nat) : Int) := by rw [r1]; simp [List.getD, hlt]
                have HS := hid0 hs
                clear hs
                generalize r1 i g z = h2 at *
                have hbg := bs_get z i hlt
                have hbn := (z[i]'hlt).toNat_lt
                obtain ⟨y, hy⟩ : ∃ y : Int, Hid (y = ((z[i]'hlt).toNat : Int)) := ⟨_, rfl⟩
                have hxb := bits_u64 .xor h2 (((z[i]'hlt).toNat : Int) * 2870177450012600261 % 18446744073709551616)
                have H3 := hid0 (ref_turn (bits .xor .u64 h2 (((z[i]'hlt).toNat : Int) * 2870177450012600261 % 18446744073709551616)) 11 wr hxb.1 hxb.2 (by decide) (by decide))
                go_wp2_with (first
                  | (go_at_call 268; go_loud ((with_reducible refine (H3.out).mono ?_); rintro e w' ⟨rfl, rfl⟩)))
                go_roundw
                case rel =>
                  refine ⟨⟨i + 1, by omega, by go_num, ?_⟩, by first | rfl | trivial⟩
                  rw [HS.out]
                  simp only [p1, u64_wrap_eq, show Int.toNat 11 = 11 from rfl]
                case measure => simp [intOf]; omega
              · have hiz : i = z.length := by omega
                subst hiz
                have HZ3 := HZ2
                clear HZ2
                generalize r1 z.length g z = h2 at *
                have x1 := bits_u64 .xor h2 (h2 / 8589934592)
                have M1 := hid0 (ref_mix h2 33 wr hri.1 hri.2 (by decide) (by decide))
                obtain ⟨a, ha⟩ : ∃ a, Hid (a = bits .xor .u64 h2 (h2 / 8589934592) * 14029467366897019727 % 18446744073709551616) := ⟨_, rfl⟩
                have har : 0 ≤ a ∧ a ≤ 18446744073709551615 := by rw [ha.out]; omega
                have M2 := hid0 (ref_mix a 29 wr har.1 har.2 (by decide) (by decide))
                obtain ⟨b, hb⟩ : ∃ b, Hid (b = bits .xor .u64 a (a / 536870912) * 1609587929392839161 % 18446744073709551616) := ⟨_, rfl⟩
                have hbr : 0 ≤ b ∧ b ≤ 18446744073709551615 := by rw [hb.out]; omega
                have M3 := hid0 (ref_mix b 32 wr hbr.1 hbr.2 (by decide) (by decide))
                have q1 := ha.out.symm
                have q2 := hb.out.symm
                go_wp2_with (first
                  | (go_at_call 269; go_loud ((with_reducible refine (M1.out).mono ?_); rintro e w' ⟨rfl, rfl⟩))
                  | (go_at_call 269; go_loud ((with_reducible refine (M2.out).mono ?_); rintro e w' ⟨rfl, rfl⟩))
                  | (go_at_call 269; go_loud ((with_reducible refine (M3.out).mono ?_); rintro e w' ⟨rfl, rfl⟩)))
                go_ret
                refine ⟨?_, hbl⟩
                rw [HFV.out, HZ3.out]
                unfold hmix
                simp only [q1, q2]
                rfl
  · have hd : decide ((32 : Int) ≤ (l.length : Int)) = false := by simp; omega
    have hH2 : H = (seed + 2870177450012600261) % 18446744073709551616 := by rw [hH.out]; unfold hs0; rw [if_pos (by omega)]
    have hm2 : m = l := by rw [hm.out, show 32 * (l.length / 32) = 0 from by omega]; rfl
    have hw : IntKind.u64.wrap ((seed + 2870177450012600261) % 18446744073709551616 + (l.length : Int)) = G := by rw [hG.out, u64_wrap_eq, hH2]; rfl
    have hw0 : IntKind.u64.wrap (seed + 2870177450012600261) = (seed + 2870177450012600261) % 18446744073709551616 := u64_wrap_eq _
    clear hH2 HB
    subst hm2
    have hb1 : Below w.heap.size w w := Below.refl _ _
    go_enter Tryz.func178, Tryz.ntmps178
    go_wp2
    have hwm : ∀ a b : Int, IntKind.u64.wrap (a * b) = a * b % 18446744073709551616 := fun a b => u64_wrap_eq _
    go_loopw [1, 6] (fun a h wr => ∃ k : Nat, 8 * k ≤ m.length ∧ a = .string ⟨(m.drop (8 * k)).toArray⟩ ∧ h = .int .u64 (r8 k G m) ∧ Below w.heap.size w wr) (fun a _ _ => slS a)
    case atStart => exact ⟨0, by omega, by simp, rfl, hb1⟩
    case round =>
      obtain ⟨k, hk, rfl, rfl, hbl⟩ := hrel
      have hr8 := r8_range k G m hGr
      have hml2 : (m.drop (8 * k)).length = m.length - 8 * k := by simp
      by_cases hge : 8 ≤ (m.drop (8 * k)).length
      · have hp : r8 (k + 1) G m = p8 (r8 k G m) (leVal ((m.drop (8 * k)).take 8)) := rfl
        have hdd : (m.drop (8 * k)).drop 8 = m.drop (8 * (k + 1)) := by rw [List.drop_drop]; rw [show 8 * (k + 1) = 8 * k + 8 from by omega]
        have HP := hid0 hp
        have HD := hid0 hdd
        have HL := hid0 hml2
        clear hp hdd hml2
        generalize r8 k G m = h at *
        generalize m.drop (8 * k) = n at *
        have hd8 : decide ((8 : Int) ≤ (n.length : Int)) = true := by simp; omega
        have hv := leVal_u64 (n.take 8) (by simp; omega)
        have hsl1 : ∀ W, (Instr.slice 9 (.string ⟨n.toArray⟩) none (some (.int .i64 8)) none).run Tryz.prog W = .ok (.string ⟨(n.take 8).toArray⟩) W := fun W => run_ssl_h W n 8 hge
        have hsl2 : ∀ W, (Instr.slice 9 (.string ⟨n.toArray⟩) (some (.int .i64 8)) none none).run Tryz.prog W = .ok (.string ⟨(n.drop 8).toArray⟩) W := fun W => run_ssl_l W n 8 hge
        have H1 := hid0 (ref_Value (n.take 8) wr (by simp; omega))
        generalize hval : leVal (n.take 8) = val at *
        have H2 := hid0 (ref_into 0 val wr (by decide) (by decide) hv.1 hv.2)
        have hxb := bits_u64 .xor h (xinto 0 val)
        have hxr := xinto_range 0 val
        have H3 := hid0 (ref_turn (bits .xor .u64 h (xinto 0 val)) 27 wr hxb.1 hxb.2 (by decide) (by decide))
        have hp8 : IntKind.u64.wrap (IntKind.u64.wrap (rotl (bits .xor .u64 h (xinto 0 val)) (Int.toNat 27) * 11400714785074694791) + 9650029242287828579) = p8 h val := by simp only [u64_wrap_eq, p8, show Int.toNat 27 = 27 from rfl]; omega
        go_wp2_with (first
          | (go_at_call 267; go_loud ((with_reducible refine (H1.out).mono ?_); rintro e w' ⟨rfl, rfl⟩))
          | (go_at_call 266; go_loud ((with_reducible refine (H2.out).mono ?_); rintro e w' ⟨rfl, rfl⟩))
          | (go_at_call 268; go_loud ((with_reducible refine (H3.out).mono ?_); rintro e w' ⟨rfl, rfl⟩)))
        go_roundw
        case rel =>
          refine ⟨k + 1, by have := HL.out; omega, by rw [HD.out], ?_, hbl⟩
          rw [HP.out, ← hp8]
          simp only [u64_wrap_eq, show Int.toNat 27 = 27 from rfl]
        case measure => simp [slS, hsz]; omega
      · have hkk : k = m.length / 8 := by omega
        have hd8 : decide ((8 : Int) ≤ ((m.drop (8 * k)).length : Int)) = false := by simp only [decide_eq_false_iff_not]; omega
        have hfin0 : hfin G m = (if 4 ≤ (m.drop (8 * k)).length then hmix (r1 ((m.drop (8 * k)).drop 4).length (p4 (r8 k G m) (leVal ((m.drop (8 * k)).take 4))) ((m.drop (8 * k)).drop 4)) else hmix (r1 (m.drop (8 * k)).length (r8 k G m) (m.drop (8 * k)))) := by unfold hfin; rw [← hkk]
        have HF := hid0 hfin0
        clear hfin0 hkk
        generalize r8 k G m = h at *
        generalize hn : m.drop (8 * k) = n at *
        generalize hfv : hfin G m = F at *
        have hn8 : n.length < 8 := by omega
        have HFV := hid0 hfv
        clear hml2 hn hfv hk
        go_wp2
        obtain ⟨wo, rfl⟩ : ∃ wo : World, wo = wr := ⟨_, rfl⟩
        have HF0 : Hid (F = FF n h) := HF
        clear HF hd8 hge
        go_loopw [1, 6, 7] (fun a h2 _ wr2 => (∃ (z : List UInt8) (g : Int), z.length < 8 ∧ R64 g ∧ Hid (F = FF z g) ∧ a = .string ⟨z.toArray⟩ ∧ h2 = .int .u64 g) ∧ wr2 = wo) (fun a _ _ _ => slS a)
        case atStart => exact ⟨⟨n, h, hn8, hr8, HF0, rfl, rfl⟩, rfl⟩
        case round =>
          obtain ⟨⟨z, g, hz8, hgr, HZ, rfl, rfl⟩, rfl⟩ := hrel
          clear HF0
          by_cases h4 : 4 ≤ z.length
          · have HZ2 : Hid (F = FF (z.drop 4) (p4 g (leVal (z.take 4)))) := by
              have := HZ.out
              unfold FF at this ⊢
              rw [if_pos h4] at this
              rw [if_neg (by simp; omega)]
              exact this
            have hd4 : decide ((4 : Int) ≤ (z.length : Int)) = true := by simp; omega
            have hv := leVal_u64 (z.take 4) (by simp; omega)
            have hsl1 : ∀ W, (Instr.slice 9 (.string ⟨z.toArray⟩) none (some (.int .i64 4)) none).run Tryz.prog W = .ok (.string ⟨(z.take 4).toArray⟩) W := fun W => run_ssl_h W z 4 h4
            have hsl2 : ∀ W, (Instr.slice 9 (.string ⟨z.toArray⟩) (some (.int .i64 4)) none none).run Tryz.prog W = .ok (.string ⟨(z.drop 4).toArray⟩) W := fun W => run_ssl_l W z 4 h4
            have H1 := hid0 (ref_Value (z.take 4) wr (by simp; omega))
            have hpr := p4_range g (leVal (z.take 4))
            generalize hval : leVal (z.take 4) = val at *
            have hxb := bits_u64 .xor g (val * 11400714785074694791 % 18446744073709551616)
            have H3 := hid0 (ref_turn (bits .xor .u64 g (val * 11400714785074694791 % 18446744073709551616)) 23 wr hxb.1 hxb.2 (by decide) (by decide))
            go_wp2_with (first
              | (go_at_call 267; go_loud ((with_reducible refine (H1.out).mono ?_); rintro e w' ⟨rfl, rfl⟩))
              | (go_at_call 268; go_loud ((with_reducible refine (H3.out).mono ?_); rintro e w' ⟨rfl, rfl⟩)))
            go_roundw
            case rel =>
              refine ⟨⟨z.drop 4, _, by simp; omega, hpr, HZ2, rfl, ?_⟩, by first | rfl | trivial⟩
              simp only [p4, u64_wrap_eq, Int.emod_add_emod, show Int.toNat 23 = 23 from rfl]
            case measure => simp [slS, hsz]; omega
          · have hd4 : decide ((4 : Int) ≤ (z.length : Int)) = false := by simp; omega
            have HZ2 : Hid (F = hmix (r1 z.length g z)) := by
              have := HZ.out
              unfold FF at this
              rwa [if_neg h4] at this
            clear HZ
            go_wp2
            obtain ⟨wo, rfl⟩ : ∃ wo : World, wo = wr := ⟨_, rfl⟩
            go_loopw [6, 8, 9] (fun h2 i9 _ wr2 => (∃ i : Nat, i ≤ z.length ∧ i9 = .int .i64 i ∧ h2 = .int .u64 (r1 i g z)) ∧ wr2 = wo) (fun _ i _ _ => 8 - (intOf i).toNat)
            case atStart => exact ⟨⟨0, by omega, rfl, rfl⟩, rfl⟩
            case round =>
              obtain ⟨⟨i, hi, rfl, rfl⟩, rfl⟩ := hrel
              have hri := r1_range i g z hgr
              by_cases hlt : i < z.length
              · have hs : r1 (i + 1) g z = p1 (r1 i g z) (((z[i]'hlt).toNat : Nat) : Int) := by rw [r1]; simp [List.getD, hlt]
                have HS := hid0 hs
                clear hs
                generalize r1 i g z = h2 at *
                have hbg := bs_get z i hlt
                have hbn := (z[i]'hlt).toNat_lt
                obtain ⟨y, hy⟩ : ∃ y : Int, Hid (y = ((z[i]'hlt).toNat : Int)) := ⟨_, rfl⟩
                have hxb := bits_u64 .xor h2 (((z[i]'hlt).toNat : Int) * 2870177450012600261 % 18446744073709551616)
                have H3 := hid0 (ref_turn (bits .xor .u64 h2 (((z[i]'hlt).toNat : Int) * 2870177450012600261 % 18446744073709551616)) 11 wr hxb.1 hxb.2 (by decide) (by decide))
                go_wp2_with (first
                  | (go_at_call 268; go_loud ((with_reducible refine (H3.out).mono ?_); rintro e w' ⟨rfl, rfl⟩)))
                go_roundw
                case rel =>
                  refine ⟨⟨i + 1, by omega, by go_num, ?_⟩, by first | rfl | trivial⟩
                  rw [HS.out]
                  simp only [p1, u64_wrap_eq, show Int.toNat 11 = 11 from rfl]
                case measure => simp [intOf]; omega
              · have hiz : i = z.length := by omega
                subst hiz
                have HZ3 := HZ2
                clear HZ2
                generalize r1 z.length g z = h2 at *
                have x1 := bits_u64 .xor h2 (h2 / 8589934592)
                have M1 := hid0 (ref_mix h2 33 wr hri.1 hri.2 (by decide) (by decide))
                obtain ⟨a, ha⟩ : ∃ a, Hid (a = bits .xor .u64 h2 (h2 / 8589934592) * 14029467366897019727 % 18446744073709551616) := ⟨_, rfl⟩
                have har : 0 ≤ a ∧ a ≤ 18446744073709551615 := by rw [ha.out]; omega
                have M2 := hid0 (ref_mix a 29 wr har.1 har.2 (by decide) (by decide))
                obtain ⟨b, hb⟩ : ∃ b, Hid (b = bits .xor .u64 a (a / 536870912) * 1609587929392839161 % 18446744073709551616) := ⟨_, rfl⟩
                have hbr : 0 ≤ b ∧ b ≤ 18446744073709551615 := by rw [hb.out]; omega
                have M3 := hid0 (ref_mix b 32 wr hbr.1 hbr.2 (by decide) (by decide))
                have q1 := ha.out.symm
                have q2 := hb.out.symm
                go_wp2_with (first
                  | (go_at_call 269; go_loud ((with_reducible refine (M1.out).mono ?_); rintro e w' ⟨rfl, rfl⟩))
                  | (go_at_call 269; go_loud ((with_reducible refine (M2.out).mono ?_); rintro e w' ⟨rfl, rfl⟩))
                  | (go_at_call 269; go_loud ((with_reducible refine (M3.out).mono ?_); rintro e w' ⟨rfl, rfl⟩)))
                go_ret
                refine ⟨?_, hbl⟩
                rw [HFV.out, HZ3.out]
                unfold hmix
                simp only [q1, q2]
                rfl
end Go.Proofs.YtkpacfcklpoanaaGreat
