import Derived.Test.YtkpacfcklpoanaaGreatWideS
set_option linter.unusedVariables false
set_option linter.unusedSimpArgs false
namespace Go.Proofs.YtkpacfcklpoanaaGreat
open Go.RowKit
set_option maxHeartbeats 4000000 in
set_option maxRecDepth 100000 in
theorem wide_State_Sum (g base : Nat) (seed v0 v1 v2 v3 : Int) (rest : Value) (m : List UInt8) (n : Nat) (w : World)
    (hs : IsSt w g seed v0 v1 v2 v3 rest n) (ho : w.ownsRow base 5 1 rest m.length (B8 m)) (q0 : R64 v0) (q1 : R64 v1) (q2 : R64 v2) (q3 : R64 v3) (hn : n ≤ maxB) (hm : m.length ≤ maxB) :
    Calls Tryz.prog 380 #[.pointer (some ⟨g, 0, none⟩)] w fun e w' => e = .returned (.int .u64 (hfin (u64a (hs0 seed (v0, v1, v2, v3) n) n) m)) ∧ Below w.heap.size w w' := by
  obtain ⟨c0, c1, c2, c3, c4, c5, c6, cf⟩ := St_cells hs
  clear cf c0 c1 c2 c3 c4
  have hgl : g < w.heap.size := blk_lt hs
  obtain ⟨A, c, rfl⟩ := own_slice ho
  have hcap := own_cap ho
  have hread := (RB.own ho).rd
  rw [maxB_eq] at *
  have hst := fun W => wide_start_any g seed v0 v1 v2 v3 (.slice A m.length c) n W
  have HST := hid0 hst
  clear hst
  have hh := hs0_range seed (v0, v1, v2, v3) n
  generalize hs0 seed (v0, v1, v2, v3) n = h0 at *
  go_enter Tryz.func380, Tryz.ntmps380
  go_wp2
  go_region_held3 (fun w' => w'.cell? ⟨g, 5, none⟩ = some (.slice A m.length c) ∧ w'.cell? ⟨g, 6, none⟩ = some (.int .u64 n))
    (first | exact ⟨c5, c6⟩ | exact ⟨k5, k6⟩)
    ((go_at_call 430; (with_reducible refine (HST.out _ ?_ q0 q1 q2 q3).mono ?_); exact hs; rintro e w1 ⟨rfl, hb0⟩; have hb1 : Below w.heap.size w w1 := below_undrew hb0; clear hb0; have k5 := (hb1.cell (p := ⟨g, 5, none⟩) hgl).trans c5; have k6 := (hb1.cell (p := ⟨g, 6, none⟩) hgl).trans c6))
  go_wp2
  have hrw : RB w1 A m := (hread.below hb1).rb
  have e0 : IntKind.u64.wrap (h0 + (n : Int)) = u64a h0 n := by rw [u64_wrap_eq]; rfl
  rw [e0]
  have hz : R64 (u64a h0 n) := by unfold u64a R64; omega
  generalize hzz : u64a h0 n = z at *
  have HZ := hid0 hzz
  clear hzz
  clear e0 hread c5 c6 HST hh
  go_loop [3, 4] (fun x s => ∃ (k : Nat) (A2 : Option Addr) (c2 : Nat), 8 * k ≤ m.length ∧ (m.drop (8 * k)).length ≤ c2 ∧ x = .int .u64 (r8 k z m) ∧ s = .slice A2 (m.drop (8 * k)).length c2 ∧ RB w1 A2 (m.drop (8 * k)))
    (fun _ s => match s with | .slice _ n _ => n | _ => 0)
  case atStart => exact ⟨0, A, c, by omega, by simpa using hcap, rfl, by simp, by simpa using hrw⟩
  case round =>
    obtain ⟨k, A2, c2, hk, hkc, rfl, rfl, hrd⟩ := hrel
    have hx := r8_range k z m hz
    have HX : Hid (r8 (k + 1) z m = p8 (r8 k z m) (leVal ((m.drop (8 * k)).take 8))) := rfl
    have hxf : Hid (8 * k + 8 > m.length → hfin z m = (if 4 ≤ (m.drop (8 * k)).length then hmix (r1 ((m.drop (8 * k)).drop 4).length (p4 (r8 k z m) (leVal ((m.drop (8 * k)).take 4))) ((m.drop (8 * k)).drop 4)) else hmix (r1 (m.drop (8 * k)).length (r8 k z m) (m.drop (8 * k))))) := by
      intro h
      have : m.length / 8 = k := by omega
      unfold hfin
      rw [this]
    generalize r8 k z m = x at *
    have hql : (m.drop (8 * k)).length = m.length - 8 * k := by simp
    have HQL := hid0 hql
    clear hql
    generalize hq : m.drop (8 * k) = q at *
    have HQ := hid0 hq
    clear hq
    unfold R64 at hx
    by_cases hge : 8 ≤ q.length
    · have hv := leVal_u64 (q.take 8) (by simp; omega)
      have hi := xinto_range 0 (leVal (q.take 8))
      have hb := bits_u64 .xor x (xinto 0 (leVal (q.take 8)))
      have hsl : ∀ W, (Instr.slice 22 (.slice A2 q.length c2) (some (.int .i64 8)) none none).run Tryz.prog W = .ok (.slice (slA 1 A2 8 c2) (q.length - 8) (c2 - 8)) W := fun W => run_sl_l W A2 q.length c2 8 (by omega)
      go_wp2_with (first
        | (go_at_call 429; (with_reducible refine (wide_numI _ _ _ q _ _ hrd (by rfl) (by omega) (by omega) (by omega)).mono ?_); rintro e w' ⟨rfl, rfl⟩; simp only [show Int.toNat 8 = 8 from rfl])
        | (go_at_call 428; (with_reducible refine (wide_into _ _ _ (by omega) (by omega) (by omega) (by omega)).mono ?_); rintro e w' ⟨rfl, rfl⟩)
        | (go_at_call 431; (with_reducible refine (wide_rotI _ _ _ (bits_u64 _ _ _).1 (bits_u64 _ _ _).2 (by omega) (by omega)).mono ?_); rintro e w' ⟨rfl, rfl⟩))
      clear hsl
      have hk1 : m.drop (8 * (k + 1)) = q.drop 8 := by rw [← HQ.out, List.drop_drop]; congr 1
      go_round
      case rel =>
        have hql := HQL.out
        exact ⟨k + 1, slA 1 A2 8 c2, c2 - 8, by omega, by rw [hk1]; simp; omega, by rw [HX.out]; simp [p8, u64_wrap_eq], by rw [hk1]; simp, by rw [hk1]; exact hrd.sl 8 c2 (by omega)⟩
      case measure => simp; omega
    · have hfq : hfin z m = (if 4 ≤ q.length then hmix (r1 (q.drop 4).length (p4 x (leVal (q.take 4))) (q.drop 4)) else hmix (r1 q.length x q)) := hxf.out (by have := HQL.out; omega)
      have HF := hid0 hfq
      clear hfq hxf HX
      by_cases h4 : 4 ≤ q.length
      · rw [if_pos h4] at HF
        have hv := leVal_u64 (q.take 4) (by simp; omega)
        have hb := bits_u64 .xor x (IntKind.u64.wrap (leVal (q.take 4) * 11400714785074694791))
        have hsl : ∀ W, (Instr.slice 22 (.slice A2 q.length c2) (some (.int .i64 4)) none none).run Tryz.prog W = .ok (.slice (slA 1 A2 4 c2) (q.length - 4) (c2 - 4)) W := fun W => run_sl_l W A2 q.length c2 4 (by omega)
        go_wp2_with (first
          | (go_at_call 429; (with_reducible refine (wide_numI _ _ _ q _ _ hrd (by rfl) (by omega) (by omega) (by omega)).mono ?_); rintro e w' ⟨rfl, rfl⟩; simp only [show Int.toNat 4 = 4 from rfl])
          | (go_at_call 431; (with_reducible refine (wide_rotI _ _ _ (bits_u64 _ _ _).1 (bits_u64 _ _ _).2 (by omega) (by omega)).mono ?_); rintro e w' ⟨rfl, rfl⟩))
        clear hsl
        have e4 : IntKind.u64.wrap (IntKind.u64.wrap (rotl (bits .xor .u64 x (IntKind.u64.wrap (leVal (q.take 4) * 11400714785074694791))) 23 * 14029467366897019727) + 1609587929392839161) = p4 x (leVal (q.take 4)) := by simp [p4, u64_wrap_eq]
        rw [e4]
        have hxe := p4_range x (leVal (q.take 4))
        generalize p4 x (leVal (q.take 4)) = x4 at *
        have hrd4 := hrd.sl 4 c2 hkc
        have hl4 : q.length - 4 = (q.drop 4).length := by simp
        have hlb : (q.drop 4).length ≤ 140737488351232 := by have := HQL.out; simp; omega
        rw [hl4]
        generalize q.drop 4 = u at *
        generalize slA 1 A2 4 c2 = A4 at *
        clear e4 hl4
        go_loop [3, 46] (fun y s => ∃ j : Nat, j ≤ u.length ∧ s = .int .i64 j ∧ y = .int .u64 (r1 j x4 u)) (fun _ s => u.length - (intOf s).toNat)
        case atStart => exact ⟨0, by omega, rfl, rfl⟩
        case round =>
          obtain ⟨j, hj, rfl, rfl⟩ := hrel
          have hy := r1_range j x4 u hxe
          have HY : Hid (r1 (j + 1) x4 u = p1 (r1 j x4 u) ((u.getD j 0).toNat : Int)) := rfl
          generalize hyv : r1 j x4 u = y at *
          have HYV := hid0 hyv
          clear hyv
          unfold R64 at hy
          by_cases hlt : j < u.length
          · obtain ⟨a, rfl, hc⟩ := hrd4 (by omega)
            have hcj := hc j hlt
            have hgd : u.getD j 0 = u[j] := by simp [hlt]
            rw [hgd] at HY
            have hbt := (u[j]).toNat_lt
            clear hc hgd
            generalize u[j] = bb at *
            have hb := bits_u64 .xor y (IntKind.u64.wrap (IntKind.u64.wrap (bb.toNat : Int) * 2870177450012600261))
            go_wp2_with (go_at_call 431; (with_reducible refine (wide_rotI _ _ _ (bits_u64 _ _ _).1 (bits_u64 _ _ _).2 (by omega) (by omega)).mono ?_); rintro e w' ⟨rfl, rfl⟩)
            go_round
            case rel => exact ⟨j + 1, by omega, by go_num, by rw [HY.out]; simp [p1, u64_wrap_eq]⟩
            case measure => simp [intOf]; omega
          · have hje : j = u.length := by omega
            go_wp2
            go_ret
            subst hje
            refine ⟨?_, hb1⟩
            rw [HZ.out, HF.out, HYV.out]
            simp [hmix, u64_wrap_eq]
      · rw [if_neg h4] at HF
        have hd4 : decide ((4 : Int) ≤ (q.length : Int)) = false := by simp; omega
        have hxe : R64 x := hx
        have hlb : q.length ≤ 140737488351232 := by have := HQL.out; omega
        go_wp2
        go_loop [3, 46] (fun y s => ∃ j : Nat, j ≤ q.length ∧ s = .int .i64 j ∧ y = .int .u64 (r1 j x q)) (fun _ s => q.length - (intOf s).toNat)
        case atStart => exact ⟨0, by omega, rfl, rfl⟩
        case round =>
          obtain ⟨j, hj, rfl, rfl⟩ := hrel
          have hy := r1_range j x q hxe
          have HY : Hid (r1 (j + 1) x q = p1 (r1 j x q) ((q.getD j 0).toNat : Int)) := rfl
          generalize hyv : r1 j x q = y at *
          have HYV := hid0 hyv
          clear hyv
          unfold R64 at hy
          by_cases hlt : j < q.length
          · obtain ⟨a, rfl, hc⟩ := hrd (by omega)
            have hcj := hc j hlt
            have hgd : q.getD j 0 = q[j] := by simp [hlt]
            rw [hgd] at HY
            have hbt := (q[j]).toNat_lt
            clear hc hgd
            generalize q[j] = bb at *
            have hb := bits_u64 .xor y (IntKind.u64.wrap (IntKind.u64.wrap (bb.toNat : Int) * 2870177450012600261))
            go_wp2_with (go_at_call 431; (with_reducible refine (wide_rotI _ _ _ (bits_u64 _ _ _).1 (bits_u64 _ _ _).2 (by omega) (by omega)).mono ?_); rintro e w' ⟨rfl, rfl⟩)
            go_round
            case rel => exact ⟨j + 1, by omega, by go_num, by rw [HY.out]; simp [p1, u64_wrap_eq]⟩
            case measure => simp [intOf]; omega
          · have hje : j = q.length := by omega
            go_wp2
            go_ret
            subst hje
            refine ⟨?_, hb1⟩
            rw [HZ.out, HF.out, HYV.out]
            simp [hmix, u64_wrap_eq]
def xv0 (seed : Int) : Int × Int × Int × Int := ((seed + 6983438078262162902) % 18446744073709551616, (seed + 14029467366897019727) % 18446744073709551616, seed, (seed + 7046029288634856825) % 18446744073709551616)
/-- XXH64. -/
def xxh (seed : Int) (l : List UInt8) : Int :=
  hfin (u64a (hs0 seed (strp (l.length / 32) (xv0 seed) l) l.length) l.length) (l.drop (32 * (l.length / 32)))
theorem hmix_range (h : Int) : 0 ≤ hmix h ∧ hmix h ≤ 18446744073709551615 := by
  unfold hmix
  exact bits_u64 _ _ _
theorem hfin_range (h : Int) (m : List UInt8) : 0 ≤ hfin h m ∧ hfin h m ≤ 18446744073709551615 := by
  unfold hfin
  simp only
  split <;> exact hmix_range _
theorem xxh_range (seed : Int) (l : List UInt8) : 0 ≤ xxh seed l ∧ xxh seed l ≤ 18446744073709551615 := hfin_range _ _
set_option maxRecDepth 100000 in
theorem wide_Sum (seed : Int) (A : Option Addr) (c N : Nat) (l : List UInt8) (w : World) (h0 : 0 ≤ seed) (h1 : seed ≤ 18446744073709551615) (hr : RB w A l) (hN : l.length = N) (hl : N ≤ maxB) :
    Calls Tryz.prog 306 #[.int .u64 seed, .slice A N c] w fun e w' => e = .returned (.int .u64 (xxh seed l)) ∧ Below w.heap.size w w' := by
  subst hN
  have hrg := strp_range (l.length / 32) (xv0 seed) l ⟨by simp [xv0, R64]; omega, by simp [xv0, R64]; omega, ⟨h0, h1⟩, by simp [xv0, R64]; omega⟩
  go_enter Tryz.func306, Tryz.ntmps306
  go_wp2_with fail
  refine (wide_New seed w h0 h1).mono ?_
  rintro e w1 ⟨rfl, hs1, hb1⟩
  go_wp2_with fail
  refine (wide_Write w.heap.size seed _ _ _ _ A c l w1 ((hr.rd).below hb1) hl hs1 ⟨by omega, by omega⟩ ⟨by omega, by omega⟩ ⟨h0, h1⟩ ⟨by omega, by omega⟩).mono ?_
  rintro e w2 ⟨rfl, rest, hs2, ho2, hb2⟩
  go_wp2_with fail
  refine (wide_State_Sum w.heap.size _ seed _ _ _ _ rest _ l.length w2 hs2 ho2 hrg.1 hrg.2.1 hrg.2.2.1 hrg.2.2.2 hl (by simp; omega)).mono ?_
  rintro e w3 ⟨rfl, hb3⟩
  go_wp2
  go_ret
  refine ⟨rfl, (hb1.trans hb2).trans (hb3.mono ?_)⟩
  have := hb1.size
  have := hb2.size
  omega
end Go.Proofs.YtkpacfcklpoanaaGreat
