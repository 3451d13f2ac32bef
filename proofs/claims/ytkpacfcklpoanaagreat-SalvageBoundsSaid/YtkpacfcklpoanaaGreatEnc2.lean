/- Records' image: the walk. -/
import Derived.Test.YtkpacfcklpoanaaGreatEnc
set_option linter.unusedVariables false
set_option linter.unusedSimpArgs false
namespace Go.Proofs.YtkpacfcklpoanaaGreat
open Go.RowKit
theorem planGo_err {ex sg : Nat} {e : Int} : ∀ {ns : List Nat} {nr used cnt : Nat}, planGo ex sg nr used cnt ns = .error e → e = 6 ∨ e = 7 := by
  intro ns
  induction ns with
  | nil => intro nr used cnt h; rw [planGo] at h; simp at h
  | cons n ns ih =>
    intro nr used cnt h
    rw [planGo] at h
    split at h
    · simp at h; omega
    · split at h
      · split at h
        · simp at h
        · rename_i h2; injection h with h; subst h; exact ih h2
      · split at h
        · simp at h; omega
        · split at h
          · simp at h
          · rename_i h2; injection h with h; subst h; exact ih h2
theorem planR_err {ex sg : Nat} {l : List Rc} {e : Int} (h : planR ex sg l = .error e) : e ≠ 0 := by
  unfold planR at h
  split at h
  · rename_i h1; simp at h; omega
  · split at h
    · rename_i h1; simp at h; omega
    · have := planGo_err h; omega
theorem planR_ok {ex sg : Nat} {l : List Rc} {ns : List Nat} (h : planR ex sg l = .ok ns) : cfgErr ex sg = 0 ∧ risErr l = 0 ∧ (∀ r ∈ l, rchk r = 0) ∧ planGo ex sg 0 (hlen ex sg 0) 0 (szs l) = .ok ns := by
  unfold planR at h
  split at h
  · simp at h
  · rename_i h1
    split at h
    · simp at h
    · rename_i h2
      have hri := Classical.not_not.1 h2
      refine ⟨Classical.not_not.1 h1, hri, ?_, h⟩
      unfold risErr at hri
      split at hri
      · rename_i h3; exact absurd hri h3
      · rename_i h3; exact chkAll_all (Classical.not_not.1 h3)
def EncPost (base : Nat) (m : Except Int (List UInt8)) (e : Ending) (w' : World) : Prop :=
  match m with
  | .ok b => ∃ A c, e = .returned (.tuple #[.slice A b.length c, .int .i64 0]) ∧ w'.ownsRow base 5 1 (.slice A b.length c) b.length (B8 b)
  | .error ec => e = .returned (.tuple #[.slice none 0 0, .int .i64 ec])
theorem encGo_same {ex sg : Nat} {sealF : List UInt8 → List En → List UInt8} {out fr : List UInt8} {tb : List En} {nr m : Nat} {r : Rc} {l : List Rc} {ns : List Nat} (h : m = nr) :
    encGo ex sg sealF out (some (nr, fr, tb)) (r :: l) (m :: ns) = encGo ex sg sealF out (some (nr, fr ++ rfr r, tb ++ [(xxh 0 r.2.2.1, fr.length)])) l ns := by
  rw [encGo]; simp [h]
theorem encGo_next {ex sg : Nat} {sealF : List UInt8 → List En → List UInt8} {out fr : List UInt8} {tb : List En} {nr m : Nat} {r : Rc} {l : List Rc} {ns : List Nat} (h : m ≠ nr) :
    encGo ex sg sealF out (some (nr, fr, tb)) (r :: l) (m :: ns) = encGo ex sg sealF (out ++ sealF fr tb) (some (m, head ex sg m ++ rfr r, [(xxh 0 r.2.2.1, (head ex sg m).length)])) l ns := by
  rw [encGo]; simp [h]
/-- What is known of the segment that is open, if there is one. -/
def BSt (wr : World) (B1 k ex sg nr used cnt : Nat) (v b : Value) : Option (Nat × List UInt8 × List En) → Prop
  | none => k = 0 ∧ b = .pointer none ∧ nr = 0 ∧ used = hlen ex sg 0 ∧ cnt = 0
  | some (nr', fr, tb) => 0 < k ∧ ∃ g base, b = .pointer (some ⟨g, 0, none⟩) ∧ IsB wr g base ex sg nr fr tb ∧ B1 ≤ base ∧ base ≤ g ∧ base ≤ wr.heap.size ∧ nr' = nr ∧ fr.length = used ∧ tb.length = cnt ∧ tb ≠ [] ∧ TbOk fr tb ∧ used + footMost cnt ≤ cfgSize ex sg ∧ cnt ≤ k ∧ ∀ j, v.ownBlock = some j → j < base
theorem encU_at (xs : List Nat) (k : Nat) (h : k < xs.length) : (rowOf encU xs)[k]? = some (.int .u32 (xs[k] : Nat)) := by
  have := rowOf_at (enc := encU) (size := 1) (fun _ => rfl) xs k 0 (by decide) xs[k] (List.getElem?_eq_getElem h)
  simpa [encU] using this
theorem own_keepB {w w1 : World} {base n B : Nat} {e : TypeId} {size : Nat} {v : Value} {xs : List Value} (h : w.ownsRow base e size v n xs) (hb : Below B w w1) (hv : ∀ j, v.ownBlock = some j → j < B) : w1.ownsRow base e size v n xs := by
  refine ⟨h.1, ?_⟩
  rcases h.2 with h2 | ⟨g', cap, cur, h6, h7, h8, h9⟩
  · exact .inl h2
  · exact .inr ⟨g', cap, cur, h6, h7, blk_below h8 hb (hv g' (by rw [h6]; rfl)), h9⟩
theorem own_lt {w : World} {base n : Nat} {e : TypeId} {size : Nat} {v : Value} {xs : List Value} (h : w.ownsRow base e size v n xs) : ∀ j, v.ownBlock = some j → j < w.heap.size := by
  intro j hj
  rcases h.2 with ⟨rfl, _⟩ | ⟨g', cap, cur, rfl, h7, h8, h9⟩
  · simp [Value.ownBlock] at hj
  · have : g' = j := by simpa [Value.ownBlock] using hj
    subst this
    exact blk_lt h8
theorem rfr_pos (r : Rc) : 0 < (rfr r).length := by
  show 0 < (recFrame _ _ _ _).length
  have := recFrame_length r.1 r.2.1 ⟨r.2.2.1.toArray⟩ ⟨r.2.2.2.toArray⟩
  unfold recFrame sealf
  simp
set_option maxRecDepth 100000 in
set_option maxHeartbeats 1000000 in
theorem image_Encode (ex sg : Nat) (sealF : List UInt8 → List En → List UInt8) (A : Option Addr) (cp N : Nat) (l : List Rc) (w : World) (he : ex ≤ 255) (hs : sg ≤ 4294967295) (hr : RV encR w A l) (hN : l.length = N) (hNl : N ≤ 100000) (hok : ∀ r ∈ l, ROk r)
    (HS : 1 < l.length → SealC ex sg sealF) :
    Calls Tryz.prog 42 #[.agg #[.int .u8 ex, .int .u32 sg], .slice A N cp] w fun e w' => EncPost w.heap.size (encR' ex sg sealF l) e w' ∧ Below w.heap.size w w' := by
  have hr0 := hr.rvd
  have hbA := (Below.refl w.heap.size w).alloc (Nat.le_refl _) (.cells #[.int .u8 ex, .int .u32 sg] 54)
  have HP := image_plan ex sg A cp N l (w.alloc (.cells #[.int .u8 ex, .int .u32 sg] 54)) he hs (hr0.below hbA).rv hN hNl hok
  have herr := @planR_err ex sg l
  have hpok := @planR_ok ex sg l
  unfold encR'
  cases hpl : planR ex sg l with
  | error ec =>
    rw [hpl] at HP
    have hbz : ((ec : Int) != 0) = true := by simpa using herr hpl
    have HP' := hid0 HP
    clear HP herr hpok hpl
    go_enter Tryz.func42, Tryz.ntmps42
    go_wp2_with (go_at_call 122; go_loud ((with_reducible refine (HP'.out).mono ?_); rintro e w1 ⟨⟨v1, v2, rfl⟩, hb1⟩))
    go_ret2
    exact ⟨rfl, hbA.trans (hb1.mono hbA.size)⟩
  | ok ns =>
    rw [hpl] at HP
    obtain ⟨hcf, _, hall, hgo⟩ := hpok hpl
    have hcfo := cfgErr_ok hcf
    have hnl : ns.length = N := by rw [planGo_length hgo, ← hN]; simp [szs]
    have HP' := hid0 HP
    have HCF := hid0 hcf
    have HGO := hid0 hgo
    have HNL := hid0 hnl
    obtain ⟨res, hres⟩ : ∃ res, Hid (encGo ex sg sealF [] none l ns = res) := ⟨_, hid0 rfl⟩
    show Calls _ _ _ _ fun e w' => EncPost w.heap.size (.ok (encGo ex sg sealF [] none l ns)) e w' ∧ _
    rw [hres.out]
    clear HP herr hpok hpl hcf hgo hnl
    go_enter Tryz.func42, Tryz.ntmps42
    go_wp2_with (go_at_call 122; go_loud ((with_reducible refine (HP'.out).mono ?_); rintro e w1 ⟨⟨A5, c5', A6, c6', rfl, ho5, _⟩, hb1⟩; have hbw1 := hbA.trans (hb1.mono hbA.size); have C2 := blk_below (heap_new w _) hb1 (by simp)))
    have hrU := (RV.own ho5).rvd
    have hlw := blk_lt C2
    go_loopw [9, 10, 11, 12, 13, 14, 27] (fun o b _ _ _ _ i wr => ∃ (k nr used cnt : Nat) (A2 : Option Addr) (c2 : Nat) (out : List UInt8) (st : Option (Nat × List UInt8 × List En)), k ≤ N ∧ i = .int .i64 k ∧ o = .slice A2 out.length c2 ∧ wr.ownsRow w1.heap.size 5 1 (.slice A2 out.length c2) out.length (B8 out) ∧
      Hid (BSt wr w1.heap.size k ex sg nr used cnt (.slice A2 out.length c2) b st) ∧ Hid (planGo ex sg nr used cnt (szs (l.drop k)) = .ok (ns.drop k)) ∧ Hid (encGo ex sg sealF out st (l.drop k) (ns.drop k) = res) ∧ out.length ≤ k * 16777216 ∧ nr < sg ∧ Hid (0 < k → ns[k - 1]? = some nr) ∧ Below w1.heap.size w1 wr) (fun _ _ _ _ _ _ i _ => N - (intOf i).toNat)
    case atStart => exact ⟨0, 0, hlen ex sg 0, 0, none, 0, [], none, by omega, rfl, rfl, own_nil _ _ _ _, hid0 ⟨rfl, rfl, rfl, rfl, rfl⟩, hid0 (by rw [List.drop_zero, List.drop_zero]; exact HGO.out), hid0 (by rw [List.drop_zero, List.drop_zero]; exact hres.out), by simp, by omega, hid0 (fun h => absurd h (by omega)), Below.refl _ _⟩
    case round =>
      obtain ⟨k, nr, used, cnt, A2, c2', out, st, hk, rfl, rfl, hov, hst, hpg, heg, hol, hnr, hpv, hbl⟩ := hrel
      by_cases hlt : k < N
      · obtain ⟨a, rfl, hal, hcell⟩ := (hr0.below (hbw1.trans (hbl.mono hbw1.size))) (rows_pos (k := k) (size := 4) (fun _ => rfl) (by decide) (by omega))
        have hkn : k < l.length := by omega
        have hkm : k < ns.length := by have := HNL.out; omega
        obtain ⟨k0, k1, k2, k3⟩ := recs_at hcell (List.getElem?_eq_getElem hkn)
        have hrk := hok l[k] (List.getElem_mem hkn)
        have hrc := hall l[k] (List.getElem_mem hkn)
        obtain ⟨aU, rfl, haU, hcU⟩ := (hrU.below hbl) (rows_pos (k := k) (size := 1) (fun _ => rfl) (by decide) hkm)
        have hu := hcU k _ (encU_at ns k hkm)
        have hdl : l.drop k = l[k] :: l.drop (k + 1) := List.drop_eq_getElem_cons hkn
        have hdn : ns.drop k = ns[k] :: ns.drop (k + 1) := List.drop_eq_getElem_cons hkm
        have hpg := hpg.out
        have heg := heg.out
        rw [hdl, hdn] at hpg heg
        obtain ⟨m, hm⟩ : ∃ m, Hid (m = ns[k]) := ⟨_, hid0 rfl⟩
        rw [← hm.out] at hu hpg heg
        generalize l[k] = r at *
        have hPV : Hid (0 < k + 1 → ns[k + 1 - 1]? = some m) := hid0 (fun _ => by rw [Nat.add_sub_cancel, hm.out]; exact List.getElem?_eq_getElem hkm)
        have hstep := planGo_step (ns := szs (l.drop (k + 1))) hpg
        have C2r := blk_below C2 hbl hlw
        obtain ⟨q0, q1⟩ := c2 C2r
        clear hcell hdl hdn hpg
        cases st with
        | none =>
          obtain ⟨hk0, rfl, rfl, rfl, rfl⟩ := hst.out
          have hz0 : ((k : Int) == 0) = true := by simp [hk0]
          have HK0 := hid0 hk0
          clear hk0 hst
          obtain ⟨f1, hst2⟩ := hstep
          have hst3 : roomFits ex sg (hlen ex sg 0) 0 (rfr r).length = true ∧ m = 0 ∧ planGo ex sg 0 (hlen ex sg 0 + (rfr r).length) (0 + 1) (szs (l.drop (k + 1))) = .ok (ns.drop (k + 1)) := by
            rcases hst2 with h | ⟨h, _⟩
            · exact h
            · exact absurd (roomFits_mono (hlen_mono ex sg 0 (sg - 1) (by omega)) f1) (by simp [h])
          obtain ⟨f2, hm0, hpl⟩ := hst3
          have f2 : roomFits ex sg (hlen ex sg m) 0 (rfr r).length = true := by rw [hm0]; exact f2
          have hpl : planGo ex sg m (hlen ex sg m + (rfr r).length) 1 (szs (l.drop (k + 1))) = .ok (ns.drop (k + 1)) := by rw [hm0]; exact hpl
          have hms : m < sg := by omega
          have HM0 := hid0 hm0
          have HPL := hid0 hpl
          rw [encGo] at heg
          simp only [List.headD_cons, List.tail_cons] at heg
          have HEG := hid0 heg
          have HNW := hid0 (fun W => segment_New ex sg m W he hs (by omega) (by unfold headErr; rw [if_neg (by have := HCF.out; omega)]))
          have HAD := hid0 (fun b base W (h : IsB W b base ex sg m (head ex sg m) []) (h1 : base ≤ b) (h2 : base ≤ W.heap.size) => segment_Add b base ex sg m (head ex sg m) [] r W h HCF.out hrk hrc f1 f2 (by simp) h1 h2)
          have hfc := roomFits_room f2
          clear hm0 hpl heg f1 f2 hst2
          have hz0 := hbl.size
          have hrA := heap_new wr (.cells #[.bool r.1, .int .u64 r.2.1, .string ⟨r.2.2.1.toArray⟩, .string ⟨r.2.2.2.toArray⟩] 28)
          have hbA := (Below.refl wr.heap.size wr).alloc (Nat.le_refl _) (.cells #[.bool r.1, .int .u64 r.2.1, .string ⟨r.2.2.1.toArray⟩, .string ⟨r.2.2.2.toArray⟩] 28)
          go_wp2
          go_quiet (fail)
          go_wp2
          have hbD := bdrewN hbA nq
          have hrD : ((wr.alloc (.cells #[.bool r.1, .int .u64 r.2.1, .string ⟨r.2.2.1.toArray⟩, .string ⟨r.2.2.2.toArray⟩] 28)).drewN nq).heap[wr.heap.size]? = some (.cells #[.bool r.1, .int .u64 r.2.1, .string ⟨r.2.2.1.toArray⟩, .string ⟨r.2.2.2.toArray⟩] 28 (0, 0)) := hrA
          generalize ((wr.alloc (.cells #[.bool r.1, .int .u64 r.2.1, .string ⟨r.2.2.1.toArray⟩, .string ⟨r.2.2.2.toArray⟩] 28)).drewN nq) = W9 at *
          have s0 := (q0 : wr.cell? _ = _)
          have e0 := keepc hbD (blk_lt C2r) q0
          have e1 := keepc hbD (blk_lt C2r) q1
          have e2 := (hbD.cell (by rw [addr_add_block]; omega)).trans hu
          have hz9 := hbD.size
          have hlr := blk_lt C2r
          go_region_held3 (fun w' => w'.cell? ⟨w.heap.size, 0, none⟩ = some (.int .u8 ex) ∧ w'.cell? ⟨w.heap.size, 1, none⟩ = some (.int .u32 sg) ∧ w'.cell? (aU.add k) = some (.int .u32 m)) (first | exact ⟨e0, e1, e2⟩ | exact ⟨keepc (below_undrew hbn) (by show _ < W9.heap.size; omega) e0, keepc (below_undrew hbn) (by show _ < W9.heap.size; omega) e1, ((below_undrew hbn).cell (by rw [addr_add_block]; show _ < W9.heap.size; omega)).trans e2⟩) (first
            | (go_at_call 124; go_loud ((with_reducible refine (HNW.out _).mono ?_); rintro e wn ⟨b, rfl, hIB, hbW, hbn⟩)))
          have hbn' : Below W9.heap.size W9 wn := below_undrew hbn
          replace hIB : IsB wn b W9.heap.size ex sg m (head ex sg m) [] := hIB
          replace hbW : W9.heap.size ≤ b := hbW
          have hzn := hbn'.size
          have hrn := blk_below hrD hbn' (blk_lt hrD)
          have hHA := hid0 (HAD.out b W9.heap.size wn hIB hbW hzn)
          obtain ⟨i0, i1, i2, i3⟩ := c4 hrn
          go_wp2_with (go_at_call 125; go_loud ((with_reducible refine (hHA.out).mono ?_); rintro e wa ⟨rfl, hIA, hba⟩))
          have hB := ((hbD.mono hz0).trans (hbn'.mono (by omega))).trans (hba.mono (by omega))
          have hov' := own_keep hov ((hbD.trans (hbn'.mono hz9)).trans (hba.mono hz9))
          have hza := hB.size
          have hob := own_lt hov
          have hpos := rfr_pos r
          have hxr := xxh_range 0 r.2.2.1
          have hX : Hid (planGo ex sg m (hlen ex sg m + (rfr r).length) 1 (szs (l.drop (k+1))) = .ok (ns.drop (k+1))) := HPL
          have hY : Hid (encGo ex sg sealF out (some (m, head ex sg m ++ rfr r, [(xxh 0 r.2.2.1, (head ex sg m).length)])) (l.drop (k+1)) (ns.drop (k+1)) = res) := HEG
          go_roundw
          case rel => exact ⟨k + 1, m, hlen ex sg m + (rfr r).length, 1, A2, c2', out, some (m, head ex sg m ++ rfr r, [(xxh 0 r.2.2.1, (head ex sg m).length)]), by omega, by go_num, rfl, hov', hid0 ⟨by omega, b, W9.heap.size, rfl, hIA, by omega, hbW, by have := hba.size; omega, rfl, by simp [hlen], rfl, by simp, fun e he => by simp at he; subst he; exact ⟨hxr.1, hxr.2, by simp; exact hpos⟩, hfc, by omega, fun j hj => by have := hob j hj; omega⟩, hX, hY, Nat.le_trans hol (Nat.mul_le_mul_right _ (Nat.le_succ k)), hms, hPV, hbl.trans hB⟩
          case measure => simp [intOf]; omega
        | some st =>
          obtain ⟨nr', fr, tb⟩ := st
          obtain ⟨hk0, g, base, rfl, hIB, hB1, hbg, hbw, rfl, hfu, htc, htn, htk, hrm, hck, hob⟩ := hst.out
          have hz0 : ((k : Int) == 0) = false := by simp; omega
          have hpr := hpv.out hk0
          obtain ⟨j, hj⟩ : ∃ j, k - 1 = j := ⟨_, rfl⟩
          rw [hj] at hpr
          have hj1 : j < ns.length := (List.getElem?_eq_some_iff.1 hpr).1
          have hpe : ns[j] = nr' := (List.getElem?_eq_some_iff.1 hpr).2
          have hu1 := hcU j _ (encU_at ns j hj1)
          rw [hpe] at hu1
          have hw1 : IntKind.i64.wrap ((k : Int) - 1) = (j : Int) := by rw [show (k : Int) - 1 = (j : Int) from by omega]; apply IntWalk.i64_in <;> omega
          clear hpv hpr hpe hst
          obtain ⟨f1, hst2⟩ := hstep
          have hz0 := hbl.size
          have hrA := heap_new wr (.cells #[.bool r.1, .int .u64 r.2.1, .string ⟨r.2.2.1.toArray⟩, .string ⟨r.2.2.2.toArray⟩] 28)
          have hbA := (Below.refl wr.heap.size wr).alloc (Nat.le_refl _) (.cells #[.bool r.1, .int .u64 r.2.1, .string ⟨r.2.2.1.toArray⟩, .string ⟨r.2.2.2.toArray⟩] 28)
          have hu' := (hbA.cell (by rw [addr_add_block]; omega)).trans hu
          have hu1' := (hbA.cell (by rw [addr_add_block]; omega)).trans hu1
          rcases hst2 with ⟨f2, hm0, hpl⟩ | ⟨_, hn1, hm0, hpl⟩
          · have hnm : ((nr' : Int) != (nr' : Int)) = false := by simp
            rw [hm0] at hu hu'
            have HAD := hid0 (fun W (h : IsB W g base ex sg nr' fr tb) (h2 : base ≤ W.heap.size) => segment_Add g base ex sg nr' fr tb r W h HCF.out hrk hrc f1 (by rw [hfu, htc]; exact f2) (by omega) hbg h2)
            have hfc := roomFits_room f2
            rw [encGo_same hm0] at heg
            have HEG := hid0 heg
            have HPL := hid0 hpl
            have HM0 := hid0 hm0
            clear hm0 hpl heg f1 f2
            go_wp2
            go_quiet (fail)
            have hbD := bdrewN hbA nq
            have hrD : ((wr.alloc (.cells #[.bool r.1, .int .u64 r.2.1, .string ⟨r.2.2.1.toArray⟩, .string ⟨r.2.2.2.toArray⟩] 28)).drewN nq).heap[wr.heap.size]? = some (.cells #[.bool r.1, .int .u64 r.2.1, .string ⟨r.2.2.1.toArray⟩, .string ⟨r.2.2.2.toArray⟩] 28 (0, 0)) := hrA
            generalize ((wr.alloc (.cells #[.bool r.1, .int .u64 r.2.1, .string ⟨r.2.2.1.toArray⟩, .string ⟨r.2.2.2.toArray⟩] 28)).drewN nq) = W9 at *
            have hz9 := hbD.size
            obtain ⟨i0, i1, i2, i3⟩ := c4 hrD
            have hHA := hid0 (HAD.out W9 (hIB.below hbD) (by omega))
            go_wp2_with (go_at_call 125; go_loud ((with_reducible refine (hHA.out).mono ?_); rintro e wa ⟨rfl, hIA, hba⟩))
            have hB := (hbD.mono hz0).trans (hba.mono (by omega))
            have hov' := own_keepB (own_keep hov hbD) hba hob
            have hzb := hba.size
            have hpos := rfr_pos r
            have hxr := xxh_range 0 r.2.2.1
            go_roundw
            case rel => exact ⟨k + 1, nr', used + (rfr r).length, cnt + 1, A2, c2', out, some (nr', fr ++ rfr r, tb ++ [(xxh 0 r.2.2.1, fr.length)]), by omega, by go_num, rfl, hov', hid0 ⟨by omega, g, base, rfl, hIA, hB1, hbg, by omega, rfl, by simp [hfu], by simp [htc], by simp, by
                intro e he
                rw [List.mem_append] at he
                rcases he with he | he
                · have := htk e he
                  refine ⟨this.1, this.2.1, ?_⟩
                  rw [List.length_append]; omega
                · simp at he; subst he; exact ⟨hxr.1, hxr.2, by simp; exact hpos⟩, hfc, by omega, hob⟩, HPL, HEG, Nat.le_trans hol (Nat.mul_le_mul_right _ (Nat.le_succ k)), hnr, by rw [← HM0.out]; exact hPV, hbl.trans hB⟩
            case measure => simp [intOf]; omega
          · have hnm : ((m : Int) != (nr' : Int)) = true := by simp; omega
            have hms : m < sg := by omega
            have f3 := roomFits_mono (hlen_mono ex sg (nr' + 1) (sg - 1) (by omega)) f1
            rw [← hm0] at f3 hpl
            have HNW := hid0 (fun W => segment_New ex sg m W he hs (by omega) (by unfold headErr; rw [if_neg (by have := HCF.out; omega)]))
            have HAD := hid0 (fun b base W (h : IsB W b base ex sg m (head ex sg m) []) (h1 : base ≤ b) (h2 : base ≤ W.heap.size) => segment_Add b base ex sg m (head ex sg m) [] r W h HCF.out hrk hrc f1 f3 (by simp) h1 h2)
            have hfc := roomFits_room f3
            have HSL := fun W (h : IsB W g base ex sg nr' fr tb) => HS (by omega) g base nr' fr tb W h htn htk (by omega) (by rw [hfu, htc]; exact hrm)
            rw [encGo_next (by omega)] at heg
            have hsl := (HSL wr hIB).1
            have HEG := hid0 heg
            have HPL := hid0 hpl
            generalize sealF fr tb = S at *
            have HSE := hid0 (fun W (h : IsB W g base ex sg nr' fr tb) => (HSL W h).2)
            clear hm0 hpl heg f1 f3 HSL
            go_wp2
            go_quiet (fail)
            have hbD := bdrewN hbA nq
            have hrD : ((wr.alloc (.cells #[.bool r.1, .int .u64 r.2.1, .string ⟨r.2.2.1.toArray⟩, .string ⟨r.2.2.2.toArray⟩] 28)).drewN nq).heap[wr.heap.size]? = some (.cells #[.bool r.1, .int .u64 r.2.1, .string ⟨r.2.2.1.toArray⟩, .string ⟨r.2.2.2.toArray⟩] 28 (0, 0)) := hrA
            generalize ((wr.alloc (.cells #[.bool r.1, .int .u64 r.2.1, .string ⟨r.2.2.1.toArray⟩, .string ⟨r.2.2.2.toArray⟩] 28)).drewN nq) = W9 at *
            have hz9 := hbD.size
            have hHS := hid0 (HSE.out W9 (hIB.below hbD))
            go_wp2_with (first
              | (go_at_call 123; go_loud ((with_reducible refine (hHS.out).mono ?_); rintro e ws ⟨x, rfl, hox, hbs⟩; obtain ⟨A7, c7', rfl⟩ := own_slice hox; have hzs := hbs.size; have ovs := own_keep hov (hbD.trans (hbs.mono hz9)); have hrs := blk_below hrD hbs (blk_lt hrD)))
              | (at_builtin; go_loud (refine append_b rfl _ _ rfl w1.heap.size (.slice A2 out.length c2') out rfl ovs A7 c7' S.length S rfl rfl (RB.own hox) ?_ ?_ ?_; (rw [maxB_eq]; omega); omega; intro A8 c8 m8 w8 HM8 hm8 ho8 hg8)))
            have hbs9 : Below w1.heap.size wr ws := (hbD.mono hz0).trans (hbs.mono (by omega))
            have hb8 : Below w1.heap.size wr w8 := hbs9.grown hg8 (by have := hbs9.size; omega) (own_base hov)
            have hz8 := hb8.size
            have hr8 := blk_grown hrs hg8 (own_ne hrs ovs (by decide))
            have C8 := blk_below C2r hb8 hlw
            obtain ⟨e0, e1⟩ := c2 C8
            have e2 := (hb8.cell (by rw [addr_add_block]; omega)).trans hu
            have hl8 := blk_lt C8
            have hlr8 := blk_lt hr8
            have hob8 := own_lt ho8
            go_region_held3 (fun w' => w'.cell? ⟨w.heap.size, 0, none⟩ = some (.int .u8 ex) ∧ w'.cell? ⟨w.heap.size, 1, none⟩ = some (.int .u32 sg) ∧ w'.cell? (aU.add k) = some (.int .u32 m)) (first | exact ⟨e0, e1, e2⟩ | exact ⟨keepc (below_undrew hbn) (by show _ < w8.heap.size; omega) e0, keepc (below_undrew hbn) (by show _ < w8.heap.size; omega) e1, ((below_undrew hbn).cell (by rw [addr_add_block]; show _ < w8.heap.size; omega)).trans e2⟩) (first
              | (go_at_call 124; go_loud ((with_reducible refine (HNW.out _).mono ?_); rintro e wn ⟨b, rfl, hIB2, hbW, hbn⟩)))
            have hbn' : Below w8.heap.size w8 wn := below_undrew hbn
            replace hIB2 : IsB wn b w8.heap.size ex sg m (head ex sg m) [] := hIB2
            replace hbW : w8.heap.size ≤ b := hbW
            have hzn := hbn'.size
            have hrn := blk_below hr8 hbn' (blk_lt hr8)
            have hHA := hid0 (HAD.out b w8.heap.size wn hIB2 hbW hzn)
            obtain ⟨i0, i1, i2, i3⟩ := c4 hrn
            go_wp2_with (go_at_call 125; go_loud ((with_reducible refine (hHA.out).mono ?_); rintro e wa ⟨rfl, hIA, hba⟩))
            have hB := (hb8.trans (hbn'.mono (by omega))).trans (hba.mono (by omega))
            have hov' := own_keep ho8 (hbn'.trans hba)
            have hza := hba.size
            have hpos := rfr_pos r
            have hxr := xxh_range 0 r.2.2.1
            have hm8e : m8 = out ++ S := HM8.out
            have hml : m8.length = out.length + S.length := by rw [hm8e, List.length_append]
            have hml2 : m8.length ≤ (k + 1) * 16777216 := by rw [hml, Nat.succ_mul]; exact Nat.add_le_add hol hsl
            rw [← hm8e] at HEG
            go_roundw
            case rel => exact ⟨k + 1, m, hlen ex sg m + (rfr r).length, 1, A8, c8, m8, some (m, head ex sg m ++ rfr r, [(xxh 0 r.2.2.1, (head ex sg m).length)]), by omega, by go_num, rfl, hov', hid0 ⟨by omega, b, w8.heap.size, rfl, hIA, by omega, hbW, by omega, rfl, by simp [hlen], rfl, by simp, fun e he => by simp at he; subst he; exact ⟨hxr.1, hxr.2, by simp; exact hpos⟩, hfc, by omega, hob8⟩, HPL, HEG, hml2, hms, hPV, hbl.trans hB⟩
            case measure => simp [intOf]; omega
      · have hld : l.drop k = [] := List.drop_eq_nil_of_le (by omega)
        have heg := heg.out
        rw [hld] at heg
        cases st with
        | none =>
          obtain ⟨hk0, rfl, rfl, rfl, rfl⟩ := hst.out
          rw [encGo] at heg
          subst heg
          clear hpg hst
          go_wp2
          go_ret2
          exact ⟨⟨_, _, rfl, own_mono hov hbw1.size⟩, hbw1.trans (hbl.mono hbw1.size)⟩
        | some st =>
          obtain ⟨nr', fr, tb⟩ := st
          obtain ⟨hk0, g, base, rfl, hIB, hB1, hbg, hbw, rfl, hfu, htc, htn, htk, hrm, hck, hob⟩ := hst.out
          rw [encGo] at heg
          have hS := cfgSize_le ex sg
          have hwl : (wholeB ex sg fr).length ≤ 16777216 := by unfold wholeB; simp; omega
          have HO := hid0 (segment_Open g base ex sg nr' fr tb wr hIB he hs (by omega))
          generalize wholeB ex sg fr = Wb at *
          clear hpg hst hfu htc
          go_wp2_with (first
            | (go_at_call 126; go_loud ((with_reducible refine (HO.out).mono ?_); rintro e ws ⟨x, rfl, hox, hbs⟩; obtain ⟨A7, c7', rfl⟩ := own_slice hox; have hzs := hbs.size; have ovs := own_keep hov hbs))
            | (at_builtin; go_loud (refine append_b rfl _ _ rfl w1.heap.size (.slice A2 out.length c2') out rfl ovs A7 c7' Wb.length Wb rfl rfl (RB.own hox) ?_ ?_ ?_; (rw [maxB_eq]; omega); (have := hbl.size; omega); intro A8 c8 m8 w8 HM8 hm8 ho8 hg8)))
          go_ret2
          rw [← heg, ← HM8.out]
          have hB8 := hbl.trans ((hbs.mono hbl.size).grown hg8 (by have := hbl.size; omega) (own_base hov))
          exact ⟨⟨_, _, rfl, own_mono ho8 hbw1.size⟩, hbw1.trans (hB8.mono hbw1.size)⟩
end Go.Proofs.YtkpacfcklpoanaaGreat
