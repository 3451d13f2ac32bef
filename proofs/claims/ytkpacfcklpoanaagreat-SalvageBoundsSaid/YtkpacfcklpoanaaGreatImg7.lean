/- Into which segments records go. -/
import Derived.Test.YtkpacfcklpoanaaGreatImg6
set_option linter.unusedVariables false
set_option linter.unusedSimpArgs false
namespace Go.Proofs.YtkpacfcklpoanaaGreat
open Go.RowKit
def rfr (r : Rc) : List UInt8 := recFrame r.1 r.2.1 ⟨r.2.2.1.toArray⟩ ⟨r.2.2.2.toArray⟩
theorem rfr_length (r : Rc) (h : rchk r = 0) : (rfr r).length ≤ 1100000 := by
  have h1 := recFrame_length r.1 r.2.1 ⟨r.2.2.1.toArray⟩ ⟨r.2.2.2.toArray⟩
  have h2 := recCheck_sizes _ _ _ h
  show (recFrame _ _ _ _).length ≤ _
  omega
def szs (l : List Rc) : List Nat := l.map fun r => (rfr r).length
def planR (ex sg : Nat) (l : List Rc) : Except Int (List Nat) :=
  if cfgErr ex sg ≠ 0 then .error (cfgErr ex sg) else if risErr l ≠ 0 then .error (risErr l) else planGo ex sg 0 (hlen ex sg 0) 0 (szs l)
theorem chkAll_all {l : List Rc} (h : chkAll l = 0) : ∀ r ∈ l, rchk r = 0 := by
  induction l with
  | nil => simp
  | cons r l ih =>
    rw [chkAll] at h
    split at h
    · rename_i h1; exact absurd h h1
    · rename_i h1
      intro s hs
      simp at hs
      rcases hs with rfl | hs
      · exact Classical.not_not.1 h1
      · exact ih h s hs
def PlanPost3 (base : Nat) (l : List Rc) (m : Except Int (List Nat)) (e : Ending) (w' : World) : Prop :=
  match m with
  | .ok ns => ∃ A c A2 c2, e = .returned (.tuple #[.slice A ns.length c, .slice A2 (szs l).length c2, .int .i64 0]) ∧ OV encU w' base 52 1 (.slice A ns.length c) ns ∧ OV encN w' base 3 1 (.slice A2 (szs l).length c2) (szs l)
  | .error ec => ∃ v1 v2, e = .returned (.tuple #[v1, v2, .int .i64 ec])
set_option maxRecDepth 100000 in
set_option maxHeartbeats 1000000 in
theorem image_plan (ex sg : Nat) (A : Option Addr) (cp N : Nat) (l : List Rc) (w : World) (he : ex ≤ 255) (hs : sg ≤ 4294967295) (hr : RV encR w A l) (hN : l.length = N) (hNl : N ≤ 100000) (hok : ∀ r ∈ l, ROk r) :
    Calls Tryz.prog 122 #[.agg #[.int .u8 ex, .int .u32 sg], .slice A N cp] w fun e w' => PlanPost3 w.heap.size l (planR ex sg l) e w' ∧ Below w.heap.size w w' := by
  have hr0 := hr.rvd
  have hb0 := ((Below.refl w.heap.size w).alloc (Nat.le_refl _) (.cells #[.int .u8 ex, .int .u32 sg] 54))
  have HC := hid0 (fun W => config_Check ex sg W he hs)
  have HR := hid0 (fun W (h : RV encR W A l) => record_Rising A cp N l W h hN (by omega) hok)
  by_cases hc : cfgErr ex sg = 0
  · have hok2 := cfgErr_ok hc
    rw [hc] at HC
    by_cases hri : risErr l = 0
    · rw [hri] at HR
      have hres : planR ex sg l = planGo ex sg 0 (hlen ex sg 0) 0 (szs l) := by unfold planR; rw [if_neg (by simp [hc]), if_neg (by simp [hri])]
      have hca : chkAll l = 0 := by
        unfold risErr at hri
        split at hri
        · rename_i h1; exact absurd hri h1
        · rename_i h1; exact Classical.not_not.1 h1
      have hall := chkAll_all hca
      have HP := hid0 (fun A2 c2 M W (h : RV encN W A2 (szs l)) (h2 : (szs l).length = M) => pack_Plan ex sg A2 c2 M (szs l) W hc h h2 (by rw [← h2]; simp [szs]; omega))
      rw [hres]
      have HCF := hid0 hc
      clear hres hca hri hc
      generalize planGo ex sg 0 (hlen ex sg 0) 0 (szs l) = res at *
      go_enter Tryz.func122, Tryz.ntmps122
      go_wp2_with (first
        | (go_at_call 102; go_loud ((with_reducible refine (HC.out _).mono ?_); rintro e w1 ⟨rfl, hb1⟩; have hbw1 := hb0.trans (hb1.mono hb0.size)))
        | (go_at_call 208; go_loud ((with_reducible refine (HR.out w1 (hr0.below hbw1).rv).mono ?_); rintro e w2 ⟨rfl, hb2⟩; have hbw2 := hbw1.trans (hb2.mono hbw1.size); have B2 := blk_below (blk_below (heap_new w _) hb1 (by simp)) hb2 (by have := hb1.size; simp at this; omega))))
      go_loopw [5, 10, 11, 12, 25] (fun s _ _ _ i wr => ∃ (k : Nat) (A2 : Option Addr) (c2 : Nat) (xs : List Nat), k ≤ N ∧ i = .int .i64 k ∧ s = .slice A2 xs.length c2 ∧ OV encN wr w.heap.size 3 1 (.slice A2 xs.length c2) xs ∧ Hid (xs = szs (l.take k)) ∧
        wr.heap[w.heap.size]? = some (.cells #[.int .u8 ex, .int .u32 sg] 54 (0, 0)) ∧ Below w.heap.size w wr) (fun _ _ _ _ i _ => N - (intOf i).toNat)
      case atStart => exact ⟨0, none, 0, [], by omega, rfl, rfl, OV.nil _ _ _ _, hid0 (by simp [szs]), B2, hbw2⟩
      case round =>
        obtain ⟨k, A2, c2', xs, hk, rfl, rfl, hov, hxs, b2, hbl⟩ := hrel
        have hgw := blk_lt b2
        obtain ⟨x0, x1⟩ := c2 b2
        by_cases hlt : k < N
        · obtain ⟨a, rfl, hal, hcell⟩ := (hr0.below hbl) (rows_pos (k := k) (size := 4) (fun _ => rfl) (by decide) (by omega))
          have hkn : k < l.length := by omega
          obtain ⟨k0, k1, k2, k3⟩ := recs_at hcell (List.getElem?_eq_getElem hkn)
          have hrk := hok l[k] (List.getElem_mem hkn)
          have hrc := hall l[k] (List.getElem_mem hkn)
          have htk : l.take (k + 1) = l.take k ++ [l[k]] := List.take_succ_eq_append_getElem hkn
          have HTK := hid0 htk
          clear htk hcell
          generalize l[k] = r at *
          have hfl := rfr_length r hrc
          have HF := hid0 (fun W => frame_PutRecord_ok r.1 r.2.1 ⟨r.2.2.1.toArray⟩ ⟨r.2.2.2.toArray⟩ W hrk.1 hrk.2.1 hrc)
          change Hid (∀ W, Calls Tryz.prog 157 _ W fun e w' => ∃ x, e = .returned (.tuple #[x, .int .i64 0]) ∧ w'.ownsRow W.heap.size 5 1 x (rfr r).length (B8 (rfr r)) ∧ Below W.heap.size W w') at HF
          have hxl : xs.length ≤ k := by rw [hxs.out]; simp [szs]; omega
          clear hrc
          obtain ⟨fr, hfr⟩ : ∃ fr, Hid (fr = rfr r) := ⟨_, hid0 rfl⟩
          rw [← hfr.out] at HF hfl
          go_wp2_with (first
            | (go_at_call 157; go_loud ((with_reducible refine (HF.out _).mono ?_); rintro e w3 ⟨x, rfl, ho3, hb3⟩; obtain ⟨A3, c3, rfl⟩ := own_slice ho3; clear ho3; have hbA := (Below.refl wr.heap.size wr).alloc (Nat.le_refl _) (.cells #[.bool r.1, .int .u64 r.2.1, .string ⟨r.2.2.1.toArray⟩, .string ⟨r.2.2.2.toArray⟩] 28); have hb3' := hbA.trans (hb3.mono hbA.size); have ov3 := own_keep hov hb3'; have hz3 := hb3'.size))
            | (at_builtin; go_loud (refine append_v rowN rfl _ _ rfl w.heap.size (.slice A2 xs.length c2') xs rfl ?_ (some ⟨w3.heap.size, 0, none⟩) 1 1 [fr.length] rfl rfl ?_ ?_ ?_ ?_; exact OV.alloc ov3 _; exact RV.at_ _ fr.length 3 _ rfl _ (by simp); (simp; omega); (simp; omega); intro A4 c4 x4 w6 HX4 ho4 ho4' hg4)))
          have b2' := blk_grown (blk_alloc (blk_below b2 hb3' (blk_lt b2)) _) hg4 (own_ne b2 hov (by decide))
          have hB := ((hbl.trans (hb3'.mono (Nat.le_of_lt hgw))).alloc (by omega) _).grown hg4 (by simp; omega) (own_base hov)
          go_roundw
          case rel => exact ⟨k + 1, A4, c4, x4, by omega, by go_num, rfl, ho4, hid0 (by rw [HX4.out, HTK.out, hxs.out, hfr.out]; simp [szs]), b2', hB⟩
          case measure => simp [intOf]; omega
        · have hxe : xs = szs l := by rw [hxs.out, List.take_of_length_le (by omega)]
          subst hxe
          have HP2 := hid0 (HP.out A2 c2' _ wr (RV.own hov) rfl)
          clear HP hxs
          cases res with
          | ok ns =>
            go_wp2_with (go_at_call 209; go_loud ((with_reducible refine (HP2.out).mono ?_); rintro e w5 ⟨⟨A5, c5, rfl, ho5⟩, hb5⟩))
            go_ret3
            exact ⟨⟨_, _, _, _, rfl, own_mono ho5 hbl.size, own_keep hov hb5⟩, hbl.trans (hb5.mono hbl.size)⟩
          | error ec =>
            go_wp2_with (go_at_call 209; go_loud ((with_reducible refine (HP2.out).mono ?_); rintro e w5 ⟨rfl, hb5⟩))
            go_ret3
            exact ⟨⟨_, _, rfl⟩, hbl.trans (hb5.mono hbl.size)⟩
    · have hres : planR ex sg l = .error (risErr l) := by unfold planR; rw [if_neg (by simp [hc]), if_pos hri]
      rw [hres]
      clear hres hc
      generalize risErr l = c at *
      have hbz : ((c : Int) != 0) = true := by simpa using hri
      go_enter Tryz.func122, Tryz.ntmps122
      go_wp2_with (first
        | (go_at_call 102; go_loud ((with_reducible refine (HC.out _).mono ?_); rintro e w1 ⟨rfl, hb1⟩; have hbw1 := hb0.trans (hb1.mono hb0.size)))
        | (go_at_call 208; go_loud ((with_reducible refine (HR.out w1 (hr0.below hbw1).rv).mono ?_); rintro e w2 ⟨rfl, hb2⟩; have hbw2 := hbw1.trans (hb2.mono hbw1.size))))
      go_ret3
      exact ⟨⟨_, _, rfl⟩, hbw2⟩
  · have hres : planR ex sg l = .error (cfgErr ex sg) := by unfold planR; rw [if_pos hc]
    rw [hres]
    clear hres
    generalize cfgErr ex sg = c at *
    have hbz : ((c : Int) != 0) = true := by simpa using hc
    go_enter Tryz.func122, Tryz.ntmps122
    go_wp2_with (first
      | (go_at_call 102; go_loud ((with_reducible refine (HC.out _).mono ?_); rintro e w1 ⟨rfl, hb1⟩; have hbw1 := hb0.trans (hb1.mono hb0.size))))
    go_ret3
    exact ⟨⟨_, _, rfl⟩, hbw1⟩
end Go.Proofs.YtkpacfcklpoanaaGreat
