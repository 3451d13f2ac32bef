import Derived.Test.YtkpacfcklpoanaaGreatRead2
import Derived.Test.YtkpacfcklpoanaaGreatUnst
set_option linter.unusedVariables false
set_option linter.unusedSimpArgs false
namespace Go.Proofs.YtkpacfcklpoanaaGreat
open Go.RowKit
/-- The number behind a frame's body. -/
theorem frame_Open1 (g gr N : Nat) (x : Int) (b : List UInt8) (W : World) (hcur : IsCur W g 0 N b) (hN : N ≤ maxB) (hb : 8 ≤ b.length) (hgr : W.heap[gr]? = some (.cells #[.int .u64 x] 26 (0, 0))) (hne : gr ≠ g) :
    Calls Tryz.prog 358 #[.pointer (some ⟨g, 0, none⟩), .pointer (some ⟨gr, 0, none⟩)] W fun e w' => e = resEnd g none ∧ (∃ r', IsCur w' g 0 N r') ∧ Only2 g gr W w' ∧ w'.heap[gr]? = some (.cells #[.int .u64 (leVal (b.take 8))] 26 (0, 0)) := by
  have HB := hid0 (cur_Eight_ok g 0 N b W hcur (Nat.zero_le _) hN hb)
  go_enter Tryz.func358, Tryz.ntmps358
  go_wp2_with (go_at_call 359; go_loud ((with_reducible refine (HB.out).mono ?_); rintro e w1 ⟨rfl, hc1, hb1⟩; have hr1 := hb1.blk hgr hne; have k1 := (blk_cell hr1 0).trans rfl; have k2 := blk_frozen hr1 0))
  go_end0
  exact ⟨rfl, ⟨_, hc1.far hr1 (by decide) (Ne.symm hne) 0 _⟩, ((Only2.refl g gr W).only hb1).setCell 0 _, blk_set hr1 0 _⟩
theorem run_sl_hm (w : World) (A : Option Addr) (n c hi m : Nat) (h1 : hi ≤ m) (h2 : m ≤ c) : (Instr.slice 22 (.slice A n c) none (some (.int .i64 hi)) (some (.int .i64 m))).run Tryz.prog w = .ok (.slice A hi m) w := by
  rw [run_slice_hm w 22 A n c (by kernel_rfl) .i64 .i64 hi m (by omega) (by omega) (by omega)]
  have e : ∀ a : Addr, a.add 0 = a := fun a => by simp [Addr.add]
  cases A <;> simp [size22, Result.andThen, sliced, e]
theorem enter358 (W : World) (args : Array Value) : (callFunc 358 args).run Tryz.prog W = .ok (.enter 358 args) W := enters_of Tryz.func358 (by kernel_rfl) rfl args W
/-- A frame that is opened: its body, or why not. -/
def fopen (b : List UInt8) : Except Int (List UInt8) :=
  match unst b with
  | .error c => .error c
  | .ok o => if o.length < 8 then .error 2 else if leVal (o.drop (o.length - 8)) = xxh 0 (o.take (o.length - 8)) then .ok (o.take (o.length - 8)) else .error 5
theorem unst_err (b : List UInt8) (c : Int) (h : unst b = .error c) : c = 2 ∨ c = 4 := by
  unfold unst at h
  split at h
  · simp at h; omega
  · split at h
    · simp at h; omega
    · split at h
      · simp at h; omega
      · split at h
        · simp at h
        · simp at h; omega
theorem unst_length (b o : List UInt8) (h : unst b = .ok o) : o.length ≤ b.length := by
  unfold unst at h
  split at h
  · simp at h
  · split at h
    · simp at h
    · split at h
      · simp at h
      · rename_i hu
        split at h
        · injection h with h
          subst h
          have := unrd_length _ _ _ _ (Nat.le_refl _) hu
          simpa using this
        · simp at h
set_option maxHeartbeats 2000000 in
set_option maxRecDepth 100000 in
theorem frame_Open (A : Option Addr) (c N : Nat) (b : List UInt8) (w : World) (hr : RB w A b) (hN : b.length = N) (hc : N ≤ c) (hl : N ≤ 1000000000) :
    Calls Tryz.prog 288 #[.slice A N c] w fun e w' => Below w.heap.size w w' ∧ match fopen b with
      | .error ec => e = .returned (.tuple #[.slice none 0 0, .int .i64 ec])
      | .ok o => ∃ A2 c2, e = .returned (.tuple #[.slice A2 o.length c2, .int .i64 0]) ∧ RD w'.heap.size w' A2 o ∧ o.length ≤ c2 := by
  have hU := cobs_Unstuff A c N b w hr hN hc hl
  have herr := unst_err b
  have hlen := unst_length b
  unfold fopen
  cases hu : unst b with
  | error cc =>
    rw [hu] at hU
    have hcc := herr cc hu
    have hne : ((cc : Int) != 0) = true := by simp; omega
    have HU := hid0 hU
    clear hU hu herr hlen
    go_enter Tryz.func288, Tryz.ntmps288
    go_wp2_with (go_at_call 357; go_loud ((with_reducible refine (HU.out).mono ?_); rintro e w1 ⟨hb1, rfl⟩))
    go_ret2
    exact ⟨hb1, rfl⟩
  | ok o =>
    rw [hu] at hU
    have hlo := hlen o hu
    simp only at hU
    clear hu herr hlen
    simp only
    by_cases h8 : o.length < 8
    · rw [if_pos h8]
      have HU := hid0 hU
      clear hU
      go_enter Tryz.func288, Tryz.ntmps288
      go_wp2_with (go_at_call 357; go_loud ((with_reducible refine (HU.out).mono ?_); rintro e w1 ⟨hb1, x, rfl, ho1⟩; obtain ⟨A1, c1, rfl⟩ := own_slice ho1))
      go_ret2
      exact ⟨hb1, rfl⟩
    · rw [if_neg h8]
      have hmf : ∀ (fn : Fn) (first cap : Array Value) (w : World), (Instr.makeFunc fn first cap).run Tryz.prog w = .ok (.func fn first cap) w := fun _ _ _ _ => rfl
      obtain ⟨n, hn⟩ : ∃ n, o.length = n + 8 := ⟨o.length - 8, by omega⟩
      rw [hn] at hU
      have HU := hid0 hU
      clear hU
      have e1 : o.length - 8 = n := by omega
      rw [e1]
      have hn1 : IntKind.i64.wrap (n : Int) = (n : Int) := by apply IntWalk.i64_in <;> omega
      have hxr := xxh_range 0 (o.take n)
      have hS := fun A2 c2 W (h : RB W A2 (o.take n)) => wide_Sum 0 A2 c2 n (o.take n) W (by omega) (by omega) h (by simp; omega) (by rw [maxB_eq]; omega)
      generalize xxh 0 (o.take n) = hx at *
      have HS := hid0 hS
      clear hS
      have hsl1 : ∀ W A1 c1, n + 8 ≤ c1 → (Instr.slice 22 (.slice A1 (n + 8) c1) (some (.int .i64 n)) none none).run Tryz.prog W = .ok (.slice (slA 1 A1 n c1) 8 (c1 - n)) W := fun W A1 c1 _ => by
        have := run_sl_l W A1 (n + 8) c1 n (by omega)
        rwa [show n + 8 - n = 8 from by omega] at this
      have hsl2 : ∀ W A1 c1, n + 8 ≤ c1 → (Instr.slice 22 (.slice A1 (n + 8) c1) none (some (.int .i64 n)) none).run Tryz.prog W = .ok (.slice A1 n c1) W := fun W A1 c1 h => run_sl_h W A1 (n + 8) c1 n (by omega)
      have hsl3 : ∀ W A1 c1, n + 8 ≤ c1 → (Instr.slice 22 (.slice A1 (n + 8) c1) none (some (.int .i64 n)) (some (.int .i64 n))).run Tryz.prog W = .ok (.slice A1 n n) W := fun W A1 c1 h => run_sl_hm W A1 (n + 8) c1 n n (Nat.le_refl _) (by omega)
      have ht8 : (o.drop n).take 8 = o.drop n := List.take_of_length_le (by simp; omega)
      obtain ⟨lv, hlv⟩ : ∃ lv, Hid (lv = leVal (o.drop n)) := ⟨_, rfl⟩
      rw [← hlv.out]
      by_cases heq : lv = hx
      · rw [if_pos heq]
        have hq2 : (lv != hx) = false := by simp [heq]
        go_enter Tryz.func288, Tryz.ntmps288
        go_wp2_with (first
          | (go_at_call 357; go_loud ((with_reducible refine (HU.out).mono ?_); rintro e w1 ⟨hb1, x, rfl, ho1⟩; obtain ⟨A1, c1, rfl⟩ := own_slice ho1; have hc1 := own_cap ho1; have hs1 := fun W => hsl1 W A1 c1 hc1; have hs2 := fun W => hsl2 W A1 c1 hc1; have hs3 := fun W => hsl3 W A1 c1 hc1; clear hsl1 hsl2 hsl3; have hro := RB.ownN ho1 hn; have hrun := cursor_Run 358 #[.pointer (some ⟨w1.heap.size, 0, none⟩)] w1.heap.size (slA 1 A1 n c1) (c1 - n) 8 (o.drop n) none (fun w' => w'.heap[w1.heap.size]? = some (.cells #[.int .u64 lv] 26 (0, 0))) (w1.alloc (.cells #[.int .u64 0] 26)) ((hro.sl n c1 (by omega)).below ((Below.refl _ _).alloc (Nat.le_refl _) _)) (by simp; omega) (by decide) (by simp) enter358 (fun W g hbl hg hcur => by have := frame_Open1 g w1.heap.size 8 0 (o.drop n) W hcur (by decide) (by simp; omega) (blk_below (heap_new w1 _) hbl (by simp)) (by simp at hg; omega); rw [ht8, ← hlv.out] at this; exact this)))
          | (go_at_call 180; go_loud ((with_reducible refine (hrun).mono ?_); rintro e w2 ⟨⟨at2, rfl⟩, W2, hz, hoo, hb2⟩; simp only [resNum]; have hq := blk_below hz hb2 (by simp); have k1 := (blk_cell hq 0).trans rfl)))
        have hsz2 := hoo.size
        simp at hsz2
        have hbW : Below w1.heap.size w1 w2 := (((Below.refl _ _).alloc (Nat.le_refl _) _).trans ⟨hoo.os, hoo.tape, hoo.output, hoo.size, fun k hk => hoo.block k (by simp; omega) (by omega) (by omega)⟩).trans (hb2.mono (by simp))
        have hrd2 : RD w1.heap.size w2 A1 o := (hro.rd).below hbW
        have hs1' := hb1.size
        have hl2 := blk_lt hq
        clear hs1 hrun
        go_region_held3 (fun w' => w'.cell? ⟨w1.heap.size, 0, none⟩ = some (.int .u64 lv)) (first | exact k1 | exact keepc (below_undrew hb3) hl2 k1) (first
          | (go_at_call 306; go_loud ((with_reducible refine (HS.out A1 c1 w2.drew ?_).mono ?_); exact (hrd2.rb).take n; rintro e w3 ⟨rfl, hb3⟩)))
        have hb3' : Below w2.heap.size w2 w3 := below_undrew hb3
        have hbf : Below w.heap.size w w3 := hb1.trans ((hbW.trans (hb3'.mono (by omega))).mono hs1')
        go_wp2
        go_ret2
        have hln : (o.take n).length = n := by simp; omega
        refine ⟨hbf, A1, n, by rw [hln]; rfl, ?_, by omega⟩
        exact (((hrd2.below (hb3'.mono (by omega))).take n).mono (by have := hb3'.size; omega))
      · rw [if_neg heq]
        have hq2 : (lv != hx) = true := by simp [heq]
        go_enter Tryz.func288, Tryz.ntmps288
        go_wp2_with (first
          | (go_at_call 357; go_loud ((with_reducible refine (HU.out).mono ?_); rintro e w1 ⟨hb1, x, rfl, ho1⟩; obtain ⟨A1, c1, rfl⟩ := own_slice ho1; have hc1 := own_cap ho1; have hs1 := fun W => hsl1 W A1 c1 hc1; have hs2 := fun W => hsl2 W A1 c1 hc1; have hs3 := fun W => hsl3 W A1 c1 hc1; clear hsl1 hsl2 hsl3; have hro := RB.ownN ho1 hn; have hrun := cursor_Run 358 #[.pointer (some ⟨w1.heap.size, 0, none⟩)] w1.heap.size (slA 1 A1 n c1) (c1 - n) 8 (o.drop n) none (fun w' => w'.heap[w1.heap.size]? = some (.cells #[.int .u64 lv] 26 (0, 0))) (w1.alloc (.cells #[.int .u64 0] 26)) ((hro.sl n c1 (by omega)).below ((Below.refl _ _).alloc (Nat.le_refl _) _)) (by simp; omega) (by decide) (by simp) enter358 (fun W g hbl hg hcur => by have := frame_Open1 g w1.heap.size 8 0 (o.drop n) W hcur (by decide) (by simp; omega) (blk_below (heap_new w1 _) hbl (by simp)) (by simp at hg; omega); rw [ht8, ← hlv.out] at this; exact this)))
          | (go_at_call 180; go_loud ((with_reducible refine (hrun).mono ?_); rintro e w2 ⟨⟨at2, rfl⟩, W2, hz, hoo, hb2⟩; simp only [resNum]; have hq := blk_below hz hb2 (by simp); have k1 := (blk_cell hq 0).trans rfl)))
        have hsz2 := hoo.size
        simp at hsz2
        have hbW : Below w1.heap.size w1 w2 := (((Below.refl _ _).alloc (Nat.le_refl _) _).trans ⟨hoo.os, hoo.tape, hoo.output, hoo.size, fun k hk => hoo.block k (by simp; omega) (by omega) (by omega)⟩).trans (hb2.mono (by simp))
        have hrd2 : RD w1.heap.size w2 A1 o := (hro.rd).below hbW
        have hs1' := hb1.size
        have hl2 := blk_lt hq
        clear hs1 hrun
        go_region_held3 (fun w' => w'.cell? ⟨w1.heap.size, 0, none⟩ = some (.int .u64 lv)) (first | exact k1 | exact keepc (below_undrew hb3) hl2 k1) (first
          | (go_at_call 306; go_loud ((with_reducible refine (HS.out A1 c1 w2.drew ?_).mono ?_); exact (hrd2.rb).take n; rintro e w3 ⟨rfl, hb3⟩)))
        have hb3' : Below w2.heap.size w2 w3 := below_undrew hb3
        have hbf : Below w.heap.size w w3 := hb1.trans ((hbW.trans (hb3'.mono (by omega))).mono hs1')
        go_wp2
        go_ret2
        exact ⟨hbf, rfl⟩
theorem fopen_err (b : List UInt8) (c : Int) (h : fopen b = .error c) : c = 2 ∨ c = 4 ∨ c = 5 := by
  unfold fopen at h
  split at h
  · rename_i hu
    injection h with h
    subst h
    have := unst_err _ _ hu
    omega
  · split at h
    · simp at h; omega
    · split at h
      · simp at h
      · simp at h; omega
theorem fopen_length (b o : List UInt8) (h : fopen b = .ok o) : o.length ≤ b.length := by
  unfold fopen at h
  split at h
  · simp at h
  · rename_i hu
    split at h
    · simp at h
    · split at h
      · injection h with h
        subst h
        have := unst_length _ _ hu
        simp; omega
      · simp at h
/-- A chunk that is a record's frame. -/
def frec (b : List UInt8) : Except Int (Bool × Int × List UInt8 × List UInt8) :=
  match fopen b with
  | .error c => .error c
  | .ok o => rrec o
theorem frec_err (b : List UInt8) (c : Int) (h : frec b = .error c) : c = 2 ∨ c = 3 ∨ c = 4 ∨ c = 5 := by
  unfold frec at h
  split at h
  · rename_i hu
    injection h with h
    subst h
    have := fopen_err _ _ hu
    omega
  · have := rrec_err _ _ h
    omega
set_option maxHeartbeats 2000000 in
set_option maxRecDepth 100000 in
theorem frame_GetRecord (A : Option Addr) (c N : Nat) (b : List UInt8) (w : World) (hr : RB w A b) (hN : b.length = N) (hc : N ≤ c) (hl : N ≤ 1000000000) :
    Calls Tryz.prog 205 #[.slice A N c] w fun e w' => e = .returned (recOut (frec b)) ∧ Below w.heap.size w w' := by
  obtain ⟨W0, hW0⟩ : ∃ W, W = w.alloc (.cells #[.bool false, .int .u64 0, .string ⟨#[]⟩, .string ⟨#[]⟩] 28) := ⟨_, rfl⟩
  have hb0 : Below w.heap.size w W0 := by rw [hW0]; exact (Below.refl _ _).alloc (Nat.le_refl _) _
  have hg0 : W0.heap[w.heap.size]? = some (.cells #[.bool false, .int .u64 0, .string ⟨#[]⟩, .string ⟨#[]⟩] 28 (0, 0)) := by
    rw [hW0]
    exact heap_new _ _
  have hO := frame_Open A c N b W0 (hr.below hb0) hN hc hl
  have herr := fopen_err b
  have hlen := fopen_length b
  unfold frec
  cases ho : fopen b with
  | error cc =>
    rw [ho] at hO
    have hcc := herr cc ho
    have hne : ((cc : Int) != 0) = true := by simp; omega
    simp only at hO
    have HO := hid0 hO
    clear hO herr hlen ho
    simp only
    go_enter Tryz.func205, Tryz.ntmps205
    go_wp2_with (go_at_call 288; go_loud (rw [← hW0]; (with_reducible refine (HO.out).mono ?_); rintro e w1 ⟨hb1, rfl⟩; have hq2 := blk_below hg0 hb1 (blk_lt hg0); have k1 := (blk_cell hq2 0).trans rfl; have k2 := (blk_cell hq2 1).trans rfl; have k3 := (blk_cell hq2 2).trans rfl; have k4 := (blk_cell hq2 3).trans rfl; have kf := blk_frozen hq2))
    have z0 := blk_set (blk_set (blk_set (blk_set hq2 0 (.bool false)) 1 (.int .u64 0)) 2 (.string ⟨#[]⟩)) 3 (.string ⟨#[]⟩)
    have z1 := (blk_cell z0 0).trans rfl
    have z2 := (blk_cell z0 1).trans rfl
    have z3 := (blk_cell z0 2).trans rfl
    have z4 := (blk_cell z0 3).trans rfl
    refine bodyPost_ret (v := .tuple #[.agg #[.bool false, .int .u64 0, .string ⟨#[]⟩, .string ⟨#[]⟩], .int .i64 cc]) ?_ rfl ⟨rfl, ?_⟩
    · simp [results, Tryz.results205, go_sem, z1, z2, z3, z4]
    · exact ((((hb0.trans (hb1.mono hb0.size)).setCell (by simp) _).setCell (by simp) _).setCell (by simp) _).setCell (by simp) _
  | ok o =>
    rw [ho] at hO
    have hlo := hlen o ho
    simp only at hO
    have HO := hid0 hO
    clear hO herr hlen ho
    simp only
    have hR := fun A2 c2 W h => record_Read A2 c2 _ o W h rfl (by rw [maxB_eq]; omega)
    obtain ⟨d, q, k, v, ec, hrr⟩ : ∃ d q k v ec, recOut (rrec o) = .tuple #[.agg #[.bool d, .int .u64 q, .string k, .string v], .int .i64 ec] := by
      cases rrec o with
      | ok m => obtain ⟨d, q, k, v⟩ := m; exact ⟨_, _, _, _, _, rfl⟩
      | error c => exact ⟨_, _, _, _, _, rfl⟩
    rw [hrr] at hR ⊢
    have HR := hid0 hR
    clear hR hrr
    go_enter Tryz.func205, Tryz.ntmps205
    go_wp2_with (first
      | (go_at_call 288; go_loud (rw [← hW0]; (with_reducible refine (HO.out).mono ?_); rintro e w1 ⟨hb1, A2, c2, rfl, hrd2, hc2⟩))
      | (go_at_call 289; go_loud ((with_reducible refine (HR.out A2 c2 w1 hrd2.rb).mono ?_); rintro e w2 ⟨rfl, hb2⟩; have hq2 := blk_below (blk_below hg0 hb1 (blk_lt hg0)) hb2 (by have := hb1.size; have := blk_lt hg0; omega); have k1 := (blk_cell hq2 0).trans rfl; have k2 := (blk_cell hq2 1).trans rfl; have k3 := (blk_cell hq2 2).trans rfl; have k4 := (blk_cell hq2 3).trans rfl; have kf := blk_frozen hq2)))
    have z0 := blk_set (blk_set (blk_set (blk_set hq2 0 (.bool d)) 1 (.int .u64 q)) 2 (.string k)) 3 (.string v)
    have z1 := (blk_cell z0 0).trans rfl
    have z2 := (blk_cell z0 1).trans rfl
    have z3 := (blk_cell z0 2).trans rfl
    have z4 := (blk_cell z0 3).trans rfl
    refine bodyPost_ret (v := .tuple #[.agg #[.bool d, .int .u64 q, .string k, .string v], .int .i64 ec]) ?_ rfl ⟨rfl, ?_⟩
    · simp [results, Tryz.results205, go_sem, z1, z2, z3, z4]
    · have hbb : Below w.heap.size w w2 := (hb0.trans (hb1.mono hb0.size)).trans (hb2.mono (Nat.le_trans hb0.size hb1.size))
      exact (((hbb.setCell (by simp) _).setCell (by simp) _).setCell (by simp) _).setCell (by simp) _
end Go.Proofs.YtkpacfcklpoanaaGreat
