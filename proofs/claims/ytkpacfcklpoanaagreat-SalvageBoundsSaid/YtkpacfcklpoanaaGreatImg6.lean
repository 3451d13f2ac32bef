/- Do records rise? -/
import Derived.Test.YtkpacfcklpoanaaGreatImg5
import Derived.Test.YtkpacfcklpoanaaGreatSalv
import Derived.Test.YtkpacfcklpoanaaGreatRef2
set_option linter.unusedVariables false
set_option linter.unusedSimpArgs false
namespace Go.Proofs.YtkpacfcklpoanaaGreat
open Go.RowKit
abbrev Rc := Bool × Int × List UInt8 × List UInt8
def encR (r : Rc) : List Value := [.bool r.1, .int .u64 r.2.1, S8 r.2.2.1, S8 r.2.2.2]
theorem infoR : (Tryz.prog.info? 28).map (fun i => (i.zero.map (·.cells.size), i.size, i.bytes)) = some (some 4, 4, 48) := by kernel_rfl
theorem rowR : Row 49 28 4 48 encR := row_of Tryz.underlying49 infoR (by decide) (fun _ => rfl) (fun a u hu => by simp [encR, S8] at hu; rcases hu with rfl | rfl | rfl | rfl <;> rfl)
def ROk (r : Rc) : Prop := 0 ≤ r.2.1 ∧ r.2.1 ≤ 18446744073709551615 ∧ r.2.2.1.length ≤ maxB ∧ r.2.2.2.length ≤ maxB
def rchk (r : Rc) : Int := recCheck r.1 ⟨r.2.2.1.toArray⟩ ⟨r.2.2.2.toArray⟩
def chkAll : List Rc → Int
  | [] => 0
  | r :: l => if rchk r ≠ 0 then rchk r else chkAll l
def ordErr : List Rc → Int
  | a :: b :: l => if b.2.1 ≤ a.2.1 then 8 else ordErr (b :: l)
  | _ => 0
def risErr (l : List Rc) : Int := if chkAll l ≠ 0 then chkAll l else ordErr l
/-- A struct's cells in a row. -/
theorem row_elem {α : Type} {enc : α → List Value} {size : Nat} (hl : ∀ a, (enc a).length = size) {w : World} {a : Addr} {xs : List α} (h : ∀ j u, (rowOf enc xs)[j]? = some u → w.cell? (a.add j) = some u) {k : Nat} {x : α} (hx : xs[k]? = some x) (j : Nat) (u : Value) (hj : (enc x)[j]? = some u) :
    w.cell? (if j = 0 then a.add (k * size) else ⟨(a.add (k * size)).block, (a.add (k * size)).off + j, none⟩) = some u := by
  have hjl : j < size := by rw [← hl x]; exact (List.getElem?_eq_some_iff.1 hj).1
  have h1 := h (k * size + j) u ((rowOf_at hl xs k j hjl x hx).trans hj)
  by_cases h0 : j = 0
  · subst h0; rw [if_pos rfl]; exact h1
  · rw [if_neg h0, ← addr_off _ _ h0, addr_add_add]; exact h1
theorem recs_at {w : World} {a : Addr} {l : List Rc} (h : ∀ j u, (rowOf encR l)[j]? = some u → w.cell? (a.add j) = some u) {k : Nat} {r : Rc} (hk : l[k]? = some r) :
    w.cell? (a.add (k * 4)) = some (.bool r.1) ∧ w.cell? ⟨(a.add (k * 4)).block, (a.add (k * 4)).off + 1, none⟩ = some (.int .u64 r.2.1) ∧ w.cell? ⟨(a.add (k * 4)).block, (a.add (k * 4)).off + 2, none⟩ = some (.string ⟨r.2.2.1.toArray⟩) ∧ w.cell? ⟨(a.add (k * 4)).block, (a.add (k * 4)).off + 3, none⟩ = some (.string ⟨r.2.2.2.toArray⟩) :=
  ⟨row_elem (size := 4) (fun _ => rfl) h hk 0 _ rfl, row_elem (size := 4) (fun _ => rfl) h hk 1 _ rfl, row_elem (size := 4) (fun _ => rfl) h hk 2 _ rfl, row_elem (size := 4) (fun _ => rfl) h hk 3 _ rfl⟩
theorem rows_pos {α : Type} {enc : α → List Value} {size : Nat} (hl : ∀ a, (enc a).length = size) (hs : 0 < size) {l : List α} {k : Nat} (h : k < l.length) : 0 < (rowOf enc l).length := by
  rw [rowOf_length hl]
  exact Nat.mul_pos (by omega) hs
set_option maxRecDepth 100000 in
set_option maxHeartbeats 1000000 in
theorem record_Rising (A : Option Addr) (cp N : Nat) (l : List Rc) (w : World) (hr : RV encR w A l) (hN : l.length = N) (hNl : N ≤ 1000000) (hok : ∀ r ∈ l, ROk r) :
    Calls Tryz.prog 208 #[.slice A N cp] w fun e w' => e = .returned (.int .i64 (risErr l)) ∧ Below w.heap.size w w' := by
  have hr0 := hr.rvd
  obtain ⟨res, hres⟩ : ∃ res, Hid (res = risErr l) := ⟨_, hid0 rfl⟩
  rw [← hres.out]
  go_enter Tryz.func208, Tryz.ntmps208
  go_wp2
  go_loopw [4, 5, 9] (fun _ _ i wr => ∃ (k : Nat), k ≤ N ∧ i = .int .i64 k ∧ Hid (chkAll (l.drop k) = chkAll l) ∧ Below w.heap.size w wr) (fun _ _ i _ => N - (intOf i).toNat)
  case atStart => exact ⟨0, by omega, rfl, hid0 (by rw [List.drop_zero]), Below.refl _ _⟩
  case round =>
    obtain ⟨k, hk, rfl, hch, hbl⟩ := hrel
    by_cases hlt : k < N
    · obtain ⟨a, rfl, hal, hcell⟩ := (hr0.below hbl) (rows_pos (k := k) (size := 4) (fun _ => rfl) (by decide) (by omega))
      have hkn : k < l.length := by omega
      have hget : l[k]? = some l[k] := List.getElem?_eq_getElem hkn
      obtain ⟨k0, k1, k2, k3⟩ := recs_at hcell hget
      have hrk := hok l[k] (List.getElem_mem hkn)
      obtain ⟨r, hr1⟩ : ∃ r, Hid (r = l[k]) := ⟨_, hid0 rfl⟩
      have hdk : l.drop k = r :: l.drop (k + 1) := by rw [hr1.out]; exact List.drop_eq_getElem_cons hkn
      have HDK := hid0 hdk
      clear hdk hget hcell
      rw [← hr1.out] at k0 k1 k2 k3 hrk
      obtain ⟨c, hc⟩ : ∃ c, Hid (c = rchk r) := ⟨_, hid0 rfl⟩
      have HC : Hid (∀ W, Calls Tryz.prog 215 #[.agg #[.bool r.1, .int .u64 r.2.1, .string ⟨r.2.2.1.toArray⟩, .string ⟨r.2.2.2.toArray⟩]] W fun e w' => e = .returned (.int .i64 c) ∧ Below W.heap.size W w') :=
        hid0 (fun W => by rw [hc.out]; exact record_Check r.1 r.2.1 ⟨r.2.2.1.toArray⟩ ⟨r.2.2.2.toArray⟩ W (by rw [bs_size]; exact hrk.2.2.1) (by rw [bs_size]; exact hrk.2.2.2))
      have hch2 : Hid (chkAll (l.drop k) = chkAll (r :: l.drop (k + 1))) := hid0 (by rw [HDK.out])
      have hbA := hbl.alloc hbl.size (.cells #[.bool r.1, .int .u64 r.2.1, .string ⟨r.2.2.1.toArray⟩, .string ⟨r.2.2.2.toArray⟩] 28)
      by_cases h0 : c = 0
      · subst h0
        have hbz : ((0 : Int) != 0) = false := rfl
        go_wp2_with (go_at_call 215; go_loud ((with_reducible refine (HC.out _).mono ?_); rintro e w1 ⟨rfl, hb1⟩))
        go_roundw
        case rel => exact ⟨k + 1, by omega, by go_num, hid0 (by rw [← hch.out, hch2.out, chkAll, if_neg (by rw [← hc.out]; simp)]), hbA.trans (hb1.mono hbA.size)⟩
        case measure => simp [intOf]; omega
      · have hbz : ((c : Int) != 0) = true := by simpa using h0
        go_wp2_with (go_at_call 215; go_loud ((with_reducible refine (HC.out _).mono ?_); rintro e w1 ⟨rfl, hb1⟩))
        go_ret
        have h9 : chkAll l = c := by rw [← hch.out, hch2.out, chkAll, if_pos (by rw [← hc.out]; exact h0), hc.out]
        refine ⟨?_, hbA.trans (hb1.mono hbA.size)⟩
        rw [hres.out, risErr, h9, if_pos h0]
        rfl
    · have h9 : Hid (res = ordErr l) := hid0 (by
        have h8 := hch.out
        rw [List.drop_eq_nil_of_le (by omega)] at h8
        rw [hres.out, risErr, ← h8, chkAll, if_neg (by simp)])
      clear hch hres
      go_wp2
      go_loopw [6] (fun i wr => ∃ (k : Nat), k ≤ N ∧ i = .int .i64 ((k : Int) + 1) ∧ Hid (ordErr (l.drop k) = ordErr l) ∧ Below w.heap.size w wr) (fun i _ => N + 1 - (intOf i).toNat)
      case atStart => exact ⟨0, by omega, rfl, hid0 (by rw [List.drop_zero]), hbl⟩
      case round =>
        obtain ⟨k, hk, rfl, hch, hbl⟩ := hrel
        by_cases hlt : k + 1 < N
        · obtain ⟨a, rfl, hal, hcell⟩ := (hr0.below hbl) (rows_pos (k := k) (size := 4) (fun _ => rfl) (by decide) (by omega))
          have hkn : k < l.length := by omega
          have hkn1 : k + 1 < l.length := by omega
          obtain ⟨_, x1, _, _⟩ := recs_at hcell (List.getElem?_eq_getElem hkn)
          obtain ⟨_, y1, _, _⟩ := recs_at hcell (List.getElem?_eq_getElem hkn1)
          have hdk : l.drop k = l[k] :: l[k + 1] :: l.drop (k + 2) := by rw [List.drop_eq_getElem_cons hkn, List.drop_eq_getElem_cons hkn1]
          have hdk1 : l.drop (k + 1) = l[k + 1] :: l.drop (k + 2) := List.drop_eq_getElem_cons hkn1
          have HDK := hid0 hdk
          have HDK1 := hid0 hdk1
          clear hdk hdk1 hcell
          have hrk := hok l[k] (List.getElem_mem hkn)
          have hrk1 := hok l[k + 1] (List.getElem_mem hkn1)
          generalize l[k] = r at *
          generalize l[k + 1] = s at *
          go_wp2
          go_quiet (fail)
          go_wp2
          · have hq : s.2.1 ≤ r.2.1 := by assumption
            go_ret
            refine ⟨?_, bdrewN hbl _⟩
            rw [h9.out, ← hch.out, HDK.out, ordErr, if_pos hq]
            rfl
          · have hq : r.2.1 < s.2.1 := by assumption
            go_roundw
            case rel => exact ⟨k + 1, by omega, by go_num, hid0 (by rw [HDK1.out, ← hch.out, HDK.out, ordErr, if_neg (by omega)]), bdrewN hbl _⟩
            case measure => simp [intOf]; omega
        · go_wp2
          go_ret
          refine ⟨?_, hbl⟩
          rw [h9.out, ← hch.out]
          have h7 : l.drop k = [] ∨ ∃ x, l.drop k = [x] := by
            cases hd : l.drop k with
            | nil => exact .inl rfl
            | cons x m =>
              cases m with
              | nil => exact .inr ⟨x, rfl⟩
              | cons y m => have := congrArg List.length hd; simp at this; omega
          rcases h7 with h7 | ⟨x, h7⟩ <;> rw [h7] <;> rfl
end Go.Proofs.YtkpacfcklpoanaaGreat
