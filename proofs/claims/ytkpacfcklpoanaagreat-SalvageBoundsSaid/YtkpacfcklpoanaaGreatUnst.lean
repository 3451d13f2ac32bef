import Derived.Test.YtkpacfcklpoanaaGreatFrame
import Derived.Test.YtkpacfcklpoanaaGreatRow
set_option linter.unusedVariables false
set_option linter.unusedSimpArgs false
namespace Go.Proofs.YtkpacfcklpoanaaGreat
open Go.RowKit
theorem bytes_Equal (A B : Option Addr) (c d N M : Nat) (l m : List UInt8) (w : World) (hl : RB w A l) (hm : RB w B m) (hN : l.length = N) (hM : m.length = M) :
    Calls Tryz.prog 150 #[.slice A N c, .slice B M d] w fun e w' => e = .returned (.bool (l == m)) ∧ w = w' := by
  have h1 := run_conv_22_9 w A c N l hl hN
  have h2 := run_conv_22_9 w B d M m hm hM
  go_enter Tryz.func150, Tryz.ntmps150
  go_wp2
  go_ret
  exact ⟨rfl, rfl⟩
/-- What the bytes are that were stuffed so. -/
def unrd (b out : List UInt8) : Option (List UInt8) :=
  match b with
  | [] => some out
  | n :: r =>
    if r.length + 1 < n.toNat then none
    else unrd (r.drop (n.toNat - 1)) (out ++ r.take (n.toNat - 1) ++ (if n.toNat ≤ 254 ∧ 0 < (r.drop (n.toNat - 1)).length then [0] else []))
termination_by b.length
decreasing_by simp; omega
def unst (b : List UInt8) : Except Int (List UInt8) :=
  if 0 ≤ idx b 0 then .error 4
  else if b.length = 0 then .error 2
  else match unrd b [] with
    | none => .error 2
    | some out => if stuff out == b then .ok out else .error 4
theorem unrd_length (n : Nat) : ∀ b out o, b.length ≤ n → unrd b out = some o → o.length ≤ out.length + b.length := by
  induction n with
  | zero => intro b out o hb h; obtain rfl : b = [] := by cases b <;> simp_all
            rw [unrd] at h; injection h with h; subst h; simp
  | succ n ih =>
    intro b out o hb h
    cases b with
    | nil => rw [unrd] at h; injection h with h; subst h; simp
    | cons x r =>
      rw [unrd] at h
      split at h
      · simp at h
      · have := ih _ _ _ (by simp at hb ⊢; omega) h
        have h2 : (if x.toNat ≤ 254 ∧ 0 < (r.drop (x.toNat - 1)).length then [(0 : UInt8)] else []).length ≤ 1 := by split <;> simp
        simp at this h2 ⊢
        omega
theorem idx_mem (b : List UInt8) (h : ¬ 0 ≤ idx b 0) : ∀ x ∈ b, x ≠ 0 := by
  induction b with
  | nil => simp
  | cons y l ih =>
    unfold idx at *
    simp only [Lib.indexByte] at h
    by_cases hy : y = 0
    · subst hy; simp at h
    · have hy' : (y == 0) = false := by simpa using hy
      rw [hy'] at h
      simp only [Bool.false_eq_true, if_false] at h
      intro x hx
      simp at hx
      rcases hx with rfl | hx
      · exact hy
      · refine ih (fun hh => h ?_) x hx
        split
        · rename_i h1
          simp at h1
          omega
        · omega
set_option maxHeartbeats 2000000 in
set_option maxRecDepth 100000 in
theorem cobs_Unstuff (A : Option Addr) (c N : Nat) (b : List UInt8) (w : World) (hr : RB w A b) (hN : b.length = N) (hc : N ≤ c) (hl : N ≤ 1000000000) :
    Calls Tryz.prog 357 #[.slice A N c] w fun e w' => Below w.heap.size w w' ∧ match unst b with
      | .error ec => e = .returned (.tuple #[.slice none 0 0, .int .i64 ec])
      | .ok o => ∃ x, e = .returned (.tuple #[x, .int .i64 0]) ∧ w'.ownsRow w.heap.size 5 1 x o.length (B8 o) := by
  have hr0 := hr.rd
  have hix := bytes_IndexByte0 A c N b w hr hN
  have HIX := hid0 hix
  clear hix
  unfold unst
  by_cases hz : 0 ≤ idx b 0
  · rw [if_pos hz]
    generalize idx b 0 = ix at *
    go_enter Tryz.func357, Tryz.ntmps357
    go_wp2_with (go_at_call 250; go_loud ((with_reducible refine (HIX.out).mono ?_); rintro e w' ⟨rfl, rfl⟩))
    go_ret2
    exact ⟨Below.refl _ _, rfl⟩
  rw [if_neg hz]
  have hmem := idx_mem b hz
  generalize idx b 0 = ix at *
  by_cases h0 : b.length = 0
  · rw [if_pos h0]
    obtain rfl : N = 0 := by omega
    go_enter Tryz.func357, Tryz.ntmps357
    go_wp2_with (go_at_call 250; go_loud ((with_reducible refine (HIX.out).mono ?_); rintro e w' ⟨rfl, rfl⟩))
    go_ret2
    exact ⟨Below.refl _ _, rfl⟩
  rw [if_neg h0]
  obtain ⟨res, hres⟩ : ∃ res, Hid (res = unrd b []) := ⟨_, rfl⟩
  have hN0 : ((N : Int) == 0) = false := by simp; omega
  rw [← hres.out]
  go_enter Tryz.func357, Tryz.ntmps357
  go_wp2_with (go_at_call 250; go_loud ((with_reducible refine (HIX.out).mono ?_); rintro e w' ⟨rfl, rfl⟩))
  go_loopw [4, 5, 6] (fun o a _ wr => ∃ (A2 : Option Addr) (c2 : Nat) (m : List UInt8) (A3 : Option Addr) (c3 : Nat) (xs : List UInt8), a = .slice A2 m.length c2 ∧ RD w.heap.size wr A2 m ∧ m.length ≤ c2 ∧ (∀ x ∈ m, x ≠ 0) ∧
     o = .slice A3 xs.length c3 ∧ wr.ownsRow w.heap.size 5 1 (.slice A3 xs.length c3) xs.length (B8 xs) ∧ Hid (res = unrd m xs) ∧ xs.length + m.length ≤ N ∧ Below w.heap.size w wr) (fun _ a _ _ => slN a)
  case atStart => exact ⟨A, c, b, none, 0, [], by rw [hN], hr0, by omega, hmem, rfl, own_nil _ _ _ _, hres, by simp; omega, Below.refl _ _⟩
  case round =>
    obtain ⟨A2, c2, m, A3, c3, xs, rfl, hrd, hmc, hm0, rfl, how, hst, hlen, hbl⟩ := hrel
    cases m with
    | nil =>
      have hres2 : res = some xs := by rw [hst.out, unrd]
      subst hres2
      have hsz := hbl.size
      go_wp2_with (first
        | (go_at_call 323; go_loud ((with_reducible refine (cobs_Stuff A3 c3 _ xs wr (RB.own how) rfl (own_cap how) ?_).mono ?_); (simp at hlen; omega); rintro e w1 ⟨x, rfl, ho1, hb1⟩; obtain ⟨A4, c4, rfl⟩ := own_slice ho1))
        | (go_at_call 150; go_loud ((with_reducible refine (bytes_Equal A4 A c4 c _ N (stuff xs) b w1 (RB.own ho1) ?_ rfl hN).mono ?_); exact (hr0.below (hbl.trans (hb1.mono hsz))).rb; rintro e w2 ⟨rfl, rfl⟩)))
      all_goals
        first
          | (exfalso; simp_all; done)
          | (go_ret2; exact ⟨hbl.trans (hb1.mono hsz), rfl⟩)
          | (go_ret2; exact ⟨hbl.trans (hb1.mono hsz), _, rfl, own_keep how hb1⟩)
    | cons n r =>
      have hn0 : n ≠ 0 := hm0 n (by simp)
      have hn1 : 0 < n.toNat := Nat.pos_of_ne_zero fun h => hn0 (UInt8.toNat.inj h)
      obtain ⟨a2, rfl, hab, hcell⟩ := hrd (by simp)
      have hc0 : wr.cell? a2 = some (.int .u8 (n.toNat : Int)) := by have := hcell 0 (by simp); simpa [Addr.add] using this
      have hn2 := n.toNat_lt
      simp only [List.length_cons] at *
      by_cases hbig : r.length + 1 < n.toNat
      · have hres2 : res = none := by rw [hst.out, unrd, if_pos hbig]
        subst hres2
        go_wp2
        go_ret2
        exact ⟨hbl, rfl⟩
      · have hsl1 : ∀ W, (Instr.slice 22 (.slice (some a2) (r.length + 1) c2) (some (.int .i64 1)) (some (.int .i64 (n.toNat : Int))) none).run Tryz.prog W = .ok (.slice (slA 1 (some a2) 1 c2) (n.toNat - 1) (c2 - 1)) W := fun W => run_sl_lh W (some a2) (r.length + 1) c2 1 n.toNat (by omega) (by omega)
        have hsl2 : ∀ W, (Instr.slice 22 (.slice (some a2) (r.length + 1) c2) (some (.int .i64 (n.toNat : Int))) none none).run Tryz.prog W = .ok (.slice (slA 1 (some a2) n.toNat c2) (r.length + 1 - n.toNat) (c2 - n.toNat)) W := fun W => run_sl_l W (some a2) (r.length + 1) c2 n.toNat (by omega)
        have hrl : (r.take (n.toNat - 1)).length = n.toNat - 1 := by simp; omega
        have hrdd : RD w.heap.size wr (slA 1 (some a2) 1 c2) r := by have := hrd.sl 1 c2 (by simpa using hmc); simpa using this
        have hrde : RD w.heap.size wr (slA 1 (some a2) n.toNat c2) (r.drop (n.toNat - 1)) := by
          have := hrd.sl n.toNat c2 (by simpa using hmc)
          obtain ⟨k, hk⟩ : ∃ k, n.toNat = k + 1 := ⟨n.toNat - 1, by omega⟩
          rw [hk] at this ⊢
          simpa using this
        have hst2 : Hid (res = unrd (r.drop (n.toNat - 1)) (xs ++ r.take (n.toNat - 1) ++ (if n.toNat ≤ 254 ∧ 0 < (r.drop (n.toNat - 1)).length then [0] else []))) := by
          have := hst.out
          rw [unrd, if_neg hbig] at this
          exact this
        have hdl : (r.drop (n.toNat - 1)).length = r.length + 1 - n.toNat := by simp; omega
        obtain ⟨rd, hrdq⟩ : ∃ rd, Hid (rd = r.drop (n.toNat - 1)) := ⟨_, rfl⟩
        rw [← hrdq.out] at hst2 hrde hdl
        have hmem2 : ∀ x ∈ rd, x ≠ 0 := fun x hx => hm0 x (by rw [hrdq.out] at hx; exact List.mem_cons_of_mem _ (List.mem_of_mem_drop hx))
        have hsz := hbl.size
        clear hst
        by_cases hone : n.toNat ≤ 254 ∧ 0 < rd.length
        · rw [if_pos hone] at hst2
          obtain ⟨ho1, ho2⟩ := hone
          have hge : n.toNat < r.length + 1 := by omega
          go_wp2_with (first
            | (at_builtin; go_loud (refine append_b rfl _ _ rfl w.heap.size (.slice A3 xs.length c3) xs rfl ?_ (slA 1 (some a2) 1 c2) (c2 - 1) (n.toNat - 1) (r.take (n.toNat - 1)) hrl rfl ?_ ?_ ?_ ?_; exact how; exact hrdd.rb.take _; (rw [maxB_eq]; omega); exact hsz; intro A4 c4 x1 w4 HX1 hx1 ho4 hg4; have hbw4 : Below w.heap.size wr w4 := (Below.refl _ wr).grown hg4 hsz (own_base how)))
            | (at_builtin; go_loud (refine append_b rfl _ _ rfl w.heap.size (.slice A4 x1.length c4) x1 rfl (ho4.alloc _) (some ⟨w4.heap.size, 0, none⟩) 1 1 [0] rfl rfl ?_ ?_ ?_ ?_; exact RB.one _ 0 _ rfl; (have h9 := HX1.out; subst h9; rw [maxB_eq]; simp; omega); (have := hbw4.size; simp; omega); intro A5 c5 x2 w5 HX2 hx2 ho5 hg5)))
          have hx2 : x2 = xs ++ r.take (n.toNat - 1) ++ [0] := by rw [HX2.out, HX1.out]
          have hs4 := hbw4.size
          have hbw5 : Below w.heap.size wr w5 := (hbw4.alloc (by omega) _).grown hg5 (by simp; omega) (own_base ho4)
          have hxl : x2.length = xs.length + (n.toNat - 1) + 1 := by rw [hx2]; simp; omega
          go_roundw
          case rel =>
            refine ⟨slA 1 (some a2) n.toNat c2, c2 - n.toNat, rd, A5, c5, x2, by rw [hdl], hrde.below hbw5, by omega, hmem2, rfl, ho5, by rw [hx2]; exact hst2, by omega, hbl.trans hbw5⟩
          case measure => simp [slN]; omega
        · rw [if_neg hone, List.append_nil] at hst2
          go_wp2_with (first
            | (at_builtin; go_loud (refine append_b rfl _ _ rfl w.heap.size (.slice A3 xs.length c3) xs rfl ?_ (slA 1 (some a2) 1 c2) (c2 - 1) (n.toNat - 1) (r.take (n.toNat - 1)) hrl rfl ?_ ?_ ?_ ?_; exact how; exact hrdd.rb.take _; (rw [maxB_eq]; omega); exact hsz; intro A4 c4 x1 w4 HX1 hx1 ho4 hg4; have hbw4 : Below w.heap.size wr w4 := (Below.refl _ wr).grown hg4 hsz (own_base how))))
          all_goals
            have hx1 : x1 = xs ++ r.take (n.toNat - 1) := by rw [HX1.out]
            have hxl : x1.length = xs.length + (n.toNat - 1) := by rw [hx1]; simp; omega
            go_roundw
            case rel =>
              refine ⟨slA 1 (some a2) n.toNat c2, c2 - n.toNat, rd, A4, c4, x1, by rw [hdl], hrde.below hbw4, by omega, hmem2, rfl, ho4, by rw [hx1]; exact hst2, by omega, hbl.trans hbw4⟩
            case measure => simp [slN]; omega
end Go.Proofs.YtkpacfcklpoanaaGreat
