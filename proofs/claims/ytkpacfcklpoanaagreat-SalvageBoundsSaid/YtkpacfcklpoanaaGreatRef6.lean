import Derived.Test.YtkpacfcklpoanaaGreatRef5
set_option linter.unusedVariables false
set_option linter.unusedSimpArgs false
namespace Go.Proofs.YtkpacfcklpoanaaGreat
open Go.RowKit
theorem tw_app (a r : List UInt8) (h : ∀ x ∈ a, x ≠ 0) : tw (a ++ r) = a.length + tw r := by
  induction a with
  | nil => simp
  | cons x a ih =>
    have hx := h x (by simp)
    have := ih (fun y hy => h y (by simp [hy]))
    have hx' : (x != 0) = true := by simpa using hx
    simp only [tw] at this ⊢
    simp only [List.cons_append, List.takeWhile_cons, hx', if_true, List.length_cons]
    omega
theorem tw_nz (a : List UInt8) (h : ∀ x ∈ a, x ≠ 0) : tw a = a.length := by
  have := tw_app a [] h
  simpa [tw] using this
/-- What is still to come of a stuffing. -/
def stuffT (now rest : List UInt8) (fresh : Bool) : List UInt8 := if fresh = true ∧ now = [] ∧ rest = [] then [] else stuff (now ++ rest)
theorem stuffT_end (now : List UInt8) (fresh : Bool) (h : ∀ x ∈ now, x ≠ 0) (hl : now.length < 254) (hf : ¬ (fresh = true ∧ now = [])) : stuffT now [] fresh = by8 (now.length + 1) :: now := by
  unfold stuffT
  rw [if_neg (fun h => hf ⟨h.1, h.2.1⟩), List.append_nil, stuff, if_neg (by rw [tw_nz now h]; omega), if_neg (by omega)]
theorem stuffT_zero (now r : List UInt8) (fresh : Bool) (h : ∀ x ∈ now, x ≠ 0) (hl : now.length < 254) : stuffT now (0 :: r) fresh = by8 (now.length + 1) :: (now ++ stuffT [] r false) := by
  unfold stuffT
  have ht : tw (now ++ 0 :: r) = now.length := by rw [tw_app now _ h]; simp [tw]
  rw [if_neg (by simp), if_neg (by simp), stuff, if_pos (by rw [ht]; simp; omega), ht]
  have e1 : List.take now.length (now ++ 0 :: r) = now := by simp
  have e2 : List.drop (now.length + 1) (now ++ 0 :: r) = r := by simp
  rw [e1, e2, List.nil_append]
theorem stuffT_more (now r : List UInt8) (x : UInt8) (fresh fresh' : Bool) : stuffT now (x :: r) fresh = stuffT (now ++ [x]) r fresh' := by
  unfold stuffT
  rw [if_neg (by simp), if_neg (by simp)]
  simp
theorem stuffT_full (now r : List UInt8) (x : UInt8) (fresh : Bool) (h : ∀ y ∈ now, y ≠ 0) (hx : x ≠ 0) (hl : now.length + 1 = 254) : stuffT now (x :: r) fresh = 255 :: (now ++ [x] ++ stuffT [] r true) := by
  have h' : ∀ y ∈ now ++ [x], y ≠ 0 := by
    intro y hy
    simp at hy
    rcases hy with hy | rfl
    · exact h y hy
    · exact hx
  have hll : (now ++ [x]).length = 254 := by simp; omega
  rw [stuffT_more now r x fresh false]
  generalize now ++ [x] = n at *
  unfold stuffT
  rw [if_neg (by simp)]
  by_cases hr : r = []
  · subst hr
    rw [List.append_nil, stuff, if_neg (by rw [tw_nz n h']; omega), if_neg (by omega), if_pos ⟨rfl, rfl, rfl⟩, hll]
    simp
    rfl
  · have hrl : 0 < r.length := by cases r <;> simp_all
    rw [if_neg (fun h => hr h.2.2), stuff, if_neg (by rw [tw_app n r h']; omega), if_pos (by simp; omega)]
    have e1 : List.take 254 (n ++ r) = n := by rw [← hll]; simp
    have e2 : List.drop 254 (n ++ r) = r := by rw [← hll]; simp
    rw [e1, e2, List.nil_append]
def freshAt (al : List UInt8) (i : Nat) : Bool := decide (0 < i ∧ al.getD (i - 1) 0 ≠ 0)
set_option maxHeartbeats 4000000 in
set_option maxRecDepth 100000 in
theorem ref_Stuff (s : List UInt8) (w : World) (hlen : s.length ≤ 1000000000) :
    Calls Tryz.prog 200 #[.string ⟨s.toArray⟩] w fun e w' => e = .returned (.string ⟨(stuff s).toArray⟩) ∧ Below w.heap.size w w' := by
  have hsz := bs_size
  obtain ⟨al, hal⟩ : ∃ al, Hid (al = s ++ [0]) := ⟨s ++ [0], hid0 rfl⟩
  have hll : al.length = s.length + 1 := by rw [hal.out]; simp
  have hcat : (⟨s.toArray⟩ : ByteArray) ++ ⟨#[0]⟩ = ⟨al.toArray⟩ := by rw [hal.out]; exact bs_append s [0]
  go_enter Tryz.func200, Tryz.ntmps200
  go_wp2
  go_loopw [4, 5, 6] (fun o b i wr => ∃ (k : Nat) (out now : List UInt8), k ≤ s.length + 1 ∧ i = .int .i64 k ∧ o = .string ⟨out.toArray⟩ ∧ b = .string ⟨now.toArray⟩ ∧ (∀ x ∈ now, x ≠ 0) ∧ now.length < 254 ∧ out.length + now.length ≤ 2 * k ∧
     Hid (if k ≤ s.length then out ++ stuffT now (s.drop k) (freshAt al k) = stuff s else out = stuff s) ∧ Below w.heap.size w wr) (fun _ _ i _ => s.length + 2 - (intOf i).toNat)
  case atStart => exact ⟨0, [], [], by omega, rfl, rfl, rfl, by simp, by simp, by simp, by show _; simp [Hid, stuffT, freshAt], Below.refl _ _⟩
  case round =>
    obtain ⟨k, out, now, hk, rfl, rfl, rfl, hnz, hn, hon, hinv, hbl⟩ := hrel
    by_cases hend : k = s.length + 1
    · have ho : out = stuff s := by have := hinv.out; rwa [if_neg (by omega)] at this
      subst hend
      go_wp2
      go_ret
      exact ⟨by rw [ho]; rfl, hbl⟩
    · have hkl : k < al.length := by omega
      have hbg := bs_get al k hkl
      have hinv' : Hid (out ++ stuffT now (s.drop k) (freshAt al k) = stuff s) := by have := hinv.out; rw [if_pos (by omega)] at this; exact this
      clear hinv
      by_cases hlast : k = s.length
      · have hx0 : al[k] = 0 := by
          have : al[k]? = some 0 := by rw [hal.out, hlast]; simp
          rw [List.getElem?_eq_getElem hkl] at this
          injection this
        have hxe : (((0 : UInt8).toNat : Int) == 0) = true := rfl
        have hdn : s.drop k = [] := List.drop_eq_nil_of_le (by omega)
        have HDN := hid0 hdn
        clear hdn
        subst hlast
        rw [hx0] at hbg
        by_cases hfr : freshAt al s.length = true ∧ now = []
        · obtain ⟨hf1, rfl⟩ := hfr
          have ho : out = stuff s := by rw [← hinv'.out, HDN.out]; simp [stuffT, hf1]
          have hf2 : 0 < s.length ∧ al.getD (s.length - 1) 0 ≠ 0 := by simpa [freshAt] using hf1
          have hk1 : s.length - 1 < al.length := by omega
          have hbg1 := bs_get al (s.length - 1) hk1
          have hne : ((al[s.length - 1].toNat : Int) != 0) = true := by
            have h9 := hf2.2
            simp only [List.getD, List.getElem?_eq_getElem hk1, Option.getD_some] at h9
            have : al[s.length - 1].toNat ≠ 0 := fun h => h9 (UInt8.toNat.inj h)
            simp; omega
          have HO := hid0 ho
          clear ho
          go_wp2
          go_ret
          exact ⟨by rw [← HO.out]; rfl, hbl⟩
        · have hinv2 : Hid (out ++ (by8 (now.length + 1) :: now) = stuff s) := by
            have := hinv'.out
            rw [HDN.out, stuffT_end now _ hnz hn hfr] at this
            exact this
          have h8 : ((by8 ((now.length : Int) + 1)).toNat : Int) = (now.length : Int) + 1 := by rw [by8_toNat]; omega
          have hcv := run_conv_22_9 (wr.alloc (.cells #[.int .u8 ((now.length : Int) + 1)] 5)) (some ⟨wr.heap.size, 0, none⟩) 1 1 [by8 ((now.length : Int) + 1)] (RB.one wr _ _ h8) rfl
          have hc2 : (⟨out.toArray⟩ : ByteArray) ++ ⟨#[by8 ((now.length : Int) + 1)]⟩ = ⟨(out ++ [by8 ((now.length : Int) + 1)]).toArray⟩ := bs_append out [by8 ((now.length : Int) + 1)]
          have hc3 := bs_append (out ++ [by8 ((now.length : Int) + 1)]) now
          have hfin : ∀ W, Below w.heap.size w W → (∃ (k : Nat) (out' now' : List UInt8), k ≤ s.length + 1 ∧ Value.int .i64 ((s.length : Int) + 1) = .int .i64 k ∧ Value.string ⟨(out ++ by8 ((now.length : Int) + 1) :: now).toArray⟩ = .string ⟨out'.toArray⟩ ∧ Value.string ⟨#[]⟩ = .string ⟨now'.toArray⟩ ∧ (∀ x ∈ now', x ≠ 0) ∧ now'.length < 254 ∧ out'.length + now'.length ≤ 2 * k ∧ Hid (if k ≤ s.length then out' ++ stuffT now' (s.drop k) (freshAt al k) = stuff s else out' = stuff s) ∧ Below w.heap.size w W) := fun W hW => by
            refine ⟨s.length + 1, _, [], by omega, by go_num, rfl, rfl, by simp, by simp, by simp; omega, ?_, hW⟩
            show (if s.length + 1 ≤ s.length then _ else _)
            rw [if_neg (by omega), ← hinv2.out]
          have hms : s.length + 2 - (intOf (Value.int .i64 ((s.length : Int) + 1))).toNat < s.length + 2 - (intOf (Value.int .i64 (s.length : Int))).toNat := by simp [intOf]
          by_cases hnow : now = []
          · subst hnow
            have hcv0 := run_conv_22_9 (wr.alloc (.cells #[.int .u8 1] 5)) (some ⟨wr.heap.size, 0, none⟩) 1 1 [by8 1] (RB.one wr 1 (by8 1) rfl) rfl
            have hc20 : (⟨out.toArray⟩ : ByteArray) ++ ⟨#[by8 1]⟩ = ⟨(out ++ [by8 1]).toArray⟩ := bs_append out [by8 1]
            have hc30 : (⟨(out ++ [by8 1]).toArray⟩ : ByteArray) ++ ⟨#[]⟩ = ⟨(out ++ [by8 1]).toArray⟩ := by have := bs_append (out ++ [by8 1]) []; simpa using this
            have HF := hid0 hfin
            clear hfin hcv hc2 hc3
            by_cases hk0 : s.length = 0
            · have hgt : decide (0 < s.length) = false := decide_eq_false (by omega)
              have HK := hid0 hk0
              clear hk0 hfr
              go_wp2
              go_roundw
              case rel => exact HF.out _ (hbl.alloc hbl.size _)
              case measure => exact hms
            · have hgt : decide (0 < s.length) = true := decide_eq_true (by omega)
              have hk1 : s.length - 1 < al.length := by omega
              have hbg1 := bs_get al (s.length - 1) hk1
              have hz : al[s.length - 1] = 0 := by
                refine Classical.byContradiction fun h => hfr ⟨?_, rfl⟩
                unfold freshAt
                simp [List.getD, List.getElem?_eq_getElem hk1, h]
                omega
              rw [hz] at hbg1
              have hne : (((0 : UInt8).toNat : Int) != 0) = false := rfl
              clear hfr
              go_wp2
              go_roundw
              case rel => exact HF.out _ (hbl.alloc hbl.size _)
              case measure => exact hms
          · have hnb : (now == []) = false := by simpa using hnow
            go_wp2
            go_roundw
            case rel => exact hfin _ (hbl.alloc hbl.size _)
            case measure => exact hms
      · have hks : k < s.length := by omega
        obtain ⟨x, hx⟩ : ∃ x, Hid (x = s[k]) := ⟨s[k], hid0 rfl⟩
        have hxs : al[k] = x := by
          have : al[k]? = s[k]? := by rw [hal.out, List.getElem?_append_left hks]
          rw [List.getElem?_eq_getElem hkl, List.getElem?_eq_getElem hks] at this
          injection this with this
          rw [this, hx.out]
        have hdk : s.drop k = x :: s.drop (k + 1) := by rw [hx.out]; exact List.drop_eq_getElem_cons hks
        have HDK := hid0 hdk
        clear hdk
        have hfr : freshAt al (k + 1) = decide (x ≠ 0) := by
          unfold freshAt
          simp [List.getD, hkl, hxs]
        have HFR := hid0 hfr
        clear hfr
        by_cases hx0 : x = 0
        · have hxe : ((x.toNat : Int) == 0) = true := by rw [hx0]; rfl
          have hke : ((k : Int) == (s.length : Int)) = false := by simp; omega
          have h8 : ((by8 ((now.length : Int) + 1)).toNat : Int) = (now.length : Int) + 1 := by rw [by8_toNat]; omega
          have hcv := run_conv_22_9 (wr.alloc (.cells #[.int .u8 ((now.length : Int) + 1)] 5)) (some ⟨wr.heap.size, 0, none⟩) 1 1 [by8 ((now.length : Int) + 1)] (RB.one wr _ _ h8) rfl
          have hc2 : (⟨out.toArray⟩ : ByteArray) ++ ⟨#[by8 ((now.length : Int) + 1)]⟩ = ⟨(out ++ [by8 ((now.length : Int) + 1)]).toArray⟩ := bs_append out [by8 ((now.length : Int) + 1)]
          have hc3 := bs_append (out ++ [by8 ((now.length : Int) + 1)]) now
          go_wp2
          go_roundw
          case rel =>
            refine ⟨k + 1, out ++ [by8 ((now.length : Int) + 1)] ++ now, [], by omega, by go_num, by first | rfl | simp, rfl, by simp, by simp, by simp; omega, ?_, hbl.alloc hbl.size _⟩
            show (if k + 1 ≤ s.length then _ else _)
            rw [if_pos (by omega), HFR.out, ← hinv'.out, HDK.out, hx0, stuffT_zero now _ _ hnz hn]
            simp
          case measure => simp [intOf]; omega
        · have hxe : ((x.toNat : Int) == 0) = false := by
            have : x.toNat ≠ 0 := fun h => hx0 (UInt8.toNat.inj h)
            simp; omega
          have hsl : ∀ W, (Instr.slice 9 (.string ⟨al.toArray⟩) (some (.int .i64 k)) (some (.int .i64 ((k : Int) + 1))) none).run Tryz.prog W = .ok (.string ⟨#[x]⟩) W := fun W => by
            have := run_ssl_lh W al k (k + 1) (by omega) (by omega)
            rw [List.drop_eq_getElem_cons hkl, show k + 1 - k = 1 from by omega, hxs] at this
            exact this
          have hc1 : (⟨now.toArray⟩ : ByteArray) ++ ⟨#[x]⟩ = ⟨(now ++ [x]).toArray⟩ := bs_append now [x]
          have hc2 : (⟨out.toArray⟩ : ByteArray) ++ ⟨#[255]⟩ = ⟨(out ++ [255]).toArray⟩ := bs_append out [255]
          have hc3 := bs_append (out ++ [255]) (now ++ [x])
          by_cases hfull : now.length + 1 = 254
          · go_wp2
            go_roundw
            case rel =>
              refine ⟨k + 1, out ++ [255] ++ (now ++ [x]), [], by omega, by go_num, by first | rfl | simp, rfl, by simp, by simp, by simp; omega, ?_, hbl⟩
              show (if k + 1 ≤ s.length then _ else _)
              rw [if_pos (by omega), HFR.out, ← hinv'.out, HDK.out, stuffT_full now _ x _ hnz hx0 hfull]
              simp [hx0]
            case measure => simp [intOf]; omega
          · go_wp2
            go_roundw
            case rel =>
              refine ⟨k + 1, out, now ++ [x], by omega, by go_num, rfl, by first | rfl | simp, ?_, by simp; omega, by simp; omega, ?_, hbl⟩
              · intro y hy
                simp at hy
                rcases hy with hy | rfl
                · exact hnz y hy
                · exact hx0
              · show (if k + 1 ≤ s.length then _ else _)
                rw [if_pos (by omega), ← hinv'.out, HDK.out, stuffT_more now _ x _ (freshAt al (k + 1))]
            case measure => simp [intOf]; omega
end Go.Proofs.YtkpacfcklpoanaaGreat
