import Derived.Deep.RegionHeld
import Derived.Test.YtkpacfcklpoanaaGreatRef2
set_option linter.unusedVariables false
set_option linter.unusedSimpArgs false
namespace Go.Proofs.YtkpacfcklpoanaaGreat
open Go.RowKit
/-- What is held while a record in a box is read. -/
def HR (w : World) (q : Int) (k v : Value) (W : World) : Prop :=
  Below (w.heap.size + 1) (w.alloc (.cells #[.bool false, .int .u64 q, k, v] 28)) W
theorem held_next {w W W' : World} {B g : Nat} {a b c : Value} (h : Below B w W ∧ W.cell? ⟨g, 1, none⟩ = some a ∧ W.cell? ⟨g, 2, none⟩ = some b ∧ W.cell? ⟨g, 3, none⟩ = some c) (hb : Below W.heap.size W W') (hB : B ≤ w.heap.size) :
    Below B w W' ∧ W'.cell? ⟨g, 1, none⟩ = some a ∧ W'.cell? ⟨g, 2, none⟩ = some b ∧ W'.cell? ⟨g, 3, none⟩ = some c := by
  obtain ⟨h1, h2, h3, h4⟩ := h
  have hg : g < W.heap.size := World.block_lt_of_cell? W _ h2
  exact ⟨h1.trans (hb.mono (Nat.le_trans hB h1.size)), keepc hb hg h2, keepc hb hg h3, keepc hb hg h4⟩
set_option maxRecDepth 100000 in
set_option maxHeartbeats 2000000 in
theorem ref_Body (d : Bool) (q : Int) (k v : List UInt8) (w : World) (h0 : 0 ≤ q) (h1 : q ≤ 18446744073709551615) (hk : k.length ≤ 1000000000) (hv : v.length ≤ 1000000000) :
    Calls Tryz.prog 114 #[.agg #[.bool d, .int .u64 q, .string ⟨k.toArray⟩, .string ⟨v.toArray⟩]] w fun e w' =>
      e = .returned (.string ⟨(recBody d q ⟨k.toArray⟩ ⟨v.toArray⟩).toArray⟩) ∧ Below w.heap.size w w' := by
  have hN := fun W => ref_Num2 q W h0 h1
  have hK := fun W => ref_Text k W hk
  have hV := fun W => ref_Text v W hv
  have l1 := varint_le q
  have l2 := varint_le k.length
  have l3 := varint_le v.length
  have hrb : recBody d q ⟨k.toArray⟩ ⟨v.toArray⟩ = [by8 (if d then 3 else 2)] ++ varint q ++ (varint k.length ++ k) ++ (if d then [] else varint v.length ++ v) := by
    unfold recBody
    rw [bs_size, bs_size]
    simp
  rw [hrb]
  generalize varint q = vq at *
  obtain ⟨tk, htk⟩ : ∃ tk, tk = varint k.length ++ k := ⟨_, rfl⟩
  obtain ⟨tv, htv⟩ : ∃ tv, tv = varint v.length ++ v := ⟨_, rfl⟩
  have lk : tk.length ≤ 1000000010 := by rw [htk]; simp; omega
  have lv : tv.length ≤ 1000000010 := by rw [htv]; simp; omega
  rw [← htk] at hK ⊢
  rw [← htv] at hV ⊢
  clear htk htv l2 l3 hrb
  have HN := hid0 hN
  have HK := hid0 hK
  have HV := hid0 hV
  clear hN hK hV
  have hg : ∀ o, (w.alloc o).heap[w.heap.size]? = some o := fun o => heap_new w o
  cases d with
  | true =>
    have c0 := fun W => run_cat [by8 3] vq (by simp; omega) W
    have c1 := fun W => run_cat ([by8 3] ++ vq) tk (by simp; omega) W
    have e0 : (by8 3) = 3 := rfl
    obtain ⟨W0, hW0⟩ : ∃ W0, W0 = w.alloc (.cells #[.bool true, .int .u64 q, .string ⟨k.toArray⟩, .string ⟨v.toArray⟩] 28) := ⟨_, rfl⟩
    have hh : W0.heap[w.heap.size]? = some (.cells #[.bool true, .int .u64 q, .string ⟨k.toArray⟩, .string ⟨v.toArray⟩] 28 (0, 0)) := by rw [hW0]; exact heap_new _ _
    have hB : Below w.heap.size w W0 := by rw [hW0]; exact (Below.refl _ _).alloc (Nat.le_refl _) _
    have k1 := (blk_cell hh 1).trans rfl
    have k2 := (blk_cell hh 2).trans rfl
    have k3 := (blk_cell hh 3).trans rfl
    go_enter Tryz.func114, Tryz.ntmps114
    go_wp2
    rw [← hW0]
    clear hW0
    have hq : Below w.heap.size w W0.drew ∧ W0.drew.cell? ⟨w.heap.size, 1, none⟩ = some (.int .u64 q) ∧ W0.drew.cell? ⟨w.heap.size, 2, none⟩ = some (.string ⟨k.toArray⟩) ∧ W0.drew.cell? ⟨w.heap.size, 3, none⟩ = some (.string ⟨v.toArray⟩) := ⟨hB.drew, k1, k2, k3⟩
    go_region_held (fun w' => Below w.heap.size w w' ∧ w'.cell? ⟨w.heap.size, 1, none⟩ = some (.int .u64 q) ∧ w'.cell? ⟨w.heap.size, 2, none⟩ = some (.string ⟨k.toArray⟩) ∧ w'.cell? ⟨w.heap.size, 3, none⟩ = some (.string ⟨v.toArray⟩)) (first | exact hq | exact ⟨hB, k1, k2, k3⟩) (first
      | (go_at_call 202; go_loud ((with_reducible refine (HN.out _).mono ?_); rintro e wn ⟨rfl, hbn⟩; have hq := held_next hq hbn (Nat.le_refl _)))
      | (go_at_call 203; go_loud ((with_reducible refine (HK.out _).mono ?_); rintro e wn ⟨rfl, hbn⟩; have hq := held_next hq hbn (Nat.le_refl _))))
    all_goals
      go_wp2
      go_ret
      refine ⟨?_, hq.1⟩
      show Ending.returned (.string ((⟨[3].toArray⟩ : ByteArray) ++ ⟨vq.toArray⟩ ++ ⟨tk.toArray⟩)) = _
      rw [bs_append, bs_append]
      simp [e0]
  | false =>
    have c0 := fun W => run_cat [by8 2] vq (by simp; omega) W
    have c1 := fun W => run_cat ([by8 2] ++ vq) tk (by simp; omega) W
    have c2 := fun W => run_cat ([by8 2] ++ vq ++ tk) tv (by simp; omega) W
    have e0 : (by8 2) = 2 := rfl
    obtain ⟨W0, hW0⟩ : ∃ W0, W0 = w.alloc (.cells #[.bool false, .int .u64 q, .string ⟨k.toArray⟩, .string ⟨v.toArray⟩] 28) := ⟨_, rfl⟩
    have hh : W0.heap[w.heap.size]? = some (.cells #[.bool false, .int .u64 q, .string ⟨k.toArray⟩, .string ⟨v.toArray⟩] 28 (0, 0)) := by rw [hW0]; exact heap_new _ _
    have hB : Below w.heap.size w W0 := by rw [hW0]; exact (Below.refl _ _).alloc (Nat.le_refl _) _
    have k1 := (blk_cell hh 1).trans rfl
    have k2 := (blk_cell hh 2).trans rfl
    have k3 := (blk_cell hh 3).trans rfl
    go_enter Tryz.func114, Tryz.ntmps114
    go_wp2
    rw [← hW0]
    clear hW0
    have hq : Below w.heap.size w W0.drew ∧ W0.drew.cell? ⟨w.heap.size, 1, none⟩ = some (.int .u64 q) ∧ W0.drew.cell? ⟨w.heap.size, 2, none⟩ = some (.string ⟨k.toArray⟩) ∧ W0.drew.cell? ⟨w.heap.size, 3, none⟩ = some (.string ⟨v.toArray⟩) := ⟨hB.drew, k1, k2, k3⟩
    go_region_held (fun w' => Below w.heap.size w w' ∧ w'.cell? ⟨w.heap.size, 1, none⟩ = some (.int .u64 q) ∧ w'.cell? ⟨w.heap.size, 2, none⟩ = some (.string ⟨k.toArray⟩) ∧ w'.cell? ⟨w.heap.size, 3, none⟩ = some (.string ⟨v.toArray⟩)) (first | exact hq | exact ⟨hB, k1, k2, k3⟩) (first
      | (go_at_call 202; go_loud ((with_reducible refine (HN.out _).mono ?_); rintro e wn ⟨rfl, hbn⟩; have hq := held_next hq hbn (Nat.le_refl _)))
      | (go_at_call 203; go_loud ((with_reducible refine (HK.out _).mono ?_); rintro e wn ⟨rfl, hbn⟩; have hq := held_next hq hbn (Nat.le_refl _)))
      | (go_at_call 203; go_loud ((with_reducible refine (HV.out _).mono ?_); rintro e wn ⟨rfl, hbn⟩; have hq := held_next hq hbn (Nat.le_refl _))))
    all_goals
      go_wp2
      go_ret
      refine ⟨?_, hq.1⟩
      show Ending.returned (.string ((⟨[2].toArray⟩ : ByteArray) ++ ⟨vq.toArray⟩ ++ ⟨tk.toArray⟩ ++ ⟨tv.toArray⟩)) = _
      rw [bs_append, bs_append, bs_append]
      simp [e0]
end Go.Proofs.YtkpacfcklpoanaaGreat
