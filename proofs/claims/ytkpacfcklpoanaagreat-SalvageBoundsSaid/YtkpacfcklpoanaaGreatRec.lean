import Derived.Test.YtkpacfcklpoanaaGreatBuf2
set_option linter.unusedVariables false
set_option linter.unusedSimpArgs false
namespace Go.Proofs.YtkpacfcklpoanaaGreat
open Go.RowKit
/-- May a record be? The error's number. -/
def recCheck (d : Bool) (k v : ByteArray) : Int :=
  if k.size = 0 then 4 else if 4096 < k.size then 3 else if d = true ∧ v.size ≠ 0 then 4 else if 1048576 < v.size then 3 else 0
theorem record_Check (d : Bool) (q : Int) (k v : ByteArray) (w : World) (hk : k.size ≤ maxB) (hv : v.size ≤ maxB) :
    Calls Tryz.prog 215 #[.agg #[.bool d, .int .u64 q, .string k, .string v]] w fun e w' => e = .returned (.int .i64 (recCheck d k v)) ∧ Below w.heap.size w w' := by
  rw [maxB_eq] at hk hv
  go_enter Tryz.func215, Tryz.ntmps215
  go_wp2
  all_goals
    go_ret
    refine ⟨?_, (Below.refl _ _).alloc (Nat.le_refl _) _⟩
    simp only [bs_empty, decide_eq_true_eq, decide_eq_false_iff_not, Bool.not_eq_true', Bool.not_eq_false'] at *
    unfold recCheck
    simp [*]
    try omega
def recBody (d : Bool) (q : Int) (k v : ByteArray) : List UInt8 :=
  [by8 (if d then 3 else 2)] ++ varint q ++ varint k.size ++ k.data.toList ++ (if d then [] else varint v.size ++ v.data.toList)
theorem varint_le (x : Int) : (varint x).length ≤ 10 := vnum_length 9 x
theorem recBody_length (d : Bool) (q : Int) (k v : ByteArray) : (recBody d q k v).length ≤ 31 + k.size + v.size := by
  have h1 := varint_le q
  have h2 := varint_le k.size
  have h3 := varint_le v.size
  unfold recBody
  cases d <;> simp <;> omega
theorem record_Body_err (d : Bool) (q : Int) (k v : ByteArray) (w : World) (hk : k.size ≤ maxB) (hv : v.size ≤ maxB) (he : recCheck d k v ≠ 0) :
    Calls Tryz.prog 242 #[.agg #[.bool d, .int .u64 q, .string k, .string v]] w fun e w' => e = .returned (.tuple #[.slice none 0 0, .int .i64 (recCheck d k v)]) ∧ Below w.heap.size w w' := by
  have hc := fun W => record_Check d q k v W hk hv
  have HC := hid0 hc
  clear hc
  generalize recCheck d k v = e0 at *
  go_enter Tryz.func242, Tryz.ntmps242
  go_wp2_with (go_at_call 215; go_loud (with_reducible refine (HC.out _).mono ?_); rintro e w1 ⟨rfl, hb1⟩)
  go_ret2
  exact ⟨rfl, ((Below.refl _ _).alloc (Nat.le_refl _) _).trans (hb1.mono (by simp))⟩
theorem recCheck_sizes (d : Bool) (k v : ByteArray) (he : recCheck d k v = 0) : 0 < k.size ∧ k.size ≤ 4096 ∧ v.size ≤ 1048576 ∧ (d = true → v.size = 0) := by
  unfold recCheck at he
  split at he
  · cases he
  split at he
  · cases he
  split at he
  · cases he
  split at he
  · cases he
  rename_i h3 _
  refine ⟨by omega, by omega, by omega, fun h => ?_⟩
  rcases Nat.eq_zero_or_pos v.size with h0 | h0
  · exact h0
  · exact absurd ⟨h, by omega⟩ h3
set_option maxRecDepth 100000 in
set_option maxHeartbeats 1000000 in
theorem record_Body_false (q : Int) (k v : ByteArray) (w : World) (hq0 : 0 ≤ q) (hq1 : q ≤ 18446744073709551615) (he : recCheck false k v = 0) :
    Calls Tryz.prog 242 #[.agg #[.bool false, .int .u64 q, .string k, .string v]] w fun e w' => ∃ x, e = .returned (.tuple #[x, .int .i64 0]) ∧ w'.ownsRow w.heap.size 5 1 x (recBody false q k v).length (B8 (recBody false q k v)) ∧ Below w.heap.size w w' := by
  have hkv := recCheck_sizes _ _ _ he
  have hc := fun W => record_Check false q k v W (by rw [maxB_eq]; omega) (by rw [maxB_eq]; omega)
  rw [he] at hc
  have HC := hid0 hc
  clear hc he
  have hv1 := varint_le q
  have hv2 := varint_le k.size
  have hv3 := varint_le v.size
  go_enter Tryz.func242, Tryz.ntmps242
  go_wp2_with (first
    | (go_at_call 215; go_loud ((with_reducible refine (HC.out _).mono ?_); rintro e w1 ⟨rfl, hb1⟩; have hcc : ∀ j, w1.cell? ⟨w.heap.size, j, none⟩ = (#[Value.bool false, .int .u64 q, .string k, .string v])[j]? := (fun j => (hb1.cell (p := ⟨w.heap.size, j, none⟩) (by simp)).trans (blk_cell (heap_new w _) j)); have c01 := (hcc 0).trans rfl; have c11 := (hcc 1).trans rfl; have c21 := (hcc 2).trans rfl; have c31 := (hcc 3).trans rfl; clear hcc; have hz1 : w.heap.size < w1.heap.size := (by have := hb1.size; simp at this; omega)))
    | (go_at_call 295; go_loud ((with_reducible refine (buf_Byte w1.heap.size w1.heap.size [] _ _ (IsBuf.new w1) (Nat.le_refl _) ?_ ?_ ?_).mono ?_); decide; decide; (rw [maxB_eq]; simp); rintro e w2 ⟨rfl, hbuf2, hbl2⟩; have c02 := keepc hbl2 hz1 (allocc c01 _); have c12 := keepc hbl2 hz1 (allocc c11 _); have c22 := keepc hbl2 hz1 (allocc c21 _); have c32 := keepc hbl2 hz1 (allocc c31 _); rw [List.nil_append] at hbuf2; clear c01 c11 c21 c31))
    | (go_at_call 305; go_loud ((with_reducible refine (varint_Put w1.heap.size w1.heap.size _ _ _ hbuf2 (Nat.le_refl _) hq0 hq1 ?_).mono ?_); (rw [maxB_eq]; simp); rintro e w3 ⟨rfl, hbuf3, hbl3⟩; have c03 := keepc hbl3 hz1 c02; have c13 := keepc hbl3 hz1 c12; have c23 := keepc hbl3 hz1 c22; have c33 := keepc hbl3 hz1 c32; clear c02 c12 c22 c32))
    | (go_at_call 321; go_loud ((with_reducible refine (varint_PutText w1.heap.size w1.heap.size _ k _ hbuf3 (Nat.le_refl _) ?_).mono ?_); (rw [maxB_eq]; simp; omega); rintro e w4 ⟨rfl, hbuf4, hbl4⟩; have c04 := keepc hbl4 hz1 c03; have c14 := keepc hbl4 hz1 c13; have c24 := keepc hbl4 hz1 c23; have c34 := keepc hbl4 hz1 c33; clear c03 c13 c23 c33 hbuf3))
    | (go_at_call 321; go_loud ((with_reducible refine (varint_PutText w1.heap.size w1.heap.size _ v _ hbuf4 (Nat.le_refl _) ?_).mono ?_); (rw [maxB_eq]; simp; omega); rintro e w5 ⟨rfl, hbuf5, hbl5⟩))
    | (go_at_call 286; go_loud ((with_reducible refine (buf_Bytes w1.heap.size w1.heap.size _ _ hbuf5 ?_).mono ?_); (rw [maxB_eq]; simp; omega); rintro e w6 ⟨x, rfl, ho6, hbl6⟩)))
  go_ret2
  have hA : Below w1.heap.size w1 w5 := ((((((Below.refl w1.heap.size w1).alloc (Nat.le_refl _) _).trans hbl2).trans hbl3).trans hbl4).trans hbl5)
  have hsz := hA.size
  refine ⟨x, rfl, own_mono (by simpa [recBody] using ho6) (by omega), ?_⟩
  exact ((((Below.refl w.heap.size w).alloc (Nat.le_refl _) _).trans (hb1.mono (by simp))).trans (hA.mono (by omega))).trans (hbl6.mono (by omega))
set_option maxRecDepth 100000 in
set_option maxHeartbeats 1000000 in
theorem record_Body_true (q : Int) (k v : ByteArray) (w : World) (hq0 : 0 ≤ q) (hq1 : q ≤ 18446744073709551615) (he : recCheck true k v = 0) :
    Calls Tryz.prog 242 #[.agg #[.bool true, .int .u64 q, .string k, .string v]] w fun e w' => ∃ x, e = .returned (.tuple #[x, .int .i64 0]) ∧ w'.ownsRow w.heap.size 5 1 x (recBody true q k v).length (B8 (recBody true q k v)) ∧ Below w.heap.size w w' := by
  have hkv := recCheck_sizes _ _ _ he
  have hc := fun W => record_Check true q k v W (by rw [maxB_eq]; omega) (by rw [maxB_eq]; omega)
  rw [he] at hc
  have HC := hid0 hc
  clear hc he
  have hv1 := varint_le q
  have hv2 := varint_le k.size
  have hv3 := varint_le v.size
  go_enter Tryz.func242, Tryz.ntmps242
  go_wp2_with (first
    | (go_at_call 215; go_loud ((with_reducible refine (HC.out _).mono ?_); rintro e w1 ⟨rfl, hb1⟩; have hcc : ∀ j, w1.cell? ⟨w.heap.size, j, none⟩ = (#[Value.bool true, .int .u64 q, .string k, .string v])[j]? := (fun j => (hb1.cell (p := ⟨w.heap.size, j, none⟩) (by simp)).trans (blk_cell (heap_new w _) j)); have c01 := (hcc 0).trans rfl; have c11 := (hcc 1).trans rfl; have c21 := (hcc 2).trans rfl; have c31 := (hcc 3).trans rfl; clear hcc; have hz1 : w.heap.size < w1.heap.size := (by have := hb1.size; simp at this; omega)))
    | (go_at_call 295; go_loud ((with_reducible refine (buf_Byte w1.heap.size w1.heap.size [] _ _ (IsBuf.new w1) (Nat.le_refl _) ?_ ?_ ?_).mono ?_); decide; decide; (rw [maxB_eq]; simp); rintro e w2 ⟨rfl, hbuf2, hbl2⟩; have c02 := keepc hbl2 hz1 (allocc c01 _); have c12 := keepc hbl2 hz1 (allocc c11 _); have c22 := keepc hbl2 hz1 (allocc c21 _); have c32 := keepc hbl2 hz1 (allocc c31 _); rw [List.nil_append] at hbuf2; clear c01 c11 c21 c31))
    | (go_at_call 305; go_loud ((with_reducible refine (varint_Put w1.heap.size w1.heap.size _ _ _ hbuf2 (Nat.le_refl _) hq0 hq1 ?_).mono ?_); (rw [maxB_eq]; simp); rintro e w3 ⟨rfl, hbuf3, hbl3⟩; have c03 := keepc hbl3 hz1 c02; have c13 := keepc hbl3 hz1 c12; have c23 := keepc hbl3 hz1 c22; have c33 := keepc hbl3 hz1 c32; clear c02 c12 c22 c32))
    | (go_at_call 321; go_loud ((with_reducible refine (varint_PutText w1.heap.size w1.heap.size _ k _ hbuf3 (Nat.le_refl _) ?_).mono ?_); (rw [maxB_eq]; simp; omega); rintro e w4 ⟨rfl, hbuf4, hbl4⟩; have c04 := keepc hbl4 hz1 c03; have c14 := keepc hbl4 hz1 c13; have c24 := keepc hbl4 hz1 c23; have c34 := keepc hbl4 hz1 c33; clear c03 c13 c23 c33 hbuf3))
    | (go_at_call 286; go_loud ((with_reducible refine (buf_Bytes w1.heap.size w1.heap.size _ _ hbuf4 ?_).mono ?_); (rw [maxB_eq]; simp; omega); rintro e w6 ⟨x, rfl, ho6, hbl6⟩)))
  go_ret2
  have hA : Below w1.heap.size w1 w4 := (((((Below.refl w1.heap.size w1).alloc (Nat.le_refl _) _).trans hbl2).trans hbl3).trans hbl4)
  have hsz := hA.size
  refine ⟨x, rfl, own_mono (by simpa [recBody] using ho6) (by omega), ?_⟩
  exact ((((Below.refl w.heap.size w).alloc (Nat.le_refl _) _).trans (hb1.mono (by simp))).trans (hA.mono (by omega))).trans (hbl6.mono (by omega))
theorem record_Body_ok (d : Bool) (q : Int) (k v : ByteArray) (w : World) (hq0 : 0 ≤ q) (hq1 : q ≤ 18446744073709551615) (he : recCheck d k v = 0) :
    Calls Tryz.prog 242 #[.agg #[.bool d, .int .u64 q, .string k, .string v]] w fun e w' => ∃ x, e = .returned (.tuple #[x, .int .i64 0]) ∧ w'.ownsRow w.heap.size 5 1 x (recBody d q k v).length (B8 (recBody d q k v)) ∧ Below w.heap.size w w' := by
  cases d with
  | false => exact record_Body_false q k v w hq0 hq1 he
  | true => exact record_Body_true q k v w hq0 hq1 he
end Go.Proofs.YtkpacfcklpoanaaGreat
