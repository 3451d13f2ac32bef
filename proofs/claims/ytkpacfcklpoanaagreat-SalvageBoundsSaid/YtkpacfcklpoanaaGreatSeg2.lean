/- A segment's builder: a record more. -/
import Derived.Test.YtkpacfcklpoanaaGreatSeg1
set_option linter.unusedVariables false
set_option linter.unusedSimpArgs false
namespace Go.Proofs.YtkpacfcklpoanaaGreat
open Go.RowKit
theorem set5in7 {w : World} {g : Nat} {t : TypeId} {a0 a1 a2 a3 a4 a5 a6 : Value} (h : w.heap[g]? = some (.cells #[a0, a1, a2, a3, a4, a5, a6] t (0, 0))) (b0 b1 b2 b3 b4 : Value) :
    (((((w.setCell ⟨g, 0, none⟩ b0).setCell ⟨g, 1, none⟩ b1).setCell ⟨g, 2, none⟩ b2).setCell ⟨g, 3, none⟩ b3).setCell ⟨g, 4, none⟩ b4).heap[g]? = some (.cells #[b0, b1, b2, b3, b4, a5, a6] t (0, 0)) :=
  (blk_set (blk_set (blk_set (blk_set (blk_set h 0 b0) 1 b1) 2 b2) 3 b3) 4 b4).trans rfl
theorem own_ne2 {w : World} {b1 b2 n1 n2 s1 s2 : Nat} {e1 e2 : TypeId} {v1 v2 : Value} {xs ys : List Value} (h1 : w.ownsRow b1 e1 s1 v1 n1 xs) (h2 : w.ownsRow b2 e2 s2 v2 n2 ys) (hne : e1 ≠ e2) : v1.ownBlock = none ∨ v1.ownBlock ≠ v2.ownBlock := own_own_ne h1 h2 hne
theorem enter218 (args : Array Value) (W : World) : (callFunc 218 args).run Tryz.prog W = .ok (.enter 218 args) W := enters_of Tryz.func218 (by kernel_rfl) rfl args W
/-- A call of a Go function of one argument, at a step of a region that draws its order. -/
theorem step_call1 {w : World} {ops : Array Oper} {o : Oper} {a : Act} {K : Act → World → Prop} {Q : Exit → Act → World → Prop} {E : Prop} (f : FuncId) (hf : ∀ args W, (callFunc f args).run Tryz.prog W = .ok (.enter f args) W) (hgd : o.guard = none) (x : Operand) (ty : TypeId)
    (ho : o.op = .call { callee := .value (.func f), args := #[x], argTypes := #[ty] }) (v : Value) (hv : a.eval x = v) (R : Ending → World → Prop) (hc : Calls Tryz.prog f #[v] w R) (h : ∀ e w', R e w' → ∃ u, e = .returned u ∧ K (a.put o.dst u) w') :
    if Region.wanted o (yielded ops a.tmps) = true then Oper.wp Tryz.prog o a w K Q else E := by
  have hw : Region.wanted o (yielded ops a.tmps) = true := by simp [Region.wanted, hgd]
  rw [if_pos hw]
  have hx : (execOp a.eval o).run Tryz.prog w = .ok (.enter f #[v]) w := by
    have hF : a.eval (.func f) = .func (.func f) #[] #[] := rfl
    simp [execOp, ho, resolve, invoke, hv, hf, hF, Deferred.ofValue]
  unfold Oper.wp
  rw [hx, Oper.upon_enter]
  refine hc.mono fun e w' hr => ?_
  obtain ⟨u, rfl, hk⟩ := h e w' hr
  exact hk
set_option maxRecDepth 100000 in
set_option maxHeartbeats 600000 in
theorem segment_Add (b base ex sg nr : Nat) (fr : List UInt8) (tb : List En) (r : Rc) (w : World) (hB : IsB w b base ex sg nr fr tb) (hcf : cfgErr ex sg = 0) (hok : ROk r) (hrc : rchk r = 0)
    (f1 : roomFits ex sg (hlen ex sg (sg - 1)) 0 (rfr r).length = true) (f2 : roomFits ex sg fr.length tb.length (rfr r).length = true) (htb : tb.length ≤ 100000) (hbb : base ≤ b) (hbw : base ≤ w.heap.size) :
    Calls Tryz.prog 125 #[.pointer (some ⟨b, 0, none⟩), .agg #[.bool r.1, .int .u64 r.2.1, .string ⟨r.2.2.1.toArray⟩, .string ⟨r.2.2.2.toArray⟩]] w fun e w' =>
      e = .returned (.tuple #[.int .u32 fr.length, .int .i64 0]) ∧ IsB w' b base ex sg nr (fr ++ rfr r) (tb ++ [(xxh 0 r.2.2.1, fr.length)]) ∧ Below base w w' := by
  obtain ⟨A, c, A2, cc2, h1, h2, h3⟩ := hB
  have hcfo := cfgErr_ok hcf
  have hle := roomFits_le f2
  have hky := (recCheck_sizes _ _ _ hrc).2.1
  rw [bs_size] at hky
  have hfl := rfr_length r hrc
  have hbl := blk_lt h1
  have HC := hid0 (fun W => record_Check r.1 r.2.1 ⟨r.2.2.1.toArray⟩ ⟨r.2.2.2.toArray⟩ W (by rw [bs_size]; exact hok.2.2.1) (by rw [bs_size]; exact hok.2.2.2))
  rw [show recCheck r.1 ⟨r.2.2.1.toArray⟩ ⟨r.2.2.2.toArray⟩ = 0 from hrc] at HC
  have HF := hid0 (fun W => frame_PutRecord_ok r.1 r.2.1 ⟨r.2.2.1.toArray⟩ ⟨r.2.2.2.toArray⟩ W hok.1 hok.2.1 hrc)
  change Hid (∀ W, Calls Tryz.prog 157 _ W fun e w' => ∃ x, e = .returned (.tuple #[x, .int .i64 0]) ∧ w'.ownsRow W.heap.size 5 1 x (rfr r).length (B8 (rfr r)) ∧ Below W.heap.size W w') at HF
  have HT := hid0 (fun W => pack_TooLarge ex sg (rfr r).length W hcf)
  rw [show (head ex sg (sg - 1)).length = hlen ex sg (sg - 1) from rfl, f1] at HT
  have HK := hid0 (fun W => pack_Take ex sg nr fr.length tb.length (rfr r).length W (by omega) (by omega) (by omega) (by omega) f2)
  have HH := hid0 (fun W => table_Hash r.2.2.1 W (by omega))
  have hxr := xxh_range 0 r.2.2.1
  obtain ⟨f, hf⟩ : ∃ f, Hid (f = rfr r) := ⟨_, hid0 rfl⟩
  rw [← hf.out] at HF HT HK hle hfl
  obtain ⟨hs, hhs⟩ : ∃ h, Hid (h = xxh 0 r.2.2.1) := ⟨_, hid0 rfl⟩
  rw [← hhs.out] at HH hxr
  rw [← hf.out, ← hhs.out]
  have hz32 : (fr.length : Int) % 4294967296 = fr.length := by omega
  clear hcf hok hrc f1 f2
  have hbA := (Below.refl w.heap.size w).alloc (Nat.le_refl _) (.cells #[.bool r.1, .int .u64 r.2.1, .string ⟨r.2.2.1.toArray⟩, .string ⟨r.2.2.2.toArray⟩] 28)
  go_enter Tryz.func125, Tryz.ntmps125
  go_wp2_with (first
    | (go_at_call 215; go_loud ((with_reducible refine (HC.out _).mono ?_); rintro e w1 ⟨rfl, hb1⟩; have X1 := blk_below (heap_new w _) hb1 (by simp); have B1 := blk_below h1 (hbA.trans (hb1.mono hbA.size)) hbl; obtain ⟨x0, x1, x2, x3⟩ := c4 X1))
    | (go_at_call 157; go_loud ((with_reducible refine (HF.out _).mono ?_); rintro e w2 ⟨x, rfl, ho2, hb2⟩; obtain ⟨A3, c3, rfl⟩ := own_slice ho2; have B2 := blk_below B1 hb2 (blk_lt B1); obtain ⟨y0, y1, y2, y3, y4, y5, y6⟩ := c7 B2))
    | (go_at_call 216; go_loud ((with_reducible refine (HT.out _).mono ?_); rintro e w3 ⟨rfl, hb3⟩; have B3 := blk_below B2 hb3 (blk_lt B2); obtain ⟨z0, z1, z2, z3, z4, z5, z6⟩ := c7 B3))
    | (go_at_call 217; go_loud ((with_reducible refine (HK.out _).mono ?_); rintro e w4 ⟨rfl, hb4⟩; have B4 := blk_below B3 hb4 (blk_lt B3); have B5 := blk_alloc B4 (.cells #[.int .u8 ex, .int .u32 sg, .int .u32 nr, .int .i64 ((fr.length : Int) + f.length), .int .i64 ((tb.length : Int) + 1)] 221); obtain ⟨u0, u1, u2, u3, u4, u5, u6⟩ := c7 B5; have uf := blk_frozen B5; have hw1 := hbA.trans (hb1.mono hbA.size); have hw2 := hw1.trans (hb2.mono hw1.size); have hw3 := hw2.trans (hb3.mono hw2.size); have hw4 := hw3.trans (hb4.mono hw3.size); have o4 := own_keep h2 hw4; have t4 := own_keep h3 hw4; have hb24 := hb3.trans (hb4.mono hb3.size); have q4 := own_keep ho2 hb24; have X4 := blk_below X1 (hb2.trans (hb24.mono hb2.size)) (blk_lt X1); have hz4 := hw4.size; have n1 := Ne.symm (own_ne B4 o4 (by decide)); have n2 := Ne.symm (own_ne B4 q4 (by decide)); have n3 := Ne.symm (own_ne B4 t4 (by decide))))
    | (at_builtin; go_loud (refine append_b rfl _ _ rfl base (.slice A fr.length c) fr rfl (ofar5 (World.ownsRow.alloc o4 _) n1 _ _ _ _ _) A3 c3 f.length f rfl rfl (RB.own (ofar5 (World.ownsRow.alloc q4 _) n2 _ _ _ _ _)) ?_ ?_ ?_; (rw [maxB_eq]; omega); (simp; omega); intro A7 c7' m7 w7 HM7 hm7 ho7 hg7; have B7 := blk_grown (set5in7 (blk_alloc B4 _) _ _ _ _ _) hg7 (own_ne B4 o4 (by decide)); obtain ⟨v0, v1, v2, v3, v4, v5, v6⟩ := c7 B7; have vf := blk_frozen B7)))
  have T7 := World.ownsRow.kept (ofar5 (World.ownsRow.alloc t4 (.cells #[.int .u8 ex, .int .u32 sg, .int .u32 nr, .int .i64 ((fr.length : Int) + f.length), .int .i64 ((tb.length : Int) + 1)] 221)) n3 (.int .u8 ex) (.int .u32 sg) (.int .u32 nr) (.int .i64 ((fr.length : Int) + f.length)) (.int .i64 ((tb.length : Int) + 1))) hg7 (own_own_ne t4 o4 (by decide))
  have X7 := blk_grown (far5 (blk_alloc X4 (.cells #[.int .u8 ex, .int .u32 sg, .int .u32 nr, .int .i64 ((fr.length : Int) + f.length), .int .i64 ((tb.length : Int) + 1)] 221)) (show w.heap.size ≠ b by omega) (.int .u8 ex) (.int .u32 sg) (.int .u32 nr) (.int .i64 ((fr.length : Int) + f.length)) (.int .i64 ((tb.length : Int) + 1))) hg7 (own_ne X4 o4 (by decide))
  have n7 := Ne.symm (own_ne B7 ho7 (by decide))
  have p7 := Ne.symm (own_ne B7 T7 (by decide))
  have B8 : (w7.setCell ⟨b, 5, none⟩ (.slice A7 m7.length c7')).heap[b]? = some (.cells #[.int .u8 ex, .int .u32 sg, .int .u32 nr, .int .i64 ((fr.length : Int) + f.length), .int .i64 ((tb.length : Int) + 1), .slice A7 m7.length c7', .slice A2 tb.length cc2] 329 (0, 0)) := (blk_set B7 5 _).trans rfl
  have F8 := own_far ho7 ⟨b, 5, none⟩ (.slice A7 m7.length c7') n7
  have T8 := own_far T7 ⟨b, 5, none⟩ (.slice A7 m7.length c7') p7
  have X8 := blk_far X7 (p := ⟨b, 5, none⟩) (show w.heap.size ≠ b by omega) (.slice A7 m7.length c7')
  have hW4 : Below base w w4 := hw4.mono hbw
  have hB7 := (bset5 (hW4.alloc (by omega) (.cells #[.int .u8 ex, .int .u32 sg, .int .u32 nr, .int .i64 ((fr.length : Int) + f.length), .int .i64 ((tb.length : Int) + 1)] 221)) hbb (.int .u8 ex) (.int .u32 sg) (.int .u32 nr) (.int .i64 ((fr.length : Int) + f.length)) (.int .i64 ((tb.length : Int) + 1))).grown hg7 (by simp; omega) (own_base h2)
  have hB8 := below_setG hB7 hbb 5 (.slice A7 m7.length c7')
  generalize w7.setCell ⟨b, 5, none⟩ (.slice A7 m7.length c7') = W8 at *
  clear v0 v1 v2 v3 v4 v5 v6 vf u0 u1 u2 u3 u4 u5 u6 uf z0 z1 z2 z3 z4 z5 z6 y0 y1 y2 y3 y4 y5 y6 x0 x1 x2 x3
  obtain ⟨i0, i1, i2, i3, i4, i5, i6⟩ := c7 B8
  obtain ⟨e0, e1, e2, e3⟩ := c4 X8
  have hz8 := hB8.size
  go_region_law (first
    | (refine step_call1 218 enter218 rfl (.tmp 68) 9 rfl (.string ⟨r.2.2.1.toArray⟩) rfl (fun e w' => e = .returned (.int .u64 hs) ∧ Below W8.drew.heap.size W8.drew w') (HH.out W8.drew) ?_; rintro e w9 ⟨rfl, hb9'⟩; refine ⟨_, rfl, ?_⟩; have hb9 : Below W8.heap.size W8 w9 := below_undrew hb9'; have B9 := blk_below B8 hb9 (blk_lt B8); have X9 := blk_below X8 hb9 (blk_lt X8); have T9 := own_keep T8 hb9; have F9 := own_keep F8 hb9; have j6 := (c7 B9).2.2.2.2.2.2; have j6a := allocc j6 (.cells #[.int .u64 hs, .int .u32 fr.length] 339); have j2 := (c4 X9).2.2.1; have hz9 := hb9.size; have hB9 : Below base w w9 := hB8.trans (hb9.mono (by omega)))
    | (refine step_append_v rowE rfl (.tmp 66) (.tmp 72) rfl base (.slice A2 tb.length cc2) tb rfl ?_ (some ⟨w9.heap.size, 0, none⟩) 1 1 [(hs, fr.length)] rfl rfl ?_ ?_ ?_ ?_; exact OV.alloc T9 _; exact RV.at_ _ (hs, fr.length) 339 _ rfl _ (by simp); (simp; omega); (simp at hz9 ⊢; omega); intro A10 c10 x10 w10 HX10 ho10 ho10' hg10; have B10 := blk_grown (blk_alloc B9 _) hg10 (own_ne B9 T9 (by decide)); have z6 := (c7 B10).2.2.2.2.2.2; have zf := blk_frozen B10))
  all_goals
    have B11 : (w10.setCell ⟨b, 6, none⟩ (.slice A10 x10.length c10)).heap[b]? = some (.cells #[.int .u8 ex, .int .u32 sg, .int .u32 nr, .int .i64 ((fr.length : Int) + f.length), .int .i64 ((tb.length : Int) + 1), .slice A7 m7.length c7', .slice A10 x10.length c10] 329 (0, 0)) := (blk_set B10 6 _).trans rfl
    have F10 := World.ownsRow.kept (World.ownsRow.alloc F9 (.cells #[.int .u64 hs, .int .u32 fr.length] 339)) hg10 (own_own_ne F9 T9 (by decide))
    have F11 := own_far F10 ⟨b, 6, none⟩ (.slice A10 x10.length c10) (Ne.symm (own_ne B10 F10 (by decide)))
    have T11 := own_far ho10' ⟨b, 6, none⟩ (.slice A10 x10.length c10) (Ne.symm (own_ne B10 ho10' (by decide)))
    have hB11 := below_setG ((hB9.alloc (by omega) (.cells #[.int .u64 hs, .int .u32 fr.length] 339)).grown hg10 (by simp; omega) (own_base T9)) hbb 6 (.slice A10 x10.length c10)
    go_wp2
    go_ret2
    have hm : m7 = fr ++ f := HM7.out
    have hx : x10 = tb ++ [(hs, fr.length)] := HX10.out
    have e1 : (m7.length : Int) = (fr.length : Int) + f.length := by rw [hm]; simp
    have e2 : (x10.length : Int) = (tb.length : Int) + 1 := by rw [hx]; simp
    rw [← hm, ← hx]
    refine ⟨rfl, ⟨A7, c7', A10, c10, ?_, ?_, ?_⟩, ?_⟩
    · rw [e1, e2]; exact B11
    · exact F11
    · exact T11
    · exact hB11
end Go.Proofs.YtkpacfcklpoanaaGreat
