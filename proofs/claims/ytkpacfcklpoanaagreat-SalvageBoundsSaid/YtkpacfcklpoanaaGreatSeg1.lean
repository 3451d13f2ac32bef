/- A segment's builder: made, read, and whole. -/
import Derived.Test.YtkpacfcklpoanaaGreatImg7
import Derived.Test.YtkpacfcklpoanaaGreatRep
set_option linter.unusedVariables false
set_option linter.unusedSimpArgs false
namespace Go.Proofs.YtkpacfcklpoanaaGreat
open Go.RowKit
theorem table_Hash (k : List UInt8) (w : World) (hk : k.length ≤ 100000000) :
    Calls Tryz.prog 218 #[.string ⟨k.toArray⟩] w fun e w' => e = .returned (.int .u64 (xxh 0 k)) ∧ Below w.heap.size w w' := by
  have hcv := run_conv_9_22 w ⟨k.toArray⟩
  have hrb := str_rb w ⟨k.toArray⟩
  have hbl := str_below w ⟨k.toArray⟩
  rw [bs_size] at hcv
  have e1 : (⟨k.toArray⟩ : ByteArray).data.toList = k := by simp
  rw [e1] at hrb
  clear e1
  generalize Lib.bytesWorld w 5 ⟨k.toArray⟩ = W at *
  generalize grownCap w k.length 0 5 = cp at *
  have HW := hid0 (wide_Sum 0 (some ⟨w.heap.size, 0, none⟩) cp k.length k W (by decide) (by decide) hrb rfl (by rw [maxB_eq]; omega))
  generalize xxh 0 k = h at *
  go_enter Tryz.func218, Tryz.ntmps218
  go_wp2_with (go_at_call 306; go_loud ((with_reducible refine (HW.out).mono ?_); rintro e w1 ⟨rfl, hb1⟩))
  go_ret
  exact ⟨rfl, hbl.trans (hb1.mono hbl.size)⟩
abbrev En := Int × Nat
def encE (e : En) : List Value := [.int .u64 e.1, .int .u32 e.2]
theorem infoE : (Tryz.prog.info? 339).map (fun i => (i.zero.map (·.cells.size), i.size, i.bytes)) = some (some 2, 2, 16) := by kernel_rfl
theorem rowE : Row 327 339 2 16 encE := row_of Tryz.underlying327 infoE (by decide) (fun _ => rfl) (fun a u hu => by simp [encE] at hu; rcases hu with rfl | rfl <;> rfl)
/-- A builder at block b: its room, its frames, its table. -/
def IsB (w : World) (b base ex sg nr : Nat) (fr : List UInt8) (tb : List En) : Prop :=
  ∃ A c A2 c2, w.heap[b]? = some (.cells #[.int .u8 ex, .int .u32 sg, .int .u32 nr, .int .i64 fr.length, .int .i64 tb.length, .slice A fr.length c, .slice A2 tb.length c2] 329 (0, 0)) ∧
    w.ownsRow base 5 1 (.slice A fr.length c) fr.length (B8 fr) ∧ OV encE w base 339 2 (.slice A2 tb.length c2) tb
theorem IsB.below {w w' : World} {b base ex sg nr : Nat} {fr : List UInt8} {tb : List En} (h : IsB w b base ex sg nr fr tb) (hb : Below w.heap.size w w') : IsB w' b base ex sg nr fr tb := by
  obtain ⟨A, c, A2, c2, h1, h2, h3⟩ := h
  exact ⟨A, c, A2, c2, blk_below h1 hb (blk_lt h1), own_keep h2 hb, own_keep h3 hb⟩
theorem segment_New_err (ex sg nr : Nat) (w : World) (he : ex ≤ 255) (hs : sg ≤ 4294967295) (hn : nr ≤ 4294967295) (h : headErr ex sg nr ≠ 0) :
    Calls Tryz.prog 124 #[.agg #[.int .u8 ex, .int .u32 sg], .int .u32 nr] w fun e w' => e = .returned (.tuple #[.pointer none, .int .i64 (headErr ex sg nr)]) ∧ Below w.heap.size w w' := by
  have HE := hid0 (fun W => pack_Empty_err ex sg nr W he hs hn h)
  generalize headErr ex sg nr = ce at *
  have hbz : ((ce : Int) != 0) = true := by simpa using h
  have hb0 := ((Below.refl w.heap.size w).alloc (Nat.le_refl _) (.cells #[.int .u8 ex, .int .u32 sg] 54))
  go_enter Tryz.func124, Tryz.ntmps124
  go_wp2_with (go_at_call 127; go_loud ((with_reducible refine (HE.out _).mono ?_); rintro e w1 ⟨rfl, hb1⟩))
  go_ret2
  have h1 := hb0.trans (hb1.mono hb0.size)
  exact ⟨rfl, h1.alloc h1.size _⟩
theorem segment_New (ex sg nr : Nat) (w : World) (he : ex ≤ 255) (hs : sg ≤ 4294967295) (hn : nr ≤ 4294967295) (h : headErr ex sg nr = 0) :
    Calls Tryz.prog 124 #[.agg #[.int .u8 ex, .int .u32 sg], .int .u32 nr] w fun e w' => ∃ b, e = .returned (.tuple #[.pointer (some ⟨b, 0, none⟩), .int .i64 0]) ∧ IsB w' b w.heap.size ex sg nr (head ex sg nr) [] ∧ w.heap.size ≤ b ∧ Below w.heap.size w w' := by
  have HE := hid0 (fun W => pack_Empty ex sg nr W he hs hn h)
  have HP := hid0 (fun W => frame_PutHead ex sg nr W he hs hn h)
  generalize head ex sg nr = hd at *
  have hb0 := ((Below.refl w.heap.size w).alloc (Nat.le_refl _) (.cells #[.int .u8 ex, .int .u32 sg] 54))
  go_enter Tryz.func124, Tryz.ntmps124
  go_wp2_with (first
    | (go_at_call 127; go_loud ((with_reducible refine (HE.out _).mono ?_); rintro e w1 ⟨rfl, hb1⟩; have h54 := blk_below (heap_new w _) hb1 (by simp); obtain ⟨p0, p1⟩ := c2 (blk_alloc h54 (.cells #[.int .u8 ex, .int .u32 sg, .int .u32 nr, .int .i64 hd.length, .int .i64 0] 221)); have hbw1 := hb0.trans (hb1.mono hb0.size)))
    | (go_at_call 214; go_loud ((with_reducible refine (HP.out _).mono ?_); rintro e w2 ⟨x, rfl, ho2, hb2⟩; obtain ⟨A2, cc2, rfl⟩ := own_slice ho2; have h221 := blk_below (heap_new w1 _) hb2 (by simp); obtain ⟨q0, q1, q2, q3, q4⟩ := c5 h221; have hz2 := hb2.size; have hz1 := hbw1.size)))
  go_ret2
  simp at hz2
  have h1 := hbw1.alloc hbw1.size (.cells #[.int .u8 ex, .int .u32 sg, .int .u32 nr, .int .i64 hd.length, .int .i64 0] 221)
  have hbw2 := h1.trans (hb2.mono h1.size)
  exact ⟨_, rfl, ⟨A2, cc2, none, 0, heap_new w2 _, World.ownsRow.alloc (own_mono ho2 h1.size) _, OV.nil _ _ _ _⟩, by omega, hbw2.alloc hbw2.size _⟩
theorem segment_Frames (b base ex sg nr : Nat) (fr : List UInt8) (tb : List En) (w : World) (hB : IsB w b base ex sg nr fr tb) (hl : fr.length ≤ maxB) :
    Calls Tryz.prog 213 #[.pointer (some ⟨b, 0, none⟩)] w fun e w' => ∃ x, e = .returned x ∧ w'.ownsRow w.heap.size 5 1 x fr.length (B8 fr) ∧ Below w.heap.size w w' := by
  obtain ⟨A, c, A2, c2', h1, h2, h3⟩ := hB
  obtain ⟨k0, k1, k2, k3, k4, k5, k6⟩ := c7 h1
  have HC := hid0 (bytes_Clone A c fr.length fr w (RB.own h2) rfl hl)
  go_enter Tryz.func213, Tryz.ntmps213
  go_wp2_with (go_at_call 128; go_loud ((with_reducible refine (HC.out).mono ?_); rintro e w1 ⟨x, rfl, ho1, hb1⟩))
  go_ret
  exact ⟨_, rfl, ho1, hb1⟩
/-- With what is erased behind. -/
def wholeB (ex sg : Nat) (l : List UInt8) : List UInt8 := l ++ List.replicate (cfgSize ex sg - l.length) 255
set_option maxRecDepth 100000 in
theorem segment_whole (b base ex sg nr : Nat) (fr : List UInt8) (tb : List En) (l : List UInt8) (base2 : Nat) (A : Option Addr) (cp : Nat) (w : World) (hB : IsB w b base ex sg nr fr tb) (he : ex ≤ 255) (hs : sg ≤ 4294967295)
    (ho : w.ownsRow base2 5 1 (.slice A l.length cp) l.length (B8 l)) (hl : l.length ≤ cfgSize ex sg) (hb2 : base2 ≤ w.heap.size) :
    Calls Tryz.prog 212 #[.pointer (some ⟨b, 0, none⟩), .slice A l.length cp] w fun e w' => ∃ x, e = .returned x ∧ w'.ownsRow base2 5 1 x (wholeB ex sg l).length (B8 (wholeB ex sg l)) ∧ Below base2 w w' := by
  obtain ⟨Ab, cb, Ab2, cb2, h1, h2, h3⟩ := hB
  obtain ⟨k0, k1, k2, k3, k4, k5, k6⟩ := c7 h1
  have hS := cfgSize_le ex sg
  have HC := hid0 (config_Size ex sg w he hs)
  have HF := hid0 (show wholeB ex sg l = l ++ List.replicate (cfgSize ex sg - l.length) 255 from rfl)
  generalize cfgSize ex sg = S at *
  obtain ⟨n, hn⟩ : ∃ n, n = S - l.length := ⟨_, rfl⟩
  rw [← hn] at HF
  have hsub : (S : Int) - (l.length : Int) = (n : Int) := by omega
  have HR := hid0 (fun A W (h : RB W A [255]) => bytes_Repeat 255 n A 1 W h (by omega))
  clear hn
  go_enter Tryz.func212, Tryz.ntmps212
  go_wp2_with (first
    | (go_at_call 156; go_loud ((with_reducible refine (HC.out).mono ?_); rintro e w1 ⟨rfl, hb1⟩; have o1 := own_keep ho hb1; have hz1 := hb1.size))
    | (go_at_call 228; go_loud ((with_reducible refine (HR.out (some ⟨w1.heap.size, 0, none⟩) _ ?_).mono ?_); exact RB.one w1 255 255 rfl; rintro e w2 ⟨B2, cc2, rfl, hr2, hb2'⟩; have o2 := own_keep (World.ownsRow.alloc o1 _) hb2'; have hz2 := hb2'.size))
    | (at_builtin; go_loud (refine append_b rfl _ _ rfl base2 (.slice A l.length cp) l rfl o2 B2 cc2 n (List.replicate n 255) (by simp) rfl hr2 ?_ ?_ ?_; (rw [maxB_eq]; simp; omega); (simp at hz2; omega); intro A7 c7 m7 w7 HM7 hm7 ho7 hg7)))
  go_ret
  simp at hz2
  have hbw1 : Below base2 w w1 := hb1.mono hb2
  have hbA := hbw1.alloc (by omega) (.cells #[.int .u8 255] 5)
  have hbw2 := hbA.trans (hb2'.mono (by simp; omega))
  rw [HF.out, ← HM7.out]
  exact ⟨_, rfl, ho7, hbw2.grown hg7 (by omega) (own_base ho)⟩
theorem segment_Open (b base ex sg nr : Nat) (fr : List UInt8) (tb : List En) (w : World) (hB : IsB w b base ex sg nr fr tb) (he : ex ≤ 255) (hs : sg ≤ 4294967295) (hl : fr.length ≤ cfgSize ex sg) :
    Calls Tryz.prog 126 #[.pointer (some ⟨b, 0, none⟩)] w fun e w' => ∃ x, e = .returned x ∧ w'.ownsRow w.heap.size 5 1 x (wholeB ex sg fr).length (B8 (wholeB ex sg fr)) ∧ Below w.heap.size w w' := by
  have hS := cfgSize_le ex sg
  have HF := hid0 (segment_Frames b base ex sg nr fr tb w hB (by rw [maxB_eq]; omega))
  have HW := hid0 (fun A cp W (h : W.ownsRow w.heap.size 5 1 (.slice A fr.length cp) fr.length (B8 fr)) (hB : IsB W b base ex sg nr fr tb) (hz : w.heap.size ≤ W.heap.size) => segment_whole b base ex sg nr fr tb fr w.heap.size A cp W hB he hs h hl hz)
  go_enter Tryz.func126, Tryz.ntmps126
  go_wp2_with (first
    | (go_at_call 213; go_loud ((with_reducible refine (HF.out).mono ?_); rintro e w1 ⟨x, rfl, ho1, hb1⟩; obtain ⟨A1, cc1, rfl⟩ := own_slice ho1))
    | (go_at_call 212; go_loud ((with_reducible refine (HW.out A1 cc1 w1 ho1 (hB.below hb1) hb1.size).mono ?_); rintro e w2 ⟨x, rfl, ho2, hb2⟩)))
  go_ret
  exact ⟨_, rfl, ho2, hb1.trans hb2⟩
end Go.Proofs.YtkpacfcklpoanaaGreat
