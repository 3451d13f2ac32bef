import Derived.Test.YtkpacfcklpoanaaGreatChunk2
import Derived.Test.YtkpacfcklpoanaaGreatOpen
set_option linter.unusedVariables false
set_option linter.unusedSimpArgs false
namespace Go.Proofs.YtkpacfcklpoanaaGreat
open Go.RowKit
/-- What is found: a record, its segment, where, how long. -/
structure Fnd where
  rc : Bool × Int × List UInt8 × List UInt8
  seg : Nat
  pos : Nat
  len : Nat
def encF (f : Fnd) : List Value := [.bool f.rc.1, .int .u64 f.rc.2.1, S8 f.rc.2.2.1, S8 f.rc.2.2.2, .int .u64 f.seg, .int .i64 f.pos, .int .i64 f.len]
theorem rowF : Row 24 30 7 72 encF := row_of Tryz.underlying24 (by kernel_rfl) (by decide) (fun _ => rfl) (fun a u hu => by simp [encF, S8] at hu; rcases hu with rfl | rfl | rfl | rfl | rfl | rfl | rfl <;> rfl)
structure SS where
  cut : Nat × Nat × Nat
  held : List UInt8
  chunks : Nat
  found : Nat
  empty : Nat
def IsSalv (w : World) (ss kk n base : Nat) (s : SS) : Prop :=
  ∃ A c, w.heap[ss]? = some (.cells #[.pointer (some ⟨kk, 0, none⟩), .slice A s.held.length c, .bool false, .int .i64 s.chunks, .int .i64 s.found, .int .i64 s.empty] 201 (0, 0)) ∧
    IsCut w kk n s.cut ∧ w.ownsRow base 5 1 (.slice A s.held.length c) s.held.length (B8 s.held)
theorem own_cut0 {w : World} {base n : Nat} {e : TypeId} {size : Nat} {A : Option Addr} {c : Nat} {xs : List Value} (h : w.ownsRow base e size (.slice A n c) n xs) : w.ownsRow base e size (.slice A 0 c) 0 [] := by
  refine ⟨by simp, ?_⟩
  rcases h.2 with ⟨h2, h3⟩ | ⟨g', cap, cur, h6, h7, h8, h9, h10, h11, _⟩
  · injection h2 with h4 h5 h6
    subst h4 h5 h6
    exact .inl ⟨rfl, rfl⟩
  · injection h6 with h4 _ h5
    subst h4 h5
    exact .inr ⟨g', c, cur, rfl, h7, h8, Nat.zero_le _, h10, h11, by simp⟩
theorem salv_drop (ss : Nat) (k : Value) (B : Option Addr) (n c : Nat) (b : Bool) (x y z : Value) (w : World) (h : w.heap[ss]? = some (.cells #[k, .slice B n c, .bool b, x, y, z] 201 (0, 0))) :
    Calls Tryz.prog 120 #[.pointer (some ⟨ss, 0, none⟩)] w fun e w' => e = .returned (.tuple #[]) ∧ w' = (w.setCell ⟨ss, 1, none⟩ (.slice B 0 c)).setCell ⟨ss, 2, none⟩ (.bool false) := by
  have k1 := (blk_cell h 1).trans rfl
  have k2 := (blk_cell (blk_set h 1 (.slice B 0 c)) 2).trans rfl
  have kf := blk_frozen h
  have kg := blk_frozen (blk_set h 1 (.slice B 0 c))
  have hsl : ∀ W, (Instr.slice 22 (.slice B n c) none (some (.int .i64 0)) none).run Tryz.prog W = .ok (.slice B 0 c) W := fun W => run_sl_h W B n c 0 (by omega)
  go_enter Tryz.func120, Tryz.ntmps120
  go_wp2
  go_end0
  exact ⟨rfl, rfl⟩
theorem salv_dropD (ss : Nat) (k : Value) (B : Option Addr) (n c : Nat) (b : Bool) (x y z : Value) (w : World) (h : w.heap[ss]? = some (.cells #[k, .slice B n c, .bool b, x, y, z] 201 (0, 0))) :
    CallsD Tryz.prog 120 #[.pointer (some ⟨ss, 0, none⟩)] .returning w fun e u' w' => e = .returned (.tuple #[]) ∧ u' = .returning ∧ w' = (w.setCell ⟨ss, 1, none⟩ (.slice B 0 c)).setCell ⟨ss, 2, none⟩ (.bool false) := by
  have k1 := (blk_cell h 1).trans rfl
  have k2 := (blk_cell (blk_set h 1 (.slice B 0 c)) 2).trans rfl
  have kf := blk_frozen h
  have kg := blk_frozen (blk_set h 1 (.slice B 0 c))
  have hsl : ∀ W, (Instr.slice 22 (.slice B n c) none (some (.int .i64 0)) none).run Tryz.prog W = .ok (.slice B 0 c) W := fun W => run_sl_h W B n c 0 (by omega)
  have hh : CallsD Tryz.prog 120 #[.pointer (some ⟨ss, 0, none⟩)] .returning w fun e u' w' => u' = .returning ∧ (e = .returned (.tuple #[]) ∧ w' = (w.setCell ⟨ss, 1, none⟩ (.slice B 0 c)).setCell ⟨ss, 2, none⟩ (.bool false)) := by
    go_enter_d Tryz.func120, Tryz.ntmps120
    go_wp2
    go_end0
    exact ⟨rfl, rfl⟩
  refine hh.mono ?_
  rintro e u' w' ⟨rfl, rfl, rfl⟩
  exact ⟨rfl, rfl, rfl⟩
def fndOf (r : Bool × Int × List UInt8 × List UInt8) (c : Nat × Nat × Nat) : Fnd := ⟨r, c.1, c.2.1, c.2.2 - c.2.1 + 1⟩
/-- What a chunk gives. -/
def fnds (held : List UInt8) (c : Nat × Nat × Nat) : List Fnd :=
  match frec held with
  | .ok r => [fndOf r c]
  | .error _ => []
/-- A chunk ends. -/
def sEnd (s : SS) (c : Nat × Nat × Nat) : SS := { s with held := [], chunks := s.chunks + 1, found := s.found + (fnds s.held c).length, empty := s.empty + if c.2.1 = c.2.2 then 1 else 0 }
def SOk (s : SS) (m : Nat) : Prop := s.chunks ≤ m ∧ s.found ≤ m ∧ s.empty ≤ m ∧ s.held.length ≤ m ∧ m ≤ 1000000
set_option maxRecDepth 100000 in
set_option maxHeartbeats 4000000 in
theorem salv_end_err_eq (ss kk n base m : Nat) (s : SS) (seg fr to : Nat) (A : Option Addr) (cp : Nat) (xs : List Fnd) (w : World) (hs : IsSalv w ss kk n base s) (hok : SOk s m) (hbs : base ≤ ss) (hne : ss ≠ kk) (hbw : base ≤ w.heap.size)
    (hx : OV encF w base 30 7 (.slice A xs.length cp) xs) (hxl : xs.length ≤ 1000000) (hc1 : fr ≤ to) (hc2 : to < 9223372036854775807) (hft : fr = to) (ec : Int) (he : frec s.held = .error ec) :
    Calls Tryz.prog 117 #[.pointer (some ⟨ss, 0, none⟩), .agg #[.int .u64 seg, .int .i64 fr, .int .i64 to], .slice A xs.length cp] w fun e w' => ∃ A' c', e = .returned (.slice A' (xs ++ fnds s.held (seg, fr, to)).length c') ∧ OV encF w' base 30 7 (.slice A' (xs ++ fnds s.held (seg, fr, to)).length c') (xs ++ fnds s.held (seg, fr, to)) ∧ IsSalv w' ss kk n base (sEnd s (seg, fr, to)) ∧ Below base w w' := by
  have hf0 : fnds s.held (seg, fr, to) = [] := by unfold fnds; rw [he]
  have hse : sEnd s (seg, fr, to) = { s with held := [], chunks := s.chunks + 1, found := s.found, empty := s.empty + 1 } := by unfold sEnd; rw [hf0]; simp [hft]
  rw [hf0, hse]
  simp only [List.append_nil]
  have hcq : ((fr : Int) == (to : Int)) = true := by simp; omega
  clear hft
  obtain ⟨AH, cH, h1, h2, h3⟩ := hs
  obtain ⟨o1, o2, o3, o4, o5⟩ := hok
  have hcap := own_cap h3
  have hG := fun W (h : RB W AH s.held) => frame_GetRecord AH cH _ s.held W h rfl hcap (by omega)
  rw [he] at hG
  simp only [recOut] at hG
  have hne0 : ec ≠ 0 := by have := frec_err _ _ he; omega
  have hec : ((ec : Int) != 0) = true := by simp [hne0]
  have HG := hid0 hG
  clear hG he
  have k0 := (blk_cell h1 0).trans rfl
  have k1 := (blk_cell h1 1).trans rfl
  have k2 := (blk_cell h1 2).trans rfl
  have k3 := (blk_cell h1 3).trans rfl
  have k4 := (blk_cell h1 4).trans rfl
  have k5 := (blk_cell h1 5).trans rfl
  have kf := blk_frozen h1
  have hss := blk_lt h1
  have hq3 := Ne.symm (own_ne h1 h3 (by decide))
  have hqx := Ne.symm (own_ne h1 hx (by decide))
  have hw1 : IntKind.i64.wrap ((s.chunks : Int) + 1) = (s.chunks : Int) + 1 := by apply IntWalk.i64_in <;> omega
  have hw2 : IntKind.i64.wrap ((s.empty : Int) + 1) = (s.empty : Int) + 1 := by apply IntWalk.i64_in <;> omega
  have hw3 : IntKind.i64.wrap ((s.found : Int) + 1) = (s.found : Int) + 1 := by apply IntWalk.i64_in <;> omega
  obtain ⟨W00, hW00⟩ : ∃ W00, W00 = (w.setCell ⟨ss, 3, none⟩ (.int .i64 ((s.chunks : Int) + 1))).setCell ⟨ss, 5, none⟩ (.int .i64 ((s.empty : Int) + 1)) := ⟨_, rfl⟩
  have hsz0 : W00.heap.size = w.heap.size := by rw [hW00]; simp [World.setCell]
  obtain ⟨W0, hW0⟩ : ∃ W0, W0 = W00.alloc (.cells #[.int .u64 seg, .int .i64 fr, .int .i64 to] 204) := ⟨_, rfl⟩
  have g1 : W0.heap[ss]? = some (.cells #[.pointer (some ⟨kk, 0, none⟩), .slice AH s.held.length cH, .bool false, .int .i64 ((s.chunks : Int) + 1), .int .i64 s.found, .int .i64 ((s.empty : Int) + 1)] 201 (0, 0)) := by rw [hW0, hW00]; exact blk_alloc (blk_set (blk_set h1 3 _) 5 _) _
  have g2 : IsCut W0 kk n s.cut := by rw [hW0, hW00]; exact blk_alloc (blk_far (blk_far h2 (Ne.symm hne) _) (Ne.symm hne) _) _
  have g3 : W0.ownsRow base 5 1 (.slice AH s.held.length cH) s.held.length (B8 s.held) := by rw [hW0, hW00]; exact World.ownsRow.alloc (own_far (own_far h3 _ _ hq3) _ _ hq3) _
  have g4 : W0.heap[w.heap.size]? = some (.cells #[.int .u64 seg, .int .i64 fr, .int .i64 to] 204 (0, 0)) := by rw [hW0, ← hsz0]; exact heap_new _ _
  have gx : OV encF W0 base 30 7 (.slice A xs.length cp) xs := by rw [hW0, hW00]; exact World.ownsRow.alloc (own_far (own_far hx _ _ hqx) _ _ hqx) _
  have gb : Below base w W0 := by rw [hW0, hW00]; exact (below_setG (below_setG (Below.refl _ _) hbs _ _) hbs _ _).alloc (by rw [← hW00, hsz0]; exact hbw) _
  have gs : w.heap.size < W0.heap.size := blk_lt g4
  rw [hW00] at hW0
  go_enter_defers Tryz.func117, Tryz.ntmps117
  go_wp2_with (first | (go_at_call 205; go_loud (rw [← hW0]; (with_reducible refine (HG.out W0 (RB.own g3)).mono ?_); rintro e w1 ⟨rfl, hb1⟩; have f1 := blk_below g1 hb1 (blk_lt g1); have f2 := blk_below g2 hb1 (blk_lt g2); have f3 := own_keep g3 hb1; have f4 := blk_below g4 hb1 (blk_lt g4); have fx := own_keep gx hb1; have fb : Below base w w1 := gb.trans (hb1.mono (by omega)); have fs : w.heap.size < w1.heap.size := Nat.lt_of_lt_of_le gs hb1.size)))
  obtain ⟨WF, hWF⟩ : ∃ WF, WF = w1.alloc (.cells #[.bool false, .int .u64 0, .string ⟨#[]⟩, .string ⟨#[]⟩] 28) := ⟨_, rfl⟩
  have y1 := blk_alloc f1 (.cells #[.bool false, .int .u64 0, .string ⟨#[]⟩, .string ⟨#[]⟩] 28)
  have yk := blk_alloc f2 (.cells #[.bool false, .int .u64 0, .string ⟨#[]⟩, .string ⟨#[]⟩] 28)
  have y3 := f3.alloc (.cells #[.bool false, .int .u64 0, .string ⟨#[]⟩, .string ⟨#[]⟩] 28)
  have yx := fx.alloc (.cells #[.bool false, .int .u64 0, .string ⟨#[]⟩, .string ⟨#[]⟩] 28)
  have yb := fb.alloc (by omega) (.cells #[.bool false, .int .u64 0, .string ⟨#[]⟩, .string ⟨#[]⟩] 28)
  rw [← hWF] at y1 yk y3 yx yb ⊢
  refine leaves_cons (f := 120) (args := #[.pointer (some ⟨ss, 0, none⟩)]) (by simp) (by simp [go_sem]) ?_
  refine (salv_dropD ss _ AH s.held.length cH false _ _ _ WF y1).mono ?_
  rintro e u' w'' ⟨rfl, rfl, rfl⟩
  have y2 := blk_set (blk_set y1 1 (.slice AH 0 cH)) 2 (.bool false)
  have hqy := Ne.symm (own_ne y1 y3 (by decide))
  have hqz := Ne.symm (own_ne y1 yx (by decide))
  refine ⟨_, by simp [results, Tryz.results117, go_sem], _, _, rfl, own_far (own_far yx _ _ hqz) _ _ hqz, ⟨AH, cH, y2, blk_far (blk_far yk (Ne.symm hne) _) (Ne.symm hne) _, own_cut0 (own_far (own_far y3 _ _ hqy) _ _ hqy)⟩, below_setG (below_setG yb hbs _ _) hbs _ _⟩
set_option maxRecDepth 100000 in
set_option maxHeartbeats 4000000 in
theorem salv_end_err_ne (ss kk n base m : Nat) (s : SS) (seg fr to : Nat) (A : Option Addr) (cp : Nat) (xs : List Fnd) (w : World) (hs : IsSalv w ss kk n base s) (hok : SOk s m) (hbs : base ≤ ss) (hne : ss ≠ kk) (hbw : base ≤ w.heap.size)
    (hx : OV encF w base 30 7 (.slice A xs.length cp) xs) (hxl : xs.length ≤ 1000000) (hc1 : fr ≤ to) (hc2 : to < 9223372036854775807) (hft : fr ≠ to) (ec : Int) (he : frec s.held = .error ec) :
    Calls Tryz.prog 117 #[.pointer (some ⟨ss, 0, none⟩), .agg #[.int .u64 seg, .int .i64 fr, .int .i64 to], .slice A xs.length cp] w fun e w' => ∃ A' c', e = .returned (.slice A' (xs ++ fnds s.held (seg, fr, to)).length c') ∧ OV encF w' base 30 7 (.slice A' (xs ++ fnds s.held (seg, fr, to)).length c') (xs ++ fnds s.held (seg, fr, to)) ∧ IsSalv w' ss kk n base (sEnd s (seg, fr, to)) ∧ Below base w w' := by
  have hf0 : fnds s.held (seg, fr, to) = [] := by unfold fnds; rw [he]
  have hse : sEnd s (seg, fr, to) = { s with held := [], chunks := s.chunks + 1, found := s.found, empty := s.empty } := by unfold sEnd; rw [hf0]; simp [hft]
  rw [hf0, hse]
  simp only [List.append_nil]
  have hcq : ((fr : Int) == (to : Int)) = false := by simp; omega
  clear hft
  obtain ⟨AH, cH, h1, h2, h3⟩ := hs
  obtain ⟨o1, o2, o3, o4, o5⟩ := hok
  have hcap := own_cap h3
  have hG := fun W (h : RB W AH s.held) => frame_GetRecord AH cH _ s.held W h rfl hcap (by omega)
  rw [he] at hG
  simp only [recOut] at hG
  have hne0 : ec ≠ 0 := by have := frec_err _ _ he; omega
  have hec : ((ec : Int) != 0) = true := by simp [hne0]
  have HG := hid0 hG
  clear hG he
  have k0 := (blk_cell h1 0).trans rfl
  have k1 := (blk_cell h1 1).trans rfl
  have k2 := (blk_cell h1 2).trans rfl
  have k3 := (blk_cell h1 3).trans rfl
  have k4 := (blk_cell h1 4).trans rfl
  have k5 := (blk_cell h1 5).trans rfl
  have kf := blk_frozen h1
  have hss := blk_lt h1
  have hq3 := Ne.symm (own_ne h1 h3 (by decide))
  have hqx := Ne.symm (own_ne h1 hx (by decide))
  have hw1 : IntKind.i64.wrap ((s.chunks : Int) + 1) = (s.chunks : Int) + 1 := by apply IntWalk.i64_in <;> omega
  have hw2 : IntKind.i64.wrap ((s.empty : Int) + 1) = (s.empty : Int) + 1 := by apply IntWalk.i64_in <;> omega
  have hw3 : IntKind.i64.wrap ((s.found : Int) + 1) = (s.found : Int) + 1 := by apply IntWalk.i64_in <;> omega
  obtain ⟨W00, hW00⟩ : ∃ W00, W00 = w.setCell ⟨ss, 3, none⟩ (.int .i64 ((s.chunks : Int) + 1)) := ⟨_, rfl⟩
  have hsz0 : W00.heap.size = w.heap.size := by rw [hW00]; simp [World.setCell]
  obtain ⟨W0, hW0⟩ : ∃ W0, W0 = W00.alloc (.cells #[.int .u64 seg, .int .i64 fr, .int .i64 to] 204) := ⟨_, rfl⟩
  have g1 : W0.heap[ss]? = some (.cells #[.pointer (some ⟨kk, 0, none⟩), .slice AH s.held.length cH, .bool false, .int .i64 ((s.chunks : Int) + 1), .int .i64 s.found, .int .i64 s.empty] 201 (0, 0)) := by rw [hW0, hW00]; exact blk_alloc (blk_set h1 3 _) _
  have g2 : IsCut W0 kk n s.cut := by rw [hW0, hW00]; exact blk_alloc (blk_far h2 (Ne.symm hne) _) _
  have g3 : W0.ownsRow base 5 1 (.slice AH s.held.length cH) s.held.length (B8 s.held) := by rw [hW0, hW00]; exact World.ownsRow.alloc (own_far h3 _ _ hq3) _
  have g4 : W0.heap[w.heap.size]? = some (.cells #[.int .u64 seg, .int .i64 fr, .int .i64 to] 204 (0, 0)) := by rw [hW0, ← hsz0]; exact heap_new _ _
  have gx : OV encF W0 base 30 7 (.slice A xs.length cp) xs := by rw [hW0, hW00]; exact World.ownsRow.alloc (own_far hx _ _ hqx) _
  have gb : Below base w W0 := by rw [hW0, hW00]; exact (below_setG (Below.refl _ _) hbs _ _).alloc (by rw [← hW00, hsz0]; exact hbw) _
  have gs : w.heap.size < W0.heap.size := blk_lt g4
  rw [hW00] at hW0
  go_enter_defers Tryz.func117, Tryz.ntmps117
  go_wp2_with (first | (go_at_call 205; go_loud (rw [← hW0]; (with_reducible refine (HG.out W0 (RB.own g3)).mono ?_); rintro e w1 ⟨rfl, hb1⟩; have f1 := blk_below g1 hb1 (blk_lt g1); have f2 := blk_below g2 hb1 (blk_lt g2); have f3 := own_keep g3 hb1; have f4 := blk_below g4 hb1 (blk_lt g4); have fx := own_keep gx hb1; have fb : Below base w w1 := gb.trans (hb1.mono (by omega)); have fs : w.heap.size < w1.heap.size := Nat.lt_of_lt_of_le gs hb1.size)))
  obtain ⟨WF, hWF⟩ : ∃ WF, WF = w1.alloc (.cells #[.bool false, .int .u64 0, .string ⟨#[]⟩, .string ⟨#[]⟩] 28) := ⟨_, rfl⟩
  have y1 := blk_alloc f1 (.cells #[.bool false, .int .u64 0, .string ⟨#[]⟩, .string ⟨#[]⟩] 28)
  have yk := blk_alloc f2 (.cells #[.bool false, .int .u64 0, .string ⟨#[]⟩, .string ⟨#[]⟩] 28)
  have y3 := f3.alloc (.cells #[.bool false, .int .u64 0, .string ⟨#[]⟩, .string ⟨#[]⟩] 28)
  have yx := fx.alloc (.cells #[.bool false, .int .u64 0, .string ⟨#[]⟩, .string ⟨#[]⟩] 28)
  have yb := fb.alloc (by omega) (.cells #[.bool false, .int .u64 0, .string ⟨#[]⟩, .string ⟨#[]⟩] 28)
  rw [← hWF] at y1 yk y3 yx yb ⊢
  refine leaves_cons (f := 120) (args := #[.pointer (some ⟨ss, 0, none⟩)]) (by simp) (by simp [go_sem]) ?_
  refine (salv_dropD ss _ AH s.held.length cH false _ _ _ WF y1).mono ?_
  rintro e u' w'' ⟨rfl, rfl, rfl⟩
  have y2 := blk_set (blk_set y1 1 (.slice AH 0 cH)) 2 (.bool false)
  have hqy := Ne.symm (own_ne y1 y3 (by decide))
  have hqz := Ne.symm (own_ne y1 yx (by decide))
  refine ⟨_, by simp [results, Tryz.results117, go_sem], _, _, rfl, own_far (own_far yx _ _ hqz) _ _ hqz, ⟨AH, cH, y2, blk_far (blk_far yk (Ne.symm hne) _) (Ne.symm hne) _, own_cut0 (own_far (own_far y3 _ _ hqy) _ _ hqy)⟩, below_setG (below_setG yb hbs _ _) hbs _ _⟩
set_option maxRecDepth 100000 in
set_option maxHeartbeats 4000000 in
theorem salv_end_ok_eq (ss kk n base m : Nat) (s : SS) (seg fr to : Nat) (A : Option Addr) (cp : Nat) (xs : List Fnd) (w : World) (hs : IsSalv w ss kk n base s) (hok : SOk s m) (hbs : base ≤ ss) (hne : ss ≠ kk) (hbw : base ≤ w.heap.size)
    (hx : OV encF w base 30 7 (.slice A xs.length cp) xs) (hxl : xs.length ≤ 1000000) (hc1 : fr ≤ to) (hc2 : to < 9223372036854775807) (hft : fr = to) (r : Bool × Int × List UInt8 × List UInt8) (he : frec s.held = .ok r) :
    Calls Tryz.prog 117 #[.pointer (some ⟨ss, 0, none⟩), .agg #[.int .u64 seg, .int .i64 fr, .int .i64 to], .slice A xs.length cp] w fun e w' => ∃ A' c', e = .returned (.slice A' (xs ++ fnds s.held (seg, fr, to)).length c') ∧ OV encF w' base 30 7 (.slice A' (xs ++ fnds s.held (seg, fr, to)).length c') (xs ++ fnds s.held (seg, fr, to)) ∧ IsSalv w' ss kk n base (sEnd s (seg, fr, to)) ∧ Below base w w' := by
  obtain ⟨d, q, ky, vl⟩ := r
  have hf0 : fnds s.held (seg, fr, to) = [fndOf (d, q, ky, vl) (seg, fr, to)] := by unfold fnds; rw [he]
  have hse : sEnd s (seg, fr, to) = { s with held := [], chunks := s.chunks + 1, found := s.found + 1, empty := s.empty + 1 } := by unfold sEnd; rw [hf0]; simp [hft]
  rw [hf0, hse]
  have hcq : ((fr : Int) == (to : Int)) = true := by simp; omega
  clear hft
  obtain ⟨AH, cH, h1, h2, h3⟩ := hs
  obtain ⟨o1, o2, o3, o4, o5⟩ := hok
  have hcap := own_cap h3
  have hG := fun W (h : RB W AH s.held) => frame_GetRecord AH cH _ s.held W h rfl hcap (by omega)
  rw [he] at hG
  simp only [recOut] at hG
  have HG := hid0 hG
  clear hG he
  have k0 := (blk_cell h1 0).trans rfl
  have k1 := (blk_cell h1 1).trans rfl
  have k2 := (blk_cell h1 2).trans rfl
  have k3 := (blk_cell h1 3).trans rfl
  have k4 := (blk_cell h1 4).trans rfl
  have k5 := (blk_cell h1 5).trans rfl
  have kf := blk_frozen h1
  have hss := blk_lt h1
  have hq3 := Ne.symm (own_ne h1 h3 (by decide))
  have hqx := Ne.symm (own_ne h1 hx (by decide))
  have hw1 : IntKind.i64.wrap ((s.chunks : Int) + 1) = (s.chunks : Int) + 1 := by apply IntWalk.i64_in <;> omega
  have hw2 : IntKind.i64.wrap ((s.empty : Int) + 1) = (s.empty : Int) + 1 := by apply IntWalk.i64_in <;> omega
  have hw3 : IntKind.i64.wrap ((s.found : Int) + 1) = (s.found : Int) + 1 := by apply IntWalk.i64_in <;> omega
  obtain ⟨W00, hW00⟩ : ∃ W00, W00 = (w.setCell ⟨ss, 3, none⟩ (.int .i64 ((s.chunks : Int) + 1))).setCell ⟨ss, 5, none⟩ (.int .i64 ((s.empty : Int) + 1)) := ⟨_, rfl⟩
  have hsz0 : W00.heap.size = w.heap.size := by rw [hW00]; simp [World.setCell]
  obtain ⟨W0, hW0⟩ : ∃ W0, W0 = W00.alloc (.cells #[.int .u64 seg, .int .i64 fr, .int .i64 to] 204) := ⟨_, rfl⟩
  have g1 : W0.heap[ss]? = some (.cells #[.pointer (some ⟨kk, 0, none⟩), .slice AH s.held.length cH, .bool false, .int .i64 ((s.chunks : Int) + 1), .int .i64 s.found, .int .i64 ((s.empty : Int) + 1)] 201 (0, 0)) := by rw [hW0, hW00]; exact blk_alloc (blk_set (blk_set h1 3 _) 5 _) _
  have g2 : IsCut W0 kk n s.cut := by rw [hW0, hW00]; exact blk_alloc (blk_far (blk_far h2 (Ne.symm hne) _) (Ne.symm hne) _) _
  have g3 : W0.ownsRow base 5 1 (.slice AH s.held.length cH) s.held.length (B8 s.held) := by rw [hW0, hW00]; exact World.ownsRow.alloc (own_far (own_far h3 _ _ hq3) _ _ hq3) _
  have g4 : W0.heap[w.heap.size]? = some (.cells #[.int .u64 seg, .int .i64 fr, .int .i64 to] 204 (0, 0)) := by rw [hW0, ← hsz0]; exact heap_new _ _
  have gx : OV encF W0 base 30 7 (.slice A xs.length cp) xs := by rw [hW0, hW00]; exact World.ownsRow.alloc (own_far (own_far hx _ _ hqx) _ _ hqx) _
  have gb : Below base w W0 := by rw [hW0, hW00]; exact (below_setG (below_setG (Below.refl _ _) hbs _ _) hbs _ _).alloc (by rw [← hW00, hsz0]; exact hbw) _
  have gs : w.heap.size < W0.heap.size := blk_lt g4
  rw [hW00] at hW0
  have hfe : ([fndOf (d, q, ky, vl) (seg, fr, to)] : List Fnd).length = 1 := rfl
  go_enter_defers Tryz.func117, Tryz.ntmps117
  go_wp2_with (first
    | (go_at_call 205; go_loud (rw [← hW0]; (with_reducible refine (HG.out W0 (RB.own g3)).mono ?_); rintro e w1 ⟨rfl, hb1⟩; have f1 := blk_below g1 hb1 (blk_lt g1); have f2 := blk_below g2 hb1 (blk_lt g2); have f3 := own_keep g3 hb1; have f4 := blk_below g4 hb1 (blk_lt g4); have fx := own_keep gx hb1; have fb : Below base w w1 := gb.trans (hb1.mono (by omega)); have fs : w.heap.size < w1.heap.size := Nat.lt_of_lt_of_le gs hb1.size; have jg := blk_frozen (blk_alloc f1 (.cells #[.bool d, .int .u64 q, .string ⟨ky.toArray⟩, .string ⟨vl.toArray⟩] 28)); have j4 := (blk_cell (blk_alloc f1 (.cells #[.bool d, .int .u64 q, .string ⟨ky.toArray⟩, .string ⟨vl.toArray⟩] 28)) 4).trans rfl; have j40 := (blk_cell f1 4).trans rfl; have jf := blk_frozen f1; have l0 := (blk_cell f4 0).trans rfl; have l1 := (blk_cell f4 1).trans rfl; have l2 := (blk_cell f4 2).trans rfl; have hqf := Ne.symm (own_ne (blk_alloc f1 (.cells #[.bool d, .int .u64 q, .string ⟨ky.toArray⟩, .string ⟨vl.toArray⟩] 28)) (World.ownsRow.alloc fx (.cells #[.bool d, .int .u64 q, .string ⟨ky.toArray⟩, .string ⟨vl.toArray⟩] 28)) (by decide)); obtain ⟨W2, hW2⟩ : ∃ W2, W2 = (w1.alloc (.cells #[.bool d, .int .u64 q, .string ⟨ky.toArray⟩, .string ⟨vl.toArray⟩] 28)).setCell ⟨ss, 4, none⟩ (.int .i64 ((s.found : Int) + 1)) := ⟨_, rfl⟩; have e1 := blk_set (blk_alloc f1 (.cells #[.bool d, .int .u64 q, .string ⟨ky.toArray⟩, .string ⟨vl.toArray⟩] 28)) 4 (.int .i64 ((s.found : Int) + 1)); have e2 : IsCut ((w1.alloc (.cells #[.bool d, .int .u64 q, .string ⟨ky.toArray⟩, .string ⟨vl.toArray⟩] 28)).setCell ⟨ss, 4, none⟩ (.int .i64 ((s.found : Int) + 1))) kk n s.cut := blk_far (blk_alloc f2 (.cells #[.bool d, .int .u64 q, .string ⟨ky.toArray⟩, .string ⟨vl.toArray⟩] 28)) (Ne.symm hne) _; have hq3' := Ne.symm (own_ne (blk_alloc f1 (.cells #[.bool d, .int .u64 q, .string ⟨ky.toArray⟩, .string ⟨vl.toArray⟩] 28)) (World.ownsRow.alloc f3 (.cells #[.bool d, .int .u64 q, .string ⟨ky.toArray⟩, .string ⟨vl.toArray⟩] 28)) (by decide)); have e3 := own_far (World.ownsRow.alloc f3 (.cells #[.bool d, .int .u64 q, .string ⟨ky.toArray⟩, .string ⟨vl.toArray⟩] 28)) ⟨ss, 4, none⟩ (.int .i64 ((s.found : Int) + 1)) hq3'; have ex := own_far (World.ownsRow.alloc fx (.cells #[.bool d, .int .u64 q, .string ⟨ky.toArray⟩, .string ⟨vl.toArray⟩] 28)) ⟨ss, 4, none⟩ (.int .i64 ((s.found : Int) + 1)) hqf; have eb : Below base w ((w1.alloc (.cells #[.bool d, .int .u64 q, .string ⟨ky.toArray⟩, .string ⟨vl.toArray⟩] 28)).setCell ⟨ss, 4, none⟩ (.int .i64 ((s.found : Int) + 1))) := below_setG (fb.alloc (by omega) _) hbs _ _; have es : ((w1.alloc (.cells #[.bool d, .int .u64 q, .string ⟨ky.toArray⟩, .string ⟨vl.toArray⟩] 28)).setCell ⟨ss, 4, none⟩ (.int .i64 ((s.found : Int) + 1))).heap.size = w1.heap.size + 1 := (by simp [World.setCell]); rw [← hW2] at e1 e2 e3 ex eb es))
    | (at_builtin; go_loud (rw [← hW2]; refine append_v rowF rfl _ _ rfl base (.slice A xs.length cp) xs rfl (OV.alloc ex _) (some ⟨w1.heap.size + 1, 0, none⟩) 1 1 [fndOf (d, q, ky, vl) (seg, fr, to)] rfl rfl ?_ ?_ ?_ ?_; (rw [← es]; exact RV.one (enc := encF) W2 (fndOf (d, q, ky, vl) (seg, fr, to)) 30 #[.bool d, .int .u64 q, .string ⟨ky.toArray⟩, .string ⟨vl.toArray⟩, .int .u64 seg, .int .i64 fr, .int .i64 ((to : Int) - (fr : Int) + 1)] (by simp [encF, fndOf, S8]; omega)); (simp; omega); (simp; omega); intro A5 c5 x5 WF HX5 ho5 ho5' hg5; have y1 := blk_grown (blk_alloc e1 _) hg5 (own_ne e1 ex (by decide)); have yk : IsCut WF kk n s.cut := blk_grown (blk_alloc e2 _) hg5 (own_ne e2 ex (by decide)); have y3 := World.ownsRow.kept (World.ownsRow.alloc e3 _) hg5 (own_own_ne e3 ex (by decide)); have yb : Below base w WF := (eb.alloc (by omega) _).grown hg5 (by simp; omega) (own_base ex))))
  have yx := ho5
  rw [← HX5.out]
  refine leaves_cons (f := 120) (args := #[.pointer (some ⟨ss, 0, none⟩)]) (by simp) (by simp [go_sem]) ?_
  refine (salv_dropD ss _ AH s.held.length cH false _ _ _ WF y1).mono ?_
  rintro e u' w'' ⟨rfl, rfl, rfl⟩
  have y2 := blk_set (blk_set y1 1 (.slice AH 0 cH)) 2 (.bool false)
  have hqy := Ne.symm (own_ne y1 y3 (by decide))
  have hqz := Ne.symm (own_ne y1 yx (by decide))
  refine ⟨_, by simp [results, Tryz.results117, go_sem], _, _, rfl, own_far (own_far yx _ _ hqz) _ _ hqz, ⟨AH, cH, y2, blk_far (blk_far yk (Ne.symm hne) _) (Ne.symm hne) _, own_cut0 (own_far (own_far y3 _ _ hqy) _ _ hqy)⟩, below_setG (below_setG yb hbs _ _) hbs _ _⟩
set_option maxRecDepth 100000 in
set_option maxHeartbeats 4000000 in
theorem salv_end_ok_ne (ss kk n base m : Nat) (s : SS) (seg fr to : Nat) (A : Option Addr) (cp : Nat) (xs : List Fnd) (w : World) (hs : IsSalv w ss kk n base s) (hok : SOk s m) (hbs : base ≤ ss) (hne : ss ≠ kk) (hbw : base ≤ w.heap.size)
    (hx : OV encF w base 30 7 (.slice A xs.length cp) xs) (hxl : xs.length ≤ 1000000) (hc1 : fr ≤ to) (hc2 : to < 9223372036854775807) (hft : fr ≠ to) (r : Bool × Int × List UInt8 × List UInt8) (he : frec s.held = .ok r) :
    Calls Tryz.prog 117 #[.pointer (some ⟨ss, 0, none⟩), .agg #[.int .u64 seg, .int .i64 fr, .int .i64 to], .slice A xs.length cp] w fun e w' => ∃ A' c', e = .returned (.slice A' (xs ++ fnds s.held (seg, fr, to)).length c') ∧ OV encF w' base 30 7 (.slice A' (xs ++ fnds s.held (seg, fr, to)).length c') (xs ++ fnds s.held (seg, fr, to)) ∧ IsSalv w' ss kk n base (sEnd s (seg, fr, to)) ∧ Below base w w' := by
  obtain ⟨d, q, ky, vl⟩ := r
  have hf0 : fnds s.held (seg, fr, to) = [fndOf (d, q, ky, vl) (seg, fr, to)] := by unfold fnds; rw [he]
  have hse : sEnd s (seg, fr, to) = { s with held := [], chunks := s.chunks + 1, found := s.found + 1, empty := s.empty } := by unfold sEnd; rw [hf0]; simp [hft]
  rw [hf0, hse]
  have hcq : ((fr : Int) == (to : Int)) = false := by simp; omega
  clear hft
  obtain ⟨AH, cH, h1, h2, h3⟩ := hs
  obtain ⟨o1, o2, o3, o4, o5⟩ := hok
  have hcap := own_cap h3
  have hG := fun W (h : RB W AH s.held) => frame_GetRecord AH cH _ s.held W h rfl hcap (by omega)
  rw [he] at hG
  simp only [recOut] at hG
  have HG := hid0 hG
  clear hG he
  have k0 := (blk_cell h1 0).trans rfl
  have k1 := (blk_cell h1 1).trans rfl
  have k2 := (blk_cell h1 2).trans rfl
  have k3 := (blk_cell h1 3).trans rfl
  have k4 := (blk_cell h1 4).trans rfl
  have k5 := (blk_cell h1 5).trans rfl
  have kf := blk_frozen h1
  have hss := blk_lt h1
  have hq3 := Ne.symm (own_ne h1 h3 (by decide))
  have hqx := Ne.symm (own_ne h1 hx (by decide))
  have hw1 : IntKind.i64.wrap ((s.chunks : Int) + 1) = (s.chunks : Int) + 1 := by apply IntWalk.i64_in <;> omega
  have hw2 : IntKind.i64.wrap ((s.empty : Int) + 1) = (s.empty : Int) + 1 := by apply IntWalk.i64_in <;> omega
  have hw3 : IntKind.i64.wrap ((s.found : Int) + 1) = (s.found : Int) + 1 := by apply IntWalk.i64_in <;> omega
  obtain ⟨W00, hW00⟩ : ∃ W00, W00 = w.setCell ⟨ss, 3, none⟩ (.int .i64 ((s.chunks : Int) + 1)) := ⟨_, rfl⟩
  have hsz0 : W00.heap.size = w.heap.size := by rw [hW00]; simp [World.setCell]
  obtain ⟨W0, hW0⟩ : ∃ W0, W0 = W00.alloc (.cells #[.int .u64 seg, .int .i64 fr, .int .i64 to] 204) := ⟨_, rfl⟩
  have g1 : W0.heap[ss]? = some (.cells #[.pointer (some ⟨kk, 0, none⟩), .slice AH s.held.length cH, .bool false, .int .i64 ((s.chunks : Int) + 1), .int .i64 s.found, .int .i64 s.empty] 201 (0, 0)) := by rw [hW0, hW00]; exact blk_alloc (blk_set h1 3 _) _
  have g2 : IsCut W0 kk n s.cut := by rw [hW0, hW00]; exact blk_alloc (blk_far h2 (Ne.symm hne) _) _
  have g3 : W0.ownsRow base 5 1 (.slice AH s.held.length cH) s.held.length (B8 s.held) := by rw [hW0, hW00]; exact World.ownsRow.alloc (own_far h3 _ _ hq3) _
  have g4 : W0.heap[w.heap.size]? = some (.cells #[.int .u64 seg, .int .i64 fr, .int .i64 to] 204 (0, 0)) := by rw [hW0, ← hsz0]; exact heap_new _ _
  have gx : OV encF W0 base 30 7 (.slice A xs.length cp) xs := by rw [hW0, hW00]; exact World.ownsRow.alloc (own_far hx _ _ hqx) _
  have gb : Below base w W0 := by rw [hW0, hW00]; exact (below_setG (Below.refl _ _) hbs _ _).alloc (by rw [← hW00, hsz0]; exact hbw) _
  have gs : w.heap.size < W0.heap.size := blk_lt g4
  rw [hW00] at hW0
  have hfe : ([fndOf (d, q, ky, vl) (seg, fr, to)] : List Fnd).length = 1 := rfl
  go_enter_defers Tryz.func117, Tryz.ntmps117
  go_wp2_with (first
    | (go_at_call 205; go_loud (rw [← hW0]; (with_reducible refine (HG.out W0 (RB.own g3)).mono ?_); rintro e w1 ⟨rfl, hb1⟩; have f1 := blk_below g1 hb1 (blk_lt g1); have f2 := blk_below g2 hb1 (blk_lt g2); have f3 := own_keep g3 hb1; have f4 := blk_below g4 hb1 (blk_lt g4); have fx := own_keep gx hb1; have fb : Below base w w1 := gb.trans (hb1.mono (by omega)); have fs : w.heap.size < w1.heap.size := Nat.lt_of_lt_of_le gs hb1.size; have jg := blk_frozen (blk_alloc f1 (.cells #[.bool d, .int .u64 q, .string ⟨ky.toArray⟩, .string ⟨vl.toArray⟩] 28)); have j4 := (blk_cell (blk_alloc f1 (.cells #[.bool d, .int .u64 q, .string ⟨ky.toArray⟩, .string ⟨vl.toArray⟩] 28)) 4).trans rfl; have j40 := (blk_cell f1 4).trans rfl; have jf := blk_frozen f1; have l0 := (blk_cell f4 0).trans rfl; have l1 := (blk_cell f4 1).trans rfl; have l2 := (blk_cell f4 2).trans rfl; have hqf := Ne.symm (own_ne (blk_alloc f1 (.cells #[.bool d, .int .u64 q, .string ⟨ky.toArray⟩, .string ⟨vl.toArray⟩] 28)) (World.ownsRow.alloc fx (.cells #[.bool d, .int .u64 q, .string ⟨ky.toArray⟩, .string ⟨vl.toArray⟩] 28)) (by decide)); obtain ⟨W2, hW2⟩ : ∃ W2, W2 = (w1.alloc (.cells #[.bool d, .int .u64 q, .string ⟨ky.toArray⟩, .string ⟨vl.toArray⟩] 28)).setCell ⟨ss, 4, none⟩ (.int .i64 ((s.found : Int) + 1)) := ⟨_, rfl⟩; have e1 := blk_set (blk_alloc f1 (.cells #[.bool d, .int .u64 q, .string ⟨ky.toArray⟩, .string ⟨vl.toArray⟩] 28)) 4 (.int .i64 ((s.found : Int) + 1)); have e2 : IsCut ((w1.alloc (.cells #[.bool d, .int .u64 q, .string ⟨ky.toArray⟩, .string ⟨vl.toArray⟩] 28)).setCell ⟨ss, 4, none⟩ (.int .i64 ((s.found : Int) + 1))) kk n s.cut := blk_far (blk_alloc f2 (.cells #[.bool d, .int .u64 q, .string ⟨ky.toArray⟩, .string ⟨vl.toArray⟩] 28)) (Ne.symm hne) _; have hq3' := Ne.symm (own_ne (blk_alloc f1 (.cells #[.bool d, .int .u64 q, .string ⟨ky.toArray⟩, .string ⟨vl.toArray⟩] 28)) (World.ownsRow.alloc f3 (.cells #[.bool d, .int .u64 q, .string ⟨ky.toArray⟩, .string ⟨vl.toArray⟩] 28)) (by decide)); have e3 := own_far (World.ownsRow.alloc f3 (.cells #[.bool d, .int .u64 q, .string ⟨ky.toArray⟩, .string ⟨vl.toArray⟩] 28)) ⟨ss, 4, none⟩ (.int .i64 ((s.found : Int) + 1)) hq3'; have ex := own_far (World.ownsRow.alloc fx (.cells #[.bool d, .int .u64 q, .string ⟨ky.toArray⟩, .string ⟨vl.toArray⟩] 28)) ⟨ss, 4, none⟩ (.int .i64 ((s.found : Int) + 1)) hqf; have eb : Below base w ((w1.alloc (.cells #[.bool d, .int .u64 q, .string ⟨ky.toArray⟩, .string ⟨vl.toArray⟩] 28)).setCell ⟨ss, 4, none⟩ (.int .i64 ((s.found : Int) + 1))) := below_setG (fb.alloc (by omega) _) hbs _ _; have es : ((w1.alloc (.cells #[.bool d, .int .u64 q, .string ⟨ky.toArray⟩, .string ⟨vl.toArray⟩] 28)).setCell ⟨ss, 4, none⟩ (.int .i64 ((s.found : Int) + 1))).heap.size = w1.heap.size + 1 := (by simp [World.setCell]); rw [← hW2] at e1 e2 e3 ex eb es))
    | (at_builtin; go_loud (rw [← hW2]; refine append_v rowF rfl _ _ rfl base (.slice A xs.length cp) xs rfl (OV.alloc ex _) (some ⟨w1.heap.size + 1, 0, none⟩) 1 1 [fndOf (d, q, ky, vl) (seg, fr, to)] rfl rfl ?_ ?_ ?_ ?_; (rw [← es]; exact RV.one (enc := encF) W2 (fndOf (d, q, ky, vl) (seg, fr, to)) 30 #[.bool d, .int .u64 q, .string ⟨ky.toArray⟩, .string ⟨vl.toArray⟩, .int .u64 seg, .int .i64 fr, .int .i64 ((to : Int) - (fr : Int) + 1)] (by simp [encF, fndOf, S8]; omega)); (simp; omega); (simp; omega); intro A5 c5 x5 WF HX5 ho5 ho5' hg5; have y1 := blk_grown (blk_alloc e1 _) hg5 (own_ne e1 ex (by decide)); have yk : IsCut WF kk n s.cut := blk_grown (blk_alloc e2 _) hg5 (own_ne e2 ex (by decide)); have y3 := World.ownsRow.kept (World.ownsRow.alloc e3 _) hg5 (own_own_ne e3 ex (by decide)); have yb : Below base w WF := (eb.alloc (by omega) _).grown hg5 (by simp; omega) (own_base ex))))
  have yx := ho5
  rw [← HX5.out]
  refine leaves_cons (f := 120) (args := #[.pointer (some ⟨ss, 0, none⟩)]) (by simp) (by simp [go_sem]) ?_
  refine (salv_dropD ss _ AH s.held.length cH false _ _ _ WF y1).mono ?_
  rintro e u' w'' ⟨rfl, rfl, rfl⟩
  have y2 := blk_set (blk_set y1 1 (.slice AH 0 cH)) 2 (.bool false)
  have hqy := Ne.symm (own_ne y1 y3 (by decide))
  have hqz := Ne.symm (own_ne y1 yx (by decide))
  refine ⟨_, by simp [results, Tryz.results117, go_sem], _, _, rfl, own_far (own_far yx _ _ hqz) _ _ hqz, ⟨AH, cH, y2, blk_far (blk_far yk (Ne.symm hne) _) (Ne.symm hne) _, own_cut0 (own_far (own_far y3 _ _ hqy) _ _ hqy)⟩, below_setG (below_setG yb hbs _ _) hbs _ _⟩
theorem salv_end (ss kk n base m : Nat) (s : SS) (c : Nat × Nat × Nat) (A : Option Addr) (cp : Nat) (xs : List Fnd) (w : World) (hs : IsSalv w ss kk n base s) (hok : SOk s m) (hbs : base ≤ ss) (hne : ss ≠ kk) (hbw : base ≤ w.heap.size)
    (hx : OV encF w base 30 7 (.slice A xs.length cp) xs) (hxl : xs.length ≤ 1000000) (hc1 : c.2.1 ≤ c.2.2) (hc2 : c.2.2 < 9223372036854775807) :
    Calls Tryz.prog 117 #[.pointer (some ⟨ss, 0, none⟩), .agg #[.int .u64 c.1, .int .i64 c.2.1, .int .i64 c.2.2], .slice A xs.length cp] w fun e w' => ∃ A' c', e = .returned (.slice A' (xs ++ fnds s.held c).length c') ∧ OV encF w' base 30 7 (.slice A' (xs ++ fnds s.held c).length c') (xs ++ fnds s.held c) ∧ IsSalv w' ss kk n base (sEnd s c) ∧ Below base w w' := by
  obtain ⟨seg, fr, to⟩ := c
  cases he : frec s.held with
  | error ec =>
    by_cases hft : fr = to
    · exact salv_end_err_eq ss kk n base m s seg fr to A cp xs w hs hok hbs hne hbw hx hxl hc1 hc2 hft ec he
    · exact salv_end_err_ne ss kk n base m s seg fr to A cp xs w hs hok hbs hne hbw hx hxl hc1 hc2 hft ec he
  | ok r =>
    by_cases hft : fr = to
    · exact salv_end_ok_eq ss kk n base m s seg fr to A cp xs w hs hok hbs hne hbw hx hxl hc1 hc2 hft r he
    · exact salv_end_ok_ne ss kk n base m s seg fr to A cp xs w hs hok hbs hne hbw hx hxl hc1 hc2 hft r he
end Go.Proofs.YtkpacfcklpoanaaGreat
