import Derived.Test.YtkpacfcklpoanaaGreatGet
import Derived.Recover
import Derived.LaidEqlPtr
import Derived.Shelf.Abstract
import Derived.Defers
set_option linter.unusedVariables false
set_option linter.unusedSimpArgs false
namespace Go.Proofs.YtkpacfcklpoanaaGreat
open Go.RowKit
theorem neq_ptr_same {P : Program} (w : World) {tp te : TypeId} {j : TypeInfo} (a : Addr) (hp : P.underlying tp = some (.pointer te)) (hte : P.info? te = some j) :
    (binOp .neq tp (.pointer (some a)) (.pointer (some a))).run P w = .ok (.bool false) w := by
  have h : ∀ d : Nat, (Op.equalIn (d + 1) tp (.pointer (some a)) (.pointer (some a))).run P w = .ok true w := fun d => by
    simp [Op.equalIn, run_underlying hp, sizeOf, typeInfo, hte, run_sameAddr_same]
  simp only [binOp]
  simp [Op.equal, Op.maxDepth, h 9999]
theorem info400 : (Tryz.prog.info? 400).isSome = true := by kernel_rfl
theorem neq297 (a : Addr) (w : World) : (binOp .neq 297 (.pointer (some a)) (.pointer (some a))).run Tryz.prog w = .ok (.bool false) w := by
  obtain ⟨j, hj⟩ := Option.isSome_iff_exists.1 info400
  exact neq_ptr_same w a Tryz.underlying297 hj
theorem catch_idle (gc g4 g5 g : Nat) (s : Value) (p y : Int) (w : World) (hc : w.heap[gc]? = some (.cells #[.pointer (some ⟨g, 0, none⟩)] 297 (0, 0)))
    (hg : w.heap[g]? = some (.cells #[s, .int .i64 p, .bool true] 400 (0, 0))) (h4 : w.heap[g4]? = some (.cells #[.int .i64 y] 3 (0, 0))) (hgc : gc ≠ g) (hg4 : g4 ≠ g) :
    CallsD Tryz.prog 271 #[.pointer (some ⟨gc, 0, none⟩), .pointer (some ⟨g4, 0, none⟩), .pointer (some ⟨g5, 0, none⟩)] .returning w fun e u' w' => e = .returned (.tuple #[]) ∧ u' = .returning ∧
      w' = (w.setCell ⟨g, 2, none⟩ (.bool false)).setCell ⟨g4, 0, none⟩ (.int .i64 p) := by
  have hcc := (blk_cell hc 0).trans rfl
  have hgf := blk_frozen hg 2
  have h4f := blk_frozen (blk_far h4 (p := ⟨g, 2, none⟩) hg4 (.bool false)) 0
  have hcc2 := (blk_cell (blk_far hc (p := ⟨g, 2, none⟩) hgc (.bool false)) 0).trans rfl
  have hg2 := (blk_cell (blk_set hg 2 (.bool false)) 1).trans rfl
  have hg0 := (blk_cell hg 2).trans rfl
  have h40 := (blk_cell (blk_far h4 (p := ⟨g, 2, none⟩) hg4 (.bool false)) 0).trans rfl
  refine callsD_of_wpS Tryz.func271 rfl fun c₀ cs hu => ?_
  simp only [Tryz.ntmps271, List.size_toArray, List.length_cons, List.length_nil, Nat.reduceAdd, Nat.reduceSub, Array.replicate_succ,
     Array.replicate_zero, List.push_toArray, List.append_toArray, List.nil_append, List.cons_append]
  apply wpS_seq
  refine wpS_of_wp ?_
  go_wp2
  simp only [Exit.thenS]
  apply wpS_seq
  refine wpS_of_wp ?_
  go_wp2
  simp only [Exit.thenS]
  apply wpS_seq
  apply wpS_region
  simp [wpOpsS, go_sem, recoverD, hu, Exit.thenS]
  refine wpS_of_wp ?_
  have hnil : ∀ w : World, (binOp BinOp.eql 20 .nilIface .nilIface).run Tryz.prog w = .ok (.bool true) w := fun _ => by kernel_rfl
  go_wp2
  cases c₀
  simp_all [bodyPostS, results, Tryz.results271, Exit.thenS]
set_option maxRecDepth 100000 in
theorem catch_fault (gc g4 g5 g : Nat) (s : Value) (p y z c : Int) (w : World) (hc : w.heap[gc]? = some (.cells #[.pointer (some ⟨g, 0, none⟩)] 297 (0, 0)))
    (hg : w.heap[g]? = some (.cells #[s, .int .i64 p, .bool true] 400 (0, 0))) (h4 : w.heap[g4]? = some (.cells #[.int .i64 y] 3 (0, 0))) (h5 : w.heap[g5]? = some (.cells #[.int .i64 z] 56 (0, 0))) (hgc : gc ≠ g) (hg4 : g4 ≠ g) (hg5 : g5 ≠ g) (h54 : g5 ≠ g4) (hgc4 : gc ≠ g4) :
    CallsD Tryz.prog 271 #[.pointer (some ⟨gc, 0, none⟩), .pointer (some ⟨g4, 0, none⟩), .pointer (some ⟨g5, 0, none⟩)] (.panicking (fault g c)) w fun e u' w' => e = .returned (.tuple #[]) ∧
      u' = .panicking [{ v := .iface 402 (.agg #[.pointer (some ⟨g, 0, none⟩), .int .i64 c]), recovered := true }] ∧
      w' = (((w.setCell ⟨g, 2, none⟩ (.bool false)).setCell ⟨g4, 0, none⟩ (.int .i64 p)).alloc (.cells #[.pointer (some ⟨g, 0, none⟩), .int .i64 c] 402)).setCell ⟨g5, 0, none⟩ (.int .i64 c) := by
  have hcc := (blk_cell hc 0).trans rfl
  have hgf := blk_frozen hg 2
  have h4f := blk_frozen (blk_far h4 (p := ⟨g, 2, none⟩) hg4 (.bool false)) 0
  have hcc2 := (blk_cell (blk_far hc (p := ⟨g, 2, none⟩) hgc (.bool false)) 0).trans rfl
  have hg2 := (blk_cell (blk_set hg 2 (.bool false)) 1).trans rfl
  have hg0 := (blk_cell hg 2).trans rfl
  have h40 := (blk_cell (blk_far h4 (p := ⟨g, 2, none⟩) hg4 (.bool false)) 0).trans rfl
  have hta : ∀ w : World, (Instr.typeAssert (.iface 402 (.agg #[.pointer (some ⟨g, 0, none⟩), .int .i64 c])) 20 402 true).run Tryz.prog w = .ok (.tuple #[.agg #[.pointer (some ⟨g, 0, none⟩), .int .i64 c], .bool true]) w := fun _ => by kernel_rfl
  have h5f : ∀ o, ((((w.setCell ⟨g, 2, none⟩ (.bool false)).setCell ⟨g4, 0, none⟩ (.int .i64 p)).alloc o)).frozen? ⟨g5, 0, none⟩ = false := fun o => blk_frozen (blk_alloc (blk_far (blk_far h5 (p := ⟨g, 2, none⟩) hg5 (.bool false)) (p := ⟨g4, 0, none⟩) h54 (.int .i64 p)) o) 0
  have h50 : ∀ o, ((((w.setCell ⟨g, 2, none⟩ (.bool false)).setCell ⟨g4, 0, none⟩ (.int .i64 p)).alloc o)).cell? ⟨g5, 0, none⟩ = some (.int .i64 z) := fun o => (blk_cell (blk_alloc (blk_far (blk_far h5 (p := ⟨g, 2, none⟩) hg5 (.bool false)) (p := ⟨g4, 0, none⟩) h54 (.int .i64 p)) o) 0).trans rfl
  have hcc3 : ∀ o, ((((w.setCell ⟨g, 2, none⟩ (.bool false)).setCell ⟨g4, 0, none⟩ (.int .i64 p)).alloc o)).cell? ⟨gc, 0, none⟩ = some (.pointer (some ⟨g, 0, none⟩)) := fun o => (blk_cell (blk_alloc (blk_far (blk_far hc (p := ⟨g, 2, none⟩) hgc (.bool false)) (p := ⟨g4, 0, none⟩) hgc4 (.int .i64 p)) o) 0).trans rfl
  have hne := neq297 ⟨g, 0, none⟩
  have hnil : ∀ w : World, (binOp BinOp.eql 20 (.iface 402 (.agg #[.pointer (some ⟨g, 0, none⟩), .int .i64 c])) .nilIface).run Tryz.prog w = .ok (.bool false) w := fun _ => by kernel_rfl
  refine callsD_of_wpS Tryz.func271 rfl fun c₀ cs hu => ?_
  simp only [Tryz.ntmps271, List.size_toArray, List.length_cons, List.length_nil, Nat.reduceAdd, Nat.reduceSub, Array.replicate_succ,
     Array.replicate_zero, List.push_toArray, List.append_toArray, List.nil_append, List.cons_append]
  apply wpS_seq
  refine wpS_of_wp ?_
  go_wp2
  simp only [Exit.thenS]
  apply wpS_seq
  refine wpS_of_wp ?_
  go_wp2
  simp only [Exit.thenS]
  apply wpS_seq
  apply wpS_region
  unfold fault at hu
  simp [wpOpsS, go_sem, recoverD, hu, Exit.thenS]
  refine wpS_of_wp ?_
  go_wp2
  refine ⟨rfl, _, rfl, _, ?_, rfl, rfl, rfl⟩
  simp [results, Tryz.results271]
/-- How a reading's step ends. -/
def resEnd (g : Nat) : Option Int → Ending
  | none => .returned (.tuple #[])
  | some c => .panicked (fault g c)
def resNum : Option Int → Int
  | none => 0
  | some c => c
/-- Of what was there blocks g and h alone may have turned. -/
structure Only2 (g h : Nat) (w w' : World) : Prop where
  os : w'.os = w.os
  tape : w'.tape = w.tape
  output : w'.output = w.output
  size : w.heap.size ≤ w'.heap.size
  block : ∀ k, k < w.heap.size → k ≠ g → k ≠ h → w'.heap[k]? = w.heap[k]?
theorem run_start (w : World) (A1 : Option Addr) (c1 N : Nat) (b : List UInt8) (w1 : World) (hN : b.length = N)
    (ho1 : w1.ownsRow ((w.alloc (.cells #[.int .i64 0] 3)).alloc (.cells #[.int .i64 0] 56)).heap.size 5 1 (.slice A1 b.length c1) b.length (B8 b))
    (hbl1 : Below ((w.alloc (.cells #[.int .i64 0] 3)).alloc (.cells #[.int .i64 0] 56)).heap.size ((w.alloc (.cells #[.int .i64 0] 3)).alloc (.cells #[.int .i64 0] 56)) w1) :
    IsCur ((w1.alloc (.cells #[.slice A1 N c1, .int .i64 0, .bool true] 400)).alloc (.cells #[.pointer (some ⟨w1.heap.size, 0, none⟩)] 297)) w1.heap.size 0 N b :=
  ⟨A1, c1, b, 0, blk_alloc (heap_new w1 _) _, own_mono ((hN ▸ ho1).alloc _ |>.alloc _) (Nat.zero_le _), rfl, by simp [hN], hN⟩
theorem run_start3 (w w1 : World) (hbl1 : Below ((w.alloc (.cells #[.int .i64 0] 3)).alloc (.cells #[.int .i64 0] 56)).heap.size ((w.alloc (.cells #[.int .i64 0] 3)).alloc (.cells #[.int .i64 0] 56)) w1) : Below w.heap.size w w1 :=
  (((Below.refl _ _).alloc (Nat.le_refl _) _).alloc (by simp) _).trans (hbl1.mono (by simp; omega))
theorem run_start2 (w : World) (A1 : Option Addr) (c1 N : Nat) (w1 : World) 
    (hbl1 : Below ((w.alloc (.cells #[.int .i64 0] 3)).alloc (.cells #[.int .i64 0] 56)).heap.size ((w.alloc (.cells #[.int .i64 0] 3)).alloc (.cells #[.int .i64 0] 56)) w1) (w2 : World) (gr : Nat) (hgr : gr < w.heap.size) (hs : w.heap.size ≤ w1.heap.size)
    (ho : Only2 w1.heap.size gr ((w1.alloc (.cells #[.slice A1 N c1, .int .i64 0, .bool true] 400)).alloc (.cells #[.pointer (some ⟨w1.heap.size, 0, none⟩)] 297)) w2) :
    w2.heap[w1.heap.size + 1]? = some (.cells #[.pointer (some ⟨w1.heap.size, 0, none⟩)] 297 (0, 0)) ∧ w2.heap[w.heap.size]? = some (.cells #[.int .i64 0] 3 (0, 0)) ∧ w2.heap[w.heap.size + 1]? = some (.cells #[.int .i64 0] 56 (0, 0)) := by
  have hs2 := hbl1.size
  simp at hs2
  refine ⟨?_, ?_, ?_⟩
  · rw [ho.block _ (by simp) (by omega) (by omega)]
    have := heap_new (w1.alloc (.cells #[.slice A1 N c1, .int .i64 0, .bool true] 400)) (.cells #[.pointer (some ⟨w1.heap.size, 0, none⟩)] 297)
    simpa using this
  · rw [ho.block _ (by simp; omega) (by omega) (by omega)]
    exact blk_alloc (blk_alloc (blk_below (blk_alloc (heap_new w _) _) hbl1 (by simp; omega)) _) _
  · rw [ho.block _ (by simp; omega) (by omega) (by omega)]
    refine blk_alloc (blk_alloc (blk_below ?_ hbl1 (by simp)) _) _
    have := heap_new (w.alloc (.cells #[.int .i64 0] 3)) (.cells #[.int .i64 0] 56)
    simpa using this
theorem run_only (w w1 w2 : World) (o1 o2 : Obj) (gr : Nat) (hgr : gr < w.heap.size) (hb : Below w.heap.size w w1) (ho : Only2 w1.heap.size gr ((w1.alloc o1).alloc o2) w2) : Only2 gr gr w w2 := by
  have hs := hb.size
  have h1 : Below w.heap.size w ((w1.alloc o1).alloc o2) := (hb.alloc hs _).alloc (by simp; omega) _
  exact ⟨ho.os.trans h1.os, ho.tape.trans h1.tape, ho.output.trans h1.output, Nat.le_trans h1.size ho.size, fun k hk hg _ => (ho.block k (Nat.lt_of_lt_of_le hk h1.size) (by omega) hg).trans (h1.block k hk)⟩
set_option maxRecDepth 100000 in
theorem cursor_Run (F : FuncId) (cap : Array Value) (gr : Nat) (A : Option Addr) (c N : Nat) (b : List UInt8) (res : Option Int) (Z : World → Prop) (w : World) (hr : RB w A b) (hN : b.length = N) (hl : N ≤ maxB) (hgr : gr < w.heap.size)
    (hF : ∀ W args, (callFunc F args).run Tryz.prog W = .ok (.enter F args) W)
    (H : ∀ W g, Below w.heap.size w W → w.heap.size ≤ g → IsCur W g 0 N b → Calls Tryz.prog F (#[.pointer (some ⟨g, 0, none⟩)] ++ cap) W fun e w' => e = resEnd g res ∧ (∃ r', IsCur w' g 0 N r') ∧ Only2 g gr W w' ∧ Z w') :
    Calls Tryz.prog 180 #[.slice A N c, .func (.func F) #[] cap] w fun e w' => (∃ at', e = .returned (.tuple #[.int .i64 at', .int .i64 (resNum res)])) ∧ ∃ W2, Z W2 ∧ Only2 gr gr w W2 ∧ Below w.heap.size W2 w' := by
  have hmf : ∀ (fn : Fn) (first cap : Array Value) (w : World), (Instr.makeFunc fn first cap).run Tryz.prog w = .ok (.func fn first cap) w := fun _ _ _ _ => rfl
  have hnil : ∀ w : World, (binOp BinOp.eql 300 (.func (.func F) #[] cap) .nilFunc).run Tryz.prog w = .ok (.bool false) w := fun _ => by kernel_rfl
  have hb0 : Below w.heap.size w ((w.alloc (.cells #[.int .i64 0] 3)).alloc (.cells #[.int .i64 0] 56)) := (((Below.refl _ _).alloc (Nat.le_refl _) _).alloc (by simp) _)
  have HH := hid0 H
  clear H
  cases res with
  | none =>
    go_enter_defers Tryz.func180, Tryz.ntmps180
    go_wp2_with (first
      | (go_at_call 128; go_loud ((with_reducible refine (bytes_Clone A c N b _ ?_ hN hl).mono ?_); exact hr.below hb0; rintro e w1 ⟨x, rfl, ho1, hbl1⟩; obtain ⟨A1, c1, rfl⟩ := own_slice ho1; have hcur := run_start w A1 c1 N b w1 hN ho1 hbl1; have hst := run_start2 w A1 c1 N w1 hbl1; have hb1 := run_start3 w w1 hbl1))
      | (go_at_fn F; go_loud ((with_reducible refine (HH.out _ w1.heap.size ?_ ?_ hcur).mono ?_); exact (hb1.alloc (by have := hb1.size; omega) _).alloc (by have := hb1.size; simp; omega) _; exact hb1.size; rintro e w2 ⟨rfl, hcur2, ho2, hz2⟩; obtain ⟨hgc2, h42, h52⟩ := hst w2 gr hgr hb1.size ho2; obtain ⟨r', A2, c2, b2, p2, hg2, hor2, _⟩ := hcur2; simp only [resEnd]; have k1 := (blk_cell hgc2 0).trans rfl; have k2 := (blk_cell hg2 1).trans rfl; have k3 := (blk_cell h42 0).trans rfl; have k4 := blk_frozen h42 0; have k5 := (blk_cell (blk_far h52 (p := ⟨w.heap.size, 0, none⟩) (by simp) (.int .i64 p2)) 0).trans rfl; have k6 := blk_frozen (blk_far h52 (p := ⟨w.heap.size, 0, none⟩) (by simp) (.int .i64 p2)) 0)))
    obtain ⟨W, hW⟩ : ∃ W, W = (w2.setCell ⟨w.heap.size, 0, none⟩ (.int .i64 p2)).setCell ⟨w.heap.size + 1, 0, none⟩ (.int .i64 0) := ⟨_, rfl⟩
    rw [← hW]
    have hs1 := hb1.size
    have n1 : w1.heap.size + 1 ≠ w.heap.size := by omega
    have n2 : w1.heap.size + 1 ≠ w.heap.size + 1 := by have := hbl1.size; simp at this; omega
    have n3 : w1.heap.size ≠ w.heap.size := by have := hbl1.size; simp at this; omega
    have n4 : w1.heap.size ≠ w.heap.size + 1 := by have := hbl1.size; simp at this; omega
    have q1 : W.heap[w1.heap.size + 1]? = some (.cells #[.pointer (some ⟨w1.heap.size, 0, none⟩)] 297 (0, 0)) := by rw [hW]; exact blk_far (blk_far hgc2 n1 _) n2 _
    have q2 : W.heap[w1.heap.size]? = some (.cells #[.slice A2 N c2, .int .i64 p2, .bool true] 400 (0, 0)) := by rw [hW]; exact blk_far (blk_far hg2 n3 _) n4 _
    have q3 : W.heap[w.heap.size]? = some (.cells #[.int .i64 p2] 3 (0, 0)) := by rw [hW]; exact blk_far (blk_set h42 0 _) (by simp) _
    have q4 : W.heap[w.heap.size + 1]? = some (.cells #[.int .i64 0] 56 (0, 0)) := by rw [hW]; exact blk_set (blk_far h52 (by simp) _) 0 _
    refine leaves_cons (f := 271) (args := #[.pointer (some ⟨w1.heap.size + 1, 0, none⟩), .pointer (some ⟨w.heap.size, 0, none⟩), .pointer (some ⟨w.heap.size + 1, 0, none⟩)]) (by simp) (by simp [go_sem]) ?_
    refine (catch_idle (w1.heap.size + 1) w.heap.size (w.heap.size + 1) w1.heap.size (.slice A2 N c2) p2 p2 W q1 q2 q3 (by simp) (Ne.symm n3)).mono ?_
    rintro e u' w'' ⟨rfl, rfl, rfl⟩
    have z1 := (blk_cell (blk_set (blk_far q3 (p := ⟨w1.heap.size, 2, none⟩) (Ne.symm n3) (.bool false)) 0 (.int .i64 p2)) 0).trans rfl
    have z2 := (blk_cell (blk_far (blk_far q4 (p := ⟨w1.heap.size, 2, none⟩) (Ne.symm n4) (.bool false)) (p := ⟨w.heap.size, 0, none⟩) (by simp) (.int .i64 p2)) 0).trans rfl
    refine ⟨.tuple #[.int .i64 p2, .int .i64 0], ?_, ⟨p2, rfl⟩, w2, hz2, run_only w w1 w2 _ _ gr hgr hb1 ho2, ?_⟩
    · simp [results, Tryz.results180, go_sem, z1, z2]
    · rw [hW]
      exact ((((Below.refl _ _).setCell (by simp) _).setCell (by simp) _).setCell (by simpa using hs1) _).setCell (by simp) _
  | some cc =>
    go_enter_defers Tryz.func180, Tryz.ntmps180
    go_wp2_with (first
      | (go_at_call 128; go_loud ((with_reducible refine (bytes_Clone A c N b _ ?_ hN hl).mono ?_); exact hr.below hb0; rintro e w1 ⟨x, rfl, ho1, hbl1⟩; obtain ⟨A1, c1, rfl⟩ := own_slice ho1; have hcur := run_start w A1 c1 N b w1 hN ho1 hbl1; have hst := run_start2 w A1 c1 N w1 hbl1; have hb1 := run_start3 w w1 hbl1))
      | (go_at_fn F; go_loud ((with_reducible refine (HH.out _ w1.heap.size ?_ ?_ hcur).mono ?_); exact (hb1.alloc (by have := hb1.size; omega) _).alloc (by have := hb1.size; simp; omega) _; exact hb1.size; rintro e w2 ⟨rfl, hcur2, ho2, hz2⟩; obtain ⟨hgc2, h42, h52⟩ := hst w2 gr hgr hb1.size ho2; obtain ⟨r', A2, c2, b2, p2, hg2, hor2, _⟩ := hcur2; simp only [resEnd]; skip)))
    have hs1 := hb1.size
    have n1 : w1.heap.size + 1 ≠ w.heap.size := by omega
    have n3 : w1.heap.size ≠ w.heap.size := by have := hbl1.size; simp at this; omega
    have n4 : w1.heap.size ≠ w.heap.size + 1 := by have := hbl1.size; simp at this; omega
    refine leaves_cons (f := 271) (args := #[.pointer (some ⟨w1.heap.size + 1, 0, none⟩), .pointer (some ⟨w.heap.size, 0, none⟩), .pointer (some ⟨w.heap.size + 1, 0, none⟩)]) (by simp) (by simp [go_sem]) ?_
    refine (catch_fault (w1.heap.size + 1) w.heap.size (w.heap.size + 1) w1.heap.size (.slice A2 N c2) p2 0 0 cc w2 hgc2 hg2 h42 h52 (by simp) (Ne.symm n3) (Ne.symm n4) (by simp) n1).mono ?_
    rintro e u' w'' ⟨rfl, rfl, rfl⟩
    have z3 := blk_alloc (blk_set (blk_far h42 (p := ⟨w1.heap.size, 2, none⟩) (Ne.symm n3) (.bool false)) 0 (.int .i64 p2)) (.cells #[.pointer (some ⟨w1.heap.size, 0, none⟩), .int .i64 cc] 402)
    have z1 := (blk_cell (blk_far z3 (p := ⟨w.heap.size + 1, 0, none⟩) (by simp) (.int .i64 cc)) 0).trans rfl
    have z4 := blk_alloc (blk_far (blk_far h52 (p := ⟨w1.heap.size, 2, none⟩) (Ne.symm n4) (.bool false)) (p := ⟨w.heap.size, 0, none⟩) (by simp) (.int .i64 p2)) (.cells #[.pointer (some ⟨w1.heap.size, 0, none⟩), .int .i64 cc] 402)
    have z2 := (blk_cell (blk_set z4 0 (.int .i64 cc)) 0).trans rfl
    refine ⟨.tuple #[.int .i64 p2, .int .i64 cc], ?_, ⟨p2, rfl⟩, w2, hz2, run_only w w1 w2 _ _ gr hgr hb1 ho2, ?_⟩
    · simp [results, Tryz.results180, go_sem, z1, z2]
    · have hs3 := ho2.size
      simp at hs3
      exact ((((Below.refl _ _).setCell (by simpa using hs1) _).setCell (by simp) _).alloc (by simp [World.setCell]; omega) _).setCell (by simp) _
end Go.Proofs.YtkpacfcklpoanaaGreat
