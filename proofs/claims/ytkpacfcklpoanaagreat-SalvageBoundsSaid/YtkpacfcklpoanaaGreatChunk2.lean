import Derived.Test.YtkpacfcklpoanaaGreatChunk
set_option linter.unusedVariables false
set_option linter.unusedSimpArgs false
namespace Go.Proofs.YtkpacfcklpoanaaGreat
open Go.RowKit
def cfold (n : Nat) : Nat × Nat × Nat → List UInt8 → Nat × Nat × Nat
  | s, [] => s
  | s, x :: l => cfold n (cstep n s x) l
def couts (n : Nat) : Nat × Nat × Nat → List UInt8 → List (Nat × Nat × Nat)
  | _, [] => []
  | s, x :: l => cout s x ++ couts n (cstep n s x) l
theorem cstep_ok {n : Nat} {s : Nat × Nat × Nat} {x : UInt8} {k : Nat} (h : CutOk n s) (hk : s.1 + 1 ≤ 1000000000) : CutOk n (cstep n s x) ∧ (cstep n s x).1 ≤ s.1 + 1 := by
  obtain ⟨seg, at1, fr⟩ := s
  obtain ⟨h1, h2, h3, h4, h5⟩ := h
  simp only at h1 h2 h3 h4 h5 hk
  unfold cstep
  simp only
  split
  · refine ⟨⟨h1, h2, ?_, ?_, ?_⟩, ?_⟩ <;> simp <;> omega
  · refine ⟨⟨h1, h2, ?_, ?_, ?_⟩, ?_⟩
    · simp; omega
    · simp; split <;> omega
    · simp; omega
    · simp
theorem cout_length (s : Nat × Nat × Nat) (x : UInt8) : (cout s x).length ≤ 1 := by unfold cout; split <;> simp
set_option maxRecDepth 100000 in
set_option maxHeartbeats 2000000 in
theorem cut_Write (g n : Nat) (s : Nat × Nat × Nat) (l : List UInt8) (A : Option Addr) (c N : Nat) (w : World) (hc : IsCut w g n s) (hs : CutOk n s) (hlen : s.1 + l.length ≤ 1000000000) (hN : l.length = N) (hr : RS (· ≠ g) w A l) :
    Calls Tryz.prog 116 #[.pointer (some ⟨g, 0, none⟩), .slice A N c] w fun e w' => ∃ A' c', e = .returned (.slice A' (couts n s l).length c') ∧ OV encC w' w.heap.size 204 3 (.slice A' (couts n s l).length c') (couts n s l) ∧ IsCut w' g n (cfold n s l) ∧ OnlyR g none w w' := by
  go_enter Tryz.func116, Tryz.ntmps116
  go_wp2
  go_loopw [5, 7, 10] (fun o _ i wr => ∃ (k : Nat) (A2 : Option Addr) (c2 : Nat) (xs : List (Nat × Nat × Nat)) (t : Nat × Nat × Nat), k ≤ N ∧ i = .int .i64 k ∧ o = .slice A2 xs.length c2 ∧ OV encC wr w.heap.size 204 3 (.slice A2 xs.length c2) xs ∧ IsCut wr g n t ∧ CutOk n t ∧ t.1 + (N - k) ≤ 1000000000 ∧ xs.length ≤ k ∧
     xs ++ couts n t (l.drop k) = couts n s l ∧ cfold n t (l.drop k) = cfold n s l ∧ OnlyR g none w wr) (fun _ _ i _ => N - (intOf i).toNat)
  case atStart => exact ⟨0, none, 0, [], s, by omega, rfl, rfl, OV.nil _ _ _ _, hc, hs, by omega, by simp, rfl, rfl, OnlyR.refl _ _ _⟩
  case round =>
    obtain ⟨k, A2, c2, xs, t, hk, rfl, rfl, hov, hct, hok, hle, hxl, hco, hcf, hbl⟩ := hrel
    have HCO := hid0 hco
    have HCF := hid0 hcf
    clear hco hcf
    by_cases hlt : k < N
    · obtain ⟨a, rfl, hal, hcell⟩ := hr (by omega)
      have hck0 := hcell k (by omega)
      have hlt0 := World.block_lt_of_cell? w _ hck0
      have hck := (World.cell?_of_block (w' := wr) (hbl.block _ hlt0 (by rw [addr_add_block]; exact hal) (by simp))).trans hck0
      have hdk : l.drop k = l[k] :: l.drop (k + 1) := List.drop_eq_getElem_cons (by omega)
      go_wp2_with (go_at_call 204; go_loud ((with_reducible refine (cut_one g n w.heap.size t (l[k]'(by omega)) A2 c2 xs wr hct hok hbl.size hov ?_).mono ?_); omega; rintro e w2 ⟨A3, c3, rfl, hov3, hct3, hbl3⟩))
      go_roundw
      case rel =>
        have hcl := cout_length t l[k]
        have hst := cstep_ok (x := l[k]) (k := 0) hok (by omega)
        refine ⟨k + 1, A3, c3, xs ++ cout t l[k], _, by omega, by go_num, by simp, hov3, hct3, hst.1, by omega, by simp; omega, ?_, ?_, ?_⟩
        · rw [← HCO.out, hdk, couts, List.append_assoc]
        · rw [← HCF.out, hdk, cfold]
        · exact ⟨hbl3.os.trans hbl.os, hbl3.tape.trans hbl.tape, hbl3.output.trans hbl.output, Nat.le_trans hbl.size hbl3.size, fun i hi hg hrr => (hbl3.block i (Nat.lt_of_lt_of_le hi hbl.size) hg (fun e => by have := own_base hov i e.symm; omega)).trans (hbl.block i hi hg hrr)⟩
      case measure => simp [intOf]; omega
    · go_wp2
      go_ret
      have hk2 : k = N := by omega
      have hd : l.drop k = [] := List.drop_eq_nil_of_le (by omega)
      have h1 := HCO.out
      have h2 := HCF.out
      rw [hd] at h1 h2
      simp only [couts, cfold, List.append_nil] at h1 h2
      rw [← h1, ← h2]
      exact ⟨A2, c2, rfl, hov, hct, hbl⟩
end Go.Proofs.YtkpacfcklpoanaaGreat
