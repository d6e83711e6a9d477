/- A full row grows, then takes one more. -/
import Derived.Test.YtbopnglncjdnmaaGrow
set_option linter.unusedSimpArgs false
set_option linter.unusedVariables false
namespace Go.Proofs.Ytbopnglncjdnmaa
open Go.RowKit

set_option maxHeartbeats 1000000 in
set_option maxRecDepth 100000 in
theorem push_grow (b c0' room first0 m : Nat) (cs0 : Array Value) (l : List Int) (x : Int) (w : World) (h0 : RAt w b c0' room first0 m cs0 l) (hf0 : l.length = m) (hnr : m < room) :
    Calls Try.prog 11 #[.pointer (some ⟨b, 0, none⟩), .int .i64 x] w fun e w' => e = .returned (.int .i64 0) ∧ Side (fun k => k = b) w w' ∧ ∃ f' c' n' cs', w.heap.size ≤ c' ∧ RAt w' b c' room f' n' cs' (l ++ [x]) := by
  have hr := h0.room2
  have c0 := h0.cells.c0
  have c1 := h0.cells.c1
  have c2 := h0.cells.c2
  have c3 := h0.cells.c3
  generalize hA : (if m = 0 then none else some (⟨c0', 0, none⟩ : Addr)) = A at c3
  rw [hf0] at c2
  have g1 : ((m : Int) == (room : Int)) = false := by rw [beq_eq_false_iff_ne]; omega
  have HG : Hid (∀ w', RAt w' b c0' room first0 m cs0 l → Calls Try.prog 29 #[.pointer (some ⟨b, 0, none⟩)] w' fun e w'' => e = .returned (.tuple #[]) ∧ Side (fun k => k = b) w' w'' ∧ ∃ f' c' n' cs', w'.heap.size ≤ c' ∧ m < n' ∧ RAt w'' b c' room f' n' cs' l) :=
    Lib.hid fun w' h' => (grow_run b c0' room first0 m cs0 l w' h' hf0 hnr).mono fun e w9 ⟨x1, x2, c, n, cs, x3, x4, x5⟩ => ⟨x1, x2, 0, c, n, cs, x3, x4, x5⟩
  have HRD : Hid (∀ q, RAt (w.drewN q) b c0' room first0 m cs0 l) := Lib.hid fun q => ⟨h0.own, h0.row, h0.size, h0.room1, h0.room2, h0.most, h0.many, h0.fst_, h0.ints, h0.at_⟩
  have HL0 := Lib.hid hf0
  clear h0 hf0 hA
  go_enter Try.func11, Try.ntmps11
  go_wp2_with (fail)
  go_quiet (fail)
  go_wp2_with (fail)
  go_quiet (fail)
  go_wp2_with (go_at_call 29; ((with_reducible refine (HG.out _ (HRD.out _)).mono ?_); rintro e w9 ⟨rfl, hs, first, c, n, cs, hcw0, hf, h⟩; have hcw : w.heap.size ≤ c := hcw0; have hs9 := Lib.hid (show Side (fun k => k = b) w w9 from ⟨hs.os, hs.tape, hs.output, hs.size, hs.block⟩); clear hs hcw0; have hm := h.most; have HF := Lib.hid (h.fst_ (by omega)); have HN := Lib.hid (show n ≠ 0 by omega); have c22 := h.cells.c2; rw [HL0.out] at c22; have HRBX := h.rb; rw [HL0.out] at HRBX; have HRBH := Lib.hid HRBX; have f2 := h.cells.f 2; have HHH := Lib.hid h; clear h HRBX))
  have HRB := HRBH.out
  have h := HHH.out
  have HL := HL0
  clear c0 c1 c2 c3
  have c0 := c22
  have c1 := c22
  have c2 := c22
  have c3 := c22
  have g2 := g1
  obtain ⟨k, hk⟩ : ∃ k, spotOf first n m = k := ⟨_, rfl⟩
  have hkn : k < n := by rw [← hk]; exact spot_lt (by have := HN.out; omega)
  have hki : (k : Int) < n := by omega
  have HC1 : Hid (∀ w', RCells w' b room first (m + 1) n (.slice (some ⟨c, 0, none⟩) n n) → Calls Try.prog 30 #[.pointer (some ⟨b, 0, none⟩), .int .i64 m] w' fun e w'' => e = .returned (.int .i64 k) ∧ ∃ q, w'' = w'.drewN q) := by
    refine Lib.hid fun w' h' => ?_
    rw [← hk]
    exact cell_run b room first (m + 1) n m _ _ h' (by have := HN.out; omega) (by omega) HF.out (by omega)
  have HK := Lib.hid hk
  clear hk
  rename_i Q' _ _
  have HRB1 : RB (w9.setCell ⟨b, 2, none⟩ (.int .i64 ((m : Int) + 1))) b room first (m + 1) n (.slice (some ⟨c, 0, none⟩) n n) := by
    have := RB.set2 (HRB) (m + 1)
    rw [if_neg HN.out] at this
    rw [show ((m : Int) + 1) = ((m + 1 : Nat) : Int) from by omega]
    exact this
  obtain ⟨hcb, tc, hcc⟩ := h.row HN.out
  have HRC1 : (w9.setCell ⟨b, 2, none⟩ (.int .i64 ((m : Int) + 1))).heap[c]? = some (.cells cs tc (0, 0)) := by
    rw [heap_set_other _ _ _ _ _ hcb]; exact hcc
  have HS1 : Side (fun k => k = b ∨ k = c) w9 (w9.setCell ⟨b, 2, none⟩ (.int .i64 ((m : Int) + 1))) := (Side.refl _ w9).setCell (Or.inl rfl) _
  generalize (w9.setCell ⟨b, 2, none⟩ (.int .i64 ((m : Int) + 1))) = W1 at HRB1 HRC1 HS1 ⊢
  have d2 := HRB1.cells.c2
  have d3 := HRB1.cells.c3
  obtain ⟨old, hold⟩ := h.ints k hkn
  have dk : W1.cell? ⟨c, k, none⟩ = some (.int .i64 old) := by rw [cell_of_heap HRC1]; exact hold
  have fk : W1.frozen? ⟨c, k, none⟩ = false := frozen_of_heap HRC1
  have HH := Lib.hid h
  have HRB1' := Lib.hid HRB1
  have HRC1' := Lib.hid HRC1
  have HS1' := Lib.hid HS1
  have HOLD := Lib.hid hold
  have HCC := Lib.hid hcc
  clear h HRB HRB1 HRC1 HS1 hold hcc c0 c1 c2 c3 f2 g1 g2 
  rw [show ((m : Int) + 1) = ((m + 1 : Nat) : Int) from by omega]
  obtain ⟨m1, hm1⟩ : ∃ m1, m + 1 = m1 := ⟨_, rfl⟩
  have wr1 : IntKind.i64.wrap ((m1 : Int) - 1) = m := by rw [IntKind.wrap_i64]; omega
  rw [hm1] at d2 HC1 HRB1' ⊢
  have HM1 := Lib.hid hm1
  clear hm1
  have HRCD : Hid (RCells W1.drew b room first m1 n (.slice (some ⟨c, 0, none⟩) n n)) := Lib.hid (RB.cells HRB1'.out)
  have HRBK := Lib.hid HRB1'.out
  clear HRB1'
  go_region_held3 (fun w' => w'.cell? ⟨b, 3, none⟩ = some (.slice (some ⟨c, 0, none⟩) n n) ∧ w'.cell? ⟨b, 2, none⟩ = some (.int .i64 m1) ∧ w'.frozen? ⟨c, k, none⟩ = false) (go_keep)
    (first | (go_at_call 30; with_reducible refine (HC1.out _ HRCD.out).mono ?_; rintro e w2 ⟨rfl, m2, rfl⟩))
  go_wp2
  go_ret
  have e1 : l.length = m := HL.out
  have e2 : m + 1 = m1 := HM1.out
  have e3 : spotOf first n m = k := HK.out
  refine ⟨rfl, ?_, first, c, n, cs.setIfInBounds k (.int .i64 x), hcw, ?_⟩
  · have s2 := (HS1'.out.drewN m2).setCell (x := ⟨c, k, none⟩) (Or.inr rfl) (.int .i64 x)
    exact ⟨s2.os.trans hs9.out.os, s2.tape.trans hs9.out.tape, s2.output.trans hs9.out.output, Nat.le_trans hs9.out.size s2.size, fun j hj hb => (s2.block j (Nat.lt_of_lt_of_le hj hs9.out.size) (fun o => by rcases o with o | o; exact hb o; omega)).trans (hs9.out.block j hj hb)⟩
  have hr1 := HRBK.out
  rw [show m1 = (l ++ [x]).length from by rw [List.length_append, e1, ← e2]; rfl, show (some ⟨c, 0, none⟩ : Option Addr) = (if n = 0 then none else some ⟨c, 0, none⟩) from (if_neg HN.out).symm] at hr1
  refine ⟨(hr1.drewN _).side (fun e => hcb e.symm), fun _ => ⟨hcb, tc, heap_set_self _ c k _ HRC1'.out⟩, by rw [Array.size_setIfInBounds]; exact HH.out.size, HH.out.room1, hr, hm, by rw [List.length_append, e1, List.length_singleton]; omega, fun _ => HF.out, fun j hj => ?_, fun i y hy => ?_⟩
  · rw [Array.getElem?_setIfInBounds]
    split
    · rw [HH.out.size, if_pos (by omega)]; exact ⟨x, rfl⟩
    · exact HH.out.ints j hj
  · have hf' : first < n := HF.out
    rcases Nat.lt_trichotomy i m with h1 | h1 | h1
    · rw [List.getElem?_append_left (by omega)] at hy
      have hne : k ≠ spotOf first n i := by
        rw [← e3, spot_eq hf' (by omega), spot_eq hf' (by omega)]
        split <;> split <;> omega
      rw [Array.getElem?_setIfInBounds_ne hne]
      exact HH.out.at_ i y hy
    · rw [h1, e3, Array.getElem?_setIfInBounds_self_of_lt (by rw [HH.out.size]; exact hkn)]
      rw [h1, ← e1] at hy
      simp at hy
      rw [hy]
    · rw [List.getElem?_eq_none (by rw [List.length_append, List.length_singleton]; omega)] at hy
      cases hy
end Go.Proofs.Ytbopnglncjdnmaa
