/- A full row of things grows, then takes one more. -/
import Derived.Test.YtbopnglncjdnmaaTGrow
set_option linter.unusedSimpArgs false
set_option linter.unusedVariables false
namespace Go.Proofs.Ytbopnglncjdnmaa
open Go.RowKit

theorem TAt.alloc {w : World} {b c room first n : Nat} {cs : Array Value} {l : List Int} (h : TAt w b c room first n cs l) (o : Obj) : TAt (w.alloc o) b c room first n cs l := by
  obtain ⟨t, ht⟩ := h.own
  refine ⟨⟨t, heap_alloc_old ht o⟩, fun hn => ?_, h.size, h.room1, h.room2, h.most, h.many, h.fst_, h.at_⟩
  obtain ⟨h1, t2, h2⟩ := h.row hn
  exact ⟨h1, t2, heap_alloc_old h2 o⟩
theorem TAt.drewN {w : World} {b c room first n : Nat} {cs : Array Value} {l : List Int} (h : TAt w b c room first n cs l) (q : Nat) : TAt (w.drewN q) b c room first n cs l :=
  ⟨h.own, h.row, h.size, h.room1, h.room2, h.most, h.many, h.fst_, h.at_⟩

set_option maxHeartbeats 1000000 in
set_option maxRecDepth 100000 in
theorem tpush_grow (b c0' room first0 m : Nat) (cs0 : Array Value) (l : List Int) (x : Int) (w : World) (h0 : TAt w b c0' room first0 m cs0 l) (hf0 : l.length = m) (hnr : m < room) :
    Calls Try.prog 19 #[.pointer (some ⟨b, 0, none⟩), .agg (thCells x)] w fun e w' => e = .returned (.int .i64 0) ∧ Side (fun k => k = b) w w' ∧ ∃ f' c' n' cs', w.heap.size ≤ c' ∧ TAt w' b c' room f' n' cs' (l ++ [x]) := by
  have hr := h0.room2
  have c0 := h0.cells.c0
  have c1 := h0.cells.c1
  have c2 := h0.cells.c2
  have c3 := h0.cells.c3
  have hbl := h0.rb.lt
  generalize hA : (if m = 0 then none else some (⟨c0', 0, none⟩ : Addr)) = A at c3
  rw [hf0] at c2
  have g1 : ((m : Int) == (room : Int)) = false := by rw [beq_eq_false_iff_ne]; omega
  have HG : Hid (∀ w', TAt w' b c0' room first0 m cs0 l → Calls Try.prog 34 #[.pointer (some ⟨b, 0, none⟩)] w' fun e w'' => e = .returned (.tuple #[]) ∧ Side (fun k => k = b) w' w'' ∧ ∃ f' c' n' cs', w'.heap.size ≤ c' ∧ m < n' ∧ TAt w'' b c' room f' n' cs' l) :=
    Lib.hid fun w' h' => (tgrow_run b c0' room first0 m cs0 l w' h' hf0 hnr).mono fun e w9 ⟨x1, x2, c, n, cs, x3, x4, x5⟩ => ⟨x1, x2, 0, c, n, cs, x3, x4, x5⟩
  have HRD : Hid (∀ q, TAt ((w.alloc (.cells (thCells x) 36)).drewN q) b c0' room first0 m cs0 l) := Lib.hid fun q => (h0.alloc _).drewN q
  have HVA : Hid ((w.alloc (.cells (thCells x) 36)).heap[w.heap.size]? = some (.cells (thCells x) 36 (0, 0))) := Lib.hid (heap_new w _)
  have HL := Lib.hid hf0
  clear h0 hf0 hA
  go_enter Try.func19, Try.ntmps19
  go_wp2_with (fail)
  go_quiet (fail)
  go_wp2_with (fail)
  go_quiet (fail)
  go_wp2_with (go_at_call 34; ((with_reducible refine (HG.out _ (HRD.out _)).mono ?_); rintro e w9 ⟨rfl, hs, first, c, n, cs, hcw0, hf, h⟩; have hcw : w.heap.size ≤ c := Nat.le_trans (by simp) hcw0; have HS9 := Lib.hid (show Side (fun k => k = b) w w9 from Side.trans ((Side.refl _ w).alloc _) ⟨hs.os, hs.tape, hs.output, hs.size, hs.block⟩); have HV9 := Lib.hid ((hs.block w.heap.size (by simp) (by show ¬ w.heap.size = b; omega)).trans HVA.out); clear hs; have hcg0 : w.heap.size < c := Nat.lt_of_lt_of_le (by simp) hcw0; clear hcw0; have hm := h.most; have HF := Lib.hid (h.fst_ (by omega)); have HN := Lib.hid (show n ≠ 0 by omega); have c22 := h.cells.c2; rw [HL.out] at c22; have HRBX := h.rb; rw [HL.out] at HRBX; have HRBH := Lib.hid HRBX; have f2 := h.cells.f 2; obtain ⟨hcb, tc, hcc⟩ := h.row HN.out; have HC9 := Lib.hid hcc; have HH := Lib.hid h; clear h HRBX hcc))
  clear c0 c1 c2 c3
  have c0 := c22
  have c1 := c22
  have c2 := c22
  have c3 := c22
  have g2 := g1
  obtain ⟨k, hk⟩ : ∃ k, spotOf first n m = k := ⟨_, rfl⟩
  have hkn : k < n := by rw [← hk]; exact spot_lt (by have := HN.out; omega)
  have hki : (k : Int) < n := by omega
  have HC1 : Hid (∀ w', RCells w' b room first (m + 1) n (.slice (some ⟨c, 0, none⟩) n n) → Calls Try.prog 33 #[.pointer (some ⟨b, 0, none⟩), .int .i64 m] w' fun e w'' => e = .returned (.int .i64 k) ∧ ∃ q, w'' = w'.drewN q) := by
    refine Lib.hid fun w' h' => ?_
    rw [← hk]
    exact tcell_run b room first (m + 1) n m _ _ h' (by have := HN.out; omega) (by omega) HF.out (by omega)
  have HK := Lib.hid hk
  clear hk
  rename_i Q' _ _
  have HRB1 : RB (w9.setCell ⟨b, 2, none⟩ (.int .i64 ((m : Int) + 1))) b room first (m + 1) n (.slice (some ⟨c, 0, none⟩) n n) := by
    have := RB.set2 HRBH.out (m + 1)
    rw [if_neg HN.out] at this
    rw [show ((m : Int) + 1) = ((m + 1 : Nat) : Int) from by omega]
    exact this
  have HRC1 : (w9.setCell ⟨b, 2, none⟩ (.int .i64 ((m : Int) + 1))).heap[c]? = some (.cells cs tc (0, 0)) := by
    rw [heap_set_other _ _ _ _ _ hcb]; exact HC9.out
  have HV1 : (w9.setCell ⟨b, 2, none⟩ (.int .i64 ((m : Int) + 1))).heap[w.heap.size]? = some (.cells (thCells x) 36 (0, 0)) := by
    rw [heap_set_other _ _ _ _ _ (by omega)]; exact HV9.out
  have HS1 : Side (fun k => k = b) w (w9.setCell ⟨b, 2, none⟩ (.int .i64 ((m : Int) + 1))) := HS9.out.setCell rfl _
  generalize (w9.setCell ⟨b, 2, none⟩ (.int .i64 ((m : Int) + 1))) = W1 at HRB1 HRC1 HV1 HS1 ⊢
  obtain ⟨g, hg⟩ : ∃ g, w.heap.size = g := ⟨_, rfl⟩
  have hgw : w.heap.size = g := hg
  rw [hg] at HV1 hbl hcw ⊢
  have hgb : g ≠ b := by omega
  have HCW := Lib.hid hcw
  have HGW := Lib.hid hgw
  clear hgw
  have hgc : g ≠ c := by omega
  have hcg : c ≠ g := by omega
  have d2 := HRB1.cells.c2
  have d3 := HRB1.cells.c3
  have hsz := HH.out.size
  obtain ⟨o0, ho0⟩ : ∃ o, cs[k * 3]? = some o := ⟨_, Array.getElem?_eq_getElem (by omega)⟩
  obtain ⟨o1, ho1⟩ : ∃ o, cs[k * 3 + 1]? = some o := ⟨_, Array.getElem?_eq_getElem (by omega)⟩
  obtain ⟨o2, ho2⟩ : ∃ o, cs[k * 3 + 2]? = some o := ⟨_, Array.getElem?_eq_getElem (by omega)⟩
  have dk0 : W1.cell? ⟨c, k * 3, none⟩ = some o0 := by rw [cell_of_heap HRC1]; exact ho0
  have dk1 : W1.cell? ⟨c, k * 3 + 1, none⟩ = some o1 := by rw [cell_of_heap HRC1]; exact ho1
  have dk2 : W1.cell? ⟨c, k * 3 + 2, none⟩ = some o2 := by rw [cell_of_heap HRC1]; exact ho2
  have fk0 : W1.frozen? ⟨c, k * 3, none⟩ = false := frozen_of_heap HRC1
  have fk1 : W1.frozen? ⟨c, k * 3 + 1, none⟩ = false := frozen_of_heap HRC1
  have fk2 : W1.frozen? ⟨c, k * 3 + 2, none⟩ = false := frozen_of_heap HRC1
  have v0 : W1.cell? ⟨g, 0, none⟩ = some (.string ⟨#[UInt8.ofNat (x % 256).toNat]⟩) := cell_of_heap HV1
  have v1 : W1.cell? ⟨g, 1, none⟩ = some (.int .i64 x) := cell_of_heap HV1
  have v2 : W1.cell? ⟨g, 2, none⟩ = some (.int .i64 (wrap64 (-x))) := cell_of_heap HV1
  have HRBK := Lib.hid HRB1
  have HRC1' := Lib.hid HRC1
  have HS1' := Lib.hid HS1
  obtain ⟨m1, hm1⟩ : ∃ m1, m + 1 = m1 := ⟨_, rfl⟩
  have wr1 : IntKind.i64.wrap ((m1 : Int) - 1) = m := by rw [IntKind.wrap_i64]; omega
  rw [hm1] at d2 HC1 HRBK
  have HM1 := Lib.hid hm1
  have HRCD : Hid (RCells W1.drew b room first m1 n (.slice (some ⟨c, 0, none⟩) n n)) := Lib.hid (RB.cells HRBK.out)
  clear hcw hm1 HRB1 HRC1 HV1 HS1 hg ho0 ho1 ho2 hsz c0 c1 c2 c3 f2 g1 g2
  go_region_held3 (fun w' => w'.cell? ⟨b, 3, none⟩ = some (.slice (some ⟨c, 0, none⟩) n n) ∧ w'.cell? ⟨b, 2, none⟩ = some (.int .i64 m1) ∧ w'.cell? ⟨g, 0, none⟩ = some (.string ⟨#[UInt8.ofNat (x % 256).toNat]⟩) ∧ w'.cell? ⟨g, 1, none⟩ = some (.int .i64 x) ∧ w'.cell? ⟨g, 2, none⟩ = some (.int .i64 (wrap64 (-x)))) (go_keep)
    (first | (go_at_call 33; (with_reducible refine (HC1.out _ HRCD.out).mono ?_); rintro e w2 ⟨rfl, m2, rfl⟩))
  go_wp2
  go_ret
  have e1 : l.length = m := HL.out
  have e2 : m + 1 = m1 := HM1.out
  have e3 : spotOf first n m = k := HK.out
  have hcw2 : w.heap.size ≤ c := by have h1 := HCW.out; have h2 := HGW.out; omega
  refine ⟨rfl, (((HS1'.out.drewN _).setNew hcw2 _).setNew hcw2 _).setNew hcw2 _, first, c, n, thPut cs k x, hcw2, ?_⟩
  have hr1 := HRBK.out
  rw [show m1 = (l ++ [x]).length from by rw [List.length_append, e1, ← e2]; rfl, show (some ⟨c, 0, none⟩ : Option Addr) = (if n = 0 then none else some ⟨c, 0, none⟩) from (if_neg HN.out).symm] at hr1
  refine ⟨(((hr1.drewN _).side hcb.symm).side hcb.symm).side hcb.symm, fun _ => ⟨hcb, tc, thPut_heap HRC1'.out k x _⟩, by rw [thPut_size]; exact HH.out.size, HH.out.room1, hr, hm, by rw [List.length_append, e1, List.length_singleton]; omega, fun _ => HF.out, fun i y hy => ?_⟩
  have hf' : first < n := HF.out
  rcases Nat.lt_trichotomy i m with h1 | h1 | h1
  · rw [List.getElem?_append_left (by omega)] at hy
    have hne : k ≠ spotOf first n i := by
      rw [← e3, spot_eq hf' (by omega), spot_eq hf' (by omega)]
      split <;> split <;> omega
    exact thPut_other hne (HH.out.at_ i y hy)
  · rw [h1, e3]
    rw [h1, ← e1] at hy
    simp at hy
    rw [← hy]
    exact thPut_self (by rw [HH.out.size]; omega)
  · rw [List.getElem?_eq_none (by rw [List.length_append, List.length_singleton]; omega)] at hy
    cases hy
end Go.Proofs.Ytbopnglncjdnmaa
