/- Rings: Set within bounds. -/
import Derived.Test.YtbopnglncjdnmaaSets
set_option linter.unusedSimpArgs false
set_option linter.unusedVariables false
namespace Go.Proofs.Ytbopnglncjdnmaa
open Go.RowKit

set_option maxHeartbeats 1000000 in
set_option maxRecDepth 100000 in
theorem set_ok (b c room : Nat) (l : List Int) (i : Nat) (x : Int) (w : World) (h0 : RingAt w b c room l) (hil : i < l.length) :
    Calls Try.prog 40 #[.pointer (some ⟨b, 0, none⟩), .int .i64 i, .int .i64 x] w fun e w' => e = .returned (.int .i64 0) ∧ Side (fun k => k = b ∨ k = c) w w' ∧ RingAt w' b c room (l.set i x) := by
  obtain ⟨first, n, cs, h⟩ := h0
  have hmany := h.many
  have hmost := h.most
  have hr := h.room2
  have hn : n ≠ 0 := by omega
  have hf := h.fst_ hn
  obtain ⟨k, hk⟩ : ∃ k, spotOf first n i = k := ⟨_, rfl⟩
  have hkn : k < n := by rw [← hk]; exact spot_lt (by omega)
  have hki : (k : Int) < n := by omega
  obtain ⟨m, hm⟩ : ∃ m, l.length = m := ⟨_, rfl⟩
  rw [hm] at hil hmany
  have c2 := h.cells.c2
  have c3 := h.cells.c3
  rw [if_neg hn] at c3
  rw [hm] at c2
  obtain ⟨hcb, tc, hcc⟩ := h.row hn
  have hbl := heap_lt h.own.choose_spec
  have hcl := heap_lt hcc
  have HCC := Lib.hid hcc
  have HRB0 := h.rb
  rw [if_neg hn, hm] at HRB0
  have HRB := Lib.hid HRB0
  have HH := Lib.hid h
  have HF := Lib.hid hf
  have HN := Lib.hid hn
  have HK := Lib.hid hk
  have HM := Lib.hid hm
  have HC1 : Hid (∀ w', RCells w' b room first m n (.slice (some ⟨c, 0, none⟩) n n) → Calls Try.prog 30 #[.pointer (some ⟨b, 0, none⟩), .int .i64 i] w' fun e w'' => e = .returned (.int .i64 k) ∧ ∃ q, w'' = w'.drewN q) := by
    refine Lib.hid fun w' h' => ?_
    rw [← hk]
    exact cell_run b room first m n i _ _ h' (by omega) (by omega) hf (by omega)
  have hi1 : decide ((i : Int) < 0) = false := decide_eq_false (by omega)
  have hi2 : decide ((m : Int) ≤ i) = false := decide_eq_false (by omega)
  have hi3 : decide (m ≤ i) = false := decide_eq_false (by omega)
  obtain ⟨old, hold⟩ := h.ints k hkn
  have dk : w.cell? ⟨c, k, none⟩ = some (.int .i64 old) := by rw [cell_of_heap hcc]; exact hold
  have fk : w.frozen? ⟨c, k, none⟩ = false := frozen_of_heap hcc
  have HRCD : Hid (RCells w.drew b room first m n (.slice (some ⟨c, 0, none⟩) n n)) := Lib.hid (RB.cells HRB0)
  clear h hk hm hn hf hcc HRB0 hold
  go_enter Try.func40, Try.ntmps40
  go_wp2_with (fail)
  go_region_held3 (fun w' => w'.cell? ⟨b, 3, none⟩ = some (.slice (some ⟨c, 0, none⟩) n n)) (go_keep)
    (first | (go_at_call 30; (with_reducible refine (HC1.out _ HRCD.out).mono ?_); rintro e w2 ⟨rfl, m2, rfl⟩))
  go_wp2
  go_ret
  have e3 : spotOf first n i = k := HK.out
  have hm' : l.length = m := HM.out
  refine ⟨rfl, ((Side.refl _ w).drewN _).setCell (Or.inr rfl) _, first, n, cs.setIfInBounds k (.int .i64 x), ?_⟩
  have hr1 := HRB.out
  rw [show (some ⟨c, 0, none⟩ : Option Addr) = (if n = 0 then none else some ⟨c, 0, none⟩) from (if_neg HN.out).symm, show m = (l.set i x).length from by rw [List.length_set, hm']] at hr1
  refine ⟨(hr1.drewN _).side hcb.symm, fun _ => ⟨hcb, tc, heap_set_self _ c k _ HCC.out⟩, by rw [Array.size_setIfInBounds]; exact HH.out.size, HH.out.room1, hr, hmost, by rw [List.length_set, hm']; exact hmany, fun _ => HF.out, fun j hj => ?_, fun j y hy => ?_⟩
  · rw [Array.getElem?_setIfInBounds]
    split
    · rw [HH.out.size, if_pos (by omega)]; exact ⟨x, rfl⟩
    · exact HH.out.ints j hj
  · have hjl : j < l.length := by have := (List.getElem?_eq_some_iff.1 hy).1; rw [List.length_set] at this; exact this
    rw [List.getElem?_set] at hy
    split at hy
    · rename_i hij
      subst hij
      rw [if_pos hjl] at hy
      cases hy
      rw [e3, Array.getElem?_setIfInBounds_self_of_lt (by rw [HH.out.size]; exact hkn)]
    · rename_i hij
      have hf' : first < n := HF.out
      have hne : k ≠ spotOf first n j := by
        rw [← e3, spot_eq hf' (by omega), spot_eq hf' (by omega)]
        split <;> split <;> omega
      rw [Array.getElem?_setIfInBounds_ne hne]
      exact HH.out.at_ j y hy

set_option maxHeartbeats 1000000 in
set_option maxRecDepth 100000 in
theorem tset_ok (b c room : Nat) (l : List Int) (i : Nat) (x : Int) (w : World) (h0 : ThingAt w b c room l) (hil : i < l.length) :
    Calls Try.prog 21 #[.pointer (some ⟨b, 0, none⟩), .int .i64 i, .agg (thCells x)] w fun e w' => e = .returned (.int .i64 0) ∧ Side (fun k => k = b ∨ k = c) w w' ∧ ThingAt w' b c room (l.set i x) := by
  obtain ⟨first, n, cs, h⟩ := h0
  have hmany := h.many
  have hmost := h.most
  have hr := h.room2
  have hn : n ≠ 0 := by omega
  have hf := h.fst_ hn
  obtain ⟨k, hk⟩ : ∃ k, spotOf first n i = k := ⟨_, rfl⟩
  have hkn : k < n := by rw [← hk]; exact spot_lt (by omega)
  have hki : (k : Int) < n := by omega
  obtain ⟨m, hm⟩ : ∃ m, l.length = m := ⟨_, rfl⟩
  rw [hm] at hil hmany
  have c2 := h.cells.c2
  have c3 := h.cells.c3
  rw [if_neg hn] at c3
  rw [hm] at c2
  obtain ⟨hcb, tc, hcc⟩ := h.row hn
  have hbl := heap_lt h.own.choose_spec
  have hcl := heap_lt hcc
  have HCC := Lib.hid hcc
  have HRB0 := h.rb
  rw [if_neg hn, hm] at HRB0
  have HRB := Lib.hid HRB0
  have HH := Lib.hid h
  have HF := Lib.hid hf
  have HN := Lib.hid hn
  have HK := Lib.hid hk
  have HM := Lib.hid hm
  have HC1 : Hid (∀ w', RCells w' b room first m n (.slice (some ⟨c, 0, none⟩) n n) → Calls Try.prog 33 #[.pointer (some ⟨b, 0, none⟩), .int .i64 i] w' fun e w'' => e = .returned (.int .i64 k) ∧ ∃ q, w'' = w'.drewN q) := by
    refine Lib.hid fun w' h' => ?_
    rw [← hk]
    exact tcell_run b room first m n i _ _ h' (by omega) (by omega) hf (by omega)
  have hi1 : decide ((i : Int) < 0) = false := decide_eq_false (by omega)
  have hi2 : decide ((m : Int) ≤ i) = false := decide_eq_false (by omega)
  have hi3 : decide (m ≤ i) = false := decide_eq_false (by omega)
  have HRBA : Hid (RB (w.alloc (.cells (thCells x) 36)) b room first m n (.slice (some ⟨c, 0, none⟩) n n)) := Lib.hid (HRB0.alloc _)
  have hva : (w.alloc (.cells (thCells x) 36)).heap[w.heap.size]? = some (.cells (thCells x) 36 (0, 0)) := heap_new w _
  have hca : (w.alloc (.cells (thCells x) 36)).heap[c]? = some (.cells cs tc (0, 0)) := heap_alloc_old hcc _
  have HSA : Hid (Side (fun k => k = b ∨ k = c) w (w.alloc (.cells (thCells x) 36))) := Lib.hid ((Side.refl _ w).alloc _)
  clear h hk hm hn hf hcc HRB0
  go_enter Try.func21, Try.ntmps21
  go_wp2_with (fail)
  show Code.wp _ _ _ _ (w.alloc (.cells (thCells x) 36))
  generalize (w.alloc (.cells (thCells x) 36)) = W1 at HRBA hva hca HSA ⊢
  obtain ⟨g, hg⟩ : ∃ g, w.heap.size = g := ⟨_, rfl⟩
  rw [hg] at hva hbl hcl ⊢
  have hgb : g ≠ b := by omega
  have hgc : g ≠ c := by omega
  have hcg : c ≠ g := by omega
  have hsz := HH.out.size
  obtain ⟨o0, ho0⟩ : ∃ o, cs[k * 3]? = some o := ⟨_, Array.getElem?_eq_getElem (by omega)⟩
  obtain ⟨o1, ho1⟩ : ∃ o, cs[k * 3 + 1]? = some o := ⟨_, Array.getElem?_eq_getElem (by omega)⟩
  obtain ⟨o2, ho2⟩ : ∃ o, cs[k * 3 + 2]? = some o := ⟨_, Array.getElem?_eq_getElem (by omega)⟩
  have dk0 : W1.cell? ⟨c, k * 3, none⟩ = some o0 := by rw [cell_of_heap hca]; exact ho0
  have dk1 : W1.cell? ⟨c, k * 3 + 1, none⟩ = some o1 := by rw [cell_of_heap hca]; exact ho1
  have dk2 : W1.cell? ⟨c, k * 3 + 2, none⟩ = some o2 := by rw [cell_of_heap hca]; exact ho2
  have fk0 : W1.frozen? ⟨c, k * 3, none⟩ = false := frozen_of_heap hca
  have fk1 : W1.frozen? ⟨c, k * 3 + 1, none⟩ = false := frozen_of_heap hca
  have fk2 : W1.frozen? ⟨c, k * 3 + 2, none⟩ = false := frozen_of_heap hca
  have v0 : W1.cell? ⟨g, 0, none⟩ = some (.string ⟨#[UInt8.ofNat (x % 256).toNat]⟩) := cell_of_heap hva
  have v1 : W1.cell? ⟨g, 1, none⟩ = some (.int .i64 x) := cell_of_heap hva
  have v2 : W1.cell? ⟨g, 2, none⟩ = some (.int .i64 (wrap64 (-x))) := cell_of_heap hva
  have d3 := HRBA.out.cells.c3
  have HRCD : Hid (RCells W1.drew b room first m n (.slice (some ⟨c, 0, none⟩) n n)) := Lib.hid (RB.cells HRBA.out)
  have HCA := Lib.hid hca
  clear hva hca hg ho0 ho1 ho2 hsz c2 c3
  go_region_held3 (fun w' => w'.cell? ⟨b, 3, none⟩ = some (.slice (some ⟨c, 0, none⟩) n n) ∧ w'.cell? ⟨g, 0, none⟩ = some (.string ⟨#[UInt8.ofNat (x % 256).toNat]⟩) ∧ w'.cell? ⟨g, 1, none⟩ = some (.int .i64 x) ∧ w'.cell? ⟨g, 2, none⟩ = some (.int .i64 (wrap64 (-x)))) (go_keep)
    (first | (go_at_call 33; (with_reducible refine (HC1.out _ HRCD.out).mono ?_); rintro e w2 ⟨rfl, m2, rfl⟩))
  go_wp2
  go_ret
  have e3 : spotOf first n i = k := HK.out
  have hm' : l.length = m := HM.out
  refine ⟨rfl, (((HSA.out.drewN _).setCell (Or.inr rfl) _).setCell (Or.inr rfl) _).setCell (Or.inr rfl) _, first, n, thPut cs k x, ?_⟩
  have hr1 := HRBA.out
  rw [show (some ⟨c, 0, none⟩ : Option Addr) = (if n = 0 then none else some ⟨c, 0, none⟩) from (if_neg HN.out).symm, show m = (l.set i x).length from by rw [List.length_set, hm']] at hr1
  refine ⟨(((hr1.drewN _).side hcb.symm).side hcb.symm).side hcb.symm, fun _ => ⟨hcb, tc, thPut_heap HCA.out k x _⟩, by rw [thPut_size]; exact HH.out.size, HH.out.room1, hr, hmost, by rw [List.length_set, hm']; exact hmany, fun _ => HF.out, fun j y hy => ?_⟩
  have hjl : j < l.length := by have := (List.getElem?_eq_some_iff.1 hy).1; rw [List.length_set] at this; exact this
  rw [List.getElem?_set] at hy
  split at hy
  · rename_i hij
    subst hij
    rw [if_pos hjl] at hy
    cases hy
    rw [e3]
    exact thPut_self (by rw [HH.out.size]; omega)
  · rename_i hij
    have hf' : first < n := HF.out
    have hne : k ≠ spotOf first n j := by
      rw [← e3, spot_eq hf' (by omega), spot_eq hf' (by omega)]
      split <;> split <;> omega
    exact thPut_other hne (HH.out.at_ j y hy)

theorem tpush_ok (b c room : Nat) (l : List Int) (x : Int) (w : World) (h : ThingAt w b c room l) (hl : l.length < room) :
    Calls Try.prog 19 #[.pointer (some ⟨b, 0, none⟩), .agg (thCells x)] w fun e w' => e = .returned (.int .i64 0) ∧ Side (fun k => k = b ∨ k = c) w w' ∧ ∃ c', (c' = c ∨ w.heap.size ≤ c') ∧ ThingAt w' b c' room (l ++ [x]) := by
  obtain ⟨f, n, cs, h⟩ := h
  have hm := h.many
  rcases Nat.lt_or_ge l.length n with hn | hn
  · exact (tpush_room b c room f n cs l x w h hn).mono fun e w' ⟨h1, h2, cs', h3⟩ => ⟨h1, h2, c, Or.inl rfl, f, n, cs', h3⟩
  · exact (tpush_grow b c room f n cs l x w (by rw [show n = l.length from by omega] at h ⊢; exact h) (by omega) (by omega)).mono fun e w' ⟨h1, h2, f', c', n', cs', h3, h4⟩ => ⟨h1, h2.mono (fun k _ hk => Or.inl hk), c', Or.inr h3, f', n', cs', h4⟩
theorem tpush_no (b c room : Nat) (l : List Int) (x : Int) (w : World) (h : ThingAt w b c room l) (hl : l.length = room) :
    Calls Try.prog 19 #[.pointer (some ⟨b, 0, none⟩), .agg (thCells x)] w fun e w' => e = .returned (.int .i64 50) ∧ Side (fun _ => False) w w' := by
  obtain ⟨f, n, cs, h⟩ := h
  exact tpush_full b c room f n cs l x w h hl

end Go.Proofs.Ytbopnglncjdnmaa
