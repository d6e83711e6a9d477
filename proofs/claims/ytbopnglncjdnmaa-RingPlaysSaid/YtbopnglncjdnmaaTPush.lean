/- A ring of things: PushBack. -/
import Derived.Test.YtbopnglncjdnmaaTRing
set_option linter.unusedSimpArgs false
set_option linter.unusedVariables false
namespace Go.Proofs.Ytbopnglncjdnmaa
open Go.RowKit

/-- A thing is laid at a place of a row. -/
def thPut (cs : Array Value) (k : Nat) (x : Int) : Array Value := ((cs.setIfInBounds (k * 3) (.string ⟨#[UInt8.ofNat (x % 256).toNat]⟩)).setIfInBounds (k * 3 + 1) (.int .i64 x)).setIfInBounds (k * 3 + 2) (.int .i64 (wrap64 (-x)))
theorem thPut_size (cs : Array Value) (k : Nat) (x : Int) : (thPut cs k x).size = cs.size := by simp [thPut]
theorem thPut_self {cs : Array Value} {k : Nat} {x : Int} (h : k * 3 + 2 < cs.size) : ThAt (thPut cs k x) k x := by
  refine ⟨?_, ?_, ?_⟩ <;> simp [thPut, Array.getElem?_setIfInBounds] <;> omega
theorem thPut_other {cs : Array Value} {k j : Nat} {x y : Int} (hne : k ≠ j) (h : ThAt cs j y) : ThAt (thPut cs k x) j y := by
  obtain ⟨h0, h1, h2⟩ := h
  unfold thPut
  refine ⟨?_, ?_, ?_⟩
  · rw [Array.getElem?_setIfInBounds_ne (by omega), Array.getElem?_setIfInBounds_ne (by omega), Array.getElem?_setIfInBounds_ne (by omega)]; exact h0
  · rw [Array.getElem?_setIfInBounds_ne (by omega), Array.getElem?_setIfInBounds_ne (by omega), Array.getElem?_setIfInBounds_ne (by omega)]; exact h1
  · rw [Array.getElem?_setIfInBounds_ne (by omega), Array.getElem?_setIfInBounds_ne (by omega), Array.getElem?_setIfInBounds_ne (by omega)]; exact h2
theorem thPut_heap {w : World} {c : Nat} {cs : Array Value} {tc : TypeId} (h : w.heap[c]? = some (.cells cs tc (0, 0))) (k : Nat) (x : Int) (q : Nat) :
    ((((w.drewN q).setCell ⟨c, k * 3, none⟩ (.string ⟨#[UInt8.ofNat (x % 256).toNat]⟩)).setCell ⟨c, k * 3 + 1, none⟩ (.int .i64 x)).setCell ⟨c, k * 3 + 2, none⟩ (.int .i64 (wrap64 (-x)))).heap[c]? = some (.cells (thPut cs k x) tc (0, 0)) :=
  heap_set_self _ _ _ _ (heap_set_self _ _ _ _ (heap_set_self _ _ _ _ h))

set_option maxHeartbeats 400000 in
set_option maxRecDepth 100000 in
theorem tpush_full (b c room first n : Nat) (cs : Array Value) (l : List Int) (x : Int) (w : World) (h : TAt w b c room first n cs l) (hf : l.length = room) :
    Calls Try.prog 19 #[.pointer (some ⟨b, 0, none⟩), (.agg (thCells x))] w fun e w' => e = .returned (.int .i64 50) ∧ Side (fun _ => False) w w' := by
  have c2 := h.cells.c2
  have c0 := h.cells.c0
  rw [hf] at c2
  have hbl := h.rb.lt
  clear h
  go_enter Try.func19, Try.ntmps19
  go_wp2
  go_quiet (fail)
  go_wp2
  go_ret
  exact ⟨rfl, ((Side.refl _ w).alloc _).drewN _⟩
set_option maxHeartbeats 1000000 in
set_option maxRecDepth 100000 in
theorem tpush_room (b c room first n : Nat) (cs : Array Value) (l : List Int) (x : Int) (w : World) (h : TAt w b c room first n cs l) (hf : l.length < n) :
    Calls Try.prog 19 #[.pointer (some ⟨b, 0, none⟩), .agg (thCells x)] w fun e w' => e = .returned (.int .i64 0) ∧ Side (fun k => k = b ∨ k = c) w w' ∧ ∃ cs', TAt w' b c room first n cs' (l ++ [x]) := by
  have hm := h.most
  have hr := h.room2
  have hn : n ≠ 0 := by omega
  have c0 := h.cells.c0
  have c1 := h.cells.c1
  have c2 := h.cells.c2
  have c3 := h.cells.c3
  rw [if_neg hn] at c3
  have f2 := h.cells.f 2
  have hbl := h.rb.lt
  have HF := Lib.hid (h.fst_ hn)
  have HN := Lib.hid hn
  obtain ⟨hcb, tc, hcc⟩ := h.row hn
  have hcl := heap_lt hcc
  have HCC := Lib.hid hcc
  clear hn hcc
  obtain ⟨m, hlm⟩ : ∃ m, l.length = m := ⟨_, rfl⟩
  have HRB := h.rb
  rw [hlm] at c2 hf HRB
  have HL := Lib.hid hlm
  have HH := Lib.hid h
  clear hlm h
  have g1 : ((m : Int) == (room : Int)) = false := by rw [beq_eq_false_iff_ne]; omega
  have g2 : ((m : Int) == (n : Int)) = false := by rw [beq_eq_false_iff_ne]; omega
  have HRBA : Hid (RB (w.alloc (.cells (thCells x) 36)) b room first m n (.slice (if n = 0 then none else some ⟨c, 0, none⟩) n n)) := Lib.hid (HRB.alloc _)
  have HSA : Hid (Side (fun k => k = b ∨ k = c) w (w.alloc (.cells (thCells x) 36))) := Lib.hid ((Side.refl _ w).alloc _)
  have HVA : Hid ((w.alloc (.cells (thCells x) 36)).heap[w.heap.size]? = some (.cells (thCells x) 36 (0, 0))) := Lib.hid (heap_new w _)
  have HCA : Hid ((w.alloc (.cells (thCells x) 36)).heap[c]? = some (.cells cs tc (0, 0))) := Lib.hid (heap_alloc_old HCC.out _)
  clear HRB
  go_enter Try.func19, Try.ntmps19
  go_wp2_with (fail)
  repeat (go_quiet (fail); try go_wp2_with (fail))
  obtain ⟨k, hk⟩ : ∃ k, spotOf first n m = k := ⟨_, rfl⟩
  have hkn : k < n := by rw [← hk]; exact spot_lt (by have := HN.out; omega)
  have hki : (k : Int) < n := by omega
  have HC1 : Hid (∀ w', RCells w' b room first (m + 1) n (.slice (some ⟨c, 0, none⟩) n n) → Calls Try.prog 33 #[.pointer (some ⟨b, 0, none⟩), .int .i64 m] w' fun e w'' => e = .returned (.int .i64 k) ∧ ∃ q, w'' = w'.drewN q) := by
    refine Lib.hid fun w' h' => ?_
    rw [← hk]
    exact tcell_run b room first (m + 1) n m _ _ h' (by have := HN.out; omega) (by omega) HF.out (by omega)
  have HK := Lib.hid hk
  clear hk
  rename_i Q' q1 _ _
  show Code.wp _ _ _ _ (((w.alloc (.cells (thCells x) 36)).drewN (q1 + nq)).setCell ⟨b, 2, none⟩ (.int .i64 ((m : Int) + 1)))
  have HRB1 : RB (((w.alloc (.cells (thCells x) 36)).drewN (q1 + nq)).setCell ⟨b, 2, none⟩ (.int .i64 ((m : Int) + 1))) b room first (m + 1) n (.slice (some ⟨c, 0, none⟩) n n) := by
    have := RB.set2 (HRBA.out.drewN (q1 + nq)) (m + 1)
    rw [if_neg HN.out] at this
    rw [show ((m : Int) + 1) = ((m + 1 : Nat) : Int) from by omega]
    exact this
  have HRC1 : (((w.alloc (.cells (thCells x) 36)).drewN (q1 + nq)).setCell ⟨b, 2, none⟩ (.int .i64 ((m : Int) + 1))).heap[c]? = some (.cells cs tc (0, 0)) := by
    rw [heap_set_other _ _ _ _ _ hcb]; exact HCA.out
  have HV1 : (((w.alloc (.cells (thCells x) 36)).drewN (q1 + nq)).setCell ⟨b, 2, none⟩ (.int .i64 ((m : Int) + 1))).heap[w.heap.size]? = some (.cells (thCells x) 36 (0, 0)) := by
    rw [heap_set_other _ _ _ _ _ (by omega)]; exact HVA.out
  have HS1 : Side (fun k => k = b ∨ k = c) w (((w.alloc (.cells (thCells x) 36)).drewN (q1 + nq)).setCell ⟨b, 2, none⟩ (.int .i64 ((m : Int) + 1))) := (HSA.out.drewN _).setCell (Or.inl rfl) _
  generalize (((w.alloc (.cells (thCells x) 36)).drewN (q1 + nq)).setCell ⟨b, 2, none⟩ (.int .i64 ((m : Int) + 1))) = W1 at HRB1 HRC1 HV1 HS1 ⊢
  obtain ⟨g, hg⟩ : ∃ g, w.heap.size = g := ⟨_, rfl⟩
  rw [hg] at HV1 hbl hcl ⊢
  have hgb : g ≠ b := by omega
  have hgc : g ≠ c := by omega
  have hcg : c ≠ g := by omega
  have d2 := HRB1.cells.c2
  have d3 := HRB1.cells.c3
  have hsz := HH.out.size
  obtain ⟨o0, ho0⟩ : ∃ o, cs[k * 3]? = some o := ⟨_, Array.getElem?_eq_getElem (by omega)⟩
  obtain ⟨o1, ho1⟩ : ∃ o, cs[k * 3 + 1]? = some o := ⟨_, Array.getElem?_eq_getElem (by omega)⟩
  obtain ⟨o2, ho2⟩ : ∃ o, cs[k * 3 + 2]? = some o := ⟨_, Array.getElem?_eq_getElem (by omega)⟩
  have dk0 : W1.cell? ⟨c, k * 3, none⟩ = some o0 := by rw [cell_of_heap HRC1]; exact ho0
  have dk1 : W1.cell? ⟨c, k * 3 + 1, none⟩ = some o1 := by rw [cell_of_heap HRC1]; exact ho1
  have dk2 : W1.cell? ⟨c, k * 3 + 2, none⟩ = some o2 := by rw [cell_of_heap HRC1]; exact ho2
  have fk0 : W1.frozen? ⟨c, k * 3, none⟩ = false := frozen_of_heap HRC1
  have fk1 : W1.frozen? ⟨c, k * 3 + 1, none⟩ = false := frozen_of_heap HRC1
  have fk2 : W1.frozen? ⟨c, k * 3 + 2, none⟩ = false := frozen_of_heap HRC1
  have v0 : W1.cell? ⟨g, 0, none⟩ = some (.string ⟨#[UInt8.ofNat (x % 256).toNat]⟩) := cell_of_heap HV1
  have v1 : W1.cell? ⟨g, 1, none⟩ = some (.int .i64 x) := cell_of_heap HV1
  have v2 : W1.cell? ⟨g, 2, none⟩ = some (.int .i64 (wrap64 (-x))) := cell_of_heap HV1
  have HRBK := Lib.hid HRB1
  have HRC1' := Lib.hid HRC1
  have HS1' := Lib.hid HS1
  obtain ⟨m1, hm1⟩ : ∃ m1, m + 1 = m1 := ⟨_, rfl⟩
  have wr1 : IntKind.i64.wrap ((m1 : Int) - 1) = m := by rw [IntKind.wrap_i64]; omega
  rw [hm1] at d2 HC1 HRBK
  have HM1 := Lib.hid hm1
  have HRCD : Hid (RCells W1.drew b room first m1 n (.slice (some ⟨c, 0, none⟩) n n)) := Lib.hid (RB.cells HRBK.out)
  clear hm1 HRB1 HRC1 HV1 HS1 hg ho0 ho1 ho2 hsz c0 c1 c2 c3 f2 g1 g2
  go_region_held3 (fun w' => w'.cell? ⟨b, 3, none⟩ = some (.slice (some ⟨c, 0, none⟩) n n) ∧ w'.cell? ⟨b, 2, none⟩ = some (.int .i64 m1) ∧ w'.cell? ⟨g, 0, none⟩ = some (.string ⟨#[UInt8.ofNat (x % 256).toNat]⟩) ∧ w'.cell? ⟨g, 1, none⟩ = some (.int .i64 x) ∧ w'.cell? ⟨g, 2, none⟩ = some (.int .i64 (wrap64 (-x)))) (go_keep)
    (first | (go_at_call 33; (with_reducible refine (HC1.out _ HRCD.out).mono ?_); rintro e w2 ⟨rfl, m2, rfl⟩))
  go_wp2
  go_ret
  have e1 : l.length = m := HL.out
  have e2 : m + 1 = m1 := HM1.out
  have e3 : spotOf first n m = k := HK.out
  refine ⟨rfl, (((HS1'.out.drewN _).setCell (Or.inr rfl) _).setCell (Or.inr rfl) _).setCell (Or.inr rfl) _, thPut cs k x, ?_⟩
  have hr1 := HRBK.out
  rw [show m1 = (l ++ [x]).length from by rw [List.length_append, e1, ← e2]; rfl, show (some ⟨c, 0, none⟩ : Option Addr) = (if n = 0 then none else some ⟨c, 0, none⟩) from (if_neg HN.out).symm] at hr1
  refine ⟨(((hr1.drewN _).side hcb.symm).side hcb.symm).side hcb.symm, fun _ => ⟨hcb, tc, thPut_heap HRC1'.out k x _⟩, by rw [thPut_size]; exact HH.out.size, HH.out.room1, hr, hm, by rw [List.length_append, e1, List.length_singleton]; omega, fun _ => HF.out, fun i y hy => ?_⟩
  have hf' : first < n := HF.out
  rcases Nat.lt_trichotomy i m with h1 | h1 | h1
  · rw [List.getElem?_append_left (by omega)] at hy
    have hne : k ≠ spotOf first n i := by
      rw [← e3, spot_eq hf' (by omega), spot_eq hf' (by omega)]
      split <;> split <;> omega
    exact thPut_other hne (HH.out.at_ i y hy)
  · rw [h1, e3]
    rw [h1, ← e1] at hy
    simp at hy
    rw [← hy]
    exact thPut_self (by rw [HH.out.size]; omega)
  · rw [List.getElem?_eq_none (by rw [List.length_append, List.length_singleton]; omega)] at hy
    cases hy
end Go.Proofs.Ytbopnglncjdnmaa
