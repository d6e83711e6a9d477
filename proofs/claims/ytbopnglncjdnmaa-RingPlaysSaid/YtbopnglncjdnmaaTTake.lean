/- A ring of things: what is taken out. -/
import Derived.Test.YtbopnglncjdnmaaTPush2
set_option linter.unusedSimpArgs false
set_option linter.unusedVariables false
namespace Go.Proofs.Ytbopnglncjdnmaa
open Go.RowKit

/-- A row with an empty thing at a place. -/
def zPut (cs : Array Value) (k : Nat) : Array Value := ((cs.setIfInBounds (k * 3) (.string ⟨#[]⟩)).setIfInBounds (k * 3 + 1) (.int .i64 0)).setIfInBounds (k * 3 + 2) (.int .i64 0)
theorem zPut_size (cs : Array Value) (k : Nat) : (zPut cs k).size = cs.size := by simp [zPut]
theorem zPut_other {cs : Array Value} {k j : Nat} {y : Int} (hne : k ≠ j) (h : ThAt cs j y) : ThAt (zPut cs k) j y := by
  obtain ⟨h0, h1, h2⟩ := h
  unfold zPut
  refine ⟨?_, ?_, ?_⟩
  · rw [Array.getElem?_setIfInBounds_ne (by omega), Array.getElem?_setIfInBounds_ne (by omega), Array.getElem?_setIfInBounds_ne (by omega)]; exact h0
  · rw [Array.getElem?_setIfInBounds_ne (by omega), Array.getElem?_setIfInBounds_ne (by omega), Array.getElem?_setIfInBounds_ne (by omega)]; exact h1
  · rw [Array.getElem?_setIfInBounds_ne (by omega), Array.getElem?_setIfInBounds_ne (by omega), Array.getElem?_setIfInBounds_ne (by omega)]; exact h2
theorem zPut_heap {w : World} {c : Nat} {cs : Array Value} {tc : TypeId} (h : w.heap[c]? = some (.cells cs tc (0, 0))) (k : Nat) :
    (((w.setCell ⟨c, k * 3, none⟩ (.string ⟨#[]⟩)).setCell ⟨c, k * 3 + 1, none⟩ (.int .i64 0)).setCell ⟨c, k * 3 + 2, none⟩ (.int .i64 0)).heap[c]? = some (.cells (zPut cs k) tc (0, 0)) :=
  heap_set_self _ _ _ _ (heap_set_self _ _ _ _ (heap_set_self _ _ _ _ h))

theorem drew_heap (w : World) : w.drew.heap = w.heap := rfl
theorem rb_drew {w : World} {b room first many n : Nat} {v : Value} (h : RB w b room first many n v) : RB w.drew b room first many n v := h
/-- Behind 'take': the count is one less, the place is empty. -/
structure TTaken (w w' : World) (b c room first n k m : Nat) (cs : Array Value) : Prop where
  rb : RB w' b room first m n (.slice (some ⟨c, 0, none⟩) n n)
  row : ∃ t, w'.heap[c]? = some (.cells (zPut cs k) t (0, 0))
  side : Side (fun k => k = b ∨ k = c) w w'

set_option maxHeartbeats 1000000 in
set_option maxRecDepth 100000 in
theorem ttake_run (b c room first n : Nat) (cs : Array Value) (l : List Int) (i m : Nat) (x : Int) (w : World) (h : TAt w b c room first n cs l) (hx : l[i]? = some x) (hm : l.length = m + 1) :
    Calls Try.prog 32 #[.pointer (some ⟨b, 0, none⟩), .int .i64 i] w fun e w' => e = .returned (.agg (thCells x)) ∧ TTaken w w' b c room first n (spotOf first n i) m cs := by
  have hil : i < l.length := (List.getElem?_eq_some_iff.1 hx).1
  have hmany := h.many
  have hmost := h.most
  have hr := h.room2
  have hn : n ≠ 0 := by omega
  have hf := h.fst_ hn
  obtain ⟨k, hk⟩ : ∃ k, spotOf first n i = k := ⟨_, rfl⟩
  have hkn : k < n := by rw [← hk]; exact spot_lt (by omega)
  have hki : (k : Int) < n := by omega
  have hcx : ThAt cs k x := by rw [← hk]; exact h.at_ i x hx
  rw [hk]
  have c2 := h.cells.c2
  have c3 := h.cells.c3
  rw [if_neg hn] at c3
  rw [hm] at c2
  have f2 := h.cells.f 2
  obtain ⟨hcb, tc, hcc⟩ := h.row hn
  have hbl := h.rb.lt
  have hcl := heap_lt hcc
  obtain ⟨dk0, dk1, dk2⟩ := th_cells hcc hcx
  have fk0 : w.frozen? ⟨c, k * 3, none⟩ = false := frozen_of_heap hcc
  have fk1 : w.frozen? ⟨c, k * 3 + 1, none⟩ = false := frozen_of_heap hcc
  have fk2 : w.frozen? ⟨c, k * 3 + 2, none⟩ = false := frozen_of_heap hcc
  have HRB0 := h.rb
  rw [if_neg hn, hm] at HRB0
  have HRB := Lib.hid HRB0
  have HCC := Lib.hid hcc
  have HC1 : Hid (∀ w', RCells w' b room first (m + 1) n (.slice (some ⟨c, 0, none⟩) n n) → Calls Try.prog 33 #[.pointer (some ⟨b, 0, none⟩), .int .i64 i] w' fun e w'' => e = .returned (.int .i64 k) ∧ ∃ q, w'' = w'.drewN q) := by
    refine Lib.hid fun w' h' => ?_
    rw [← hk]
    exact tcell_run b room first (m + 1) n i _ _ h' (by omega) (by omega) hf (by omega)
  have hmb : m + 1 ≤ 2097152 := by omega
  have HCX := Lib.hid hcx
  clear h hx hm hk hcx hcc HRB0 hf
  obtain ⟨m1, hm1⟩ : ∃ m1, m + 1 = m1 := ⟨_, rfl⟩
  have wr1 : IntKind.i64.wrap ((m1 : Int) - 1) = m := by rw [IntKind.wrap_i64]; omega
  have wr2 : (m1 : Int) - 1 = m := by omega
  have wr3 : wrap64 (m : Int) = m := by unfold wrap64; omega
  rw [hm1] at c2 HC1 HRB
  clear hm1
  go_enter Try.func32, Try.ntmps32
  go_wp2_with (go_at_call 33; (refine (HC1.out _ (by first | exact HRB.out.cells | exact (HRB.out.alloc _).cells | exact ((HRB.out.alloc _).alloc _).cells)).mono ?_); rintro e w2 ⟨rfl, q, rfl⟩)
  show Code.wp _ _ _ _ ((((w.alloc thVar).alloc thVar).drewN q).alloc (.cells (thCells x) 36))
  have hg0 : ((((w.alloc thVar).alloc thVar).drewN q).alloc (.cells (thCells x) 36)).heap[w.heap.size]? = some thVar := heap_alloc_old (heap_alloc_old (heap_new w thVar) _) _
  have hg1 : ((((w.alloc thVar).alloc thVar).drewN q).alloc (.cells (thCells x) 36)).heap[w.heap.size + 1]? = some thVar := heap_alloc_old (by have := heap_new (w.alloc thVar) thVar; rw [show (w.alloc thVar).heap.size = w.heap.size + 1 from by simp] at this; exact this) _
  have hg2 : ((((w.alloc thVar).alloc thVar).drewN q).alloc (.cells (thCells x) 36)).heap[w.heap.size + 1 + 1]? = some (.cells (thCells x) 36) := by
    have := heap_new (((w.alloc thVar).alloc thVar).drewN q) (.cells (thCells x) 36)
    rw [show (((w.alloc thVar).alloc thVar).drewN q).heap.size = w.heap.size + 1 + 1 from by simp] at this
    exact this
  have HRB4 : Hid (RB ((((w.alloc thVar).alloc thVar).drewN q).alloc (.cells (thCells x) 36)) b room first m1 n (.slice (some ⟨c, 0, none⟩) n n)) := Lib.hid ((((HRB.out.alloc _).alloc _).drewN q).alloc _)
  have hc4 : ((((w.alloc thVar).alloc thVar).drewN q).alloc (.cells (thCells x) 36)).heap[c]? = some (.cells cs tc (0, 0)) := heap_alloc_old (heap_alloc_old (heap_alloc_old HCC.out _) _) _
  have HS4 : Hid (Side (fun k => k = b ∨ k = c) w ((((w.alloc thVar).alloc thVar).drewN q).alloc (.cells (thCells x) 36))) := Lib.hid (((((Side.refl _ w).alloc _).alloc _).drewN q).alloc _)
  generalize ((((w.alloc thVar).alloc thVar).drewN q).alloc (.cells (thCells x) 36)) = W4 at hg0 hg1 hg2 HRB4 hc4 HS4 ⊢
  obtain ⟨g, hg⟩ : ∃ g, w.heap.size = g := ⟨_, rfl⟩
  rw [hg] at hg0 hg1 hg2 hbl hcl ⊢
  obtain ⟨g1, hgg1⟩ : ∃ g1, g + 1 = g1 := ⟨_, rfl⟩
  rw [hgg1] at hg1 hg2 ⊢
  obtain ⟨g2, hgg2⟩ : ∃ g2, g1 + 1 = g2 := ⟨_, rfl⟩
  rw [hgg2] at hg2 ⊢
  have hbg : b ≠ g := by omega
  have hbg1 : b ≠ g1 := by omega
  have hbg2 : b ≠ g2 := by omega
  have hcg : c ≠ g := by omega
  have hcg1 : c ≠ g1 := by omega
  have hcg2 : c ≠ g2 := by omega
  have hg01 : g ≠ g1 := by omega
  have hg02 : g ≠ g2 := by omega
  have hg12 : g1 ≠ g2 := by omega
  have hgb : g ≠ b := by omega
  have hg1b : g1 ≠ b := by omega
  have hg2b : g2 ≠ b := by omega
  have hgc : g ≠ c := by omega
  have hg1c : g1 ≠ c := by omega
  have hg2c : g2 ≠ c := by omega
  have hg10 : g1 ≠ g := by omega
  have hg20 : g2 ≠ g := by omega
  have hbc : b ≠ c := fun e => hcb e.symm
  have HG := Lib.hid hg
  clear c2 c3 f2 dk0 dk1 dk2 fk0 fk1 fk2 hg hgg1 hgg2
  have d3 := HRB4.out.cells.c3
  have d2 := HRB4.out.cells.c2
  have f2 := HRB4.out.cells.f 2
  obtain ⟨dk0, dk1, dk2⟩ := th_cells hc4 HCX.out
  have fk0 : W4.frozen? ⟨c, k * 3, none⟩ = false := frozen_of_heap hc4
  have fk1 : W4.frozen? ⟨c, k * 3 + 1, none⟩ = false := frozen_of_heap hc4
  have fk2 : W4.frozen? ⟨c, k * 3 + 2, none⟩ = false := frozen_of_heap hc4
  have v0 : W4.cell? ⟨g, 0, none⟩ = some (.string ⟨#[]⟩) := cell_of_heap hg0
  have v1 : W4.cell? ⟨g, 1, none⟩ = some (.int .i64 0) := cell_of_heap hg0
  have v2 : W4.cell? ⟨g, 2, none⟩ = some (.int .i64 0) := cell_of_heap hg0
  have z0 : W4.frozen? ⟨g, 0, none⟩ = false := frozen_of_heap hg0
  have z1 : W4.frozen? ⟨g, 1, none⟩ = false := frozen_of_heap hg0
  have z2 : W4.frozen? ⟨g, 2, none⟩ = false := frozen_of_heap hg0
  have n0 : W4.cell? ⟨g1, 0, none⟩ = some (.string ⟨#[]⟩) := cell_of_heap hg1
  have n1 : W4.cell? ⟨g1, 1, none⟩ = some (.int .i64 0) := cell_of_heap hg1
  have n2 : W4.cell? ⟨g1, 2, none⟩ = some (.int .i64 0) := cell_of_heap hg1
  have x0 : W4.cell? ⟨g2, 0, none⟩ = some (.string ⟨#[UInt8.ofNat (x % 256).toNat]⟩) := cell_of_heap hg2
  have x1 : W4.cell? ⟨g2, 1, none⟩ = some (.int .i64 x) := cell_of_heap hg2
  have x2 : W4.cell? ⟨g2, 2, none⟩ = some (.int .i64 (wrap64 (-x))) := cell_of_heap hg2
  have HC4 := Lib.hid hc4
  clear hg0 hg1 hg2 hc4
  go_region_held3 (fun w' => w'.cell? ⟨b, 3, none⟩ = some (.slice (some ⟨c, 0, none⟩) n n) ∧ w'.cell? ⟨g1, 0, none⟩ = some (.string ⟨#[]⟩) ∧ w'.cell? ⟨g1, 1, none⟩ = some (.int .i64 0) ∧ w'.cell? ⟨g1, 2, none⟩ = some (.int .i64 0)) (go_keep) (fail)
  go_wp2
  have hgw : w.heap.size ≤ g := Nat.le_of_eq HG.out
  refine ⟨rfl, .agg (thCells x), ?_, rfl, ?_, ⟨tc, ?_⟩, ?_⟩
  · unfold results
    rw [show Try.f32.results = #[.cell 4 36] from rfl]
    go_simp
    try rfl
  · exact rb_drew (((((((HRB4.out.side hbc).side hbc).side hbc).set2 m).side hbg).side hbg).side hbg)
  · rw [drew_heap, heap_set_other _ _ _ _ _ hcg, heap_set_other _ _ _ _ _ hcg, heap_set_other _ _ _ _ _ hcg, heap_set_other _ _ _ _ _ hcb]
    exact zPut_heap HC4.out k
  · exact (((((((HS4.out.setCell (Or.inr rfl) _).setCell (Or.inr rfl) _).setCell (Or.inr rfl) _).setCell (Or.inl rfl) _).setNew hgw _).setNew hgw _).setNew hgw _).drew

theorem TTaken.front {w w' : World} {b c room first n m : Nat} {cs : Array Value} {x : Int} {l : List Int} (h : TAt w b c room first n cs (x :: l)) (hm : l.length = m) (ht : TTaken w w' b c room first n (spotOf first n 0) m cs) :
    TAt (w'.setCell ⟨b, 1, none⟩ (.int .i64 (spotOf first n 1 : Nat))) b c room (spotOf first n 1) n (zPut cs (spotOf first n 0)) l := by
  have hmany := h.many
  rw [List.length_cons] at hmany
  have hn : n ≠ 0 := by omega
  have hf := h.fst_ hn
  obtain ⟨hcb, _, _⟩ := h.row hn
  obtain ⟨t, ht2⟩ := ht.row
  refine ⟨by rw [if_neg hn, hm]; exact ht.rb.set1 _, fun _ => ⟨hcb, t, by rw [heap_set_other _ _ _ _ _ hcb]; exact ht2⟩, by rw [zPut_size]; exact h.size, h.room1, h.room2, h.most, by omega, fun _ => spot_lt (by omega), fun i y hy => ?_⟩
  have hil : i < l.length := (List.getElem?_eq_some_iff.1 hy).1
  have e : spotOf (spotOf first n 1) n i = spotOf first n (i + 1) := by
    unfold spotOf
    rw [Nat.mod_add_mod]
    congr 1
    omega
  have hne : spotOf first n 0 ≠ spotOf first n (i + 1) := by
    rw [spot_eq hf (by omega), spot_eq hf (by omega)]
    split <;> split <;> omega
  rw [e]
  exact zPut_other hne (h.at_ (i + 1) y (by rw [List.getElem?_cons_succ]; exact hy))
theorem TTaken.back {w w' : World} {b c room first n m : Nat} {cs : Array Value} {x : Int} {l : List Int} (h : TAt w b c room first n cs (l ++ [x])) (hm : l.length = m) (ht : TTaken w w' b c room first n (spotOf first n m) m cs) :
    TAt w' b c room first n (zPut cs (spotOf first n m)) l := by
  have hmany := h.many
  rw [List.length_append, List.length_singleton] at hmany
  have hn : n ≠ 0 := by omega
  have hf := h.fst_ hn
  obtain ⟨hcb, _, _⟩ := h.row hn
  obtain ⟨t, ht2⟩ := ht.row
  refine ⟨by rw [if_neg hn, hm]; exact ht.rb, fun _ => ⟨hcb, t, ht2⟩, by rw [zPut_size]; exact h.size, h.room1, h.room2, h.most, by omega, fun _ => hf, fun i y hy => ?_⟩
  have hil : i < l.length := (List.getElem?_eq_some_iff.1 hy).1
  have hne : spotOf first n m ≠ spotOf first n i := by
    rw [spot_eq hf (by omega), spot_eq hf (by omega)]
    split <;> split <;> omega
  exact zPut_other hne (h.at_ i y (by rw [List.getElem?_append_left hil]; exact hy))
end Go.Proofs.Ytbopnglncjdnmaa
