/- A ring of things: PopFront, PopBack. -/
import Derived.Test.YtbopnglncjdnmaaTTake
set_option linter.unusedSimpArgs false
set_option linter.unusedVariables false
namespace Go.Proofs.Ytbopnglncjdnmaa
open Go.RowKit

theorem TAt.drewN0 {w : World} {b c room first n o : Nat} {v : Value} {cs : Array Value} {l : List Int} (h : TAt (w.setCell ⟨b, o, none⟩ v) b c room first n cs l) (q : Nat) : TAt ((w.drewN q).setCell ⟨b, o, none⟩ v) b c room first n cs l :=
  ⟨h.own, h.row, h.size, h.room1, h.room2, h.most, h.many, h.fst_, h.at_⟩

theorem TTaken.alloc {w w' : World} {b c room first n k m : Nat} {cs : Array Value} (h : TTaken w w' b c room first n k m cs) (o : Obj) : TTaken w (w'.alloc o) b c room first n k m cs := by
  obtain ⟨t, ht⟩ := h.row
  exact ⟨h.rb.alloc o, ⟨t, heap_alloc_old ht o⟩, h.side.alloc o⟩
theorem TTaken.drewN {w w' : World} {b c room first n k m : Nat} {cs : Array Value} (h : TTaken w w' b c room first n k m cs) (q : Nat) : TTaken w (w'.drewN q) b c room first n k m cs :=
  ⟨h.rb.drewN q, h.row, h.side.drewN q⟩
theorem TAt.far {w : World} {b c room first n : Nat} {cs : Array Value} {l : List Int} (h : TAt w b c room first n cs l) {g o : Nat} {v : Value} (hgb : b ≠ g) (hgc : c ≠ g) : TAt (w.setCell ⟨g, o, none⟩ v) b c room first n cs l := by
  refine ⟨h.rb.side hgb, fun hn => ?_, h.size, h.room1, h.room2, h.most, h.many, h.fst_, h.at_⟩
  obtain ⟨h1, t2, h2⟩ := h.row hn
  exact ⟨h1, t2, by rw [heap_set_other _ _ _ _ _ hgc]; exact h2⟩

set_option maxHeartbeats 1000000 in
set_option maxRecDepth 100000 in
theorem tpop_front_none (b c room : Nat) (w : World) (h0 : ThingAt w b c room []) :
    Calls Try.prog 16 #[.pointer (some ⟨b, 0, none⟩)] w fun e w' => e = .returned (.tuple #[.agg #[.string ⟨#[]⟩, .int .i64 0, .int .i64 0], .int .i64 51]) ∧ Side (fun _ => False) w w' := by
  obtain ⟨first, n, cs, h⟩ := h0
  have c2 := h.cells.c2
  have hbl := h.rb.lt
  rw [List.length_nil] at c2
  clear h
  go_enter Try.func16, Try.ntmps16
  go_wp2
  refine ⟨rfl, .tuple #[.agg #[.string ⟨#[]⟩, .int .i64 0, .int .i64 0], .int .i64 51], ?_, rfl, ?_⟩
  · rw [results_cell_tmp rfl]
    go_simp
    try rfl
  · exact ((Side.refl _ w).alloc _).alloc _

set_option maxHeartbeats 1000000 in
set_option maxRecDepth 100000 in
theorem tpop_front (b c room : Nat) (x : Int) (l : List Int) (w : World) (h0 : ThingAt w b c room (x :: l)) :
    Calls Try.prog 16 #[.pointer (some ⟨b, 0, none⟩)] w fun e w' => e = .returned (.tuple #[.agg (thCells x), .int .i64 0]) ∧ Side (fun k => k = b ∨ k = c) w w' ∧ ThingAt w' b c room l := by
  obtain ⟨first, n, cs, h⟩ := h0
  have hmany := h.many
  rw [List.length_cons] at hmany
  have hmost := h.most
  have hr := h.room2
  have hn : n ≠ 0 := by omega
  have hf := h.fst_ hn
  have hbl := h.rb.lt
  obtain ⟨_, tc, hcc⟩ := h.row hn
  have hcl := heap_lt hcc
  clear hcc
  obtain ⟨m, hm⟩ : ∃ m, l.length = m := ⟨_, rfl⟩
  have c2 := h.cells.c2
  rw [List.length_cons, hm] at c2
  obtain ⟨m1, hm1⟩ : ∃ m1, m + 1 = m1 := ⟨_, rfl⟩
  rw [hm1] at c2
  have g1 : ((m1 : Int) == 0) = false := by rw [beq_eq_false_iff_ne]; omega
  have HT : Hid (∀ w', TAt w' b c room first n cs (x :: l) → Calls Try.prog 32 #[.pointer (some ⟨b, 0, none⟩), .int .i64 0] w' fun e w'' => e = .returned (.agg #[.string ⟨#[UInt8.ofNat (x % 256).toNat]⟩, .int .i64 x, .int .i64 (wrap64 (-x))]) ∧ TTaken w' w'' b c room first n (spotOf first n 0) m cs) :=
    Lib.hid fun w' h' => ttake_run b c room first n cs (x :: l) 0 m x w' h' rfl (by rw [List.length_cons, hm])
  obtain ⟨k, hk⟩ : ∃ k, spotOf first n 1 = k := ⟨_, rfl⟩
  have HC1 : Hid (∀ w', RCells w' b room first m n (.slice (some ⟨c, 0, none⟩) n n) → Calls Try.prog 33 #[.pointer (some ⟨b, 0, none⟩), .int .i64 1] w' fun e w'' => e = .returned (.int .i64 k) ∧ ∃ q, w'' = w'.drewN q) := by
    refine Lib.hid fun w' h' => ?_
    rw [← hk]
    exact tcell_run b room first m n 1 _ _ h' (by omega) (by omega) hf (by omega)
  have HH := Lib.hid h
  have HM := Lib.hid hm
  have HK := Lib.hid hk
  clear h hm hk hm1
  go_enter Try.func16, Try.ntmps16
  go_wp2_with (first | (go_at_call 32; (refine (HT.out _ (by first | exact HH.out.alloc _ | exact (HH.out.alloc _).alloc _ | exact ((HH.out.alloc _).alloc _).alloc _)).mono ?_); rintro e w2 ⟨rfl, ht⟩; have HTK := Lib.hid ht; have f1 := ht.rb.cells.f 1; have e1 := ht.rb.cells.c1; have hbl2 := ht.rb.lt; have hv := (ht.side.block w.heap.size (by first | (simp; done) | (simp; omega)) (by rintro (h | h) <;> omega)).trans (heap_alloc_old (heap_new w thVar) _); have v0 : w2.cell? ⟨w.heap.size, 0, none⟩ = some (.string ⟨#[]⟩) := cell_of_heap hv; have v1 : w2.cell? ⟨w.heap.size, 1, none⟩ = some (.int .i64 0) := cell_of_heap hv; have v2 : w2.cell? ⟨w.heap.size, 2, none⟩ = some (.int .i64 0) := cell_of_heap hv; have z0 : w2.frozen? ⟨w.heap.size, 0, none⟩ = false := frozen_of_heap hv; have z1 : w2.frozen? ⟨w.heap.size, 1, none⟩ = false := frozen_of_heap hv; have z2 : w2.frozen? ⟨w.heap.size, 2, none⟩ = false := frozen_of_heap hv; have hgl2 : w.heap.size < w2.heap.size := heap_lt hv; have HV := Lib.hid hv; clear ht hv) | (go_at_call 33; (refine (HC1.out _ (by first | exact (HTK.out.rb.alloc _).cells | exact (((HTK.out.rb.alloc _).side (by omega)).side (by omega)).side (by omega) |>.cells)).mono ?_); rintro e w3 ⟨rfl, q, rfl⟩))
  refine ⟨rfl, .tuple #[.agg (thCells x), .int .i64 0], ?_, rfl, ?_, ?_⟩
  · rw [results_cell_tmp rfl]
    go_simp
    try rfl
  · have s1 : Side (fun k => k = b ∨ k = c) w w2 := (((Side.refl _ w).alloc thVar).alloc thVar).trans HTK.out.side
    exact ((((((s1.alloc _).drewN _).setCell (Or.inl rfl) _).setNew (Nat.le_refl _) _).setNew (Nat.le_refl _) _).setNew (Nat.le_refl _) _)
  · have h1 := ((HTK.out.alloc (.cells (thCells x) 36)).drewN q).front ((HH.out.alloc _).alloc _) HM.out
    rw [HK.out] at h1
    exact ⟨_, _, _, ((h1.far (by omega) (by omega)).far (by omega) (by omega)).far (by omega) (by omega)⟩

set_option maxHeartbeats 1000000 in
set_option maxRecDepth 100000 in
theorem tpop_back_none (b c room : Nat) (w : World) (h0 : ThingAt w b c room []) :
    Calls Try.prog 17 #[.pointer (some ⟨b, 0, none⟩)] w fun e w' => e = .returned (.tuple #[.agg #[.string ⟨#[]⟩, .int .i64 0, .int .i64 0], .int .i64 51]) ∧ Side (fun _ => False) w w' := by
  obtain ⟨first, n, cs, h⟩ := h0
  have c2 := h.cells.c2
  have hbl := h.rb.lt
  rw [List.length_nil] at c2
  clear h
  go_enter Try.func17, Try.ntmps17
  go_wp2
  refine ⟨rfl, .tuple #[.agg #[.string ⟨#[]⟩, .int .i64 0, .int .i64 0], .int .i64 51], ?_, rfl, ?_⟩
  · rw [results_cell_tmp rfl]
    go_simp
    try rfl
  · exact ((Side.refl _ w).alloc _).alloc _

set_option maxHeartbeats 1000000 in
set_option maxRecDepth 100000 in
theorem tpop_back (b c room : Nat) (x : Int) (l : List Int) (w : World) (h0 : ThingAt w b c room (l ++ [x])) :
    Calls Try.prog 17 #[.pointer (some ⟨b, 0, none⟩)] w fun e w' => e = .returned (.tuple #[.agg (thCells x), .int .i64 0]) ∧ Side (fun k => k = b ∨ k = c) w w' ∧ ThingAt w' b c room l := by
  obtain ⟨first, n, cs, h⟩ := h0
  have hmany := h.many
  rw [List.length_append, List.length_singleton] at hmany
  have hmost := h.most
  have hr := h.room2
  have hn : n ≠ 0 := by omega
  have hbl := h.rb.lt
  obtain ⟨_, tc, hcc⟩ := h.row hn
  have hcl := heap_lt hcc
  clear hcc
  obtain ⟨m, hm⟩ : ∃ m, l.length = m := ⟨_, rfl⟩
  have c2 := h.cells.c2
  rw [List.length_append, List.length_singleton, hm] at c2
  obtain ⟨m1, hm1⟩ : ∃ m1, m + 1 = m1 := ⟨_, rfl⟩
  rw [hm1] at c2
  have g1 : ((m1 : Int) == 0) = false := by rw [beq_eq_false_iff_ne]; omega
  have wr1 : IntKind.i64.wrap ((m1 : Int) - 1) = m := by rw [IntKind.wrap_i64]; omega
  have wr2 : (m1 : Int) - 1 = m := by omega
  have wr3 : wrap64 (m : Int) = m := by unfold wrap64; omega
  have hxm : (l ++ [x])[m]? = some x := by rw [← hm]; simp
  have HT : Hid (∀ w', TAt w' b c room first n cs (l ++ [x]) → Calls Try.prog 32 #[.pointer (some ⟨b, 0, none⟩), .int .i64 m] w' fun e w'' => e = .returned (.agg #[.string ⟨#[UInt8.ofNat (x % 256).toNat]⟩, .int .i64 x, .int .i64 (wrap64 (-x))]) ∧ TTaken w' w'' b c room first n (spotOf first n m) m cs) :=
    Lib.hid fun w' h' => ttake_run b c room first n cs (l ++ [x]) m m x w' h' hxm (by rw [List.length_append, List.length_singleton, hm])
  have HH := Lib.hid h
  have HM := Lib.hid hm
  clear h hm hm1 hxm
  go_enter Try.func17, Try.ntmps17
  go_wp2_with (first | (go_at_call 32; (refine (HT.out _ (by first | exact HH.out.alloc _ | exact (HH.out.alloc _).alloc _ | exact ((HH.out.alloc _).alloc _).alloc _)).mono ?_); rintro e w2 ⟨rfl, ht⟩; have HTK := Lib.hid ht; have hv := (ht.side.block w.heap.size (by first | (simp; done) | (simp; omega)) (by rintro (h | h) <;> omega)).trans (heap_alloc_old (heap_new w thVar) _); have v0 : w2.cell? ⟨w.heap.size, 0, none⟩ = some (.string ⟨#[]⟩) := cell_of_heap hv; have v1 : w2.cell? ⟨w.heap.size, 1, none⟩ = some (.int .i64 0) := cell_of_heap hv; have v2 : w2.cell? ⟨w.heap.size, 2, none⟩ = some (.int .i64 0) := cell_of_heap hv; have z0 : w2.frozen? ⟨w.heap.size, 0, none⟩ = false := frozen_of_heap hv; have z1 : w2.frozen? ⟨w.heap.size, 1, none⟩ = false := frozen_of_heap hv; have z2 : w2.frozen? ⟨w.heap.size, 2, none⟩ = false := frozen_of_heap hv; have hgl2 : w.heap.size < w2.heap.size := heap_lt hv; clear ht hv))
  refine ⟨rfl, .tuple #[.agg (thCells x), .int .i64 0], ?_, rfl, ?_, ?_⟩
  · rw [results_cell_tmp rfl]
    go_simp
    try rfl
  · have s1 : Side (fun k => k = b ∨ k = c) w w2 := (((Side.refl _ w).alloc thVar).alloc thVar).trans HTK.out.side
    exact (((s1.setNew (Nat.le_refl _) _).setNew (Nat.le_refl _) _).setNew (Nat.le_refl _) _)
  · have h1 := HTK.out.back ((HH.out.alloc _).alloc _) HM.out
    exact ⟨_, _, _, ((h1.far (by omega) (by omega)).far (by omega) (by omega)).far (by omega) (by omega)⟩
end Go.Proofs.Ytbopnglncjdnmaa
