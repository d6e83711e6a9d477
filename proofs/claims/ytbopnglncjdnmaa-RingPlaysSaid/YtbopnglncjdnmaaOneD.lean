/- What 'one' answers: Set, Len, Room, nothing. -/
import Derived.Test.YtbopnglncjdnmaaOneA
import Derived.Deep.Quiet
set_option linter.unusedSimpArgs false
set_option linter.unusedVariables false
namespace Go.Proofs.Ytbopnglncjdnmaa
open Go.RowKit

set_option maxHeartbeats 2000000 in
set_option maxRecDepth 100000 in
theorem one_set {P : Nat → Prop} {w : World} {r t q : Value} {m : Option Nat} {l : List Int} (b : Bool) (i x : Int) (h : Rel w P NoF w r t q m l l l) (hx0 : -9223372036854775808 ≤ x) (hx1 : x ≤ 9223372036854775807) :
    Calls Try.prog 26 #[r, t, q, .agg #[.int .i64 5, .bool b, .int .i64 i, .int .i64 x]] w fun e w' => e = .returned (.bool true) ∧ Rel w P NoF w' r t q m (setL l i x) (setL l i x) (setL l i x) := by
  have H1 := Lib.hid (h.alloc (.cells (actCells 5 b i x) 50))
  have hv1 := heap_new w (.cells (actCells 5 b i x) 50)
  have HV1 := Lib.hid hv1
  obtain ⟨pe, hpe⟩ : ∃ y, atE m l i = y := ⟨_, rfl⟩
  have HP := Lib.hid hpe
  clear h hpe hv1
  go_enter Try.func26, Try.ntmps26
  go_wp2_with (go_at_call 39; (refine (rel_q H1.out (fun S hS => qu_set i x hS)).mono ?_); rw [HP.out]; rintro e w2 ⟨rfl, h2, hk⟩; have hv2 := (hk w.heap.size (Or.inr rfl)).trans HV1.out; have H2 := Lib.hid h2; have d2 : w2.cell? ⟨w.heap.size, 3, none⟩ = some (.int .i64 x) := cell_of_heap hv2; have di2 : w2.cell? ⟨w.heap.size, 2, none⟩ = some (.int .i64 i) := cell_of_heap hv2; have HV2 := Lib.hid hv2; clear h2 hk hv2)
  have H2d : Hid (Rel w P (fun k => NoF k ∨ k = w.heap.size) w2.drew r t q m l l (setL l i x)) := Lib.hid (H2.out.drewN 1)
  have dd2 : w2.drew.cell? ⟨w.heap.size, 3, none⟩ = some (.int .i64 x) := d2
  have ddi2 : w2.drew.cell? ⟨w.heap.size, 2, none⟩ = some (.int .i64 i) := di2
  have HVd : Hid (w2.drew.heap[w.heap.size]? = some (.cells (actCells 5 b i x) 50)) := Lib.hid HV2.out
  go_region_held3 (fun w' => w'.cell? ⟨w.heap.size, 2, none⟩ = some (.int .i64 i) ∧ w'.cell? ⟨w.heap.size, 3, none⟩ = some (.int .i64 x)) (first | exact ⟨ddi2, dd2⟩ | exact ⟨di3, d3⟩ | exact ⟨di4, d4⟩ | exact ⟨di5, d5⟩ | go_keep)
    (first
      | (go_at_call 40; (refine (rel_r H2d.out (fun S hS => ru_set i x hS)).mono ?_); rw [HP.out]; rintro e w3 ⟨rfl, h3, hk⟩; have hv3 := (hk w.heap.size (Or.inr rfl)).trans HVd.out; have H3 := Lib.hid h3; have d3 : w3.cell? ⟨w.heap.size, 3, none⟩ = some (.int .i64 x) := cell_of_heap hv3; have di3 : w3.cell? ⟨w.heap.size, 2, none⟩ = some (.int .i64 i) := cell_of_heap hv3; have HV3 := Lib.hid hv3; clear h3 hk hv3)
      | (go_at_call 20; (refine (thing_any x w3 hx0 hx1).mono ?_); rintro e w4 ⟨rfl, hw4⟩; have H4 : Hid (Rel w P (fun k => ((NoF k ∨ k = w.heap.size) ∨ k = w3.heap.size) ∨ k = (w3.alloc (.cells (thCells x) 36)).heap.size) w4 r t q m (setL l i x) l (setL l i x)) := Lib.hid (by rw [hw4]; exact (H3.out.alloc (.cells (thCells x) 36)).alloc (.cells #[.int .u8 (x % 256)] 5)); have hv4 : w4.heap[w.heap.size]? = some (.cells (actCells 5 b i x) 50) := (by rw [hw4]; exact heap_alloc_old (heap_alloc_old HV3.out _) _); have d4 : w4.cell? ⟨w.heap.size, 3, none⟩ = some (.int .i64 x) := cell_of_heap hv4; have di4 : w4.cell? ⟨w.heap.size, 2, none⟩ = some (.int .i64 i) := cell_of_heap hv4; have HV4 := Lib.hid hv4; clear hv4 hw4)
      | (go_at_call 21; (refine (rel_t H4.out (fun S hS => tu_set i x hS)).mono ?_); rw [HP.out]; rintro e w5 ⟨rfl, h5, hk⟩; have hv5 := (hk w.heap.size (Or.inl (Or.inl (Or.inr rfl)))).trans HV4.out; have H5 := Lib.hid h5; have d5 : w5.cell? ⟨w.heap.size, 3, none⟩ = some (.int .i64 x) := cell_of_heap hv5; have di5 : w5.cell? ⟨w.heap.size, 2, none⟩ = some (.int .i64 i) := cell_of_heap hv5; clear h5 hk hv5))
  go_wp2_with (fail)
  go_ret
  exact ⟨rfl, H5.out.forget (fun _ h => h.elim)⟩

set_option maxHeartbeats 2000000 in
set_option maxRecDepth 100000 in
theorem one_len {P : Nat → Prop} {w : World} {r t q : Value} {m : Option Nat} {l : List Int} (b : Bool) (i x : Int) (h : Rel w P NoF w r t q m l l l) :
    Calls Try.prog 26 #[r, t, q, .agg #[.int .i64 6, .bool b, .int .i64 i, .int .i64 x]] w fun e w' => e = .returned (.bool true) ∧ Rel w P NoF w' r t q m l l l := by
  have H1 := Lib.hid (h.alloc (.cells (actCells 6 b i x) 50))
  obtain ⟨v, hv⟩ : ∃ y, (l.length : Int) = y := ⟨_, rfl⟩
  have HQ : Hid (∀ S w, OB QAt w S q m l → Calls Try.prog 27 #[q] w fun e w' => e = .returned (.int .i64 v) ∧ After QAt w w' S q m l) := Lib.hid fun S w hS => by
    have := qu_len hS
    rw [hv] at this
    exact this
  have HR : Hid (∀ S w, OB RingAt w S r m l → Calls Try.prog 12 #[r] w fun e w' => e = .returned (.int .i64 v) ∧ After RingAt w w' S r m l) := Lib.hid fun S w hS => by
    have := ru_len hS
    rw [hv] at this
    exact this
  have HT : Hid (∀ S w, OB ThingAt w S t m l → Calls Try.prog 22 #[t] w fun e w' => e = .returned (.int .i64 v) ∧ After ThingAt w w' S t m l) := Lib.hid fun S w hS => by
    have := tu_len hS
    rw [hv] at this
    exact this
  clear h hv
  go_enter Try.func26, Try.ntmps26
  go_wp2_with (first
    | (go_at_call 12; (refine (rel_r H1.out (fun S hS => HR.out S _ hS)).mono ?_); rintro e w2 ⟨rfl, h2, hk⟩; have H2 := Lib.hid h2; clear h2 hk)
    | (go_at_call 27; (refine (rel_q H2.out (fun S hS => HQ.out S _ hS)).mono ?_); rintro e w3 ⟨rfl, h3, hk⟩; have H3 := Lib.hid h3; clear h3 hk)
    | (go_at_call 22; (refine (rel_t H3.out (fun S hS => HT.out S _ hS)).mono ?_); rintro e w4 ⟨rfl, h4, hk⟩; have H4 := Lib.hid h4; clear h4 hk)
    | (go_at_call 27; (refine (rel_q H4.out (fun S hS => HQ.out S _ hS)).mono ?_); rintro e w5 ⟨rfl, h5, hk⟩; have H5 := Lib.hid h5; clear h5 hk))
  go_ret
  exact ⟨rfl, H5.out.forget (fun _ h => h.elim)⟩

set_option maxHeartbeats 2000000 in
set_option maxRecDepth 100000 in
theorem one_room {P : Nat → Prop} {w : World} {r t q : Value} {m : Option Nat} {l : List Int} (b : Bool) (i x : Int) (h : Rel w P NoF w r t q m l l l) :
    Calls Try.prog 26 #[r, t, q, .agg #[.int .i64 7, .bool b, .int .i64 i, .int .i64 x]] w fun e w' => e = .returned (.bool true) ∧ Rel w P NoF w' r t q m l l l := by
  have H1 := Lib.hid (h.alloc (.cells (actCells 7 b i x) 50))
  obtain ⟨v, hv⟩ : ∃ y, roomV m = y := ⟨_, rfl⟩
  have HQ : Hid (∀ S w, OB QAt w S q m l → Calls Try.prog 41 #[q] w fun e w' => e = .returned (.int .i64 v) ∧ After QAt w w' S q m l) := Lib.hid fun S w hS => by
    have := qu_room hS
    rw [hv] at this
    exact this
  have HR : Hid (∀ S w, OB RingAt w S r m l → Calls Try.prog 28 #[r] w fun e w' => e = .returned (.int .i64 v) ∧ After RingAt w w' S r m l) := Lib.hid fun S w hS => by
    have := ru_room hS
    rw [hv] at this
    exact this
  have HT : Hid (∀ S w, OB ThingAt w S t m l → Calls Try.prog 23 #[t] w fun e w' => e = .returned (.int .i64 v) ∧ After ThingAt w w' S t m l) := Lib.hid fun S w hS => by
    have := tu_room hS
    rw [hv] at this
    exact this
  clear h hv
  go_enter Try.func26, Try.ntmps26
  go_wp2_with (first
    | (go_at_call 28; (refine (rel_r H1.out (fun S hS => HR.out S _ hS)).mono ?_); rintro e w2 ⟨rfl, h2, hk⟩; have H2 := Lib.hid h2; clear h2 hk)
    | (go_at_call 41; (refine (rel_q H2.out (fun S hS => HQ.out S _ hS)).mono ?_); rintro e w3 ⟨rfl, h3, hk⟩; have H3 := Lib.hid h3; clear h3 hk)
    | (go_at_call 23; (refine (rel_t H3.out (fun S hS => HT.out S _ hS)).mono ?_); rintro e w4 ⟨rfl, h4, hk⟩; have H4 := Lib.hid h4; clear h4 hk)
    | (go_at_call 41; (refine (rel_q H4.out (fun S hS => HQ.out S _ hS)).mono ?_); rintro e w5 ⟨rfl, h5, hk⟩; have H5 := Lib.hid h5; clear h5 hk))
  go_ret
  exact ⟨rfl, H5.out.forget (fun _ h => h.elim)⟩

set_option maxHeartbeats 2000000 in
set_option maxRecDepth 100000 in
theorem one_none {P : Nat → Prop} {w : World} {r t q : Value} {m : Option Nat} {l : List Int} (kind : Int) (b : Bool) (i x : Int) (hk : kind ≠ 1 ∧ kind ≠ 2 ∧ kind ≠ 3 ∧ kind ≠ 4 ∧ kind ≠ 5 ∧ kind ≠ 6 ∧ kind ≠ 7) (h : Rel w P NoF w r t q m l l l) :
    Calls Try.prog 26 #[r, t, q, .agg #[.int .i64 kind, .bool b, .int .i64 i, .int .i64 x]] w fun e w' => e = .returned (.bool true) ∧ Rel w P NoF w' r t q m l l l := by
  have H1 := Lib.hid (h.alloc (.cells (actCells kind b i x) 50))
  obtain ⟨h1, h2, h3, h4, h5, h6, h7⟩ := hk
  have e1 : (kind == 1) = false := by rw [beq_eq_false_iff_ne]; exact h1
  have e2 : (kind == 2) = false := by rw [beq_eq_false_iff_ne]; exact h2
  have e3 : (kind == 3) = false := by rw [beq_eq_false_iff_ne]; exact h3
  have e4 : (kind == 4) = false := by rw [beq_eq_false_iff_ne]; exact h4
  have e5 : (kind == 5) = false := by rw [beq_eq_false_iff_ne]; exact h5
  have e6 : (kind == 6) = false := by rw [beq_eq_false_iff_ne]; exact h6
  have e7 : (kind == 7) = false := by rw [beq_eq_false_iff_ne]; exact h7
  clear h h1 h2 h3 h4 h5 h6 h7
  go_enter Try.func26, Try.ntmps26
  go_wp2_with (fail)
  go_ret
  exact ⟨rfl, H1.out.forget (fun _ h => h.elim)⟩

end Go.Proofs.Ytbopnglncjdnmaa
