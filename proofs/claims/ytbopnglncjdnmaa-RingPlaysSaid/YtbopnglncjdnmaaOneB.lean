/- What 'one' answers: PopBack. -/
import Derived.Test.YtbopnglncjdnmaaOneA
import Derived.Deep.Quiet
set_option linter.unusedSimpArgs false
set_option linter.unusedVariables false
namespace Go.Proofs.Ytbopnglncjdnmaa
open Go.RowKit

set_option maxHeartbeats 2000000 in
set_option maxRecDepth 100000 in
theorem one_back {P : Nat → Prop} {w : World} {r t q : Value} {m : Option Nat} {l : List Int} (b : Bool) (i x : Int) (h : Rel w P NoF w r t q m l l l) (hv0 : -9223372036854775808 ≤ l.getLastD 0) (hv1 : l.getLastD 0 ≤ 9223372036854775807) :
    Calls Try.prog 26 #[r, t, q, .agg #[.int .i64 3, .bool b, .int .i64 i, .int .i64 x]] w fun e w' => e = .returned (.bool true) ∧ Rel w P NoF w' r t q m (l.dropLast) (l.dropLast) (l.dropLast) := by
  have H1 := Lib.hid (h.alloc (.cells (actCells 3 b i x) 50))
  have hv1' := heap_new w (.cells (actCells 3 b i x) 50)
  have HV1 := Lib.hid hv1'
  obtain ⟨pe, hpe⟩ : ∃ y, popE m l = y := ⟨_, rfl⟩
  obtain ⟨v, hv⟩ : ∃ y, l.getLastD 0 = y := ⟨_, rfl⟩
  rw [hv] at hv0 hv1
  have hC : ∀ S w, OB ThingAt w S t m l → Calls Try.prog 17 #[t] w fun e w' => e = .returned (.tuple #[thV pe v, .int .i64 pe]) ∧ After ThingAt w w' S t m (l.dropLast) := fun S w hS => by
    have := tu_back hS
    rw [hpe, hv] at this
    exact this
  have hCQ : ∀ S w, OB QAt w S q m l → Calls Try.prog 37 #[q] w fun e w' => e = .returned (.tuple #[.int .i64 v, .int .i64 pe]) ∧ After QAt w w' S q m (l.dropLast) := fun S w hS => by
    have := qu_back hS
    rw [hpe, hv] at this
    exact this
  have hCR : ∀ S w, OB RingAt w S r m l → Calls Try.prog 15 #[r] w fun e w' => e = .returned (.tuple #[.int .i64 v, .int .i64 pe]) ∧ After RingAt w w' S r m (l.dropLast) := fun S w hS => by
    have := ru_back hS
    rw [hpe, hv] at this
    exact this
  have HCQ := Lib.hid hCQ
  have HCR := Lib.hid hCR
  clear h hpe hv hv1' hCQ hCR
  by_cases hz : pe = 0
  · subst hz
    have HCT : Hid (∀ S w, OB ThingAt w S t m l → Calls Try.prog 17 #[t] w fun e w' => e = .returned (.tuple #[.agg #[.string ⟨#[UInt8.ofNat (v % 256).toNat]⟩, .int .i64 v, .int .i64 (wrap64 (-v))], .int .i64 0]) ∧ After ThingAt w w' S t m (l.dropLast)) := Lib.hid hC
    have HEQ := thing_eq
    clear hC
    go_enter Try.func26, Try.ntmps26
    go_wp2_with (first
      | (go_at_call 37; (refine (rel_q H1.out (fun S hS => HCQ.out S _ hS)).mono ?_); rintro e w2 ⟨rfl, h2, hk⟩; have hv2 := (hk w.heap.size (Or.inr rfl)).trans HV1.out; have H2 := Lib.hid h2; have di2 : w2.cell? ⟨w.heap.size, 2, none⟩ = some (.int .i64 i) := cell_of_heap hv2; have dx2 : w2.cell? ⟨w.heap.size, 3, none⟩ = some (.int .i64 x) := cell_of_heap hv2; have HV2 := Lib.hid hv2; clear h2 hk hv2)
      | (go_at_call 15; (refine (rel_r H2.out (fun S hS => HCR.out S _ hS)).mono ?_); rintro e w3 ⟨rfl, h3, hk⟩; have hv3 := (hk w.heap.size (Or.inr rfl)).trans HV2.out; have H3 := Lib.hid h3; have di3 : w3.cell? ⟨w.heap.size, 2, none⟩ = some (.int .i64 i) := cell_of_heap hv3; have dx3 : w3.cell? ⟨w.heap.size, 3, none⟩ = some (.int .i64 x) := cell_of_heap hv3; have HV3 := Lib.hid hv3; clear h3 hk hv3)
      | (go_at_call 17; (refine (rel_t H3.out (fun S hS => HCT.out S _ hS)).mono ?_); rintro e w4 ⟨rfl, h4, hk⟩; have hv4 := (hk w.heap.size (Or.inr rfl)).trans HV3.out; have H4 := Lib.hid h4; have di4 : w4.cell? ⟨w.heap.size, 2, none⟩ = some (.int .i64 i) := cell_of_heap hv4; have dx4 : w4.cell? ⟨w.heap.size, 3, none⟩ = some (.int .i64 x) := cell_of_heap hv4; have HV4 := Lib.hid hv4; clear h4 hk hv4)
      | (go_at_call 20; (refine (thing_any v _ hv0 hv1).mono ?_); unfold thCells; rintro e w5 ⟨rfl, rfl⟩))
    have hn := heap_new w4 (.cells #[.string ⟨#[UInt8.ofNat (v % 256).toNat]⟩, .int .i64 v, .int .i64 (wrap64 (-v))] 36)
    have hR : Hid (w4.heap.size < (w4.alloc (.cells #[.string ⟨#[UInt8.ofNat (v % 256).toNat]⟩, .int .i64 v, .int .i64 (wrap64 (-v))] 36)).heap.size ∧ Rel w P NoF (w4.alloc (.cells #[.string ⟨#[UInt8.ofNat (v % 256).toNat]⟩, .int .i64 v, .int .i64 (wrap64 (-v))] 36)) r t q m (l.dropLast) (l.dropLast) (l.dropLast)) := Lib.hid ⟨heap_lt hn, (H4.out.alloc (.cells #[.string ⟨#[UInt8.ofNat (v % 256).toNat]⟩, .int .i64 v, .int .i64 (wrap64 (-v))] 36)).forget (fun _ h => h.elim)⟩
    have x0 : (w4.alloc (.cells #[.string ⟨#[UInt8.ofNat (v % 256).toNat]⟩, .int .i64 v, .int .i64 (wrap64 (-v))] 36)).cell? ⟨w4.heap.size, 0, none⟩ = some (.string ⟨#[UInt8.ofNat (v % 256).toNat]⟩) := cell_of_heap hn
    have x1 : (w4.alloc (.cells #[.string ⟨#[UInt8.ofNat (v % 256).toNat]⟩, .int .i64 v, .int .i64 (wrap64 (-v))] 36)).cell? ⟨w4.heap.size, 1, none⟩ = some (.int .i64 v) := cell_of_heap hn
    have x2 : (w4.alloc (.cells #[.string ⟨#[UInt8.ofNat (v % 256).toNat]⟩, .int .i64 v, .int .i64 (wrap64 (-v))] 36)).cell? ⟨w4.heap.size, 2, none⟩ = some (.int .i64 (wrap64 (-v))) := cell_of_heap hn
    clear hn
    show Code.wp _ _ _ _ (w4.alloc (.cells #[.string ⟨#[UInt8.ofNat (v % 256).toNat]⟩, .int .i64 v, .int .i64 (wrap64 (-v))] 36))
    generalize (w4.alloc (.cells #[.string ⟨#[UInt8.ofNat (v % 256).toNat]⟩, .int .i64 v, .int .i64 (wrap64 (-v))] 36)) = W5 at hR x0 x1 x2 ⊢
    obtain ⟨g, hg⟩ : ∃ g, w4.heap.size = g := ⟨_, rfl⟩
    rw [hg] at hR x0 x1 x2 ⊢
    clear hg
    have CT : Hid (∀ w', (w'.cell? ⟨g, 0, none⟩ = some (.string ⟨#[UInt8.ofNat (v % 256).toNat]⟩) ∧ w'.cell? ⟨g, 1, none⟩ = some (.int .i64 v) ∧ w'.cell? ⟨g, 2, none⟩ = some (.int .i64 (wrap64 (-v))) ∧ Hid (g < w'.heap.size ∧ Rel w P NoF w' r t q m (l.dropLast) (l.dropLast) (l.dropLast))) → Calls Try.prog 20 #[.int .i64 v] w' fun e w'' => e = .returned (.agg #[.string ⟨#[UInt8.ofNat (v % 256).toNat]⟩, .int .i64 v, .int .i64 (wrap64 (-v))]) ∧ (w''.cell? ⟨g, 0, none⟩ = some (.string ⟨#[UInt8.ofNat (v % 256).toNat]⟩) ∧ w''.cell? ⟨g, 1, none⟩ = some (.int .i64 v) ∧ w''.cell? ⟨g, 2, none⟩ = some (.int .i64 (wrap64 (-v))) ∧ Hid (g < w''.heap.size ∧ Rel w P NoF w'' r t q m (l.dropLast) (l.dropLast) (l.dropLast)))) := Lib.hid fun w' ⟨a0, a1, a2, a3⟩ => by
      refine (thing_any v w' hv0 hv1).mono ?_
      rintro e w'' ⟨rfl, rfl⟩
      have s : Side (fun _ => False) w' ((w'.alloc (.cells (thCells v) 36)).alloc (.cells #[.int .u8 (v % 256)] 5)) := ((Side.refl _ w').alloc _).alloc _
      have hb := s.block g a3.out.1 (fun h => h)
      exact ⟨rfl, (World.cell?_of_block (a := ⟨g, 0, none⟩) hb).trans a0, (World.cell?_of_block (a := ⟨g, 1, none⟩) hb).trans a1, (World.cell?_of_block (a := ⟨g, 2, none⟩) hb).trans a2, Lib.hid ⟨Nat.lt_of_lt_of_le a3.out.1 s.size, ((a3.out.2.alloc _).alloc _).forget (fun _ h => h.elim)⟩⟩
    refine wp_region_quiet (C := fun w' => w'.cell? ⟨g, 0, none⟩ = some (.string ⟨#[UInt8.ofNat (v % 256).toNat]⟩) ∧ w'.cell? ⟨g, 1, none⟩ = some (.int .i64 v) ∧ w'.cell? ⟨g, 2, none⟩ = some (.int .i64 (wrap64 (-v))) ∧ Hid (g < w'.heap.size ∧ Rel w P NoF w' r t q m (l.dropLast) (l.dropLast) (l.dropLast))) (by kernel_rfl) (by kernel_rfl) ⟨x0, x1, x2, Lib.hid ⟨hR.out.1, hR.out.2.drewN 1⟩⟩ ?_
    rw [List.toList_toArray]
    repeat (first
      | (go_big_quiet_skip; try simp only [Act.put, List.setIfInBounds_toArray, List.set_cons_zero, List.set_cons_succ])
      | (refine BigFrame.wpQuiet_want (by kernel_rfl) (fun K hK => ?_)
         apply Exists.intro
         refine ⟨fun wq hwq => ?_, hK _ ?_⟩
         · obtain ⟨hq0, hq1, hq2, hq3⟩ := id hwq
           unfold Oper.quietAt Oper.quietUpon
           go_simp
           first | done | rfl | exact CT.out _ hwq
         clear hK K
         simp only [Act.put, List.setIfInBounds_toArray, List.set_cons_zero, List.set_cons_succ]))
    refine wpQuiet_nil ?_
    rintro w6 ⟨_, _, _, hR6⟩
    have HR6 := Lib.hid hR6.out.2
    clear hR6
    go_wp2_with (fail)
    go_ret
    exact ⟨rfl, HR6.out⟩
  · have g1 : (pe == 0) = false := by rw [beq_eq_false_iff_ne]; exact hz
    have g2 : (pe != 0) = true := by simp [bne, g1]
    have HCT : Hid (∀ S w, OB ThingAt w S t m l → Calls Try.prog 17 #[t] w fun e w' => e = .returned (.tuple #[.agg #[.string ⟨#[]⟩, .int .i64 0, .int .i64 0], .int .i64 pe]) ∧ After ThingAt w w' S t m (l.dropLast)) := Lib.hid fun S w hS => by
      have := hC S w hS
      unfold thV at this
      rw [if_neg hz] at this
      exact this
    have HEQ := thing_eq
    clear hC hz
    go_enter Try.func26, Try.ntmps26
    go_wp2_with (first
      | (go_at_call 37; (refine (rel_q H1.out (fun S hS => HCQ.out S _ hS)).mono ?_); rintro e w2 ⟨rfl, h2, hk⟩; have hv2 := (hk w.heap.size (Or.inr rfl)).trans HV1.out; have H2 := Lib.hid h2; have di2 : w2.cell? ⟨w.heap.size, 2, none⟩ = some (.int .i64 i) := cell_of_heap hv2; have dx2 : w2.cell? ⟨w.heap.size, 3, none⟩ = some (.int .i64 x) := cell_of_heap hv2; have HV2 := Lib.hid hv2; clear h2 hk hv2)
      | (go_at_call 15; (refine (rel_r H2.out (fun S hS => HCR.out S _ hS)).mono ?_); rintro e w3 ⟨rfl, h3, hk⟩; have hv3 := (hk w.heap.size (Or.inr rfl)).trans HV2.out; have H3 := Lib.hid h3; have di3 : w3.cell? ⟨w.heap.size, 2, none⟩ = some (.int .i64 i) := cell_of_heap hv3; have dx3 : w3.cell? ⟨w.heap.size, 3, none⟩ = some (.int .i64 x) := cell_of_heap hv3; have HV3 := Lib.hid hv3; clear h3 hk hv3)
      | (go_at_call 17; (refine (rel_t H3.out (fun S hS => HCT.out S _ hS)).mono ?_); rintro e w4 ⟨rfl, h4, hk⟩; have hv4 := (hk w.heap.size (Or.inr rfl)).trans HV3.out; have H4 := Lib.hid h4; have di4 : w4.cell? ⟨w.heap.size, 2, none⟩ = some (.int .i64 i) := cell_of_heap hv4; have dx4 : w4.cell? ⟨w.heap.size, 3, none⟩ = some (.int .i64 x) := cell_of_heap hv4; have HV4 := Lib.hid hv4; clear h4 hk hv4))
    have hn := heap_new w4 (.cells #[.string ⟨#[]⟩, .int .i64 0, .int .i64 0] 36)
    have hR : Hid (w4.heap.size < (w4.alloc (.cells #[.string ⟨#[]⟩, .int .i64 0, .int .i64 0] 36)).heap.size ∧ Rel w P NoF (w4.alloc (.cells #[.string ⟨#[]⟩, .int .i64 0, .int .i64 0] 36)) r t q m (l.dropLast) (l.dropLast) (l.dropLast)) := Lib.hid ⟨heap_lt hn, (H4.out.alloc (.cells #[.string ⟨#[]⟩, .int .i64 0, .int .i64 0] 36)).forget (fun _ h => h.elim)⟩
    have x0 : (w4.alloc (.cells #[.string ⟨#[]⟩, .int .i64 0, .int .i64 0] 36)).cell? ⟨w4.heap.size, 0, none⟩ = some (.string ⟨#[]⟩) := cell_of_heap hn
    have x1 : (w4.alloc (.cells #[.string ⟨#[]⟩, .int .i64 0, .int .i64 0] 36)).cell? ⟨w4.heap.size, 1, none⟩ = some (.int .i64 0) := cell_of_heap hn
    have x2 : (w4.alloc (.cells #[.string ⟨#[]⟩, .int .i64 0, .int .i64 0] 36)).cell? ⟨w4.heap.size, 2, none⟩ = some (.int .i64 0) := cell_of_heap hn
    clear hn
    show Code.wp _ _ _ _ (w4.alloc (.cells #[.string ⟨#[]⟩, .int .i64 0, .int .i64 0] 36))
    generalize (w4.alloc (.cells #[.string ⟨#[]⟩, .int .i64 0, .int .i64 0] 36)) = W5 at hR x0 x1 x2 ⊢
    obtain ⟨g, hg⟩ : ∃ g, w4.heap.size = g := ⟨_, rfl⟩
    rw [hg] at hR x0 x1 x2 ⊢
    clear hg
    refine wp_region_quiet (C := fun w' => w'.cell? ⟨g, 0, none⟩ = some (.string ⟨#[]⟩) ∧ w'.cell? ⟨g, 1, none⟩ = some (.int .i64 0) ∧ w'.cell? ⟨g, 2, none⟩ = some (.int .i64 0) ∧ Hid (g < w'.heap.size ∧ Rel w P NoF w' r t q m (l.dropLast) (l.dropLast) (l.dropLast))) (by kernel_rfl) (by kernel_rfl) ⟨x0, x1, x2, Lib.hid ⟨hR.out.1, hR.out.2.drewN 1⟩⟩ ?_
    rw [List.toList_toArray]
    repeat (first
      | (go_big_quiet_skip; try simp only [Act.put, List.setIfInBounds_toArray, List.set_cons_zero, List.set_cons_succ])
      | (refine BigFrame.wpQuiet_want (by kernel_rfl) (fun K hK => ?_)
         apply Exists.intro
         refine ⟨fun wq hwq => ?_, hK _ ?_⟩
         · obtain ⟨hq0, hq1, hq2, hq3⟩ := id hwq
           unfold Oper.quietAt Oper.quietUpon
           go_simp
           first | done | rfl
         clear hK K
         simp only [Act.put, List.setIfInBounds_toArray, List.set_cons_zero, List.set_cons_succ]))
    refine wpQuiet_nil ?_
    rintro w6 ⟨_, _, _, hR6⟩
    have HR6 := Lib.hid hR6.out.2
    clear hR6
    go_wp2_with (fail)
    go_ret
    exact ⟨rfl, HR6.out⟩

end Go.Proofs.Ytbopnglncjdnmaa
