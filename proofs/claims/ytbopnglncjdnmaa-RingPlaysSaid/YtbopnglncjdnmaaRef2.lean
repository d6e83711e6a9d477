/- The document's ring: what goes in and out. -/
import Derived.Test.YtbopnglncjdnmaaRef
import Derived.BigRegion
set_option linter.unusedSimpArgs false
set_option linter.unusedVariables false
namespace Go.Proofs.Ytbopnglncjdnmaa
open Go.RowKit

set_option maxHeartbeats 1000000 in
set_option maxRecDepth 100000 in
theorem qpop_front_none (q c most : Nat) (w : World) (h0 : QAt w q c most []) :
    Calls Try.prog 36 #[.pointer (some ⟨q, 0, none⟩)] w fun e w' => e = .returned (.tuple #[.int .i64 0, .int .i64 51]) ∧ Side (fun _ => False) w w' := by
  obtain ⟨A, cap, hb, hrow⟩ := h0.at_
  have c1 := hb.c1
  rw [List.length_nil] at c1
  clear h0 hb hrow
  go_enter Try.func36, Try.ntmps36
  go_wp2_with (fail)
  repeat (go_quiet (fail); try go_wp2_with (fail))
  go_ret2
  first | exact ⟨rfl, Side.refl _ w⟩ | exact ⟨rfl, (Side.refl _ w).drewN _⟩
set_option maxHeartbeats 1000000 in
set_option maxRecDepth 100000 in
theorem qpop_back_none (q c most : Nat) (w : World) (h0 : QAt w q c most []) :
    Calls Try.prog 37 #[.pointer (some ⟨q, 0, none⟩)] w fun e w' => e = .returned (.tuple #[.int .i64 0, .int .i64 51]) ∧ Side (fun _ => False) w w' := by
  obtain ⟨A, cap, hb, hrow⟩ := h0.at_
  have c1 := hb.c1
  rw [List.length_nil] at c1
  clear h0 hb hrow
  go_enter Try.func37, Try.ntmps37
  go_wp2_with (fail)
  repeat (go_quiet (fail); try go_wp2_with (fail))
  go_ret2
  first | exact ⟨rfl, Side.refl _ w⟩ | exact ⟨rfl, (Side.refl _ w).drewN _⟩
set_option maxHeartbeats 1000000 in
set_option maxRecDepth 100000 in
theorem qpop_front (q c most : Nat) (x : Int) (l : List Int) (w : World) (h0 : QAt w q c most (x :: l)) :
    Calls Try.prog 36 #[.pointer (some ⟨q, 0, none⟩)] w fun e w' => e = .returned (.tuple #[.int .i64 x, .int .i64 0]) ∧ Side (fun k => k = q ∨ k = c) w w' ∧ QAt w' q c most l := by
  obtain ⟨A, cap, hb, hrow⟩ := h0.at_
  cases hrow with
  | some o cap cs t l0 hcq hc hl ho hat =>
    have hmany := h0.many
    have hroom := h0.room2
    have c1 := hb.c1
    have f1 := hb.f 1
    obtain ⟨m, hm⟩ : ∃ m, l.length = m := ⟨_, rfl⟩
    obtain ⟨m1, hm1⟩ : ∃ m1, m + 1 = m1 := ⟨_, rfl⟩
    rw [List.length_cons, hm, hm1] at c1 hl hmany
    have g1 : ((m1 : Int) == 0) = false := by rw [beq_eq_false_iff_ne]; omega
    have g2 : (0 : Int) < m1 := by omega
    have g3 : (1 : Int) ≤ m1 := by omega
    have g4 : (1 : Int) ≤ cap := by omega
    have g5 : (m1 : Int) ≤ cap := by omega
    have d1 : w.cell? ⟨c, o, none⟩ = some (.int .i64 x) := by rw [cell_of_heap hc]; exact hat 0 x rfl
    have H0 := Lib.hid h0
    have HB := Lib.hid hb
    have HC := Lib.hid hc
    have HA := Lib.hid hat
    have HM := Lib.hid hm
    have HM1 := Lib.hid hm1
    have HO := Lib.hid ho
    clear h0 hb hc hat hm hm1 ho
    go_enter Try.func36, Try.ntmps36
    go_wp2_with (fail)
    repeat (go_quiet (fail); try go_wp2_with (fail))
    all_goals go_ret2
    · have e1 : l.length = m := HM.out
      have e2 : m + 1 = m1 := HM1.out
      have hl0 : l = [] := List.eq_nil_of_length_eq_zero (by omega)
      refine ⟨rfl, (Side.refl _ w).setCell (Or.inl rfl) _, H0.out.room1, hroom, by omega, some ⟨c, o, none⟩, 0, ?_, .some o 0 cs t l hcq (by rw [heap_set_other _ _ _ _ _ hcq]; exact HC.out) (by rw [hl0]; exact Nat.le_refl _) (by have := HO.out; omega) (fun j y hy => by rw [hl0] at hy; cases hy)⟩
      rw [show l.length = m1 - 1 from by omega]
      exact HB.out.set1 _
    · have e1 : l.length = m := HM.out
      have e2 : m + 1 = m1 := HM1.out
      refine ⟨rfl, (Side.refl _ w).setCell (Or.inl rfl) _, H0.out.room1, hroom, by omega, some ⟨c, o + 1, none⟩, cap - 1, ?_, .some (o + 1) (cap - 1) cs t l hcq (by rw [heap_set_other _ _ _ _ _ hcq]; exact HC.out) (by omega) (by have := HO.out; omega) (fun j y hy => ?_)⟩
      · rw [show l.length = m1 - 1 from by omega]
        exact HB.out.set1 _
      · rw [show o + 1 + j = o + (j + 1) from by omega]
        exact HA.out (j + 1) y (by rw [List.getElem?_cons_succ]; exact hy)

set_option maxHeartbeats 1000000 in
set_option maxRecDepth 100000 in
theorem qpop_back (q c most : Nat) (x : Int) (l : List Int) (w : World) (h0 : QAt w q c most (l ++ [x])) :
    Calls Try.prog 37 #[.pointer (some ⟨q, 0, none⟩)] w fun e w' => e = .returned (.tuple #[.int .i64 x, .int .i64 0]) ∧ Side (fun k => k = q ∨ k = c) w w' ∧ QAt w' q c most l := by
  obtain ⟨A, cap, hb, hrow⟩ := h0.at_
  generalize hll : l ++ [x] = ll at h0 hb hrow
  cases hrow with
  | none => simp at hll
  | some o cap cs t l0 hcq hc hl ho hat =>
    subst hll
    have hmany := h0.many
    have hroom := h0.room2
    have c1 := hb.c1
    have f1 := hb.f 1
    obtain ⟨m, hm⟩ : ∃ m, l.length = m := ⟨_, rfl⟩
    obtain ⟨m1, hm1⟩ : ∃ m1, m + 1 = m1 := ⟨_, rfl⟩
    rw [List.length_append, List.length_singleton, hm, hm1] at c1 hl hmany
    have g1 : ((m1 : Int) == 0) = false := by rw [beq_eq_false_iff_ne]; omega
    have g2 : (0 : Int) < m1 := by omega
    have g3 : (m1 : Int) - 1 = m := by omega
    have g3' : IntKind.i64.wrap ((m1 : Int) - 1) = m := by rw [IntKind.wrap_i64]; omega
    have g3'' : IntKind.i64.wrap (m : Int) = m := by rw [IntKind.wrap_i64]; omega
    have g4 : (m : Int) < m1 := by omega
    have g5 : (m : Int) ≤ cap := by omega
    have g6 : (m1 : Int) ≤ cap := by omega
    have d1 : w.cell? ⟨c, o + m, none⟩ = some (.int .i64 x) := by rw [cell_of_heap hc]; exact hat m x (by rw [← hm]; simp)
    have H0 := Lib.hid h0
    have HB := Lib.hid hb
    have HC := Lib.hid hc
    have HA := Lib.hid hat
    have HM := Lib.hid hm
    have HM1 := Lib.hid hm1
    have HO := Lib.hid ho
    clear h0 hb hc hat hm hm1 ho
    go_enter Try.func37, Try.ntmps37
    go_wp2_with (fail)
    repeat (go_quiet (fail); try go_wp2_with (fail))
    go_region
    all_goals go_wp2
    go_ret2
    have e1 : l.length = m := HM.out
    have e2 : m + 1 = m1 := HM1.out
    refine ⟨rfl, ((Side.refl _ w).drewN _).setCell (Or.inl rfl) _, H0.out.room1, hroom, by omega, some ⟨c, o, none⟩, cap, ?_, .some o cap cs t l hcq (by rw [heap_set_other _ _ _ _ _ hcq]; exact HC.out) (by omega) HO.out (fun j y hy => ?_)⟩
    · rw [e1]
      exact HB.out.set1 _
    · exact HA.out j y (by rw [List.getElem?_append_left (List.getElem?_eq_some_iff.1 hy).1]; exact hy)

theorem one_cell {w : World} {B : Nat} {v : Value} {t : TypeId} {fz : Nat × Nat} (h : w.heap[B]? = some (.cells #[v] t fz)) : ∀ j u, [v][j]? = some u → w.cell? ((⟨B, 0, none⟩ : Addr).add j) = some u := by
  intro j u hu
  have hj : j = 0 := by
    rcases j with _ | j
    · rfl
    · simp at hu
  subst hj
  rw [show (⟨B, 0, none⟩ : Addr).add 0 = ⟨B, 0, none⟩ from by simp [Addr.add], cell_of_heap h]
  simpa using hu
/-- What append has laid anew. -/
theorem qrow_grown {w : World} {B q n : Nat} {v : Value} {l : List Int} (h : w.ownsRow B 3 1 v (n + 1) (l.map (Value.int .i64))) (hl : l.length = n + 1) (hB : q < B) :
    ∃ g cap, v = .slice (some ⟨g, 0, none⟩) (n + 1) cap ∧ B ≤ g ∧ QRow w q g (some ⟨g, 0, none⟩) cap l := by
  obtain ⟨h1, h2⟩ := h
  rcases h2 with ⟨_, h0⟩ | ⟨g, cap, cur, hv, hg, hh, hle, hmx, hsz, htk⟩
  · omega
  · refine ⟨g, cap, hv, hg, .some 0 cap cur _ l (by omega) hh (by omega) (by omega) fun i x hx => ?_⟩
    have hil : i < l.length := (List.getElem?_eq_some_iff.1 hx).1
    have h3 : (l.map (Value.int .i64))[i]? = some (.int .i64 x) := by rw [List.getElem?_map, hx]; rfl
    rw [← htk, List.getElem?_take] at h3
    split at h3
    · rw [Nat.zero_add]
      simpa using h3
    · cases h3

theorem qrow_side {w : World} {q c : Nat} {A : Option Addr} {cap : Nat} {l : List Int} (h : QRow w q c A cap l) {k : Nat} {u : Value} (hcq : c ≠ q) : QRow (w.setCell ⟨q, k, none⟩ u) q c A cap l := by
  cases h with
  | none => exact .none
  | some o cap cs t l h1 h2 h3 h4 h5 => exact .some o cap cs t l h1 (by rw [heap_set_other _ _ _ _ _ hcq]; exact h2) h3 h4 h5

set_option maxHeartbeats 1000000 in
set_option maxRecDepth 100000 in
theorem qpush_no (q c most : Nat) (l : List Int) (x : Int) (w : World) (h0 : QAt w q c most l) (hl : l.length = most) :
    Calls Try.prog 35 #[.pointer (some ⟨q, 0, none⟩), .int .i64 x] w fun e w' => e = .returned (.int .i64 50) ∧ Side (fun _ => False) w w' := by
  obtain ⟨A, cap, hb, hrow⟩ := h0.at_
  have c0 := hb.c0
  have c1 := hb.c1
  rw [hl] at c1
  clear h0 hb hrow hl
  go_enter Try.func35, Try.ntmps35
  go_wp2_with (fail)
  repeat (go_quiet (fail); try go_wp2_with (fail))
  go_ret
  first | exact ⟨rfl, Side.refl _ w⟩ | exact ⟨rfl, (Side.refl _ w).drewN _⟩

set_option maxHeartbeats 1000000 in
set_option maxRecDepth 100000 in
theorem qpush_ok (q c most : Nat) (l : List Int) (x : Int) (w : World) (h0 : QAt w q c most l) (hl : l.length < most) :
    Calls Try.prog 35 #[.pointer (some ⟨q, 0, none⟩), .int .i64 x] w fun e w' => e = .returned (.int .i64 0) ∧ Side (fun k => k = q ∨ k = c) w w' ∧ ∃ c', (c' = c ∨ w.heap.size ≤ c') ∧ QAt w' q c' most (l ++ [x]) := by
  obtain ⟨A, cap, hb, hrow⟩ := h0.at_
  have hroom := h0.room2
  have c0 := hb.c0
  have c1 := hb.c1
  have hql := hb.lt
  obtain ⟨m, hm⟩ : ∃ m, l.length = m := ⟨_, rfl⟩
  rw [hm] at c1 hl
  have g1 : ((m : Int) == (most : Int)) = false := by rw [beq_eq_false_iff_ne]; omega
  obtain ⟨i0, hi0, hz0, hz1, hz2⟩ := info_int
  have HI := Lib.hid hi0
  have HZ := Lib.hid hz0
  have HZ1 := Lib.hid hz1
  have HZ2 := Lib.hid hz2
  have H0 := Lib.hid h0
  have HB := Lib.hid hb
  have HM := Lib.hid hm
  clear hi0 hz0 hz1 hz2 h0 hb
  have hnew : ∀ nq, ((w.drewN nq).alloc (.cells #[.int .i64 x] 3)).heap[w.heap.size]? = some (.cells #[.int .i64 x] 3) := fun nq => heap_new (w.drewN nq) _
  have HNW := Lib.hid hnew
  clear hnew
  cases hrow with
  | none =>
    obtain rfl : m = 0 := by rw [← hm]; rfl
    clear hm
    go_enter Try.func35, Try.ntmps35
    go_wp2_with (fail)
    go_quiet (fail)
    go_wp2_with (at_builtin; refine wpList_append_grows _ rfl (.tmp 21) (.tmp 23) 53 rfl 3 i0 (.int .i64 0) 1 8 Try.underlying53 HI.out HZ.out HZ1.out HZ2.out rfl (by decide) none 0 0 [] rfl (fun _ => ⟨rfl, rfl⟩) rfl (fun b hb => by cases hb) ⟨w.heap.size, 0, none⟩ 1 1 [.int .i64 x] rfl rfl ?c1 ?c2 (by omega) (by unfold maxLen; omega) (by omega) ?grow)
    case c1 => exact one_cell (HNW.out _)
    case c2 => intro u hu; simp at hu; subst hu; rfl
    case grow =>
      intro v' w' hown hgrow
      obtain ⟨g, cap', rfl, hg, hrow⟩ := qrow_grown (q := q) (l := [x]) hown rfl (by omega)
      have hq' : QB w' q most (.slice none 0 0) := by
        obtain ⟨t, ht⟩ := HB.out
        exact ⟨t, (hgrow.block q (by simp; omega) (by simp)).trans (heap_alloc_old (show (w.drewN nq).heap[q]? = _ from ht) _)⟩
      have hs' : Side (fun _ => False) w w' := ⟨hgrow.os, hgrow.tape, hgrow.output, Nat.le_trans (by simp) hgrow.size, fun k hk _ => (hgrow.block k (by simp; omega) (by simp)).trans (Below.heap_alloc _ _ _ hk)⟩
      have d1 := hq'.c1
      have f1 := hq'.f 1
      have HR := Lib.hid hrow
      have HQ := Lib.hid hq'
      have HS := Lib.hid hs'
      clear hown hgrow hrow hq' hs' c0 c1 g1
      go_wp2_with (fail)
      go_ret
      refine ⟨rfl, (HS.out.mono (fun _ _ h => h.elim)).setCell (Or.inl rfl) _, g, Or.inr (by omega), H0.out.room1, hroom, by show 1 ≤ most; exact hl, some ⟨g, 0, none⟩, cap', HQ.out.set1 _, ?_⟩
      exact qrow_side HR.out (by omega)
  | some o cap cs t l0 hcq hc hl2 ho hat =>
    have hcl := heap_lt hc
    rw [hm] at hl2
    have HA := Lib.hid hat
    have HC := Lib.hid hc
    have HO := Lib.hid ho
    have HSA : Hid (∀ nq, Side (fun k => k = q ∨ k = c) w ((w.drewN nq).alloc (.cells #[.int .i64 x] 3))) := Lib.hid fun nq => ((Side.refl _ w).drewN nq).alloc _
    have HBA : Hid (∀ nq, QB ((w.drewN nq).alloc (.cells #[.int .i64 x] 3)) q most (.slice (some ⟨c, o, none⟩) m cap)) := Lib.hid fun nq => by
      obtain ⟨t, ht⟩ := HB.out
      rw [hm] at ht
      exact ⟨t, heap_alloc_old (show (w.drewN nq).heap[q]? = _ from ht) _⟩
    have HCA : Hid (∀ nq, ((w.drewN nq).alloc (.cells #[.int .i64 x] 3)).heap[c]? = some (.cells cs t (0, 0))) := Lib.hid fun nq => heap_alloc_old (show (w.drewN nq).heap[c]? = _ from HC.out) _
    have hlo : (l.map (Value.int .i64)).length = m * 1 := by rw [List.length_map, hm, Nat.mul_one]
    have HLO := Lib.hid hlo
    clear hat hc hm ho hlo
    go_enter Try.func35, Try.ntmps35
    go_wp2_with (fail)
    go_quiet (fail)
    go_wp2_with (at_builtin; refine wpList_append_arg _ rfl (.tmp 21) (.tmp 23) 53 rfl 3 i0 (.int .i64 0) 1 8 Try.underlying53 HI.out HZ.out HZ1.out HZ2.out rfl (by decide) c o m cap (l.map (Value.int .i64)) rfl HLO.out ?olds ⟨w.heap.size, 0, none⟩ 1 1 [.int .i64 x] rfl rfl ?c1 ?c2 ?spare (by unfold maxLen; omega) (by omega) ?room ?grow)
    case c1 => exact one_cell (HNW.out _)
    case c2 => intro u hu; simp at hu; subst hu; rfl
    case olds =>
      intro j u hj
      rw [List.getElem?_map] at hj
      rw [cell_of_heap (HCA.out _)]
      cases hlj : l[j]? with
      | none => rw [hlj] at hj; cases hj
      | some y =>
        rw [hlj] at hj
        cases hj
        exact HA.out j y hlj
    case spare =>
      intro hr j hj
      have hj0 : j = 0 := by simp at hj; omega
      subst hj0
      have ho' : o + cap ≤ cs.size := HO.out
      refine ⟨?_, frozen_of_heap (HCA.out _)⟩
      rw [cell_of_heap (HCA.out _), Array.getElem?_eq_getElem (by omega)]
      rfl
    case room =>
      intro hr
      simp only [World.setCells, Nat.mul_one]
      have hq' := (HBA.out nq).side (k := o + m) (u := .int .i64 x) hcq.symm
      have hc' : (((w.drewN nq).alloc (.cells #[.int .i64 x] 3)).setCell ⟨c, o + m, none⟩ (.int .i64 x)).heap[c]? = some (.cells (cs.setIfInBounds (o + m) (.int .i64 x)) t (0, 0)) := heap_set_self _ _ _ _ (HCA.out nq)
      have hs' := (HSA.out nq).setCell (x := ⟨c, o + m, none⟩) (Or.inr rfl) (.int .i64 x)
      generalize (((w.drewN nq).alloc (.cells #[.int .i64 x] 3)).setCell ⟨c, o + m, none⟩ (.int .i64 x)) = w' at hq' hc' hs' ⊢
      have d1 := hq'.c1
      have f1 := hq'.f 1
      have HQ := Lib.hid hq'
      have HS := Lib.hid hs'
      have HC' := Lib.hid hc'
      clear hq' hs' hc' c0 c1 g1
      go_wp2_with (fail)
      go_ret
      have hm' : l.length = m := HM.out
      have ho' : o + cap ≤ cs.size := HO.out
      refine ⟨rfl, HS.out.setCell (Or.inl rfl) _, c, Or.inl rfl, H0.out.room1, hroom, by rw [List.length_append, hm', List.length_singleton]; omega, some ⟨c, o, none⟩, cap, ?_, ?_⟩
      · rw [List.length_append, hm', List.length_singleton]
        exact HQ.out.set1 _
      · refine qrow_side (.some o cap _ t _ hcq HC'.out (by rw [List.length_append, hm', List.length_singleton]; omega) (by rw [Array.size_setIfInBounds]; exact ho') fun i y hy => ?_) hcq
        rcases Nat.lt_trichotomy i m with h1 | h1 | h1
        · rw [List.getElem?_append_left (by omega)] at hy
          rw [Array.getElem?_setIfInBounds_ne (by omega)]
          exact HA.out i y hy
        · subst h1
          rw [← hm'] at hy
          simp at hy
          subst hy
          rw [Array.getElem?_setIfInBounds_self_of_lt (by omega)]
        · rw [List.getElem?_eq_none (by rw [List.length_append, List.length_singleton]; omega)] at hy
          cases hy
    case grow =>
      intro hfull v' w' hown hgrow
      obtain ⟨g, cap', rfl, hg, hrow⟩ := qrow_grown (q := q) (l := l ++ [x]) (n := m) (by rw [List.map_append]; exact hown) (by rw [List.length_append, HM.out]; rfl) (by omega)
      have hq' : QB w' q most (.slice (some ⟨c, o, none⟩) m cap) := by
        obtain ⟨t, ht⟩ := HBA.out nq
        exact ⟨t, (hgrow.block q (by simp; omega) (by simp)).trans ht⟩
      have hs' : Side (fun k => k = q ∨ k = c) w w' := (HSA.out nq).trans ⟨hgrow.os, hgrow.tape, hgrow.output, hgrow.size, fun k hk _ => hgrow.block k hk (by simp)⟩
      have d1 := hq'.c1
      have f1 := hq'.f 1
      have HR := Lib.hid hrow
      have HQ := Lib.hid hq'
      have HS := Lib.hid hs'
      clear hown hgrow hrow hq' hs' c0 c1 g1
      go_wp2_with (fail)
      go_ret
      have hm' : l.length = m := HM.out
      refine ⟨rfl, HS.out.setCell (Or.inl rfl) _, g, Or.inr (by omega), H0.out.room1, hroom, by rw [List.length_append, hm', List.length_singleton]; omega, some ⟨g, 0, none⟩, cap', ?_, ?_⟩
      · rw [List.length_append, hm', List.length_singleton]
        exact HQ.out.set1 _
      · exact qrow_side HR.out (by omega)
end Go.Proofs.Ytbopnglncjdnmaa
