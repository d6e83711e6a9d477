/- A ring of things, as it lies in memory; what its smallest methods answer. -/
import Derived.Test.YtbopnglncjdnmaaAwake
import Derived.Test.YtbopnglncjdnmaaThing
set_option linter.unusedSimpArgs false
set_option linter.unusedVariables false
namespace Go.Proofs.Ytbopnglncjdnmaa
open Go.RowKit

/-- The three cells of a thing, at a place of a row. -/
def ThAt (cs : Array Value) (k : Nat) (x : Int) : Prop := cs[k * 3]? = some (.string ⟨#[UInt8.ofNat (x % 256).toNat]⟩) ∧ cs[k * 3 + 1]? = some (.int .i64 x) ∧ cs[k * 3 + 2]? = some (.int .i64 (wrap64 (-x)))
theorem th_cells {w : World} {c k : Nat} {cs : Array Value} {tc : TypeId} {fz : Nat × Nat} {x : Int} (hcc : w.heap[c]? = some (.cells cs tc fz)) (h : ThAt cs k x) :
    w.cell? ⟨c, k * 3, none⟩ = some (.string ⟨#[UInt8.ofNat (x % 256).toNat]⟩) ∧ w.cell? ⟨c, k * 3 + 1, none⟩ = some (.int .i64 x) ∧ w.cell? ⟨c, k * 3 + 2, none⟩ = some (.int .i64 (wrap64 (-x))) := by
  rw [cell_of_heap hcc, cell_of_heap hcc, cell_of_heap hcc]
  exact h
/-- A ring of things: its four cells in block b, its row in block c. -/
structure TAt (w : World) (b c room first n : Nat) (cs : Array Value) (l : List Int) : Prop where
  own : ∃ t, w.heap[b]? = some (.cells #[.int .i64 room, .int .i64 first, .int .i64 l.length, .slice (if n = 0 then none else some ⟨c, 0, none⟩) n n] t (0, 0))
  row : n ≠ 0 → c ≠ b ∧ ∃ t, w.heap[c]? = some (.cells cs t (0, 0))
  size : cs.size = n * 3
  room1 : 1 ≤ room
  room2 : room ≤ 2097152
  most : n ≤ room
  many : l.length ≤ n
  fst_ : n ≠ 0 → first < n
  at_ : ∀ i x, l[i]? = some x → ThAt cs (spotOf first n i) x
theorem TAt.rb {w : World} {b c room first n : Nat} {cs : Array Value} {l : List Int} (h : TAt w b c room first n cs l) : RB w b room first l.length n (.slice (if n = 0 then none else some ⟨c, 0, none⟩) n n) := h.own
theorem TAt.cells {w : World} {b c room first n : Nat} {cs : Array Value} {l : List Int} (h : TAt w b c room first n cs l) : RCells w b room first l.length n (.slice (if n = 0 then none else some ⟨c, 0, none⟩) n n) := h.rb.cells
theorem Side.setNew {p : Nat → Prop} {a w : World} (h : Side p a w) {x : Addr} (hx : a.heap.size ≤ x.block) (u : Value) : Side p a (w.setCell x u) :=
  ⟨h.os, h.tape, h.output, Nat.le_trans h.size (by simp [World.setCell]), fun k hk hp => (Below.heap_setCell _ _ _ _ (by omega)).trans (h.block k hk hp)⟩
theorem heap_new (w : World) (o : Obj) : (w.alloc o).heap[w.heap.size]? = some o := by
  show (w.heap.push o)[w.heap.size]? = _
  rw [Array.getElem?_push, if_pos rfl]
theorem heap_lt {w : World} {b : Nat} {o : Obj} (h : w.heap[b]? = some o) : b < w.heap.size := (Array.getElem?_eq_some_iff.1 h).1
theorem heap_alloc_old {w : World} {b : Nat} {o : Obj} (h : w.heap[b]? = some o) (x : Obj) : (w.alloc x).heap[b]? = some o := by rw [Below.heap_alloc _ _ _ (heap_lt h)]; exact h
theorem RB.alloc {w : World} {b room first many n : Nat} {v : Value} (h : RB w b room first many n v) (o : Obj) : RB (w.alloc o) b room first many n v := by
  obtain ⟨t, ht⟩ := h
  exact ⟨t, heap_alloc_old ht o⟩
theorem RB.lt {w : World} {b room first many n : Nat} {v : Value} (h : RB w b room first many n v) : b < w.heap.size := by
  obtain ⟨t, ht⟩ := h
  exact heap_lt ht
/-- A variable for a thing, empty. -/
abbrev thVar : Obj := .cells #[.string ⟨#[]⟩, .int .i64 0, .int .i64 0] 36
/-- A ring of things, whatever its row. -/
def ThingAt (w : World) (b c room : Nat) (l : List Int) : Prop := ∃ first n cs, TAt w b c room first n cs l

set_option maxHeartbeats 400000 in
set_option maxRecDepth 100000 in
theorem tcell_run (b : Nat) (room first many n i : Nat) (A : Option Addr) (w : World) (h : RCells w b room first many n (.slice A n n)) (hn : 0 < n) (hN : n ≤ 2097152) (hf : first < n) (hi : i ≤ 2097152) :
    Calls Try.prog 33 #[.pointer (some ⟨b, 0, none⟩), .int .i64 i] w fun e w' => e = .returned (.int .i64 (spotOf first n i : Nat)) ∧ ∃ m, w' = w.drewN m := by
  have c1 := h.c1
  have c3 := h.c3
  go_enter Try.func33, Try.ntmps33
  go_wp2
  go_quiet (fail)
  go_wp2
  go_ret
  exact ⟨by unfold spotOf; simp, nq, rfl⟩
set_option maxHeartbeats 1000000 in
set_option maxRecDepth 100000 in
theorem tat_ok (b c room : Nat) (l : List Int) (i : Nat) (x : Int) (w : World) (h0 : ThingAt w b c room l) (hx : l[i]? = some x) :
    Calls Try.prog 18 #[.pointer (some ⟨b, 0, none⟩), .int .i64 i] w fun e w' => e = .returned (.tuple #[.agg (thCells x), .int .i64 0]) ∧ Side (fun _ => False) w w' := by
  obtain ⟨first, n, cs, h⟩ := h0
  have hil : i < l.length := (List.getElem?_eq_some_iff.1 hx).1
  have hmany := h.many
  have hmost := h.most
  have hr := h.room2
  have hn : n ≠ 0 := by omega
  have hf := h.fst_ hn
  obtain ⟨k, hk⟩ : ∃ k, spotOf first n i = k := ⟨_, rfl⟩
  have hkn : k < n := by rw [← hk]; exact spot_lt (by omega)
  have hki : (k : Int) < n := by omega
  have hcx : ThAt cs k x := by rw [← hk]; exact h.at_ i x hx
  obtain ⟨m, hm⟩ : ∃ m, l.length = m := ⟨_, rfl⟩
  rw [hm] at hil hmany
  have c2 := h.cells.c2
  have c3 := h.cells.c3
  rw [if_neg hn] at c3
  rw [hm] at c2
  obtain ⟨hcb, tc, hcc⟩ := h.row hn
  obtain ⟨dk0, dk1, dk2⟩ := th_cells hcc hcx
  have hbl := h.rb.lt
  have hcl := heap_lt hcc
  have HC1 : Hid (∀ q, Calls Try.prog 33 #[.pointer (some ⟨b, 0, none⟩), .int .i64 i] (((w.alloc thVar).alloc thVar).drewN q) fun e w'' => e = .returned (.int .i64 k) ∧ ∃ q', w'' = (((w.alloc thVar).alloc thVar).drewN q).drewN q') := by
    refine Lib.hid fun q => ?_
    have hc := (((h.rb.alloc thVar).alloc thVar).drewN q).cells
    rw [if_neg hn] at hc
    rw [← hk]
    exact tcell_run b room first l.length n i _ _ hc (by omega) (by omega) hf (by omega)
  have hi1 : decide ((i : Int) < 0) = false := decide_eq_false (by omega)
  have hi2 : decide ((m : Int) ≤ i) = false := decide_eq_false (by omega)
  have hi3 : decide (m ≤ i) = false := decide_eq_false (by omega)
  have HRBX : Hid (RB ((w.alloc thVar).alloc thVar) b room first m n (.slice (some ⟨c, 0, none⟩) n n)) := Lib.hid (by
    have := (h.rb.alloc thVar).alloc thVar
    rw [if_neg hn, hm] at this
    exact this)
  have HCC := Lib.hid hcc
  have HCX := Lib.hid hcx
  clear h hx hm hk hcx hcc hf
  go_enter Try.func18, Try.ntmps18
  go_wp2_with (fail)
  have HRB2 : Hid (RB ((w.alloc thVar).alloc thVar) b room first m n (.slice (some ⟨c, 0, none⟩) n n)) := HRBX.out
  have HS2 : Hid (Side (fun _ => False) w ((w.alloc thVar).alloc thVar)) := Lib.hid (((Side.refl _ w).alloc _).alloc _)
  have hv : ((w.alloc thVar).alloc thVar).heap[w.heap.size]? = some thVar := by
    rw [Below.heap_alloc _ _ _ (by simp)]
    exact heap_new w thVar
  have hc2 : ((w.alloc thVar).alloc thVar).heap[c]? = some (.cells cs tc (0, 0)) := heap_alloc_old (heap_alloc_old HCC.out _) _
  show Code.wp _ _ _ _ ((w.alloc thVar).alloc thVar)
  generalize hW2 : (w.alloc thVar).alloc thVar = W2 at HRB2 HS2 hv hc2 HC1 ⊢
  obtain ⟨g, hg⟩ : ∃ g, w.heap.size = g := ⟨_, rfl⟩
  rw [hg] at hv hbl hcl ⊢
  have hgb : g ≠ b := by omega
  have hgc : g ≠ c := by omega
  clear hW2 c2 c3 dk0 dk1 dk2 hi1 hi2 hi3
  have d3 := HRB2.out.cells.c3
  obtain ⟨dk0, dk1, dk2⟩ := th_cells hc2 HCX.out
  have v0 : W2.cell? ⟨g, 0, none⟩ = some (.string ⟨#[]⟩) := cell_of_heap hv
  have v1 : W2.cell? ⟨g, 1, none⟩ = some (.int .i64 0) := cell_of_heap hv
  have v2 : W2.cell? ⟨g, 2, none⟩ = some (.int .i64 0) := cell_of_heap hv
  have z0 : W2.frozen? ⟨g, 0, none⟩ = false := frozen_of_heap hv
  have z1 : W2.frozen? ⟨g, 1, none⟩ = false := frozen_of_heap hv
  have z2 : W2.frozen? ⟨g, 2, none⟩ = false := frozen_of_heap hv
  have HG := Lib.hid hg
  have HV := Lib.hid hv
  have HCD : Hid (Calls Try.prog 33 #[.pointer (some ⟨b, 0, none⟩), .int .i64 i] W2.drew fun e w'' => e = .returned (.int .i64 k) ∧ ∃ q', w'' = W2.drew.drewN q') := Lib.hid (HC1.out 1)
  clear hg hv hc2
  go_region_held3 (fun w' => w'.cell? ⟨b, 3, none⟩ = some (.slice (some ⟨c, 0, none⟩) n n) ∧ w'.cell? ⟨c, k * 3, none⟩ = some (.string ⟨#[UInt8.ofNat (x % 256).toNat]⟩) ∧ w'.cell? ⟨c, k * 3 + 1, none⟩ = some (.int .i64 x) ∧ w'.cell? ⟨c, k * 3 + 2, none⟩ = some (.int .i64 (wrap64 (-x)))) (go_keep)
    (first | (go_at_call 33; (with_reducible refine HCD.out.mono ?_); rintro e w2 ⟨rfl, m2, rfl⟩))
  go_wp2
  have hgw : w.heap.size ≤ g := Nat.le_of_eq HG.out
  refine ⟨rfl, .tuple #[.agg (thCells x), .int .i64 0], ?_, rfl, ((((HS2.out.drewN _).setNew hgw _).setNew hgw _).setNew hgw _)⟩
  rw [results_cell_tmp rfl]
  go_simp
  try rfl
end Go.Proofs.Ytbopnglncjdnmaa
