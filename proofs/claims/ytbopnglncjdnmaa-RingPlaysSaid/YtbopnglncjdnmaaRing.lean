/- A ring of numbers, as it lies in memory; what its smallest methods answer. -/
import Derived.Test.YtbopnglncjdnmaaProg
import Derived.WalkKit
import Derived.WalkSpells
import Derived.KernelRfl
import Derived.WalkArith
import Derived.Deep.LoopGhost
import Derived.Deep.QuietTactic
import Derived.Deep.RegionHeld3
import Derived.BigQuiet
import Derived.Lib.Hide
import Derived.Below
set_option linter.unusedSimpArgs false
set_option linter.unusedVariables false
namespace Go.Proofs.Ytbopnglncjdnmaa
open Go.RowKit

/-- What is not of the blocks p stands as it stood. -/
structure Side (p : Nat → Prop) (w w' : World) : Prop where
  os : w'.os = w.os
  tape : w'.tape = w.tape
  output : w'.output = w.output
  size : w.heap.size ≤ w'.heap.size
  block : ∀ k, k < w.heap.size → ¬ p k → w'.heap[k]? = w.heap[k]?
theorem Side.refl (p : Nat → Prop) (w : World) : Side p w w := ⟨rfl, rfl, rfl, Nat.le_refl _, fun _ _ _ => rfl⟩
theorem Side.trans {p : Nat → Prop} {a b c : World} (h : Side p a b) (k : Side p b c) : Side p a c :=
  ⟨k.os.trans h.os, k.tape.trans h.tape, k.output.trans h.output, Nat.le_trans h.size k.size, fun i hi hp => (k.block i (Nat.lt_of_lt_of_le hi h.size) hp).trans (h.block i hi hp)⟩
theorem Side.mono {p q : Nat → Prop} {a b : World} (h : Side p a b) (hq : ∀ k, k < a.heap.size → p k → q k) : Side q a b :=
  ⟨h.os, h.tape, h.output, h.size, fun i hi hp => h.block i hi (fun x => hp (hq i hi x))⟩
theorem Side.drew {p : Nat → Prop} {a w : World} (h : Side p a w) : Side p a w.drew := ⟨h.os, h.tape, h.output, h.size, h.block⟩
theorem Side.drewN {p : Nat → Prop} {a w : World} (h : Side p a w) (n : Nat) : Side p a (w.drewN n) := ⟨h.os, h.tape, h.output, h.size, h.block⟩
theorem Side.setCell {p : Nat → Prop} {a w : World} (h : Side p a w) {x : Addr} (hx : p x.block) (u : Value) : Side p a (w.setCell x u) :=
  h.trans ⟨rfl, rfl, rfl, by simp [World.setCell], fun k hk hp => Below.heap_setCell _ _ _ _ (fun e => hp (e ▸ hx))⟩
theorem Side.alloc {p : Nat → Prop} {a w : World} (h : Side p a w) (o : Obj) : Side p a (w.alloc o) :=
  h.trans ⟨rfl, rfl, rfl, by simp, fun k hk _ => Below.heap_alloc _ _ _ hk⟩
theorem Side.below {p : Nat → Prop} {B : Nat} {w w' : World} (h : Side p w w') (hB : ∀ k, p k → B ≤ k) (hw : B ≤ w.heap.size) : Below B w w' :=
  ⟨h.os, h.tape, h.output, h.size, fun k hk => h.block k (by omega) (fun x => by have := hB k x; omega)⟩

theorem heap_set_self (w : World) (b o : Nat) (v : Value) {cs : Array Value} {t : TypeId} {fz : Nat × Nat} (h : w.heap[b]? = some (.cells cs t fz)) :
    (w.setCell ⟨b, o, none⟩ v).heap[b]? = some (.cells (cs.setIfInBounds o v) t fz) := by
  simp [World.setCell, Array.getElem?_modify, h]
theorem heap_set_other (w : World) (b o : Nat) (v : Value) (k : Nat) (h : k ≠ b) : (w.setCell ⟨b, o, none⟩ v).heap[k]? = w.heap[k]? := Below.heap_setCell _ _ _ _ h
theorem cell_of_heap {w : World} {b o : Nat} {cs : Array Value} {t : TypeId} {fz : Nat × Nat} (h : w.heap[b]? = some (.cells cs t fz)) : w.cell? ⟨b, o, none⟩ = cs[o]? := by
  unfold World.cell?; simp [h]
theorem frozen_of_heap {w : World} {b o : Nat} {cs : Array Value} {t : TypeId} (h : w.heap[b]? = some (.cells cs t (0, 0))) : w.frozen? ⟨b, o, none⟩ = false := by
  unfold World.frozen?; simp [h]

/-- The place of the i-th. -/
def spotOf (first n i : Nat) : Nat := (first + i) % n

/-- A ring of numbers: its four cells in block b, its row in block c. -/
structure RAt (w : World) (b c : Nat) (room first n : Nat) (cs : Array Value) (l : List Int) : Prop where
  own : ∃ t, w.heap[b]? = some (.cells #[.int .i64 room, .int .i64 first, .int .i64 l.length, .slice (if n = 0 then none else some ⟨c, 0, none⟩) n n] t (0, 0))
  row : n ≠ 0 → c ≠ b ∧ ∃ t, w.heap[c]? = some (.cells cs t (0, 0))
  size : cs.size = n
  room1 : 1 ≤ room
  room2 : room ≤ 2097152
  most : n ≤ room
  many : l.length ≤ n
  fst_ : n ≠ 0 → first < n
  ints : ∀ k, k < n → ∃ x, cs[k]? = some (.int .i64 x)
  at_ : ∀ i x, l[i]? = some x → cs[spotOf first n i]? = some (.int .i64 x)

structure RCells (w : World) (b : Nat) (room first many n : Nat) (v : Value) : Prop where
  c0 : w.cell? ⟨b, 0, none⟩ = some (.int .i64 room)
  c1 : w.cell? ⟨b, 1, none⟩ = some (.int .i64 first)
  c2 : w.cell? ⟨b, 2, none⟩ = some (.int .i64 many)
  c3 : w.cell? ⟨b, 3, none⟩ = some v
  f : ∀ k, w.frozen? ⟨b, k, none⟩ = false
theorem RAt.cells {w : World} {b c room first n : Nat} {cs : Array Value} {l : List Int} (h : RAt w b c room first n cs l) : RCells w b room first l.length n (.slice (if n = 0 then none else some ⟨c, 0, none⟩) n n) := by
  obtain ⟨t, hb⟩ := h.own
  exact ⟨by rw [cell_of_heap hb]; rfl, by rw [cell_of_heap hb]; rfl, by rw [cell_of_heap hb]; rfl, by rw [cell_of_heap hb]; rfl, fun k => frozen_of_heap hb⟩

set_option maxHeartbeats 400000 in
set_option maxRecDepth 100000 in
theorem cell_run (b : Nat) (room first many n i : Nat) (A : Option Addr) (w : World) (h : RCells w b room first many n (.slice A n n)) (hn : 0 < n) (hN : n ≤ 2097152) (hf : first < n) (hi : i ≤ 2097152) :
    Calls Try.prog 30 #[.pointer (some ⟨b, 0, none⟩), .int .i64 i] w fun e w' => e = .returned (.int .i64 (spotOf first n i : Nat)) ∧ ∃ m, w' = w.drewN m := by
  have c1 := h.c1
  have c3 := h.c3
  go_enter Try.func30, Try.ntmps30
  go_wp2
  go_quiet (fail)
  go_wp2
  go_ret
  exact ⟨by unfold spotOf; simp, nq, rfl⟩
set_option maxHeartbeats 400000 in
set_option maxRecDepth 100000 in
theorem len_run (b c room first n : Nat) (cs : Array Value) (l : List Int) (w : World) (h : RAt w b c room first n cs l) :
    Calls Try.prog 12 #[.pointer (some ⟨b, 0, none⟩)] w fun e w' => e = .returned (.int .i64 l.length) ∧ w' = w := by
  have c2 := h.cells.c2
  go_enter Try.func12, Try.ntmps12
  go_wp2
  go_ret
  exact ⟨rfl, rfl⟩

structure RowAt (w : World) (c n : Nat) (cs : Array Value) : Prop where
  cell : ∀ k, k < n → w.cell? ⟨c, k, none⟩ = cs[k]?
  f : ∀ k, w.frozen? ⟨c, k, none⟩ = false
theorem RAt.rowAt {w : World} {b c room first n : Nat} {cs : Array Value} {l : List Int} (h : RAt w b c room first n cs l) (hn : n ≠ 0) : RowAt w c n cs := by
  obtain ⟨_, t, hc⟩ := h.row hn
  exact ⟨fun k _ => cell_of_heap hc, fun k => frozen_of_heap hc⟩
theorem spot_eq {first n i : Nat} (hf : first < n) (hi : i ≤ n) : spotOf first n i = if first + i < n then first + i else first + i - n := by
  unfold spotOf
  split
  · rename_i h; exact Nat.mod_eq_of_lt h
  · rename_i h
    rw [Nat.mod_eq_sub_mod (by omega)]
    exact Nat.mod_eq_of_lt (by omega)
theorem spot_lt {first n i : Nat} (h : 0 < n) : spotOf first n i < n := Nat.mod_lt _ h

/-- The four cells, in one. -/
def RB (w : World) (b room first many n : Nat) (v : Value) : Prop := ∃ t, w.heap[b]? = some (.cells #[.int .i64 room, .int .i64 first, .int .i64 many, v] t (0, 0))
theorem RB.cells {w : World} {b room first many n : Nat} {v : Value} (h : RB w b room first many n v) : RCells w b room first many n v := by
  obtain ⟨t, hb⟩ := h
  exact ⟨by rw [cell_of_heap hb]; rfl, by rw [cell_of_heap hb]; rfl, by rw [cell_of_heap hb]; rfl, by rw [cell_of_heap hb]; rfl, fun k => frozen_of_heap hb⟩
theorem RB.set1 {w : World} {b room first many n : Nat} {v : Value} (h : RB w b room first many n v) (k : Nat) : RB (w.setCell ⟨b, 1, none⟩ (.int .i64 k)) b room k many n v := by
  obtain ⟨t, hb⟩ := h
  exact ⟨t, heap_set_self w b 1 _ hb⟩
theorem RB.set2 {w : World} {b room first many n : Nat} {v : Value} (h : RB w b room first many n v) (k : Nat) : RB (w.setCell ⟨b, 2, none⟩ (.int .i64 k)) b room first k n v := by
  obtain ⟨t, hb⟩ := h
  exact ⟨t, heap_set_self w b 2 _ hb⟩
theorem RB.set3 {w : World} {b room first many n : Nat} {v : Value} (h : RB w b room first many n v) (u : Value) (n' : Nat) : RB (w.setCell ⟨b, 3, none⟩ u) b room first many n' u := by
  obtain ⟨t, hb⟩ := h
  exact ⟨t, heap_set_self w b 3 _ hb⟩
theorem RB.side {w : World} {b c k room first many n : Nat} {v u : Value} (h : RB w b room first many n v) (hc : b ≠ c) : RB (w.setCell ⟨c, k, none⟩ u) b room first many n v := by
  obtain ⟨t, hb⟩ := h
  exact ⟨t, by rw [heap_set_other _ _ _ _ _ hc]; exact hb⟩
theorem RB.drewN {w : World} {b room first many n : Nat} {v : Value} (h : RB w b room first many n v) (m : Nat) : RB (w.drewN m) b room first many n v := h
theorem RAt.rb {w : World} {b c room first n : Nat} {cs : Array Value} {l : List Int} (h : RAt w b c room first n cs l) : RB w b room first l.length n (.slice (if n = 0 then none else some ⟨c, 0, none⟩) n n) := h.own

set_option maxHeartbeats 400000 in
set_option maxRecDepth 100000 in
theorem push_full (b c room first n : Nat) (cs : Array Value) (l : List Int) (x : Int) (w : World) (h : RAt w b c room first n cs l) (hf : l.length = room) :
    Calls Try.prog 11 #[.pointer (some ⟨b, 0, none⟩), .int .i64 x] w fun e w' => e = .returned (.int .i64 50) ∧ ∃ m, w' = w.drewN m := by
  have c2 := h.cells.c2
  have c0 := h.cells.c0
  rw [hf] at c2
  go_enter Try.func11, Try.ntmps11
  go_wp2
  go_quiet (fail)
  go_wp2
  go_ret
  exact ⟨rfl, _, rfl⟩
set_option maxHeartbeats 400000 in
set_option maxRecDepth 100000 in
theorem push_room (b c room first n : Nat) (cs : Array Value) (l : List Int) (x : Int) (w : World) (h : RAt w b c room first n cs l) (hf : l.length < n) :
    Calls Try.prog 11 #[.pointer (some ⟨b, 0, none⟩), .int .i64 x] w fun e w' => e = .returned (.int .i64 0) ∧ Side (fun k => k = b ∨ k = c) w w' ∧ ∃ cs', RAt w' b c room first n cs' (l ++ [x]) := by
  have hm := h.most
  have hr := h.room2
  have hn : n ≠ 0 := by omega
  have c0 := h.cells.c0
  have c1 := h.cells.c1
  have c2 := h.cells.c2
  have c3 := h.cells.c3
  rw [if_neg hn] at c3
  have f2 := h.cells.f 2
  have HF := Lib.hid (h.fst_ hn)
  have HN := Lib.hid hn
  clear hn
  obtain ⟨m, hlm⟩ : ∃ m, l.length = m := ⟨_, rfl⟩
  have HRB := h.rb
  rw [hlm] at c2 hf HRB
  have HL := Lib.hid hlm
  clear hlm
  have g1 : ((m : Int) == (room : Int)) = false := by rw [beq_eq_false_iff_ne]; omega
  have g2 : ((m : Int) == (n : Int)) = false := by rw [beq_eq_false_iff_ne]; omega
  go_enter Try.func11, Try.ntmps11
  go_wp2_with (fail)
  repeat (go_quiet (fail); try go_wp2_with (fail))
  obtain ⟨k, hk⟩ : ∃ k, spotOf first n m = k := ⟨_, rfl⟩
  have hkn : k < n := by rw [← hk]; exact spot_lt (by have := HN.out; omega)
  have hki : (k : Int) < n := by omega
  have HC1 : Hid (∀ w', RCells w' b room first (m + 1) n (.slice (some ⟨c, 0, none⟩) n n) → Calls Try.prog 30 #[.pointer (some ⟨b, 0, none⟩), .int .i64 m] w' fun e w'' => e = .returned (.int .i64 k) ∧ ∃ q, w'' = w'.drewN q) := by
    refine Lib.hid fun w' h' => ?_
    rw [← hk]
    exact cell_run b room first (m + 1) n m _ _ h' (by have := HN.out; omega) (by omega) HF.out (by omega)
  have HK := Lib.hid hk
  clear hk
  rename_i Q' q1 _ _
  have HRB1 : RB ((w.drewN (q1 + nq)).setCell ⟨b, 2, none⟩ (.int .i64 ((m : Int) + 1))) b room first (m + 1) n (.slice (some ⟨c, 0, none⟩) n n) := by
    have := RB.set2 (HRB.drewN (q1 + nq)) (m + 1)
    rw [if_neg HN.out] at this
    rw [show ((m : Int) + 1) = ((m + 1 : Nat) : Int) from by omega]
    exact this
  obtain ⟨hcb, tc, hcc⟩ := h.row HN.out
  have HRC1 : ((w.drewN (q1 + nq)).setCell ⟨b, 2, none⟩ (.int .i64 ((m : Int) + 1))).heap[c]? = some (.cells cs tc (0, 0)) := by
    rw [heap_set_other _ _ _ _ _ hcb]; exact hcc
  have HS1 : Side (fun k => k = b ∨ k = c) w ((w.drewN (q1 + nq)).setCell ⟨b, 2, none⟩ (.int .i64 ((m : Int) + 1))) := ((Side.refl _ w).drewN _).setCell (Or.inl rfl) _
  generalize ((w.drewN (q1 + nq)).setCell ⟨b, 2, none⟩ (.int .i64 ((m : Int) + 1))) = W1 at HRB1 HRC1 HS1 ⊢
  have d2 := HRB1.cells.c2
  have d3 := HRB1.cells.c3
  obtain ⟨old, hold⟩ := h.ints k hkn
  have dk : W1.cell? ⟨c, k, none⟩ = some (.int .i64 old) := by rw [cell_of_heap HRC1]; exact hold
  have fk : W1.frozen? ⟨c, k, none⟩ = false := frozen_of_heap HRC1
  have HH := Lib.hid h
  have HRB1' := Lib.hid HRB1
  have HRC1' := Lib.hid HRC1
  have HS1' := Lib.hid HS1
  have HOLD := Lib.hid hold
  have HCC := Lib.hid hcc
  clear h HRB HRB1 HRC1 HS1 hold hcc c0 c1 c2 c3 f2 g1 g2 
  rw [show ((m : Int) + 1) = ((m + 1 : Nat) : Int) from by omega]
  obtain ⟨m1, hm1⟩ : ∃ m1, m + 1 = m1 := ⟨_, rfl⟩
  have wr1 : IntKind.i64.wrap ((m1 : Int) - 1) = m := by rw [IntKind.wrap_i64]; omega
  rw [hm1] at d2 HC1 HRB1' ⊢
  have HM1 := Lib.hid hm1
  clear hm1
  have HRCD : Hid (RCells W1.drew b room first m1 n (.slice (some ⟨c, 0, none⟩) n n)) := Lib.hid (RB.cells HRB1'.out)
  have HRBK := Lib.hid HRB1'.out
  clear HRB1'
  go_region_held3 (fun w' => w'.cell? ⟨b, 3, none⟩ = some (.slice (some ⟨c, 0, none⟩) n n) ∧ w'.cell? ⟨b, 2, none⟩ = some (.int .i64 m1) ∧ w'.frozen? ⟨c, k, none⟩ = false) (go_keep)
    (first | (go_at_call 30; with_reducible refine (HC1.out _ HRCD.out).mono ?_; rintro e w2 ⟨rfl, m2, rfl⟩))
  go_wp2
  go_ret
  have e1 : l.length = m := HL.out
  have e2 : m + 1 = m1 := HM1.out
  have e3 : spotOf first n m = k := HK.out
  refine ⟨rfl, (HS1'.out.drewN _).setCell (Or.inr rfl) _, cs.setIfInBounds k (.int .i64 x), ?_⟩
  have hr1 := HRBK.out
  rw [show m1 = (l ++ [x]).length from by rw [List.length_append, e1, ← e2]; rfl, show (some ⟨c, 0, none⟩ : Option Addr) = (if n = 0 then none else some ⟨c, 0, none⟩) from (if_neg HN.out).symm] at hr1
  refine ⟨(hr1.drewN _).side (fun e => hcb e.symm), fun _ => ⟨hcb, tc, heap_set_self _ c k _ HRC1'.out⟩, by rw [Array.size_setIfInBounds]; exact HH.out.size, HH.out.room1, hr, hm, by rw [List.length_append, e1, List.length_singleton]; omega, fun _ => HF.out, fun j hj => ?_, fun i y hy => ?_⟩
  · rw [Array.getElem?_setIfInBounds]
    split
    · rw [HH.out.size, if_pos (by omega)]; exact ⟨x, rfl⟩
    · exact HH.out.ints j hj
  · have hf' : first < n := HF.out
    rcases Nat.lt_trichotomy i m with h1 | h1 | h1
    · rw [List.getElem?_append_left (by omega)] at hy
      have hne : k ≠ spotOf first n i := by
        rw [← e3, spot_eq hf' (by omega), spot_eq hf' (by omega)]
        split <;> split <;> omega
      rw [Array.getElem?_setIfInBounds_ne hne]
      exact HH.out.at_ i y hy
    · rw [h1, e3, Array.getElem?_setIfInBounds_self_of_lt (by rw [HH.out.size]; exact hkn)]
      rw [h1, ← e1] at hy
      simp at hy
      rw [hy]
    · rw [List.getElem?_eq_none (by rw [List.length_append, List.length_singleton]; omega)] at hy
      cases hy
end Go.Proofs.Ytbopnglncjdnmaa
