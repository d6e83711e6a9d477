/- A ring of things grows. -/
import Derived.Test.YtbopnglncjdnmaaTPush
import Derived.Laws.MakeOwn
set_option linter.unusedSimpArgs false
set_option linter.unusedVariables false
namespace Go.Proofs.Ytbopnglncjdnmaa
open Go.RowKit

theorem info_thing : ∃ (i : TypeInfo) (z : Value), Try.prog.info? 36 = some i ∧ i.zero = some z ∧ i.size = 3 ∧ i.bytes = 32 := by
  have h : (Try.prog.info? 36).map (fun i => (i.zero, i.size, i.bytes)) = some (some (.agg #[.string ⟨#[]⟩, .int .i64 0, .int .i64 0]), 3, 32) := by kernel_rfl
  obtain ⟨i, hi, he⟩ := Option.map_eq_some_iff.1 h
  simp only [Prod.mk.injEq] at he
  exact ⟨i, _, hi, he.1, he.2.1, he.2.2⟩
theorem make_things (N : Nat) (hN : N ≤ 2097152) : ∃ zs : Array Value, zs.size = N * 3 ∧ ∀ w, 
    (Instr.makeSlice 57 (.int .i64 N) (.int .i64 N)).run Try.prog w = .ok (.slice (some ⟨w.heap.size, 0, none⟩) N N) (w.alloc (.cells zs 36)) := by
  obtain ⟨i, z, hi, hz, hs, hb⟩ := info_thing
  refine ⟨madeCells z.cells (N * 3), size_madeCells _ _, fun w => ?_⟩
  have h := run_make (P := Try.prog) w 57 36 i z Try.underlying57 hi hz .i64 .i64 N N (by omega) (Int.le_refl _) (by rw [hb]; omega) (by omega)
  rw [hs, Int.toNat_natCast] at h
  exact h

structure GTAt (w : World) (b c g room first n N i : Nat) (A : Option Addr) (cs : Array Value) (l : List Int) (wr : World) : Prop where
  rb : RB wr b room first n n (.slice A n n)
  old : n ≠ 0 → ∃ t, wr.heap[c]? = some (.cells cs t (0, 0))
  new : ∃ cs2, wr.heap[g]? = some (.cells cs2 36 (0, 0)) ∧ cs2.size = N * 3 ∧ ∀ j x, j < i → l[j]? = some x → ThAt cs2 j x
  side : Side (fun k => k = b) w wr
theorem GTAt.drewN {w : World} {b c g room first n N i : Nat} {A : Option Addr} {cs : Array Value} {l : List Int} {wr : World} (h : GTAt w b c g room first n N i A cs l wr) (m : Nat) : GTAt w b c g room first n N i A cs l (wr.drewN m) :=
  ⟨h.rb.drewN m, h.old, h.new, h.side.drewN m⟩
theorem GTAt.step {w : World} {b c g room first n N i : Nat} {A : Option Addr} {cs : Array Value} {l : List Int} {wr : World} (h : GTAt w b c g room first n N i A cs l wr) (hgb : g ≠ b) (hgc : g ≠ c) (hg : w.heap.size ≤ g) (x : Int) (hx : l[i]? = some x) (hi : i < N) :
    GTAt w b c g room first n N (i + 1) A cs l (((wr.setCell ⟨g, i * 3, none⟩ (.string ⟨#[UInt8.ofNat (x % 256).toNat]⟩)).setCell ⟨g, i * 3 + 1, none⟩ (.int .i64 x)).setCell ⟨g, i * 3 + 2, none⟩ (.int .i64 (wrap64 (-x)))) := by
  obtain ⟨cs2, h1, h2, h4⟩ := h.new
  refine ⟨((h.rb.side hgb.symm).side hgb.symm).side hgb.symm, fun hn => ?_, ⟨thPut cs2 i x, thPut_heap h1 i x 0, by rw [thPut_size]; exact h2, fun j y hj hy => ?_⟩, ((h.side.setNew hg _).setNew hg _).setNew hg _⟩
  · obtain ⟨t, ht⟩ := h.old hn
    exact ⟨t, by rw [heap_set_other _ _ _ _ _ hgc.symm, heap_set_other _ _ _ _ _ hgc.symm, heap_set_other _ _ _ _ _ hgc.symm]; exact ht⟩
  · rcases Nat.lt_or_ge j i with hj2 | hj2
    · exact thPut_other (by omega) (h4 j y hj2 hy)
    · obtain rfl : j = i := by omega
      rw [hx] at hy
      cases hy
      exact thPut_self (by omega)

set_option maxHeartbeats 1000000 in
set_option maxRecDepth 100000 in
theorem tgrow_run (b c room first n : Nat) (cs : Array Value) (l : List Int) (w : World) (h : TAt w b c room first n cs l) (hl : l.length = n) (hn : n < room) :
    Calls Try.prog 34 #[.pointer (some ⟨b, 0, none⟩)] w fun e w' => e = .returned (.tuple #[]) ∧ Side (fun k => k = b) w w' ∧ ∃ c' n' cs', w.heap.size ≤ c' ∧ n < n' ∧ TAt w' b c' room 0 n' cs' l := by
  have c0 := h.cells.c0
  have c1 := h.cells.c1
  have c2 := h.cells.c2
  have c3 := h.cells.c3
  rw [hl] at c2
  generalize hA : (if n = 0 then none else some (⟨c, 0, none⟩ : Addr)) = A at c3
  have HA := Lib.hid hA
  have hr := h.room2
  have wr : IntKind.i64.wrap (2 * (n : Int)) = ((2 * n : Nat) : Int) := by rw [IntKind.wrap_i64]; omega
  obtain ⟨n2, hn2⟩ : ∃ n2, 2 * n = n2 := ⟨_, rfl⟩
  rw [hn2] at wr
  obtain ⟨M, hM, hM1⟩ : ∃ M : Nat, (if (4 : Int) < n2 then (n2 : Int) else 4) = M ∧ n < M := by
    split
    · exact ⟨n2, rfl, by omega⟩
    · exact ⟨4, rfl, by omega⟩
  obtain ⟨N, hN, hN1, hN2⟩ : ∃ N : Nat, (if (M : Int) < room then (M : Int) else room) = N ∧ n < N ∧ N ≤ room := by
    split
    · exact ⟨M, rfl, hM1, by omega⟩
    · exact ⟨room, rfl, hn, Nat.le_refl _⟩
  have hN' : (if M < room then (M : Int) else (room : Int)) = N := by rw [← hN]; simp only [Int.ofNat_lt]
  have hM' : (if 4 < n2 then (n2 : Int) else 4) = M := by
    rw [← hM]
    by_cases h4 : 4 < n2
    · rw [if_pos h4, if_pos (by omega)]
    · rw [if_neg h4, if_neg (by omega)]
  obtain ⟨zs, hzs, HMK⟩ := make_things N (by omega)
  have HZS := Lib.hid hzs
  clear hzs
  go_enter Try.func34, Try.ntmps34
  go_wp2_with (fail)
  go_region_held3 (fun w' => w'.cell? ⟨b, 3, none⟩ = some (.slice A n n) ∧ w'.cell? ⟨b, 0, none⟩ = some (.int .i64 room)) (go_keep) (fail)
  have HG0 : GTAt w b c w.heap.size room first n N 0 A cs l (w.alloc (.cells zs 36)).drew := by
    have hrb := h.rb
    rw [hA, hl] at hrb
    have hbs := hrb
    obtain ⟨t, ht⟩ := hbs
    have hbl : b < w.heap.size := (Array.getElem?_eq_some_iff.1 ht).1
    refine ⟨⟨t, by show (w.heap.push _)[b]? = _; rw [Array.getElem?_push, if_neg (by omega)]; exact ht⟩, fun h0 => ?_, ⟨zs, ?_, HZS.out, fun j x hj => by omega⟩, ((Side.refl _ w).alloc _).drew⟩
    · obtain ⟨_, t2, h2⟩ := h.row h0
      have hcl : c < w.heap.size := (Array.getElem?_eq_some_iff.1 h2).1
      exact ⟨t2, by show (w.heap.push _)[c]? = _; rw [Array.getElem?_push, if_neg (by omega)]; exact h2⟩
    · show (w.heap.push _)[w.heap.size]? = _
      rw [Array.getElem?_push, if_pos rfl]
  generalize (w.alloc (.cells zs 36)).drew = w1 at HG0 ⊢
  obtain ⟨g, hg⟩ : ∃ g, w.heap.size = g := ⟨_, rfl⟩
  rw [hg] at HG0 ⊢
  have HG' := Lib.hid hg
  have d2 := HG0.rb.cells.c2
  have HG1 := Lib.hid HG0
  have HH := Lib.hid h
  have HLL := Lib.hid hl
  clear HG0 h hl hg
  clear hM hN hN' hM' HMK wr hn2 c0 c1 c2 c3
  go_wp2_with (fail)
  go_loopw [21] (fun v wr => ∃ i : Nat, i ≤ n ∧ v = .int .i64 i ∧ Hid (GTAt w b c g room first n N i A cs l wr)) (fun v _ => n - (intOf v).toNat)
  case atStart => exact ⟨0, by omega, rfl, HG1⟩
  case round =>
    obtain ⟨i, hi, rfl, HGr⟩ := hrel
    by_cases hlt : i < n
    · have hn0 : n ≠ 0 := by omega
      obtain rfl : some ⟨c, 0, none⟩ = A := by rw [← HA.out, if_neg hn0]
      have hf := HH.out.fst_ hn0
      obtain ⟨k, hk⟩ : ∃ k, spotOf first n i = k := ⟨_, rfl⟩
      have hkn : k < n := by rw [← hk]; exact spot_lt (by omega)
      have hki : (k : Int) < n := by omega
      have hii : (i : Int) < N := by omega
      have hin : (i : Int) < n := by omega
      obtain ⟨hcb, t0, hc0⟩ := HH.out.row hn0
      have hcl : c < w.heap.size := (Array.getElem?_eq_some_iff.1 hc0).1
      obtain ⟨tb, hb0⟩ := HH.out.own
      have hbl : b < w.heap.size := (Array.getElem?_eq_some_iff.1 hb0).1
      obtain ⟨x, hx⟩ : ∃ x, l[i]? = some x := ⟨l[i]'(by have := HLL.out; omega), List.getElem?_eq_getElem _⟩
      have hcx : ThAt cs k x := by rw [← hk]; exact HH.out.at_ i x hx
      obtain ⟨tr, hro⟩ := HGr.out.old hn0
      obtain ⟨cs2, hg1, hg2, hg4⟩ := HGr.out.new
      obtain ⟨o0, ho0⟩ : ∃ o, cs2[i * 3]? = some o := ⟨_, Array.getElem?_eq_getElem (by omega)⟩
      obtain ⟨o1, ho1⟩ : ∃ o, cs2[i * 3 + 1]? = some o := ⟨_, Array.getElem?_eq_getElem (by omega)⟩
      obtain ⟨o2, ho2⟩ : ∃ o, cs2[i * 3 + 2]? = some o := ⟨_, Array.getElem?_eq_getElem (by omega)⟩
      have hgw : w.heap.size = g := HG'.out
      obtain ⟨dk0, dk1, dk2⟩ := th_cells hro hcx
      have di0 : wr.cell? ⟨g, i * 3, none⟩ = some o0 := by rw [cell_of_heap hg1]; exact ho0
      have di1 : wr.cell? ⟨g, i * 3 + 1, none⟩ = some o1 := by rw [cell_of_heap hg1]; exact ho1
      have di2 : wr.cell? ⟨g, i * 3 + 2, none⟩ = some o2 := by rw [cell_of_heap hg1]; exact ho2
      have fi0 : wr.frozen? ⟨g, i * 3, none⟩ = false := frozen_of_heap hg1
      have fi1 : wr.frozen? ⟨g, i * 3 + 1, none⟩ = false := frozen_of_heap hg1
      have fi2 : wr.frozen? ⟨g, i * 3 + 2, none⟩ = false := frozen_of_heap hg1
      have d3 := HGr.out.rb.cells.c3
      have hgb : g ≠ b := by omega
      have hgc : g ≠ c := by omega
      have HC1 : Hid (∀ w', RCells w' b room first n n (.slice (some ⟨c, 0, none⟩) n n) → Calls Try.prog 33 #[.pointer (some ⟨b, 0, none⟩), .int .i64 i] w' fun e w'' => e = .returned (.int .i64 k) ∧ ∃ q, w'' = w'.drewN q) := by
        refine Lib.hid fun w' h' => ?_
        rw [← hk]
        exact tcell_run b room first n n i _ _ h' (by omega) (by omega) hf (by omega)
      have HRCD : Hid (RCells wr.drew b room first n n (.slice (some ⟨c, 0, none⟩) n n)) := Lib.hid (RB.cells (HGr.out.rb.drewN 1))
      have HX := Lib.hid hx
      clear hk hc0 hb0 hx hcx hro hg1 hg2 hg4 ho0 ho1 ho2 hgw
      go_wp2_with (fail)
      go_region_held3 (fun w' => w'.cell? ⟨b, 3, none⟩ = some (.slice (some ⟨c, 0, none⟩) n n) ∧ w'.cell? ⟨c, k * 3, none⟩ = some (.string ⟨#[UInt8.ofNat (x % 256).toNat]⟩) ∧ w'.cell? ⟨c, k * 3 + 1, none⟩ = some (.int .i64 x) ∧ w'.cell? ⟨c, k * 3 + 2, none⟩ = some (.int .i64 (wrap64 (-x)))) (go_keep)
        (first | (go_at_call 33; with_reducible refine (HC1.out _ HRCD.out).mono ?_; rintro e w2 ⟨rfl, m2, rfl⟩))
      go_wp2_with (fail)
      go_roundw
      case rel => exact ⟨i + 1, by omega, by simp, Lib.hid ((HGr.out.drewN _).step hgb hgc (by have := HG'.out; omega) x HX.out (by omega))⟩
      case measure => simp [intOf]; omega
    · obtain rfl : i = n := by omega
      have d3 := HGr.out.rb.cells.c3
      have f1 := HGr.out.rb.cells.f 1
      have f3 := HGr.out.rb.cells.f 3
      have d1 := HGr.out.rb.cells.c1
      go_wp2_with (fail)
      go_end0
      obtain ⟨cs2, hg1, hg2, hg4⟩ := HGr.out.new
      have hgw : w.heap.size = g := HG'.out
      have hll : l.length = i := HLL.out
      obtain ⟨tb, hb0⟩ := HH.out.own
      have hbl : b < w.heap.size := (Array.getElem?_eq_some_iff.1 hb0).1
      have hgb : g ≠ b := by omega
      have hN0 : N ≠ 0 := by omega
      refine ⟨rfl, (HGr.out.side.setCell rfl _).setCell rfl _, g, N, cs2, by omega, hN1, ?_⟩
      have hr1 := ((HGr.out.rb.set1 0).set3 (.slice (some ⟨g, 0, none⟩) N N) N)
      rw [← hll] at hr1
      refine ⟨by rw [if_neg hN0]; exact hr1, fun _ => ⟨hgb, 36, ?_⟩, hg2, HH.out.room1, hr, hN2, by omega, fun _ => by omega, fun j x hj => ?_⟩
      · rw [heap_set_other _ _ _ _ _ hgb, heap_set_other _ _ _ _ _ hgb]; exact hg1
      · have hjl : j < l.length := (List.getElem?_eq_some_iff.1 hj).1
        rw [spot_eq (by omega) (by omega), if_pos (by omega), Nat.zero_add]
        exact hg4 j x (by omega) hj
end Go.Proofs.Ytbopnglncjdnmaa
