/- What width.Of answers of any number, over the two listed tables. -/
import Derived.Test.YtocijojjfcpaoaaDoorProg
import Derived.Test.YtocijojjfcpaoaaDoorPlain
import Derived.WalkKit
import Derived.WalkSpells
import Derived.KernelRfl
import Derived.Deep.LoopGhost
import Derived.Deep.QuietTactic
import Derived.BigQuiet
import Derived.Lib.Hide
set_option linter.unusedSimpArgs false
set_option linter.unusedVariables false
namespace Go.Proofs.YtocijojjfcpaoaaDoor
open Go.RowKit

theorem ret_int {k : IntKind} {a b : Int} (h : a = b) : Ending.returned (.int k a) = .returned (.int k b) := by rw [h]
/-- The cells of a table of ranges. -/
def rangeCells (l : List (Int × Int)) : List Value := l.flatMap fun r => [.int .i64 r.1, .int .i64 r.2]

theorem rangeCells_length (l : List (Int × Int)) : (rangeCells l).length = 2 * l.length := by
  induction l with
  | nil => rfl
  | cons r l ih => simp only [rangeCells, List.flatMap_cons, List.length_append, List.length_cons, List.length_nil] at *; omega

theorem rangeCells_at (l : List (Int × Int)) (k : Nat) (h : k < l.length) : (rangeCells l).toArray.extract (k * 2) (k * 2 + 2) = #[.int .i64 l[k].1, .int .i64 l[k].2] := by
  have : ((rangeCells l).drop (k * 2)).take 2 = [.int .i64 l[k].1, .int .i64 l[k].2] := by
    induction l generalizing k with
    | nil => simp at h
    | cons r l ih =>
      cases k with
      | zero => simp [rangeCells]
      | succ k =>
        have := ih k (by simpa using h)
        have e : (k + 1) * 2 = (k * 2) + 2 := by omega
        rw [e]
        simpa [rangeCells] using this
  rw [List.extract_toArray, List.extract_eq_take_drop]
  simp only [Nat.add_sub_cancel_left, this]

theorem run_index_ranges (t : TypeId) (n : Nat) (ht : Tryd.prog.underlying t = some (.array n 54)) (l : List (Int × Int)) (k : Nat) (hn : l.length = n) (hk : k < n) (w : World) :
    (Instr.index t (.agg (rangeCells l).toArray) (.int .i64 k)).run Tryd.prog w = .ok (.agg #[.int .i64 (l[k]'(by omega)).1, .int .i64 (l[k]'(by omega)).2]) w := by
  have hagg : (isAgg 54).run Tryd.prog w = .ok true w := by kernel_rfl
  have hsz : (sizeOf 54).run Tryd.prog w = .ok 2 w := by kernel_rfl
  unfold Instr.index
  simp only [asIntOf, Sem.run_bind, Sem.run_pure, Result.andThen_ok, run_underlying ht]
  rw [if_pos ⟨by omega, by omega⟩]
  unfold part
  simp only [Sem.run_bind, hsz, hagg, Result.andThen_ok, if_true, Sem.run_pure]
  simp only [Int.toNat_natCast]
  rw [rangeCells_at l k (by omega)]

/-- The two tables lie where the program's text lays them. -/
structure WTabs (w : World) : Prop where
  d : ∃ t fr, w.heap[0]? = some (.cells (rangeCells Pl.double).toArray t fr)
  n : ∃ t fr, w.heap[1]? = some (.cells (rangeCells Pl.none).toArray t fr)

theorem WTabs.below {B : Nat} {w w' : World} (h : WTabs w) (hb : Below B w w') (hB : 2 ≤ B) : WTabs w' :=
  ⟨by obtain ⟨t, fr, e⟩ := h.d; exact ⟨t, fr, (hb.block _ (by omega)).trans e⟩, by obtain ⟨t, fr, e⟩ := h.n; exact ⟨t, fr, (hb.block _ (by omega)).trans e⟩⟩

/-- The two tables of class lie where the program's text lays them. -/
structure CTabs (w : World) : Prop where
  l : ∃ t fr, w.heap[2]? = some (.cells (rangeCells Pl.letters).toArray t fr)
  o : ∃ t fr, w.heap[3]? = some (.cells (rangeCells Pl.others).toArray t fr)

theorem CTabs.below {B : Nat} {w w' : World} (h : CTabs w) (hb : Below B w w') (hB : 4 ≤ B) : CTabs w' :=
  ⟨by obtain ⟨t, fr, e⟩ := h.l; exact ⟨t, fr, (hb.block _ (by omega)).trans e⟩, by obtain ⟨t, fr, e⟩ := h.o; exact ⟨t, fr, (hb.block _ (by omega)).trans e⟩⟩

set_option maxRecDepth 100000 in
set_option maxHeartbeats 1000000 in
theorem of_any (p : Int) (w : World) (ht : WTabs w) :
    Calls Tryd.prog 18 #[.int .i64 p] w fun e w' => e = .returned (.int .i64 (Pl.widthOf p)) ∧ Below w.heap.size w w' := by
  obtain ⟨⟨t1, fr1, h1⟩, ⟨t2, fr2, h2⟩⟩ := ht
  have HB := Lib.hid (Below.refl w.heap.size w)
  go_enter Tryd.func18, Tryd.ntmps18
  go_wp2_with (refine wpList_load_row rfl 55 _ rfl 0 rfl t1 _ fr1 _ h1 Tryd.underlying55 rfl (by kernel_rfl) ?_)
  have HT2 := Lib.hid h2
  have HLT : Hid (1 < w.heap.size) := (Array.getElem?_eq_some_iff.1 h2).1
  clear h1 h2
  go_loopw [8] (fun i wr => ∃ k : Nat, k ≤ 11 ∧ i = .int .i64 k ∧ Hid (Pl.inRanges (Pl.double.drop k) p = Pl.inRanges Pl.double p) ∧ Hid (Below w.heap.size w wr)) (fun i _ => 11 - (intOf i).toNat)
  case atStart => exact ⟨0, by omega, rfl, rfl, HB⟩
  case round =>
    obtain ⟨k, hk, rfl, HR, HB⟩ := hrel
    by_cases hlt : k < 11
    · have hix := fun wx => run_index_ranges 55 11 Tryd.underlying55 Pl.double k rfl hlt wx
      go_wp2
      · go_ret
        rename_i h1 h2
        exact ⟨ret_int (Pl.widthOf_two (HR.out.symm.trans (Pl.inRanges_hit _ _ _ hlt h1 h2))).symm, by refine Below.alloc HB.out ?_ _; exact HB.out.size⟩
      · rename_i h1 h2
        have hm := Lib.hid ((Pl.inRanges_miss Pl.double p k hlt (fun h => by omega)).symm.trans HR.out)
        clear HR
        go_roundw
        case rel => exact ⟨k + 1, by omega, by go_num, hm, Below.alloc HB.out HB.out.size _⟩
        case measure => simp [intOf]; omega
      · rename_i h1
        have hm := Lib.hid ((Pl.inRanges_miss Pl.double p k hlt (fun h => h1 h.1)).symm.trans HR.out)
        clear HR
        go_roundw
        case rel => exact ⟨k + 1, by omega, by go_num, hm, Below.alloc HB.out HB.out.size _⟩
        case measure => simp [intOf]; omega
    · obtain rfl : k = 11 := by omega
      have hno : Hid (¬ Pl.inRanges Pl.double p = true) := by
        have := HR.out
        intro h
        rw [h] at this
        cases this
      have h2 := (HB.out.block 1 HLT.out).trans HT2.out
      clear HR
      go_wp2_with (refine wpList_load_row rfl 56 _ rfl 1 rfl t2 _ fr2 _ h2 Tryd.underlying56 rfl (by kernel_rfl) ?_)
      clear h2
      go_loopw [23] (fun i wr => ∃ k : Nat, k ≤ 5 ∧ i = .int .i64 k ∧ Hid (Pl.inRanges (Pl.none.drop k) p = Pl.inRanges Pl.none p) ∧ Hid (Below w.heap.size w wr)) (fun i _ => 5 - (intOf i).toNat)
      case atStart => exact ⟨0, by omega, rfl, rfl, HB⟩
      case round =>
        obtain ⟨k, hk, rfl, HR, HB⟩ := hrel
        by_cases hlt : k < 5
        · have hix := fun wx => run_index_ranges 56 5 Tryd.underlying56 Pl.none k rfl hlt wx
          go_wp2
          · go_ret
            rename_i h1 h2
            exact ⟨ret_int (Pl.widthOf_zero hno.out (HR.out.symm.trans (Pl.inRanges_hit _ _ _ hlt h1 h2))).symm, by refine Below.alloc HB.out ?_ _; exact HB.out.size⟩
          · rename_i h1 h2
            have hm := Lib.hid ((Pl.inRanges_miss Pl.none p k hlt (fun h => by omega)).symm.trans HR.out)
            clear HR
            go_roundw
            case rel => exact ⟨k + 1, by omega, by go_num, hm, Below.alloc HB.out HB.out.size _⟩
            case measure => simp [intOf]; omega
          · rename_i h1
            have hm := Lib.hid ((Pl.inRanges_miss Pl.none p k hlt (fun h => h1 h.1)).symm.trans HR.out)
            clear HR
            go_roundw
            case rel => exact ⟨k + 1, by omega, by go_num, hm, Below.alloc HB.out HB.out.size _⟩
            case measure => simp [intOf]; omega
        · obtain rfl : k = 5 := by omega
          have hno2 : Hid (¬ Pl.inRanges Pl.none p = true) := by
            have := HR.out
            intro h
            rw [h] at this
            cases this
          clear HR
          go_wp2
          go_ret
          exact ⟨ret_int (Pl.widthOf_one hno.out hno2.out).symm, HB.out⟩
end Go.Proofs.YtocijojjfcpaoaaDoor
