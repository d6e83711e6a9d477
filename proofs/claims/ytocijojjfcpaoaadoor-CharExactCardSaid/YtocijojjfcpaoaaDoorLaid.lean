/- From what a row lists to what the walks ask of the world: the tables of width and class, and those of utf8; a world that holds them all, for the witness. -/
import Derived.Test.YtocijojjfcpaoaaDoorCards
import Derived.Test.YtocijojjfcpaoaaDoorTie
import Derived.Test.YtocijojjfcpaoaaDoorOf
import Derived.Test.YtocijojjfcpaoaaDoorShelf
import Derived.ProofKit
import Derived.OpenShut
import Derived.Deep.DeepHandedRow
import Derived.Lib.LaidU8
set_option linter.unusedVariables false
namespace Go.Proofs.YtocijojjfcpaoaaDoor
open Go.RowKit

/-- A table of ranges, as a row lists it. -/
def rangeData {H : Type} (l : List (Int × Int)) : DataW H := .agg (l.map fun r => .agg ([r.1, r.2].map fun z => .lit (.int .i64 z)))

theorem var_block {P : Program} {W : World} {n : String} {g : Nat} {cs : Array Value} (hg : P.globalNamed n = some g) (h : W.var? P n = some cs) : ∃ t fr, W.heap[g]? = some (.cells cs t fr) := by
  unfold World.var? at h
  rw [hg] at h
  simp only [Option.bind_some] at h
  split at h
  · rename_i c t fr hb
    cases h
    exact ⟨t, fr, hb⟩
  · cases h

theorem ranges_cells {W : World} {base : Nat} {sp : Nat → Bool} {held : Bool} {fuel : Nat} {t e n : Nat} {fs : Array Field} {cs : List Value} {l : List (Int × Int)} {p : List MemPlace}
    (ht : Tryd.prog.underlying t = some (.array n e)) (he : Tryd.prog.underlying e = some (.struct fs)) (hn : fs.size = 2)
    (hf : ∀ (i : Nat) (f : Field), fs[i]? = some f → Tryd.prog.underlying f.type = some (.int .i64) ∧ f.offset = i ∧ Tryd.prog.cellsOf f.type = 1) (hce : Tryd.prog.cellsOf e = 2) (hct : Tryd.prog.cellsOf t = 2 * n)
    (h : DataW.trod (H := Unit) (fun _ => ()) Tryd.prog W base sp held fuel t cs = some (rangeData l, p)) : cs = rangeCells l := by
  obtain ⟨xs, m, _, hx, hl, hxl, _⟩ := DataW.trod_array ht h
  have hln : l.length = n := by
    have h1 := congrArg Prod.fst hx
    simp only [rangeData, DataW.agg.injEq] at h1
    have h2 := congrArg List.length h1
    simp only [List.length_map] at h2
    omega
  have key : ∀ i (hi : i < n), (cs.drop (i * 2)).take 2 = [Value.int .i64 (l[i]'(by omega)).1, Value.int .i64 (l[i]'(by omega)).2] := by
    intro i hi
    obtain ⟨f', d, q, hd, hq⟩ := Lib.array_elem ht h i hi
    rw [hce] at hq
    rw [List.getElem?_map, List.getElem?_eq_getElem (by omega)] at hd
    have hd' := (Option.some.inj hd).symm
    subst hd'
    have := Lib.ints_of_struct (zs := [(l[i]'(by omega)).1, (l[i]'(by omega)).2]) he hf (by rw [hce, hn]) hq
    simpa using this
  have hrl := rangeCells_length l
  apply List.ext_getElem?
  intro j
  by_cases hj : j < 2 * n
  · have hi : j / 2 < n := by omega
    have k1 := key (j / 2) hi
    have k2 := rangeCells_at l (j / 2) (by omega)
    have k2' : ((rangeCells l).drop (j / 2 * 2)).take 2 = [Value.int .i64 (l[j / 2]'(by omega)).1, Value.int .i64 (l[j / 2]'(by omega)).2] := by
      rw [List.extract_toArray, List.extract_eq_take_drop] at k2
      have := congrArg Array.toList k2
      simpa using this
    have e := k1.trans k2'.symm
    have e2 := congrArg (fun z => z[j % 2]?) e
    simp only [List.getElem?_take, List.getElem?_drop] at e2
    rw [if_pos (by omega), if_pos (by omega), show j / 2 * 2 + j % 2 = j from by omega] at e2
    exact e2
  · rw [List.getElem?_eq_none (by omega), List.getElem?_eq_none (by omega)]

theorem ranges_block {W : World} {name : String} {l : List (Int × Int)} {g t e n : Nat} {fs : Array Field}
    (h : Lib.VarReads Tryd.prog W name (rangeData l)) (hg : Tryd.prog.globalNamed name = some g) (hty : (Tryd.prog.globals[g]?).map (·.type) = some t)
    (ht : Tryd.prog.underlying t = some (.array n e)) (he : Tryd.prog.underlying e = some (.struct fs)) (hn : fs.size = 2)
    (hf : ∀ (i : Nat) (f : Field), fs[i]? = some f → Tryd.prog.underlying f.type = some (.int .i64) ∧ f.offset = i ∧ Tryd.prog.cellsOf f.type = 1) (hce : Tryd.prog.cellsOf e = 2) (hct : Tryd.prog.cellsOf t = 2 * n) :
    ∃ t fr, W.heap[g]? = some (.cells (rangeCells l).toArray t fr) := by
  obtain ⟨g', t', cs, fuel, p, hg', hty', hvar, htr⟩ := h
  obtain rfl := Option.some.inj (hg.symm.trans hg')
  obtain rfl := Option.some.inj (hty.symm.trans hty')
  have hc := ranges_cells ht he hn hf hce hct htr
  obtain ⟨t, fr, hb⟩ := var_block hg hvar
  refine ⟨t, fr, ?_⟩
  rw [hb, ← hc]

theorem two_fields {fs : Array Field} {f0 f1 : Field} (h : fs = #[f0, f1]) (h0 : Tryd.prog.underlying f0.type = some (.int .i64) ∧ f0.offset = 0 ∧ Tryd.prog.cellsOf f0.type = 1) (h1 : Tryd.prog.underlying f1.type = some (.int .i64) ∧ f1.offset = 1 ∧ Tryd.prog.cellsOf f1.type = 1) :
    ∀ (i : Nat) (f : Field), fs[i]? = some f → Tryd.prog.underlying f.type = some (.int .i64) ∧ f.offset = i ∧ Tryd.prog.cellsOf f.type = 1 := by
  subst h
  intro i f hf
  match i, hf with
  | 0, hf => simp at hf; subst hf; exact h0
  | 1, hf => simp at hf; subst hf; exact h1
  | i + 2, hf => simp at hf

theorem double_block {W : World} (h : Lib.VarReads Tryd.prog W "colophon/width.double" Rows.laid_colophon_width_double) : ∃ t fr, W.heap[0]? = some (.cells (rangeCells Pl.double).toArray t fr) :=
  ranges_block (l := Pl.double) h (by kernel_rfl) (by kernel_rfl) Tryd.underlying55 Tryd.underlying54 rfl (two_fields rfl ⟨Tryd.underlying3, rfl, by kernel_rfl⟩ ⟨Tryd.underlying3, rfl, by kernel_rfl⟩) (by kernel_rfl) (by kernel_rfl)
theorem none_block {W : World} (h : Lib.VarReads Tryd.prog W "colophon/width.none" Rows.laid_colophon_width_none) : ∃ t fr, W.heap[1]? = some (.cells (rangeCells Pl.none).toArray t fr) :=
  ranges_block (l := Pl.none) h (by kernel_rfl) (by kernel_rfl) Tryd.underlying56 Tryd.underlying54 rfl (two_fields rfl ⟨Tryd.underlying3, rfl, by kernel_rfl⟩ ⟨Tryd.underlying3, rfl, by kernel_rfl⟩) (by kernel_rfl) (by kernel_rfl)
theorem wtabs {W : World} (hd : Lib.VarReads Tryd.prog W "colophon/width.double" Rows.laid_colophon_width_double) (hn : Lib.VarReads Tryd.prog W "colophon/width.none" Rows.laid_colophon_width_none) : WTabs W := ⟨double_block hd, none_block hn⟩
theorem WTabs.size {w : World} (h : WTabs w) : 2 ≤ w.heap.size := by
  obtain ⟨t, fr, e⟩ := h.n
  have := (Array.getElem?_eq_some_iff.1 e).1
  exact this

/-- The tables of class lie where the program's text lays them. -/
theorem letters_block {W : World} (h : Lib.VarReads Tryd.prog W "colophon/class.letters" Rows.laid_colophon_class_letters) : ∃ t fr, W.heap[2]? = some (.cells (rangeCells Pl.letters).toArray t fr) :=
  ranges_block (l := Pl.letters) h (by kernel_rfl) (by kernel_rfl) Tryd.underlying62 Tryd.underlying61 rfl (two_fields rfl ⟨Tryd.underlying3, rfl, by kernel_rfl⟩ ⟨Tryd.underlying3, rfl, by kernel_rfl⟩) (by kernel_rfl) (by kernel_rfl)
theorem others_block {W : World} (h : Lib.VarReads Tryd.prog W "colophon/class.others" Rows.laid_colophon_class_others) : ∃ t fr, W.heap[3]? = some (.cells (rangeCells Pl.others).toArray t fr) :=
  ranges_block (l := Pl.others) h (by kernel_rfl) (by kernel_rfl) Tryd.underlying63 Tryd.underlying61 rfl (two_fields rfl ⟨Tryd.underlying3, rfl, by kernel_rfl⟩ ⟨Tryd.underlying3, rfl, by kernel_rfl⟩) (by kernel_rfl) (by kernel_rfl)
theorem ctabs {W : World} (hl : Lib.VarReads Tryd.prog W "colophon/class.letters" Rows.laid_colophon_class_letters) (ho : Lib.VarReads Tryd.prog W "colophon/class.others" Rows.laid_colophon_class_others) : CTabs W := ⟨letters_block hl, others_block ho⟩

/-- The tables of unicode/utf8. -/
theorem u8Extra : U8Extra Tryd.prog Tryd.lays260_ren := { n3 := by kernel_rfl, n4 := by kernel_rfl, y3 := by kernel_rfl, y4 := by kernel_rfl, c5 := by kernel_rfl, c119 := by kernel_rfl, c138 := by kernel_rfl }
theorem first_same : Rows.laid_unicode_utf8_first = Lib.firstData := by kernel_rfl
theorem accept_same : (Rows.laid_unicode_utf8_acceptRanges : DataW Unit) = Lib.acceptData := by kernel_rfl
theorem utabs {W : World} (h3 : Lib.VarReads Tryd.prog W "unicode/utf8.first" Rows.laid_unicode_utf8_first) (h4 : Lib.VarReads Tryd.prog W "unicode/utf8.acceptRanges" Rows.laid_unicode_utf8_acceptRanges) : Lib.Utf8Tabs 4 5 W :=
  utf8Tabs_of_reads Tryd.lays260 u8Extra (by rw [← first_same]; exact h3) (by rw [← accept_same]; exact h4)

end Go.Proofs.YtocijojjfcpaoaaDoor
