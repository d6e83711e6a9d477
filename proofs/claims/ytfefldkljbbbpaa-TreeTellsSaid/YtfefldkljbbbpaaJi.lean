/- TreeTells: whatever the node and the number, the law returns true; nothing that was there changes. No condition. -/
import Derived.Test.YtfefldkljbbbpaaJc
import Derived.Test.YtfefldkljbbbpaaJh
import Derived.Deep.Slices
import Derived.ChangeArms
import Derived.OpenShut
import Derived.Test.YtfefldkljbbbpaaRows
import Derived.WalkKit
import Derived.ProofKit
import Derived.ShutString
import Derived.ChangeOld
import Derived.Below
import Derived.SizedLaws
import Derived.Deep.DeepHandedRow
set_option linter.unusedSimpArgs false
set_option linter.unusedVariables false
namespace Go.Proofs.Ytfefldkljbbbpaa
open Go.RowKit Go.ChangeShapes Go.Deep Go.Proofs.YtfefldkljbbbpaaW.PrintWords Go.Proofs.YtfefldkljbbbpaaW.PrintLast Go.Proofs.YtfefldkljbbbpaaW.PrintMore
section
variable {H : Type} {enc : TypeId × Value → H} {W : World} {base : Nat} {spare : Nat → Bool} {held : Bool}
theorem place_open {fuel : Nat} {cs : List Value} {x : DataW H × List MemPlace} (h : DataW.trod enc Try.prog W base spare held fuel 28 cs = some x) : ∃ p : Pl, cs = [.int .i64 p.f0, .int .i64 p.f1, .int .i64 p.f2] := by
  obtain ⟨xs, n, _, _, hl, hx, hf⟩ := DataW.trod_struct Try.underlying28 h
  have hc : Try.prog.cellsOf 28 = 3 := by kernel_rfl
  have hci : Try.prog.cellsOf 3 = 1 := by kernel_rfl
  rw [hc] at hl
  have g0 := hf 0 ⟨"At", 3, 0, false, "", "", 0⟩ rfl
  have g1 := hf 1 ⟨"Line", 3, 1, false, "", "", 8⟩ rfl
  have g2 := hf 2 ⟨"Column", 3, 2, false, "", "", 16⟩ rfl
  match cs, hl, xs, hx with
  | [c0, c1, c2], _, [x0, x1, x2], _ =>
    dsimp only at g0 g1 g2
    rw [hci] at g0 g1 g2
    obtain ⟨z0, e0, _⟩ := DataW.trod_int Try.underlying3 g0
    obtain ⟨z1, e1, _⟩ := DataW.trod_int Try.underlying3 g1
    obtain ⟨z2, e2, _⟩ := DataW.trod_int Try.underlying3 g2
    simp at e0 e1 e2
    subst e0 e1 e2
    exact ⟨⟨z0, z1, z2⟩, rfl⟩
def tkCells (t : Tk) : List Value := [.int .u8 t.f0, .string t.f1, .int .i64 t.f2.f0, .int .i64 t.f2.f1, .int .i64 t.f2.f2, .int .i64 t.f3]
theorem tok_open {fuel : Nat} {cs : List Value} {x : DataW H × List MemPlace} (h : DataW.trod enc Try.prog W base spare held fuel 30 cs = some x) : ∃ t : Tk, cs = tkCells t := by
  obtain ⟨xs, n, _, _, hl, hx, hf⟩ := DataW.trod_struct Try.underlying30 h
  have hc : Try.prog.cellsOf 30 = 6 := by kernel_rfl
  have hcp : Try.prog.cellsOf 28 = 3 := by kernel_rfl
  have hci : Try.prog.cellsOf 3 = 1 := by kernel_rfl
  have hck : Try.prog.cellsOf 26 = 1 := by kernel_rfl
  have hcs : Try.prog.cellsOf 9 = 1 := by kernel_rfl
  rw [hc] at hl
  have g0 := hf 0 ⟨"Kind", 26, 0, false, "", "", 0⟩ rfl
  have g1 := hf 1 ⟨"Text", 9, 1, false, "", "", 8⟩ rfl
  have g2 := hf 2 ⟨"Place", 28, 2, false, "", "", 24⟩ rfl
  have g3 := hf 3 ⟨"Feeds", 3, 5, false, "", "", 48⟩ rfl
  match cs, hl, xs, hx with
  | [c0, c1, c2, c3, c4, c5], _, [x0, x1, x2, x3], _ =>
    dsimp only at g0 g1 g2 g3
    rw [hck] at g0
    rw [hcs] at g1
    rw [hcp] at g2
    rw [hci] at g3
    obtain ⟨z0, e0, _⟩ := DataW.trod_int Try.underlying26 g0
    obtain ⟨z1, e1, _⟩ := DataW.trod_string Try.underlying9 g1
    obtain ⟨p, e2⟩ := place_open g2
    obtain ⟨z3, e3, _⟩ := DataW.trod_int Try.underlying3 g3
    simp at e0 e1 e2 e3
    obtain ⟨e4, e5, e6⟩ := e2
    subst e0 e1 e3 e4 e5 e6
    exact ⟨⟨z0, z1, p, z3⟩, rfl⟩
theorem addr_add2 (a : Addr) (i j : Nat) : (a.add i).add j = a.add (i + j) := by
  unfold Addr.add
  by_cases hi : i = 0
  · subst hi; simp
  · by_cases hj : j = 0
    · subst hj; simp
    · simp [hi, hj, Nat.add_assoc]
/-- A slice of what can be read can be read. -/
theorem row_open {α : Type} {k : Kd α} (d0 : α) {e T : TypeId} (ht : Try.prog.underlying T = some (.slice e)) (hsz : Try.prog.cellsOf e = k.sz) {n fuel : Nat} (hn : fuel ≤ n + 1) (ih : ∀ m, m ≤ n → ∀ cs x, DataW.trod enc Try.prog W base spare held m e cs = some x → ∃ y : α, k.K W y cs)
    {cs : List Value} {x : DataW H × List MemPlace} (h : DataW.trod enc Try.prog W base spare held fuel T cs = some x) : ∃ (A : Option Addr) (l : List α) (c : Nat), cs = [.slice A l.length c] ∧ l.length ≤ c ∧ Kd.C k W A l.length l := by
  rcases DataW.trod_slice ht h with ⟨rfl, _⟩ | ⟨a, len, cap, elems, rest, m, hm, rfl, _, _, hl, hc, hlen, hel, _, _⟩
  · exact ⟨none, [], 0, rfl, Nat.le_refl _, ⟨rfl, by simp, fun h => absurd h (by simp)⟩⟩
  · have hy : ∀ i, ∃ y : α, i < len → ∃ c : List Value, c.length = k.sz ∧ k.K W y c ∧ ∀ j u, c[j]? = some u → W.cell? (a.add (i * k.sz + j)) = some u := by
      intro i
      by_cases hi : i < len
      · have h1 := hel i hi
        rw [List.getElem?_eq_getElem (by omega)] at h1
        obtain ⟨cs', hcs, htr⟩ := Option.bind_eq_some_iff.1 h1
        obtain ⟨y, hy⟩ := ih m (by omega) cs' _ htr
        obtain ⟨_, hcl, hcell⟩ := World.cells?_some hcs
        refine ⟨y, fun _ => ⟨cs', by rw [hcl, hsz], hy, fun j u hu => ?_⟩⟩
        have hj : j < Try.prog.cellsOf e := by rw [← hcl]; exact (List.getElem?_eq_some_iff.1 hu).1
        have := hcell j hj
        rw [hu] at this
        rw [← this, hsz, addr_add2]
      · exact ⟨d0, fun h => absurd h hi⟩
    obtain ⟨f, hf⟩ := (⟨fun i => (hy i).choose, fun i => (hy i).choose_spec⟩ : ∃ f : Nat → α, ∀ i, i < len → ∃ c : List Value, c.length = k.sz ∧ k.K W (f i) c ∧ ∀ j u, c[j]? = some u → W.cell? (a.add (i * k.sz + j)) = some u)
    refine ⟨some a, (List.range len).map f, cap, by simp, by simpa using hl, ⟨rfl, ?_, fun _ => ⟨a, rfl, fun j p hp => ?_⟩⟩⟩
    · have : maxLen ≤ 9223372036854775807 := by decide
      simp
      omega
    · rw [List.getElem?_map] at hp
      obtain ⟨i, hi, rfl⟩ := Option.map_eq_some_iff.1 hp
      obtain ⟨hlt, he⟩ := List.getElem?_eq_some_iff.1 hi
      rw [List.getElem_range] at he
      subst he
      exact hf j (by simpa using hlt)
theorem node_K : ∀ (N fuel : Nat), fuel ≤ N → ∀ (cs : List Value) (x : DataW H × List MemPlace), DataW.trod enc Try.prog W base spare held fuel 35 cs = some x → ∃ y : Nd, kNd.K W y cs := by
  intro N
  induction N with
  | zero =>
    intro fuel hN cs x h
    obtain ⟨xs, n, hn, _⟩ := DataW.trod_struct Try.underlying35 h
    omega
  | succ N ih =>
    intro fuel hN cs x h
    obtain ⟨xs, n, hn, _, hl, hx, hf⟩ := DataW.trod_struct Try.underlying35 h
    have hc : Try.prog.cellsOf 35 = 8 := by kernel_rfl
    have hct : Try.prog.cellsOf 30 = 6 := by kernel_rfl
    have hcn : Try.prog.cellsOf 25 = 1 := by kernel_rfl
    have hcl : Try.prog.cellsOf 33 = 1 := by kernel_rfl
    rw [hc] at hl
    have g0 := hf 0 ⟨"Kind", 25, 0, false, "", "", 0⟩ rfl
    have g1 := hf 1 ⟨"Tok", 30, 1, false, "", "", 8⟩ rfl
    have g2 := hf 2 ⟨"Kids", 33, 7, false, "", "", 64⟩ rfl
    match cs, hl, xs, hx with
    | [c0, c1, c2, c3, c4, c5, c6, c7], _, [x0, x1, x2], _ =>
      dsimp only at g0 g1 g2
      rw [hcn] at g0
      rw [hct] at g1
      rw [hcl] at g2
      obtain ⟨z0, e0, _⟩ := DataW.trod_int Try.underlying25 g0
      obtain ⟨t, e1⟩ := tok_open g1
      obtain ⟨A, l, c, e2, hlc, hC⟩ := row_open (k := kNd) noNd Try.underlying33 hc (n := N) (by omega) (fun m hm cs x h => ih m hm cs x h) g2
      simp at e0 e1 e2
      subst e0 e2
      refine ⟨⟨z0, t, l⟩, ?_⟩
      have := PTreeSame.k35_mk W ⟨z0, t, l⟩ hlc hC
      simp only [tkCells] at e1
      obtain ⟨rfl, rfl, rfl, rfl, rfl, rfl⟩ : c1 = .int .u8 t.f0 ∧ c2 = .string t.f1 ∧ c3 = .int .i64 t.f2.f0 ∧ c4 = .int .i64 t.f2.f1 ∧ c5 = .int .i64 t.f2.f2 ∧ c6 = .int .i64 t.f3 := by simpa using e1
      exact this
theorem laidOut0 : laidOutB Try.prog = true := by kernel_rfl
/-- A node as an argument. -/
theorem node_arg {cs : Array Value} {d : DataW H} {ps : List MemPlace} (h : DataW.Trod enc Try.prog W base spare held 35 (.agg cs) d ps) : ∃ (x : Nd) (A : Option Addr) (c : Nat), cs = #[.int .u8 x.f0, .int .u8 x.f1.f0, .string x.f1.f1, .int .i64 x.f1.f2.f0, .int .i64 x.f1.f2.f1, .int .i64 x.f1.f2.f2, .int .i64 x.f1.f3, .slice A x.f2.length c] ∧ x.f2.length ≤ c ∧ Kd.C kNd W A x.f2.length x.f2 := by
  obtain ⟨fuel, hf⟩ := h
  obtain ⟨y, hy⟩ := node_K fuel fuel (Nat.le_refl _) _ _ hf
  obtain ⟨A, c, e, hlc, hC⟩ := PTreeSame.k35_open hy
  exact ⟨y, A, c, Array.ext' (by simpa [Value.cells] using e), hlc, hC⟩
end
end Go.Proofs.Ytfefldkljbbbpaa
set_option linter.unusedVariables false
set_option linter.unusedSimpArgs false
namespace Go.Proofs.Ytfefldkljbbbpaa.treeTells
open Go.ChangeShapes Go.WideShapes Go.ChangeAt Go.RowKit
open Go.ChangeMaps (open_string shut_string)
theorem own : ownKnob Try.prog.godebug = none := by kernel_rfl
set_option maxRecDepth 100000 in
theorem lifted (os : Os) (started : os.Started) (H : Type) (enc : TypeId × Value → H) :
    ReturnsInHanded {} Try.checked os 7 .any (Rows.treeTellsSpec.pre6 enc Try.prog Try.f7 Rows.treeTellsRow.domain false) (Rows.treeTellsSpec.post enc Try.prog Try.f7 false true false false) := by
  refine returnsInHanded_of_change_sized (C := Try.checked) own started (by kernel_rfl) Try.func7
    (ChangeSpec.witness6 (enc := enc) (C := Try.checked) false ⟨#[], #[.agg #[.int .u8 0, .int .u8 0, .string ⟨#[]⟩, .int .i64 0, .int .i64 0, .int .i64 0, .int .i64 0, .slice none 0 0], .int .i64 0], []⟩ 8 (by kernel_rfl) (by kernel_rfl) (by kernel_rfl) (by kernel_rfl)) ?_
  intro W base args ds gs before hval hW _ hsz _
  have hW' := hW
  obtain ⟨p, q, hA0, hV, rfl, hfz, hnd⟩ := hW
  have hA : DataW.TrodAll enc Try.prog W 0 (fun _ => true) true Try.f7.params.toList args.toList ds p := hA0
  rw [Try.params7] at hA hval
  obtain ⟨v0, vs0, d0, ds0, p0, q0, hargs, rfl, rfl, h0, r0⟩ := trodAll_cons hA
  obtain ⟨v1, vs1, d1, ds1, p1, q1, rfl, rfl, rfl, h1, r1⟩ := trodAll_cons r0
  obtain ⟨rfl, rfl, rfl⟩ := trodAll_nil r1
  obtain rfl : args = #[v0, v1] := by cases args; simp_all
  obtain ⟨rfl, rfl⟩ := trodVars_none hV
  clear hA0
  obtain ⟨cs0, rfl, _⟩ := okWide_struct Try.underlying35 (hval 0 35 v0 rfl rfl)
  have h0k := h0
  have hlt0 : ∀ x ∈ p0, x.block < W.heap.size := fun x hx => hW'.lt x (by simp [hx])
  obtain ⟨x0, a0, cap0, rfl, hlc0, hC0⟩ := node_arg h0
  obtain ⟨x1, rfl, rfl, rfl, wx1⟩ := open_int Try.underlying3 (hval 1 3 v1 rfl rfl) h1
  have b1 := bounds_i64 wx1
  simp only [List.append_nil] at hW'
  refine (treeTells_walk x0 a0 cap0 x1 W hlc0 hC0 b1.1 b1.2).mono fun e W' ⟨he, hb⟩ => ?_
  subst he
  exact ⟨_, rfl, _, _, _, [], _, [], hW', trodAll_mk1 (shut_bool Try.underlying4 _), (trodAll_cons_mk (Below.trod laidOut0 (by kernel_rfl) (of_decide_eq_true (by kernel_rfl)) h0k hb hlt0) (trodAll_cons_mk (shut_int Try.underlying3 wx1) trodAll_mk0)), rfl, hb.frame _, fun h => by cases h⟩
theorem over : Rows.treeTellsRow.holds Try.pinned (OpenSpec.ofChange Rows.treeTellsSpec) :=
  OpenClaim.holds_of_wide 7 Try.f7 rfl rfl rfl rfl rfl rfl rfl ⟨rfl, rfl, rfl, rfl, rfl⟩ rfl rfl rfl rfl rfl (by kernel_rfl) Try.func7 (by kernel_rfl)
    (of_decide_eq_true (by kernel_rfl)) (by unfold Func.isWrapper; first | (rw [if_pos (by decide +kernel)]; kernel_rfl) | (rw [if_neg (by decide +kernel)]; exact ⟨rfl, rfl⟩))
    (fun os started H enc _ => lifted os started H enc)
end Go.Proofs.Ytfefldkljbbbpaa.treeTells
namespace Go.Proofs.Ytfefldkljbbbpaa
/-- TreeTells. -/
theorem treeTells_holds : Rows.TreeTellsSaid := treeTells.over
end Go.Proofs.Ytfefldkljbbbpaa
namespace Go.Proofs.Ytfefldkljbbbpaa
#print axioms treeTells_holds
end Go.Proofs.Ytfefldkljbbbpaa
