/- Arguments: tokens as a row hands them. -/
import Derived.Test.YtmjbpgnjgblnmaaAwk
import Derived.Deep.Slices
import Derived.ChangeArms
import Derived.OpenShut
set_option linter.unusedSimpArgs false
set_option linter.unusedVariables false
namespace Go.Proofs.Ytmjbpgnjgblnmaa
open Go.RowKit Go.ChangeShapes Go.Deep Go.Proofs.YtmjbpgnjgblnmaaW.PrintWords Go.Proofs.YtmjbpgnjgblnmaaW.PrintLast Go.Proofs.YtmjbpgnjgblnmaaW.PrintMore

section
variable {H : Type} {enc : TypeId × Value → H} {W : World} {base : Nat} {spare : Nat → Bool} {held : Bool}
set_option maxRecDepth 100000 in
theorem place_open {fuel : Nat} {cs : List Value} {x : DataW H × List MemPlace} (h : DataW.trod enc Try.prog W base spare held fuel 33 cs = some x) : ∃ p : PParseNotes.S33, cs = [.int .i64 p.f0, .int .i64 p.f1, .int .i64 p.f2] := by
  obtain ⟨xs, n, _, _, hl, hx, hf⟩ := DataW.trod_struct Try.underlying33 h
  have hc : Try.prog.cellsOf 33 = 3 := by kernel_rfl
  have hci : Try.prog.cellsOf 3 = 1 := by kernel_rfl
  rw [hc] at hl
  have g0 := hf 0 ⟨"At", 3, 0, false, "", "", 0⟩ rfl
  have g1 := hf 1 ⟨"Line", 3, 1, false, "", "", 8⟩ rfl
  have g2 := hf 2 ⟨"Column", 3, 2, false, "", "", 16⟩ rfl
  match cs, hl, xs, hx with
  | [c0, c1, c2], _, [x0, x1, x2], _ =>
    dsimp only at g0 g1 g2
    rw [hci] at g0 g1 g2
    obtain ⟨z0, e0, _⟩ := DataW.trod_int Try.underlying3 g0
    obtain ⟨z1, e1, _⟩ := DataW.trod_int Try.underlying3 g1
    obtain ⟨z2, e2, _⟩ := DataW.trod_int Try.underlying3 g2
    simp at e0 e1 e2
    subst e0 e1 e2
    exact ⟨⟨z0, z1, z2⟩, rfl⟩
set_option maxRecDepth 100000 in
theorem tok_open {fuel : Nat} {cs : List Value} {x : DataW H × List MemPlace} (h : DataW.trod enc Try.prog W base spare held fuel 35 cs = some x) : ∃ t : Tk, cs = tkCells t := by
  obtain ⟨xs, n, _, _, hl, hx, hf⟩ := DataW.trod_struct Try.underlying35 h
  have hc : Try.prog.cellsOf 35 = 6 := by kernel_rfl
  have hcp : Try.prog.cellsOf 33 = 3 := by kernel_rfl
  have hci : Try.prog.cellsOf 3 = 1 := by kernel_rfl
  have hck : Try.prog.cellsOf 31 = 1 := by kernel_rfl
  have hcs : Try.prog.cellsOf 9 = 1 := by kernel_rfl
  rw [hc] at hl
  have g0 := hf 0 ⟨"Kind", 31, 0, false, "", "", 0⟩ rfl
  have g1 := hf 1 ⟨"Text", 9, 1, false, "", "", 8⟩ rfl
  have g2 := hf 2 ⟨"Place", 33, 2, false, "", "", 24⟩ rfl
  have g3 := hf 3 ⟨"Feeds", 3, 5, false, "", "", 48⟩ rfl
  match cs, hl, xs, hx with
  | [c0, c1, c2, c3, c4, c5], _, [x0, x1, x2, x3], _ =>
    dsimp only at g0 g1 g2 g3
    rw [hck] at g0
    rw [hcs] at g1
    rw [hcp] at g2
    rw [hci] at g3
    obtain ⟨z0, e0, _⟩ := DataW.trod_int Try.underlying31 g0
    obtain ⟨z1, e1, _⟩ := DataW.trod_string Try.underlying9 g1
    obtain ⟨p, e2⟩ := place_open g2
    obtain ⟨z3, e3, _⟩ := DataW.trod_int Try.underlying3 g3
    simp at e0 e1 e2 e3
    obtain ⟨e4, e5, e6⟩ := e2
    subst e0 e1 e3 e4 e5 e6
    exact ⟨⟨z0, z1, p, z3⟩, rfl⟩
theorem addr_add2 (a : Addr) (i j : Nat) : (a.add i).add j = a.add (i + j) := by
  unfold Addr.add
  by_cases hi : i = 0
  · subst hi; simp
  · by_cases hj : j = 0
    · subst hj; simp
    · simp [hi, hj, Nat.add_assoc]
/-- A slice of what can be read can be read. -/
theorem row_open {α : Type} {k : Kd α} (d0 : α) {e T : TypeId} (ht : Try.prog.underlying T = some (.slice e)) (hsz : Try.prog.cellsOf e = k.sz) {n fuel : Nat} (hn : fuel ≤ n + 1) (ih : ∀ m, m ≤ n → ∀ cs x, DataW.trod enc Try.prog W base spare held m e cs = some x → ∃ y : α, k.K W y cs)
    {cs : List Value} {x : DataW H × List MemPlace} (h : DataW.trod enc Try.prog W base spare held fuel T cs = some x) : ∃ (A : Option Addr) (l : List α) (c : Nat), cs = [.slice A l.length c] ∧ l.length ≤ c ∧ Kd.C k W A l.length l := by
  rcases DataW.trod_slice ht h with ⟨rfl, _⟩ | ⟨a, len, cap, elems, rest, m, hm, rfl, _, _, hl, hc, hlen, hel, _, _⟩
  · exact ⟨none, [], 0, rfl, Nat.le_refl _, ⟨rfl, by simp, fun h => absurd h (by simp)⟩⟩
  · have hy : ∀ i, ∃ y : α, i < len → ∃ c : List Value, c.length = k.sz ∧ k.K W y c ∧ ∀ j u, c[j]? = some u → W.cell? (a.add (i * k.sz + j)) = some u := by
      intro i
      by_cases hi : i < len
      · have h1 := hel i hi
        rw [List.getElem?_eq_getElem (by omega)] at h1
        obtain ⟨cs', hcs, htr⟩ := Option.bind_eq_some_iff.1 h1
        obtain ⟨y, hy⟩ := ih m (by omega) cs' _ htr
        obtain ⟨_, hcl, hcell⟩ := World.cells?_some hcs
        refine ⟨y, fun _ => ⟨cs', by rw [hcl, hsz], hy, fun j u hu => ?_⟩⟩
        have hj : j < Try.prog.cellsOf e := by rw [← hcl]; exact (List.getElem?_eq_some_iff.1 hu).1
        have := hcell j hj
        rw [hu] at this
        rw [← this, hsz, addr_add2]
      · exact ⟨d0, fun h => absurd h hi⟩
    obtain ⟨f, hf⟩ := (⟨fun i => (hy i).choose, fun i => (hy i).choose_spec⟩ : ∃ f : Nat → α, ∀ i, i < len → ∃ c : List Value, c.length = k.sz ∧ k.K W (f i) c ∧ ∀ j u, c[j]? = some u → W.cell? (a.add (i * k.sz + j)) = some u)
    refine ⟨some a, (List.range len).map f, cap, by simp, by simpa using hl, ⟨rfl, ?_, fun _ => ⟨a, rfl, fun j p hp => ?_⟩⟩⟩
    · have : maxLen ≤ 9223372036854775807 := by decide
      simp
      omega
    · rw [List.getElem?_map] at hp
      obtain ⟨i, hi, rfl⟩ := Option.map_eq_some_iff.1 hp
      obtain ⟨hlt, he⟩ := List.getElem?_eq_some_iff.1 hi
      rw [List.getElem_range] at he
      subst he
      exact hf j (by simpa using hlt)
/-- Tokens as an argument. -/
theorem toks_arg {A : Option Addr} {n c : Nat} {d : DataW H} {ps : List MemPlace} (h : DataW.Trod enc Try.prog W base spare held 22 (.slice A n c) d ps) : ∃ l : List Tk, l.length = n ∧ n ≤ c ∧ Kd.C kTk W A n l := by
  obtain ⟨fuel, hf⟩ := h
  obtain ⟨A', l, c', e, hlc, hC⟩ := row_open (k := kTk) noTk Try.underlying22 (by kernel_rfl) (n := fuel) (by omega) (fun m _ cs x h => by
    obtain ⟨t, rfl⟩ := tok_open h
    exact ⟨t, PParseNotes.k35_mk W t⟩) hf
  simp [Value.cells] at e
  obtain ⟨rfl, rfl, rfl⟩ := e
  exact ⟨l, rfl, hlc, hC⟩
theorem laidOut0 : laidOutB Try.prog = true := by kernel_rfl
end
end Go.Proofs.Ytmjbpgnjgblnmaa
