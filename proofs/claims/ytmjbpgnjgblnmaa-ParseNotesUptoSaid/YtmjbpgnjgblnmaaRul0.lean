/- Rows: what each leaves; what their walks share. -/
import Derived.Test.YtmjbpgnjgblnmaaAmg
set_option linter.unusedVariables false
set_option linter.unusedSimpArgs false
namespace Go.Proofs.Ytmjbpgnjgblnmaa
open Go.RowKit Go.Proofs.YtmjbpgnjgblnmaaW.PrintWords Go.Proofs.YtmjbpgnjgblnmaaW.PrintLast Go.Proofs.YtmjbpgnjgblnmaaW.PrintMore
/-- What a row leaves. -/
def RulePost (f : RId) (c : ByteArray) (p : Nat) (s : List WT) (es : List Ev) (d : Int) (b : Bool) (wc : Int) (cl : Bool) (vt ve : Value) (w : World) (e : Ending) (w' : World) : Prop :=
  match f.expand c with
  | none => e = .returned (.bool false) ∧ PAt w' p s es d b wc cl vt ve ∧ PStep p vt ve w vt ve w'
  | some l => e = .returned (.bool true) ∧ ∃ vt' ve', PAt w' p (effs ⟨s, [], d⟩ l).todo (es ++ (effs ⟨s, [], d⟩ l).evs.map evOf) (effs ⟨s, [], d⟩ l).depth b wc cl vt' ve' ∧ PStep p vt ve w vt' ve' w'
/-- How much there may be. -/
structure RBound (s : List WT) (es : List Ev) (d : Int) : Prop where
  s : s.length ≤ 274877906944
  es : es.length ≤ 549755813888
  d1 : -2305843009213693952 ≤ d
  d2 : d ≤ 2305843009213693952
def RuleAny (f : RId) : Prop := ∀ (c : ByteArray) (p : Nat) (s : List WT) (es : List Ev) (d : Int) (b : Bool) (wc : Int) (cl : Bool) (vt ve : Value) (w : World), PAt w p s es d b wc cl vt ve → RBound s es d →
  Calls Try.prog f.num #[.pointer (some ⟨p, 0, none⟩), .string c] w (RulePost f c p s es d b wc cl vt ve w)
theorem ne_lit {c : ByteArray} {l : List UInt8} (h : ¬ c = ⟨l.toArray⟩) : (c.toList == l) = false := by
  rw [beq_eq_false_iff_ne]
  intro e
  apply h
  have h1 : c.data = l.toArray := by
    have := congrArg List.toArray e
    simpa [ByteArray.toList_eq] using this
  cases c
  simpa using h1
theorem inL_iff (c : ByteArray) (l : List ByteArray) : inL c l = true ↔ c ∈ l := by
  unfold inL
  simp
theorem inL_no {c : ByteArray} {l : List ByteArray} (h : ¬ c ∈ l) : inL c l = false := by
  rw [Bool.eq_false_iff]
  exact fun e => h ((inL_iff c l).1 e)
theorem open_new {W : World} {p : Nat} {s : List WT} {es : List Ev} {d : Int} {b : Bool} {wc : Int} {cl : Bool} {vt ve : Value} (H : PAt W p s es d b wc cl vt ve) (k : Nat) (ki : Int) (l : List WT) (n : Nat) (cs : List Value) (hk : (k : Int) = ki) (hn : l.length = n) (hcs : l.flatMap wCells = cs) (hl : n ≤ 16) (hs : s.length ≤ 549755813888) (hes : es.length ≤ 1099511627776) (hd : -4611686018427387904 ≤ d ∧ d ≤ 4611686018427387904) :
    Calls Try.prog 48 #[.pointer (some ⟨p, 0, none⟩), .int .u8 ki, .slice (some ⟨W.heap.size, 0, none⟩) n n] (W.alloc (.cells cs.toArray 71)) fun e w' => e = .returned (.bool true) ∧ ∃ vt' ve', PAt w' p (l ++ .fin k :: s) (es ++ [evOf (1, k)]) (d + 1) b wc cl vt' ve' ∧ PStep p vt ve W vt' ve' w' := by
  subst hn; subst hcs; subst hk
  obtain ⟨h1, h2, h3⟩ := H.fresh (.cells (l.flatMap wCells).toArray 71)
  refine (open_any p k W.heap.size l s es d b wc cl vt ve _ h1 (World.alloc_heap_new _ _) h3 hl hs hes hd).mono ?_
  rintro e w' ⟨he, vt', ve', h4, h5⟩
  exact ⟨he, vt', ve', h4, h2.trans h5⟩
end Go.Proofs.Ytmjbpgnjgblnmaa
