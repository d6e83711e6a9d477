/- What the claim stands on: part Jc. -/
import Derived.Test.YtfefldkljbbbpaaJb
import Derived.OrdersHeld
import Derived.Deep.RegionHeld
import Derived.OrdersIn
import Derived.RangeFuncCalls
import Derived.TacticsIn
import Derived.Lib.Hide
import Derived.Laws.EntriesVeiled
import Derived.RangeFuncNested
import Derived.RangeFuncBound
import Derived.RangeFuncLeaves
import Derived.RangeFuncBox
import Derived.Shelf.Abstract
import Derived.OwnWalkIn
import Derived.TacticsInMore
import Derived.LoopNIn
import Derived.LoopIn
set_option linter.unusedVariables false
namespace Go.Proofs.Ytfefldkljbbbpaa
open Go
section
variable {P : Program} {ops : Array Oper} {Q : Exit → Act → World → Prop} {md : Region.Mode} {S : World → Prop} {early : Nat → Bool}
/-- Whatever order is picked from here on; behind each of the early operations S holds. -/
def anyP (P : Program) (md : Region.Mode) (ops : Array Oper) (Q : Exit → Act → World → Prop) (S : World → Prop) (early : Nat → Bool) : Nat → Array Bool → Act → World → Prop
  | 0, listed, a, w => Region.ready md ops listed = [] ∧ Q .normal a w
  | fuel + 1, listed, a, w =>
    (Region.ready md ops listed = [] → Q .normal a w) ∧
    ∀ i ∈ Region.ready md ops listed, wpOp P ops Q i (fun a' w' => (early i = true → S w') ∧ anyP P md ops Q S early fuel (listed.setIfInBounds i true) a' w') a w
theorem any_of_P : ∀ (fuel : Nat) (listed : Array Bool) (a : Act) (w : World), anyP P md ops Q S early fuel listed a w → wpAny P md ops Q fuel listed a w
  | 0, _, _, _, h => h
  | fuel + 1, _, _, _, h => ⟨h.1, fun i hi => wpOp_mono (fun a' w' h' => any_of_P fuel _ a' w' h'.2) (h.2 i hi)⟩
theorem hnot_of {i j : Nat} {listed : Array Bool} {oj : Oper} (hr : i ∈ Region.ready md ops listed) (hall : ∀ e ∈ oj.after, Region.binds md e = true → listed.getD e.on false = true) : ∀ e ∈ oj.after, Region.binds md e = true → e.on ≠ i := fun e he hb heq => by
  have h1 := hall e he hb
  have h0 := (mem_ready.1 hr).1
  rw [heq] at h1
  rcases Nat.lt_or_ge i listed.size with h' | h'
  · simp [h'] at h0 h1; rw [h0] at h1; cases h1
  · simp [Array.getElem?_eq_none h'] at h1
/-- What yields in whatever world is taken first. -/
theorem anyP_first0 {i : Nat} {oi : Oper} {v : Value} (hi : ops[i]? = some oi) (hsel : ∀ (j : Nat) (o : Oper) cs b, ops[j]? = some o → o.op ≠ .select cs b)
    (hQ : ∀ c a w, Q (.panic c) (a.put oi.dst v) w → Q (.panic c) a w) (he : early i = false) :
    ∀ (fuel : Nat) (listed : Array Bool) (a : Act) (w : World),
      (∀ j oj, ops[j]? = some oj → j ≠ i → listed.getD j true = false → (∀ e ∈ oj.after, Region.binds md e = true → e.on ≠ i) → oi.apart ops oj = true) →
      i ∈ Region.ready md ops listed → Yields P ops oi v a →
      anyP P md ops Q S early fuel (listed.setIfInBounds i true) (a.put oi.dst v) w → anyP P md ops Q S early (fuel + 1) listed a w := by
  intro fuel
  induction fuel with
  | zero =>
    intro listed a w _ hr hy H
    refine ⟨fun h => (by rw [h] at hr; cases hr), fun j hj => ?_⟩
    by_cases hji : j = i
    · subst hji; exact hy.wpOp hi ⟨(fun h => by rw [he] at h; cases h), H⟩
    · have := ready_mono hj hji
      rw [H.1] at this
      cases this
  | succ fuel ih =>
    intro listed a w hfree hr hy H
    refine ⟨fun h => (by rw [h] at hr; cases hr), fun j hj => ?_⟩
    by_cases hji : j = i
    · subst hji; exact hy.wpOp hi ⟨(fun h => by rw [he] at h; cases h), H⟩
    · have h1 := H.2 j (ready_mono hj hji)
      obtain ⟨hjun, oj, hoj, hall⟩ := mem_ready.1 hj
      have hnot := hnot_of (j := j) hr hall
      have h2 := wpOp_put hoj (hfree j oj hoj hji hjun hnot) (fun cs b => hsel i oi cs b hi) (fun cs b => hsel j oj cs b hoj) hQ hy h1
      have hfree' : ∀ k ok, ops[k]? = some ok → k ≠ i → (listed.setIfInBounds j true).getD k true = false →
          (∀ e ∈ ok.after, Region.binds md e = true → e.on ≠ i) → oi.apart ops ok = true := fun k ok hk hki hun hno => by
        refine hfree k ok hk hki ?_ hno
        by_cases hjk : j = k
        · subst hjk; exact hjun
        · rw [getD_set_ne true hjk] at hun; exact hun
      refine wpOp_mono (fun a' w' h3 => ⟨h3.2.1, ih (listed.setIfInBounds j true) a' w' hfree' (ready_mono hr (Ne.symm hji)) h3.1 ?_⟩) h2
      rw [Array.setIfInBounds_comm _ _ hji]
      exact h3.2.2
/-- A load is taken first, where all that may come ahead of it is early. -/
theorem anyP_firstS {i : Nat} {oi : Oper} {v : Value} (hi : ops[i]? = some oi) (hsel : ∀ (j : Nat) (o : Oper) cs b, ops[j]? = some o → o.op ≠ .select cs b)
    (hQ : ∀ c a w, Q (.panic c) (a.put oi.dst v) w → Q (.panic c) a w) :
    ∀ (fuel : Nat) (listed : Array Bool) (a : Act) (w : World),
      (∀ j oj, ops[j]? = some oj → j ≠ i → listed.getD j true = false → (∀ e ∈ oj.after, Region.binds md e = true → e.on ≠ i) → oi.apart ops oj = true ∧ early j = true) →
      i ∈ Region.ready md ops listed → YieldsIf P ops S oi v a → S w →
      anyP P md ops Q S early fuel (listed.setIfInBounds i true) (a.put oi.dst v) w → anyP P md ops Q S early (fuel + 1) listed a w := by
  intro fuel
  induction fuel with
  | zero =>
    intro listed a w _ hr hy hS H
    refine ⟨fun h => (by rw [h] at hr; cases hr), fun j hj => ?_⟩
    by_cases hji : j = i
    · subst hji; exact hy.wpOp hi hS ⟨fun _ => hS, H⟩
    · have := ready_mono hj hji
      rw [H.1] at this
      cases this
  | succ fuel ih =>
    intro listed a w hfree hr hy hS H
    refine ⟨fun h => (by rw [h] at hr; cases hr), fun j hj => ?_⟩
    by_cases hji : j = i
    · subst hji; exact hy.wpOp hi hS ⟨fun _ => hS, H⟩
    · have h1 := H.2 j (ready_mono hj hji)
      obtain ⟨hjun, oj, hoj, hall⟩ := mem_ready.1 hj
      have hnot := hnot_of (j := j) hr hall
      have hf := hfree j oj hoj hji hjun hnot
      have h2 := wpOp_putIf hoj hf.1 (fun cs b => hsel i oi cs b hi) (fun cs b => hsel j oj cs b hoj) hQ hy h1
      have hfree' : ∀ k ok, ops[k]? = some ok → k ≠ i → (listed.setIfInBounds j true).getD k true = false →
          (∀ e ∈ ok.after, Region.binds md e = true → e.on ≠ i) → oi.apart ops ok = true ∧ early k = true := fun k ok hk hki hun hno => by
        refine hfree k ok hk hki ?_ hno
        by_cases hjk : j = k
        · subst hjk; exact hjun
        · rw [getD_set_ne true hjk] at hun; exact hun
      refine wpOp_mono (fun a' w' h3 => ⟨h3.2.1, ih (listed.setIfInBounds j true) a' w' hfree' (ready_mono hr (Ne.symm hji)) h3.1 (h3.2.1 hf.2) ?_⟩) h2
      rw [Array.setIfInBounds_comm _ _ hji]
      exact h3.2.2
def allEarly (md : Region.Mode) (ops : Array Oper) (early : Nat → Bool) (listed : Array Bool) (i : Nat) : Bool :=
  (List.range ops.size).all fun j => j == i || listed.getD j true || early j || match ops[j]? with
    | some oj => oj.after.any (fun e => Region.binds md e && e.on == i)
    | none => true
theorem allEarly_spec {i : Nat} {listed : Array Bool} (h : allEarly md ops early listed i = true) (j : Nat) (oj : Oper)
    (hj : ops[j]? = some oj) (hne : j ≠ i) (hun : listed.getD j true = false) (hno : ∀ e ∈ oj.after, Region.binds md e = true → e.on ≠ i) : early j = true := by
  simp only [allEarly, List.all_eq_true, List.mem_range] at h
  have h1 := h j (Array.getElem?_eq_some_iff.1 hj).1
  simp only [hj, Bool.or_eq_true, beq_iff_eq, hne, false_or, hun, Bool.false_eq_true] at h1
  rcases h1 with h1 | h1
  · exact h1
  · obtain ⟨e, he, hb⟩ := Array.any_eq_true'.1 h1
    simp only [Bool.and_eq_true, beq_iff_eq] at hb
    exact absurd hb.2 (hno e he hb.1)
/-- The same, shut: so that nobody unfolds it at a numeral. -/
structure AnyP (P : Program) (md : Region.Mode) (ops : Array Oper) (Q : Exit → Act → World → Prop) (S : World → Prop) (early : Nat → Bool) (fuel : Nat) (listed : Array Bool) (a : Act) (w : World) : Prop where
  out : anyP P md ops Q S early fuel listed a w
theorem anyP_take0 {i : Nat} {oi : Oper} {v : Value} {fuel : Nat} {listed : Array Bool} {a : Act} {w : World} (hi : ops[i]? = some oi)
    (hs : (Region.noSelect ops && Region.free md ops listed i && (Region.ready md ops listed).contains i && !early i) = true)
    (hQ : ∀ c a w, Q (.panic c) (a.put oi.dst v) w → Q (.panic c) a w) (hy : Yields P ops oi v a)
    (h : AnyP P md ops Q S early fuel (listed.setIfInBounds i true) (a.put oi.dst v) w) : AnyP P md ops Q S early (fuel + 1) listed a w := by
  simp only [Bool.and_eq_true, Bool.not_eq_true'] at hs
  exact ⟨anyP_first0 hi (Region.noSelect_spec hs.1.1.1) hQ hs.2 fuel listed a w (Region.free_spec hi hs.1.1.2) (by simpa using hs.1.2) hy h.out⟩
theorem anyP_take {i : Nat} {oi : Oper} {v : Value} {fuel : Nat} {listed : Array Bool} {a : Act} {w : World} (hi : ops[i]? = some oi)
    (hs : (Region.noSelect ops && Region.free md ops listed i && (Region.ready md ops listed).contains i && allEarly md ops early listed i) = true)
    (hQ : ∀ c a w, Q (.panic c) (a.put oi.dst v) w → Q (.panic c) a w) (hy : YieldsIf P ops S oi v a) (hS : S w)
    (h : AnyP P md ops Q S early fuel (listed.setIfInBounds i true) (a.put oi.dst v) w) : AnyP P md ops Q S early (fuel + 1) listed a w := by
  simp only [Bool.and_eq_true] at hs
  exact ⟨anyP_firstS hi (Region.noSelect_spec hs.1.1.1) hQ fuel listed a w (fun j oj hj hne hun hno => ⟨Region.free_spec hi hs.1.1.2 j oj hj hne hun hno, allEarly_spec hs.2 j oj hj hne hun hno⟩) (by simpa using hs.1.2) hy hS h.out⟩
/-- What comes up next; the way back is shut. -/
def ReadyP (P : Program) (md : Region.Mode) (ops : Array Oper) (Q : Exit → Act → World → Prop) (S : World → Prop) (early : Nat → Bool) (fuel : Nat) (listed : Array Bool) (a : Act) (w : World) (rs : List Nat) : Prop :=
  ∀ i ∈ rs, wpOp P ops Q i (fun a' w' => (early i = true → S w') ∧ AnyP P md ops Q S early fuel (listed.setIfInBounds i true) a' w') a w
theorem ReadyP.nil {fuel : Nat} {listed : Array Bool} {a : Act} {w : World} : ReadyP P md ops Q S early fuel listed a w [] := fun _ h => by cases h
theorem ReadyP.cons {fuel : Nat} {listed : Array Bool} {a : Act} {w : World} {i : Nat} {o : Oper} {rs : List Nat} (ho : ops[i]? = some o)
    (h : ∀ K' : Act → World → Prop, Shut (∀ a w, (early i = true → S w) → AnyP P md ops Q S early fuel (listed.setIfInBounds i true) a w → K' a w) → if Region.wanted o (yielded ops a.tmps) = true then Oper.wp P o a w K' Q else K' (a.put o.dst undef) w)
    (hs : ReadyP P md ops Q S early fuel listed a w rs) : ReadyP P md ops Q S early fuel listed a w (i :: rs) := fun j hj => by
  rcases List.mem_cons.1 hj with rfl | hj
  · exact wpOp_step ho (fun K' hK => h K' (fun a w hS hW => hK a w ⟨hS, hW⟩))
  · exact hs j hj
theorem anyP_ready {rs : List Nat} {fuel : Nat} {listed : Array Bool} {a : Act} {w : World} (hr : Region.ready md ops listed = rs) (hne : rs ≠ [])
    (h : ReadyP P md ops Q S early fuel listed a w rs) : AnyP P md ops Q S early (fuel + 1) listed a w :=
  ⟨fun h0 => absurd (hr ▸ h0) hne, hr ▸ fun i hi => wpOp_mono (fun a' w' h' => ⟨h'.1, h'.2.out⟩) (h i hi)⟩
theorem anyP_done {listed : Array Bool} {a : Act} {w : World} (hr : Region.ready md ops listed = []) (h : Q .normal a w) : ∀ fuel, AnyP P md ops Q S early fuel listed a w
  | 0 => ⟨⟨hr, h⟩⟩
  | _ + 1 => ⟨⟨fun _ => h, by rw [hr]; simp⟩⟩
theorem wp_region_P (S : World → Prop) (early : Nat → Bool) {id : Nat} {a : Act} {w : World} (hm : P.follows .mixedOrders = true)
    (h : AnyP P .any ops Q S early ops.size (Array.replicate ops.size false) a w.drew) : (Code.region id ops true).wp P Q a w :=
  wp_region_any hm (any_of_P _ _ _ _ h.out)
end
end Go.Proofs.Ytfefldkljbbbpaa
set_option linter.unusedVariables false
namespace Go.Proofs.Ytfefldkljbbbpaa
open Go
section
variable {P : Program} {ops : Array Oper} {Q : Exit → Act → World → Prop} {md : Region.Mode} {S : World → Prop} {early : Nat → Bool}
/-- One operation is carried out. -/
def opP (P : Program) (ops : Array Oper) (Q : Exit → Act → World → Prop) (i : Nat) (K : Act → World → Prop) (a : Act) (w : World) : Prop :=
  match ops[i]? with
  | none => K a w
  | some o => if Region.wanted o (yielded ops a.tmps) then o.wp P a w K Q else K (a.put o.dst undef) w
theorem opP_mono {i : Nat} {a : Act} {w : World} {K K' : Act → World → Prop} (h : ∀ a w, K a w → K' a w) (hh : opP P ops Q i K a w) : opP P ops Q i K' a w := by
  unfold opP at *
  split
  · exact h _ _ (by simpa [*] using hh)
  · rename_i o ho
    simp only [ho] at hh
    split
    · rename_i hw; rw [if_pos hw] at hh; exact Oper.wp_mono h hh
    · rename_i hw; rw [if_neg hw] at hh; exact h _ _ hh
theorem opP_wpOp {i : Nat} {K : Act → World → Prop} {a : Act} {w : World} (h : opP P ops Q i K a w) : wpOp P ops Q i K a w := by
  unfold opP at h
  unfold wpOp
  split
  · simpa [*] using h
  · rename_i o ho
    simp only [ho] at h
    split
    · rename_i hw; rw [if_pos hw] at h; exact .inl h
    · rename_i hw; rw [if_neg hw] at h; exact h
theorem yields_opP {i : Nat} {o : Oper} {v : Value} {a : Act} (hi : ops[i]? = some o) (hy : YieldsIf P ops S o v a) {K : Act → World → Prop} {w : World} (hS : S w) (h : K (a.put o.dst v) w) : opP P ops Q i K a w := by
  unfold opP
  simp only [hi]
  rcases hy with ⟨hw, hv⟩ | ⟨hw, rfl⟩
  · simp only [hw, if_true, Oper.wp, hv w hS, Oper.upon]; exact h
  · simp only [hw, Bool.false_eq_true, if_false]; exact h
theorem opP_put {j : Nat} {oi oj : Oper} {v : Value} (hj : ops[j]? = some oj) (hap : oi.apart ops oj = true)
    (hsi : ∀ cs b, oi.op ≠ .select cs b) (hsj : ∀ cs b, oj.op ≠ .select cs b)
    (hQ : ∀ c a w, Q (.panic c) (a.put oi.dst v) w → Q (.panic c) a w) {K : Act → World → Prop} {a : Act} {w : World}
    (hy : YieldsIf P ops S oi v a) (h : opP P ops Q j K (a.put oi.dst v) w) :
    opP P ops Q j (fun a' w' => YieldsIf P ops S oi v a' ∧ K (a'.put oi.dst v) w') a w := by
  obtain ⟨h1, h2, h3⟩ := Oper.apart_spec hap
  have keep : ∀ (a : Act), YieldsIf P ops S oi v a → ∀ u, YieldsIf P ops S oi v (a.put oj.dst u) := fun a hy u =>
    hy.of_same (execOp_put oi hsi a oj.dst u h3) (wanted_put oi a oj.dst u h3)
  have keepD : ∀ d, YieldsIf P ops S oi v { a with defers := d :: a.defers } := fun d => hy.of_same rfl rfl
  unfold opP at *
  simp only [hj] at *
  rw [wanted_put oj a oi.dst v h1] at h
  split
  · rename_i hw
    simp only [hw, if_true] at h
    unfold Oper.wp at *
    rw [execOp_put oj hsj a oi.dst v h1] at h
    generalize (execOp a.eval oj).run P w = r at *
    cases r with
    | ok n w' =>
      cases n <;> simp only [Oper.upon] at h ⊢
      case value u => exact ⟨keep a hy u, by rw [← Act.put_comm a v u h2]; exact h⟩
      case skip => exact ⟨keep a hy _, by rw [← Act.put_comm a v undef h2]; exact h⟩
      case defer d =>
        refine ⟨keep _ (keepD d) _, ?_⟩
        rw [← Act.put_comm _ v undef h2, ← Act.put_defers]
        exact h
      case enter f args =>
        refine Calls.mono h fun e w'' he => ?_
        cases e with
        | returned u => exact ⟨keep a hy u, by rw [← Act.put_comm a v u h2]; exact he⟩
        | panicked c => exact hQ _ _ _ he
        | outgrown => exact he
      case row row args => exact Rows.mono h fun u w'' he => ⟨keep a hy u, by rw [← Act.put_comm a v u h2]; exact he⟩
    | halt x w' =>
      cases x <;> simp only [Oper.upon] at h ⊢
      case panic u => exact hQ _ _ _ h
  · rename_i hw
    simp only [hw] at h
    exact ⟨keep a hy _, by rw [← Act.put_comm a v undef h2]; exact h⟩
/-- Whatever order is picked from here on; behind each of the early operations S holds. -/
def anyR (P : Program) (md : Region.Mode) (ops : Array Oper) (Q : Exit → Act → World → Prop) (S : World → Prop) (early : Nat → Bool) : Nat → Array Bool → Act → World → Prop
  | 0, listed, a, w => Region.ready md ops listed = [] ∧ Q .normal a w
  | fuel + 1, listed, a, w =>
    (Region.ready md ops listed = [] → Q .normal a w) ∧
    ∀ i ∈ Region.ready md ops listed, opP P ops Q i (fun a' w' => (early i = true → S w') ∧ anyR P md ops Q S early fuel (listed.setIfInBounds i true) a' w') a w
theorem any_of_R : ∀ (fuel : Nat) (listed : Array Bool) (a : Act) (w : World), anyR P md ops Q S early fuel listed a w → wpAny P md ops Q fuel listed a w
  | 0, _, _, _, h => h
  | fuel + 1, _, _, _, h => ⟨h.1, fun i hi => opP_wpOp (opP_mono (fun a' w' h' => any_of_R fuel _ a' w' h'.2) (h.2 i hi))⟩
theorem rowsIn_round {l n : Nat} {row : String} {args : Array Value} {w : World} {R : Value → World → Prop} (h : Rows P row args w R) : RowsIn (Fence.wide.inRound l) n P row args w R := fun c cs _ =>
  let ⟨v, w', r, s⟩ := h c cs
  ⟨v, w', r, stepsIn_wide.2 s⟩
/-- In a round, what is no defer statement is carried out as everywhere. -/
theorem wp_toIn {l n : Nat} {o : Oper} {a : Act} {w : World} {K : Act → World → Prop} (hnd : ∀ c, o.op ≠ .defer c) (h : o.wp P a w K Q) : o.wpIn (Fence.wide.inRound l) n P a w K Q := by
  refine ⟨fun _ _ => trivial, ?_⟩
  show o.uponIn _ _ _ _ _ _ ((o.semAt (some l) a.eval).run P w)
  rw [Oper.semAt_some l _ _ hnd]
  unfold Oper.wp at h
  generalize (execOp a.eval o).run P w = r at *
  cases r with
  | ok x w' =>
    cases x <;> simp only [Oper.upon, Oper.uponIn] at h ⊢
    case value => exact h
    case skip => exact h
    case defer => exact h
    case enter => exact ⟨fun h => (by cases h), CallsIn.inRound l (callsIn_wide.2 h)⟩
    case row => exact ⟨fun h => (by cases h), rowsIn_round h⟩
  | halt x w' => cases x <;> simp only [Oper.upon, Oper.uponIn] at h ⊢ <;> exact h
theorem yields_of {o : Oper} {v : Value} {a : Act} (h : YieldsIf P ops (fun _ => True) o v a) : Yields P ops o v a := h.imp (fun ⟨hw, hv⟩ => ⟨hw, fun w => hv w trivial⟩) id
def noDefer (ops : Array Oper) : Bool := ops.all fun o => match o.op with | .defer .. => false | _ => true
theorem noDefer_spec (h : noDefer ops = true) (j : Nat) (o : Oper) (ho : ops[j]? = some o) (c : Call) : o.op ≠ .defer c := by
  intro heq
  have := Array.all_eq_true_iff_forall_mem.1 h o (Array.mem_of_getElem? ho)
  simp [heq] at this
theorem opP_in {l n i : Nat} {K : Act → World → Prop} {a : Act} {w : World} (hnd : noDefer ops = true) (h : opP P ops Q i K a w) : wpOpIn (Fence.wide.inRound l) n P ops Q i K a w := by
  unfold opP at h
  unfold wpOpIn
  split
  · simpa [*] using h
  · rename_i o ho
    simp only [ho] at h
    split
    · rename_i hw; rw [if_pos hw] at h; exact wp_toIn (fun c => noDefer_spec hnd i o ho c) h
    · rename_i hw; rw [if_neg hw] at h; exact ⟨fun _ _ => trivial, h⟩
theorem any_in {l n : Nat} (hnd : noDefer ops = true) : ∀ (fuel : Nat) (listed : Array Bool) (a : Act) (w : World), anyR P md ops Q S early fuel listed a w → wpAnyIn (Fence.wide.inRound l) n P md ops Q fuel listed a w
  | 0, _, _, _, h => h
  | fuel + 1, _, _, _, h => ⟨h.1, fun i hi => opP_in hnd (opP_mono (fun a' w' h' => any_in hnd fuel _ a' w' h'.2) (h.2 i hi))⟩
theorem anyR_first0 {i : Nat} {oi : Oper} {v : Value} (hi : ops[i]? = some oi) (hsel : ∀ (j : Nat) (o : Oper) cs b, ops[j]? = some o → o.op ≠ .select cs b)
    (hQ : ∀ c a w, Q (.panic c) (a.put oi.dst v) w → Q (.panic c) a w) (he : early i = false) :
    ∀ (fuel : Nat) (listed : Array Bool) (a : Act) (w : World),
      (∀ j oj, ops[j]? = some oj → j ≠ i → listed.getD j true = false → (∀ e ∈ oj.after, Region.binds md e = true → e.on ≠ i) → oi.apart ops oj = true) →
      i ∈ Region.ready md ops listed → Yields P ops oi v a →
      anyR P md ops Q S early fuel (listed.setIfInBounds i true) (a.put oi.dst v) w → anyR P md ops Q S early (fuel + 1) listed a w := by
  intro fuel
  induction fuel with
  | zero =>
    intro listed a w _ hr hy H
    refine ⟨fun h => (by rw [h] at hr; cases hr), fun j hj => ?_⟩
    by_cases hji : j = i
    · subst hji; exact yields_opP (S := fun _ => True) hi hy.yieldsIf trivial ⟨(fun h => by rw [he] at h; cases h), H⟩
    · have := ready_mono hj hji
      rw [H.1] at this
      cases this
  | succ fuel ih =>
    intro listed a w hfree hr hy H
    refine ⟨fun h => (by rw [h] at hr; cases hr), fun j hj => ?_⟩
    by_cases hji : j = i
    · subst hji; exact yields_opP (S := fun _ => True) hi hy.yieldsIf trivial ⟨(fun h => by rw [he] at h; cases h), H⟩
    · have h1 := H.2 j (ready_mono hj hji)
      obtain ⟨hjun, oj, hoj, hall⟩ := mem_ready.1 hj
      have hnot := hnot_of (j := j) hr hall
      have h2 := opP_put (S := fun _ => True) hoj (hfree j oj hoj hji hjun hnot) (fun cs b => hsel i oi cs b hi) (fun cs b => hsel j oj cs b hoj) hQ hy.yieldsIf h1
      have hfree' : ∀ k ok, ops[k]? = some ok → k ≠ i → (listed.setIfInBounds j true).getD k true = false →
          (∀ e ∈ ok.after, Region.binds md e = true → e.on ≠ i) → oi.apart ops ok = true := fun k ok hk hki hun hno => by
        refine hfree k ok hk hki ?_ hno
        by_cases hjk : j = k
        · subst hjk; exact hjun
        · rw [getD_set_ne true hjk] at hun; exact hun
      refine opP_mono (fun a' w' h3 => ⟨h3.2.1, ih (listed.setIfInBounds j true) a' w' hfree' (ready_mono hr (Ne.symm hji)) (yields_of h3.1) ?_⟩) h2
      rw [Array.setIfInBounds_comm _ _ hji]
      exact h3.2.2
theorem anyR_firstS {i : Nat} {oi : Oper} {v : Value} (hi : ops[i]? = some oi) (hsel : ∀ (j : Nat) (o : Oper) cs b, ops[j]? = some o → o.op ≠ .select cs b)
    (hQ : ∀ c a w, Q (.panic c) (a.put oi.dst v) w → Q (.panic c) a w) :
    ∀ (fuel : Nat) (listed : Array Bool) (a : Act) (w : World),
      (∀ j oj, ops[j]? = some oj → j ≠ i → listed.getD j true = false → (∀ e ∈ oj.after, Region.binds md e = true → e.on ≠ i) → oi.apart ops oj = true ∧ early j = true) →
      i ∈ Region.ready md ops listed → YieldsIf P ops S oi v a → S w →
      anyR P md ops Q S early fuel (listed.setIfInBounds i true) (a.put oi.dst v) w → anyR P md ops Q S early (fuel + 1) listed a w := by
  intro fuel
  induction fuel with
  | zero =>
    intro listed a w _ hr hy hS H
    refine ⟨fun h => (by rw [h] at hr; cases hr), fun j hj => ?_⟩
    by_cases hji : j = i
    · subst hji; exact yields_opP hi hy hS ⟨fun _ => hS, H⟩
    · have := ready_mono hj hji
      rw [H.1] at this
      cases this
  | succ fuel ih =>
    intro listed a w hfree hr hy hS H
    refine ⟨fun h => (by rw [h] at hr; cases hr), fun j hj => ?_⟩
    by_cases hji : j = i
    · subst hji; exact yields_opP hi hy hS ⟨fun _ => hS, H⟩
    · have h1 := H.2 j (ready_mono hj hji)
      obtain ⟨hjun, oj, hoj, hall⟩ := mem_ready.1 hj
      have hnot := hnot_of (j := j) hr hall
      have hf := hfree j oj hoj hji hjun hnot
      have h2 := opP_put hoj hf.1 (fun cs b => hsel i oi cs b hi) (fun cs b => hsel j oj cs b hoj) hQ hy h1
      have hfree' : ∀ k ok, ops[k]? = some ok → k ≠ i → (listed.setIfInBounds j true).getD k true = false →
          (∀ e ∈ ok.after, Region.binds md e = true → e.on ≠ i) → oi.apart ops ok = true ∧ early k = true := fun k ok hk hki hun hno => by
        refine hfree k ok hk hki ?_ hno
        by_cases hjk : j = k
        · subst hjk; exact hjun
        · rw [getD_set_ne true hjk] at hun; exact hun
      refine opP_mono (fun a' w' h3 => ⟨h3.2.1, ih (listed.setIfInBounds j true) a' w' hfree' (ready_mono hr (Ne.symm hji)) h3.1 (h3.2.1 hf.2) ?_⟩) h2
      rw [Array.setIfInBounds_comm _ _ hji]
      exact h3.2.2
/-- The same, shut. -/
structure AnyR (P : Program) (md : Region.Mode) (ops : Array Oper) (Q : Exit → Act → World → Prop) (S : World → Prop) (early : Nat → Bool) (fuel : Nat) (listed : Array Bool) (a : Act) (w : World) : Prop where
  out : anyR P md ops Q S early fuel listed a w
theorem anyR_take0 {i : Nat} {oi : Oper} {v : Value} {fuel : Nat} {listed : Array Bool} {a : Act} {w : World} (hi : ops[i]? = some oi)
    (hs : (Region.noSelect ops && Region.free md ops listed i && (Region.ready md ops listed).contains i && !early i) = true)
    (hQ : ∀ c a w, Q (.panic c) (a.put oi.dst v) w → Q (.panic c) a w) (hy : Yields P ops oi v a)
    (h : AnyR P md ops Q S early fuel (listed.setIfInBounds i true) (a.put oi.dst v) w) : AnyR P md ops Q S early (fuel + 1) listed a w := by
  simp only [Bool.and_eq_true, Bool.not_eq_true'] at hs
  exact ⟨anyR_first0 hi (Region.noSelect_spec hs.1.1.1) hQ hs.2 fuel listed a w (Region.free_spec hi hs.1.1.2) (by simpa using hs.1.2) hy h.out⟩
theorem anyR_take {i : Nat} {oi : Oper} {v : Value} {fuel : Nat} {listed : Array Bool} {a : Act} {w : World} (hi : ops[i]? = some oi)
    (hs : (Region.noSelect ops && Region.free md ops listed i && (Region.ready md ops listed).contains i && allEarly md ops early listed i) = true)
    (hQ : ∀ c a w, Q (.panic c) (a.put oi.dst v) w → Q (.panic c) a w) (hy : YieldsIf P ops S oi v a) (hS : S w)
    (h : AnyR P md ops Q S early fuel (listed.setIfInBounds i true) (a.put oi.dst v) w) : AnyR P md ops Q S early (fuel + 1) listed a w := by
  simp only [Bool.and_eq_true] at hs
  exact ⟨anyR_firstS hi (Region.noSelect_spec hs.1.1.1) hQ fuel listed a w (fun j oj hj hne hun hno => ⟨Region.free_spec hi hs.1.1.2 j oj hj hne hun hno, allEarly_spec hs.2 j oj hj hne hun hno⟩) (by simpa using hs.1.2) hy hS h.out⟩
def ReadyR (P : Program) (md : Region.Mode) (ops : Array Oper) (Q : Exit → Act → World → Prop) (S : World → Prop) (early : Nat → Bool) (fuel : Nat) (listed : Array Bool) (a : Act) (w : World) (rs : List Nat) : Prop :=
  ∀ i ∈ rs, opP P ops Q i (fun a' w' => (early i = true → S w') ∧ AnyR P md ops Q S early fuel (listed.setIfInBounds i true) a' w') a w
theorem ReadyR.nil {fuel : Nat} {listed : Array Bool} {a : Act} {w : World} : ReadyR P md ops Q S early fuel listed a w [] := fun _ h => by cases h
theorem ReadyR.cons {fuel : Nat} {listed : Array Bool} {a : Act} {w : World} {i : Nat} {o : Oper} {rs : List Nat} (ho : ops[i]? = some o)
    (h : ∀ K' : Act → World → Prop, Shut (∀ a w, (early i = true → S w) → AnyR P md ops Q S early fuel (listed.setIfInBounds i true) a w → K' a w) → if Region.wanted o (yielded ops a.tmps) = true then Oper.wp P o a w K' Q else K' (a.put o.dst undef) w)
    (hs : ReadyR P md ops Q S early fuel listed a w rs) : ReadyR P md ops Q S early fuel listed a w (i :: rs) := fun j hj => by
  rcases List.mem_cons.1 hj with rfl | hj
  · have := h (fun a' w' => (early j = true → S w') ∧ AnyR P md ops Q S early fuel (listed.setIfInBounds j true) a' w') (fun a w hS hW => ⟨hS, hW⟩)
    unfold opP
    rw [ho]
    exact this
  · exact hs j hj
theorem anyR_ready {rs : List Nat} {fuel : Nat} {listed : Array Bool} {a : Act} {w : World} (hr : Region.ready md ops listed = rs) (hne : rs ≠ [])
    (h : ReadyR P md ops Q S early fuel listed a w rs) : AnyR P md ops Q S early (fuel + 1) listed a w :=
  ⟨fun h0 => absurd (hr ▸ h0) hne, hr ▸ fun i hi => opP_mono (fun a' w' h' => ⟨h'.1, h'.2.out⟩) (h i hi)⟩
theorem anyR_done {listed : Array Bool} {a : Act} {w : World} (hr : Region.ready md ops listed = []) (h : Q .normal a w) : ∀ fuel, AnyR P md ops Q S early fuel listed a w
  | 0 => ⟨⟨hr, h⟩⟩
  | _ + 1 => ⟨⟨fun _ => h, by rw [hr]; simp⟩⟩
theorem wp_region_R (S : World → Prop) (early : Nat → Bool) {id : Nat} {a : Act} {w : World} (hm : P.follows .mixedOrders = true)
    (h : AnyR P .any ops Q S early ops.size (Array.replicate ops.size false) a w.drew) : (Code.region id ops true).wp P Q a w :=
  wp_region_any hm (any_of_R _ _ _ _ h.out)
theorem wp_region_RIn (S : World → Prop) (early : Nat → Bool) {l n id : Nat} {a : Act} {w : World} (hm : P.follows .mixedOrders = true) (hnd : noDefer ops = true)
    (h : AnyR P .any ops Q S early ops.size (Array.replicate ops.size false) a w.drew) : (Code.region id ops true).wpIn (Fence.wide.inRound l) n P Q a w :=
  wpIn_region_any hm (any_in hnd _ _ _ _ h.out)
end
end Go.Proofs.Ytfefldkljbbbpaa
set_option linter.unusedVariables false
set_option linter.unusedSimpArgs false
namespace Go.Proofs.Ytfefldkljbbbpaa
open Go.RowKit Go.Proofs.YtfefldkljbbbpaaW.PrintWords Go.Proofs.YtfefldkljbbbpaaW.PrintLast Go.Proofs.YtfefldkljbbbpaaW.PrintMore
abbrev Pl := PTreeSame.S28
abbrev Tk := PTreeSame.S30
abbrev Ev := PTreeSame.S32
abbrev Nd := PTreeSame.S35
abbrev kTk := PTreeSame.k30
abbrev kEv := PTreeSame.k32
abbrev kNd := PTreeSame.k35
abbrev TN : TypeId := 35
def noTk : Tk := ⟨0, ⟨#[]⟩, ⟨0, 0, 0⟩, 0⟩
def noNd : Nd := ⟨0, noTk, []⟩
/-- A node's eight cells. -/
def ndCells (k : Int) (t : Tk) (v : Value) : List Value := [.int .u8 k, .int .u8 t.f0, .string t.f1, .int .i64 t.f2.f0, .int .i64 t.f2.f1, .int .i64 t.f2.f2, .int .i64 t.f3, v]
theorem ndCells_len (k : Int) (t : Tk) (v : Value) : (ndCells k t v).length = 8 := rfl
mutual
/-- A node in cells cs, its lists in blocks of F, no two in the same. -/
def Own (w : World) (base : Nat) : Nd → List Value → (Nat → Prop) → Prop
  | ⟨k, t, kids⟩, cs, F => ∃ v cells G, cs = ndCells k t v ∧ w.ownsRow base TN 8 v kids.length cells ∧ OwnL w base kids cells G ∧ (∀ b, v.ownBlock = some b → F b ∧ ¬ G b) ∧ (∀ b, G b → F b)
def OwnL (w : World) (base : Nat) : List Nd → List Value → (Nat → Prop) → Prop
  | [], cells, _ => cells = []
  | x :: xs, cells, F => ∃ c cs G1 G2, cells = c ++ cs ∧ Own w base x c G1 ∧ OwnL w base xs cs G2 ∧ (∀ b, G1 b → F b) ∧ (∀ b, G2 b → F b) ∧ (∀ b, G1 b → ¬ G2 b)
end
/-- A list of nodes of one's own. -/
def OwnS (w : World) (base : Nat) (v : Value) (kids : List Nd) (F : Nat → Prop) : Prop := ∃ cells G, w.ownsRow base TN 8 v kids.length cells ∧ OwnL w base kids cells G ∧ (∀ b, v.ownBlock = some b → F b ∧ ¬ G b) ∧ (∀ b, G b → F b)
theorem own_iff {w : World} {base : Nat} {x : Nd} {cs : List Value} {F : Nat → Prop} : Own w base x cs F ↔ ∃ v, cs = ndCells x.f0 x.f1 v ∧ OwnS w base v x.f2 F := by
  obtain ⟨k, t, kids⟩ := x
  rw [Own]
  constructor
  · rintro ⟨v, cells, G, h1, h2, h3, h4, h5⟩
    exact ⟨v, h1, cells, G, h2, h3, h4, h5⟩
  · rintro ⟨v, h1, cells, G, h2, h3, h4, h5⟩
    exact ⟨v, cells, G, h1, h2, h3, h4, h5⟩
theorem own_mono {w : World} {base : Nat} {x : Nd} {cs : List Value} {F F' : Nat → Prop} (h : Own w base x cs F) (hF : ∀ b, F b → F' b) : Own w base x cs F' := by
  rw [own_iff] at h ⊢
  obtain ⟨v, h1, cells, G, h2, h3, h4, h5⟩ := h
  exact ⟨v, h1, cells, G, h2, h3, fun b hb => ⟨hF b (h4 b hb).1, (h4 b hb).2⟩, fun b hb => hF b (h5 b hb)⟩
theorem ownL_mono {w : World} {base : Nat} {xs : List Nd} {cs : List Value} {F F' : Nat → Prop} (h : OwnL w base xs cs F) (hF : ∀ b, F b → F' b) : OwnL w base xs cs F' := by
  cases xs with
  | nil => exact h
  | cons x xs =>
    rw [OwnL] at h ⊢
    obtain ⟨c, cs', G1, G2, h1, h2, h3, h4, h5, h6⟩ := h
    exact ⟨c, cs', G1, G2, h1, h2, h3, fun b hb => hF b (h4 b hb), fun b hb => hF b (h5 b hb), h6⟩
theorem ownS_mono {w : World} {base : Nat} {v : Value} {kids : List Nd} {F F' : Nat → Prop} (h : OwnS w base v kids F) (hF : ∀ b, F b → F' b) : OwnS w base v kids F' := by
  obtain ⟨cells, G, h2, h3, h4, h5⟩ := h
  exact ⟨cells, G, h2, h3, fun b hb => ⟨hF b (h4 b hb).1, (h4 b hb).2⟩, fun b hb => hF b (h5 b hb)⟩
theorem own_len {w : World} {base : Nat} {x : Nd} {cs : List Value} {F : Nat → Prop} (h : Own w base x cs F) : cs.length = 8 := by
  rw [own_iff] at h
  obtain ⟨v, rfl, _⟩ := h
  rfl
theorem ownL_len {w : World} {base : Nat} : ∀ {xs : List Nd} {cs : List Value} {F : Nat → Prop}, OwnL w base xs cs F → cs.length = xs.length * 8
  | [], cs, F, h => by rw [OwnL] at h; subst h; rfl
  | x :: xs, cs, F, h => by
    rw [OwnL] at h
    obtain ⟨c, cs', G1, G2, rfl, h2, h3, _⟩ := h
    have := own_len h2
    have := ownL_len h3
    simp only [List.length_append, List.length_cons]
    omega
theorem row_move {w w1 : World} {base : Nat} {e : TypeId} {size n : Nat} {v : Value} {xs : List Value} (h : w.ownsRow base e size v n xs) (hm : ∀ k, v.ownBlock = some k → w1.heap[k]? = w.heap[k]?) : w1.ownsRow base e size v n xs := Go.Proofs.YtfefldkljbbbpaaW.PrintWords.own_move h hm
mutual
/-- What is in no block of F may change. -/
theorem own_move {w w1 : World} {base : Nat} : ∀ (x : Nd) {cs : List Value} {F : Nat → Prop}, Own w base x cs F → (∀ b, F b → w1.heap[b]? = w.heap[b]?) → Own w1 base x cs F
  | ⟨k, t, kids⟩, cs, F, h, hm => by
    rw [Own] at h ⊢
    obtain ⟨v, cells, G, h1, h2, h3, h4, h5⟩ := h
    exact ⟨v, cells, G, h1, row_move h2 (fun b hb => hm b (h4 b hb).1), ownL_move kids h3 (fun b hb => hm b (h5 b hb)), h4, h5⟩
theorem ownL_move {w w1 : World} {base : Nat} : ∀ (xs : List Nd) {cs : List Value} {F : Nat → Prop}, OwnL w base xs cs F → (∀ b, F b → w1.heap[b]? = w.heap[b]?) → OwnL w1 base xs cs F
  | [], cs, F, h, _ => by rw [OwnL] at h ⊢; exact h
  | x :: xs, cs, F, h, hm => by
    rw [OwnL] at h ⊢
    obtain ⟨c, cs', G1, G2, h1, h2, h3, h4, h5, h6⟩ := h
    exact ⟨c, cs', G1, G2, h1, own_move x h2 (fun b hb => hm b (h4 b hb)), ownL_move xs h3 (fun b hb => hm b (h5 b hb)), h4, h5, h6⟩
end
/-- A block that a tree may lie in. -/
def Lies (w : World) (base b : Nat) : Prop := base ≤ b ∧ b < w.heap.size ∧ ∃ cells, w.heap[b]? = some (.cells cells TN (0, 0))
theorem row_lies {w : World} {base n : Nat} {v : Value} {xs : List Value} (h : w.ownsRow base TN 8 v n xs) (b : Nat) (hb : v.ownBlock = some b) : Lies w base b := ⟨own_base h b hb, own_lt h b hb, own_typed h b hb⟩
mutual
theorem own_bound {w : World} {base : Nat} : ∀ (x : Nd) {cs : List Value} {F : Nat → Prop}, Own w base x cs F → Own w base x cs (fun b => F b ∧ Lies w base b)
  | ⟨k, t, kids⟩, cs, F, h => by
    rw [Own] at h ⊢
    obtain ⟨v, cells, G, h1, h2, h3, h4, h5⟩ := h
    exact ⟨v, cells, _, h1, h2, ownL_bound kids h3, fun b hb => ⟨⟨(h4 b hb).1, row_lies h2 b hb⟩, fun hg => (h4 b hb).2 hg.1⟩, fun b hb => ⟨h5 b hb.1, hb.2⟩⟩
theorem ownL_bound {w : World} {base : Nat} : ∀ (xs : List Nd) {cs : List Value} {F : Nat → Prop}, OwnL w base xs cs F → OwnL w base xs cs (fun b => F b ∧ Lies w base b)
  | [], cs, F, h => by rw [OwnL] at h ⊢; exact h
  | x :: xs, cs, F, h => by
    rw [OwnL] at h ⊢
    obtain ⟨c, cs', G1, G2, h1, h2, h3, h4, h5, h6⟩ := h
    exact ⟨c, cs', _, _, h1, own_bound x h2, ownL_bound xs h3, fun b hb => ⟨h4 b hb.1, hb.2⟩, fun b hb => ⟨h5 b hb.1, hb.2⟩, fun b hb hc => h6 b hb.1 hc.1⟩
end
theorem ownS_bound {w : World} {base : Nat} {v : Value} {kids : List Nd} {F : Nat → Prop} (h : OwnS w base v kids F) : OwnS w base v kids (fun b => F b ∧ Lies w base b) := by
  obtain ⟨cells, G, h2, h3, h4, h5⟩ := h
  exact ⟨cells, _, h2, ownL_bound kids h3, fun b hb => ⟨⟨(h4 b hb).1, row_lies h2 b hb⟩, fun hg => (h4 b hb).2 hg.1⟩, fun b hb => ⟨h5 b hb.1, hb.2⟩⟩
theorem ownS_move {w w1 : World} {base : Nat} {v : Value} {kids : List Nd} {F : Nat → Prop} (h : OwnS w base v kids F) (hm : ∀ b, F b → w1.heap[b]? = w.heap[b]?) : OwnS w1 base v kids F := by
  obtain ⟨cells, G, h2, h3, h4, h5⟩ := h
  exact ⟨cells, G, row_move h2 (fun b hb => hm b (h4 b hb).1), ownL_move kids h3 (fun b hb => hm b (h5 b hb)), h4, h5⟩
theorem own_step {w w1 : World} {base : Nat} {x : Nd} {cs : List Value} {F : Nat → Prop} (h : Own w base x cs F) (hm : ∀ b, F b → Lies w base b → w1.heap[b]? = w.heap[b]?) : Own w1 base x cs F := own_mono (own_move x (own_bound x h) (fun b hb => hm b hb.1 hb.2)) (fun _ hb => hb.1)
theorem ownL_step {w w1 : World} {base : Nat} {xs : List Nd} {cs : List Value} {F : Nat → Prop} (h : OwnL w base xs cs F) (hm : ∀ b, F b → Lies w base b → w1.heap[b]? = w.heap[b]?) : OwnL w1 base xs cs F := ownL_mono (ownL_move xs (ownL_bound xs h) (fun b hb => hm b hb.1 hb.2)) (fun _ hb => hb.1)
theorem ownS_step {w w1 : World} {base : Nat} {v : Value} {kids : List Nd} {F : Nat → Prop} (h : OwnS w base v kids F) (hm : ∀ b, F b → Lies w base b → w1.heap[b]? = w.heap[b]?) : OwnS w1 base v kids F := ownS_mono (ownS_move (ownS_bound h) (fun b hb => hm b hb.1 hb.2)) (fun _ hb => hb.1)
theorem own_below {w w1 : World} {base : Nat} {x : Nd} {cs : List Value} {F : Nat → Prop} (h : Own w base x cs F) (hb : Below w.heap.size w w1) : Own w1 base x cs F := own_step h (fun b _ hl => hb.block b hl.2.1)
theorem ownS_below {w w1 : World} {base : Nat} {v : Value} {kids : List Nd} {F : Nat → Prop} (h : OwnS w base v kids F) (hb : Below w.heap.size w w1) : OwnS w1 base v kids F := ownS_step h (fun b _ hl => hb.block b hl.2.1)
mutual
theorem own_lower {w : World} {base base' : Nat} (hle : base' ≤ base) : ∀ (x : Nd) {cs : List Value} {F : Nat → Prop}, Own w base x cs F → Own w base' x cs F
  | ⟨k, t, kids⟩, cs, F, h => by
    rw [Own] at h ⊢
    obtain ⟨v, cells, G, h1, h2, h3, h4, h5⟩ := h
    exact ⟨v, cells, G, h1, own_weaken h2 hle, ownL_lower hle kids h3, h4, h5⟩
theorem ownL_lower {w : World} {base base' : Nat} (hle : base' ≤ base) : ∀ (xs : List Nd) {cs : List Value} {F : Nat → Prop}, OwnL w base xs cs F → OwnL w base' xs cs F
  | [], cs, F, h => by rw [OwnL] at h ⊢; exact h
  | x :: xs, cs, F, h => by
    rw [OwnL] at h ⊢
    obtain ⟨c, cs', G1, G2, h1, h2, h3, h4, h5, h6⟩ := h
    exact ⟨c, cs', G1, G2, h1, own_lower hle x h2, ownL_lower hle xs h3, h4, h5, h6⟩
end
theorem ownS_lower {w : World} {base base' : Nat} (hle : base' ≤ base) {v : Value} {kids : List Nd} {F : Nat → Prop} (h : OwnS w base v kids F) : OwnS w base' v kids F := by
  obtain ⟨cells, G, h2, h3, h4, h5⟩ := h
  exact ⟨cells, G, own_weaken h2 hle, ownL_lower hle kids h3, h4, h5⟩
theorem ownL_append {w : World} {base : Nat} : ∀ {xs ys : List Nd} {cs ds : List Value} {F1 F2 : Nat → Prop}, OwnL w base xs cs F1 → OwnL w base ys ds F2 → (∀ b, F1 b → ¬ F2 b) → OwnL w base (xs ++ ys) (cs ++ ds) (fun b => F1 b ∨ F2 b)
  | [], ys, cs, ds, F1, F2, h1, h2, h3 => by
    rw [OwnL] at h1
    subst h1
    exact ownL_mono h2 (fun _ hb => .inr hb)
  | x :: xs, ys, cs, ds, F1, F2, h1, h2, h3 => by
    rw [OwnL] at h1
    obtain ⟨c, cs', G1, G2, rfl, a1, a2, a3, a4, a5⟩ := h1
    rw [List.cons_append, OwnL]
    refine ⟨c, cs' ++ ds, G1, fun b => G2 b ∨ F2 b, by rw [List.append_assoc], a1, ownL_append a2 h2 (fun b hb => h3 b (a4 b hb)), fun b hb => .inl (a3 b hb), fun b hb => ?_, fun b hb hc => ?_⟩
    · rcases hb with hb | hb
      · exact .inl (a4 b hb)
      · exact .inr hb
    · rcases hc with hc | hc
      · exact a5 b hb hc
      · exact h3 b (a3 b hb) hc
theorem ownL_parts {w : World} {base : Nat} : ∀ {xs ys : List Nd} {cells : List Value} {F : Nat → Prop}, OwnL w base (xs ++ ys) cells F → ∃ cs ds F1 F2, cells = cs ++ ds ∧ OwnL w base xs cs F1 ∧ OwnL w base ys ds F2 ∧ (∀ b, F1 b → F b) ∧ (∀ b, F2 b → F b) ∧ (∀ b, F1 b → ¬ F2 b)
  | [], ys, cells, F, h => ⟨[], cells, fun _ => False, F, rfl, by rw [OwnL], h, fun _ hb => hb.elim, fun _ hb => hb, fun _ hb => hb.elim⟩
  | x :: xs, ys, cells, F, h => by
    rw [List.cons_append, OwnL] at h
    obtain ⟨c, cs', G1, G2, rfl, a1, a2, a3, a4, a5⟩ := h
    obtain ⟨cs, ds, F1, F2, rfl, b1, b2, b3, b4, b5⟩ := ownL_parts a2
    refine ⟨c ++ cs, ds, fun b => G1 b ∨ F1 b, F2, by rw [List.append_assoc], ?_, b2, fun b hb => ?_, fun b hb => a4 b (b4 b hb), fun b hb hc => ?_⟩
    · rw [OwnL]
      exact ⟨c, cs, G1, F1, rfl, a1, b1, fun _ hb => .inl hb, fun _ hb => .inr hb, fun b hb hc => a5 b hb (b3 b hc)⟩
    · rcases hb with hb | hb
      · exact a3 b hb
      · exact a4 b (b3 b hb)
    · rcases hb with hb | hb
      · exact a5 b hb (b4 b hc)
      · exact b5 b hb hc
theorem ownL_one {w : World} {base : Nat} {x : Nd} {c : List Value} {F : Nat → Prop} : OwnL w base [x] c F ↔ Own w base x c F := by
  rw [OwnL]
  constructor
  · rintro ⟨c', cs, G1, G2, rfl, h1, h2, h3, _⟩
    rw [OwnL] at h2
    subst h2
    rw [List.append_nil]
    exact own_mono h1 h3
  · intro h
    exact ⟨c, [], F, fun _ => False, by rw [List.append_nil], h, by rw [OwnL], fun _ hb => hb, fun _ hb => hb.elim, fun _ _ hb => hb⟩
theorem ownS_nil (w : World) (base : Nat) (F : Nat → Prop) : OwnS w base (.slice none 0 0) [] F := ⟨[], fun _ => False, ⟨rfl, .inl ⟨rfl, rfl⟩⟩, by rw [OwnL], fun b hb => by simp [Value.ownBlock] at hb, fun _ hb => hb.elim⟩
theorem row_C {w : World} {base : Nat} {v : Value} {kids : List Nd} {cells : List Value} (h : w.ownsRow base TN 8 v kids.length cells) (hl : Reps (kNd.K w) 8 kids cells) : ∃ A c, v = .slice A kids.length c ∧ kids.length ≤ c ∧ Kd.C kNd w A kids.length kids := by
  obtain ⟨A, c, hv, hr⟩ := own_reads_row (size := 8) h hl rfl
  refine ⟨A, c, hv, ?_, hr⟩
  rcases h.2 with ⟨he, hn⟩ | ⟨g, cap, cur, he, _, _, hc, _⟩
  · omega
  · rw [hv] at he
    injection he with _ _ he
    omega
mutual
theorem own_K {w : World} {base : Nat} : ∀ (x : Nd) {cs : List Value} {F : Nat → Prop}, Own w base x cs F → kNd.K w x cs
  | ⟨k, t, kids⟩, cs, F, h => by
    rw [Own] at h
    obtain ⟨v, cells, G, rfl, h2, h3, h4, h5⟩ := h
    obtain ⟨A, c, rfl, hc, hr⟩ := row_C h2 (ownL_reps kids h3)
    exact PTreeSame.k35_mk w ⟨k, t, kids⟩ hc hr
theorem ownL_reps {w : World} {base : Nat} : ∀ (xs : List Nd) {cs : List Value} {F : Nat → Prop}, OwnL w base xs cs F → Reps (kNd.K w) 8 xs cs
  | [], cs, F, h => by rw [OwnL] at h; subst h; exact Reps.none _ _
  | x :: xs, cs, F, h => by
    rw [OwnL] at h
    obtain ⟨c, cs', G1, G2, rfl, h2, h3, _⟩ := h
    have := Kd.reps_append ((Reps.none (kNd.K w) 8).snoc (own_K x h2) (own_len h2)) (ownL_reps xs h3)
    simpa using this
end
theorem ownS_C {w : World} {base : Nat} {v : Value} {kids : List Nd} {F : Nat → Prop} (h : OwnS w base v kids F) : ∃ A c, v = .slice A kids.length c ∧ kids.length ≤ c ∧ Kd.C kNd w A kids.length kids := by
  obtain ⟨cells, G, h2, h3, _⟩ := h
  exact row_C h2 (ownL_reps kids h3)
theorem grown_S {W w1 : World} {base : Nat} {v v1 : Value} {kids : List Nd} {cells cs : List Value} {F G Fx : Nat → Prop} {x : Nd} (h2 : W.ownsRow base TN 8 v kids.length cells) (h3 : OwnL W base kids cells G) (h4 : ∀ b, v.ownBlock = some b → F b ∧ ¬ G b) (h5 : ∀ b, G b → F b)
    (hx : Own W base x cs Fx) (hd : ∀ b, F b → ¬ Fx b) (ho : w1.ownsRow base TN 8 v1 (kids.length + 1) (cells ++ cs)) (hg : W.grownBy w1 v.ownBlock) (hat : v1.ownBlock = v.ownBlock ∨ ∃ b, v1.ownBlock = some b ∧ W.heap.size ≤ b) :
    OwnS w1 base v1 (kids ++ [x]) (fun b => F b ∨ Fx b ∨ W.heap.size ≤ b) := by
  have a3 : OwnL w1 base kids cells (fun b => G b ∧ Lies W base b) := ownL_move kids (ownL_bound kids h3) (fun b hb => hg.block b hb.2.2.1 (fun he => (h4 b he.symm).2 hb.1))
  have ax : Own w1 base x cs (fun b => Fx b ∧ Lies W base b) := own_move x (own_bound x hx) (fun b hb => hg.block b hb.2.2.1 (fun he => hd b (h4 b he.symm).1 hb.1))
  refine ⟨cells ++ cs, _, by rw [List.length_append, List.length_singleton]; exact ho, ownL_append a3 (ownL_one.2 ax) (fun b hb hc => hd b (h5 b hb.1) hc.1), fun b hb => ?_, fun b hb => ?_⟩
  · rcases hat with he | ⟨b', he, hle⟩
    · rw [he] at hb
      refine ⟨.inl (h4 b hb).1, fun hc => ?_⟩
      rcases hc with hc | hc
      · exact (h4 b hb).2 hc.1
      · exact hd b (h4 b hb).1 hc.1
    · rw [he] at hb
      obtain rfl := Option.some.inj hb
      refine ⟨.inr (.inr hle), fun hc => ?_⟩
      rcases hc with hc | hc
      · have := hc.2.2.1; omega
      · have := hc.2.2.1; omega
  · rcases hb with hb | hb
    · exact .inl (h5 b hb.1)
    · exact .inr (.inl hb.1)
theorem kid_own (w : World) (base : Nat) (k : Int) (t : Tk) (F : Nat → Prop) : Own w base ⟨k, t, []⟩ (ndCells k t (.slice none 0 0)) F := own_iff.2 ⟨_, rfl, ownS_nil w base F⟩
structure TopsX (w : World) (base g cap : Nat) (S : List Nd) (t : Nd) (u : Value) (F : Nat → Prop) (cells : List Value) (G1 G2 : Nat → Prop) (kc : List Value) (Gk : Nat → Prop) : Prop where
  row : w.ownsRow base TN 8 (.slice (some ⟨g, 0, none⟩) (S.length + 1) cap) (S.length + 1) (cells ++ ndCells t.f0 t.f1 u)
  rest : OwnL w base S cells G1
  krow : w.ownsRow base TN 8 u t.f2.length kc
  kids : OwnL w base t.f2 kc Gk
  own : ∀ b, u.ownBlock = some b → G2 b ∧ ¬ Gk b
  sub : ∀ b, Gk b → G2 b
  apart : ∀ b, G1 b → ¬ G2 b
  n1 : ¬ G1 g
  n2 : ¬ G2 g
  fg : F g
  f1 : ∀ b, G1 b → F b
  f2 : ∀ b, G2 b → F b
structure Tops (w : World) (base g cap : Nat) (S : List Nd) (t : Nd) (u : Value) (F : Nat → Prop) : Prop where
  top : ∃ (cells : List Value) (G1 G2 : Nat → Prop) (kc : List Value) (Gk : Nat → Prop), TopsX w base g cap S t u F cells G1 G2 kc Gk
theorem tops_of {w : World} {base : Nat} {v : Value} {S : List Nd} {t : Nd} {F : Nat → Prop} (h : OwnS w base v (S ++ [t]) F) : ∃ g cap u, v = .slice (some ⟨g, 0, none⟩) (S.length + 1) cap ∧ Tops w base g cap S t u F := by
  obtain ⟨cells, G, h2, h3, h4, h5⟩ := h
  obtain ⟨cs, ds, F1, F2, rfl, b1, b2, b3, b4, b5⟩ := ownL_parts h3
  rw [ownL_one, own_iff] at b2
  obtain ⟨u, rfl, kc, Gk, c2, c3, c4, c5⟩ := b2
  rw [List.length_append, List.length_singleton] at h2
  rcases h2.2 with ⟨_, hn⟩ | ⟨g, cap, cur, rfl, r⟩
  · omega
  · have hg := h4 g rfl
    exact ⟨g, cap, u, rfl, ⟨cs, F1, F2, kc, Gk, h2, b1, c2, c3, c4, c5, b5, fun hb => hg.2 (b3 g hb), fun hb => hg.2 (b4 g hb), hg.1, fun b hb => h5 b (b3 b hb), fun b hb => h5 b (b4 b hb)⟩⟩
theorem tops_back {w : World} {base g cap : Nat} {S : List Nd} {t : Nd} {u : Value} {F : Nat → Prop} (h : Tops w base g cap S t u F) : OwnS w base (.slice (some ⟨g, 0, none⟩) (S.length + 1) cap) (S ++ [t]) F := by
  obtain ⟨cells, G1, G2, kc, Gk, h1, h2, h3, h4, h5, h6, h7, h8, h9, h10, h11, h12⟩ := h.top
  refine ⟨cells ++ ndCells t.f0 t.f1 u, fun b => G1 b ∨ G2 b, by rw [List.length_append, List.length_singleton]; exact h1, ownL_append h2 (ownL_one.2 (own_iff.2 ⟨u, rfl, kc, Gk, h3, h4, h5, h6⟩)) h7, fun b hb => ?_, fun b hb => ?_⟩
  · have : g = b := by simpa [Value.ownBlock] using hb
    subst this
    exact ⟨h10, fun hc => hc.elim h8 h9⟩
  · rcases hb with hb | hb
    · exact h11 b hb
    · exact h12 b hb
/-- Where the last one's cells lie. -/
theorem row_at {w : World} {base g cap n : Nat} {cells : List Value} (h : w.ownsRow base TN 8 (.slice (some ⟨g, 0, none⟩) n cap) n cells) (j : Nat) (v : Value) (hj : cells[j]? = some v) : w.cell? ⟨g, j, none⟩ = some v ∧ w.frozen? ⟨g, j, none⟩ = false := by
  rcases h.2 with ⟨he, _⟩ | ⟨g', cap', cur, he, hb, hh, hl, _, hs, ht⟩
  · cases he
  · injection he with he
    injection he with he
    injection he with he
    subst he
    have hjl := (List.getElem?_eq_some_iff.1 hj).1
    rw [h.1] at hjl
    refine ⟨?_, by simp [World.frozen?, hh]⟩
    rw [← ht, List.getElem?_take_of_lt hjl, Array.getElem?_toList] at hj
    rw [cell_of_row _ _ _ _ _ _ hh]
    exact hj
theorem top_at {w : World} {base g cap : Nat} {S : List Nd} {t : Nd} {u : Value} {F : Nat → Prop} (h : Tops w base g cap S t u F) (j : Nat) (v : Value) (hj : (ndCells t.f0 t.f1 u)[j]? = some v) : w.cell? ⟨g, S.length * 8 + j, none⟩ = some v ∧ w.frozen? ⟨g, S.length * 8 + j, none⟩ = false := by
  obtain ⟨cells, G1, G2, kc, Gk, h1, h2, _⟩ := h.top
  have hl := ownL_len h2
  refine row_at h1 _ v ?_
  rw [List.getElem?_append_right (by omega), show S.length * 8 + j - cells.length = j by omega]
  exact hj
theorem top_slice {w : World} {base g cap : Nat} {S : List Nd} {t : Nd} {u : Value} {F : Nat → Prop} (h : Tops w base g cap S t u F) : ∃ A c, u = .slice A t.f2.length c := by
  obtain ⟨cells, G1, G2, kc, Gk, h1, h2, h3, _⟩ := h.top
  exact own_slice h3
end Go.Proofs.Ytfefldkljbbbpaa
set_option linter.unusedVariables false
set_option linter.unusedSimpArgs false
namespace Go.Proofs.Ytfefldkljbbbpaa
open Go.RowKit Go.Proofs.YtfefldkljbbbpaaW.PrintWords Go.Proofs.YtfefldkljbbbpaaW.PrintLast Go.Proofs.YtfefldkljbbbpaaW.PrintMore
theorem infoNd : (Try.prog.info? 35).map (fun i => (i.zero, i.size, i.bytes)) = some (some (.agg #[(.int .u8 0), (.int .u8 0), (.string ⟨#[]⟩), (.int .i64 0), (.int .i64 0), (.int .i64 0), (.int .i64 0), (.slice none 0 0)]), 8, 88) := by kernel_rfl
theorem infoNdS : (Try.prog.info? 33).map (·.size) = some 1 := by kernel_rfl
theorem infoNd8 : (Try.prog.info? 35).map (·.size) = some 8 := by kernel_rfl
theorem ndCells_one (k : Int) (t : Tk) {v : Value} (hv : v.oneCell' = true) : ∀ u ∈ ndCells k t v, u.oneCell' = true := by
  intro u hu
  simp only [ndCells, List.mem_cons, List.not_mem_nil, or_false] at hu
  rcases hu with rfl | rfl | rfl | rfl | rfl | rfl | rfl | rfl <;> first | rfl | exact hv
/-- append(u, x) of one node, at the level of a run; what is laid is a list with a head. -/
theorem run_kid {W : World} (base : Nat) (ty : TypeId) {u : Value} {q : Nat} {kc cs : List Value} (HO : W.ownsRow base TN 8 u q kc) (hcs : cs.length = 8) (h1 : ∀ v ∈ cs, v.oneCell' = true) (hbase : base ≤ W.heap.size) (hl : (q + 1) * 88 ≤ 140737488355328) :
    ∃ g1 c1 w1, (Builtin.append_ #[33, 33] ty #[u, .slice (some ⟨W.heap.size, 0, none⟩) 1 1]).run Try.prog (W.alloc (.cells cs.toArray TN)) = .ok (.slice (some ⟨g1, 0, none⟩) (q + 1) c1) w1 ∧
      w1.ownsRow base TN 8 (.slice (some ⟨g1, 0, none⟩) (q + 1) c1) (q + 1) (kc ++ cs) ∧ W.grownBy w1 u.ownBlock ∧ (u.ownBlock = some g1 ∨ W.heap.size < g1) := by
  obtain ⟨i0, hi, hzz⟩ := Option.map_eq_some_iff.1 infoNd
  simp only [Prod.mk.injEq] at hzz
  obtain ⟨hz0, hz1, hz2⟩ := hzz
  obtain ⟨v1, w1, hr, ho, hg, _, hat⟩ := run_append_own_at (P := Try.prog) (W.alloc (.cells cs.toArray TN)) base 33 ty TN i0 _ 8 88 Try.underlying33 hi hz0 hz1 hz2 rfl (by decide) u q kc (HO.alloc _) ⟨W.heap.size, 0, none⟩ 1 1 cs (by rw [hcs])
    (by simpa using World.news_of_block (cs := cs.toArray) (t := TN) (fr := (0, 0)) (heap_alloc_new W (.cells cs.toArray TN))) h1 (by simp only [maxLen]; omega) hl (by rw [World.size_alloc]; omega)
  have ho' := ho
  rcases ho.2 with ⟨_, hn⟩ | ⟨g1, c1, cur, rfl, _⟩
  · omega
  · refine ⟨g1, c1, w1, hr, ho', World.grownBy.trans (World.grownBy_alloc W _ _) hg, ?_⟩
    rcases hat with he | he
    · exact .inl he.symm
    · rw [World.size_alloc] at he
      have : g1 = W.heap.size + 1 := by simpa [Value.ownBlock] using he
      exact .inr (by omega)
section
variable {ops : Array Oper} {o : Oper} {a : Act} {Q : Exit → Act → World → Prop} {K : Act → World → Prop} {E : Prop}
theorem step_kid {W : World} (hgd : o.guard = none) (s x : Operand) (ho : o.op = .call { callee := .builtin .append, args := #[s, x], argTypes := #[33, 33] }) (base : Nat) {u : Value} {q : Nat} {kc cs : List Value} (hs : a.eval s = u) (hx : a.eval x = .slice (some ⟨W.heap.size, 0, none⟩) 1 1)
    (HO : W.ownsRow base TN 8 u q kc) (hcs : cs.length = 8) (h1 : ∀ v ∈ cs, v.oneCell' = true) (hbase : base ≤ W.heap.size) (hl : (q + 1) * 88 ≤ 140737488355328)
    (h : ∀ g1 c1 w1, w1.ownsRow base TN 8 (.slice (some ⟨g1, 0, none⟩) (q + 1) c1) (q + 1) (kc ++ cs) → W.grownBy w1 u.ownBlock → (u.ownBlock = some g1 ∨ W.heap.size < g1) → K (a.put o.dst (.slice (some ⟨g1, 0, none⟩) (q + 1) c1)) w1) :
    if Region.wanted o (yielded ops a.tmps) = true then Oper.wp Try.prog o a (W.alloc (.cells cs.toArray TN)) K Q else E := by
  have hw : Region.wanted o (yielded ops a.tmps) = true := by simp [Region.wanted, hgd]
  rw [if_pos hw]
  obtain ⟨g1, c1, w1, hr, h1, h2, h3⟩ := run_kid base o.type HO hcs h1 hbase hl
  unfold Oper.wp execOp
  simp only [ho, resolve, invoke, builtin, Sem.run_bind, Sem.run_pure, Result.andThen_ok, List.map_toArray, List.map_cons, List.map_nil, hs, hx, hr]
  exact h g1 c1 w1 h1 h2 h3
/-- *p = u: cells of a block are written. -/
theorem step_store {W : World} (hgd : o.guard = none) (hd : o.dst = none) (t : TypeId) (p x : Operand) (ho : o.op = .store t p x) {g off : Nat} {e : TypeId} {cur : Array Value} (u : Value) (seg : List Value) (haddr : a.eval p = .pointer (some ⟨g, off, none⟩)) (hx : a.eval x = u) (hu : u.cells.toList = seg)
    (ht : (Try.prog.info? t).map (·.size) = some seg.length) (h1 : ∀ v ∈ seg, v.oneCell' = true) (hh : W.heap[g]? = some (.cells cur e (0, 0))) (hfit : off + seg.length ≤ cur.size) (h : K a (W.setCells g off seg)) :
    if Region.wanted o (yielded ops a.tmps) = true then Oper.wp Try.prog o a W K Q else E := by
  have hw : Region.wanted o (yielded ops a.tmps) = true := by simp [Region.wanted, hgd]
  rw [if_pos hw]
  have hrun := run_store_run (P := Try.prog) t u seg hh hu ht hfit h1
  unfold Oper.wp execOp
  simp only [ho, haddr, hx, Sem.run_bind, Sem.run_pure, Result.andThen_ok, hrun]
  show K (a.put o.dst undef) _
  rw [hd]
  exact h
end
theorem row_set {w : World} {base g n cap : Nat} {cells : List Value} (h : w.ownsRow base TN 8 (.slice (some ⟨g, 0, none⟩) n cap) n cells) (off : Nat) (seg : List Value) (hf : off + seg.length ≤ cells.length) :
    (w.setCells g off seg).ownsRow base TN 8 (.slice (some ⟨g, 0, none⟩) n cap) n (cells.take off ++ seg ++ cells.drop (off + seg.length)) ∧ ∃ cur, w.heap[g]? = some (.cells cur TN (0, 0)) ∧ off + seg.length ≤ cur.size := by
  rcases h.2 with ⟨he, _⟩ | ⟨g', cap', cur, he, hb, hh, hl, hm, hs, ht⟩
  · cases he
  · injection he with he _ hc
    injection he with he
    injection he with he
    subst he; subst hc
    have hlen := h.1
    have hle : n * 8 ≤ cap * 8 := Nat.mul_le_mul_right _ hl
    obtain ⟨cur', h3, h4, h5⟩ := setCells_row seg off w cur hh (by omega)
    refine ⟨⟨?_, .inr ⟨g, cap, cur', rfl, hb, h3, hl, hm, by rw [h4]; exact hs, ?_⟩⟩, cur, hh, by omega⟩
    · simp only [List.length_append, List.length_take, List.length_drop]
      omega
    · rw [h5, ← ht, List.take_take, Nat.min_eq_left (by omega), List.drop_take]
      have hc1 : (cur.toList.take off ++ seg).length = off + seg.length := by
        rw [List.length_append, List.length_take, Array.length_toList]
        omega
      rw [List.take_append, hc1, List.take_of_length_le (by rw [hc1]; omega)]
/-- The last cells of a row. -/
theorem row_set_end {w : World} {base g n cap : Nat} {xs ys : List Value} (h : w.ownsRow base TN 8 (.slice (some ⟨g, 0, none⟩) n cap) n (xs ++ ys)) (off : Nat) (seg : List Value) (ho : xs.length = off) (hl : seg.length = ys.length) :
    (w.setCells g off seg).ownsRow base TN 8 (.slice (some ⟨g, 0, none⟩) n cap) n (xs ++ seg) ∧ ∃ cur, w.heap[g]? = some (.cells cur TN (0, 0)) ∧ off + seg.length ≤ cur.size := by
  have := row_set h off seg (by rw [List.length_append]; omega)
  rw [List.take_append_of_le_length (by omega), List.take_of_length_le (by omega), List.drop_of_length_le (by rw [List.length_append]; omega), List.append_nil] at this
  exact this
theorem setCells_grown (w : World) (g off : Nat) (seg : List Value) : w.grownBy (w.setCells g off seg) (some g) :=
  ⟨(setCells_same g seg off w).1, (setCells_same g seg off w).2.1, (setCells_same g seg off w).2.2.1, by rw [(setCells_same g seg off w).2.2.2]; exact Nat.le_refl _, fun k _ hk => setCells_far seg off k (fun he => hk (by rw [he]))⟩
end Go.Proofs.Ytfefldkljbbbpaa
set_option linter.unusedVariables false
namespace Go.Proofs.Ytfefldkljbbbpaa
def isNote (t : Tk) : Bool := t.f0 == 7 || t.f0 == 8
def addKid (t x : Nd) : Nd := ⟨t.f0, t.f1, t.f2 ++ [x]⟩
/-- The machine: what is left of the events; the open nodes, the innermost first. -/
def runB : List Ev → List Nd → Option Nd
  | [], _ => none
  | e :: l, S =>
    if e.f0 = 1 then (if e.f1 = 0 ∨ S.length = 1000 then none else runB l (⟨e.f1, noTk, []⟩ :: S))
    else if e.f0 = 2 ∨ e.f0 = 4 then
      match S with
      | [] => none
      | t :: S' => if isNote e.f2 = (e.f0 == 4) then runB l (addKid t ⟨0, e.f2, []⟩ :: S') else none
    else if e.f0 = 3 then
      match S with
      | [] => none
      | t :: S' => if t.f0 = e.f1 then (match S' with
        | [] => if l = [] then some t else none
        | u :: S'' => runB l (addKid u t :: S'')) else none
    else none
/-- What Build answers: the tree and the number. -/
def bld (l : List Ev) : Nd × Int := match runB l [] with
  | none => (noNd, 130)
  | some x => (x, 0)
theorem bld_none {l : List Ev} (h : runB l [] = none) : bld l = (noNd, 130) := by rw [bld, h]
theorem bld_some {l : List Ev} {x : Nd} (h : runB l [] = some x) : bld l = (x, 0) := by rw [bld, h]
/-- None of the open nodes has more kids than events have come. -/
def Small (i : Nat) (S : List Nd) : Prop := S.length ≤ 1000 ∧ ∀ t ∈ S, t.f2.length ≤ i
theorem Small.nil : Small 0 [] := ⟨by decide, fun t h => by cases h⟩
theorem Small.next {i : Nat} {S : List Nd} (h : Small i S) : Small (i + 1) S := ⟨h.1, fun t ht => Nat.le_succ_of_le (h.2 t ht)⟩
theorem Small.push {i : Nat} {S : List Nd} (h : Small i S) (k : Int) (hS : S.length ≠ 1000) : Small (i + 1) (⟨k, noTk, []⟩ :: S) :=
  ⟨by have := h.1; simp only [List.length_cons]; omega, fun t ht => by
    rcases List.mem_cons.1 ht with rfl | ht
    · exact Nat.zero_le _
    · exact Nat.le_succ_of_le (h.2 t ht)⟩
theorem Small.add {i : Nat} {S : List Nd} {t x : Nd} (h : Small i (t :: S)) : Small (i + 1) (addKid t x :: S) :=
  ⟨h.1, fun y hy => by
    rcases List.mem_cons.1 hy with rfl | hy
    · have := h.2 t List.mem_cons_self
      simp only [addKid, List.length_append, List.length_singleton]
      omega
    · exact Nat.le_succ_of_le (h.2 y (List.mem_cons_of_mem _ hy))⟩
theorem Small.pop {i : Nat} {S : List Nd} {t : Nd} (h : Small i (t :: S)) : Small i S := ⟨by have := h.1; simp only [List.length_cons] at this; omega, fun y hy => h.2 y (List.mem_cons_of_mem _ hy)⟩
end Go.Proofs.Ytfefldkljbbbpaa
set_option linter.unusedVariables false
set_option linter.unusedSimpArgs false
namespace Go.Proofs.Ytfefldkljbbbpaa
open Go.RowKit Go.Proofs.YtfefldkljbbbpaaW.PrintWords Go.Proofs.YtfefldkljbbbpaaW.PrintLast Go.Proofs.YtfefldkljbbbpaaW.PrintMore
def ndPre (k : Int) (t : Tk) : List Value := [.int .u8 k, .int .u8 t.f0, .string t.f1, .int .i64 t.f2.f0, .int .i64 t.f2.f1, .int .i64 t.f2.f2, .int .i64 t.f3]
theorem ndCells_pre (k : Int) (t : Tk) (v : Value) : ndCells k t v = ndPre k t ++ [v] := rfl
/-- What both stores leave, in whichever order they come. -/
structure Two (base g cap m g1 c1 q : Nat) (w1 wf : World) (t : Nd) (cells kc cs : List Value) : Prop where
  row : wf.ownsRow base TN 8 (.slice (some ⟨g, 0, none⟩) (m + 1) cap) (m + 1) (cells ++ ndCells t.f0 t.f1 (.slice (some ⟨g1, 0, none⟩) (q + 1) c1))
  krow : wf.ownsRow base TN 8 (.slice (some ⟨g1, 0, none⟩) (q + 1) c1) (q + 1) (kc ++ cs)
  far : ∀ b, b ≠ g → b ≠ g1 → wf.heap[b]? = w1.heap[b]?
  os : wf.os = w1.os
  tape : wf.tape = w1.tape
  output : wf.output = w1.output
  size : wf.heap.size = w1.heap.size
theorem far_row {w : World} {base g n cap g' : Nat} {xs : List Value} (h : w.ownsRow base TN 8 (.slice (some ⟨g, 0, none⟩) n cap) n xs) (hne : g ≠ g') (off : Nat) (seg : List Value) : (w.setCells g' off seg).ownsRow base TN 8 (.slice (some ⟨g, 0, none⟩) n cap) n xs :=
  row_move h (fun k hk => setCells_far seg off k (fun he => hne (by have : g = k := (by simpa [Value.ownBlock] using hk); omega)))
section
variable {base g cap m g1 c1 q : Nat} {w1 : World} {t : Nd} {u : Value} {cells kc cs zs : List Value}
theorem two_a (hr : w1.ownsRow base TN 8 (.slice (some ⟨g, 0, none⟩) (m + 1) cap) (m + 1) (cells ++ ndCells t.f0 t.f1 u)) (hc : cells.length = m * 8) (hk : w1.ownsRow base TN 8 (.slice (some ⟨g1, 0, none⟩) (q + 1) c1) (q + 1) (kc ++ zs)) (hq : kc.length = q * 8) (hz : zs.length = 8) (hcs : cs.length = 8) (hne : g ≠ g1) :
    Two base g cap m g1 c1 q w1 ((w1.setCells g1 (q * 8) cs).setCells g (m * 8 + 7) [.slice (some ⟨g1, 0, none⟩) (q + 1) c1]) t cells kc cs := by
  have k1 := (row_set_end hk (q * 8) cs hq (by omega)).1
  have r1 := far_row hr hne (q * 8) cs
  rw [ndCells_pre, ← List.append_assoc] at r1
  have r2 := (row_set_end r1 (m * 8 + 7) [.slice (some ⟨g1, 0, none⟩) (q + 1) c1] (by rw [List.length_append, hc]; rfl) rfl).1
  have s1 := setCells_same g1 cs (q * 8) w1
  have s2 := setCells_same g [.slice (some ⟨g1, 0, none⟩) (q + 1) c1] (m * 8 + 7) (w1.setCells g1 (q * 8) cs)
  refine ⟨by rw [ndCells_pre, ← List.append_assoc]; exact r2, far_row k1 (Ne.symm hne) _ _, fun b hb hb1 => (setCells_far _ _ b hb).trans (setCells_far _ _ b hb1), s2.1.trans s1.1, s2.2.1.trans s1.2.1, s2.2.2.1.trans s1.2.2.1, s2.2.2.2.trans s1.2.2.2⟩
theorem two_b (hr : w1.ownsRow base TN 8 (.slice (some ⟨g, 0, none⟩) (m + 1) cap) (m + 1) (cells ++ ndCells t.f0 t.f1 u)) (hc : cells.length = m * 8) (hk : w1.ownsRow base TN 8 (.slice (some ⟨g1, 0, none⟩) (q + 1) c1) (q + 1) (kc ++ zs)) (hq : kc.length = q * 8) (hz : zs.length = 8) (hcs : cs.length = 8) (hne : g ≠ g1) :
    Two base g cap m g1 c1 q w1 ((w1.setCells g (m * 8 + 7) [.slice (some ⟨g1, 0, none⟩) (q + 1) c1]).setCells g1 (q * 8) cs) t cells kc cs := by
  have hr' := hr
  rw [ndCells_pre, ← List.append_assoc] at hr'
  have r2 := (row_set_end hr' (m * 8 + 7) [.slice (some ⟨g1, 0, none⟩) (q + 1) c1] (by rw [List.length_append, hc]; rfl) rfl).1
  have k0 := far_row hk (Ne.symm hne) (m * 8 + 7) [.slice (some ⟨g1, 0, none⟩) (q + 1) c1]
  have k1 := (row_set_end k0 (q * 8) cs hq (by omega)).1
  have s1 := setCells_same g [.slice (some ⟨g1, 0, none⟩) (q + 1) c1] (m * 8 + 7) w1
  have s2 := setCells_same g1 cs (q * 8) (w1.setCells g (m * 8 + 7) [.slice (some ⟨g1, 0, none⟩) (q + 1) c1])
  refine ⟨?_, k1, fun b hb hb1 => (setCells_far _ _ b hb1).trans (setCells_far _ _ b hb), s2.1.trans s1.1, s2.2.1.trans s1.2.1, s2.2.2.1.trans s1.2.2.1, s2.2.2.2.trans s1.2.2.2⟩
  rw [ndCells_pre, ← List.append_assoc]
  exact far_row r2 hne _ _
end
theorem g_ne {W : World} {base g cap g1 : Nat} {S : List Nd} {t : Nd} {u : Value} {F G1 G2 Gk : Nat → Prop} {cells kc : List Value} (H : TopsX W base g cap S t u F cells G1 G2 kc Gk) (hat : u.ownBlock = some g1 ∨ W.heap.size < g1) : g ≠ g1 := by
  rcases hat with he | he
  · exact fun h => H.n2 (h ▸ (H.own g1 he).1)
  · have := own_lt H.row g rfl
    omega
theorem row_grown {W w1 : World} {base g cap : Nat} {S : List Nd} {t : Nd} {u : Value} {F G1 G2 Gk : Nat → Prop} {cells kc : List Value} (H : TopsX W base g cap S t u F cells G1 G2 kc Gk) (hg : W.grownBy w1 u.ownBlock) : w1.ownsRow base TN 8 (.slice (some ⟨g, 0, none⟩) (S.length + 1) cap) (S.length + 1) (cells ++ ndCells t.f0 t.f1 u) :=
  row_move H.row (fun k hk => hg.block k (own_lt H.row k hk) (fun he => H.n2 (by have : g = k := (by simpa [Value.ownBlock] using hk); subst this; exact (H.own g he.symm).1)))
/-- The kid is there. -/
theorem added {W w1 wf : World} {base g cap g1 c1 m q : Nat} {S : List Nd} {t x : Nd} {u : Value} {F G1 G2 Gk Fx : Nat → Prop} {cells kc cs : List Value} (H : TopsX W base g cap S t u F cells G1 G2 kc Gk) (hx : Own W base x cs Fx) (hd1 : ∀ b, Fx b → ¬ G1 b) (hd2 : ∀ b, Fx b → ¬ G2 b) (hdg : ¬ Fx g)
    (hg : W.grownBy w1 u.ownBlock) (hat : u.ownBlock = some g1 ∨ W.heap.size < g1) (hm : S.length = m) (hq : t.f2.length = q) (hT : Two base g cap m g1 c1 q w1 wf t cells kc cs) :
    OwnS wf base (.slice (some ⟨g, 0, none⟩) (m + 1) cap) (S ++ [addKid t x]) (fun _ => True) ∧ (∀ (B : Nat) (w0 : World), B ≤ base → Below B w0 W → Below B w0 wf) := by
  subst hm; subst hq
  have hgl := own_lt H.row g rfl
  have hne := g_ne H hat
  -- what neither store nor append touches
  have keep : ∀ b, Lies W base b → b ≠ g → u.ownBlock ≠ some b → wf.heap[b]? = W.heap[b]? := fun b hb h1 h2 => by
    have h3 : b ≠ g1 := by
      rcases hat with he | he
      · exact fun hc => h2 (by rw [he, hc])
      · have := hb.2.1; omega
    exact (hT.far b h1 h3).trans (hg.block b hb.2.1 (fun he => h2 he.symm))
  have a1 : OwnL wf base S cells (fun b => G1 b ∧ Lies W base b) := ownL_move S (ownL_bound S H.rest) (fun b hb => keep b hb.2 (fun he => H.n1 (he ▸ hb.1)) (fun he => H.apart b hb.1 (H.own b he).1))
  have a2 : OwnL wf base t.f2 kc (fun b => Gk b ∧ Lies W base b) := ownL_move t.f2 (ownL_bound t.f2 H.kids) (fun b hb => keep b hb.2 (fun he => H.n2 (he ▸ H.sub b hb.1)) (fun he => (H.own b he).2 hb.1))
  have a3 : Own wf base x cs (fun b => Fx b ∧ Lies W base b) := own_move x (own_bound x hx) (fun b hb => keep b hb.2 (fun he => hdg (he ▸ hb.1)) (fun he => hd2 b hb.1 (H.own b he).1))
  have hkids := ownL_append a2 (ownL_one.2 a3) (fun b hb hc => hd2 b hc.1 (H.sub b hb.1))
  refine ⟨?_, ?_⟩
  · refine tops_back (S := S) (t := addKid t x) (u := .slice (some ⟨g1, 0, none⟩) (t.f2.length + 1) c1) (F := fun _ => True) ⟨cells, fun b => G1 b ∧ Lies W base b, fun b => (b = g1 ∨ (Gk b ∧ Lies W base b)) ∨ (Fx b ∧ Lies W base b), kc ++ cs, _, ⟨hT.row, a1, ?_, hkids, fun b hb => ?_, fun b hb => ?_, fun b hb hc => ?_, fun h => H.n1 h.1, fun h => ?_, trivial, fun _ _ => trivial, fun _ _ => trivial⟩⟩
    · show wf.ownsRow base TN 8 _ (t.f2 ++ [x]).length (kc ++ cs)
      rw [List.length_append, List.length_singleton]
      exact hT.krow
    · have hb' : g1 = b := by simpa [Value.ownBlock] using hb
      subst hb'
      refine ⟨.inl (.inl rfl), fun hc => ?_⟩
      rcases hc with hc | hc
      · rcases hat with he | he
        · exact (H.own g1 he).2 hc.1
        · have := hc.2.2.1; omega
      · rcases hat with he | he
        · exact hd2 g1 hc.1 (H.own g1 he).1
        · have := hc.2.2.1; omega
    · rcases hb with hb | hb
      · exact .inl (.inr hb)
      · exact .inr hb
    · rcases hc with (hc | hc) | hc
      · subst hc
        rcases hat with he | he
        · exact H.apart b hb.1 (H.own b he).1
        · have := hb.2.2.1; omega
      · exact H.apart b hb.1 (H.sub b hc.1)
      · exact hd1 b hc.1 hb.1
    · rcases h with (h | h) | h
      · exact hne h
      · exact H.n2 (H.sub g h.1)
      · exact hdg h.1
  · intro B w0 hB hb
    have hsz := hg.size
    refine ⟨?_, ?_, ?_, ?_, fun b hlt => ?_⟩
    · rw [hT.os, hg.os]; exact hb.os
    · rw [hT.tape, hg.tape]; exact hb.tape
    · rw [hT.output, hg.output]; exact hb.output
    · rw [hT.size]; exact Nat.le_trans hb.size hsz
    · have hbg : base ≤ g := own_base H.row g rfl
      have h1 : b ≠ g := by omega
      have hu : u.ownBlock ≠ some b := fun he => by have := own_base H.krow b he; omega
      have h2 : b ≠ g1 := by
        rcases hat with he | he
        · intro hc; exact hu (by rw [he, hc])
        · have := own_base H.row g rfl; omega
      rw [hT.far b h1 h2, hg.block b (by omega) (fun he => hu he.symm)]
      exact hb.block b hlt
end Go.Proofs.Ytfefldkljbbbpaa
set_option linter.unusedVariables false
namespace Go.Proofs.Ytfefldkljbbbpaa
def evOpen (k : Int) : Ev := ⟨1, k, noTk⟩
def evClose (k : Int) : Ev := ⟨3, k, noTk⟩
def evTok (t : Tk) : Ev := ⟨if isNote t then 4 else 2, 0, t⟩
mutual
def tells : Nd → List Ev
  | ⟨k, t, kids⟩ => if k = 0 then [evTok t] else evOpen k :: (tellsL kids ++ [evClose k])
def tellsL : List Nd → List Ev
  | [] => []
  | x :: xs => tells x ++ tellsL xs
end
mutual
def nds : Nd → Nat
  | ⟨_, _, kids⟩ => 1 + ndsL kids
def ndsL : List Nd → Nat
  | [] => 0
  | x :: xs => nds x + ndsL xs
end
theorem nds_eq (x : Nd) : nds x = 1 + ndsL x.f2 := by obtain ⟨k, t, kids⟩ := x; rw [nds]
theorem nds_pos (x : Nd) : 1 ≤ nds x := by rw [nds_eq]; omega
theorem tells_eq (x : Nd) : tells x = if x.f0 = 0 then [evTok x.f1] else evOpen x.f0 :: (tellsL x.f2 ++ [evClose x.f0]) := by obtain ⟨k, t, kids⟩ := x; rw [tells]
theorem tellsL_append : ∀ (a b : List Nd), tellsL (a ++ b) = tellsL a ++ tellsL b
  | [], b => by rw [List.nil_append, tellsL, List.nil_append]
  | x :: a, b => by rw [List.cons_append, tellsL, tellsL, tellsL_append a b, List.append_assoc]
theorem ndsL_append : ∀ (a b : List Nd), ndsL (a ++ b) = ndsL a + ndsL b
  | [], b => by rw [List.nil_append, ndsL, Nat.zero_add]
  | x :: a, b => by rw [List.cons_append, ndsL, ndsL, ndsL_append a b, Nat.add_assoc]
theorem tellsL_one (x : Nd) : tellsL [x] = tells x := by rw [tellsL, tellsL, List.append_nil]
theorem ndsL_one (x : Nd) : ndsL [x] = nds x := by rw [ndsL, ndsL]; omega
theorem ndsL_mem {x : Nd} : ∀ {l : List Nd}, x ∈ l → nds x ≤ ndsL l
  | y :: l, h => by
    rw [ndsL]
    rcases List.mem_cons.1 h with rfl | h
    · omega
    · have := ndsL_mem h; omega
theorem ndsL_len : ∀ (l : List Nd), l.length ≤ ndsL l
  | [] => by simp [ndsL]
  | x :: l => by
    have := ndsL_len l
    have := nds_pos x
    rw [ndsL, List.length_cons]; omega
mutual
theorem tells_len : ∀ (x : Nd), (tells x).length ≤ 2 * nds x
  | ⟨k, t, kids⟩ => by
    rw [tells, nds]
    have := tellsL_len kids
    split
    · simp only [List.length_cons, List.length_nil]; omega
    · simp only [List.length_cons, List.length_append, List.length_nil]; omega
theorem tellsL_len : ∀ (l : List Nd), (tellsL l).length ≤ 2 * ndsL l
  | [] => by simp [tellsL]
  | x :: l => by
    have := tells_len x
    have := tellsL_len l
    rw [tellsL, ndsL, List.length_append]; omega
end
theorem take_tells {l : List Nd} {k : Nat} {x : Nd} (h : l[k]? = some x) : tellsL (l.take (k + 1)) = tellsL (l.take k) ++ tells x := by
  rw [List.take_add_one, h, tellsL_append]
  simp [tellsL_one]
theorem take_nds {l : List Nd} (k : Nat) : ndsL (l.take k) ≤ ndsL l := by
  have h := ndsL_append (l.take k) (l.drop k)
  rw [List.take_append_drop] at h
  omega
end Go.Proofs.Ytfefldkljbbbpaa
set_option linter.unusedVariables false
set_option linter.unusedSimpArgs false
namespace Go.Proofs.Ytfefldkljbbbpaa
open Go.RowKit Go.Proofs.YtfefldkljbbbpaaW.PrintWords Go.Proofs.YtfefldkljbbbpaaW.PrintLast Go.Proofs.YtfefldkljbbbpaaW.PrintMore
abbrev zNd : List Value := [.int .u8 0, .int .u8 0, .string ⟨#[]⟩, .int .i64 0, .int .i64 0, .int .i64 0, .int .i64 0, .slice none 0 0]
theorem zNd_one : ∀ v ∈ zNd, v.oneCell' = true := ndCells_one 0 noTk rfl
/-- An event's cells. -/
structure EvAt (w : World) (A : Option Addr) (i : Nat) (e : Ev) : Prop where
  cell : ∃ ad, A = some ad ∧ w.cell? (ad.add (i * 8)) = some (.int .u8 e.f0) ∧ w.cell? ⟨(ad.add (i * 8)).block, (ad.add (i * 8)).off + 1, none⟩ = some (.int .u8 e.f1) ∧ w.cell? ⟨(ad.add (i * 8)).block, (ad.add (i * 8)).off + 2, none⟩ = some (.int .u8 e.f2.f0) ∧ w.cell? ⟨(ad.add (i * 8)).block, (ad.add (i * 8)).off + 3, none⟩ = some (.string e.f2.f1) ∧ w.cell? ⟨(ad.add (i * 8)).block, (ad.add (i * 8)).off + 4, none⟩ = some (.int .i64 e.f2.f2.f0) ∧ w.cell? ⟨(ad.add (i * 8)).block, (ad.add (i * 8)).off + 5, none⟩ = some (.int .i64 e.f2.f2.f1) ∧ w.cell? ⟨(ad.add (i * 8)).block, (ad.add (i * 8)).off + 6, none⟩ = some (.int .i64 e.f2.f2.f2) ∧ w.cell? ⟨(ad.add (i * 8)).block, (ad.add (i * 8)).off + 7, none⟩ = some (.int .i64 e.f2.f3)
theorem evAt_of {w : World} {A : Option Addr} {n : Nat} {l : List Ev} (h : Kd.C kEv w A n l) (i : Nat) (e : Ev) (hi : i < n) (he : l[i]? = some e) : EvAt w A i e := by
  obtain ⟨ad, h0, r⟩ := PTreeSame.at_T32 h (i : Int) (by omega) (by omega)
  have hr : PTreeSame.rd_T32 l (i : Int) = e := by simp [PTreeSame.rd_T32, List.getD, he]
  rw [hr, Int.toNat_natCast] at r
  exact ⟨ad, h0, r⟩
theorem comment_any (t : Tk) (w : World) : Calls Try.prog 25 #[.agg #[.int .u8 t.f0, .string t.f1, .int .i64 t.f2.f0, .int .i64 t.f2.f1, .int .i64 t.f2.f2, .int .i64 t.f3]] w fun e w' => e = .returned (.bool (isNote t)) ∧ Below w.heap.size w w' := by
  refine PTreeSame.tree_comment.calls t.f0 t.f1 t.f2.f0 t.f2.f1 t.f2.f2 t.f3 (isNote t) w ?_
  unfold PTreeSame.tree_comment.f isNote
  by_cases h : t.f0 = 7
  · rw [if_pos h, h]; rfl
  · rw [if_neg h, beq_eq_false_iff_ne.2 h]; rfl
theorem box8 {w w1 : World} {a b c d e f g h : Value} {T : TypeId} (hb : Below (w.heap.size + 1) (w.alloc (.cells #[a, b, c, d, e, f, g, h] T)) w1) :
    w1.cell? ⟨w.heap.size, 0, none⟩ = some a ∧ w1.cell? ⟨w.heap.size, 1, none⟩ = some b ∧ w1.cell? ⟨w.heap.size, 2, none⟩ = some c ∧ w1.cell? ⟨w.heap.size, 3, none⟩ = some d ∧ w1.cell? ⟨w.heap.size, 4, none⟩ = some e ∧ w1.cell? ⟨w.heap.size, 5, none⟩ = some f ∧ w1.cell? ⟨w.heap.size, 6, none⟩ = some g ∧ w1.cell? ⟨w.heap.size, 7, none⟩ = some h := by
  have hn : (w.alloc (.cells #[a, b, c, d, e, f, g, h] T)).heap[w.heap.size]? = some (.cells #[a, b, c, d, e, f, g, h] T) := by
    show (w.heap.push _)[w.heap.size]? = _
    rw [Array.getElem?_push, if_pos rfl]
  have hc : ∀ (j : Nat) v, (#[a, b, c, d, e, f, g, h] : Array Value)[j]? = some v → w1.cell? ⟨w.heap.size, j, none⟩ = some v := fun j v hj =>
    (hb.cell (p := ⟨w.heap.size, j, none⟩) (show w.heap.size < w.heap.size + 1 by omega)).trans ((cell_of_row _ _ _ _ _ _ hn).trans hj)
  exact ⟨hc 0 _ rfl, hc 1 _ rfl, hc 2 _ rfl, hc 3 _ rfl, hc 4 _ rfl, hc 5 _ rfl, hc 6 _ rfl, hc 7 _ rfl⟩
structure Upd (g : Nat) (W w5 : World) : Prop where
  far : ∀ k, k ≠ g → w5.heap[k]? = W.heap[k]?
  os : w5.os = W.os
  tape : w5.tape = W.tape
  output : w5.output = W.output
  size : w5.heap.size = W.heap.size
theorem Upd.below {g B : Nat} {w W w5 : World} (h : Upd g W w5) (hb : Below B w W) (hg : B ≤ g) : Below B w w5 :=
  ⟨h.os.trans hb.os, h.tape.trans hb.tape, h.output.trans hb.output, by rw [h.size]; exact hb.size, fun k hk => (h.far k (by omega)).trans (hb.block k hk)⟩
theorem wl_box {ops : Array Oper} {rest : List Oper} {o : Oper} {a : Act} {Q : Exit → Act → World → Prop} {W : World} (hgd : o.guard = none) (hd : o.dst = none) (t : TypeId) (p x : Operand) (ho : o.op = .store t p x) {g : Nat} {e : TypeId} {cur : Array Value} (u : Value) (seg : List Value)
    (haddr : a.eval p = .pointer (some ⟨g, 0, none⟩)) (hx : a.eval x = u) (hu : u.cells.toList = seg) (ht : (Try.prog.info? t).map (·.size) = some seg.length) (h1 : ∀ v ∈ seg, v.oneCell' = true) (hh : W.heap[g]? = some (.cells cur e (0, 0))) (hfit : cur.size = seg.length)
    (h : ∀ w5, w5.heap[g]? = some (.cells seg.toArray e (0, 0)) → Upd g W w5 → wpList Try.prog ops Q rest a w5) : wpList Try.prog ops Q (o :: rest) a W := by
  refine wpList_plain hgd fun K hK => ?_
  have hrun := run_store_run (P := Try.prog) (o := 0) t u seg hh hu ht (by omega) h1
  unfold Oper.wp execOp
  simp only [ho, haddr, hx, Sem.run_bind, Sem.run_pure, Result.andThen_ok, hrun]
  show K (a.put o.dst undef) _
  rw [hd]
  obtain ⟨cur', h3, h4, h5⟩ := setCells_row seg 0 W cur hh (by omega)
  have hs := setCells_same g seg 0 W
  refine hK a _ (h _ ?_ ⟨fun k hk => setCells_far seg 0 k hk, hs.1, hs.2.1, hs.2.2.1, hs.2.2.2⟩)
  rw [h3]
  congr 2
  apply Array.toList_inj.1
  rw [h5, List.take_zero, List.nil_append, List.drop_of_length_le (by rw [Array.length_toList]; omega), List.append_nil]
theorem cells8 {w : World} {g : Nat} {T : TypeId} {a b c d e f p q : Value} (h : w.heap[g]? = some (.cells [a, b, c, d, e, f, p, q].toArray T (0, 0))) :
    w.cell? ⟨g, 0, none⟩ = some a ∧ w.cell? ⟨g, 1, none⟩ = some b ∧ w.cell? ⟨g, 2, none⟩ = some c ∧ w.cell? ⟨g, 3, none⟩ = some d ∧ w.cell? ⟨g, 4, none⟩ = some e ∧ w.cell? ⟨g, 5, none⟩ = some f ∧ w.cell? ⟨g, 6, none⟩ = some p ∧ w.cell? ⟨g, 7, none⟩ = some q :=
  ⟨blk_cell h 0, blk_cell h 1, blk_cell h 2, blk_cell h 3, blk_cell h 4, blk_cell h 5, blk_cell h 6, blk_cell h 7⟩
abbrev zBox (w : World) : World := w.alloc (.cells #[.int .u8 0, .int .u8 0, .string ⟨#[]⟩, .int .i64 0, .int .i64 0, .int .i64 0, .int .i64 0, .slice none 0 0] TN)
structure BInv (w wr : World) (l : List Ev) (i : Nat) (v : Value) (S : List Nd) : Prop where
  run : runB (l.drop i) S = runB l []
  small : Small i S
  nz : S = [] → i = 0
  own : OwnS wr (w.heap.size + 1) v S.reverse (fun _ => True)
  below : Below (w.heap.size + 1) (zBox w) wr
def BuildPost (w : World) (l : List Ev) (e : Ending) (w' : World) : Prop :=
  ∃ v, e = .returned (.tuple #[.agg #[.int .u8 (bld l).1.f0, .int .u8 (bld l).1.f1.f0, .string (bld l).1.f1.f1, .int .i64 (bld l).1.f1.f2.f0, .int .i64 (bld l).1.f1.f2.f1, .int .i64 (bld l).1.f1.f2.f2, .int .i64 (bld l).1.f1.f3, v], .int .i64 (bld l).2]) ∧ OwnS w' w.heap.size v (bld l).1.f2 (fun _ => True) ∧ Below w.heap.size w w'
theorem BInv.start (w : World) (l : List Ev) : BInv w (zBox w) l 0 (.slice none 0 0) [] := ⟨by rw [List.drop_zero], Small.nil, fun _ => rfl, ownS_nil _ _ _, Below.refl _ _⟩
theorem BInv.out {w wr : World} {l : List Ev} {i : Nat} {v : Value} {S : List Nd} (h : BInv w wr l i v S) : Below w.heap.size w wr := ((Below.refl w.heap.size w).alloc (Nat.le_refl _) _).trans (h.below.mono (Nat.le_succ _))
theorem BInv.box {w wr : World} {l : List Ev} {i : Nat} {v : Value} {S : List Nd} (h : BInv w wr l i v S) : wr.heap[w.heap.size]? = some (.cells zNd.toArray TN (0, 0)) := by
  refine (h.below.block w.heap.size (Nat.lt_succ_self _)).trans ?_
  show (w.heap.push _)[w.heap.size]? = _
  rw [Array.getElem?_push, if_pos rfl]
theorem box_later {w wr W : World} (h : wr.heap[w.heap.size]? = some (.cells zNd.toArray TN (0, 0))) (hb : Below wr.heap.size wr W) : W.heap[w.heap.size]? = some (.cells zNd.toArray TN (0, 0)) := (hb.block _ (blk_lt h)).trans h
/-- An error's end. -/
theorem BuildPost.err {w w5 : World} {l : List Ev} (hr : runB l [] = none) (hb : Below w.heap.size w w5) : BuildPost w l (.returned (.tuple #[.agg zNd.toArray, .int .i64 130])) w5 := by
  refine ⟨.slice none 0 0, ?_, ?_, hb⟩
  · rw [bld_none hr]; rfl
  · rw [bld_none hr]; exact ownS_nil _ _ _
theorem drop_cons {l : List Ev} {i : Nat} {e : Ev} (h : l[i]? = some e) : l.drop i = e :: l.drop (i + 1) := by
  have hl := (List.getElem?_eq_some_iff.1 h)
  rw [List.drop_eq_getElem_cons hl.1, hl.2]
theorem topsX_later {W w1 : World} {base g cap : Nat} {S : List Nd} {t : Nd} {u : Value} {F G1 G2 Gk : Nat → Prop} {cells kc : List Value} (H : TopsX W base g cap S t u F cells G1 G2 kc Gk) (hb : Below W.heap.size W w1) : TopsX w1 base g cap S t u F cells G1 G2 kc Gk :=
  ⟨row_move H.row (fun k hk => hb.block k (own_lt H.row k hk)), ownL_step H.rest (fun b _ hl => hb.block b hl.2.1), row_move H.krow (fun k hk => hb.block k (own_lt H.krow k hk)), ownL_step H.kids (fun b _ hl => hb.block b hl.2.1), H.own, H.sub, H.apart, H.n1, H.n2, H.fg, H.f1, H.f2⟩
theorem topsX_at {w : World} {base g cap : Nat} {S : List Nd} {t : Nd} {u : Value} {F G1 G2 Gk : Nat → Prop} {cells kc : List Value} (H : TopsX w base g cap S t u F cells G1 G2 kc Gk) (j : Nat) (v : Value) (hj : (ndCells t.f0 t.f1 u)[j]? = some v) : w.cell? ⟨g, S.length * 8 + j, none⟩ = some v ∧ w.frozen? ⟨g, S.length * 8 + j, none⟩ = false := top_at ⟨_, _, _, _, _, H⟩ j v hj
theorem row_cut {w : World} {base g n cap : Nat} {xs ys : List Value} (h : w.ownsRow base TN 8 (.slice (some ⟨g, 0, none⟩) (n + 1) cap) (n + 1) (xs ++ ys)) (hx : xs.length = n * 8) : w.ownsRow base TN 8 (.slice (some ⟨g, 0, none⟩) n cap) n xs := by
  rcases h.2 with ⟨he, _⟩ | ⟨g', cap', cur, he, hb, hh, hl, hm, hs, ht⟩
  · cases he
  · injection he with he _ hc
    injection he with he
    injection he with he
    subst he; subst hc
    refine ⟨hx, .inr ⟨g, cap, cur, rfl, hb, hh, by omega, hm, hs, ?_⟩⟩
    have hz := congrArg (List.take (n * 8)) ht
    rw [List.take_take, Nat.min_eq_left (by omega), List.take_left' hx] at hz
    exact hz
theorem popped {w : World} {base g cap : Nat} {S S2 : List Nd} {t u2 : Nd} {u : Value} {F G1 G2 Gk : Nat → Prop} {cells kc : List Value} (H : TopsX w base g cap S t u F cells G1 G2 kc Gk) (hS : S = S2 ++ [u2]) :
    ∃ (uu : Value) (cells' : List Value) (G1' G2' : Nat → Prop) (kc' : List Value) (Gk' : Nat → Prop), TopsX w base g cap S2 u2 uu (fun b => b = g ∨ G1 b) cells' G1' G2' kc' Gk' := by
  have hrow := row_cut H.row (ownL_len H.rest)
  subst hS
  have ho : OwnS w base (.slice (some ⟨g, 0, none⟩) (S2 ++ [u2]).length cap) (S2 ++ [u2]) (fun b => b = g ∨ G1 b) := by
    refine ⟨cells, G1, hrow, H.rest, fun b hb => ?_, fun b hb => .inr hb⟩
    have : g = b := by simpa [Value.ownBlock] using hb
    subst this
    exact ⟨.inl rfl, H.n1⟩
  obtain ⟨g', cap', uu, he, hx⟩ := tops_of ho
  injection he with he _ hc
  injection he with he
  injection he with he
  subst he; subst hc
  obtain ⟨c1, d1, d2, k1, e1, hX⟩ := hx.top
  exact ⟨uu, c1, d1, d2, k1, e1, hX⟩
theorem top_own {w : World} {base g cap : Nat} {S : List Nd} {t : Nd} {u : Value} {F G1 G2 Gk : Nat → Prop} {cells kc : List Value} (H : TopsX w base g cap S t u F cells G1 G2 kc Gk) : Own w base t (ndCells t.f0 t.f1 u) G2 := own_iff.2 ⟨u, rfl, kc, Gk, H.krow, H.kids, H.own, H.sub⟩
theorem top_ownS {w : World} {base g cap : Nat} {S : List Nd} {t : Nd} {u : Value} {F G1 G2 Gk : Nat → Prop} {cells kc : List Value} (H : TopsX w base g cap S t u F cells G1 G2 kc Gk) : OwnS w base u t.f2 G2 := ⟨kc, Gk, H.krow, H.kids, H.own, H.sub⟩
theorem ownS_upd {W w5 : World} {g base : Nat} {v : Value} {kids : List Nd} {F : Nat → Prop} (h : OwnS W base v kids F) (hu : Upd g W w5) (hg : g < base) : OwnS w5 base v kids F := ownS_step h (fun b _ hl => hu.far b (by have := hl.1; omega))
theorem topsX_cap {w : World} {base g cap : Nat} {S : List Nd} {t : Nd} {u : Value} {F G1 G2 Gk : Nat → Prop} {cells kc : List Value} (H : TopsX w base g cap S t u F cells G1 G2 kc Gk) : S.length + 1 ≤ cap := by
  rcases H.row.2 with ⟨he, _⟩ | ⟨g', cap', cur, he, hb, hh, hl, hm, hs, ht⟩
  · cases he
  · injection he with _ _ hc
    omega
/-- The tree's end. -/
theorem BuildPost.ok {w w5 : World} {l : List Ev} {t : Nd} {u : Value} (hr : runB l [] = some t) (ho : OwnS w5 (w.heap.size + 1) u t.f2 (fun _ => True)) (hb : Below w.heap.size w w5) : BuildPost w l (.returned (.tuple #[.agg #[.int .u8 t.f0, .int .u8 t.f1.f0, .string t.f1.f1, .int .i64 t.f1.f2.f0, .int .i64 t.f1.f2.f1, .int .i64 t.f1.f2.f2, .int .i64 t.f1.f3, u], .int .i64 0])) w5 := by
  refine ⟨u, ?_, ?_, hb⟩
  · rw [bld_some hr]
  · rw [bld_some hr]; exact ownS_lower (Nat.le_succ _) ho
end Go.Proofs.Ytfefldkljbbbpaa
set_option linter.unusedVariables false
set_option linter.unusedSimpArgs false
namespace Go.Proofs.Ytfefldkljbbbpaa
open Go.RowKit Go.Proofs.YtfefldkljbbbpaaW.PrintWords Go.Proofs.YtfefldkljbbbpaaW.PrintLast Go.Proofs.YtfefldkljbbbpaaW.PrintMore
abbrev TE : TypeId := 32
theorem infoEv : (Try.prog.info? 32).map (fun i => (i.zero, i.size, i.bytes)) = some (some (.agg #[(.int .u8 0), (.int .u8 0), (.int .u8 0), (.string ⟨#[]⟩), (.int .i64 0), (.int .i64 0), (.int .i64 0), (.int .i64 0)]), 8, 64) := by kernel_rfl
def evCells (e : Ev) : List Value := [.int .u8 e.f0, .int .u8 e.f1, .int .u8 e.f2.f0, .string e.f2.f1, .int .i64 e.f2.f2.f0, .int .i64 e.f2.f2.f1, .int .i64 e.f2.f2.f2, .int .i64 e.f2.f3]
theorem ev_M (w : World) (base : Nat) (e : Ev) : kEv.M w base (fun _ => False) e (evCells e) := PTreeSame.k32_mkM w base _ e
/-- The closure's state: what has been told so far; the box of 'out', the box of 'walk'. -/
structure Out (w0 w : World) (xs : List Ev) : Prop where
  out : ∃ v, w.heap[w0.heap.size + 1]? = some (.cells #[v] 22 (0, 0)) ∧ Kd.R kEv TE w (w0.heap.size + 3) (fun _ => True) v xs
  walk : w.heap[w0.heap.size + 2]? = some (.cells #[.func (.func 29) #[] #[.pointer (some ⟨w0.heap.size + 1, 0, none⟩), .pointer (some ⟨w0.heap.size + 2, 0, none⟩)]] 40 (0, 0))
  below : Below w0.heap.size w0 w
  size : w0.heap.size + 3 ≤ w.heap.size
theorem Out.keep {w0 w w' : World} {xs : List Ev} (h : Out w0 w xs) (hb : Below w.heap.size w w') : Out w0 w' xs := by
  obtain ⟨v, h1, h2⟩ := h.out
  have hs := h.size
  exact ⟨⟨v, (hb.block _ (by omega)).trans h1, Kd.R_below h2 hb⟩, (hb.block _ (by omega)).trans h.walk, h.below.trans (hb.mono (by omega)), Nat.le_trans hs hb.size⟩
/-- An event is told: the list has grown, and the box holds it. -/
theorem Out.told {w0 w w4 w5 : World} {xs : List Ev} {e : Ev} {v v1 : Value} (h : Out w0 w xs) (hr : Kd.R kEv TE w (w0.heap.size + 3) (fun _ => True) v xs) (h4 : Kd.R kEv TE w4 (w0.heap.size + 3) (fun _ => True) v1 (xs ++ [e])) (hg : w.grownBy w4 v.ownBlock) (h5 : w5.heap[w0.heap.size + 1]? = some (.cells [v1].toArray 22 (0, 0))) (hu : Upd (w0.heap.size + 1) w4 w5) : Out w0 w5 (xs ++ [e]) := by
  have hs := h.size
  have hvb : ∀ k, v.ownBlock = some k → w0.heap.size + 3 ≤ k := Kd.R_base hr
  have e2 := (hg.block (w0.heap.size + 2) (by omega) (fun he => by have := hvb _ he.symm; omega)).trans h.walk
  refine ⟨⟨v1, h5, ?_⟩, (hu.far _ (by omega)).trans e2, ?_, by rw [hu.size]; exact Nat.le_trans hs hg.size⟩
  · exact Kd.R_mono (Kd.R_step (ok := fun k => True ∧ w0.heap.size + 3 ≤ k) (Kd.R_mono (Kd.R_bound h4) (fun k hk => ⟨trivial, hk.2.1⟩)) (fun k hk _ => hu.far k (by have := hk.2; omega))) (fun _ _ => trivial)
  · exact hu.below (h.below.grown hg (by omega) (fun k hk => by have := hvb k hk; omega)) (by omega)
theorem told_far {w0 w w4 w5 : World} {xs : List Ev} {v : Value} {b : Nat} {C : Array Value} (hr : Kd.R kEv TE w (w0.heap.size + 3) (fun _ => True) v xs) (hg : w.grownBy w4 v.ownBlock) (hu : Upd (w0.heap.size + 1) w4 w5) (hb : w.heap[b]? = some (.cells C TN (0, 0))) (hne : b ≠ w0.heap.size + 1) : w5.heap[b]? = some (.cells C TN (0, 0)) := by
  refine (hu.far b hne).trans ((hg.block b (blk_lt hb) fun he => ?_).trans hb)
  obtain ⟨c2, h2⟩ := Kd.R_typed hr b he.symm
  rw [hb] at h2
  injection h2 with h2
  injection h2 with _ h2
  exact absurd h2 (by decide)
/-- Boxes of nodes stay. -/
def Keeps (w w' : World) : Prop := ∀ (b : Nat) (C : Array Value), w.heap[b]? = some (.cells C TN (0, 0)) → w'.heap[b]? = some (.cells C TN (0, 0))
theorem Keeps.of_below {w w' : World} (h : Below w.heap.size w w') : Keeps w w' := fun b C hb => (h.block b (blk_lt hb)).trans hb
theorem Keeps.trans {w w' w2 : World} (h : Keeps w w') (h2 : Keeps w' w2) : Keeps w w2 := fun b C hb => h2 b C (h b C hb)
theorem Out.ne {w0 w : World} {xs : List Ev} (h : Out w0 w xs) {b : Nat} {C : Array Value} (hb : w.heap[b]? = some (.cells C TN (0, 0))) : b ≠ w0.heap.size + 1 := by
  rintro rfl
  obtain ⟨v, hv, _⟩ := h.out
  rw [hb] at hv
  injection hv with hv
  injection hv with _ hv
  exact absurd hv (by decide)
theorem Keeps.told {w0 w w4 w5 : World} {xs : List Ev} {v : Value} (h : Out w0 w xs) (hr : Kd.R kEv TE w (w0.heap.size + 3) (fun _ => True) v xs) (hg : w.grownBy w4 v.ownBlock) (hu : Upd (w0.heap.size + 1) w4 w5) : Keeps w w5 := fun b C hb => told_far hr hg hu hb (h.ne hb)
theorem infoEvS : (Try.prog.info? 22).map (·.size) = some 1 := by kernel_rfl
end Go.Proofs.Ytfefldkljbbbpaa
set_option linter.unusedVariables false
set_option linter.unusedSimpArgs false
namespace Go.Proofs.Ytfefldkljbbbpaa
open Go.RowKit Go.Proofs.YtfefldkljbbbpaaW.PrintWords Go.Proofs.YtfefldkljbbbpaaW.PrintLast Go.Proofs.YtfefldkljbbbpaaW.PrintMore
def OutPost (w0 w : World) (xs : List Ev) (e : Ending) (w' : World) : Prop := (∃ v, e = .returned v) ∧ Out w0 w' xs ∧ Keeps w w'
set_option maxRecDepth 100000 in
set_option maxHeartbeats 4000000 in
theorem walk_tok_false (w0 w : World) (t : Tk) (v7 : Value) (xs : List Ev) (hb : isNote t = false) (h : Out w0 w xs) (hl : xs.length ≤ 1073741824) :
    Calls Try.prog 29 #[.agg #[.int .u8 0, .int .u8 t.f0, .string t.f1, .int .i64 t.f2.f0, .int .i64 t.f2.f1, .int .i64 t.f2.f2, .int .i64 t.f3, v7], .pointer (some ⟨w0.heap.size + 1, 0, none⟩), .pointer (some ⟨w0.heap.size + 2, 0, none⟩)] w fun e w' => OutPost w0 w (xs ++ [evTok t]) e w' := by
  obtain ⟨k0, tx, ⟨p0, p1, p2⟩, fd⟩ := t
  dsimp only
  have CC := Lib.hid (comment_any ⟨k0, tx, ⟨p0, p1, p2⟩, fd⟩)
  have HB := Lib.hid hb
  have H := Lib.hid h
  have HF1 : Hid ((xs.length + 1) * 64 ≤ 140737488355328) := Lib.hid (by omega)
  have hby : ∀ w1, Below (w.heap.size + 1) (w.alloc (.cells #[.int .u8 0, .int .u8 k0, .string tx, .int .i64 p0, .int .i64 p1, .int .i64 p2, .int .i64 fd, v7] TN)) w1 → _ := fun w1 h => box8 h
  obtain ⟨W1, hW1⟩ : ∃ W1, w.alloc (.cells #[.int .u8 0, .int .u8 k0, .string tx, .int .i64 p0, .int .i64 p1, .int .i64 p2, .int .i64 fd, v7] TN) = W1 := ⟨_, rfl⟩
  have hs1 : W1.heap.size = w.heap.size + 1 := by rw [← hW1, World.size_alloc]
  have hb1 : Below w.heap.size w W1 := by rw [← hW1]; exact (Below.refl w.heap.size w).alloc (Nat.le_refl _) _
  rw [hW1] at hby
  have HBY := Lib.hid hby
  have HW1 := Lib.hid hW1
  have HB1 := Lib.hid hb1
  have HS1 := Lib.hid hs1
  clear hb h hby hW1 hb1 hs1
  go_enter Try.func29, Try.ntmps29
  go_upto_region 2 with (fail)
  rw [HW1.out]
  obtain ⟨y0, y1, y2, y3, y4, y5, y6, y7⟩ := HBY.out W1 (Below.refl _ _)
  go_wp2_with (first
    | (go_at_call 25; (with_reducible refine (CC.out _).mono ?_); rintro e w2 ⟨rfl, hb⟩; have HK2 := Lib.hid (H.out.keep (HB1.out.trans (hb.mono HB1.out.size))); have HP2 := Lib.hid (Keeps.of_below (HB1.out.trans (hb.mono HB1.out.size))); (obtain ⟨z0, z1, z2, z3, z4, z5, z6, z7⟩ := HBY.out w2 (hb.mono (Nat.le_of_eq HS1.out.symm))); clear hb; rw [HB.out]; (obtain ⟨v1, hv1, hr1⟩ := (HK2.out).out); (obtain ⟨A1, c1, rfl⟩ := Kd.R_slice hr1); have cv1 := blk_cell hv1 0; have fv1 := blk_frozen hv1 0; simp only [List.getElem?_toArray, List.getElem?_cons_zero] at cv1; have HR1 := Lib.hid hr1; have HV1 := Lib.hid hv1; clear hr1 hv1)
    | ((with_reducible refine gate_dst (N := 11) rfl ?_); refine Kd.R_append kEv (w0 := w2) (w0.heap.size + 3) rfl (.tmp 6) (.tmp 10) 22 32 _ 64 rfl Try.underlying22 infoEv rfl (by decide) (by decide) (.slice A1 (xs).length c1) (xs) (⟨2, 0, ⟨k0, tx, ⟨p0, p1, p2⟩, fd⟩⟩) (evCells (⟨2, 0, ⟨k0, tx, ⟨p0, p1, p2⟩, fd⟩⟩)) (fun _ => True) (fun _ => False) rfl rfl (ev_M _ _ _) (fun _ h => h.elim) (fun _ _ => trivial) HR1.out (Below.refl _ _) (HK2.out).size HF1.out ?_; intro v3 w3 ho _ hg _; (obtain ⟨A3, c3, rfl⟩ := Kd.R_slice ho); have HG3 := Lib.hid hg; have HO3 := Lib.hid ho; have hm3 := Lib.hid ((hg.block (w0.heap.size + 1) (by have := (HK2.out).size; omega) (fun he => by have := Kd.R_base HR1.out _ he.symm; omega)).trans HV1.out); have cm3 := blk_cell hm3.out 0; have fm3 := blk_frozen hm3.out 0; simp only [List.getElem?_toArray, List.getElem?_cons_zero] at cm3; clear ho hg)
    | ((with_reducible refine gate_ (.store 22 (.tmp 1) (.tmp 11)) rfl ?_); refine wl_box rfl rfl _ _ _ rfl _ [.slice A3 ((xs) ++ [(⟨2, 0, ⟨k0, tx, ⟨p0, p1, p2⟩, fd⟩⟩ : Ev)]).length c3] rfl rfl rfl infoEvS (fun u hu => by rw [List.mem_singleton.1 hu]; rfl) hm3.out rfl ?_; intro w5 h5 hu; have HKw5 := Lib.hid (Out.told HK2.out HR1.out HO3.out HG3.out h5 hu); have HPw5 := Lib.hid (Keeps.told HK2.out HR1.out HG3.out hu); clear h5 hu))
  refine bodyPost_end (results_none rfl _ _ _) rfl ?_
  refine ⟨⟨_, rfl⟩, ?_, HP2.out.trans HPw5.out⟩
  have ht := HKw5.out
  have he : evTok ⟨k0, tx, ⟨p0, p1, p2⟩, fd⟩ = ⟨2, 0, ⟨k0, tx, ⟨p0, p1, p2⟩, fd⟩⟩ := by unfold evTok; rw [HB.out]; rfl
  rw [he]
  exact ht
set_option maxRecDepth 100000 in
set_option maxHeartbeats 4000000 in
theorem walk_tok_true (w0 w : World) (t : Tk) (v7 : Value) (xs : List Ev) (hb : isNote t = true) (h : Out w0 w xs) (hl : xs.length ≤ 1073741824) :
    Calls Try.prog 29 #[.agg #[.int .u8 0, .int .u8 t.f0, .string t.f1, .int .i64 t.f2.f0, .int .i64 t.f2.f1, .int .i64 t.f2.f2, .int .i64 t.f3, v7], .pointer (some ⟨w0.heap.size + 1, 0, none⟩), .pointer (some ⟨w0.heap.size + 2, 0, none⟩)] w fun e w' => OutPost w0 w (xs ++ [evTok t]) e w' := by
  obtain ⟨k0, tx, ⟨p0, p1, p2⟩, fd⟩ := t
  dsimp only
  have CC := Lib.hid (comment_any ⟨k0, tx, ⟨p0, p1, p2⟩, fd⟩)
  have HB := Lib.hid hb
  have H := Lib.hid h
  have HF1 : Hid ((xs.length + 1) * 64 ≤ 140737488355328) := Lib.hid (by omega)
  have hby : ∀ w1, Below (w.heap.size + 1) (w.alloc (.cells #[.int .u8 0, .int .u8 k0, .string tx, .int .i64 p0, .int .i64 p1, .int .i64 p2, .int .i64 fd, v7] TN)) w1 → _ := fun w1 h => box8 h
  obtain ⟨W1, hW1⟩ : ∃ W1, w.alloc (.cells #[.int .u8 0, .int .u8 k0, .string tx, .int .i64 p0, .int .i64 p1, .int .i64 p2, .int .i64 fd, v7] TN) = W1 := ⟨_, rfl⟩
  have hs1 : W1.heap.size = w.heap.size + 1 := by rw [← hW1, World.size_alloc]
  have hb1 : Below w.heap.size w W1 := by rw [← hW1]; exact (Below.refl w.heap.size w).alloc (Nat.le_refl _) _
  rw [hW1] at hby
  have HBY := Lib.hid hby
  have HW1 := Lib.hid hW1
  have HB1 := Lib.hid hb1
  have HS1 := Lib.hid hs1
  clear hb h hby hW1 hb1 hs1
  go_enter Try.func29, Try.ntmps29
  go_upto_region 2 with (fail)
  rw [HW1.out]
  obtain ⟨y0, y1, y2, y3, y4, y5, y6, y7⟩ := HBY.out W1 (Below.refl _ _)
  go_wp2_with (first
    | (go_at_call 25; (with_reducible refine (CC.out _).mono ?_); rintro e w2 ⟨rfl, hb⟩; have HK2 := Lib.hid (H.out.keep (HB1.out.trans (hb.mono HB1.out.size))); have HP2 := Lib.hid (Keeps.of_below (HB1.out.trans (hb.mono HB1.out.size))); (obtain ⟨z0, z1, z2, z3, z4, z5, z6, z7⟩ := HBY.out w2 (hb.mono (Nat.le_of_eq HS1.out.symm))); clear hb; rw [HB.out]; (obtain ⟨v1, hv1, hr1⟩ := (HK2.out).out); (obtain ⟨A1, c1, rfl⟩ := Kd.R_slice hr1); have cv1 := blk_cell hv1 0; have fv1 := blk_frozen hv1 0; simp only [List.getElem?_toArray, List.getElem?_cons_zero] at cv1; have HR1 := Lib.hid hr1; have HV1 := Lib.hid hv1; clear hr1 hv1)
    | ((with_reducible refine gate_dst (N := 48) rfl ?_); refine Kd.R_append kEv (w0 := w2) (w0.heap.size + 3) rfl (.tmp 43) (.tmp 47) 22 32 _ 64 rfl Try.underlying22 infoEv rfl (by decide) (by decide) (.slice A1 (xs).length c1) (xs) (⟨4, 0, ⟨k0, tx, ⟨p0, p1, p2⟩, fd⟩⟩) (evCells (⟨4, 0, ⟨k0, tx, ⟨p0, p1, p2⟩, fd⟩⟩)) (fun _ => True) (fun _ => False) rfl rfl (ev_M _ _ _) (fun _ h => h.elim) (fun _ _ => trivial) HR1.out (Below.refl _ _) (HK2.out).size HF1.out ?_; intro v3 w3 ho _ hg _; (obtain ⟨A3, c3, rfl⟩ := Kd.R_slice ho); have HG3 := Lib.hid hg; have HO3 := Lib.hid ho; have hm3 := Lib.hid ((hg.block (w0.heap.size + 1) (by have := (HK2.out).size; omega) (fun he => by have := Kd.R_base HR1.out _ he.symm; omega)).trans HV1.out); have cm3 := blk_cell hm3.out 0; have fm3 := blk_frozen hm3.out 0; simp only [List.getElem?_toArray, List.getElem?_cons_zero] at cm3; clear ho hg)
    | ((with_reducible refine gate_ (.store 22 (.tmp 1) (.tmp 48)) rfl ?_); refine wl_box rfl rfl _ _ _ rfl _ [.slice A3 ((xs) ++ [(⟨4, 0, ⟨k0, tx, ⟨p0, p1, p2⟩, fd⟩⟩ : Ev)]).length c3] rfl rfl rfl infoEvS (fun u hu => by rw [List.mem_singleton.1 hu]; rfl) hm3.out rfl ?_; intro w5 h5 hu; have HKw5 := Lib.hid (Out.told HK2.out HR1.out HO3.out HG3.out h5 hu); have HPw5 := Lib.hid (Keeps.told HK2.out HR1.out HG3.out hu); clear h5 hu))
  refine bodyPost_end (results_none rfl _ _ _) rfl ?_
  refine ⟨⟨_, rfl⟩, ?_, HP2.out.trans HPw5.out⟩
  have ht := HKw5.out
  have he : evTok ⟨k0, tx, ⟨p0, p1, p2⟩, fd⟩ = ⟨4, 0, ⟨k0, tx, ⟨p0, p1, p2⟩, fd⟩⟩ := by unfold evTok; rw [HB.out]; rfl
  rw [he]
  exact ht
/-- The i-th kid's cells. -/
theorem kid_at {w : World} {A : Option Addr} {n : Nat} {l : List Nd} (h : Kd.C kNd w A n l) (i : Nat) (x : Nd) (hi : i < n) (hx : l[i]? = some x) : ∃ ad A1 c1, A = some ad ∧ (w.cell? (ad.add (i * 8)) = some (.int .u8 x.f0) ∧ w.cell? ⟨(ad.add (i * 8)).block, (ad.add (i * 8)).off + 1, none⟩ = some (.int .u8 x.f1.f0) ∧ w.cell? ⟨(ad.add (i * 8)).block, (ad.add (i * 8)).off + 2, none⟩ = some (.string x.f1.f1) ∧ w.cell? ⟨(ad.add (i * 8)).block, (ad.add (i * 8)).off + 3, none⟩ = some (.int .i64 x.f1.f2.f0) ∧ w.cell? ⟨(ad.add (i * 8)).block, (ad.add (i * 8)).off + 4, none⟩ = some (.int .i64 x.f1.f2.f1) ∧ w.cell? ⟨(ad.add (i * 8)).block, (ad.add (i * 8)).off + 5, none⟩ = some (.int .i64 x.f1.f2.f2) ∧ w.cell? ⟨(ad.add (i * 8)).block, (ad.add (i * 8)).off + 6, none⟩ = some (.int .i64 x.f1.f3) ∧ w.cell? ⟨(ad.add (i * 8)).block, (ad.add (i * 8)).off + 7, none⟩ = some (.slice A1 x.f2.length c1)) ∧ x.f2.length ≤ c1 ∧ Kd.C kNd w A1 x.f2.length x.f2 := by
  obtain ⟨ad, A1, c1, h0, k0, k1, k2, k3, k4, k5, k6, k7, hl, hc⟩ := PTreeSame.at_T35 h (i : Int) (by omega) (by omega)
  have hr : PTreeSame.rd_T35 l (i : Int) = x := by simp [PTreeSame.rd_T35, List.getD, hx]
  rw [hr] at k0 k1 k2 k3 k4 k5 k6 k7 hl hc
  rw [Int.toNat_natCast] at k0 k1 k2 k3 k4 k5 k6 k7
  exact ⟨ad, A1, c1, h0, ⟨k0, k1, k2, k3, k4, k5, k6, k7⟩, hl, hc⟩
set_option maxRecDepth 100000 in
set_option maxHeartbeats 8000000 in
theorem walk_any (w0 : World) : ∀ (N : Nat) (x : Nd) (A : Option Addr) (n c : Nat), nds x ≤ N → x.f2.length = n → n ≤ c → Kd.C kNd w0 A n x.f2 → ∀ (w : World) (xs : List Ev), Out w0 w xs → xs.length + 2 * nds x ≤ 1073741824 →
    Calls Try.prog 29 #[.agg #[.int .u8 x.f0, .int .u8 x.f1.f0, .string x.f1.f1, .int .i64 x.f1.f2.f0, .int .i64 x.f1.f2.f1, .int .i64 x.f1.f2.f2, .int .i64 x.f1.f3, .slice A n c], .pointer (some ⟨w0.heap.size + 1, 0, none⟩), .pointer (some ⟨w0.heap.size + 2, 0, none⟩)] w fun e w' => OutPost w0 w (xs ++ tells x) e w' := by
  intro N
  induction N with
  | zero => intro x A n c hN; have := nds_pos x; omega
  | succ N ih =>
    intro x A n c hN hn hnc hC w xs h hl
    by_cases hk : x.f0 = 0
    · have hp := nds_pos x
      have ht : tells x = [evTok x.f1] := by rw [tells_eq, if_pos hk]
      rw [ht, hk]
      cases hb : isNote x.f1 with
      | false => exact walk_tok_false w0 w x.f1 _ xs hb h (by omega)
      | true => exact walk_tok_true w0 w x.f1 _ xs hb h (by omega)
    · have HC := Lib.hid hC
      have H := Lib.hid h
      have HT : Hid (tells x = evOpen x.f0 :: (tellsL x.f2 ++ [evClose x.f0])) := Lib.hid (by rw [tells_eq, if_neg hk])
      have hsz := nds_eq x
      have HSZ := Lib.hid hsz
      have HNN := Lib.hid hN
      have HLL := Lib.hid hl
      have hn24 : n ≤ 1073741824 := by have := ndsL_len x.f2; omega
      have dk : (x.f0 != 0) = true := bne_iff_ne.2 hk
      obtain ⟨k, t, kids⟩ := x
      obtain ⟨k0, tx, ⟨p0, p1, p2⟩, fd⟩ := t
      dsimp only at *
      have IH := Lib.hid ih
      have HN := Lib.hid hn
      have HF1 : Hid ((xs.length + 1) * 64 ≤ 140737488355328) := Lib.hid (by omega)
      have hby : ∀ w1, Below (w.heap.size + 1) (w.alloc (.cells #[.int .u8 k, .int .u8 k0, .string tx, .int .i64 p0, .int .i64 p1, .int .i64 p2, .int .i64 fd, .slice A n c] TN)) w1 → _ := fun w1 h => box8 h
      obtain ⟨W1, hW1⟩ : ∃ W1, w.alloc (.cells #[.int .u8 k, .int .u8 k0, .string tx, .int .i64 p0, .int .i64 p1, .int .i64 p2, .int .i64 fd, .slice A n c] TN) = W1 := ⟨_, rfl⟩
      have hs1 : W1.heap.size = w.heap.size + 1 := by rw [← hW1, World.size_alloc]
      have hb1 : Below w.heap.size w W1 := by rw [← hW1]; exact (Below.refl w.heap.size w).alloc (Nat.le_refl _) _
      rw [hW1] at hby
      have HBY := Lib.hid hby
      have HW1 := Lib.hid hW1
      have HB1 := Lib.hid hb1
      have hnb : W1.heap[w.heap.size]? = some (.cells #[.int .u8 k, .int .u8 k0, .string tx, .int .i64 p0, .int .i64 p1, .int .i64 p2, .int .i64 fd, .slice A n c] TN (0, 0)) := by rw [← hW1]; exact heap_alloc_new w _
      have HNB := Lib.hid hnb
      have HNE : Hid (w.heap.size ≠ w0.heap.size + 1) := Lib.hid (by have := h.size; omega)
      have HS1 := Lib.hid hs1
      have HK1 := Lib.hid (h.keep hb1)
      clear h hby hW1 hb1 hs1 hnb hC ih hn hsz hN hl hk
      go_enter Try.func29, Try.ntmps29
      go_upto_region 2 with (fail)
      rw [HW1.out]
      obtain ⟨y0, y1, y2, y3, y4, y5, y6, y7⟩ := HBY.out W1 (Below.refl _ _)
      (obtain ⟨v1, hv1, hr1⟩ := (HK1.out).out); (obtain ⟨A1, c1, rfl⟩ := Kd.R_slice hr1); have cv1 := blk_cell hv1 0; have fv1 := blk_frozen hv1 0; simp only [List.getElem?_toArray, List.getElem?_cons_zero] at cv1; have HR1 := Lib.hid hr1; have HV1 := Lib.hid hv1; clear hr1 hv1
      go_wp2_with (first
        | ((with_reducible refine gate_dst (N := 21) rfl ?_); refine Kd.R_append kEv (w0 := W1) (w0.heap.size + 3) rfl (.tmp 16) (.tmp 20) 22 32 _ 64 rfl Try.underlying22 infoEv rfl (by decide) (by decide) (.slice A1 (xs).length c1) (xs) (⟨1, k, noTk⟩) (evCells (⟨1, k, noTk⟩)) (fun _ => True) (fun _ => False) rfl rfl (ev_M _ _ _) (fun _ h => h.elim) (fun _ _ => trivial) HR1.out (Below.refl _ _) (HK1.out).size HF1.out ?_; intro v3 w3 ho _ hg _; (obtain ⟨A3, c3, rfl⟩ := Kd.R_slice ho); have HG3 := Lib.hid hg; have HO3 := Lib.hid ho; have hm3 := Lib.hid ((hg.block (w0.heap.size + 1) (by have := (HK1.out).size; omega) (fun he => by have := Kd.R_base HR1.out _ he.symm; omega)).trans HV1.out); have cm3 := blk_cell hm3.out 0; have fm3 := blk_frozen hm3.out 0; simp only [List.getElem?_toArray, List.getElem?_cons_zero] at cm3; clear ho hg)
        | ((with_reducible refine gate_ (.store 22 (.tmp 1) (.tmp 21)) rfl ?_); refine wl_box rfl rfl _ _ _ rfl _ [.slice A3 ((xs) ++ [(⟨1, k, noTk⟩ : Ev)]).length c3] rfl rfl rfl infoEvS (fun u hu => by rw [List.mem_singleton.1 hu]; rfl) hm3.out rfl ?_; intro w5 h5 hu; have HKw5 := Lib.hid (Out.told HK1.out HR1.out HO3.out HG3.out h5 hu); have HPw5 := Lib.hid (Keeps.told HK1.out HR1.out HG3.out hu); have HBw5 := Lib.hid (HPw5.out _ _ HNB.out); (obtain ⟨q0, q1, q2, q3, q4, q5, q6, q7⟩ := cells8 HBw5.out); clear h5 hu))
      have HB5 := HBw5
      have HP0 := Lib.hid ((Keeps.of_below HB1.out).trans HPw5.out)
      have HK5 : Hid (Out w0 w5 (xs ++ [⟨1, k, noTk⟩] ++ tellsL (kids.take 0))) := Lib.hid (by rw [List.take_zero, tellsL, List.append_nil]; exact HKw5.out)
      clear HBw5 HPw5 HKw5 q0 q1 q2 q3 q4 q5 q6 q7
      go_loopw [25] (fun kv wr => ∃ i : Nat, i ≤ n ∧ kv = .int .i64 i ∧ Hid (Out w0 wr (xs ++ [⟨1, k, noTk⟩] ++ tellsL (kids.take i)) ∧ Keeps w wr ∧ wr.heap[w.heap.size]? = some (.cells #[.int .u8 k, .int .u8 k0, .string tx, .int .i64 p0, .int .i64 p1, .int .i64 p2, .int .i64 fd, .slice A n c] TN (0, 0)))) (fun kv _ => n - (intOf kv).toNat)
      case atStart => exact ⟨0, by omega, rfl, Lib.hid ⟨HK5.out, HP0.out, HB5.out⟩⟩
      case round =>
        clear HK5 HP0 HB5
        obtain ⟨i, hi, rfl, HL⟩ := hrel
        by_cases hlt : i < n
        · have hi2 : i < kids.length := by rw [HN.out]; exact hlt
          obtain ⟨y, hy⟩ : ∃ y, kids[i]? = some y := ⟨kids[i], List.getElem?_eq_getElem hi2⟩
          obtain ⟨ad, A1, c1, rfl, hcs, hl1, hC1⟩ := kid_at HC.out i y hlt hy
          obtain ⟨k0', k1', k2', k3', k4', k5', k6', k7'⟩ := hcs
          have hbw := HL.out.1.below
          replace k0' := pw_cell_below hbw k0'
          replace k1' := pw_cell_below hbw k1'
          replace k2' := pw_cell_below hbw k2'
          replace k3' := pw_cell_below hbw k3'
          replace k4' := pw_cell_below hbw k4'
          replace k5' := pw_cell_below hbw k5'
          replace k6' := pw_cell_below hbw k6'
          replace k7' := pw_cell_below hbw k7'
          have cW := blk_cell HL.out.1.walk 0
          simp only [List.getElem?_toArray, List.getElem?_cons_zero] at cW
          have hny : nds y ≤ N := by have h1 := ndsL_mem (List.mem_of_getElem? hy); have h2 := HSZ.out; have h3 := HNN.out; omega
          have hty := take_tells hy
          have htl := tellsL_len (kids.take i)
          have hnt := take_nds (l := kids) i
          have hn1 : ndsL (kids.take i) + nds y ≤ ndsL kids := by
            have h1 := take_nds (l := kids) (i + 1)
            rw [List.take_add_one, hy, ndsL_append] at h1
            simp [ndsL_one] at h1
            exact h1
          have IHY : Hid (∀ w', Below wr.heap.size wr w' → Calls Try.prog 29 #[.agg #[.int .u8 y.f0, .int .u8 y.f1.f0, .string y.f1.f1, .int .i64 y.f1.f2.f0, .int .i64 y.f1.f2.f1, .int .i64 y.f1.f2.f2, .int .i64 y.f1.f3, .slice A1 y.f2.length c1], .pointer (some ⟨w0.heap.size + 1, 0, none⟩), .pointer (some ⟨w0.heap.size + 2, 0, none⟩)] w' fun e w'' => OutPost w0 w' (xs ++ [⟨1, k, noTk⟩] ++ tellsL (kids.take (i + 1))) e w'') := Lib.hid fun w' hb => by
            rw [hty, ← List.append_assoc]
            exact IH.out y A1 y.f2.length c1 hny rfl hl1 hC1 w' _ (HL.out.1.keep hb) (by
              have h1 := HLL.out
              have h2 := HSZ.out
              simp only [List.length_append, List.length_singleton]
              omega)
          have hbz : ∀ w1, Below (wr.heap.size + 1) (wr.alloc (.cells #[.int .u8 y.f0, .int .u8 y.f1.f0, .string y.f1.f1, .int .i64 y.f1.f2.f0, .int .i64 y.f1.f2.f1, .int .i64 y.f1.f2.f2, .int .i64 y.f1.f3, .slice A1 y.f2.length c1] TN)) w1 → _ := fun w1 h => box8 h
          obtain ⟨W6, hW6⟩ : ∃ W6, wr.alloc (.cells #[.int .u8 y.f0, .int .u8 y.f1.f0, .string y.f1.f1, .int .i64 y.f1.f2.f0, .int .i64 y.f1.f2.f1, .int .i64 y.f1.f2.f2, .int .i64 y.f1.f3, .slice A1 y.f2.length c1] TN) = W6 := ⟨_, rfl⟩
          have hb6 : Below wr.heap.size wr W6 := by rw [← hW6]; exact (Below.refl wr.heap.size wr).alloc (Nat.le_refl _) _
          rw [hW6] at hbz
          have HBZ := Lib.hid hbz
          have HW6 := Lib.hid hW6
          have HB6 := Lib.hid hb6
          have cW6 := pw_cell_below hb6 cW
          clear hy hl1 hC1 hbw hny hty htl hnt hn1 hi2 hbz hW6 hb6 cW
          go_upto_region 7 with (fail)
          rw [HW6.out]
          obtain ⟨q0, q1, q2, q3, q4, q5, q6, q7⟩ := HBZ.out W6 (Below.refl _ _)
          go_wp2_with (first
            | (go_at_call 29; (with_reducible refine (IHY.out _ HB6.out).mono ?_); rintro e w2 ⟨⟨v2, rfl⟩, ho2, hp2⟩; have HO2 := Lib.hid ho2; have HP2 := Lib.hid ((Keeps.of_below HB6.out).trans hp2); clear ho2 hp2))
          go_roundw
          case rel => exact ⟨i + 1, by omega, by go_num, Lib.hid ⟨HO2.out, HL.out.2.1.trans HP2.out, HP2.out _ _ HL.out.2.2⟩⟩
          case measure => simp [intOf]; omega
        · obtain rfl : n = i := by omega
          have hall : kids.take n = kids := List.take_of_length_le (by rw [HN.out]; exact Nat.le_refl _)
          have HL2 : Hid (Out w0 wr (xs ++ [⟨1, k, noTk⟩] ++ tellsL kids)) := Lib.hid (by have h := HL.out.1; rw [hall] at h; exact h)
          have HNB2 := Lib.hid HL.out.2.2
          have HKP := Lib.hid HL.out.2.1
          obtain ⟨ys, hys⟩ : ∃ ys, xs ++ [⟨1, k, noTk⟩] ++ tellsL kids = ys := ⟨_, rfl⟩
          have HYS := Lib.hid hys
          have HF5 : Hid ((ys.length + 1) * 64 ≤ 140737488355328) := Lib.hid (by
            have h1 := HLL.out
            have h2 := HSZ.out
            have h3 := tellsL_len kids
            rw [← hys]
            simp only [List.length_append, List.length_singleton]
            omega)
          rw [hys] at HL2
          clear hall HL hys
          obtain ⟨q0, q1, q2, q3, q4, q5, q6, q7⟩ := cells8 HNB2.out
          (obtain ⟨v5, hv5, hr5⟩ := (HL2.out).out); (obtain ⟨A5, c5, rfl⟩ := Kd.R_slice hr5); have cv5 := blk_cell hv5 0; have fv5 := blk_frozen hv5 0; simp only [List.getElem?_toArray, List.getElem?_cons_zero] at cv5; have HR5 := Lib.hid hr5; have HV5 := Lib.hid hv5; clear hr5 hv5
          go_wp2_with (first
            | ((with_reducible refine gate_dst (N := 38) rfl ?_); refine Kd.R_append kEv (w0 := wr) (w0.heap.size + 3) rfl (.tmp 33) (.tmp 37) 22 32 _ 64 rfl Try.underlying22 infoEv rfl (by decide) (by decide) (.slice A5 (ys).length c5) (ys) (⟨3, k, noTk⟩) (evCells (⟨3, k, noTk⟩)) (fun _ => True) (fun _ => False) rfl rfl (ev_M _ _ _) (fun _ h => h.elim) (fun _ _ => trivial) HR5.out (Below.refl _ _) (HL2.out).size HF5.out ?_; intro v6 w6 ho _ hg _; (obtain ⟨A6, c6, rfl⟩ := Kd.R_slice ho); have HG6 := Lib.hid hg; have HO6 := Lib.hid ho; have hm6 := Lib.hid ((hg.block (w0.heap.size + 1) (by have := (HL2.out).size; omega) (fun he => by have := Kd.R_base HR5.out _ he.symm; omega)).trans HV5.out); have cm6 := blk_cell hm6.out 0; have fm6 := blk_frozen hm6.out 0; simp only [List.getElem?_toArray, List.getElem?_cons_zero] at cm6; clear ho hg)
            | ((with_reducible refine gate_ (.store 22 (.tmp 1) (.tmp 38)) rfl ?_); refine wl_box rfl rfl _ _ _ rfl _ [.slice A6 ((ys) ++ [(⟨3, k, noTk⟩ : Ev)]).length c6] rfl rfl rfl infoEvS (fun u hu => by rw [List.mem_singleton.1 hu]; rfl) hm6.out rfl ?_; intro w7 h5 hu; have HKw7 := Lib.hid (Out.told HL2.out HR5.out HO6.out HG6.out h5 hu); have HPw7 := Lib.hid (Keeps.told HL2.out HR5.out HG6.out hu); clear h5 hu))
          refine bodyPost_end (results_none rfl _ _ _) rfl ?_
          refine ⟨⟨_, rfl⟩, ?_, HKP.out.trans HPw7.out⟩
          have ht := HKw7.out
          rw [HT.out]
          rw [← HYS.out] at ht
          simpa [evOpen, evClose] using ht
end Go.Proofs.Ytfefldkljbbbpaa
set_option linter.unusedVariables false
set_option linter.unusedSimpArgs false
namespace Go.Proofs.Ytfefldkljbbbpaa
open Go.RowKit Go.Proofs.YtfefldkljbbbpaaW.PrintWords Go.Proofs.YtfefldkljbbbpaaW.PrintLast Go.Proofs.YtfefldkljbbbpaaW.PrintMore
def EvPost (w0 : World) (l : List Ev) (e : Ending) (w' : World) : Prop := ∃ v, e = .returned v ∧ Kd.R kEv TE w' w0.heap.size (fun _ => True) v l ∧ Below w0.heap.size w0 w'
theorem heap_old {w : World} {o o' : Obj} {k : Nat} (h : w.heap[k]? = some o') : (w.alloc o).heap[k]? = some o' := (Below.heap_alloc w o k (blk_lt h)).trans h
theorem out_start (w0 : World) (nb : Obj) : Out w0 (((w0.alloc nb).alloc (.cells #[.slice none 0 0] 22)).alloc (.cells #[.func (.func 29) #[] #[.pointer (some ⟨w0.heap.size + 1, 0, none⟩), .pointer (some ⟨w0.heap.size + 2, 0, none⟩)]] 40)) [] := by
  have h1 := heap_alloc_new (w0.alloc nb) (.cells #[.slice none 0 0] 22)
  have h2 := heap_alloc_new ((w0.alloc nb).alloc (.cells #[.slice none 0 0] 22)) (.cells #[.func (.func 29) #[] #[.pointer (some ⟨w0.heap.size + 1, 0, none⟩), .pointer (some ⟨w0.heap.size + 2, 0, none⟩)]] 40)
  rw [World.size_alloc] at h1
  rw [World.size_alloc, World.size_alloc] at h2
  refine ⟨⟨.slice none 0 0, heap_old h1, Kd.R_nil _ _ _ _ _⟩, h2, ?_, ?_⟩
  · exact (((Below.refl w0.heap.size w0).alloc (Nat.le_refl _) _).alloc (by simp) _).alloc (by simp; omega) _
  · simp only [World.size_alloc]; omega
set_option maxRecDepth 100000 in
set_option maxHeartbeats 2000000 in
theorem events_any (x : Nd) (A : Option Addr) (n c : Nat) (w0 : World) (hn : x.f2.length = n) (hc : n ≤ c) (hC : Kd.C kNd w0 A n x.f2) (hl : 2 * nds x ≤ 1073741824) :
    Calls Try.prog 19 #[.agg #[.int .u8 x.f0, .int .u8 x.f1.f0, .string x.f1.f1, .int .i64 x.f1.f2.f0, .int .i64 x.f1.f2.f1, .int .i64 x.f1.f2.f2, .int .i64 x.f1.f3, .slice A n c]] w0 fun e w' => EvPost w0 (tells x) e w' := by
  have hW := Lib.hid (fun w (h : Out w0 w []) => walk_any w0 (nds x) x A n c (Nat.le_refl _) hn hc hC w [] h (by simpa using hl))
  have HS := Lib.hid (out_start w0 (.cells #[.int .u8 x.f0, .int .u8 x.f1.f0, .string x.f1.f1, .int .i64 x.f1.f2.f0, .int .i64 x.f1.f2.f1, .int .i64 x.f1.f2.f2, .int .i64 x.f1.f3, .slice A n c] TN))
  obtain ⟨ys, hys⟩ : ∃ ys, tells x = ys := ⟨_, rfl⟩
  rw [List.nil_append, hys] at hW
  rw [hys]
  clear hn hc hC hl hys
  go_enter Try.func19, Try.ntmps19
  go_wp2_with (first
    | (go_at_call 29; (with_reducible refine (hW.out _ HS.out).mono ?_); rintro e w2 ⟨⟨v2, rfl⟩, ho2, hp2⟩; (obtain ⟨v3, hv3, hr3⟩ := ho2.out); have cv3 := blk_cell hv3 0; simp only [List.getElem?_toArray, List.getElem?_cons_zero] at cv3; have HR3 := Lib.hid hr3; have HB3 := Lib.hid ho2.below; clear ho2 hp2 hr3 hv3))

  go_ret
  exact ⟨_, rfl, Kd.R_lower HR3.out (by omega), HB3.out⟩
end Go.Proofs.Ytfefldkljbbbpaa
set_option linter.unusedVariables false
set_option linter.unusedSimpArgs false
namespace Go.Proofs.Ytfefldkljbbbpaa
open Go.RowKit Go.Shelf Go.Proofs.YtfefldkljbbbpaaW.PrintWords Go.Proofs.YtfefldkljbbbpaaW.PrintLast Go.Proofs.YtfefldkljbbbpaaW.PrintMore
attribute [local go_sem] Oper.semAt_some
/-- A node that lies in w0, as a value. -/
structure KV (w0 : World) (m : Nat) where
  x : Nd
  A : Option Addr
  c : Nat
  hc : x.f2.length ≤ c
  hC : Kd.C kNd w0 A x.f2.length x.f2
  hm : nds x ≤ m
def KV.val {w0 : World} {m : Nat} (k : KV w0 m) : Value := .agg #[.int .u8 k.x.f0, .int .u8 k.x.f1.f0, .string k.x.f1.f1, .int .i64 k.x.f1.f2.f0, .int .i64 k.x.f1.f2.f1, .int .i64 k.x.f1.f2.f2, .int .i64 k.x.f1.f3, .slice k.A k.x.f2.length k.c]
def isKid (x : Nd) : Bool := x.f0 != 0 || !isNote x.f1
def plainL (l : List Nd) : List Nd := l.filter isKid
theorem plainL_prefix (l : List Nd) (i : Nat) : plainL (l.take i) <+: plainL l := by
  conv => rhs; rw [← List.take_append_drop i l]
  unfold plainL
  rw [List.filter_append]
  exact List.prefix_append _ _
set_option maxRecDepth 100000 in
set_option maxHeartbeats 4000000 in
theorem kids_in (n : Nat) (x : Nd) (A : Option Addr) (len c : Nat) (w : World) :
    CallsIn Fence.wide n Try.prog 28 #[.agg #[.int .u8 x.f0, .int .u8 x.f1.f0, .string x.f1.f1, .int .i64 x.f1.f2.f0, .int .i64 x.f1.f2.f1, .int .i64 x.f1.f2.f2, .int .i64 x.f1.f3, .slice A len c]] w fun e w' => e = .returned (.func (.func 36) #[] #[.pointer (some ⟨w.heap.size, 0, none⟩)]) ∧ w' = w.alloc (.cells #[.int .u8 x.f0, .int .u8 x.f1.f0, .string x.f1.f1, .int .i64 x.f1.f2.f0, .int .i64 x.f1.f2.f1, .int .i64 x.f1.f2.f2, .int .i64 x.f1.f3, .slice A len c] TN) := by
  refine callsIn_wide.2 ?_
  go_enter Try.func28, Try.ntmps28
  go_wp2
  go_ret
  exact ⟨rfl, rfl⟩
set_option maxRecDepth 100000 in
set_option maxHeartbeats 4000000 in
/-- The iterator: for every loop body that keeps what lay below w0. -/
theorem kids1_in (n : Nat) (hn : 1 ≤ n) (w0 : World) (x : Nd) (A : Option Addr) (len c : Nat) (hlen : x.f2.length = len) (hC : Kd.C kNd w0 A len x.f2) (m : Nat) (hm : ndsL x.f2 ≤ m) (l Bn : Nat) (J Jx : List (KV w0 m) → World → Prop) (W : World) (hJ : AbidesFrom W.heap.size J)
    (hY : ∀ pre k W1, J pre W1 → pre.length < len → YieldAt Fence.wide (n - 1) Try.prog l #[KV.val k] W1 fun e W' =>
      (e = .returned (.bool true) ∧ J (pre ++ [k]) W' ∧ Below w0.heap.size W1 W') ∨ (e = .returned (.bool false) ∧ Jx (pre ++ [k]) W'))
    (hb : Below w0.heap.size w0 W) (hBn : W.cell? ⟨Bn, 7, none⟩ = some (.slice A len c)) (hl24 : len ≤ 1073741824) (h0 : J [] W) :
    CallsIn Fence.wide n Try.prog 36 #[.func (.yield l) #[] #[], .pointer (some ⟨Bn, 0, none⟩)] W fun e W' => (∃ v, e = .returned v) ∧
      ((∃ ys : List (KV w0 m), ys.map (·.x) = plainL x.f2 ∧ J ys W') ∨ (∃ pre : List (KV w0 m), pre.map (·.x) <+: plainL x.f2 ∧ Jx pre W')) := by
  refine callsIn_of_wp Try.func36 rfl trivial ?_ rfl
  simp only [Try.ntmps36, List.size_toArray, List.length_cons, List.length_nil, Nat.reduceAdd, Nat.reduceSub, Array.replicate_succ, Array.replicate_zero, List.push_toArray, List.append_toArray, List.nil_append, List.cons_append]
  gi_wp2
  gi_loopw [8] (fun iv wr => ∃ i : Nat, i ≤ len ∧ iv = .int .i64 i ∧ Hid (∃ ys : List (KV w0 m), ys.map (·.x) = plainL (x.f2.take i) ∧ ys.length ≤ i ∧ J ys wr ∧ Below w0.heap.size w0 wr)) (fun iv _ => len - (intOf iv).toNat)
  case atStart => exact ⟨0, by omega, rfl, Lib.hid ⟨[], by simp [plainL], by simp, h0, hb⟩⟩
  case round =>
    obtain ⟨i, hi, rfl, HL⟩ := hrel
    have HJ := Lib.hid hJ
    have HY := Lib.hid hY
    have HLEN := Lib.hid hlen
    have HC := Lib.hid hC
    clear hJ hY hlen hC hBn h0
    by_cases hlt : i < len
    · obtain ⟨y, hy⟩ : ∃ y, x.f2[i]? = some y := ⟨x.f2[i]'(by rw [HLEN.out]; exact hlt), List.getElem?_eq_getElem _⟩
      obtain ⟨ad, A1, c1, rfl, hcs, hl1, hC1⟩ := kid_at HC.out i y hlt hy
      obtain ⟨k0, k1, k2, k3, k4, k5, k6, k7⟩ := hcs
      obtain ⟨ys, hys, hyl, hJy, hbw⟩ := HL.out
      replace k0 := pw_cell_below hbw k0
      replace k1 := pw_cell_below hbw k1
      replace k2 := pw_cell_below hbw k2
      replace k3 := pw_cell_below hbw k3
      replace k4 := pw_cell_below hbw k4
      replace k5 := pw_cell_below hbw k5
      replace k6 := pw_cell_below hbw k6
      replace k7 := pw_cell_below hbw k7
      obtain ⟨kv, hkx, hkv⟩ : ∃ kv : KV w0 m, kv.x = y ∧ KV.val kv = .agg #[.int .u8 y.f0, .int .u8 y.f1.f0, .string y.f1.f1, .int .i64 y.f1.f2.f0, .int .i64 y.f1.f2.f1, .int .i64 y.f1.f2.f2, .int .i64 y.f1.f3, .slice A1 y.f2.length c1] := ⟨⟨y, A1, c1, hl1, hC1, Nat.le_trans (ndsL_mem (List.mem_of_getElem? hy)) hm⟩, rfl, rfl⟩
      have HKV := Lib.hid hkv
      have HKX := Lib.hid hkx
      have HYS : Hid (plainL (x.f2.take (i + 1)) = plainL (x.f2.take i) ++ plainL [y]) := Lib.hid (by rw [List.take_add_one, hy]; simp [plainL, List.filter_append])
      have HY0 : Hid (ys.map (·.x) = plainL (x.f2.take i)) := Lib.hid hys
      have HBW := Lib.hid hbw
      have HJY := Lib.hid hJy
      clear hy hkv hkx hys hbw hJy HL hl1 hC1
      by_cases hk : y.f0 = 0
      · have hpl : plainL [y] = if isNote y.f1 then [] else [y] := by
          cases hbn : isNote y.f1 <;> simp [plainL, isKid, hk, hbn]
        have HPL := Lib.hid hpl
        have CC := Lib.hid (comment_any y.f1)
        have HK0 := Lib.hid hk
        rw [hk] at k0
        obtain ⟨W6, hW6⟩ : ∃ W6, wr.alloc (.cells #[.int .u8 0, .int .u8 y.f1.f0, .string y.f1.f1, .int .i64 y.f1.f2.f0, .int .i64 y.f1.f2.f1, .int .i64 y.f1.f2.f2, .int .i64 y.f1.f3, .slice A1 y.f2.length c1] TN) = W6 := ⟨_, rfl⟩
        have hs6 : W6.heap.size = wr.heap.size + 1 := by rw [← hW6, World.size_alloc]
        have hby : ∀ w2, Below W6.heap.size W6 w2 → _ := fun w2 hb2 => box8 (w := wr) (w1 := w2) (a := .int .u8 0) (b := .int .u8 y.f1.f0) (c := .string y.f1.f1) (d := .int .i64 y.f1.f2.f0) (e := .int .i64 y.f1.f2.f1) (f := .int .i64 y.f1.f2.f2) (g := .int .i64 y.f1.f3) (h := .slice A1 y.f2.length c1) (T := TN) (by rw [hW6, ← hs6]; exact hb2)
        have hJ6 : J ys W6 := by rw [← hW6]; exact HJ.out ys wr _ none HJY.out (World.grownBy_alloc _ _ _) (fun r e => by cases e)
        have hB6 : Below w0.heap.size w0 W6 := by rw [← hW6]; exact HBW.out.alloc HBW.out.size _
        have HJ6 := Lib.hid hJ6
        have HB6 := Lib.hid hB6
        have HBY := Lib.hid hby
        obtain ⟨q0, q1, q2, q3, q4, q5, q6, q7⟩ := hby W6 (Below.refl _ _)
        clear hk hpl hJ6 hB6 hby
        gi_wp2
        refine ⟨trivial, ?_⟩
        gi_at_call 25
        refine (callsIn_wide.2 (CC.out W6)).mono ?_
        rintro e w2 ⟨rfl, hb2⟩
        clear q0 q1 q2 q3 q4 q5 q6 q7
        obtain ⟨q0, q1, q2, q3, q4, q5, q6, q7⟩ := HBY.out w2 hb2
        have hJ2 : J ys w2 := HJ.out ys W6 w2 none HJ6.out (grown_of_below hb2 none) (fun r e => by cases e)
        have hB2 : Below w0.heap.size w0 w2 := HB6.out.trans (hb2.mono HB6.out.size)
        have HB2 := Lib.hid hB2
        have HJ2 := Lib.hid hJ2
        cases hbn : isNote y.f1 with
        | true =>
          rw [hbn, if_pos rfl] at HPL
          clear hb2 hJ2 hB2
          gi_wp2
          refine ⟨fun _ h => (by cases h), ?_⟩
          gi_wp2
          refine ⟨⟨i + 1, by omega, by push_cast; rfl, Lib.hid ⟨ys, ?_, by omega, HJ2.out, HB2.out⟩⟩, by simp only [intOf]; omega⟩
          rw [HY0.out, HYS.out, HPL.out, List.append_nil]
        | false =>
          rw [hbn, if_neg (by decide)] at HPL
          obtain ⟨fn, tmps, assign, body, hyr, hR⟩ := HY.out ys kv w2 hJ2 (by omega)
          have HR := Lib.hid hR
          rw [HKV.out, HK0.out] at hyr
          clear hb2 hJ2 hB2 hR
          gi_wp2
          refine HR.out.mono ?_
          rintro e W3 (⟨rfl, hJ3, hk3⟩ | ⟨rfl, hJx3⟩)
          · gi_wp2
            refine ⟨⟨i + 1, by omega, by push_cast; rfl, Lib.hid ⟨ys ++ [kv], ?_, by simp; omega, hJ3, HB2.out.trans hk3⟩⟩, by simp only [intOf]; omega⟩
            rw [List.map_append, HY0.out, HYS.out, HPL.out, List.map_cons, List.map_nil, HKX.out]
          · gi_wp2
            refine bodyPost_ret (results_none rfl _ _ _) rfl ?_
            refine ⟨⟨_, rfl⟩, .inr ⟨ys ++ [kv], ?_, hJx3⟩⟩
            rw [List.map_append, HY0.out, List.map_cons, List.map_nil, HKX.out, ← HPL.out, ← HYS.out]
            exact plainL_prefix x.f2 (i + 1)
      · have dk : (y.f0 != 0) = true := bne_iff_ne.2 hk
        have hpl : plainL [y] = [y] := by simp [plainL, isKid, dk]
        have HPL := Lib.hid hpl
        obtain ⟨W6, hW6⟩ : ∃ W6, wr.alloc (.cells #[.int .u8 y.f0, .int .u8 y.f1.f0, .string y.f1.f1, .int .i64 y.f1.f2.f0, .int .i64 y.f1.f2.f1, .int .i64 y.f1.f2.f2, .int .i64 y.f1.f3, .slice A1 y.f2.length c1] TN) = W6 := ⟨_, rfl⟩
        have hJ6 : J ys W6 := by rw [← hW6]; exact HJ.out ys wr _ none HJY.out (World.grownBy_alloc _ _ _) (fun r e => by cases e)
        have hB6 : Below w0.heap.size w0 W6 := by rw [← hW6]; exact HBW.out.alloc HBW.out.size _
        obtain ⟨fn, tmps, assign, body, hyr, hR⟩ := HY.out ys kv W6 hJ6 (by omega)
        have HR := Lib.hid hR
        have HB6 := Lib.hid hB6
        rw [HKV.out] at hyr
        have hs6 : W6.heap.size = wr.heap.size + 1 := by rw [← hW6, World.size_alloc]
        have hby : Below (wr.heap.size + 1) (wr.alloc (.cells #[.int .u8 y.f0, .int .u8 y.f1.f0, .string y.f1.f1, .int .i64 y.f1.f2.f0, .int .i64 y.f1.f2.f1, .int .i64 y.f1.f2.f2, .int .i64 y.f1.f3, .slice A1 y.f2.length c1] TN)) W6 := by rw [hW6]; exact Below.refl _ _
        obtain ⟨q0, q1, q2, q3, q4, q5, q6, q7⟩ := box8 hby
        clear hk hpl hR hJ6 hB6 hby
        gi_wp2
        refine ⟨trivial, ?_⟩
        gi_wp2
        refine HR.out.mono ?_
        rintro e W3 (⟨rfl, hJ3, hk3⟩ | ⟨rfl, hJx3⟩)
        · gi_wp2
          refine ⟨⟨i + 1, by omega, by push_cast; rfl, Lib.hid ⟨ys ++ [kv], ?_, by simp; omega, hJ3, HB6.out.trans hk3⟩⟩, by simp only [intOf]; omega⟩
          rw [List.map_append, HY0.out, HYS.out, HPL.out, List.map_cons, List.map_nil, HKX.out]
        · gi_wp2
          refine bodyPost_ret (results_none rfl _ _ _) rfl ?_
          refine ⟨⟨_, rfl⟩, .inr ⟨ys ++ [kv], ?_, hJx3⟩⟩
          rw [List.map_append, HY0.out, List.map_cons, List.map_nil, HKX.out, ← HPL.out, ← HYS.out]
          exact plainL_prefix x.f2 (i + 1)
    · obtain rfl : len = i := by omega
      obtain ⟨ys, hys, hyl, hJy, hbw⟩ := HL.out
      rw [List.take_of_length_le (by rw [HLEN.out]; exact Nat.le_refl _)] at hys
      have HYS := Lib.hid (And.intro hys hJy)
      clear hys hyl hJy hbw HL
      gi_wp2
      go_end0
      exact ⟨⟨_, rfl⟩, .inl ⟨ys, HYS.out.1, HYS.out.2⟩⟩
/-- kids(x) hands back an iterator that holds to the contract. -/
theorem kids_stops (n : Nat) (hn : 1 ≤ n) (w0 : World) (x : Nd) (A : Option Addr) (c : Nat) (hC : Kd.C kNd w0 A x.f2.length x.f2) (m : Nat) (hm : ndsL x.f2 ≤ m) (w : World) (hb : Below w0.heap.size w0 w) (Bn : Nat) (hBn : w.cell? ⟨Bn, 7, none⟩ = some (.slice A x.f2.length c)) (hB : Bn < w.heap.size) (hl : x.f2.length ≤ 1073741824) :
    SeqStopsK Fence.wide n Try.prog 36 #[.pointer (some ⟨Bn, 0, none⟩)] (fun k : KV w0 m => #[KV.val k]) (Below w0.heap.size) (fun ys => ys.map (·.x) = plainL x.f2) (fun pre => pre.map (·.x) <+: plainL x.f2) x.f2.length w := fun l J Jx W hW hJ _ hY h0 =>
  kids1_in n hn w0 x A x.f2.length c rfl hC m hm l Bn J Jx W hJ hY (hb.trans (hW.mono hb.size)) ((hW.cell (p := ⟨Bn, 7, none⟩) hB).trans hBn) hl h0
end Go.Proofs.Ytfefldkljbbbpaa
set_option linter.unusedVariables false
set_option linter.unusedSimpArgs false
namespace Go.Proofs.Ytfefldkljbbbpaa
open Go.RowKit Go.Shelf Go.Proofs.YtfefldkljbbbpaaW.PrintWords Go.Proofs.YtfefldkljbbbpaaW.PrintLast Go.Proofs.YtfefldkljbbbpaaW.PrintMore
attribute [local go_sem] Oper.semAt_some
def sameN : Nat → Nd → Nd → Bool
  | 0, _, _ => true
  | k + 1, x, y => if x.f0 = y.f0 then (if x.f0 = 0 then x.f1.f0 == y.f1.f0 && x.f1.f1.toList == y.f1.f1.toList
      else (plainL x.f2).length == (plainL y.f2).length && ((plainL x.f2).zip (plainL y.f2)).all fun p => sameN k p.1 p.2) else false
theorem results_cellB {fn : Func} (hr : fn.results = #[.cell 4 4]) (tmps : Array Value) (w : World) (B : Nat) (b : Bool) (hp : tmps.getD 4 undef = .pointer (some ⟨B, 0, none⟩)) (hc : w.cell? ⟨B, 0, none⟩ = some (.bool b)) :
    (results fn tmps).run Try.prog w = .ok (.bool b) w := by
  have hp' : tmps[4]?.getD undef = .pointer (some ⟨B, 0, none⟩) := by simpa using hp
  simp [results, hr, hp', asAddr, loadVar, go_sem, hc]
set_option maxRecDepth 100000 in
set_option maxHeartbeats 4000000 in
theorem same_leaf (w : World) (x y : Nd) (A B : Option Addr) (c d : Nat) (k : Nat) (h : x.f0 ≠ y.f0 ∨ x.f0 = 0) :
    Calls Try.prog 17 #[.agg #[.int .u8 x.f0, .int .u8 x.f1.f0, .string x.f1.f1, .int .i64 x.f1.f2.f0, .int .i64 x.f1.f2.f1, .int .i64 x.f1.f2.f2, .int .i64 x.f1.f3, .slice A x.f2.length c], .agg #[.int .u8 y.f0, .int .u8 y.f1.f0, .string y.f1.f1, .int .i64 y.f1.f2.f0, .int .i64 y.f1.f2.f1, .int .i64 y.f1.f2.f2, .int .i64 y.f1.f3, .slice B y.f2.length d]] w fun e w' => e = .returned (.bool (sameN (k + 1) x y)) ∧ Below w.heap.size w w' := by
  have H := Lib.hid h
  by_cases h0 : x.f0 = y.f0
  · have hx : x.f0 = 0 := by rcases h with h | h; exact absurd h0 h; exact h
    have dk : (x.f0 != y.f0) = false := by simp [h0]
    have hs : sameN (k + 1) x y = (x.f1.f0 == y.f1.f0 && x.f1.f1.toList == y.f1.f1.toList) := by rw [sameN, if_pos h0, if_pos hx]
    rw [hs]
    have hy : y.f0 = 0 := by rw [← h0]; exact hx
    rw [hx, hy]
    clear H h hs h0 hx hy dk
    by_cases h1 : x.f1.f0 = y.f1.f0
    · have d1 : (x.f1.f0 == y.f1.f0) = true := by simp [h1]
      rw [d1]
      go_enter Try.func17, Try.ntmps17
      go_wp2
      refine bodyPost_ret (results_cellB rfl _ _ (w.heap.size + 1 + 1) (x.f1.f1.toList == y.f1.f1.toList) rfl ?_) rfl ?_
      · go_simp
      · exact ⟨rfl, (((Below.refl _ w).alloc (Nat.le_refl _) _).alloc (by simp) _).alloc (by simp; omega) _⟩
    · have d1 : (x.f1.f0 == y.f1.f0) = false := by simp [h1]
      rw [d1]
      go_enter Try.func17, Try.ntmps17
      go_wp2
      refine bodyPost_ret (results_cellB rfl _ _ (w.heap.size + 1 + 1) false rfl ?_) rfl ?_
      · go_simp
      · exact ⟨rfl, (((Below.refl _ w).alloc (Nat.le_refl _) _).alloc (by simp) _).alloc (by simp; omega) _⟩
  · have dk : (x.f0 != y.f0) = true := by simp [h0]
    have hs : sameN (k + 1) x y = false := by rw [sameN, if_neg h0]
    rw [hs]
    clear H h hs h0
    go_enter Try.func17, Try.ntmps17
    go_wp2
    refine bodyPost_ret (results_cellB rfl _ _ (w.heap.size + 1 + 1) false rfl ?_) rfl ?_
    · go_simp
    · exact ⟨rfl, (((Below.refl _ w).alloc (Nat.le_refl _) _).alloc (by simp) _).alloc (by simp; omega) _⟩
/-- The cells of the kids that are collected. -/
def kvCells {w0 : World} {m : Nat} (ks : List (KV w0 m)) : List Value := ks.flatMap fun k => [.int .u8 k.x.f0, .int .u8 k.x.f1.f0, .string k.x.f1.f1, .int .i64 k.x.f1.f2.f0, .int .i64 k.x.f1.f2.f1, .int .i64 k.x.f1.f2.f2, .int .i64 k.x.f1.f3, .slice k.A k.x.f2.length k.c]
/-- The list under way: a box (block B) holds a slice that owns the kids' cells. -/
def Coll (w0 W0 : World) (m B : Nat) (ks : List (KV w0 m)) (W : World) : Prop :=
  W0.grownBy W (some B) ∧ ∃ u, Boxed W B 33 u ∧ W.ownsRow W0.heap.size TN 8 u ks.length (kvCells ks)
theorem coll_own {w0 W0 : World} {m B Bd : Nat} (hB : W0.heap.size ≤ Bd) : OwnFrom Bd (Coll w0 W0 m B) := by
  rintro s X Y row ⟨h1, u, hu, ho⟩ hg hr
  have hrow : ∀ r, row = some r → ∃ o : Obj, X.heap[r]? = some o ∧ o.isCells = false := fun r e => (hr r e).2
  refine ⟨⟨hg.os.trans h1.os, hg.tape.trans h1.tape, hg.output.trans h1.output, Nat.le_trans h1.size hg.size, fun k hk hne => ?_⟩, ?_⟩
  · rw [hg.block k (Nat.lt_of_lt_of_le hk h1.size) (fun e => by have := (hr k e.symm).1; omega), h1.block k hk hne]
  · obtain ⟨v, a, b, _⟩ := holdsRow_own W0.heap.size B 33 TN 8 (fun ks : List (KV w0 m) => ks.length) kvCells (fun _ _ => True) s X Y row ⟨u, hu, ho, trivial⟩ hg hrow
    exact ⟨v, a, b⟩
/-- From V to V': what is no cells lies as it lay (from W0 on), what lay below w0 too, and what lay below W0 but the box. -/
structure Rel3 (w0 W0 : World) (B : Nat) (V V' : World) : Prop where
  kf : KeepsFrom W0.heap.size V V'
  bl : Below w0.heap.size V V'
  lo : ∀ j, j < W0.heap.size → j ≠ B → V'.heap[j]? = V.heap[j]?
theorem Rel3.trans {w0 W0 : World} {B : Nat} {X Y Z : World} (h : Rel3 w0 W0 B X Y) (h' : Rel3 w0 W0 B Y Z) : Rel3 w0 W0 B X Z := ⟨h.kf.trans h'.kf, h.bl.trans h'.bl, fun j a b => (h'.lo j a b).trans (h.lo j a b)⟩
theorem rel3_row {w0 W0 : World} {B g : Nat} {V V' : World} (hz : w0.heap.size ≤ W0.heap.size) (hg : V.grownBy V' (some g)) (hge : W0.heap.size ≤ g) (hz' : W0.heap.size ≤ V.heap.size) (hc : ∀ o, V.heap[g]? = some o → o.isCells = true) : Rel3 w0 W0 B V V' :=
  ⟨(KeepsOthers.of_grownBy hg (fun j o e ho => by cases e; exact hc o ho)).from _, (Below.refl _ V).grown hg (Nat.le_trans hz hz') (fun j e => by cases e; omega), fun j hj _ => hg.block j (Nat.lt_of_lt_of_le hj hz') (fun e => by cases e; omega)⟩
theorem rel3_new {w0 W0 : World} {B : Nat} {V V' : World} (hz : w0.heap.size ≤ W0.heap.size) (hg : V.grownBy V' none) (hz' : W0.heap.size ≤ V.heap.size) : Rel3 w0 W0 B V V' :=
  ⟨(KeepsOthers.of_grownBy hg (fun j o e ho => nomatch e)).from _, (Below.refl _ V).grown hg (Nat.le_trans hz hz') (fun j e => nomatch e), fun j hj _ => hg.block j (Nat.lt_of_lt_of_le hj hz') (fun e => nomatch e)⟩
theorem rel3_box {w0 W0 : World} {B : Nat} {V : World} (v : Value) (h0 : w0.heap.size ≤ B) : Rel3 w0 W0 B V (V.setCell ⟨B, 0, none⟩ v) :=
  ⟨(KeepsOthers.setCell _ _ _).from _, (Below.refl _ V).setCell (p := ⟨B, 0, none⟩) h0 _, fun j _ hne => Below.heap_setCell V ⟨B, 0, none⟩ v j hne⟩
theorem kvCells_snoc {w0 : World} {m : Nat} (pre : List (KV w0 m)) (k : KV w0 m) : kvCells (pre ++ [k]) = kvCells pre ++ ndCells k.x.f0 k.x.f1 (.slice k.A k.x.f2.length k.c) := by
  simp [kvCells, ndCells]
/-- What is behind a round in which one kid has been put to the list. -/
def Fin3 (w0 W0 : World) (m B : Nat) (W : World) (ks : List (KV w0 m)) (V : World) : Prop := KeepsFrom W0.heap.size W V ∧ Below w0.heap.size W V ∧ Coll w0 W0 m B ks V
theorem coll_push {w0 W0 W Wd w1 : World} {s3 g1 c1 c5 : Nat} {A5 : Option Addr} {m : Nat} {pre : List (KV w0 m)} {k : KV w0 m} (h3 : s3 < W0.heap.size) (h3' : w0.heap.size ≤ s3)
    (hrel : KeepsFrom W0.heap.size W Wd ∧ Below w0.heap.size W Wd) (hgd : W0.grownBy Wd (some s3)) (hbd : Boxed Wd s3 33 (.slice A5 pre.length c5)) (hod : Wd.ownsRow W0.heap.size TN 8 (.slice A5 pre.length c5) pre.length (kvCells pre))
    (hg : Wd.grownBy w1 (Value.slice A5 pre.length c5).ownBlock) (ho : w1.ownsRow W0.heap.size TN 8 (.slice (some ⟨g1, 0, none⟩) (pre.length + 1) c1) (pre.length + 1) (kvCells pre ++ zNd)) :
    (∃ cur, w1.heap[g1]? = some (.cells cur TN (0, 0)) ∧ pre.length * 8 + 8 ≤ cur.size) ∧
    (∃ cur, (w1.setCells s3 0 [.slice (some ⟨g1, 0, none⟩) (pre.length + 1) c1]).heap[g1]? = some (.cells cur TN (0, 0)) ∧ pre.length * 8 + 8 ≤ cur.size) ∧
    w1.heap[s3]? = some (.cells #[.slice A5 pre.length c5] 33 (0, 0)) ∧
    (w1.setCells g1 (pre.length * 8) (ndCells k.x.f0 k.x.f1 (.slice k.A k.x.f2.length k.c))).heap[s3]? = some (.cells #[.slice A5 pre.length c5] 33 (0, 0)) ∧
    Fin3 w0 W0 m s3 W (pre ++ [k]) ((w1.setCells g1 (pre.length * 8) (ndCells k.x.f0 k.x.f1 (.slice k.A k.x.f2.length k.c))).setCells s3 0 [.slice (some ⟨g1, 0, none⟩) (pre.length + 1) c1]) ∧
    Fin3 w0 W0 m s3 W (pre ++ [k]) ((w1.setCells s3 0 [.slice (some ⟨g1, 0, none⟩) (pre.length + 1) c1]).setCells g1 (pre.length * 8) (ndCells k.x.f0 k.x.f1 (.slice k.A k.x.f2.length k.c))) := by
  have hz : w0.heap.size ≤ W0.heap.size := by omega
  have hb1 : Boxed w1 s3 33 (.slice A5 pre.length c5) := hbd.kept hg (hbd.not_row (by decide) hod)
  have hkl : (kvCells pre).length = pre.length * 8 := hod.1
  have hge : W0.heap.size ≤ g1 := by
    rcases ho.2 with ⟨_, h⟩ | ⟨g, cap, cur, he, h, _⟩
    · omega
    · injection he with he _ _
      injection he with he
      injection he with he
      omega
  have hne : s3 ≠ g1 := by omega
  have r0 : Rel3 w0 W0 s3 Wd w1 := by
    rcases hod.2 with ⟨he, _⟩ | ⟨g, cap, cur, he, h, hh, _⟩
    · rw [he] at hg
      exact rel3_new hz hg hgd.size
    · rw [he] at hg
      exact rel3_row hz hg h hgd.size (fun o ho => by rw [hh] at ho; cases ho; rfl)
  have hs1 : W0.heap.size ≤ w1.heap.size := Nat.le_trans hgd.size hg.size
  obtain ⟨hoA, cur1, hh1, hf1⟩ := row_set_end ho (pre.length * 8) (ndCells k.x.f0 k.x.f1 (.slice k.A k.x.f2.length k.c)) hkl rfl
  have hoB : (w1.setCell ⟨s3, 0, none⟩ (.slice (some ⟨g1, 0, none⟩) (pre.length + 1) c1)).ownsRow W0.heap.size TN 8 (.slice (some ⟨g1, 0, none⟩) (pre.length + 1) c1) (pre.length + 1) (kvCells pre ++ zNd) :=
    ho.kept (grownBy_setCell' w1 s3 _) (.inr (fun e => hne (by simpa [Value.ownBlock] using e.symm)))
  obtain ⟨hoB', cur4, hh4, hf4⟩ := row_set_end hoB (pre.length * 8) (ndCells k.x.f0 k.x.f1 (.slice k.A k.x.f2.length k.c)) hkl rfl
  have hbA : Boxed (w1.setCells g1 (pre.length * 8) (ndCells k.x.f0 k.x.f1 (.slice k.A k.x.f2.length k.c))) s3 33 (.slice A5 pre.length c5) := hb1.kept (setCells_grown _ _ _ _) (fun e => hne (by simpa using e))
  have hsA : w1.heap.size ≤ (w1.setCells g1 (pre.length * 8) (ndCells k.x.f0 k.x.f1 (.slice k.A k.x.f2.length k.c))).heap.size := (setCells_grown _ _ _ _).size
  have fin : ∀ V, Rel3 w0 W0 s3 w1 V → Boxed V s3 33 (.slice (some ⟨g1, 0, none⟩) (pre.length + 1) c1) → V.ownsRow W0.heap.size TN 8 (.slice (some ⟨g1, 0, none⟩) (pre.length + 1) c1) (pre.length + 1) (kvCells pre ++ ndCells k.x.f0 k.x.f1 (.slice k.A k.x.f2.length k.c)) → Fin3 w0 W0 m s3 W (pre ++ [k]) V := by
    intro V hr hb ho
    have hR := r0.trans hr
    refine ⟨hrel.1.trans hR.kf, hrel.2.trans hR.bl, ⟨hR.bl.os.trans hgd.os, hR.bl.tape.trans hgd.tape, hR.bl.output.trans hgd.output, Nat.le_trans hgd.size hR.bl.size, fun j hj hne => (hR.lo j hj (fun e => hne (by rw [e]))).trans (hgd.block j hj hne)⟩, _, hb, ?_⟩
    rw [kvCells_snoc, List.length_append]
    exact ho
  refine ⟨⟨cur1, hh1, hf1⟩, ⟨cur4, hh4, hf4⟩, hb1, hbA, fin _ ?_ ?_ ?_, fin _ ?_ ?_ ?_⟩
  · exact (rel3_row hz (setCells_grown _ _ _ _) hge hs1 (fun o h => by rw [hh1] at h; cases h; rfl)).trans (rel3_box _ h3')
  · exact hbA.set _
  · exact hoA.kept (grownBy_setCell' _ s3 _) (.inr (fun e => hne (by simpa [Value.ownBlock] using e.symm)))
  · exact (rel3_box (B := s3) _ h3').trans (rel3_row hz (setCells_grown _ _ _ _) hge (Nat.le_trans hs1 (grownBy_setCell' w1 s3 _).size) (fun o h => by rw [hh4] at h; cases h; rfl))
  · exact (hb1.set _).kept (setCells_grown _ _ _ _) (fun e => hne (by simpa using e))
  · exact hoB'
end Go.Proofs.Ytfefldkljbbbpaa
set_option linter.unusedVariables false
set_option linter.unusedSimpArgs false
namespace Go.Proofs.Ytfefldkljbbbpaa
open Go.RowKit Go.Shelf Go.Proofs.YtfefldkljbbbpaaW.PrintWords Go.Proofs.YtfefldkljbbbpaaW.PrintLast Go.Proofs.YtfefldkljbbbpaaW.PrintMore
theorem beq_cast (a b : Nat) : ((a : Int) == (b : Int)) = (a == b) := by
  by_cases h : a = b
  · rw [h, beq_self_eq_true, beq_self_eq_true]
  · have h' : (a : Int) ≠ (b : Int) := by omega
    rw [beq_eq_false_iff_ne.2 h, beq_eq_false_iff_ne.2 h']
/-- So far each node of xs has its like in ys. -/
def okL (p : Nd → Nd → Bool) (xs ys : List Nd) : Prop := xs.length ≤ ys.length ∧ ∀ (i : Nat) a b, xs[i]? = some a → ys[i]? = some b → p a b = true
theorem okL_nil (p : Nd → Nd → Bool) (ys : List Nd) : okL p [] ys := ⟨by simp, fun i a b h => by simp at h⟩
theorem okL_snoc {p : Nd → Nd → Bool} {xs ys : List Nd} {a b : Nd} (h : okL p xs ys) (hb : ys[xs.length]? = some b) : okL p (xs ++ [a]) ys ↔ p a b = true := by
  have hlt := (List.getElem?_eq_some_iff.1 hb).1
  constructor
  · intro h'
    exact h'.2 xs.length a b (by simp) hb
  · intro hp
    refine ⟨by simp; omega, fun i a' b' ha hb' => ?_⟩
    by_cases hi : i < xs.length
    · exact h.2 i a' b' (by rwa [List.getElem?_append_left hi] at ha) hb'
    · have : i < (xs ++ [a]).length := (List.getElem?_eq_some_iff.1 ha).1
      have hi' : i = xs.length := by simp at this; omega
      subst hi'
      simp at ha
      rw [hb] at hb'
      cases hb'
      rw [← ha]
      exact hp
theorem okL_long {p : Nd → Nd → Bool} {xs ys : List Nd} {a : Nd} (h : ys.length ≤ xs.length) : ¬ okL p (xs ++ [a]) ys := fun h' => by
  have := h'.1
  simp at this
  omega
theorem okL_all {p : Nd → Nd → Bool} {xs ys : List Nd} (h : okL p xs ys) : (xs.length == ys.length && (xs.zip ys).all fun q => p q.1 q.2) = (xs.length == ys.length) := by
  have : ((xs.zip ys).all fun q => p q.1 q.2) = true := by
    rw [List.all_eq_true]
    intro q hq
    obtain ⟨i, hi⟩ := List.mem_iff_getElem?.1 hq
    rw [List.getElem?_zip_eq_some] at hi
    exact h.2 i _ _ hi.1 hi.2
  rw [this, Bool.and_true]
theorem okL_bad {p : Nd → Nd → Bool} {pre xs ys : List Nd} (h : ¬ okL p pre ys) (hp : pre <+: xs) : (xs.length == ys.length && (xs.zip ys).all fun q => p q.1 q.2) = false := by
  rw [Bool.and_eq_false_iff]
  by_cases hl : xs.length = ys.length
  · right
    rw [← Bool.not_eq_true]
    intro ha
    rw [List.all_eq_true] at ha
    obtain ⟨t, rfl⟩ := hp
    refine h ⟨by simp at hl; omega, fun i a b h1 h2 => ?_⟩
    have hi := (List.getElem?_eq_some_iff.1 h1).1
    exact ha (a, b) (List.mem_iff_getElem?.2 ⟨i, by rw [List.getElem?_zip_eq_some]; exact ⟨by rw [List.getElem?_append_left hi]; exact h1, h2⟩⟩)
  · left
    exact beq_eq_false_iff_ne.2 hl
/-- From W1 to V: all but two boxes lies as it lay. -/
structure Rel2 (W1 : World) (b1 b2 : Nat) (V : World) : Prop where
  os : V.os = W1.os
  tape : V.tape = W1.tape
  output : V.output = W1.output
  size : W1.heap.size ≤ V.heap.size
  block : ∀ k, k < W1.heap.size → k ≠ b1 → k ≠ b2 → V.heap[k]? = W1.heap[k]?
theorem Rel2.refl (W1 : World) (b1 b2 : Nat) : Rel2 W1 b1 b2 W1 := ⟨rfl, rfl, rfl, Nat.le_refl _, fun _ _ _ _ => rfl⟩
theorem Rel2.grown {W1 V V' : World} {b1 b2 : Nat} {row : Option Nat} (h : Rel2 W1 b1 b2 V) (hg : V.grownBy V' row) (hr : ∀ j, row = some j → j = b1 ∨ j = b2 ∨ W1.heap.size ≤ j) : Rel2 W1 b1 b2 V' :=
  ⟨hg.os.trans h.os, hg.tape.trans h.tape, hg.output.trans h.output, Nat.le_trans h.size hg.size, fun k hk h1 h2 => (hg.block k (Nat.lt_of_lt_of_le hk h.size) (fun e => by rcases hr k e.symm with h | h | h <;> omega)).trans (h.block k hk h1 h2)⟩
theorem rel2_own {β : Type} {W1 : World} {b1 b2 Bd : Nat} (hB : W1.heap.size ≤ Bd) : OwnFrom Bd (fun (_ : β) V => Rel2 W1 b1 b2 V) := fun s X Y row h hg hr =>
  h.grown hg fun j e => .inr (.inr (Nat.le_trans hB (hr j e).1))
theorem Rel2.below {w W1 V : World} {b1 b2 : Nat} (h : Rel2 W1 b1 b2 V) (hb : Below w.heap.size w W1) (h1 : w.heap.size ≤ b1) (h2 : w.heap.size ≤ b2) : Below w.heap.size w V :=
  ⟨h.os.trans hb.os, h.tape.trans hb.tape, h.output.trans hb.output, Nat.le_trans hb.size h.size, fun k hk => (h.block k (Nat.lt_of_lt_of_le hk hb.size) (by omega) (by omega)).trans (hb.block k hk)⟩
theorem Rel2.row {W1 V : World} {b1 b2 base : Nat} {v : Value} {n : Nat} {xs : List Value} (h : Rel2 W1 b1 b2 V) (ho : W1.ownsRow base TN 8 v n xs) {t1 t2 : TypeId} {v1 v2 : Value} (h1 : Boxed W1 b1 t1 v1) (ht1 : t1 ≠ TN) (h2 : Boxed W1 b2 t2 v2) (ht2 : t2 ≠ TN) : V.ownsRow base TN 8 v n xs := by
  have n1 := h1.not_row ht1 ho
  have n2 := h2.not_row ht2 ho
  refine Go.Proofs.YtfefldkljbbbpaaW.PrintWords.own_move ho fun k hk => h.block k ?_ (fun e => n1 (by rw [hk, e])) (fun e => n2 (by rw [hk, e]))
  obtain ⟨cells, hc⟩ := own_typed ho k hk
  exact (Array.getElem?_eq_some_iff.1 hc).1
/-- The i-th of the kids that are collected. -/
theorem kv_at {w0 : World} {m : Nat} : ∀ (ys : List (KV w0 m)) (i : Nat) (k : KV w0 m), ys[i]? = some k → ∀ (j : Nat) (v : Value), (ndCells k.x.f0 k.x.f1 (.slice k.A k.x.f2.length k.c))[j]? = some v → (kvCells ys)[i * 8 + j]? = some v
  | [], i, k, h, _, _, _ => by simp at h
  | y :: ys, i, k, h, j, v, hj => by
    have hlt : j < 8 := (List.getElem?_eq_some_iff.1 hj).1
    have he : kvCells (y :: ys) = ndCells y.x.f0 y.x.f1 (.slice y.A y.x.f2.length y.c) ++ kvCells ys := by simp [kvCells, ndCells]
    rw [he]
    cases i with
    | zero =>
      simp at h
      subst h
      rw [List.getElem?_append_left (by rw [ndCells_len]; omega), Nat.zero_mul, Nat.zero_add]
      exact hj
    | succ i =>
      rw [List.getElem?_append_right (by rw [ndCells_len]; omega), ndCells_len, show (i + 1) * 8 + j - 8 = i * 8 + j by omega]
      exact kv_at ys i k (by simpa using h) j v hj
/-- The way out, past the two loops' marks. -/
theorem same_leave {fn : Func} (hr : fn.results = #[.cell 4 4]) {tmps : Array Value} {V : World} {D D2 s2 : Nat} {b : Bool} {R : Ending → World → Prop} (ht : tmps.getD 4 undef = .pointer (some ⟨s2, 0, none⟩)) (h2 : V.heap[D2]? = some (.deferred (some []))) (h1 : V.heap[D]? = some (.deferred (some []))) (hne : D ≠ D2) (hb : Boxed V s2 4 (.bool b))
    (hR : R (.returned (.bool b)) ((V.putObj D2 (.deferred none)).putObj D (.deferred none))) : bodyPostM Fence.wide 8 Try.prog fn R .ret { tmps := tmps, defers := [{ target := .collected D2, args := #[] }, { target := .collected D, args := #[] }] } V := by
  have hd : s2 ≠ D ∧ s2 ≠ D2 := by
    constructor
    · rintro rfl
      rw [show V.heap[s2]? = _ from hb] at h1
      cases h1
    · rintro rfl
      rw [show V.heap[s2]? = _ from hb] at h2
      cases h2
  have g2 := grownBy_putObj' V D2 (.deferred none)
  have h1' : (V.putObj D2 (.deferred none)).heap[D]? = some (.deferred (some [])) := (g2.block D (Array.getElem?_eq_some_iff.1 h1).1 (by simpa using hne)).trans h1
  have hb2 := hb.kept g2 (by simpa using hd.2)
  have hb3 := hb2.kept (grownBy_putObj' (V.putObj D2 (.deferred none)) D (.deferred none)) (by simpa using hd.1)
  refine ⟨by simp, .inl ⟨_, _, rfl, run_takeDeferred h2, ?_⟩⟩
  refine ⟨by simp, .inl ⟨_, _, rfl, run_takeDeferred h1', ?_⟩⟩
  exact ⟨_, results_cellB hr _ _ s2 b ht hb3.cell, hR⟩
end Go.Proofs.Ytfefldkljbbbpaa
