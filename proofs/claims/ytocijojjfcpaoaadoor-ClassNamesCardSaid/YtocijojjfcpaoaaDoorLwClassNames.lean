/- ClassNames, as a tied card: whatever the arguments, over the tables that the program's text lays, the law returns true; nothing that was there changes. No condition beside the listed tables. -/
import Derived.Test.YtocijojjfcpaoaaDoorCards
import Derived.Test.YtocijojjfcpaoaaDoorTie
import Derived.Test.YtocijojjfcpaoaaDoorLaid
import Derived.Test.YtocijojjfcpaoaaDoorNames
import Derived.WalkKit
import Derived.ProofKit
import Derived.OpenShut
import Derived.ShutString
import Derived.SizedLaws
import Derived.Deep.DeepHandedRow
set_option linter.unusedVariables false
set_option linter.unusedSimpArgs false
namespace Go.Proofs.YtocijojjfcpaoaaDoor.classNames
open Go.ChangeShapes Go.WideShapes Go.ChangeAt Go.RowKit
open Go.ChangeMaps (open_string shut_string)
theorem own : ownKnob Tryd.prog.godebug = none := by kernel_rfl

theorem contract (H : Type) (enc : TypeId × Value → H) (W : World) (base : Nat) (args : Array Value) (ds gs : List (DataW H)) (before : List MemPlace)
    (hval : ∀ (j : Nat) t v, Tryd.f15.params[j]? = some t → args[j]? = some v → Value.okWide Tryd.prog W .any base t v)
    (hW : DataW.Whole enc Tryd.prog Tryd.f15.params.toList Rows.classNamesSpec.vars false W args.toList ds gs before)
    (hsz : (DataW.weightsEach Tryd.prog (Tryd.f15.params.toList ++ (OpenSpec.ofChange Rows.classNamesSpec).bare.plain.varTypes Tryd.prog) (ds ++ gs)).all (· ≤ reachBytes) = true)
    (hL : laidMetH Tryd.prog Rows.classNamesRow.laid W) :
    Calls Tryd.prog 15 args W fun e W' => ∃ v, e = .returned v ∧ Rows.classNamesSpec.post enc Tryd.prog Tryd.f15 false true false false W args v W' := by
  have hL' : laidMet Tryd.prog Rows.classNamesRow.laid W := hL
  have hW' := hW
  obtain ⟨p, q, hA0, hV, rfl, hfz, hnd⟩ := hW
  have hA : DataW.TrodAll enc Tryd.prog W 0 (fun _ => true) true Tryd.f15.params.toList args.toList ds p := hA0
  rw [Tryd.params15] at hA hval hsz
  obtain ⟨v0, vs0, d0, ds0, p0, q0, hargs, rfl, rfl, h0, r0⟩ := trodAll_cons hA
  obtain ⟨v1, vs1, d1, ds1, p1, q1, rfl, rfl, rfl, h1, r1⟩ := trodAll_cons r0
  obtain ⟨rfl, rfl, rfl⟩ := trodAll_nil r1
  obtain rfl : args = #[v0, v1] := by cases args; simp_all
  obtain ⟨rfl, rfl⟩ := trodVars_none hV
  clear hA0
  obtain ⟨x0, rfl, rfl, rfl, wx0⟩ := open_string Tryd.underlying9 (hval 0 9 v0 rfl rfl) h0
  have b0 : x0.size ≤ 140737488351232 := by
    have z := sized_string hsz (j := 0) (t := 9) rfl rfl
    rw [Array.length_toList] at z
    exact z
  obtain ⟨x1, rfl, rfl, rfl, wx1⟩ := open_int Tryd.underlying3 (hval 1 3 v1 rfl rfl) h1
  have b1 := bounds_i64 wx1
  have hw : WTabs W := wtabs (Lib.laidMet.reads hL' (by simp [Rows.classNamesRow])) (Lib.laidMet.reads hL' (by simp [Rows.classNamesRow]))
  have hc : CTabs W := ctabs (Lib.laidMet.reads hL' (by simp [Rows.classNamesRow])) (Lib.laidMet.reads hL' (by simp [Rows.classNamesRow]))
  have hu : Lib.Utf8Tabs 4 5 W := utabs (Lib.laidMet.reads hL' (by simp [Rows.classNamesRow])) (Lib.laidMet.reads hL' (by simp [Rows.classNamesRow]))
  simp only [List.append_nil] at hW'
  refine (classNames_walk x0 x1 W b0 b1.1 b1.2 hw hc hu).mono fun e W' ⟨he, hb⟩ => ?_
  subst he
  exact ⟨_, rfl, _, _, _, [], _, [], hW', trodAll_cons_mk (shut_bool Tryd.underlying4 _) trodAll_mk0, (trodAll_cons_mk (shut_string Tryd.underlying9 wx0) (trodAll_cons_mk (shut_int Tryd.underlying3 wx1) trodAll_mk0)), rfl, hb.frame _, fun h => by cases h⟩

/-- A world for the witness: the settled one, the listed tables holding what their initialisers lay. -/
noncomputable def laidWorld (os : Os) : World :=
  let put (cs : Array Value) : Obj → Obj := fun
    | .cells _ t frozen => .cells cs t frozen
    | o => o
  let h := (World.holding Tryd.prog os ⟨#[], #[], []⟩).heap
  let h := h.modify 0 (put (rangeCells Pl.double).toArray)
  let h := h.modify 1 (put (rangeCells Pl.none).toArray)
  let h := h.modify 2 (put (rangeCells Pl.letters).toArray)
  let h := h.modify 3 (put (rangeCells Pl.others).toArray)
  let h := h.modify 4 (put (Lib.firstTab.map fun z => Value.int .u8 z).toArray)
  let h := h.modify 5 (put ((List.range 16).flatMap fun i => [Value.int .u8 (Lib.accLo i), Value.int .u8 (Lib.accHi i)]).toArray)
  { World.holding Tryd.prog os ⟨#[], #[], []⟩ with heap := h }

theorem laid_met (os : Os) : laidMet Tryd.prog Rows.classNamesRow.laid ((laidWorld os).forCall (fun _ _ => 0) ⟨#[], #[.string ⟨#[]⟩, .int .i64 0], []⟩).memory :=
  laidMet_of_run' 8 (by kernel_rfl) (by kernel_rfl)
theorem reads (os : Os) {H : Type} (enc : TypeId × Value → H) : ∃ places, DataW.whole enc Tryd.prog ((laidWorld os).forCall (fun _ _ => 0) ⟨#[], #[.string ⟨#[]⟩, .int .i64 0], []⟩).memory Tryd.f15.params.toList Rows.classNamesSpec.vars false #[.string ⟨#[]⟩, .int .i64 0].toList 8 = some ([.lit (.string []), .lit (.int .i64 0)], [], places) :=
  ⟨[], by kernel_rfl⟩

set_option maxRecDepth 100000 in
theorem lifted (os : Os) (started : os.Started) (H : Type) (enc : TypeId × Value → H) (F : Stop.Interp) :
    ReturnsInHanded {} Tryd.checked os 15 .any ((OpenSpec.ofChange Rows.classNamesSpec).preRow enc Tryd.prog Tryd.f15 Rows.classNamesRow.domain false Rows.classNamesRow.laid) (((OpenSpec.ofChange Rows.classNamesSpec).at F).post enc Tryd.prog Tryd.f15 false true false false) := by
  obtain ⟨places, hx⟩ := reads os enc
  refine returnsInHanded_of_row (C := Tryd.checked) (s := OpenSpec.ofChange Rows.classNamesSpec) own started (by kernel_rfl) Tryd.func15
    (witness_row_at (enc := enc) (C := Tryd.checked) false (laidWorld os) #[.string ⟨#[]⟩, .int .i64 0] rfl (by kernel_rfl) (by kernel_rfl) (by kernel_rfl)
      (OpenSpec.preRow_of_cond 8 hx (by kernel_rfl) (fun k hk => by cases hk) (by kernel_rfl) (laid_met os))) ?_
  intro W base args ds gs before hval hW _ _ hsz hL _ _
  exact contract H enc W base args ds gs before hval hW hsz hL

theorem said : Rows.ClassNamesSaid :=
  OpenClaim.holds_of_cond 15 Tryd.f15 rfl rfl rfl rfl rfl rfl rfl ⟨rfl, rfl, rfl, rfl, rfl⟩ rfl rfl rfl rfl rfl (by kernel_rfl) Tryd.func15 (by kernel_rfl)
    (of_decide_eq_true (by kernel_rfl)) (by unfold Func.isWrapper; first | (rw [if_pos (by decide +kernel)]; kernel_rfl) | (rw [if_neg (by decide +kernel)]; exact ⟨rfl, rfl⟩))
    (fun os started H enc _ F => by rw [OpenClaim.pre_eq_preRow]; exact lifted os started H enc F)

theorem plain (f : FuncId) (fn : Func) (hf : Tryd.pinned.checked.prog.funcNamed "colophon/colophonlaw04.ClassNames" = some f) (hfn : Tryd.pinned.checked.prog.funcs[f]? = some fn) :
    false = Tryd.pinned.checked.prog.looks [] ∧ ∀ (j : Nat) t, fn.params[j]? = some t → Tryd.pinned.checked.prog.wantsStandIn t = false := by
  obtain rfl : f = 15 := Option.some.inj ((show Tryd.prog.funcNamed "colophon/colophonlaw04.ClassNames" = some 15 by kernel_rfl).symm.trans hf) |>.symm
  obtain rfl : fn = Tryd.f15 := (Option.some.inj (Tryd.func15.symm.trans hfn)).symm
  refine ⟨by kernel_rfl, fun j t ht => ?_⟩
  rw [Tryd.params15] at ht
  have hm := Array.mem_of_getElem? ht
  simp only [List.mem_toArray, List.mem_cons, List.not_mem_nil, or_false, or_self] at hm
  have hm2 : t = 9 ∨ t = 3 := by first | exact hm | omega | (rcases hm with h | h | h | h <;> simp [h]) | (rcases hm with h | h | h <;> simp [h])
  rcases hm2 with rfl | rfl
  · exact (show Tryd.prog.wantsStandIn 9 = false by kernel_rfl)
  · exact (show Tryd.prog.wantsStandIn 3 = false by kernel_rfl)

theorem card : Rows.ClassNamesCardSaid :=
  Claim7.holds_tied_plain_at .later [] _ _ _ _ said (fun _ h => by cases h) (by kernel_rfl) (fun _ h => by cases h) classNames_row_tie rfl ⟨rfl, rfl⟩ (by kernel_rfl) rfl plain (by kernel_rfl)
end Go.Proofs.YtocijojjfcpaoaaDoor.classNames
namespace Go.Proofs.YtocijojjfcpaoaaDoor
/-- The card of ClassNames. -/
theorem classNames_holds : Rows.ClassNamesCardSaid := classNames.card
#print axioms classNames_holds
end Go.Proofs.YtocijojjfcpaoaaDoor
