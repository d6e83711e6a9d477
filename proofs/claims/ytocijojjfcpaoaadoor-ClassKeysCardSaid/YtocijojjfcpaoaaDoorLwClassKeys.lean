/- ClassKeys, as a tied card: whatever the arguments, over the tables that the program's text lays, the law returns true; nothing that was there changes. No condition beside the listed tables. -/
import Derived.Test.YtocijojjfcpaoaaDoorCards
import Derived.Test.YtocijojjfcpaoaaDoorTie
import Derived.Test.YtocijojjfcpaoaaDoorLaid
import Derived.Test.YtocijojjfcpaoaaDoorKeysW
import Derived.WalkKit
import Derived.ProofKit
import Derived.OpenShut
import Derived.ShutString
import Derived.SizedLaws
import Derived.Deep.DeepHandedRow
set_option linter.unusedVariables false
set_option linter.unusedSimpArgs false
namespace Go.Proofs.YtocijojjfcpaoaaDoor.classKeys
open Go.ChangeShapes Go.WideShapes Go.ChangeAt Go.RowKit
open Go.ChangeMaps (open_string shut_string)
theorem own : ownKnob Tryd.prog.godebug = none := by kernel_rfl

theorem contract (H : Type) (enc : TypeId × Value → H) (W : World) (base : Nat) (args : Array Value) (ds gs : List (DataW H)) (before : List MemPlace)
    (hval : ∀ (j : Nat) t v, Tryd.f8.params[j]? = some t → args[j]? = some v → Value.okWide Tryd.prog W .any base t v)
    (hW : DataW.Whole enc Tryd.prog Tryd.f8.params.toList Rows.classKeysSpec.vars false W args.toList ds gs before)
    (hsz : (DataW.weightsEach Tryd.prog (Tryd.f8.params.toList ++ (OpenSpec.ofChange Rows.classKeysSpec).bare.plain.varTypes Tryd.prog) (ds ++ gs)).all (· ≤ reachBytes) = true)
    (hL : laidMetH Tryd.prog Rows.classKeysRow.laid W) :
    Calls Tryd.prog 8 args W fun e W' => ∃ v, e = .returned v ∧ Rows.classKeysSpec.post enc Tryd.prog Tryd.f8 false true false false W args v W' := by
  have hL' : laidMet Tryd.prog Rows.classKeysRow.laid W := hL
  have hW' := hW
  obtain ⟨p, q, hA0, hV, rfl, hfz, hnd⟩ := hW
  have hA : DataW.TrodAll enc Tryd.prog W 0 (fun _ => true) true Tryd.f8.params.toList args.toList ds p := hA0
  rw [Tryd.params8] at hA hval hsz
  obtain ⟨rfl, rfl, rfl⟩ := trodAll_none hA
  obtain ⟨rfl, rfl⟩ := trodVars_none hV
  clear hA0
  have hc : CTabs W := ctabs (Lib.laidMet.reads hL' (by simp [Rows.classKeysRow])) (Lib.laidMet.reads hL' (by simp [Rows.classKeysRow]))
  have hu : Lib.Utf8Tabs 4 5 W := utabs (Lib.laidMet.reads hL' (by simp [Rows.classKeysRow])) (Lib.laidMet.reads hL' (by simp [Rows.classKeysRow]))
  refine (classKeys_walk  W  hc hu).mono fun e W' ⟨he, hb⟩ => ?_
  subst he
  exact ⟨_, rfl, _, _, _, [], _, [], hW', trodAll_cons_mk (shut_bool Tryd.underlying4 _) trodAll_mk0, trodAll_mk0, rfl, hb.frame _, fun h => by cases h⟩

/-- A world for the witness: the settled one, the listed tables holding what their initialisers lay. -/
noncomputable def laidWorld (os : Os) : World :=
  let put (cs : Array Value) : Obj → Obj := fun
    | .cells _ t frozen => .cells cs t frozen
    | o => o
  let h := (World.holding Tryd.prog os ⟨#[], #[], []⟩).heap
  let h := h.modify 2 (put (rangeCells Pl.letters).toArray)
  let h := h.modify 3 (put (rangeCells Pl.others).toArray)
  let h := h.modify 4 (put (Lib.firstTab.map fun z => Value.int .u8 z).toArray)
  let h := h.modify 5 (put ((List.range 16).flatMap fun i => [Value.int .u8 (Lib.accLo i), Value.int .u8 (Lib.accHi i)]).toArray)
  { World.holding Tryd.prog os ⟨#[], #[], []⟩ with heap := h }

theorem laid_met (os : Os) : laidMet Tryd.prog Rows.classKeysRow.laid ((laidWorld os).forCall (fun _ _ => 0) ⟨#[], #[], []⟩).memory :=
  laidMet_of_run' 8 (by kernel_rfl) (by kernel_rfl)
theorem reads (os : Os) {H : Type} (enc : TypeId × Value → H) : ∃ places, DataW.whole enc Tryd.prog ((laidWorld os).forCall (fun _ _ => 0) ⟨#[], #[], []⟩).memory Tryd.f8.params.toList Rows.classKeysSpec.vars false #[].toList 8 = some ([], [], places) :=
  ⟨[], by kernel_rfl⟩

set_option maxRecDepth 100000 in
theorem lifted (os : Os) (started : os.Started) (H : Type) (enc : TypeId × Value → H) (F : Stop.Interp) :
    ReturnsInHanded {} Tryd.checked os 8 .any ((OpenSpec.ofChange Rows.classKeysSpec).preRow enc Tryd.prog Tryd.f8 Rows.classKeysRow.domain false Rows.classKeysRow.laid) (((OpenSpec.ofChange Rows.classKeysSpec).at F).post enc Tryd.prog Tryd.f8 false true false false) := by
  obtain ⟨places, hx⟩ := reads os enc
  refine returnsInHanded_of_row (C := Tryd.checked) (s := OpenSpec.ofChange Rows.classKeysSpec) own started (by kernel_rfl) Tryd.func8
    (witness_row_at (enc := enc) (C := Tryd.checked) false (laidWorld os) #[] rfl (by kernel_rfl) (by kernel_rfl) (by kernel_rfl)
      (OpenSpec.preRow_of_cond 8 hx (by kernel_rfl) (fun k hk => by cases hk) (by kernel_rfl) (laid_met os))) ?_
  intro W base args ds gs before hval hW _ _ hsz hL _ _
  exact contract H enc W base args ds gs before hval hW hsz hL

theorem said : Rows.ClassKeysSaid :=
  OpenClaim.holds_of_cond 8 Tryd.f8 rfl rfl rfl rfl rfl rfl rfl ⟨rfl, rfl, rfl, rfl, rfl⟩ rfl rfl rfl rfl rfl (by kernel_rfl) Tryd.func8 (by kernel_rfl)
    (of_decide_eq_true (by kernel_rfl)) (by unfold Func.isWrapper; first | (rw [if_pos (by decide +kernel)]; kernel_rfl) | (rw [if_neg (by decide +kernel)]; exact ⟨rfl, rfl⟩))
    (fun os started H enc _ F => by rw [OpenClaim.pre_eq_preRow]; exact lifted os started H enc F)

theorem plain (f : FuncId) (fn : Func) (hf : Tryd.pinned.checked.prog.funcNamed "colophon/colophonlaw04.ClassKeys" = some f) (hfn : Tryd.pinned.checked.prog.funcs[f]? = some fn) :
    false = Tryd.pinned.checked.prog.looks [] ∧ ∀ (j : Nat) t, fn.params[j]? = some t → Tryd.pinned.checked.prog.wantsStandIn t = false := by
  obtain rfl : f = 8 := Option.some.inj ((show Tryd.prog.funcNamed "colophon/colophonlaw04.ClassKeys" = some 8 by kernel_rfl).symm.trans hf) |>.symm
  obtain rfl : fn = Tryd.f8 := (Option.some.inj (Tryd.func8.symm.trans hfn)).symm
  refine ⟨by kernel_rfl, fun j t ht => ?_⟩
  rw [Tryd.params8] at ht
  simp at ht

theorem card : Rows.ClassKeysCardSaid :=
  Claim7.holds_tied_plain_at .later [] _ _ _ _ said (fun _ h => by cases h) (by kernel_rfl) (fun _ h => by cases h) classKeys_row_tie rfl ⟨rfl, rfl⟩ (by kernel_rfl) rfl plain (by kernel_rfl)
end Go.Proofs.YtocijojjfcpaoaaDoor.classKeys
namespace Go.Proofs.YtocijojjfcpaoaaDoor
/-- The card of ClassKeys. -/
theorem classKeys_holds : Rows.ClassKeysCardSaid := classKeys.card
#print axioms classKeys_holds
end Go.Proofs.YtocijojjfcpaoaaDoor
