/- What char.Text answers of any list of numbers. -/
import Derived.Test.YtocijojjfcpaoaaDoorBld
import Derived.Test.YtocijojjfcpaoaaDoorPts
set_option linter.unusedSimpArgs false
set_option linter.unusedVariables false
namespace Go.Proofs.YtocijojjfcpaoaaDoor
open Go.RowKit Go.Proofs.YtocijojjfcpaoaaDoorW.PrintWords Go.Proofs.YtocijojjfcpaoaaDoorW.PrintMore

/-- What a number is written as. -/
def Pl.clip (p : Int) : Int := if p < 0 ∨ 1114111 < p then 65533 else p
def Pl.textOf (l : List Int) : List UInt8 := l.flatMap fun p => Lib.encodeRune (Pl.clip p)

theorem Pl.textOf_length (l : List Int) : (Pl.textOf l).length ≤ 4 * l.length := by
  unfold Pl.textOf
  induction l with
  | nil => simp
  | cons p l ih =>
    rw [List.flatMap_cons, List.length_append, List.length_cons]
    have h := Lib.runeCells_le (Pl.clip p)
    rw [Lib.runeCells_length] at h
    omega
theorem Pl.textOf_take (l : List Int) (i : Nat) (h : i < l.length) : Pl.textOf (l.take (i + 1)) = Pl.textOf (l.take i) ++ Lib.encodeRune (Pl.clip l[i]) := by
  unfold Pl.textOf
  rw [List.take_succ_eq_append_getElem h, List.flatMap_append]
  simp

theorem byteCells_append (a b : List UInt8) : Lib.byteCells (a ++ b) = Lib.byteCells a ++ Lib.byteCells b := by simp [Lib.byteCells]
theorem byteCells_length (a : List UInt8) : (Lib.byteCells a).length = a.length := by simp [Lib.byteCells]

theorem ret_s {a b : ByteArray} (h : a = b) : Ending.returned (.string a) = .returned (.string b) := by rw [h]

set_option maxRecDepth 100000 in
set_option maxHeartbeats 1000000 in
theorem text_any (A : Option Addr) (c : Nat) (l : List Int) (w : World) (hr : Kd.C (Kd.int .i64) w A l.length l) (hc : l.length ≤ c) (hl : l.length ≤ 2147483648) :
    Calls Tryd.prog 46 #[.slice A l.length c] w fun e w' => e = .returned (.string ⟨(Pl.textOf l).toArray⟩) ∧ Below w.heap.size w w' := by
  have HR := Aside0.mk hr
  clear hr
  have HF : Hid (Lib.IsBuilderF 68 5 w.heap.size w.heap.size (Lib.byteCells (Pl.textOf (l.take 0))) (w.alloc (.cells #[.pointer none, .slice none 0 0] 68))) := Lib.IsBuilderF.of (Lib.fresh_isBuilder 68 5 w)
  go_enter Tryd.func46, Tryd.ntmps46
  go_wp2
  go_loopw [8] (fun v wr => ∃ i : Nat, i ≤ l.length ∧ v = .int .i64 i ∧ Hid (Lib.IsBuilderF 68 5 w.heap.size w.heap.size (Lib.byteCells (Pl.textOf (l.take i))) wr) ∧ Hid (Below w.heap.size w wr)) (fun v _ => l.length - (intOf v).toNat)
  case atStart => exact ⟨0, by omega, rfl, HF, (Below.refl _ _).alloc (Nat.le_refl _) _⟩
  case round =>
    obtain ⟨i, hi, rfl, HI, HB⟩ := hrel
    by_cases hlt : i < l.length
    · obtain ⟨ad, e0, hx⟩ := Kd.at_int HR.out (i : Int) (by omega) (by omega)
      cases e0
      have hx1 := pw_cell_below HB.out hx
      have hg : rd l (i : Int) = l[i] := by unfold rd; simp [hlt]
      rw [hg, Int.toNat_natCast] at hx1
      clear hx hg
      have HST := Lib.hid (Pl.textOf_take l i hlt)
      have hlen : Hid ((Lib.byteCells (Pl.textOf (l.take i))).length + 4 ≤ 140737488355328) := by
        show _ ≤ _
        rw [byteCells_length]
        have := Pl.textOf_length (l.take i)
        rw [List.length_take] at this
        omega
      have hgt : Hid (w.heap.size ≤ wr.heap.size) := HB.out.size
      obtain ⟨x, hxl⟩ : ∃ x, l[i] = x := ⟨_, rfl⟩
      rw [hxl] at hx1 HST
      clear hxl
      by_cases hn : x < 0
      · have hc1 : decide (x < 0) = true := decide_eq_true hn
        have HCL : Hid (Pl.clip x = 65533) := by show _ = _; unfold Pl.clip; rw [if_pos (Or.inl hn)]
        rw [HCL.out] at HST
        go_wp2_with (go_at_call 63; refine (writeRune_k w.heap.size w.heap.size _ 65533 (by omega) (by omega) _ HI.out hlen.out hgt.out).mono ?_; rintro e w1 ⟨rfl, hb, hb2, _⟩; have HI1 := Lib.hid hb; have HB1 := Lib.hid (HB.out.trans hb2); clear hb hb2)
        go_roundw
        case rel =>
          refine ⟨i + 1, by omega, by go_num, ?_, HB1⟩
          show Lib.IsBuilderF _ _ _ _ _ _
          rw [HST.out, byteCells_append, Lib.byteCells_encodeRune]
          exact Or.inr HI1.out
        case measure => simp [intOf]; omega
      · have hc1 : decide (x < 0) = false := decide_eq_false hn
        by_cases hm : 1114111 < x
        · have hc2 : decide (1114111 < x) = true := decide_eq_true hm
          have HCL : Hid (Pl.clip x = 65533) := by show _ = _; unfold Pl.clip; rw [if_pos (Or.inr hm)]
          rw [HCL.out] at HST
          go_wp2_with (go_at_call 63; refine (writeRune_k w.heap.size w.heap.size _ 65533 (by omega) (by omega) _ HI.out hlen.out hgt.out).mono ?_; rintro e w1 ⟨rfl, hb, hb2, _⟩; have HI1 := Lib.hid hb; have HB1 := Lib.hid (HB.out.trans hb2); clear hb hb2)
          go_roundw
          case rel =>
            refine ⟨i + 1, by omega, by go_num, ?_, HB1⟩
            show Lib.IsBuilderF _ _ _ _ _ _
            rw [HST.out, byteCells_append, Lib.byteCells_encodeRune]
            exact Or.inr HI1.out
          case measure => simp [intOf]; omega
        · have hc2 : decide (1114111 < x) = false := decide_eq_false hm
          have HCL : Hid (Pl.clip x = x) := by show _ = _; unfold Pl.clip; rw [if_neg (by omega)]
          rw [HCL.out] at HST
          go_wp2_with (go_at_call 63; refine (writeRune_k w.heap.size w.heap.size _ x (by omega) (by omega) _ HI.out hlen.out hgt.out).mono ?_; rintro e w1 ⟨rfl, hb, hb2, _⟩; have HI1 := Lib.hid hb; have HB1 := Lib.hid (HB.out.trans hb2); clear hb hb2)
          go_roundw
          case rel =>
            refine ⟨i + 1, by omega, by go_num, ?_, HB1⟩
            show Lib.IsBuilderF _ _ _ _ _ _
            rw [HST.out, byteCells_append, Lib.byteCells_encodeRune]
            exact Or.inr HI1.out
          case measure => simp [intOf]; omega
    · obtain rfl : i = l.length := by omega
      have HI2 : Hid (Lib.IsBuilderF 68 5 w.heap.size w.heap.size (Lib.byteCells (Pl.textOf l)) wr) := by
        have := HI.out
        rw [List.take_length] at this
        exact this
      clear HI
      have hgt : Hid (w.heap.size ≤ wr.heap.size) := HB.out.size
      go_wp2_with (go_at_call 64; refine (Tryd.Builder_String_any_k w.heap.size w.heap.size (Pl.textOf l) _ HI2.out hgt.out).mono ?_; rintro e w1 ⟨rfl, _, hb2, _⟩; have HB1 := Lib.hid (HB.out.trans hb2); clear hb2)
      go_ret
      exact ⟨rfl, HB1.out⟩
end Go.Proofs.YtocijojjfcpaoaaDoor
