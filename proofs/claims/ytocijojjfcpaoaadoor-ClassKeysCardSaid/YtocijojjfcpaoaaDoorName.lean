/- What class.IsName answers of any text. -/
import Derived.Test.YtocijojjfcpaoaaDoorCls
import Derived.Test.YtocijojjfcpaoaaDoorVal
set_option linter.unusedSimpArgs false
set_option linter.unusedVariables false
namespace Go.Proofs.YtocijojjfcpaoaaDoor
open Go.RowKit

/-- from a place on: all parts; at the beginning: a letter first -/
def Pl.parts (l : List (Nat × Nat × Nat)) : Bool := l.all fun r => Pl.isPart (r.2.1 : Int) && (decide (r.1 ≠ 0) || Pl.isLetter (r.2.1 : Int))
def Pl.isName (s : ByteArray) : Bool := decide (s.size ≠ 0) && (Pl.valid s 0 && (!Pl.isKey s && Pl.parts (Pl.runes s 0)))

theorem Pl.parts_step (s : ByteArray) (i : Nat) (h : i < s.size) : Pl.parts (Pl.runes s i) = ((Pl.isPart ((Utf8.decode s i).1 : Int) && (decide (i ≠ 0) || Pl.isLetter ((Utf8.decode s i).1 : Int))) && Pl.parts (Pl.runes s (i + (Utf8.decode s i).2))) := by
  unfold Pl.parts
  rw [Pl.runes_step s i h]; rfl
theorem Pl.parts_end (s : ByteArray) (i : Nat) (h : ¬ i < s.size) : Pl.parts (Pl.runes s i) = true := by
  unfold Pl.parts
  rw [Pl.runes_end s i h]; rfl

theorem utf8_below {B : Nat} {w w' : World} (h : Lib.Utf8Tabs 4 5 w) (hb : Below B w w') (hB : 6 ≤ B) : Lib.Utf8Tabs 4 5 w' := by
  refine ⟨fun c hc => (hb.cell (show 4 < B by omega)).trans (h.1 c hc), fun i hi => ⟨(hb.cell (show 5 < B by omega)).trans (h.2 i hi).1, (hb.cell (show 5 < B by omega)).trans (h.2 i hi).2⟩⟩

set_option maxRecDepth 100000 in
set_option maxHeartbeats 2000000 in
theorem isName_any (s : ByteArray) (w : World) (hs : s.size ≤ 140737488351232) (hu : Lib.Utf8Tabs 4 5 w) (hc : CTabs w) (h4 : 4 ≤ w.heap.size) :
    Calls Tryd.prog 34 #[.string s] w fun e w' => e = .returned (.bool (Pl.isName s)) ∧ Below w.heap.size w w' := by
  have HU := Lib.hid hu
  have HC := Lib.hid hc
  clear hu hc
  by_cases h0 : s.size = 0
  · have HE : Hid (s = ByteArray.empty) := by
      show _ = _
      apply ByteArray.ext
      exact Array.eq_empty_of_size_eq_zero h0
    have HN : Hid (Pl.isName s = false) := by
      show _ = _
      unfold Pl.isName
      rw [show decide (s.size ≠ 0) = false from by rw [h0]; rfl, Bool.false_and]
    have hsl : s.toList = [] := by rw [ByteArray.toList_eq, HE.out]; rfl
    clear h0
    go_enter Tryd.func34, Tryd.ntmps34
    go_wp2
    go_ret
    exact ⟨ret_bool HN.out.symm, Below.refl _ _⟩
  · have hd : Hid (decide (s.size ≠ 0) = true) := decide_eq_true h0
    have hsl : ¬ s.toList = [] := by
      rw [ByteArray.toList_eq]
      intro e
      have := congrArg List.length e
      rw [Pl.size_list] at this
      exact h0 this
    have hse : s.toList.isEmpty = false := by rw [List.isEmpty_eq_false_iff]; exact hsl
    clear h0 hsl
    go_enter Tryd.func34, Tryd.ntmps34
    by_cases hv : Pl.valid s 0 = true
    · have HV := Lib.hid hv
      clear hv
      go_wp2_with (go_at_call 47; refine (valid_any _ _ hs HU.out).mono ?_; rw [HV.out]; rintro e w1 ⟨rfl, hb⟩; have HB1 := Lib.hid hb; clear hb)
      by_cases hk : Pl.isKey s = true
      · have HK := Lib.hid hk
        clear hk
        go_wp2_with (go_at_call 33; refine (isKey_any _ _).mono ?_; rw [HK.out]; rintro e w2 ⟨rfl, hb⟩; have HB2 := Lib.hid (HB1.out.trans (hb.mono HB1.out.size)); clear hb)
        go_ret
        refine ⟨ret_bool ?_, HB2.out⟩
        unfold Pl.isName
        rw [hd.out, HV.out, HK.out]; rfl
      · have HK : Hid (Pl.isKey s = false) := Bool.eq_false_iff.2 hk
        clear hk
        have HN : Hid (Pl.isName s = Pl.parts (Pl.runes s 0)) := by
          show _ = _
          unfold Pl.isName
          rw [hd.out, HV.out, HK.out]; rfl
        go_wp2_with (go_at_call 33; refine (isKey_any _ _).mono ?_; rw [HK.out]; rintro e w2 ⟨rfl, hb⟩; have HB2 := Lib.hid (HB1.out.trans (hb.mono HB1.out.size)); clear hb)
        go_loopg [3] s.size (fun g v wr => ∃ i : Nat, i ≤ s.size ∧ s.size - i ≤ g ∧ Hid (Pl.parts (Pl.runes s i) = Pl.isName s) ∧ Hid (wr.heap[w2.heap.size]? = some (.stringIter s i)) ∧ Hid (Below w.heap.size w wr))
        case atStart => exact ⟨0, by omega, by omega, HN.out.symm, World.iter_heap w2 s 0, HB2.out.alloc HB2.out.size _⟩
        case round =>
          obtain ⟨i, hi, hg, HS, HI, HB⟩ := hrel
          by_cases hp : i < s.size
          · have hnx : ∀ ty, (Instr.next (.pointer (some ⟨w2.heap.size, 0, none⟩)) true ty).run Tryd.prog wr = _ := fun ty => Lib.run_next_any_at wr w2.heap.size s i ty HI.out hp
            have hd1 := Pl.dec_pos s i hp
            have hd2 := Pl.dec_in s i hp
            have hpt := i64_dec s i hp
            have hit2 := Lib.hid (Lib.iterAt_heap wr w2.heap.size s i (i + (Utf8.decode s i).2) HI.out)
            have hb2 := Lib.hid (Lib.below_iterAt HB.out (k := w2.heap.size) HB2.out.size s (i + (Utf8.decode s i).2))
            have hstep := Lib.hid (Pl.parts_step s i hp)
            have HC1 := Lib.hid (HC.out.below hb2.out h4)
            have h41 := Lib.hid (Nat.le_trans h4 hb2.out.size)
            by_cases hP : Pl.isPart (Utf8.decode s i).1 = true
            · have HP := Lib.hid hP
              clear hP
              by_cases hz : i = 0
              · subst hz
                rw [Nat.zero_add] at hit2 hb2 HC1 h41 hd2 hnx hstep
                have hp1 := part_any ((Utf8.decode s 0).1 : Int) (wr.iterAt w2.heap.size s (Utf8.decode s 0).2) HC1.out h41.out
                rw [HP.out] at hp1
                have HPC := Lib.hid hp1
                clear hp1
                by_cases hL : Pl.isLetter (Utf8.decode s 0).1 = true
                · have HL := Lib.hid hL
                  clear hL
                  go_wp2_with (first | (go_at_call 38; refine HPC.out.mono ?_; rintro e w3 ⟨rfl, hb⟩; have HB3 := Lib.hid (hb2.out.trans (hb.mono hb2.out.size)); have HI3 := Lib.hid (iter_below hit2.out hb); have HC3 := Lib.hid (HC.out.below HB3.out h4); clear hb) | (go_at_call 36; refine (letter_any _ _ HC3.out).mono ?_; rw [HL.out]; rintro e w4 ⟨rfl, hb⟩; have HB4 := Lib.hid (HB3.out.trans (hb.mono HB3.out.size)); have HI4 := Lib.hid (iter_below HI3.out hb); clear hb))
                  go_roundg (s.size - (Utf8.decode s 0).2)
                  case measure => omega
                  case rel =>
                    refine ⟨(Utf8.decode s 0).2, by omega, by omega, ?_, HI4.out, HB4.out⟩
                    show _ = _
                    rw [← HS.out, hstep.out, HP.out, HL.out]
                    simp
                · have HL : Hid (Pl.isLetter (Utf8.decode s 0).1 = false) := Bool.eq_false_iff.2 hL
                  clear hL
                  go_wp2_with (first | (go_at_call 38; refine HPC.out.mono ?_; rintro e w3 ⟨rfl, hb⟩; have HB3 := Lib.hid (hb2.out.trans (hb.mono hb2.out.size)); have HC3 := Lib.hid (HC.out.below HB3.out h4); clear hb) | (go_at_call 36; refine (letter_any _ _ HC3.out).mono ?_; rw [HL.out]; rintro e w4 ⟨rfl, hb⟩; have HB4 := Lib.hid (HB3.out.trans (hb.mono HB3.out.size)); clear hb))
                  go_ret
                  refine ⟨ret_bool ?_, HB4.out⟩
                  rw [← HS.out, hstep.out, HP.out, HL.out]
                  rfl
              · have hz1 : Hid (decide (i ≠ 0) = true) := decide_eq_true hz
                have hpc := part_any ((Utf8.decode s i).1 : Int) (wr.iterAt w2.heap.size s (i + (Utf8.decode s i).2)) HC1.out h41.out
                rw [HP.out] at hpc
                have HPC := Lib.hid hpc
                clear hpc
                go_wp2_with (go_at_call 38; refine HPC.out.mono ?_; rintro e w3 ⟨rfl, hb⟩; have HB3 := Lib.hid (hb2.out.trans (hb.mono hb2.out.size)); have HI3 := Lib.hid (iter_below hit2.out hb); clear hb)
                go_roundg (s.size - (i + (Utf8.decode s i).2))
                case measure => omega
                case rel =>
                  refine ⟨i + (Utf8.decode s i).2, by omega, by omega, ?_, HI3.out, HB3.out⟩
                  show _ = _
                  rw [← HS.out, hstep.out, HP.out, hz1.out]
                  simp
            · have HP : Hid (Pl.isPart (Utf8.decode s i).1 = false) := Bool.eq_false_iff.2 hP
              clear hP
              have hpc := part_any ((Utf8.decode s i).1 : Int) (wr.iterAt w2.heap.size s (i + (Utf8.decode s i).2)) HC1.out h41.out
              rw [HP.out] at hpc
              have HPC := Lib.hid hpc
              clear hpc
              go_wp2_with (go_at_call 38; refine HPC.out.mono ?_; rintro e w3 ⟨rfl, hb⟩; have HB3 := Lib.hid (hb2.out.trans (hb.mono hb2.out.size)); clear hb)
              go_ret
              refine ⟨ret_bool ?_, HB3.out⟩
              rw [← HS.out, hstep.out, HP.out]
              rfl
          · have hnx : ∀ ty, (Instr.next (.pointer (some ⟨w2.heap.size, 0, none⟩)) true ty).run Tryd.prog wr = _ := fun ty => Lib.run_next_end_at wr w2.heap.size s i ty HI.out hp
            have hend := Lib.hid (Pl.parts_end s i hp)
            go_wp2
            go_ret
            refine ⟨ret_bool ?_, HB.out⟩
            rw [← HS.out, hend.out]
    · have HV : Hid (Pl.valid s 0 = false) := Bool.eq_false_iff.2 hv
      clear hv
      go_wp2_with (go_at_call 47; refine (valid_any _ _ hs HU.out).mono ?_; rw [HV.out]; rintro e w1 ⟨rfl, hb⟩; have HB1 := Lib.hid hb; clear hb)
      go_ret
      refine ⟨ret_bool ?_, HB1.out⟩
      unfold Pl.isName
      rw [hd.out, HV.out]; rfl
end Go.Proofs.YtocijojjfcpaoaaDoor
