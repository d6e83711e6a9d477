/- What char.Whole answers of any text. -/
import Derived.Test.YtocijojjfcpaoaaDoorWhole
set_option linter.unusedSimpArgs false
set_option linter.unusedVariables false
namespace Go.Proofs.YtocijojjfcpaoaaDoor
open Go.RowKit

def Pl.wholeFrom (s : ByteArray) : Nat → Nat → Nat
  | 0, _ => s.size
  | d + 1, n => if n ≤ s.size then (if Pl.opens s (s.size - n) = true then s.size - n else Pl.wholeFrom s d (n + 1)) else s.size
def Pl.whole (s : ByteArray) : Nat := Pl.wholeFrom s 3 1

theorem Pl.opens_drop (s : ByteArray) (i : Nat) : Pl.opens (s.extract i s.size) 0 = Pl.opens s i := by
  have hb : ∀ k, Pl.bt (s.extract i s.size) 0 k = Pl.bt s i k := fun k => Pl.bt_drop s i k
  have hz := Pl.size_drop s i
  rw [Bool.eq_iff_iff]
  simp only [Pl.opens, Bool.and_eq_true, decide_eq_true_eq]
  unfold Pl.fits
  simp only [hb, hz, Nat.zero_add]
  have e (k : Nat) : (k < s.size - i) = (i + k < s.size) := by rw [eq_iff_iff]; omega
  rw [e 1, e 2, e 3, Nat.sub_zero]

theorem ret_i {a b : Int} (h : a = b) : Ending.returned (.int .i64 a) = .returned (.int .i64 b) := by rw [h]

theorem drop_all (s : ByteArray) (i : Nat) (h : i ≤ s.size) : 0 < s.size - i → 0 < (s.extract i s.size).size := by rw [Pl.size_drop]; omega

theorem utf8_below' {B : Nat} {w w' : World} (h : Lib.Utf8Tabs 4 5 w) (hb : Below B w w') (hB : 6 ≤ B) : Lib.Utf8Tabs 4 5 w' := by
  refine ⟨fun c hc => (hb.cell (show 4 < B by omega)).trans (h.1 c hc), fun i hi => ⟨(hb.cell (show 5 < B by omega)).trans (h.2 i hi).1, (hb.cell (show 5 < B by omega)).trans (h.2 i hi).2⟩⟩

set_option maxRecDepth 100000 in
set_option maxHeartbeats 1000000 in
theorem whole_any (s : ByteArray) (w : World) (hs : s.size ≤ 140737488351232) (hu : Lib.Utf8Tabs 4 5 w) (h6 : 6 ≤ w.heap.size) :
    Calls Tryd.prog 25 #[.string s] w fun e w' => e = .returned (.int .i64 (Pl.whole s)) ∧ Below w.heap.size w w' := by
  have HU := Lib.hid hu
  clear hu
  go_enter Tryd.func25, Tryd.ntmps25
  go_wp2
  go_loopw [3] (fun v wr => ∃ n : Nat, 1 ≤ n ∧ n ≤ 4 ∧ v = .int .i64 n ∧ Hid (Pl.wholeFrom s (4 - n) n = Pl.whole s) ∧ Hid (Below w.heap.size w wr)) (fun v _ => 4 - (intOf v).toNat)
  case atStart => exact ⟨1, by omega, by omega, rfl, rfl, Below.refl _ _⟩
  case round =>
    obtain ⟨n, h1, h4, rfl, HR, HB⟩ := hrel
    by_cases hn : n < 4
    · obtain ⟨d, hd⟩ : ∃ d, 4 - n = d + 1 := ⟨3 - n, by omega⟩
      have hd2 : 4 - (n + 1) = d := by omega
      rw [hd] at HR
      have hst : Pl.wholeFrom s (d + 1) n = if n ≤ s.size then (if Pl.opens s (s.size - n) = true then s.size - n else Pl.wholeFrom s d (n + 1)) else s.size := rfl
      by_cases hle : n ≤ s.size
      · have hg1 : decide ((n : Int) < 4) = true := decide_eq_true (by omega)
        have hg2 : decide ((n : Int) ≤ (s.size : Int)) = true := decide_eq_true (by omega)
        rw [if_pos hle] at hst
        have HU1 := Lib.hid (utf8_below' HU.out HB.out h6)
        have hsub : (((s.size : Int) - (n : Int)).toNat) = s.size - n := by omega
        by_cases ho : Pl.opens s (s.size - n) = true
        · rw [if_pos ho] at hst
          have HE := Lib.hid (HR.out.symm.trans hst)
          have C1 := full_any (s.extract (s.size - n) s.size) wr (by rw [Pl.size_drop]; omega) (by rw [Pl.size_drop]; omega) HU1.out
          rw [Pl.opens_drop, ho] at C1
          have CC := Lib.hid C1
          clear C1 hst HR ho
          go_wp2_with (go_at_call 55; refine CC.out.mono ?_; rintro e w1 ⟨rfl, hb⟩; have HB1 := Lib.hid (HB.out.trans (hb.mono HB.out.size)); clear hb)
          go_ret
          exact ⟨ret_i (by rw [HE.out]; omega), HB1.out⟩
        · rw [if_neg ho] at hst
          have HE := Lib.hid (hst.symm.trans HR.out)
          have C1 := full_any (s.extract (s.size - n) s.size) wr (by rw [Pl.size_drop]; omega) (by rw [Pl.size_drop]; omega) HU1.out
          rw [Pl.opens_drop, Bool.eq_false_iff.2 ho] at C1
          have CC := Lib.hid C1
          clear C1 hst HR ho
          go_wp2_with (go_at_call 55; refine CC.out.mono ?_; rintro e w1 ⟨rfl, hb⟩; have HB1 := Lib.hid (HB.out.trans (hb.mono HB.out.size)); clear hb)
          go_roundw
          case rel => exact ⟨n + 1, by omega, by omega, by go_num, by rw [hd2]; exact HE, HB1⟩
          case measure => simp [intOf]; omega
      · have hg1 : decide ((n : Int) < 4) = true := decide_eq_true (by omega)
        have hg2 : decide ((n : Int) ≤ (s.size : Int)) = false := decide_eq_false (by omega)
        rw [if_neg hle] at hst
        have HE := Lib.hid (HR.out.symm.trans hst)
        clear hst HR
        go_wp2
        go_ret
        exact ⟨ret_i (by rw [HE.out]), HB.out⟩
    · obtain rfl : n = 4 := by omega
      have HE : Hid (Pl.whole s = s.size) := HR.out.symm
      clear HR
      go_wp2
      go_ret
      exact ⟨ret_i (by rw [HE.out]), HB.out⟩
end Go.Proofs.YtocijojjfcpaoaaDoor
