/- What class.Sign answers of any text and any place. -/
import Derived.Test.YtocijojjfcpaoaaDoorCls
import Derived.Test.YtocijojjfcpaoaaDoorChr2
set_option linter.unusedSimpArgs false
set_option linter.unusedVariables false
namespace Go.Proofs.YtocijojjfcpaoaaDoor
open Go.RowKit

def Pl.twoSigns : List ByteArray := [⟨#[58, 61]⟩, ⟨#[46, 46]⟩, ⟨#[60, 61]⟩, ⟨#[62, 61]⟩]
def Pl.oneSigns : List UInt8 := [59, 46, 44, 58, 61, 35, 60, 62, 40, 41, 91, 93, 43, 45, 42, 47, 37]
def Pl.two (t : ByteArray) (l : List ByteArray) : Option ByteArray := l.find? fun x => Lib.hasPrefix t.data.toList x.data.toList
/-- The longest sign at the beginning of a text that is not empty. -/
def Pl.signOf (t : ByteArray) : ByteArray :=
  (Pl.two t Pl.twoSigns).getD (if 0 ≤ Lib.indexByte Pl.oneSigns (t.get! 0) then t.extract 0 1 else ⟨#[]⟩)
def Pl.sign (s : ByteArray) (a : Int) : ByteArray := if 0 ≤ a ∧ a < s.size then Pl.signOf (s.extract a.toNat s.size) else ⟨#[]⟩

theorem ret_str {a b : ByteArray} (h : a = b) : Ending.returned (.string a) = .returned (.string b) := by rw [h]

theorem two_at (j : Nat) (w : World) (hj : j < 4) : (w.alloc (.cells #[.string ⟨#[58, 61]⟩, .string ⟨#[46, 46]⟩, .string ⟨#[60, 61]⟩, .string ⟨#[62, 61]⟩] 9)).cell? ⟨w.heap.size, j, none⟩ = some (.string (Pl.twoSigns.getD j ByteArray.empty)) := by
  rw [cell_of_row _ _ _ _ _ _ (heap_alloc_new w _)]
  rcases (by omega : j = 0 ∨ j = 1 ∨ j = 2 ∨ j = 3) with rfl | rfl | rfl | rfl <;> rfl

set_option maxRecDepth 100000 in
set_option maxHeartbeats 1000000 in
theorem sign_out (s : ByteArray) (a : Int) (w : World) (ha : ¬ (0 ≤ a ∧ a < s.size)) :
    Calls Tryd.prog 42 #[.string s, .int .i64 a] w fun e w' => e = .returned (.string ⟨#[]⟩) ∧ Below w.heap.size w w' := by
  by_cases h0 : a < 0
  · clear ha
    go_enter Tryd.func42, Tryd.ntmps42
    go_wp2
    go_ret
    exact ⟨rfl, Below.refl _ _⟩
  · have h1 : (s.size : Int) ≤ a := by omega
    have h2 : 0 ≤ a := by omega
    clear ha
    go_enter Tryd.func42, Tryd.ntmps42
    go_wp2
    go_ret
    exact ⟨rfl, Below.refl _ _⟩

theorem two_step (t : ByteArray) (k : Nat) (h : k < 4) : Pl.two t (Pl.twoSigns.drop k) = if Lib.hasPrefix t.data.toList (Pl.twoSigns.getD k ByteArray.empty).data.toList = true then some (Pl.twoSigns.getD k ByteArray.empty) else Pl.two t (Pl.twoSigns.drop (k + 1)) := by
  have hl : k < Pl.twoSigns.length := h
  rw [List.drop_eq_getElem_cons hl]
  have e : Pl.twoSigns.getD k ByteArray.empty = Pl.twoSigns[k] := by simp [hl]
  rw [e]
  unfold Pl.two
  rw [List.find?_cons]
  cases Lib.hasPrefix t.data.toList Pl.twoSigns[k].data.toList <;> rfl

set_option maxRecDepth 100000 in
set_option maxHeartbeats 1000000 in
theorem sign_in (s : ByteArray) (i : Nat) (w : World) (hi : i < s.size) (hs : s.size ≤ 140737488351232) :
    Calls Tryd.prog 42 #[.string s, .int .i64 i] w fun e w' => e = .returned (.string (Pl.signOf (s.extract i s.size))) ∧ Below w.heap.size w w' := by
  have hp : 0 < (s.extract i s.size).size := by rw [Pl.size_drop]; omega
  obtain ⟨t, ht⟩ : ∃ t, s.extract i s.size = t := ⟨_, rfl⟩
  rw [ht] at hp ⊢
  have HTT := Lib.hid ht
  clear ht
  go_enter Tryd.func42, Tryd.ntmps42
  go_wp2
  rw [HTT.out]
  rename_i hb KX KK
  clear hb
  rw [show decide (s.size ≤ i) = false from decide_eq_false (by omega), show decide ((i : Int) < 0) = false from decide_eq_false (by omega), Bool.or_false]
  clear hi
  go_loopw [20] (fun v wr => ∃ k : Nat, k ≤ 4 ∧ v = .int .i64 k ∧ Hid (Pl.two t (Pl.twoSigns.drop k) = Pl.two t Pl.twoSigns) ∧ wr = (w.alloc (.cells #[.string ⟨#[58, 61]⟩, .string ⟨#[46, 46]⟩, .string ⟨#[60, 61]⟩, .string ⟨#[62, 61]⟩] 9))) (fun v _ => 4 - (intOf v).toNat)
  case atStart => exact ⟨0, by omega, rfl, rfl, rfl⟩
  case round =>
    obtain ⟨k, hk, rfl, HR, rfl⟩ := hrel
    by_cases hlt : k < 4
    · have hc0 := two_at k w hlt
      have HS0 := two_step t k hlt
      obtain ⟨x, hx⟩ : ∃ x, Pl.twoSigns.getD k ByteArray.empty = x := ⟨_, rfl⟩
      rw [hx] at hc0 HS0
      have HS := Lib.hid HS0
      have hc := hc0
      clear hc0
      clear hx HS0
      by_cases hpre : Lib.hasPrefix t.data.toList x.data.toList = true
      · have HP := Lib.hid hpre
        clear hpre
        go_wp2_with (go_at_call 56; refine (Tryd.strings_HasPrefix _ _ _).mono ?_; rw [HP.out]; rintro e w' ⟨rfl, rfl⟩)
        go_ret
        refine ⟨ret_str ?_, (Below.refl _ _).alloc (Nat.le_refl _) _⟩
        unfold Pl.signOf
        rw [← HR.out, HS.out, if_pos HP.out]
        rfl
      · have HP : Hid (Lib.hasPrefix t.data.toList x.data.toList = false) := Bool.eq_false_iff.2 hpre
        clear hpre
        go_wp2_with (go_at_call 56; refine (Tryd.strings_HasPrefix _ _ _).mono ?_; rw [HP.out]; rintro e w' ⟨rfl, rfl⟩)
        go_roundw
        case rel =>
          refine ⟨k + 1, by omega, by go_num, ?_, trivial⟩
          show _ = _
          rw [← HR.out, HS.out, if_neg (by rw [HP.out]; decide)]
        case measure => simp [intOf]; omega
    · obtain rfl : k = 4 := by omega
      have HN : Hid (Pl.two t Pl.twoSigns = Option.none) := HR.out.symm
      clear HR
      have HIX : Hid (Lib.indexByte [59, 46, 44, 58, 61, 35, 60, 62, 40, 41, 91, 93, 43, 45, 42, 47, 37] (t[0]'hp) = Lib.indexByte Pl.oneSigns (t.get! 0)) := by
        show _ = _
        have e : t[0]'hp = t.get! 0 := by
          show t.data[0] = t.data[0]!
          rw [getElem!_pos]
        rw [e]; rfl
      go_wp2_with (go_at_call 61; refine (Tryd.strings_IndexByte _ _ _).mono ?_; rintro e w' ⟨rfl, rfl⟩)
      · have hg : 0 ≤ Lib.indexByte Pl.oneSigns (t.get! 0) := by rw [← HIX.out]; omega
        go_ret
        refine ⟨ret_str ?_, (Below.refl _ _).alloc (Nat.le_refl _) _⟩
        unfold Pl.signOf
        rw [HN.out, if_pos hg]
        rfl
      · have hg : ¬ 0 ≤ Lib.indexByte Pl.oneSigns (t.get! 0) := by rw [← HIX.out]; omega
        go_ret
        refine ⟨ret_str ?_, (Below.refl _ _).alloc (Nat.le_refl _) _⟩
        unfold Pl.signOf
        rw [HN.out, if_neg hg]
        rfl

theorem sign_any (s : ByteArray) (a : Int) (w : World) (hs : s.size ≤ 140737488351232) :
    Calls Tryd.prog 42 #[.string s, .int .i64 a] w fun e w' => e = .returned (.string (Pl.sign s a)) ∧ Below w.heap.size w w' := by
  by_cases h : 0 ≤ a ∧ a < s.size
  · obtain ⟨i, rfl⟩ := Int.eq_ofNat_of_zero_le h.1
    have : Pl.sign s (i : Int) = Pl.signOf (s.extract i s.size) := by unfold Pl.sign; rw [if_pos h, Int.toNat_natCast]
    rw [this]
    exact sign_in s i w (by omega) hs
  · have : Pl.sign s a = ⟨#[]⟩ := by unfold Pl.sign; rw [if_neg h]
    rw [this]
    exact sign_out s a w h
end Go.Proofs.YtocijojjfcpaoaaDoor
