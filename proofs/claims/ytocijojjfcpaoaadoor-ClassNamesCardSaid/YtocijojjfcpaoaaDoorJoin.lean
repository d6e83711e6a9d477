/- The characters of joined texts: plain laws. -/
import Derived.Test.YtocijojjfcpaoaaDoorBnd
import Derived.Test.YtocijojjfcpaoaaDoorBytes
set_option linter.unusedVariables false
namespace Go.Proofs.YtocijojjfcpaoaaDoor
open Go.RowKit

/-- No good character stands over a place. -/
def NoOver (t : ByteArray) (e : Nat) : Prop := ∀ i, i < e → Pl.ok t i → i + Pl.lead (Pl.bt t i 0) ≤ e

theorem decode_cut' {t : ByteArray} {e i : Nat} (he : e ≤ t.size) (hn : NoOver t e) (hi : i < e) : Utf8.decode (t.extract 0 e) i = Utf8.decode t i := by
  by_cases hok : Pl.ok t i
  · exact decode_cut t e i he hi hok (hn i hi hok)
  · have hno : ¬ Pl.ok (t.extract 0 e) i := by
      intro h
      have h2 := h.2.1
      rw [size_cut t e he, bt_cut t e i 0 he (by omega)] at h2
      exact hok ((ok_cut t e i he hi h2).1 h)
    rw [bad_dec (by rw [size_cut t e he]; exact hi) hno, bad_dec (by omega) hok]
theorem cut_le {t : ByteArray} {e i : Nat} (he : e ≤ t.size) (hn : NoOver t e) (hi : i < e) : i + (Utf8.decode t i).2 ≤ e := by
  by_cases hok : Pl.ok t i
  · rw [ok_dec (by omega) hok]; exact hn i hi hok
  · rw [bad_dec (by omega) hok]; show i + 1 ≤ e; omega

/-- Cut at such a place, a text's characters are those of both parts. -/
theorem cut_runes {t : ByteArray} {e : Nat} (he : e ≤ t.size) (hn : NoOver t e) : ∀ (d i : Nat), e - i = d → i ≤ e → Pl.runes t i = Pl.runes (t.extract 0 e) i ++ Pl.runes t e := by
  intro d
  induction d using Nat.strongRecOn with
  | _ d ih =>
    intro i hd hi
    by_cases h : i < e
    · have h1 := Pl.dec_pos t i (by omega)
      have h2 := cut_le he hn h
      rw [Pl.runes_step t i (by omega), Pl.runes_step (t.extract 0 e) i (by rw [size_cut t e he]; exact h), decode_cut' he hn h, ih _ (by omega) (i + (Utf8.decode t i).2) rfl h2, List.cons_append]
    · obtain rfl : i = e := by omega
      rw [Pl.runes_end (t.extract 0 i) i (by rw [size_cut t i he]; omega), List.nil_append]

theorem decode_join (a b : ByteArray) (j : Nat) : Utf8.decode (a ++ b) (a.size + j) = Utf8.decode b j := by
  rw [← Pl.decode_drop (a ++ b), ← Pl.decode_drop b]
  congr 1
  apply bx_ext
  rw [Lib.extract_to_end, Lib.extract_to_end, bx_append, List.drop_append, Pl.size_list, List.drop_of_length_le (by rw [Pl.size_list]; omega), List.nil_append]
  congr 1; omega
theorem pts_join (a b : ByteArray) : ∀ (d j : Nat), b.size - j = d → Pl.pts (Pl.runes (a ++ b) (a.size + j)) = Pl.pts (Pl.runes b j) := by
  intro d
  induction d using Nat.strongRecOn with
  | _ d ih =>
    intro j hd
    have hz : (a ++ b).size = a.size + b.size := ByteArray.size_append
    by_cases h : j < b.size
    · have h1 := Pl.dec_pos b j h
      rw [Pl.runes_step (a ++ b) (a.size + j) (by omega), Pl.runes_step b j h, decode_join, Nat.add_assoc]
      have := ih _ (by omega) (j + (Utf8.decode b j).2) rfl
      simp only [Pl.pts, List.map_cons] at this ⊢
      rw [this]
    · rw [Pl.runes_end (a ++ b) _ (by omega), Pl.runes_end b j h]

/-- What Whole says: nothing is open there, or its place is. -/
theorem whole_cases (s : ByteArray) : (Pl.whole s = s.size ∧ ∀ i, i < s.size → Pl.opens s i = false) ∨ (Pl.whole s < s.size ∧ s.size - Pl.whole s ≤ 3 ∧ Pl.opens s (Pl.whole s) = true) := by
  have hfar : ∀ i, i + 4 ≤ s.size → Pl.opens s i = false := by
    intro i hi
    have := Pl.lead_le (Pl.bt s i 0)
    unfold Pl.opens
    rw [show decide (s.size - i < Pl.lead (Pl.bt s i 0)) = false from decide_eq_false (by omega), Bool.false_and]
  unfold Pl.whole
  simp only [Pl.wholeFrom]
  by_cases h1 : 1 ≤ s.size
  · rw [if_pos h1]
    by_cases o1 : Pl.opens s (s.size - 1) = true
    · rw [if_pos o1]; exact Or.inr ⟨by omega, by omega, o1⟩
    · rw [if_neg o1]
      by_cases h2 : 2 ≤ s.size
      · rw [if_pos h2]
        by_cases o2 : Pl.opens s (s.size - 2) = true
        · rw [if_pos o2]; exact Or.inr ⟨by omega, by omega, o2⟩
        · rw [if_neg o2]
          by_cases h3 : 3 ≤ s.size
          · rw [if_pos h3]
            by_cases o3 : Pl.opens s (s.size - 3) = true
            · rw [if_pos o3]; exact Or.inr ⟨by omega, by omega, o3⟩
            · rw [if_neg o3]
              refine Or.inl ⟨rfl, fun i hi => ?_⟩
              rcases (by omega : i + 4 ≤ s.size ∨ i = s.size - 1 ∨ i = s.size - 2 ∨ i = s.size - 3) with h | rfl | rfl | rfl
              · exact hfar i h
              · exact Bool.eq_false_iff.2 o1
              · exact Bool.eq_false_iff.2 o2
              · exact Bool.eq_false_iff.2 o3
          · rw [if_neg h3]
            refine Or.inl ⟨rfl, fun i hi => ?_⟩
            rcases (by omega : i = s.size - 1 ∨ i = s.size - 2) with rfl | rfl
            · exact Bool.eq_false_iff.2 o1
            · exact Bool.eq_false_iff.2 o2
      · rw [if_neg h2]
        refine Or.inl ⟨rfl, fun i hi => ?_⟩
        obtain rfl : i = s.size - 1 := by omega
        exact Bool.eq_false_iff.2 o1
  · rw [if_neg h1]
    exact Or.inl ⟨rfl, fun i hi => by omega⟩
theorem whole_le (s : ByteArray) : Pl.whole s ≤ s.size := by
  rcases whole_cases s with h | h <;> omega
theorem whole_near (s : ByteArray) : s.size - Pl.whole s ≤ 3 := by
  rcases whole_cases s with h | h <;> omega

theorem join_cut (a b : ByteArray) : (a ++ b).extract 0 a.size = a := by
  apply bx_ext
  rw [bx_cut, bx_append, List.drop_zero, List.take_append_of_le_length (by rw [Pl.size_list]; omega), List.take_of_length_le (by rw [Pl.size_list]; omega)]
theorem join_cut' (a b : ByteArray) (e : Nat) (he : e ≤ a.size) : (a ++ b).extract 0 e = a.extract 0 e := by
  apply bx_ext
  rw [bx_cut, bx_cut, bx_append, List.drop_zero, List.drop_zero, List.take_append_of_le_length (by rw [Pl.size_list]; omega)]
theorem bt_join (a b : ByteArray) (i k : Nat) (h : i + k < a.size) : Pl.bt (a ++ b) i k = Pl.bt a i k := by
  have := bt_cut (a ++ b) a.size i k (by rw [ByteArray.size_append]; omega) h
  rw [join_cut] at this
  exact this.symm

/-- **Behind a text, whatever comes: no good character stands over the end of what is whole in it.** -/
theorem whole_noOver (a b : ByteArray) : NoOver (a ++ b) (Pl.whole a) := by
  intro i hi hok
  have hw := whole_le a
  apply Classical.byContradiction
  intro hn
  rcases whole_cases a with ⟨he, hno⟩ | ⟨hlt, hnear, ho⟩
  · rw [he] at hi hn
    have hopen : Pl.opens a i = true := by
      unfold Pl.opens
      have hb0 := bt_join a b i 0 (by omega)
      rw [hb0] at hn
      rw [Bool.and_eq_true, decide_eq_true_eq, decide_eq_true_eq]
      refine ⟨by omega, ?_⟩
      have hf := hok.2.2
      rw [hb0] at hf
      have hz : (a ++ b).size = a.size + b.size := ByteArray.size_append
      unfold Pl.fits at hf ⊢
      rw [hz, hb0] at hf
      obtain ⟨f1, f2, f3⟩ := hf
      refine ⟨fun x y => ?_, fun x y => ?_, fun x y => ?_⟩
      · have := f1 x (by omega); rwa [bt_join a b i 1 (by omega)] at this
      · have := f2 x (by omega); rwa [bt_join a b i 2 (by omega)] at this
      · have := f3 x (by omega); rwa [bt_join a b i 3 (by omega)] at this
    rw [hno i hi] at hopen
    cases hopen
  · have ht := ok_tail hok (Pl.whole a - i) (by omega) (by omega)
    rw [bt_shift, show i + (Pl.whole a - i) = Pl.whole a from by omega, bt_join a b _ 0 (by omega)] at ht
    unfold Pl.opens at ho
    rw [Bool.and_eq_true, decide_eq_true_eq] at ho
    have hl := Pl.lead_spec (Pl.bt a (Pl.whole a) 0)
    omega

/-- What stands in front of an open end stays. -/
theorem runes_front (a b : ByteArray) : Pl.runes (a ++ b) 0 = Pl.runes (a.extract 0 (Pl.whole a)) 0 ++ Pl.runes (a ++ b) (Pl.whole a) := by
  have := cut_runes (t := a ++ b) (e := Pl.whole a) (by have := whole_le a; rw [ByteArray.size_append]; omega) (whole_noOver a b) _ 0 rfl (by omega)
  rwa [join_cut' a b _ (whole_le a)] at this
theorem pts_front (a b : ByteArray) : Pl.pts (Pl.runes (a ++ b) 0) = Pl.pts (Pl.runes (a.extract 0 (Pl.whole a)) 0) ++ Pl.pts (Pl.runes (a ++ b) (Pl.whole a)) := by
  rw [runes_front]; simp [Pl.pts]
/-- Texts without an open end, joined, have the characters of both. -/
theorem pts_both (a b : ByteArray) (h : Pl.whole a = a.size) : Pl.pts (Pl.runes (a ++ b) 0) = Pl.pts (Pl.runes a 0) ++ Pl.pts (Pl.runes b 0) := by
  have h1 := pts_front a b
  have h2 := pts_join a b _ 0 rfl
  rw [Nat.add_zero] at h2
  have h3 : a.extract 0 a.size = a := by
    apply bx_ext
    rw [bx_cut, List.drop_zero, List.take_of_length_le (by rw [Pl.size_list]; omega)]
  rw [h, h2, h3] at h1
  exact h1
end Go.Proofs.YtocijojjfcpaoaaDoor
