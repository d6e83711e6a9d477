/- The document's width, as printed, is that of the plain text. -/
import Derived.Test.YtocijojjfcpaoaaDoorRA2W
import Derived.Test.YtocijojjfcpaoaaDoorPlain
set_option linter.unusedVariables false
namespace Go.Proofs.YtocijojjfcpaoaaDoor.PWidthTexts
open Go.RowKit Go.Proofs.YtocijojjfcpaoaaDoorW.PrintWords
open Go.Proofs.YtocijojjfcpaoaaDoor.Pl (pts runes runes_step runes_end dec_pos dec_in widthOf inRanges wsum cutAt widthOf_bd)

/-- A list of ranges, end to end. -/
def flat (l : List (Int × Int)) : List Int := l.flatMap fun r => [r.1, r.2]
theorem flat_length (l : List (Int × Int)) : (flat l).length = 2 * l.length := by
  induction l with
  | nil => rfl
  | cons r l ih => simp only [flat, List.flatMap_cons, List.length_append, List.length_cons, List.length_nil] at *; omega
theorem flat_at (l : List (Int × Int)) (i : Nat) (h : i < l.length) : rd (flat l) ((2 * i : Nat) : Int) = l[i].1 ∧ rd (flat l) ((2 * i + 1 : Nat) : Int) = l[i].2 := by
  unfold rd
  rw [Int.toNat_natCast, Int.toNat_natCast]
  induction l generalizing i with
  | nil => simp at h
  | cons r l ih =>
    cases i with
    | zero => simp [flat]
    | succ i =>
      have := ih i (by simpa using h)
      have e : 2 * (i + 1) = (2 * i) + 2 := by omega
      rw [e]
      simpa [flat] using this

theorem in_loop (l : List (Int × Int)) (p : Int) (hl : l.length ≤ 100) : ∀ (d i k : Nat), l.length - i ≤ d → i ≤ l.length → d + 1 ≤ k → colophonref02_in.l0 k p (flat l) ((2 * i : Nat) : Int) = some (inRanges (l.drop i) p) := by
  intro d
  induction d with
  | zero =>
    intro i k hd hi hk
    obtain ⟨k, rfl⟩ : ∃ m, k = m + 1 := ⟨k - 1, by omega⟩
    have hf := flat_length l
    simp only [colophonref02_in.l0]
    rw [w64 (by omega) (by omega), if_neg (by omega), List.drop_of_length_le (by omega)]; rfl
  | succ d ih =>
    intro i k hd hi hk
    obtain ⟨k, rfl⟩ : ∃ m, k = m + 1 := ⟨k - 1, by omega⟩
    have hf := flat_length l
    simp only [colophonref02_in.l0]
    by_cases h : i < l.length
    · have ha := flat_at l i h
      have e1 : wrap64 (((2 * i : Nat) : Int) + 1) = ((2 * i + 1 : Nat) : Int) := by rw [w64 (by omega) (by omega)]; omega
      have e2 : wrap64 (((2 * i : Nat) : Int) + 2) = ((2 * (i + 1) : Nat) : Int) := by rw [w64 (by omega) (by omega)]; omega
      have hr := ih (i + 1) k (by omega) (by omega) (by omega)
      rw [e1, e2]
      simp only [ha.1, ha.2, hr]
      have hs : inRanges (l.drop i) p = ((decide (l[i].1 ≤ p) && decide (p ≤ l[i].2)) || inRanges (l.drop (i + 1)) p) := by rw [List.drop_eq_getElem_cons h]; rfl
      rw [if_pos (by omega), if_pos (by omega), if_pos (by omega), hs]
      by_cases c1 : l[i].1 ≤ p
      · rw [if_pos (show p ≥ l[i].1 from c1), if_pos (by omega)]
        by_cases c2 : p ≤ l[i].2
        · rw [if_pos c2]; simp [c1, c2]
        · rw [if_neg c2]; simp [c2]
      · rw [if_neg (by omega)]; simp [c1]
    · rw [w64 (by omega) (by omega), if_neg (by omega), List.drop_of_length_le (by omega)]; rfl

theorem in_eq (l : List (Int × Int)) (p : Int) (k : Nat) (hl : l.length ≤ 100) (hk : l.length + 1 ≤ k) : colophonref02_in.f k p (flat l) = some (inRanges l p) := by
  unfold colophonref02_in.f
  exact in_loop l p hl l.length 0 k (by omega) (by omega) (by omega)

theorem of_eq (p : Int) (k : Nat) (hk : 20 ≤ k) : colophonref02_Of.f k p = some (widthOf p) := by
  unfold colophonref02_Of.f
  rw [show ([4352, 4447, 11904, 12350, 12353, 42191, 44032, 55203, 63744, 64255, 65072, 65135, 65280, 65376, 65504, 65510, 127744, 128591, 129280, 129535, 131072, 262141] : List Int) = flat Pl.double from rfl,
    show ([768, 879, 8203, 8207, 8400, 8447, 65024, 65039, 65056, 65071] : List Int) = flat Pl.none from rfl,
    in_eq _ _ _ (by decide) (by have : Pl.double.length = 11 := rfl; omega), in_eq _ _ _ (by decide) (by have : Pl.none.length = 5 := rfl; omega)]
  simp only [Option.bind_some]
  unfold widthOf
  split
  · rfl
  · split <;> rfl

theorem text_loop (l : List Int) (hl : l.length ≤ 2147483648) : ∀ (d i k : Nat) (n : Int), l.length - i ≤ d → i ≤ l.length → 0 ≤ n → n ≤ 2 * i → d + 22 ≤ k →
    colophonref02_Text.l0 k n l (i : Int) = some (n + wsum (l.drop i)) := by
  intro d
  induction d with
  | zero =>
    intro i k n hd hi h0 h1 hk
    obtain ⟨k, rfl⟩ : ∃ m, k = m + 1 := ⟨k - 1, by omega⟩
    simp only [colophonref02_Text.l0]
    rw [if_neg (by omega), List.drop_of_length_le (by omega)]
    simp [wsum]
  | succ d ih =>
    intro i k n hd hi h0 h1 hk
    obtain ⟨k, rfl⟩ : ∃ m, k = m + 1 := ⟨k - 1, by omega⟩
    simp only [colophonref02_Text.l0]
    by_cases h : i < l.length
    · have hr : rd l (i : Int) = l[i] := by unfold rd; rw [Int.toNat_natCast]; simp [h]
      have hw := widthOf_bd l[i]
      rw [if_pos (by omega), if_pos (by omega), hr, of_eq _ _ (by omega)]
      simp only [Option.bind_some]
      have e2 : wrap64 ((i : Int) + 1) = ((i + 1 : Nat) : Int) := by rw [w64 (by omega) (by omega)]; omega
      rw [w64 (by omega) (by omega), e2, ih (i + 1) k _ (by omega) (by omega) (by omega) (by omega) (by omega), List.drop_eq_getElem_cons h]
      show _ = some (n + (widthOf l[i] + wsum (l.drop (i + 1))))
      rw [Int.add_assoc]
    · rw [if_neg (by omega), List.drop_of_length_le (by omega)]
      simp [wsum]

theorem pts_le (s : ByteArray) : (pts (runes s 0)).length ≤ s.size := by
  have := Pl.runes_length s s.size 0 (by omega)
  simpa [pts] using this

theorem text_eq (s : ByteArray) (k : Nat) (hs : s.size ≤ 2147483648) (hk : s.size + 30 ≤ k) : colophonref02_Text.f k s = some (wsum (pts (runes s 0))) := by
  unfold colophonref02_Text.f
  rw [points_eq s k hs (by omega)]
  simp only [Option.bind_some]
  have hl := pts_le s
  have := text_loop (pts (runes s 0)) (by omega) (pts (runes s 0)).length 0 k 0 (by omega) (by omega) (by omega) (by omega) (by omega)
  rw [Int.zero_add] at this
  exact this

theorem cut_loop (s : ByteArray) (m : Int) (hs : s.size ≤ 2147483648) (hm : m ≤ 9223372036854775807) : ∀ (d i k : Nat) (n : Int), s.size - i ≤ d → i ≤ s.size → 0 ≤ n → n ≤ 2 * i → d + 24 ≤ k →
    colophonref02_Cut.l0 k s m (i : Int) n = some (s.extract 0 (cutAt m (runes s i) s.size n).1, (cutAt m (runes s i) s.size n).2) := by
  intro d
  induction d with
  | zero =>
    intro i k n hd hi h0 h1 hk
    obtain ⟨k, rfl⟩ : ∃ m, k = m + 1 := ⟨k - 1, by omega⟩
    simp only [colophonref02_Cut.l0]
    have : i = s.size := by omega
    rw [if_neg (by omega), if_pos (by omega), if_pos (by omega), runes_end s i (by omega), this]
    rfl
  | succ d ih =>
    intro i k n hd hi h0 h1 hk
    obtain ⟨k, rfl⟩ : ∃ m, k = m + 1 := ⟨k - 1, by omega⟩
    simp only [colophonref02_Cut.l0]
    by_cases h : i < s.size
    · have h1' := dec_pos s i h
      have h2' := dec_in s i h
      have hw := widthOf_bd (Utf8.decode s i).1
      rw [if_pos (by omega), next_eq s i k (by omega) h (by omega)]
      simp only [Option.bind_some]
      rw [of_eq _ _ (by omega)]
      simp only [Option.bind_some]
      rw [w64 (by omega) (by omega), runes_step s i h]
      simp only [cutAt]
      by_cases hg : n + widthOf ((Utf8.decode s i).1 : Int) > m
      · rw [if_pos hg, if_pos hg, if_pos (by omega), if_pos (by omega)]
        rfl
      · rw [if_neg hg, if_neg hg, show wrap64 ((i : Int) + ((Utf8.decode s i).2 : Int)) = ((i + (Utf8.decode s i).2 : Nat) : Int) from by rw [w64 (by omega) (by omega)]; omega]
        exact ih _ _ _ (by omega) (by omega) (by omega) (by omega) (by omega)
    · have : i = s.size := by omega
      rw [if_neg (by omega), if_pos (by omega), if_pos (by omega), runes_end s i (by omega), this]
      rfl

theorem cut_eq (s : ByteArray) (m : Int) (k : Nat) (hs : s.size ≤ 2147483648) (h0 : 0 ≤ m) (hm : m ≤ 9223372036854775807) (hk : s.size + 30 ≤ k) : colophonref02_Cut.f k s m = some (s.extract 0 (cutAt m (runes s 0) s.size 0).1, (cutAt m (runes s 0) s.size 0).2) := by
  unfold colophonref02_Cut.f
  rw [if_neg (by omega)]
  exact cut_loop s m hs hm s.size 0 k 0 (by omega) (by omega) (by omega) (by omega) (by omega)
theorem cut_neg (s : ByteArray) (m : Int) (k : Nat) (h0 : m < 0) : colophonref02_Cut.f k s m = some (⟨#[]⟩, 0) := by
  unfold colophonref02_Cut.f
  rw [if_pos h0]
end Go.Proofs.YtocijojjfcpaoaaDoor.PWidthTexts
