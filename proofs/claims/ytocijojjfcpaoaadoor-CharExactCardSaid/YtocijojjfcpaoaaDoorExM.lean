/- The layer's theorem of every call, whole: the document's answer in plain words, both side by side, the calls of a script, what is owned, the walk. -/
import Derived.Test.YtocijojjfcpaoaaDoorRB1C
import Derived.Test.YtocijojjfcpaoaaDoorLast
import Derived.Test.YtocijojjfcpaoaaDoorTxt
import Derived.Test.YtocijojjfcpaoaaDoorWhole2
import Derived.Test.YtocijojjfcpaoaaDoorC
import Derived.Test.YtocijojjfcpaoaaDoorAw01
import Derived.Test.YtocijojjfcpaoaaDoorVal
import Derived.BigQuiet
import Derived.Deep.RegionHeld3
import Derived.Test.YtocijojjfcpaoaaDoorInts
import Derived.Deep.DeepHandedRow
import Derived.Deep.Slices
import Derived.ChangeArms
import Derived.OpenShut
/- The document's Places, Count, Last, Text and Whole, as printed, in plain words. -/
set_option linter.unusedVariables false
set_option linter.unusedSimpArgs false
namespace Go.Proofs.YtocijojjfcpaoaaDoor.PCharExact
open Go.RowKit Go.Proofs.YtocijojjfcpaoaaDoorW.PrintWords
open Go.Proofs.YtocijojjfcpaoaaDoor.Pl (plcs runes runes_step runes_end dec_pos dec_in lead lead_spec)

theorem places_loop (s : ByteArray) (hs : s.size ≤ 2147483648) : ∀ (d k i : Nat) (xs : List Int), s.size - i ≤ d → i ≤ s.size → xs.length ≤ i → d + 20 ≤ k →
    colophonref01_Places.l0 k s xs (i : Int) = some (xs ++ plcs (runes s i)) := by
  intro d
  induction d with
  | zero =>
    intro k i xs hd hi hx hk
    obtain ⟨k, rfl⟩ : ∃ m, k = m + 1 := ⟨k - 1, by omega⟩
    simp only [colophonref01_Places.l0]
    rw [if_neg (by omega), runes_end s i (by omega)]
    simp [plcs]
  | succ d ih =>
    intro k i xs hd hi hx hk
    obtain ⟨k, rfl⟩ : ∃ m, k = m + 1 := ⟨k - 1, by omega⟩
    simp only [colophonref01_Places.l0]
    by_cases h : i < s.size
    · have h1 := dec_pos s i h
      have h2 := dec_in s i h
      rw [if_pos (by omega), if_pos (by omega), next_eq s i k (by omega) h (by omega)]
      simp only [Option.bind_some]
      rw [show wrap64 ((i : Int) + ((Utf8.decode s i).2 : Int)) = ((i + (Utf8.decode s i).2 : Nat) : Int) from by rw [w64 (by omega) (by omega)]; omega, ih k _ _ (by omega) (by omega) (by simp; omega) (by omega), runes_step s i h]
      simp [plcs]
    · rw [if_neg (by omega), runes_end s i h]
      simp [plcs]

theorem places_eq (s : ByteArray) (k : Nat) (hs : s.size ≤ 2147483648) (hk : s.size + 20 ≤ k) : colophonref01_Places.f k s = some (plcs (runes s 0)) := by
  unfold colophonref01_Places.f
  have := places_loop s hs s.size k 0 [] (by omega) (by omega) (by simp) hk
  simpa using this

theorem count_eq (s : ByteArray) (k : Nat) (hs : s.size ≤ 2147483648) (hk : s.size + 20 ≤ k) : colophonref01_Count.f k s = some ((runes s 0).length : Int) := by
  unfold colophonref01_Count.f
  rw [places_eq s k hs hk]
  simp [plcs]

theorem last_out (s : ByteArray) (a : Int) (k : Nat) (h : ¬ (1 ≤ a ∧ a ≤ s.size)) (hk : 1 ≤ k) : colophonref01_Last.f k s a = some (0, 0, false) := by
  obtain ⟨k, rfl⟩ : ∃ m, k = m + 1 := ⟨k - 1, by omega⟩
  unfold colophonref01_Last.f
  split
  · simp only [colophonref01_Last.j0, if_true]
  · simp only [colophonref01_Last.j0]
    rw [if_pos (by rw [decide_eq_true_eq]; omega)]

/-- The last character of a text that is not empty. -/
theorem last_place (t : ByteArray) (h : 0 < t.size) : ∃ p, AtRune t p ((runes t 0).length - 1) ∧ p < t.size ∧ p + (Utf8.decode t p).2 = t.size ∧ 1 ≤ (runes t 0).length ∧ rd (plcs (runes t 0)) (((runes t 0).length - 1 : Nat) : Int) = (p : Int) := by
  obtain ⟨a, j, ha, h1, h2⟩ := cover t (t.size - 1) (by omega)
  have hlt := ha.lt (by omega)
  rcases ha.ends (by omega) with he | he
  · have hn := ha.next (by omega)
    have := dec_in t a (by omega)
    have hz := hn.len (by omega) (by omega)
    omega
  · obtain rfl : j = (runes t 0).length - 1 := by omega
    exact ⟨a, ha, by omega, he.2, by omega, (rd_plcs _ _ _ (ha.get (by omega))).1⟩

theorem last_eq (s : ByteArray) (e k : Nat) (h1 : 1 ≤ e) (he : e ≤ s.size) (hs : s.size ≤ 2147483648) (hk : s.size + 40 ≤ k) : ∃ p, AtRune (s.extract 0 e) p ((runes (s.extract 0 e) 0).length - 1) ∧ p < (s.extract 0 e).size ∧ p + (Utf8.decode (s.extract 0 e) p).2 = (s.extract 0 e).size ∧
    colophonref01_Last.f k s (e : Int) = some (((Utf8.decode (s.extract 0 e) p).1 : Int), ((Utf8.decode (s.extract 0 e) p).2 : Int), Pl.good (s.extract 0 e) p) := by
  have hz := size_cut s e he
  obtain ⟨p, hp, hlt, hend, hpos, hrd⟩ := last_place (s.extract 0 e) (by omega)
  refine ⟨p, hp, hlt, hend, ?_⟩
  obtain ⟨k, rfl⟩ : ∃ m, k = m + 1 := ⟨k - 1, by omega⟩
  unfold colophonref01_Last.f
  rw [if_neg (by omega)]
  simp only [colophonref01_Last.j0]
  have hle : (runes (s.extract 0 e) 0).length ≤ e := by have := Pl.runes_length (s.extract 0 e) _ 0 rfl; omega
  have hpl : (plcs (runes (s.extract 0 e) 0)).length = (runes (s.extract 0 e) 0).length := len_plcs _
  rw [if_neg (by rw [decide_eq_true_eq]; omega), if_pos (by omega), if_pos (by omega), Int.toNat_natCast, places_eq _ k (by omega) (by omega)]
  simp only [Option.bind_some]
  rw [hpl, w64 (by omega) (by omega), if_pos (by omega), if_pos (by omega), show (((runes (s.extract 0 e) 0).length : Int) - 1) = (((runes (s.extract 0 e) 0).length - 1 : Nat) : Int) from by omega, hrd, next_eq _ p k (by omega) hlt (by omega)]
  rfl

theorem isPoint_eq (p : Int) : colophonref01_IsPoint.f p = some (decide ((0 ≤ p ∧ p < 55296) ∨ (57343 < p ∧ p ≤ 1114111))) := by
  unfold colophonref01_IsPoint.f
  split
  · split
    · split
      · rw [decide_eq_true (by omega)]
      · congr 1
        rw [decide_eq_decide]
        omega
    · rw [decide_eq_false (by omega)]
  · rw [decide_eq_false (by omega)]

theorem td_pos {a b : Int} (h : 0 ≤ a) : Int.tdiv a b = a / b := Int.tdiv_eq_ediv_of_nonneg h
theorem tm_pos {a b : Int} (h : 0 ≤ a) : Int.tmod a b = a % b := Int.tmod_eq_emod_of_nonneg h

theorem char_good (k : Nat) (p : Int) (h : (0 ≤ p ∧ p < 55296) ∨ (57343 < p ∧ p ≤ 1114111)) : colophonref01_Char.j0 (k + 1) p = some (Lib.encodeRuneZ p) := by
  simp only [colophonref01_Char.j0]
  by_cases c1 : p < 128
  · rw [if_pos c1, Lib.encodeRuneZ_one (by omega) (by omega), Int.emod_eq_of_lt (by omega) (by omega)]
  rw [if_neg c1]
  have e1 : Int.tdiv p 64 = p / 64 := td_pos (by omega)
  have e2 : Int.tmod p 64 = p % 64 := tm_pos (by omega)
  have e3 : Int.tdiv p 4096 = p / 4096 := td_pos (by omega)
  have e4 : Int.tdiv p 262144 = p / 262144 := td_pos (by omega)
  by_cases c2 : p < 2048
  · have f1 : wrap64 (p / 64) = p / 64 := w64 (by omega) (by omega)
    have q0 : wrap64 (192 + p / 64) = 192 + p / 64 := w64 (by omega) (by omega)
    have q1 : wrap64 (128 + p % 64) = 128 + p % 64 := w64 (by omega) (by omega)
    have r0 : (192 + p / 64) % 256 = 192 + p / 64 := Int.emod_eq_of_lt (by omega) (by omega)
    have r1 : (128 + p % 64) % 256 = 128 + p % 64 := Int.emod_eq_of_lt (by omega) (by omega)
    rw [if_pos c2, Lib.encodeRuneZ_two (by omega) (by omega), e1, e2, f1, q0, q1, r0, r1]
  rw [if_neg c2]
  have f1 : wrap64 (p / 64) = p / 64 := w64 (by omega) (by omega)
  have f2 : wrap64 (p / 4096) = p / 4096 := w64 (by omega) (by omega)
  have f3 : wrap64 (p / 262144) = p / 262144 := w64 (by omega) (by omega)
  have g1 : Int.tmod (p / 64) 64 = p / 64 % 64 := tm_pos (by omega)
  have g2 : Int.tmod (p / 4096) 64 = p / 4096 % 64 := tm_pos (by omega)
  have q1 : wrap64 (128 + p % 64) = 128 + p % 64 := w64 (by omega) (by omega)
  have q2 : wrap64 (128 + p / 64 % 64) = 128 + p / 64 % 64 := w64 (by omega) (by omega)
  have q3 : wrap64 (128 + p / 4096 % 64) = 128 + p / 4096 % 64 := w64 (by omega) (by omega)
  have r1 : (128 + p % 64) % 256 = 128 + p % 64 := Int.emod_eq_of_lt (by omega) (by omega)
  have r2 : (128 + p / 64 % 64) % 256 = 128 + p / 64 % 64 := Int.emod_eq_of_lt (by omega) (by omega)
  have r3 : (128 + p / 4096 % 64) % 256 = 128 + p / 4096 % 64 := Int.emod_eq_of_lt (by omega) (by omega)
  by_cases c3 : p < 65536
  · rw [if_pos c3, Lib.encodeRuneZ_three (by omega), e1, e2, e3, f1, f2, g1, q1, q2, r1, r2, w64 (by omega) (by omega), Int.emod_eq_of_lt (by omega) (by omega)]
  · rw [if_neg c3, Lib.encodeRuneZ_four (by omega) (by omega), e1, e2, e3, e4, f1, f2, f3, g1, g2, q1, q2, q3, r1, r2, r3, w64 (by omega) (by omega), Int.emod_eq_of_lt (by omega) (by omega)]

theorem encodeRuneZ_bad (p : Int) (h : ¬ ((0 ≤ p ∧ p < 55296) ∨ (57343 < p ∧ p ≤ 1114111))) : Lib.encodeRuneZ p = [239, 191, 189] := by
  unfold Lib.encodeRuneZ
  rw [if_neg (by omega), if_neg (by omega), if_neg (by omega), if_neg (by omega)]

theorem char_eq (k : Nat) (p : Int) : colophonref01_Char.f (k + 1) p = some (Lib.encodeRuneZ (Pl.clip p)) := by
  unfold colophonref01_Char.f
  rw [isPoint_eq]
  simp only [Option.bind_some]
  have e65 : Lib.encodeRuneZ 65533 = [239, 191, 189] := by decide
  by_cases h : (0 ≤ p ∧ p < 55296) ∨ (57343 < p ∧ p ≤ 1114111)
  · rw [if_pos (decide_eq_true h), char_good k p h]
    have : Pl.clip p = p := by unfold Pl.clip; rw [if_neg (by omega)]
    rw [this]
  · rw [if_neg (by rw [decide_eq_true_eq]; exact h), char_good k 65533 (by omega), e65]
    unfold Pl.clip
    split
    · rw [e65]
    · rw [encodeRuneZ_bad p h]

theorem encodeRuneZ_len (r : Int) : (Lib.encodeRuneZ r).length ≤ 4 := by
  unfold Lib.encodeRuneZ
  repeat' split
  all_goals simp

def numsOf (l : List Int) : List Int := l.flatMap fun p => Lib.encodeRuneZ (Pl.clip p)
theorem numsOf_len (l : List Int) : (numsOf l).length ≤ 4 * l.length := by
  induction l with
  | nil => simp [numsOf]
  | cons x l ih =>
    have := encodeRuneZ_len (Pl.clip x)
    simp only [numsOf, List.flatMap_cons, List.length_append, List.length_cons] at ih ⊢
    omega
theorem char_at (k : Nat) (p : Int) (h : 1 ≤ k) : colophonref01_Char.f k p = some (Lib.encodeRuneZ (Pl.clip p)) := by
  obtain ⟨m, rfl⟩ : ∃ m, k = m + 1 := ⟨k - 1, by omega⟩
  exact char_eq m p
theorem str_nums (l : List Int) : strOfNums (numsOf l) = ⟨(Pl.textOf l).toArray⟩ := by
  unfold strOfNums
  congr 2
  unfold numsOf Pl.textOf Lib.encodeRune
  rw [List.map_flatMap]

theorem text_loop (l : List Int) (hl : l.length ≤ 2147483648) : ∀ (d k i : Nat) (xs : List Int), l.length - i ≤ d → i ≤ l.length → xs.length ≤ 4 * i → d + 4 ≤ k →
    colophonref01_Text.l0 k l xs (i : Int) = some (strOfNums (xs ++ numsOf (l.drop i))) := by
  intro d
  induction d with
  | zero =>
    intro k i xs hd hi hx hk
    obtain ⟨k, rfl⟩ : ∃ m, k = m + 1 := ⟨k - 1, by omega⟩
    simp only [colophonref01_Text.l0]
    rw [if_neg (by omega), List.drop_eq_nil_of_le (by omega)]
    simp [numsOf]
  | succ d ih =>
    intro k i xs hd hi hx hk
    obtain ⟨k, rfl⟩ : ∃ m, k = m + 1 := ⟨k - 1, by omega⟩
    simp only [colophonref01_Text.l0]
    by_cases h : i < l.length
    · have hr : rd l (i : Int) = l[i] := by unfold rd; simp [h]
      have h4 := encodeRuneZ_len (Pl.clip l[i])
      have hdr : numsOf (l.drop i) = Lib.encodeRuneZ (Pl.clip l[i]) ++ numsOf (l.drop (i + 1)) := by rw [List.drop_eq_getElem_cons h]; rfl
      rw [if_pos (by omega), if_pos (by omega), hr, char_at k _ (by omega)]
      simp only [Option.bind_some]
      rw [if_pos (by omega), show wrap64 ((i : Int) + 1) = ((i + 1 : Nat) : Int) from by rw [w64 (by omega) (by omega)]; omega, ih k (i + 1) _ (by omega) (by omega) (by simp; omega) (by omega), hdr, List.append_assoc]
    · rw [if_neg (by omega), List.drop_eq_nil_of_le (by omega)]
      simp [numsOf]

theorem text_eq (l : List Int) (k : Nat) (hl : l.length ≤ 2147483648) (hk : l.length + 4 ≤ k) : colophonref01_Text.f k l = some ⟨(Pl.textOf l).toArray⟩ := by
  unfold colophonref01_Text.f
  have := text_loop l hl l.length k 0 [] (by omega) (by omega) (by simp) hk
  rw [← str_nums]
  simpa using this

/-- At most one of a text's last three places opens a character. -/
theorem opens_apart (s : ByteArray) (i j : Nat) (hij : i < j) (hj : j < s.size) (hd : s.size - i ≤ 3) (h : Pl.opens s i = true) : Pl.opens s j = false := by
  simp only [Pl.opens, Bool.and_eq_true, decide_eq_true_eq] at h
  obtain ⟨h1, h2⟩ := h
  have hb : 128 ≤ Pl.bt s j 0 ∧ Pl.bt s j 0 ≤ 191 := by
    have e : Pl.bt s j 0 = Pl.bt s i (j - i) := by rw [bt_shift s i (j - i)]; congr 1; omega
    rw [e]
    have hlo := Pl.lo_spec (Pl.bt s i 0)
    have hhi := Pl.hi_spec (Pl.bt s i 0)
    obtain ⟨f1, f2, f3⟩ := h2
    have c : j - i = 1 ∨ j - i = 2 := by omega
    rcases c with c | c
    · rw [c]
      have := f1 (by omega) (by omega)
      omega
    · rw [c]
      exact f2 (by omega) (by omega)
  have hl := lead_spec (Pl.bt s j 0)
  have hz : lead (Pl.bt s j 0) = 0 := by omega
  simp [Pl.opens, hz]

theorem whole_step (s : ByteArray) (n k : Nat) (hs : s.size ≤ 2147483648) (h1 : 1 ≤ n) (h3 : n ≤ 3) (hk : 12 ≤ k) :
    colophonref01_Whole.l0 (k + 1) s (n : Int) = if n ≤ s.size ∧ Pl.opens s (s.size - n) = true then some ((s.size - n : Nat) : Int) else colophonref01_Whole.l0 k s ((n - 1 : Nat) : Int) := by
  simp only [colophonref01_Whole.l0]
  have e1 : wrap64 ((s.size : Int) - (n : Int)) = (s.size : Int) - n := w64 (by omega) (by omega)
  have e2 : wrap64 ((n : Int) - 1) = ((n - 1 : Nat) : Int) := by rw [w64 (by omega) (by omega)]; omega
  rw [if_pos (by omega), e1, e2]
  by_cases hn : n ≤ s.size
  · have hb := Pl.bt_lt s (s.size - n) 0
    have hl := lead_spec (Pl.bt s (s.size - n) 0)
    rw [if_neg (by omega), if_pos (by omega), if_pos (by omega), show ((s.size : Int) - n) = ((s.size - n : Nat) : Int) from by omega, bt_pl0 s _ (by omega), w64 (by omega) (by omega), long_at k _ hb (by omega)]
    simp only [Option.bind_some]
    by_cases hgt : n < lead (Pl.bt s (s.size - n) 0)
    · rw [if_pos (by omega), fits_eq s (s.size - n) _ k (by omega) (by omega) (by omega) (by omega)]
      simp only [Option.bind_some]
      have ho : Pl.opens s (s.size - n) = decide (Pl.fits s (s.size - n) (lead (Pl.bt s (s.size - n) 0))) := by
        unfold Pl.opens
        rw [decide_eq_true (by omega), Bool.true_and]
      rw [ho]
      by_cases hf : Pl.fits s (s.size - n) (lead (Pl.bt s (s.size - n) 0))
      · rw [decide_eq_true hf, if_pos rfl, if_pos ⟨hn, rfl⟩]
      · rw [decide_eq_false hf, if_neg (by decide), if_neg (by simp)]
    · have ho : Pl.opens s (s.size - n) = false := by
        unfold Pl.opens
        rw [decide_eq_false (by omega), Bool.false_and]
      rw [if_neg (by omega), ho, if_neg (by simp)]
  · rw [if_pos (by omega), if_neg (by omega)]

theorem whole_eq (s : ByteArray) (k : Nat) (hs : s.size ≤ 2147483648) (hk : 20 ≤ k) : colophonref01_Whole.f k s = some (Pl.whole s : Int) := by
  obtain ⟨k, rfl⟩ : ∃ m, k = m + 4 := ⟨k - 4, by omega⟩
  unfold colophonref01_Whole.f
  rw [show (3 : Int) = ((3 : Nat) : Int) from rfl, show k + 4 = (k + 3) + 1 from rfl, whole_step s 3 (k + 3) hs (by omega) (by omega) (by omega)]
  rw [show ((3 - 1 : Nat) : Int) = ((2 : Nat) : Int) from rfl, show k + 3 = (k + 2) + 1 from rfl, whole_step s 2 (k + 2) hs (by omega) (by omega) (by omega)]
  rw [show ((2 - 1 : Nat) : Int) = ((1 : Nat) : Int) from rfl, show k + 2 = (k + 1) + 1 from rfl, whole_step s 1 (k + 1) hs (by omega) (by omega) (by omega)]
  have hz : colophonref01_Whole.l0 (k + 1) s ((1 - 1 : Nat) : Int) = some (s.size : Int) := by
    simp only [colophonref01_Whole.l0]
    rw [if_neg (by omega)]
  rw [hz]
  have a31 := opens_apart s (s.size - 3) (s.size - 1)
  have a32 := opens_apart s (s.size - 3) (s.size - 2)
  have a21 := opens_apart s (s.size - 2) (s.size - 1)
  unfold Pl.whole
  simp only [Pl.wholeFrom]
  by_cases h1 : 1 ≤ s.size
  · rw [if_pos h1]
    by_cases o1 : Pl.opens s (s.size - 1) = true
    · rw [if_pos o1]
      have n3 : ¬ (3 ≤ s.size ∧ Pl.opens s (s.size - 3) = true) := fun h => by rw [a31 (by omega) (by omega) (by omega) h.2] at o1; cases o1
      have n2 : ¬ (2 ≤ s.size ∧ Pl.opens s (s.size - 2) = true) := fun h => by rw [a21 (by omega) (by omega) (by omega) h.2] at o1; cases o1
      rw [if_neg n3, if_neg n2, if_pos ⟨h1, o1⟩]
    · rw [if_neg o1, if_neg (show ¬ (1 ≤ s.size ∧ Pl.opens s (s.size - 1) = true) from fun h => o1 h.2)]
      by_cases h2 : 2 ≤ s.size
      · rw [if_pos h2]
        by_cases o2 : Pl.opens s (s.size - 2) = true
        · have n3 : ¬ (3 ≤ s.size ∧ Pl.opens s (s.size - 3) = true) := fun h => by rw [a32 (by omega) (by omega) (by omega) h.2] at o2; cases o2
          rw [if_pos o2, if_neg n3, if_pos ⟨h2, o2⟩]
        · rw [if_neg o2, if_neg (show ¬ (2 ≤ s.size ∧ Pl.opens s (s.size - 2) = true) from fun h => o2 h.2)]
          by_cases h3 : 3 ≤ s.size
          · rw [if_pos h3]
            by_cases o3 : Pl.opens s (s.size - 3) = true
            · rw [if_pos o3, if_pos ⟨h3, o3⟩]
            · rw [if_neg o3, if_neg (show ¬ (3 ≤ s.size ∧ Pl.opens s (s.size - 3) = true) from fun h => o3 h.2)]
          · rw [if_neg h3, if_neg (show ¬ (3 ≤ s.size ∧ Pl.opens s (s.size - 3) = true) from fun h => h3 h.1)]
      · rw [if_neg h2, if_neg (show ¬ (3 ≤ s.size ∧ Pl.opens s (s.size - 3) = true) from fun h => by omega), if_neg (show ¬ (2 ≤ s.size ∧ Pl.opens s (s.size - 2) = true) from fun h => h2 h.1)]
  · rw [if_neg h1, if_neg (show ¬ (3 ≤ s.size ∧ Pl.opens s (s.size - 3) = true) from fun h => by omega), if_neg (show ¬ (2 ≤ s.size ∧ Pl.opens s (s.size - 2) = true) from fun h => by omega), if_neg (show ¬ (1 ≤ s.size ∧ Pl.opens s (s.size - 1) = true) from fun h => by omega)]
end Go.Proofs.YtocijojjfcpaoaaDoor.PCharExact

/- A list that is lent, and taken back: lent, back. -/
set_option linter.unusedVariables false
set_option linter.unusedSimpArgs false
namespace Go.Proofs.YtocijojjfcpaoaaDoor
open Go.RowKit Go.Proofs.YtocijojjfcpaoaaDoorW.PrintWords Go.Proofs.YtocijojjfcpaoaaDoorW.PrintMore

theorem infoIntSz : (Tryd.prog.info? 3).map (·.size) = some 1 := by kernel_rfl

theorem lent_row (l : List Int) : ((l.take (min l.length (List.replicate (l.length + 2) (0 : Int)).length) ++ (List.replicate (l.length + 2) (0 : Int)).drop (min l.length (List.replicate (l.length + 2) (0 : Int)).length)).set l.length (-7)).set (l.length + 1) (-8) = l ++ [-7, -8] := by
  rw [List.length_replicate, Nat.min_eq_left (by omega), List.take_length, List.drop_replicate, show l.length + 2 - l.length = 2 from by omega]
  rw [List.set_append_right _ _ (by omega), List.set_append_right _ _ (by omega)]
  simp [List.replicate]

theorem row_cell {w : World} {base g n cap : Nat} {ok : Nat → Prop} {xs : List Int} (h : (Kd.int .i64).R 3 w base ok (.slice (some ⟨g, 0, none⟩) n cap) xs) (i : Nat) (hi : i < n) : ∃ x, w.cell? ⟨g, i, none⟩ = some (.int .i64 x) ∧ w.frozen? ⟨g, i, none⟩ = false := by
  have := Kd.R_celln (enc := Value.int .i64) 0 h (i : Int) (by omega) (by omega)
  rw [Int.toNat_natCast] at this
  exact ⟨_, this⟩
theorem row_put {w : World} {base g n cap : Nat} {ok : Nat → Prop} {xs : List Int} (h : (Kd.int .i64).R 3 w base ok (.slice (some ⟨g, 0, none⟩) n cap) xs) (i : Nat) (x : Int) : (Kd.int .i64).R 3 (w.setCell ⟨g, i, none⟩ (.int .i64 x)) base ok (.slice (some ⟨g, 0, none⟩) n cap) (xs.set i x) := by
  have := Kd.R_putn (enc := Value.int .i64) h (i : Int) x
  rw [Int.toNat_natCast] at this
  exact this

set_option maxRecDepth 100000 in
set_option maxHeartbeats 1000000 in
theorem lent_any (A : Option Addr) (c : Nat) (l : List Int) (w : World) (hr : CI w A l) (hc : l.length ≤ c) (hl : l.length ≤ 2147483648) :
    Calls Tryd.prog 68 #[.slice A l.length c] w fun e w' => ∃ g cap, e = .returned (.slice (some ⟨g, 0, none⟩) l.length cap) ∧ Kd.R (Kd.int .i64) 3 w' w.heap.size (fun _ => True) (.slice (some ⟨g, 0, none⟩) (l.length + 2) cap) (l ++ [-7, -8]) ∧ Below w.heap.size w w' := by
  have HR := Aside0.mk hr
  clear hr
  obtain ⟨m, hm⟩ : ∃ m, l.length = m := ⟨_, rfl⟩
  rw [hm] at hc hl ⊢
  go_enter Tryd.func68, Tryd.ntmps68
  have hlen : (List.replicate ((m : Int) + 2).toNat (0 : Int)).length = m + 2 := by rw [List.length_replicate]; omega
  have hlr := Lib.hid (lent_row l)
  rw [hm] at hlr
  have hrep : List.replicate ((m : Int) + 2).toNat (0 : Int) = List.replicate (m + 2) 0 := by congr 1
  go_wp2_with (first | ((with_reducible refine gate_dst (N := 7) rfl ?_); refine Kd.R_make (Kd.int .i64) (w0 := w) w.heap.size 3 rfl rfl 33 (.tmp 6) (.tmp 6) rfl ((m : Int) + 2) ?hx ?hy Tryd.underlying33 (.int .i64 0) 8 infoInt rfl (by decide) (by decide) 0 (ok := fun _ => True) (okp := fun _ => True) rfl (fun _ _ => trivial) trivial (by omega) (by omega) (Below.refl _ _) (Nat.le_refl _) ?hh; (case hx => rfl); (case hy => rfl); intro v1 w1 ho hb hg hv; (obtain ⟨g, cap, rfl, hbg, hlg, _⟩ := Kd.R_form ho (by rw [hlen]; omega)); rw [hlen, hrep] at ho; have HO := Aside0.mk ho; have HB := Aside0.mk hb; clear ho hb hg hv; rw [hlen]; have hl2 := (Kd.R_reads' HO.out).2.1) | ((with_reducible refine gate_dst (N := 10) rfl ?_); refine Kd.R_copy (enc := Value.int .i64) (h1 := fun _ => rfl) (w0 := w) 0 w.heap.size rfl (.tmp 8) (.tmp 9) 33 33 3 rfl Tryd.underlying33 infoIntSz (.slice (some ⟨g, 0, none⟩) (m + 2) cap) (List.replicate (m + 2) 0) l A m c (fun _ => True) rfl rfl HO.out ?kr HB.out (HB.out.size) ?kh; (case kr => have := Kd.C_below HR.out HB.out; rw [hm] at this; exact this); intro w2 ho2 hb2 hg2; have HO2 := Aside0.mk ho2; have HB2 := Aside0.mk hb2; clear ho2 hb2 hg2; (obtain ⟨x0, hx0, hf0⟩ := row_cell HO2.out m (by omega)); (obtain ⟨x1, hx1, hf1⟩ := row_cell HO2.out (m + 1) (by omega))))
  go_ret
  refine ⟨g, cap, rfl, ?_, (HB2.out.setCell hbg _).setCell hbg _⟩
  have := row_put (row_put HO2.out m (-7)) (m + 1) (-8)
  rw [hlr.out] at this
  exact this

set_option maxRecDepth 100000 in
set_option maxHeartbeats 1000000 in
theorem back_any (g cap base c : Nat) (A : Option Addr) (l : List Int) (w : World) (ho : (Kd.int .i64).R 3 w base (fun _ => True) (.slice (some ⟨g, 0, none⟩) (l.length + 2) cap) (l ++ [-7, -8])) (hr : CI w A l) (hc : l.length ≤ c) (hl : l.length ≤ 2147483648) :
    Calls Tryd.prog 69 #[.slice (some ⟨g, 0, none⟩) l.length cap, .slice A l.length c] w fun e w' => e = .returned (.bool true) ∧ Below base w w' := by
  have hcap := (Kd.R_reads' ho).2.1
  have hbg : base ≤ g := Kd.R_base ho g rfl
  have hlt0 : g < w.heap.size := Kd.R_lt ho g rfl
  have hx : CI w (some ⟨g, 0, none⟩) l := by
    have h1 := Kd.R_take ho (m := l.length) (by simp)
    rw [List.take_left] at h1
    exact (Kd.R_reads' h1).2.2
  have CS := Lib.hid (same_calls (some ⟨g, 0, none⟩) cap A c l w hx (by omega) hr hc (by omega))
  have hx7 := Kd.R_celln (enc := Value.int .i64) 0 ho (l.length : Int) (by omega) (by omega)
  have hx8 := Kd.R_celln (enc := Value.int .i64) 0 ho ((l.length + 1 : Nat) : Int) (by omega) (by omega)
  have r7 : rdOf 0 (l ++ [-7, -8]) (l.length : Int) = -7 := by simp [rdOf]
  have r8 : rdOf 0 (l ++ [-7, -8]) ((l.length + 1 : Nat) : Int) = -8 := by
    unfold rdOf
    rw [Int.toNat_natCast, List.getD_eq_getElem?_getD, List.getElem?_append_right (by omega)]
    simp
  rw [r7, Int.toNat_natCast] at hx7
  rw [r8, Int.toNat_natCast] at hx8
  have HX7 := Aside0.mk hx7.1
  have HX8 := Aside0.mk hx8.1
  have HO := Aside0.mk ho
  obtain ⟨m, hm⟩ : ∃ m, l.length = m := ⟨_, rfl⟩
  rw [hm] at hc hl hcap HX7 HX8 HO CS ⊢
  clear ho hr hx hx7 hx8 r7 r8
  go_enter Tryd.func69, Tryd.ntmps69
  go_wp2_with (go_at_call 28; (with_reducible refine CS.out.mono ?_); rintro e w1 ⟨rfl, hb⟩; have HB := Aside0.mk (hb.mono (Nat.le_trans hbg (Nat.le_of_lt hlt0))); have HO1 := Aside0.mk (Kd.R_below HO.out hb); have hy7 := pw_cell_below hb HX7.out; have hy8 := pw_cell_below hb HX8.out; clear hb)
  go_loopw [7] (fun v wr => ∃ (i : Nat) (xs : List Int), i ≤ m + 2 ∧ v = .int .i64 i ∧ Aside0 ((Kd.int .i64).R 3 wr base (fun _ => True) (.slice (some ⟨g, 0, none⟩) (m + 2) cap) xs) ∧ Aside0 (Below base w wr)) (fun v _ => m + 2 - (intOf v).toNat)
  case atStart => exact ⟨0, _, by omega, rfl, HO1, HB⟩
  case round =>
    obtain ⟨i, xs, hi, rfl, HOr, HBr⟩ := hrel
    by_cases hlt : i < m + 2
    · have hlt1 : decide ((i : Int) < (m : Int) + 2) = true := decide_eq_true (by omega)
      obtain ⟨x0, hx0, hf0⟩ := row_cell HOr.out i hlt
      go_wp2
      go_roundw
      case rel => exact ⟨i + 1, xs.set i 65, by omega, by go_num, ⟨row_put HOr.out i 65⟩, ⟨HBr.out.setCell hbg _⟩⟩
      case measure => simp [intOf]; omega
    · have hlt1 : decide ((i : Int) < (m : Int) + 2) = false := decide_eq_false (by omega)
      go_wp2
      go_ret
      exact ⟨rfl, HBr.out⟩
end Go.Proofs.YtocijojjfcpaoaaDoor

/- What the program and the document answer, side by side: one contract for both. -/
set_option linter.unusedVariables false
set_option linter.unusedSimpArgs false
namespace Go.Proofs.YtocijojjfcpaoaaDoor
open Go.RowKit Go.Proofs.YtocijojjfcpaoaaDoorW.PrintWords Go.Proofs.YtocijojjfcpaoaaDoorW.PrintMore

abbrev Utf8 (w : World) : Prop := Lib.Utf8Tabs 4 5 w

theorem next_ref (s : ByteArray) (a : Int) (w : World) (hs : s.size ≤ 2147483648) :
    Calls Tryd.prog 53 #[.string s, .int .i64 a] w fun e w' => e = .returned (.tuple #[.int .i64 (Pl.next s a).1, .int .i64 (Pl.next s a).2.1, .bool (Pl.next s a).2.2]) ∧ Below w.heap.size w w' := by
  have h : PCharExact.colophonref01_Next.f 20 s a = some ((Pl.next s a).1, (Pl.next s a).2.1, (Pl.next s a).2.2) := by
    by_cases h : 0 ≤ a ∧ a < s.size
    · obtain ⟨i, rfl⟩ := Int.eq_ofNat_of_zero_le h.1
      have : Pl.next s i = (((Utf8.decode s i).1 : Int), ((Utf8.decode s i).2 : Int), Pl.good s i) := by rw [Pl.next, if_pos h]; rfl
      rw [this]
      exact PCharExact.next_eq s i 20 (by omega) (by omega) (by omega)
    · have : Pl.next s a = (0, 0, false) := by rw [Pl.next, if_neg h]
      rw [this]
      exact PCharExact.next_out s a 20 h (by omega)
  exact (PCharExact.colophonref01_Next.calls 20 s a _ _ _ w h).mono (fun e w' h => ⟨h.1, h.2.below⟩)

set_option maxRecDepth 100000 in
theorem clast_out (s : ByteArray) (a : Int) (w : World) (ha : ¬ (1 ≤ a ∧ a ≤ s.size)) (hs : s.size ≤ 140737488351232) :
    Calls Tryd.prog 48 #[.string s, .int .i64 a] w fun e w' => e = .returned (.tuple #[.int .i64 0, .int .i64 0, .bool false]) ∧ Below w.heap.size w w' := by
  by_cases h0 : a < 1
  · have d1 : decide (a < 1) = true := decide_eq_true h0
    go_enter Tryd.func48, Tryd.ntmps48
    go_wp2
    go_ret3
    exact ⟨rfl, Below.refl _ _⟩
  · have d1 : decide (a < 1) = false := decide_eq_false h0
    have d2 : decide ((s.size : Int) < a) = true := decide_eq_true (by omega)
    go_enter Tryd.func48, Tryd.ntmps48
    go_wp2
    go_ret3
    exact ⟨rfl, Below.refl _ _⟩

theorem extract_all_ (s : ByteArray) : s.extract 0 s.size = s := by
  apply ByteArray.ext
  rw [ByteArray.data_extract]
  exact Array.extract_size

theorem last_both (s : ByteArray) (a : Int) (hs : s.size ≤ 2147483647) : ∃ (r1 r2 : Int) (r3 : Bool),
    (∀ w, Utf8 w → Calls Tryd.prog 48 #[.string s, .int .i64 a] w fun e w' => e = .returned (.tuple #[.int .i64 r1, .int .i64 r2, .bool r3]) ∧ Below w.heap.size w w') ∧
    (∀ w, Calls Tryd.prog 67 #[.string s, .int .i64 a] w fun e w' => e = .returned (.tuple #[.int .i64 r1, .int .i64 r2, .bool r3]) ∧ Below w.heap.size w w') := by
  by_cases h : 1 ≤ a ∧ a ≤ s.size
  · obtain ⟨e, rfl⟩ := Int.eq_ofNat_of_zero_le (show 0 ≤ a by omega)
    obtain ⟨p, hp, hlt, hend, hf⟩ := PCharExact.last_eq s e (s.size + 40) (by omega) (by omega) (by omega) (by omega)
    generalize ht : s.extract 0 e = t at hp hlt hend hf
    have hd := last_at hp hlt
    have hall : t.extract 0 t.size = t := extract_all_ t
    rw [hend, hall] at hd
    have hb := Pl.bad_iff t p hlt
    have hpos := Pl.dec_pos t p hlt
    have hg : (!(((Utf8.decode t p).1 : Int) == 65533) || decide (1 < ((Utf8.decode t p).2 : Int))) = Pl.good t p := by
      unfold Pl.good
      rw [Bool.eq_iff_iff, Bool.or_eq_true, Bool.not_eq_true', beq_eq_false_iff_ne, decide_eq_true_eq, decide_eq_true_eq]
      constructor
      · intro h
        apply Classical.byContradiction
        intro hk
        have := hb.2 hk
        omega
      · intro hk
        apply Classical.byContradiction
        intro hn
        exact hb.1 (by omega) hk
    refine ⟨_, _, _, fun w hu => ?_, fun w => PCharExact.colophonref01_Last.calls _ s e _ _ _ w hf⟩
    rw [← hg]
    exact last_in s e _ _ w (by omega) (by omega) (by omega) (by rw [ht]; exact hd) (Pl.dec_point t p hlt) (Pl.dec_le4 t p hlt) hu
  · exact ⟨0, 0, false, fun w hu => clast_out s a w h (by omega), fun w => PCharExact.colophonref01_Last.calls 1 s a _ _ _ w (PCharExact.last_out s a 1 h (by omega))⟩

theorem points_ref (s : ByteArray) (w : World) (hs : s.size ≤ 2147483648) :
    Calls Tryd.prog 54 #[.string s] w fun e w' => ∃ v, e = .returned v ∧ Kd.R (Kd.int .i64) 3 w' w.heap.size (fun _ => True) v (Pl.pts (Pl.runes s 0)) ∧ Below w.heap.size w w' :=
  PCharExact.colophonref01_Points.calls (s.size + 20) s _ w (PCharExact.points_eq s _ hs (by omega))
theorem places_ref (s : ByteArray) (w : World) (hs : s.size ≤ 2147483648) :
    Calls Tryd.prog 71 #[.string s] w fun e w' => ∃ v, e = .returned v ∧ Kd.R (Kd.int .i64) 3 w' w.heap.size (fun _ => True) v (Pl.plcs (Pl.runes s 0)) ∧ Below w.heap.size w w' :=
  PCharExact.colophonref01_Places.calls (s.size + 20) s _ w (PCharExact.places_eq s _ hs (by omega))
theorem count_ref (s : ByteArray) (w : World) (hs : s.size ≤ 2147483648) :
    Calls Tryd.prog 72 #[.string s] w fun e w' => e = .returned (.int .i64 (Pl.runes s 0).length) ∧ Below w.heap.size w w' :=
  PCharExact.colophonref01_Count.calls (s.size + 20) s _ w (PCharExact.count_eq s _ hs (by omega))
theorem valid_ref (s : ByteArray) (w : World) (hs : s.size ≤ 2147483648) :
    Calls Tryd.prog 60 #[.string s] w fun e w' => e = .returned (.bool (Pl.valid s 0)) ∧ Below w.heap.size w w' :=
  (PCharExact.colophonref01_Valid.calls (s.size + 20) s _ w (PCharExact.valid_eq s _ hs (by omega))).mono (fun e w' h => ⟨h.1, h.2.below⟩)
theorem whole_ref (s : ByteArray) (w : World) (hs : s.size ≤ 2147483648) :
    Calls Tryd.prog 73 #[.string s] w fun e w' => e = .returned (.int .i64 (Pl.whole s)) ∧ Below w.heap.size w w' :=
  (PCharExact.colophonref01_Whole.calls 20 s _ w (PCharExact.whole_eq s _ hs (by omega))).mono (fun e w' h => ⟨h.1, h.2.below⟩)
theorem text_ref (A : Option Addr) (c : Nat) (l : List Int) (w : World) (hr : CI w A l) (hc : l.length ≤ c) (hl : l.length ≤ 2147483648) :
    Calls Tryd.prog 70 #[.slice A l.length c] w fun e w' => e = .returned (.string ⟨(Pl.textOf l).toArray⟩) ∧ Below w.heap.size w w' :=
  PCharExact.colophonref01_Text.calls (l.length + 4) A c l _ w hr hc (PCharExact.text_eq l _ hl (by omega))

/-! What came out: the program's lists, each of its own; the document's, to be read. -/
structure Told (w : World) (base : Nat) (v : Value) (ls : List (List Int)) (vs : List Value) : Prop where
  own : w.ownsRow base 33 1 v ls.length vs
  len : vs.length = ls.length
  el : ∀ (i : Nat) u l, vs[i]? = some u → ls[i]? = some l → (Kd.int .i64).R 3 w base (fun _ => True) u l
  apart : ∀ (i j : Nat) u u' k, i < j → vs[i]? = some u → vs[j]? = some u' → u.ownBlock = some k → u'.ownBlock ≠ some k
def Want (w : World) (base : Nat) (t h : Value) (ls : List (List Int)) : Prop :=
  (Kd.slice 3 (Kd.int .i64)).R 33 w base (fun k => True ∧ some k ≠ t.ownBlock) h ls

theorem Told.nil (w : World) (base : Nat) : Told w base (.slice none 0 0) [] [] :=
  ⟨⟨rfl, .inl ⟨rfl, rfl⟩⟩, rfl, fun i u l h => by simp at h, fun i j u u' k _ h => by simp at h⟩
theorem Want.nil (w : World) (base : Nat) (t : Value) : Want w base t (.slice none 0 0) [] := Kd.R_nil _ _ _ _ _

theorem own_below {w w1 : World} {base : Nat} {e : TypeId} {size n : Nat} {v : Value} {xs : List Value} (h : w.ownsRow base e size v n xs) (hb : Below w.heap.size w w1) : w1.ownsRow base e size v n xs :=
  own_move h (fun k hk => hb.block k (own_lt h k hk))
theorem Told.below {w w1 : World} {base : Nat} {v : Value} {ls : List (List Int)} {vs : List Value} (h : Told w base v ls vs) (hb : Below w.heap.size w w1) : Told w1 base v ls vs :=
  ⟨own_below h.own hb, h.len, fun i u l hu hl => Kd.R_below (h.el i u l hu hl) hb, h.apart⟩
theorem Want.below {w w1 : World} {base : Nat} {t v : Value} {ls : List (List Int)} (h : Want w base t v ls) (hb : Below w.heap.size w w1) : Want w1 base t v ls := Kd.R_below h hb

/-- One more list is told; the header's block is written, or a new one is made. -/
theorem Told.push {W w1 : World} {base : Nat} {t t1 u : Value} {ls : List (List Int)} {vs : List Value} {l : List Int} (h : Told W base t ls vs) (hu : (Kd.int .i64).R 3 W base (fun _ => True) u l)
    (hf : ∀ k, u.ownBlock = some k → ∀ u' ∈ vs, u'.ownBlock ≠ some k) (ho : w1.ownsRow base 33 1 t1 (ls.length + 1) (vs ++ [u])) (hg : W.grownBy w1 t.ownBlock) : Told w1 base t1 (ls ++ [l]) (vs ++ [u]) := by
  have hty := own_typed h.own
  have step : ∀ {u l}, (Kd.int .i64).R 3 W base (fun _ => True) u l → (Kd.int .i64).R 3 w1 base (fun _ => True) u l := fun hr => Kd.R_over' hr hty (by decide) hg
  have hn := h.len
  refine ⟨by rw [List.length_append]; exact ho, by simp [hn], fun i u' l' h1 h2 => ?_, fun i j u1 u2 k hij h1 h2 hk => ?_⟩
  · by_cases hi : i < vs.length
    · rw [List.getElem?_append_left hi] at h1
      rw [List.getElem?_append_left (by omega)] at h2
      exact step (h.el i u' l' h1 h2)
    · rw [List.getElem?_append_right (by omega)] at h1
      rw [List.getElem?_append_right (by omega)] at h2
      have hi2 := (List.getElem?_eq_some_iff.1 h1).1
      simp only [List.length_singleton] at hi2
      rw [show i - vs.length = 0 by omega] at h1
      rw [show i - ls.length = 0 by omega] at h2
      simp only [List.getElem?_cons_zero, Option.some.injEq] at h1 h2
      subst h1; subst h2
      exact step hu
  · have hj2 := (List.getElem?_eq_some_iff.1 h2).1
    rw [List.length_append, List.length_singleton] at hj2
    rw [List.getElem?_append_left (by omega)] at h1
    by_cases hj : j < vs.length
    · rw [List.getElem?_append_left hj] at h2
      exact h.apart i j u1 u2 k hij h1 h2 hk
    · rw [List.getElem?_append_right (by omega), show j - vs.length = 0 by omega] at h2
      simp only [List.getElem?_cons_zero, Option.some.injEq] at h2
      subst h2
      intro he
      exact hf k he u1 (List.mem_of_getElem? h1) hk
/-- Another row of lists has been written. -/
theorem Told.other {W w1 : World} {base : Nat} {t h : Value} {ls : List (List Int)} {vs : List Value} (ht : Told W base t ls vs) (hty : ∀ k, h.ownBlock = some k → ∃ cells, W.heap[k]? = some (.cells cells 33 (0, 0))) (hne : ∀ k, t.ownBlock = some k → some k ≠ h.ownBlock) (hg : W.grownBy w1 h.ownBlock) : Told w1 base t ls vs :=
  ⟨own_move ht.own (fun k hk => hg.block k (own_lt ht.own k hk) (hne k hk)), ht.len, fun i u l h1 h2 => Kd.R_over' (ht.el i u l h1 h2) hty (by decide) hg, ht.apart⟩
theorem Want.after {W w1 : World} {base : Nat} {t t1 h : Value} {ls : List (List Int)} (hw : Want W base t h ls) (hg : W.grownBy w1 t.ownBlock) (hat : t1.ownBlock = t.ownBlock ∨ ∃ b, t1.ownBlock = some b ∧ W.heap.size ≤ b) : Want w1 base t1 h ls := Kd.R_after hw hg hat
end Go.Proofs.YtocijojjfcpaoaaDoor

/- one: a call of the script, on both. -/
set_option linter.unusedVariables false
set_option linter.unusedSimpArgs false
namespace Go.Proofs.YtocijojjfcpaoaaDoor
open Go.RowKit Go.Proofs.YtocijojjfcpaoaaDoorW.PrintWords Go.Proofs.YtocijojjfcpaoaaDoorW.PrintMore

structure OneIn (w : World) (base : Nat) (s : ByteArray) (A : Option Addr) (c : Nat) (l : List Int) (t h : Value) (ls : List (List Int)) (vs : List Value) : Prop where
  told : Told w base t ls vs
  want : Want w base t h ls
  lo : base ≤ w.heap.size
  six : 6 ≤ base
  utf : Utf8 w
  size : s.size ≤ 2147483647
  rd : CI w A l
  cap : l.length ≤ c
  len : l.length ≤ 2147483647
  many : ls.length ≤ 2147483647
  most : ∀ x ∈ ls, x.length ≤ 2147483648
def OnePost (base : Nat) (w : World) (ls : List (List Int)) (e : Ending) (w' : World) : Prop :=
  ∃ t h ls' vs', e = .returned (.tuple #[t, h, .bool true]) ∧ Told w' base t ls' vs' ∧ Want w' base t h ls' ∧ ls'.length ≤ ls.length + 1 ∧ (∀ x ∈ ls', x.length ≤ 2147483648) ∧ Below base w w'

theorem heap_new_ (w : World) (o : Obj) : (w.alloc o).heap[w.heap.size]? = some o := by
  show (w.heap.push o)[w.heap.size]? = _
  rw [Array.getElem?_push, if_pos rfl]
theorem box_cells {w w1 : World} {a b c d : Value} {T : TypeId} (hb : Below (w.alloc (.cells #[a, b, c, d] T)).heap.size (w.alloc (.cells #[a, b, c, d] T)) w1) :
    w1.cell? ⟨w.heap.size, 0, none⟩ = some a ∧ w1.cell? ⟨w.heap.size, 1, none⟩ = some b ∧ w1.cell? ⟨w.heap.size, 2, none⟩ = some c ∧ w1.cell? ⟨w.heap.size, 3, none⟩ = some d := by
  have hz : w.heap.size < (w.alloc (.cells #[a, b, c, d] T)).heap.size := by rw [World.size_alloc]; omega
  have h : (w.alloc (.cells #[a, b, c, d] T)).heap[w.heap.size]? = some (.cells #[a, b, c, d] T) := heap_new_ w _
  exact ⟨(hb.cell (p := ⟨w.heap.size, 0, none⟩) hz).trans (cell_of_row _ _ _ _ _ _ h), (hb.cell (p := ⟨w.heap.size, 1, none⟩) hz).trans (cell_of_row _ _ _ _ _ _ h), (hb.cell (p := ⟨w.heap.size, 2, none⟩) hz).trans (cell_of_row _ _ _ _ _ _ h), (hb.cell (p := ⟨w.heap.size, 3, none⟩) hz).trans (cell_of_row _ _ _ _ _ _ h)⟩

theorem OneIn.same {w w' : World} {base : Nat} {s : ByteArray} {A : Option Addr} {c : Nat} {l : List Int} {t h : Value} {ls : List (List Int)} {vs : List Value} (H : OneIn w base s A c l t h ls vs) (hb : Below w.heap.size w w') (b : Bool) (hbt : b = true) : OnePost base w ls (.returned (.tuple #[t, h, .bool b])) w' :=
  ⟨t, h, ls, vs, by rw [hbt], H.told.below hb, H.want.below hb, by omega, H.most, hb.mono H.lo⟩

set_option maxRecDepth 100000 in
set_option maxHeartbeats 1000000 in
theorem one_1 (w : World) (base : Nat) (s : ByteArray) (at_ : Int) (A : Option Addr) (c : Nat) (l : List Int) (t h : Value) (ls : List (List Int)) (vs : List Value) (H : OneIn w base s A c l t h ls vs) :
    Calls Tryd.prog 50 #[.agg #[.int .i64 1, .string s, .int .i64 at_, .slice A l.length c], t, h] w fun e w' => OnePost base w ls e w' := by
  have hs := H.size
  obtain ⟨r, hr⟩ : ∃ r, Pl.next s at_ = r := ⟨_, rfl⟩
  obtain ⟨r1, r2, r3⟩ := r
  have C1 := fun w => next_any s at_ w (by omega)
  have C2 := fun w => next_ref s at_ w (by omega)
  rw [hr] at C1 C2
  have CP := Lib.hid C1
  have CR := Lib.hid C2
  clear C1 C2 hr
  go_enter Tryd.func50, Tryd.ntmps50
  go_wp2_with (first | (go_at_call 26; (with_reducible refine (CP.out _).mono ?_); rintro e w1 ⟨rfl, hb⟩; (obtain ⟨x0, x1, x2, x3⟩ := box_cells hb); have HB1 := Aside0.mk ((below_alloc (Below.refl w.heap.size w) _).trans (hb.mono (by rw [World.size_alloc]; omega))); clear hb) | (go_at_call 53; (with_reducible refine (CR.out _).mono ?_); rintro e w2 ⟨rfl, hb⟩; have HB2 := Aside0.mk (HB1.out.trans (hb.mono HB1.out.size)); clear hb))
  trace_state
  go_ret3
  exact H.same HB2.out _ rfl
end Go.Proofs.YtocijojjfcpaoaaDoor

/- one: Last, Count, Valid, Whole; no call at all -/
set_option linter.unusedVariables false
set_option linter.unusedSimpArgs false
namespace Go.Proofs.YtocijojjfcpaoaaDoor
open Go.RowKit Go.Proofs.YtocijojjfcpaoaaDoorW.PrintWords Go.Proofs.YtocijojjfcpaoaaDoorW.PrintMore

set_option maxRecDepth 100000 in
set_option maxHeartbeats 2000000 in
theorem one_2 (w : World) (base : Nat) (s : ByteArray) (at_ : Int) (A : Option Addr) (c : Nat) (l : List Int) (t h : Value) (ls : List (List Int)) (vs : List Value) (H : OneIn w base s A c l t h ls vs) :
    Calls Tryd.prog 50 #[.agg #[.int .i64 2, .string s, .int .i64 at_, .slice A l.length c], t, h] w fun e w' => OnePost base w ls e w' := by
  have hs := H.size
  have h6 : 6 ≤ w.heap.size := Nat.le_trans H.six H.lo
  obtain ⟨r1, r2, r3, C1, C2⟩ := last_both s at_ H.size
  have CP := Lib.hid C1
  have CR := Lib.hid C2
  clear C1 C2
  go_enter Tryd.func50, Tryd.ntmps50
  go_wp2_with (first | (go_at_call 48; (with_reducible refine (CP.out _ (utf8_below' H.utf (below_alloc (Below.refl w.heap.size w) _) h6)).mono ?_); rintro e w1 ⟨rfl, hb⟩; (obtain ⟨x0, x1, x2, x3⟩ := box_cells hb); have HB1 := Aside0.mk ((below_alloc (Below.refl w.heap.size w) _).trans (hb.mono (by rw [World.size_alloc]; omega))); clear hb) | (go_at_call 67; (with_reducible refine (CR.out _).mono ?_); rintro e w2 ⟨rfl, hb⟩; have HB2 := Aside0.mk (HB1.out.trans (hb.mono HB1.out.size)); clear hb))
  go_ret3
  exact H.same HB2.out _ rfl

set_option maxRecDepth 100000 in
set_option maxHeartbeats 2000000 in
theorem one_6 (w : World) (base : Nat) (s : ByteArray) (at_ : Int) (A : Option Addr) (c : Nat) (l : List Int) (t h : Value) (ls : List (List Int)) (vs : List Value) (H : OneIn w base s A c l t h ls vs) :
    Calls Tryd.prog 50 #[.agg #[.int .i64 6, .string s, .int .i64 at_, .slice A l.length c], t, h] w fun e w' => OnePost base w ls e w' := by
  have hs := H.size
  have h6 : 6 ≤ w.heap.size := Nat.le_trans H.six H.lo
  obtain ⟨r, hr⟩ : ∃ r : Int, ((Pl.runes s 0).length : Int) = r := ⟨_, rfl⟩
  have CP : Hid (∀ w', w'.cell? ⟨w.heap.size, 1, none⟩ = some (.string s) ∧ Hid (Below (w.heap.size + 1) (w.alloc (.cells #[.int .i64 6, .string s, .int .i64 at_, .slice A l.length c] 47)) w' ∧ Below w.heap.size w w') → Calls Tryd.prog 45 #[.string s] w' fun e w'' => e = .returned (.int .i64 r) ∧ (w''.cell? ⟨w.heap.size, 1, none⟩ = some (.string s) ∧ Hid (Below (w.heap.size + 1) (w.alloc (.cells #[.int .i64 6, .string s, .int .i64 at_, .slice A l.length c] 47)) w'' ∧ Below w.heap.size w w''))) := Lib.hid fun w' ⟨h1, h2x⟩ => by
    have h2 := Lib.hid h2x.out.2
    have hz := h2x.out.1.size
    rw [World.size_alloc] at hz
    have c1 := count_any s w' (by omega)
    rw [hr] at c1
    refine c1.mono ?_
    rintro e w'' ⟨rfl, hb⟩
    exact ⟨rfl, (hb.cell (p := ⟨w.heap.size, 1, none⟩) (show w.heap.size < _ by omega)).trans h1, Lib.hid ⟨h2x.out.1.trans (hb.mono (by omega)), h2.out.trans (hb.mono (by omega))⟩⟩
  have CR : Hid (∀ w', w'.cell? ⟨w.heap.size, 1, none⟩ = some (.string s) ∧ Hid (Below (w.heap.size + 1) (w.alloc (.cells #[.int .i64 6, .string s, .int .i64 at_, .slice A l.length c] 47)) w' ∧ Below w.heap.size w w') → Calls Tryd.prog 72 #[.string s] w' fun e w'' => e = .returned (.int .i64 r) ∧ (w''.cell? ⟨w.heap.size, 1, none⟩ = some (.string s) ∧ Hid (Below (w.heap.size + 1) (w.alloc (.cells #[.int .i64 6, .string s, .int .i64 at_, .slice A l.length c] 47)) w'' ∧ Below w.heap.size w w''))) := Lib.hid fun w' ⟨h1, h2x⟩ => by
    have h2 := Lib.hid h2x.out.2
    have hz := h2x.out.1.size
    rw [World.size_alloc] at hz
    have c1 := count_ref s w' (by omega)
    rw [hr] at c1
    refine c1.mono ?_
    rintro e w'' ⟨rfl, hb⟩
    exact ⟨rfl, (hb.cell (p := ⟨w.heap.size, 1, none⟩) (show w.heap.size < _ by omega)).trans h1, Lib.hid ⟨h2x.out.1.trans (hb.mono (by omega)), h2.out.trans (hb.mono (by omega))⟩⟩
  clear hr
  go_enter Tryd.func50, Tryd.ntmps50
  go_wp2_with (fail)
  refine wp_region_quiet (C := fun w' => w'.cell? ⟨w.heap.size, 1, none⟩ = some (.string s) ∧ Hid (Below (w.heap.size + 1) (w.alloc (.cells #[.int .i64 6, .string s, .int .i64 at_, .slice A l.length c] 47)) w' ∧ Below w.heap.size w w')) (by kernel_rfl) (by kernel_rfl) ⟨cell_of_row _ _ _ _ _ _ (heap_new_ w _), Lib.hid ⟨(Below.refl _ _).drew, (below_alloc (Below.refl w.heap.size w) _).drew⟩⟩ ?_
  rw [List.toList_toArray]
  repeat (first
    | (go_big_quiet_skip; try simp only [Act.put, List.setIfInBounds_toArray, List.set_cons_zero, List.set_cons_succ])
    | (refine BigFrame.wpQuiet_want (by kernel_rfl) (fun K hK => ?_)
       apply Exists.intro
       refine ⟨fun wq hwq => ?_, hK _ ?_⟩
       · have hcq := hwq.1
         unfold Oper.quietAt Oper.quietUpon
         go_simp
         first | done | rfl | exact CP.out _ hwq | exact CR.out _ hwq
       clear hK K
       simp only [Act.put, List.setIfInBounds_toArray, List.set_cons_zero, List.set_cons_succ]))
  refine wpQuiet_nil ?_
  rintro w2 ⟨_, hb2⟩
  have HB2 := Lib.hid hb2.out.2
  clear hb2
  go_wp2_with (fail)
  go_ret3
  exact H.same HB2.out _ (by simp)

set_option maxRecDepth 100000 in
set_option maxHeartbeats 2000000 in
theorem one_7 (w : World) (base : Nat) (s : ByteArray) (at_ : Int) (A : Option Addr) (c : Nat) (l : List Int) (t h : Value) (ls : List (List Int)) (vs : List Value) (H : OneIn w base s A c l t h ls vs) :
    Calls Tryd.prog 50 #[.agg #[.int .i64 7, .string s, .int .i64 at_, .slice A l.length c], t, h] w fun e w' => OnePost base w ls e w' := by
  have hs := H.size
  have h6 : 6 ≤ w.heap.size := Nat.le_trans H.six H.lo
  obtain ⟨r, hr⟩ : ∃ r : Bool, Pl.valid s 0 = r := ⟨_, rfl⟩
  have CP : Hid (∀ w', w'.cell? ⟨w.heap.size, 1, none⟩ = some (.string s) ∧ Hid (Below (w.heap.size + 1) (w.alloc (.cells #[.int .i64 7, .string s, .int .i64 at_, .slice A l.length c] 47)) w' ∧ Below w.heap.size w w') → Calls Tryd.prog 47 #[.string s] w' fun e w'' => e = .returned (.bool r) ∧ (w''.cell? ⟨w.heap.size, 1, none⟩ = some (.string s) ∧ Hid (Below (w.heap.size + 1) (w.alloc (.cells #[.int .i64 7, .string s, .int .i64 at_, .slice A l.length c] 47)) w'' ∧ Below w.heap.size w w''))) := Lib.hid fun w' ⟨h1, h2x⟩ => by
    have h2 := Lib.hid h2x.out.2
    have hz := h2x.out.1.size
    rw [World.size_alloc] at hz
    have c1 := valid_any s w' (by omega) (utf8_below' H.utf h2.out h6)
    rw [hr] at c1
    refine c1.mono ?_
    rintro e w'' ⟨rfl, hb⟩
    exact ⟨rfl, (hb.cell (p := ⟨w.heap.size, 1, none⟩) (show w.heap.size < _ by omega)).trans h1, Lib.hid ⟨h2x.out.1.trans (hb.mono (by omega)), h2.out.trans (hb.mono (by omega))⟩⟩
  have CR : Hid (∀ w', w'.cell? ⟨w.heap.size, 1, none⟩ = some (.string s) ∧ Hid (Below (w.heap.size + 1) (w.alloc (.cells #[.int .i64 7, .string s, .int .i64 at_, .slice A l.length c] 47)) w' ∧ Below w.heap.size w w') → Calls Tryd.prog 60 #[.string s] w' fun e w'' => e = .returned (.bool r) ∧ (w''.cell? ⟨w.heap.size, 1, none⟩ = some (.string s) ∧ Hid (Below (w.heap.size + 1) (w.alloc (.cells #[.int .i64 7, .string s, .int .i64 at_, .slice A l.length c] 47)) w'' ∧ Below w.heap.size w w''))) := Lib.hid fun w' ⟨h1, h2x⟩ => by
    have h2 := Lib.hid h2x.out.2
    have hz := h2x.out.1.size
    rw [World.size_alloc] at hz
    have c1 := valid_ref s w' (by omega)
    rw [hr] at c1
    refine c1.mono ?_
    rintro e w'' ⟨rfl, hb⟩
    exact ⟨rfl, (hb.cell (p := ⟨w.heap.size, 1, none⟩) (show w.heap.size < _ by omega)).trans h1, Lib.hid ⟨h2x.out.1.trans (hb.mono (by omega)), h2.out.trans (hb.mono (by omega))⟩⟩
  clear hr
  go_enter Tryd.func50, Tryd.ntmps50
  go_wp2_with (fail)
  refine wp_region_quiet (C := fun w' => w'.cell? ⟨w.heap.size, 1, none⟩ = some (.string s) ∧ Hid (Below (w.heap.size + 1) (w.alloc (.cells #[.int .i64 7, .string s, .int .i64 at_, .slice A l.length c] 47)) w' ∧ Below w.heap.size w w')) (by kernel_rfl) (by kernel_rfl) ⟨cell_of_row _ _ _ _ _ _ (heap_new_ w _), Lib.hid ⟨(Below.refl _ _).drew, (below_alloc (Below.refl w.heap.size w) _).drew⟩⟩ ?_
  rw [List.toList_toArray]
  repeat (first
    | (go_big_quiet_skip; try simp only [Act.put, List.setIfInBounds_toArray, List.set_cons_zero, List.set_cons_succ])
    | (refine BigFrame.wpQuiet_want (by kernel_rfl) (fun K hK => ?_)
       apply Exists.intro
       refine ⟨fun wq hwq => ?_, hK _ ?_⟩
       · have hcq := hwq.1
         unfold Oper.quietAt Oper.quietUpon
         go_simp
         first | done | rfl | exact CP.out _ hwq | exact CR.out _ hwq
       clear hK K
       simp only [Act.put, List.setIfInBounds_toArray, List.set_cons_zero, List.set_cons_succ]))
  refine wpQuiet_nil ?_
  rintro w2 ⟨_, hb2⟩
  have HB2 := Lib.hid hb2.out.2
  clear hb2
  go_wp2_with (fail)
  go_ret3
  exact H.same HB2.out _ (by simp)

set_option maxRecDepth 100000 in
set_option maxHeartbeats 2000000 in
theorem one_8 (w : World) (base : Nat) (s : ByteArray) (at_ : Int) (A : Option Addr) (c : Nat) (l : List Int) (t h : Value) (ls : List (List Int)) (vs : List Value) (H : OneIn w base s A c l t h ls vs) :
    Calls Tryd.prog 50 #[.agg #[.int .i64 8, .string s, .int .i64 at_, .slice A l.length c], t, h] w fun e w' => OnePost base w ls e w' := by
  have hs := H.size
  have h6 : 6 ≤ w.heap.size := Nat.le_trans H.six H.lo
  obtain ⟨r, hr⟩ : ∃ r : Int, (Pl.whole s : Int) = r := ⟨_, rfl⟩
  have CP : Hid (∀ w', w'.cell? ⟨w.heap.size, 1, none⟩ = some (.string s) ∧ Hid (Below (w.heap.size + 1) (w.alloc (.cells #[.int .i64 8, .string s, .int .i64 at_, .slice A l.length c] 47)) w' ∧ Below w.heap.size w w') → Calls Tryd.prog 25 #[.string s] w' fun e w'' => e = .returned (.int .i64 r) ∧ (w''.cell? ⟨w.heap.size, 1, none⟩ = some (.string s) ∧ Hid (Below (w.heap.size + 1) (w.alloc (.cells #[.int .i64 8, .string s, .int .i64 at_, .slice A l.length c] 47)) w'' ∧ Below w.heap.size w w''))) := Lib.hid fun w' ⟨h1, h2x⟩ => by
    have h2 := Lib.hid h2x.out.2
    have hz := h2x.out.1.size
    rw [World.size_alloc] at hz
    have c1 := whole_any s w' (by omega) (utf8_below' H.utf h2.out h6) (Nat.le_trans h6 h2.out.size)
    rw [hr] at c1
    refine c1.mono ?_
    rintro e w'' ⟨rfl, hb⟩
    exact ⟨rfl, (hb.cell (p := ⟨w.heap.size, 1, none⟩) (show w.heap.size < _ by omega)).trans h1, Lib.hid ⟨h2x.out.1.trans (hb.mono (by omega)), h2.out.trans (hb.mono (by omega))⟩⟩
  have CR : Hid (∀ w', w'.cell? ⟨w.heap.size, 1, none⟩ = some (.string s) ∧ Hid (Below (w.heap.size + 1) (w.alloc (.cells #[.int .i64 8, .string s, .int .i64 at_, .slice A l.length c] 47)) w' ∧ Below w.heap.size w w') → Calls Tryd.prog 73 #[.string s] w' fun e w'' => e = .returned (.int .i64 r) ∧ (w''.cell? ⟨w.heap.size, 1, none⟩ = some (.string s) ∧ Hid (Below (w.heap.size + 1) (w.alloc (.cells #[.int .i64 8, .string s, .int .i64 at_, .slice A l.length c] 47)) w'' ∧ Below w.heap.size w w''))) := Lib.hid fun w' ⟨h1, h2x⟩ => by
    have h2 := Lib.hid h2x.out.2
    have hz := h2x.out.1.size
    rw [World.size_alloc] at hz
    have c1 := whole_ref s w' (by omega)
    rw [hr] at c1
    refine c1.mono ?_
    rintro e w'' ⟨rfl, hb⟩
    exact ⟨rfl, (hb.cell (p := ⟨w.heap.size, 1, none⟩) (show w.heap.size < _ by omega)).trans h1, Lib.hid ⟨h2x.out.1.trans (hb.mono (by omega)), h2.out.trans (hb.mono (by omega))⟩⟩
  clear hr
  go_enter Tryd.func50, Tryd.ntmps50
  go_wp2_with (fail)
  refine wp_region_quiet (C := fun w' => w'.cell? ⟨w.heap.size, 1, none⟩ = some (.string s) ∧ Hid (Below (w.heap.size + 1) (w.alloc (.cells #[.int .i64 8, .string s, .int .i64 at_, .slice A l.length c] 47)) w' ∧ Below w.heap.size w w')) (by kernel_rfl) (by kernel_rfl) ⟨cell_of_row _ _ _ _ _ _ (heap_new_ w _), Lib.hid ⟨(Below.refl _ _).drew, (below_alloc (Below.refl w.heap.size w) _).drew⟩⟩ ?_
  rw [List.toList_toArray]
  repeat (first
    | (go_big_quiet_skip; try simp only [Act.put, List.setIfInBounds_toArray, List.set_cons_zero, List.set_cons_succ])
    | (refine BigFrame.wpQuiet_want (by kernel_rfl) (fun K hK => ?_)
       apply Exists.intro
       refine ⟨fun wq hwq => ?_, hK _ ?_⟩
       · have hcq := hwq.1
         unfold Oper.quietAt Oper.quietUpon
         go_simp
         first | done | rfl | exact CP.out _ hwq | exact CR.out _ hwq
       clear hK K
       simp only [Act.put, List.setIfInBounds_toArray, List.set_cons_zero, List.set_cons_succ]))
  refine wpQuiet_nil ?_
  rintro w2 ⟨_, hb2⟩
  have HB2 := Lib.hid hb2.out.2
  clear hb2
  go_wp2_with (fail)
  go_ret3
  exact H.same HB2.out _ (by simp)

set_option maxRecDepth 100000 in
set_option maxHeartbeats 2000000 in
theorem one_0 (w : World) (base : Nat) (k : Int) (s : ByteArray) (at_ : Int) (A : Option Addr) (c : Nat) (l : List Int) (t h : Value) (ls : List (List Int)) (vs : List Value) (H : OneIn w base s A c l t h ls vs) (hk : ¬ (1 ≤ k ∧ k ≤ 8)) :
    Calls Tryd.prog 50 #[.agg #[.int .i64 k, .string s, .int .i64 at_, .slice A l.length c], t, h] w fun e w' => OnePost base w ls e w' := by
  have hs := H.size
  have h6 : 6 ≤ w.heap.size := Nat.le_trans H.six H.lo
  have d1 : (k == 1) = false := by rw [beq_eq_false_iff_ne]; omega
  have d2 : (k == 2) = false := by rw [beq_eq_false_iff_ne]; omega
  have d3 : (k == 3) = false := by rw [beq_eq_false_iff_ne]; omega
  have d4 : (k == 4) = false := by rw [beq_eq_false_iff_ne]; omega
  have d5 : (k == 5) = false := by rw [beq_eq_false_iff_ne]; omega
  have d6 : (k == 6) = false := by rw [beq_eq_false_iff_ne]; omega
  have d7 : (k == 7) = false := by rw [beq_eq_false_iff_ne]; omega
  have d8 : (k == 8) = false := by rw [beq_eq_false_iff_ne]; omega
  go_enter Tryd.func50, Tryd.ntmps50
  go_wp2
  go_ret3
  exact H.same (below_alloc (Below.refl w.heap.size w) _) _ rfl
end Go.Proofs.YtocijojjfcpaoaaDoor

/- one: Points, Places -/
set_option linter.unusedVariables false
set_option linter.unusedSimpArgs false
namespace Go.Proofs.YtocijojjfcpaoaaDoor
open Go.RowKit Go.Proofs.YtocijojjfcpaoaaDoorW.PrintWords Go.Proofs.YtocijojjfcpaoaaDoorW.PrintMore

theorem infoInts : (Tryd.prog.info? 33).map (fun i => (i.zero, i.size, i.bytes)) = some (some (.slice none 0 0), 1, 24) := by kernel_rfl
theorem R_typed_ok {w : World} {base : Nat} {v : Value} {xs : List Int} (h : (Kd.int .i64).R 3 w base (fun _ => True) v xs) : (Kd.int .i64).R 3 w base (fun k => ∃ cells, w.heap[k]? = some (.cells cells 3 (0, 0))) v xs :=
  Kd.R_mono (Kd.R_bound h) (fun k hk => by
    obtain ⟨_, _, _, q, hq, hc⟩ := hk
    obtain rfl : q = 3 := by simpa [Kd.int, Kd.scalar] using hq
    exact hc)
theorem want_typed {w : World} {base : Nat} {t h : Value} {ls : List (List Int)} (hw : Want w base t h ls) : ∀ k, h.ownBlock = some k → ∃ cells, w.heap[k]? = some (.cells cells 33 (0, 0)) := Kd.R_typed hw
theorem want_apart {w : World} {base : Nat} {t h : Value} {ls : List (List Int)} (hw : Want w base t h ls) : ∀ k, t.ownBlock = some k → some k ≠ h.ownBlock := fun k hk he => (hw.1 k he.symm).2 hk.symm
theorem ok_typed {w : World} {base : Nat} {t h : Value} {ls ls' : List (List Int)} {vs : List Value} (ht : Told w base t ls' vs) (hw : Want w base t h ls) : ∀ k, (∃ cells, w.heap[k]? = some (.cells cells 3 (0, 0))) → (True ∧ some k ≠ t.ownBlock) ∧ some k ≠ h.ownBlock := by
  rintro k ⟨cells, hk⟩
  refine ⟨⟨trivial, fun he => ?_⟩, fun he => ?_⟩
  · obtain ⟨c2, h2⟩ := own_typed ht.own k he.symm
    rw [hk] at h2
    injection h2 with h2
    injection h2 with _ h2
    exact absurd h2 (by decide)
  · obtain ⟨c2, h2⟩ := want_typed hw k he.symm
    rw [hk] at h2
    injection h2 with h2
    injection h2 with _ h2
    exact absurd h2 (by decide)
theorem fresh_ok {w : World} {base : Nat} {t : Value} {ls : List (List Int)} {vs : List Value} (ht : Told w base t ls vs) : ∀ k, w.heap.size ≤ k → True ∧ some k ≠ t.ownBlock := fun k hk => ⟨trivial, fun he => by have := own_lt ht.own k he.symm; omega⟩
theorem fresh_of {w w2 : World} {base : Nat} {t u : Value} {ls : List (List Int)} {vs : List Value} {l : List Int} (ht : Told w base t ls vs) (hu : (Kd.int .i64).R 3 w2 w.heap.size (fun _ => True) u l) : ∀ k, u.ownBlock = some k → ∀ u' ∈ vs, u'.ownBlock ≠ some k := by
  intro k hk u' hm he
  obtain ⟨i, hi, rfl⟩ := List.mem_iff_getElem.1 hm
  have hl : i < ls.length := by rw [← ht.len]; exact hi
  have h1 := Kd.R_lt (ht.el i _ _ (List.getElem?_eq_getElem hi) (List.getElem?_eq_getElem hl)) k he
  have h2 := Kd.R_base hu k hk
  omega

set_option maxRecDepth 100000 in
set_option maxHeartbeats 2000000 in
theorem one_3 (w : World) (base : Nat) (s : ByteArray) (at_ : Int) (A : Option Addr) (c : Nat) (l : List Int) (t h : Value) (ls : List (List Int)) (vs : List Value) (H : OneIn w base s A c l t h ls vs) :
    Calls Tryd.prog 50 #[.agg #[.int .i64 3, .string s, .int .i64 at_, .slice A l.length c], t, h] w fun e w' => OnePost base w ls e w' := by
  have hs := H.size
  have h6 : 6 ≤ w.heap.size := Nat.le_trans H.six H.lo
  obtain ⟨r, hr⟩ : ∃ r : List Int, Pl.pts (Pl.runes s 0) = r := ⟨_, rfl⟩
  have hrl : r.length ≤ 2147483647 := by
    rw [← hr, len_pts]
    have := Pl.runes_length s _ 0 rfl
    omega
  have C1 : ∀ w, _ := fun w => points_any s w (by omega)
  have C2 : ∀ w, _ := fun w => points_ref s w (by omega)
  rw [hr] at C1 C2
  have CP := Lib.hid C1
  have CR := Lib.hid C2
  have hrl2 : Hid (r.length ≤ 2147483648) := (by omega : r.length ≤ 2147483648)
  have hfit : Hid ((ls.length + 1) * 24 ≤ 140737488355328) := (by have := H.many; omega : (ls.length + 1) * 24 ≤ 140737488355328)
  clear C1 C2 hr hrl
  go_enter Tryd.func50, Tryd.ntmps50
  go_wp2_with (first
    | (go_at_call 27; (with_reducible refine (CP.out _).mono ?_); rintro e w1 ⟨va, rfl, ha, hb⟩; (obtain ⟨x0, x1, x2, x3⟩ := box_cells hb); have HB1 := Aside0.mk ((below_alloc (Below.refl w.heap.size w) _).trans (hb.mono (by rw [World.size_alloc]; omega))); have HA1 := Aside0.mk (Kd.R_lower ha (show w.heap.size ≤ _ by rw [World.size_alloc]; omega)); clear hb ha)
    | (go_at_call 54; (with_reducible refine (CR.out _).mono ?_); rintro e w2 ⟨vb, rfl, hvb, hb⟩; have HA2 := Aside0.mk (Kd.R_below HA1.out hb); have HB2 := Aside0.mk (HB1.out.trans (hb.mono HB1.out.size)); have HV2 := Aside0.mk (Kd.R_lower hvb HB1.out.size); clear hb hvb; (obtain ⟨Aa, ca, rfl⟩ := Kd.R_slice HA2.out); (obtain ⟨Ab, cb, rfl⟩ := Kd.R_slice HV2.out); have T2 := Lib.hid (H.told.below HB2.out); have W2 := Lib.hid (H.want.below HB2.out); have B2 := Aside0.mk (HB2.out.mono H.lo); have lo2 := Aside0.mk (Nat.le_trans H.lo HB2.out.size))
    | ((with_reducible refine gate_dst (N := 110) rfl ?_); refine print_append_cells (w0 := w) base rfl (.tmp 107) (.tmp 109) 48 33 (.slice none 0 0) 1 24 rfl Tryd.underlying48 infoInts rfl (by decide) (by decide) t ls.length vs [.slice Aa r.length ca] rfl rfl rfl (fun u hu => by rw [List.mem_singleton.1 hu]; rfl) T2.out.own B2.out lo2.out hfit.out ?k3; intro v1 w3 hown1 hb1 hg1 hat1; have T3 := Lib.hid (T2.out.push (Kd.R_lower HA2.out H.lo) (fresh_of H.told HA2.out) hown1 hg1); have W3 := Lib.hid (W2.out.after hg1 hat1); have HA3 := Aside0.mk (Kd.R_over' HA2.out (own_typed T2.out.own) (by decide) hg1); have HV3 := Aside0.mk (Kd.R_over' HV2.out (own_typed T2.out.own) (by decide) hg1); have B3 := Aside0.mk hb1; have lo3 := Aside0.mk (Nat.le_trans lo2.out hg1.size); clear hown1 hb1 hg1 hat1)
    | ((with_reducible refine gate_dst (N := 114) rfl ?_); refine Kd.R_append (Kd.slice 3 (Kd.int .i64)) (w0 := w) base rfl (.tmp 111) (.tmp 113) 48 33 (.slice none 0 0) 24 rfl Tryd.underlying48 infoInts rfl (by decide) (by decide) h ls r [.slice Ab r.length cb] (fun k => True ∧ some k ≠ v1.ownBlock) (fun k => ∃ cells, w3.heap[k]? = some (.cells cells 3 (0, 0))) rfl rfl ⟨_, rfl, R_typed_ok (Kd.R_lower HV3.out H.lo)⟩ (ok_typed T3.out W3.out) (fresh_ok T3.out) W3.out B3.out lo3.out hfit.out ?k4; intro h1 w4 hW4 hb4 hg4 hat4; have T4 := Lib.hid (T3.out.other (want_typed W3.out) (want_apart W3.out) hg4); have W4 : Hid (Want w4 base v1 h1 (ls ++ [r])) := hW4; have HA4 := Aside0.mk (Kd.R_over' HA3.out (want_typed W3.out) (by decide) hg4); have HV4 := Aside0.mk (Kd.R_over' HV3.out (want_typed W3.out) (by decide) hg4); have B4 := Aside0.mk hb4; have lo4 := Aside0.mk (Nat.le_trans lo3.out hg4.size); clear hW4 hb4 hg4 hat4)
    | (go_at_call 28; (with_reducible refine (same_calls Aa ca Ab cb r w4 (Kd.R_reads' HA4.out).2.2 (Kd.R_reads' HA4.out).2.1 (Kd.R_reads' HV4.out).2.2 (Kd.R_reads' HV4.out).2.1 (Nat.le_trans hrl2.out (by decide))).mono ?_); rintro e w5 ⟨rfl, hb⟩; have T5 := Lib.hid (T4.out.below hb); have W5 := Lib.hid (W4.out.below hb); have HB5 := Aside0.mk (B4.out.trans (hb.mono lo4.out)); clear hb))
  go_ret3
  exact ⟨_, _, _, _, rfl, T5.out, W5.out, by rw [List.length_append, List.length_singleton]; omega, (List.forall_mem_append.2 ⟨H.most, fun x hx => by rw [List.mem_singleton.1 hx]; exact hrl2.out⟩), HB5.out⟩

set_option maxRecDepth 100000 in
set_option maxHeartbeats 2000000 in
theorem one_5 (w : World) (base : Nat) (s : ByteArray) (at_ : Int) (A : Option Addr) (c : Nat) (l : List Int) (t h : Value) (ls : List (List Int)) (vs : List Value) (H : OneIn w base s A c l t h ls vs) :
    Calls Tryd.prog 50 #[.agg #[.int .i64 5, .string s, .int .i64 at_, .slice A l.length c], t, h] w fun e w' => OnePost base w ls e w' := by
  have hs := H.size
  have h6 : 6 ≤ w.heap.size := Nat.le_trans H.six H.lo
  obtain ⟨r, hr⟩ : ∃ r : List Int, Pl.plcs (Pl.runes s 0) = r := ⟨_, rfl⟩
  have hrl : r.length ≤ 2147483647 := by
    rw [← hr, len_plcs]
    have := Pl.runes_length s _ 0 rfl
    omega
  have C1 : ∀ w, _ := fun w => places_any s w (by omega)
  have C2 : ∀ w, _ := fun w => places_ref s w (by omega)
  rw [hr] at C1 C2
  have CP := Lib.hid C1
  have CR := Lib.hid C2
  have hrl2 : Hid (r.length ≤ 2147483648) := (by omega : r.length ≤ 2147483648)
  have hfit : Hid ((ls.length + 1) * 24 ≤ 140737488355328) := (by have := H.many; omega : (ls.length + 1) * 24 ≤ 140737488355328)
  clear C1 C2 hr hrl
  go_enter Tryd.func50, Tryd.ntmps50
  go_wp2_with (first
    | (go_at_call 44; (with_reducible refine (CP.out _).mono ?_); rintro e w1 ⟨va, rfl, ha, hb⟩; (obtain ⟨x0, x1, x2, x3⟩ := box_cells hb); have HB1 := Aside0.mk ((below_alloc (Below.refl w.heap.size w) _).trans (hb.mono (by rw [World.size_alloc]; omega))); have HA1 := Aside0.mk (Kd.R_lower ha (show w.heap.size ≤ _ by rw [World.size_alloc]; omega)); clear hb ha)
    | (go_at_call 71; (with_reducible refine (CR.out _).mono ?_); rintro e w2 ⟨vb, rfl, hvb, hb⟩; have HA2 := Aside0.mk (Kd.R_below HA1.out hb); have HB2 := Aside0.mk (HB1.out.trans (hb.mono HB1.out.size)); have HV2 := Aside0.mk (Kd.R_lower hvb HB1.out.size); clear hb hvb; (obtain ⟨Aa, ca, rfl⟩ := Kd.R_slice HA2.out); (obtain ⟨Ab, cb, rfl⟩ := Kd.R_slice HV2.out); have T2 := Lib.hid (H.told.below HB2.out); have W2 := Lib.hid (H.want.below HB2.out); have B2 := Aside0.mk (HB2.out.mono H.lo); have lo2 := Aside0.mk (Nat.le_trans H.lo HB2.out.size))
    | ((with_reducible refine gate_dst (N := 149) rfl ?_); refine print_append_cells (w0 := w) base rfl (.tmp 146) (.tmp 148) 48 33 (.slice none 0 0) 1 24 rfl Tryd.underlying48 infoInts rfl (by decide) (by decide) t ls.length vs [.slice Aa r.length ca] rfl rfl rfl (fun u hu => by rw [List.mem_singleton.1 hu]; rfl) T2.out.own B2.out lo2.out hfit.out ?k3; intro v1 w3 hown1 hb1 hg1 hat1; have T3 := Lib.hid (T2.out.push (Kd.R_lower HA2.out H.lo) (fresh_of H.told HA2.out) hown1 hg1); have W3 := Lib.hid (W2.out.after hg1 hat1); have HA3 := Aside0.mk (Kd.R_over' HA2.out (own_typed T2.out.own) (by decide) hg1); have HV3 := Aside0.mk (Kd.R_over' HV2.out (own_typed T2.out.own) (by decide) hg1); have B3 := Aside0.mk hb1; have lo3 := Aside0.mk (Nat.le_trans lo2.out hg1.size); clear hown1 hb1 hg1 hat1)
    | ((with_reducible refine gate_dst (N := 153) rfl ?_); refine Kd.R_append (Kd.slice 3 (Kd.int .i64)) (w0 := w) base rfl (.tmp 150) (.tmp 152) 48 33 (.slice none 0 0) 24 rfl Tryd.underlying48 infoInts rfl (by decide) (by decide) h ls r [.slice Ab r.length cb] (fun k => True ∧ some k ≠ v1.ownBlock) (fun k => ∃ cells, w3.heap[k]? = some (.cells cells 3 (0, 0))) rfl rfl ⟨_, rfl, R_typed_ok (Kd.R_lower HV3.out H.lo)⟩ (ok_typed T3.out W3.out) (fresh_ok T3.out) W3.out B3.out lo3.out hfit.out ?k4; intro h1 w4 hW4 hb4 hg4 hat4; have T4 := Lib.hid (T3.out.other (want_typed W3.out) (want_apart W3.out) hg4); have W4 : Hid (Want w4 base v1 h1 (ls ++ [r])) := hW4; have HA4 := Aside0.mk (Kd.R_over' HA3.out (want_typed W3.out) (by decide) hg4); have HV4 := Aside0.mk (Kd.R_over' HV3.out (want_typed W3.out) (by decide) hg4); have B4 := Aside0.mk hb4; have lo4 := Aside0.mk (Nat.le_trans lo3.out hg4.size); clear hW4 hb4 hg4 hat4)
    | (go_at_call 28; (with_reducible refine (same_calls Aa ca Ab cb r w4 (Kd.R_reads' HA4.out).2.2 (Kd.R_reads' HA4.out).2.1 (Kd.R_reads' HV4.out).2.2 (Kd.R_reads' HV4.out).2.1 (Nat.le_trans hrl2.out (by decide))).mono ?_); rintro e w5 ⟨rfl, hb⟩; have T5 := Lib.hid (T4.out.below hb); have W5 := Lib.hid (W4.out.below hb); have HB5 := Aside0.mk (B4.out.trans (hb.mono lo4.out)); clear hb))
  go_ret3
  exact ⟨_, _, _, _, rfl, T5.out, W5.out, by rw [List.length_append, List.length_singleton]; omega, (List.forall_mem_append.2 ⟨H.most, fun x hx => by rw [List.mem_singleton.1 hx]; exact hrl2.out⟩), HB5.out⟩
end Go.Proofs.YtocijojjfcpaoaaDoor

/- one: Text -/
set_option linter.unusedVariables false
set_option linter.unusedSimpArgs false
namespace Go.Proofs.YtocijojjfcpaoaaDoor
open Go.RowKit Go.Proofs.YtocijojjfcpaoaaDoorW.PrintWords Go.Proofs.YtocijojjfcpaoaaDoorW.PrintMore

theorem box_cell3 {w w1 : World} {a b c d : Value} {T : TypeId} (hb : Below (w.heap.size + 1) (w.alloc (.cells #[a, b, c, d] T)) w1) : w1.cell? ⟨w.heap.size, 3, none⟩ = some d :=
  (hb.cell (p := ⟨w.heap.size, 3, none⟩) (show w.heap.size < w.heap.size + 1 by omega)).trans (cell_of_row _ _ _ _ _ _ (heap_new_ w _))

set_option maxRecDepth 100000 in
set_option maxHeartbeats 2000000 in
theorem one_4 (w : World) (base : Nat) (s : ByteArray) (at_ : Int) (A : Option Addr) (c : Nat) (l : List Int) (t h : Value) (ls : List (List Int)) (vs : List Value) (H : OneIn w base s A c l t h ls vs) :
    Calls Tryd.prog 50 #[.agg #[.int .i64 4, .string s, .int .i64 at_, .slice A l.length c], t, h] w fun e w' => OnePost base w ls e w' := by
  have hs := H.size
  have h6 : 6 ≤ w.heap.size := Nat.le_trans H.six H.lo
  obtain ⟨m, hm⟩ : ∃ m, l.length = m := ⟨_, rfl⟩
  obtain ⟨W0, hW⟩ : ∃ W0, (w.alloc (.cells #[.int .i64 4, .string s, .int .i64 at_, .slice A l.length c] 47)) = W0 := ⟨_, rfl⟩
  have hsz : W0.heap.size = w.heap.size + 1 := by rw [← hW, World.size_alloc]
  have B0 : Below w.heap.size w W0 := by rw [← hW]; exact below_alloc (Below.refl w.heap.size w) _
  have HX : ∀ w1, Below (w.heap.size + 1) W0 w1 → w1.cell? ⟨w.heap.size, 3, none⟩ = some (.slice A m c) := fun w1 h => by rw [← hW, hm] at h; exact box_cell3 h
  have hl := H.len
  have hcap := H.cap
  have CL := lent_any A c l W0 (Kd.C_below H.rd B0) hcap (by omega)
  rw [hm] at CL hl hcap
  have CLh := Lib.hid CL
  have CT : Hid (∀ g cap w1, (Kd.int .i64).R 3 w1 (w.heap.size + 1) (fun _ => True) (.slice (some ⟨g, 0, none⟩) (m + 2) cap) (l ++ [-7, -8]) → Calls Tryd.prog 46 #[.slice (some ⟨g, 0, none⟩) m cap] w1 fun e w' => e = .returned (.string ⟨(Pl.textOf l).toArray⟩) ∧ Below w1.heap.size w1 w') := Lib.hid fun g cap w1 ho => by
    have hcp := (Kd.R_reads' ho).2.1
    have h1 := Kd.R_take ho (m := m) (by simp; omega)
    rw [← hm, List.take_left, hm] at h1
    have h2 := (Kd.R_reads' h1).2.2
    have := text_any (some ⟨g, 0, none⟩) cap l w1 h2 (by omega) (by omega)
    rw [hm] at this
    exact this
  have CB : Hid (∀ g cap w1, (Kd.int .i64).R 3 w1 (w.heap.size + 1) (fun _ => True) (.slice (some ⟨g, 0, none⟩) (m + 2) cap) (l ++ [-7, -8]) → Below w.heap.size w w1 → Calls Tryd.prog 69 #[.slice (some ⟨g, 0, none⟩) m cap, .slice A m c] w1 fun e w' => e = .returned (.bool true) ∧ Below (w.heap.size + 1) w1 w') := Lib.hid fun g cap w1 ho hb => by
    have := back_any g cap (w.heap.size + 1) c A l w1 (by rw [hm]; exact ho) (Kd.C_below H.rd hb) (by omega) (by omega)
    rw [hm] at this
    exact this
  have CR : Hid (∀ w1, Below w.heap.size w w1 → Calls Tryd.prog 70 #[.slice A m c] w1 fun e w' => e = .returned (.string ⟨(Pl.textOf l).toArray⟩) ∧ Below w1.heap.size w1 w') := Lib.hid fun w1 hb => by
    have := text_ref A c l w1 (Kd.C_below H.rd hb) (by omega) (by omega)
    rw [hm] at this
    exact this
  obtain ⟨T, hT⟩ : ∃ T : ByteArray, ⟨(Pl.textOf l).toArray⟩ = T := ⟨_, rfl⟩
  rw [hT] at CT CR
  have HXh := Lib.hid HX
  rw [hm]
  clear CL HX
  go_enter Tryd.func50, Tryd.ntmps50
  go_wp2_with (first
    | (go_at_call 68; rw [hm] at hW; rw [hW]; (with_reducible refine CLh.out.mono ?_); rintro e w1 ⟨g, cap, rfl, ho, hb⟩; rw [hsz] at ho hb; have HO1 := Aside0.mk ho; have x3 := HXh.out w1 hb; have BB1 := Aside0.mk hb; have HB1 := Aside0.mk (B0.trans (hb.mono (Nat.le_succ _))); clear ho hb)
    | (go_at_call 46; (with_reducible refine (CT.out g cap w1 HO1.out).mono ?_); rintro e w2 ⟨rfl, hb⟩; have HO2 := Aside0.mk (Kd.R_below HO1.out hb); have BB2 := Aside0.mk (BB1.out.trans (hb.mono (by rw [← hsz]; exact BB1.out.size))); have x4 := HXh.out w2 BB2.out; have HB2 := Aside0.mk (HB1.out.trans (hb.mono HB1.out.size)); clear hb)
    | (go_at_call 69; (with_reducible refine (CB.out g cap w2 HO2.out HB2.out).mono ?_); rintro e w3 ⟨rfl, hb⟩; have BB3 := Aside0.mk (BB2.out.trans hb); have x5 := HXh.out w3 BB3.out; have HB3 := Aside0.mk (HB2.out.trans (hb.mono (Nat.le_succ _))); clear hb)
    | (go_at_call 70; (with_reducible refine (CR.out w3 HB3.out).mono ?_); rintro e w4 ⟨rfl, hb⟩; have HB4 := Aside0.mk (HB3.out.trans (hb.mono HB3.out.size)); clear hb))
  go_ret3
  exact H.same HB4.out _ (by simp)
end Go.Proofs.YtocijojjfcpaoaaDoor

/- What is owned: lists that are written full, then grown; the plain laws of their blocks. -/
set_option linter.unusedVariables false
set_option linter.unusedSimpArgs false
namespace Go.Proofs.YtocijojjfcpaoaaDoor
open Go.RowKit Go.Proofs.YtocijojjfcpaoaaDoorW.PrintWords Go.Proofs.YtocijojjfcpaoaaDoorW.PrintMore

abbrev RI (w : World) (base : Nat) (v : Value) (l : List Int) : Prop := (Kd.int .i64).R 3 w base (fun _ => True) v l

theorem RI.form {w : World} {base : Nat} {v : Value} {l : List Int} (h : RI w base v l) : (v = .slice none 0 0 ∧ l = []) ∨ ∃ g cap, v = .slice (some ⟨g, 0, none⟩) l.length cap ∧ l.length ≤ cap ∧ base ≤ g ∧ g < w.heap.size := by
  have hc := (Kd.R_slice h)
  obtain ⟨h0, inner, ho, hr⟩ := h
  rcases ho.2 with ⟨he, hn⟩ | ⟨g, cap, cur, he, hb, hh, hl, _⟩
  · exact .inl ⟨he, List.eq_nil_of_length_eq_zero hn⟩
  · exact .inr ⟨g, cap, he, hl, hb, (Array.getElem?_eq_some_iff.1 hh).1⟩
theorem RI.typed {w : World} {base : Nat} {v : Value} {l : List Int} (h : RI w base v l) : ∀ k, v.ownBlock = some k → ∃ cells, w.heap[k]? = some (.cells cells 3 (0, 0)) := Kd.R_typed h
theorem RI.keep {w w' : World} {base : Nat} {v : Value} {l : List Int} (h : RI w base v l) {row : Option Nat} (hg : w.grownBy w' row) (hne : ∀ k, row = some k → some k ≠ v.ownBlock) : RI w' base v l := Kd.R_grown2 h rfl hg hne
theorem RI.far {w : World} {base : Nat} {v : Value} {l : List Int} (h : RI w base v l) {p : Addr} (hne : some p.block ≠ v.ownBlock) (u : Value) : RI (w.setCell p u) base v l :=
  Kd.R_mono (Kd.R_far (p := p) (Kd.R_far1 h rfl (g := p.block) hne) (fun _ hk => hk.2) u) (fun _ _ => trivial)

theorem own_other {w w' : World} {base : Nat} {t : Value} {n : Nat} {vs : List Value} (h : w.ownsRow base 33 1 t n vs) {x : Option Nat} (hx : ∀ k, x = some k → ∃ cells, w.heap[k]? = some (.cells cells 3 (0, 0))) (hg : w.grownBy w' x) : w'.ownsRow base 33 1 t n vs := by
  refine own_move h fun k hk => hg.block k (own_lt h k hk) fun he => ?_
  obtain ⟨c1, h1⟩ := own_typed h k hk
  obtain ⟨c2, h2⟩ := hx k he.symm
  rw [h1] at h2
  injection h2 with h2
  injection h2 with _ h2
  exact absurd h2 (by decide)

/-- A row of numbers has been written, which is none of the lists', but for those that stand anew. -/
theorem Told.step {w w' : World} {base : Nat} {t : Value} {ls : List (List Int)} {vs : List Value} (h : Told w base t ls vs) {x : Option Nat} (hx : ∀ k, x = some k → ∃ cells, w.heap[k]? = some (.cells cells 3 (0, 0))) (hg : w.grownBy w' x)
    (he : ∀ (i : Nat) u l, vs[i]? = some u → ls[i]? = some l → (∀ k, x = some k → some k ≠ u.ownBlock) ∨ RI w' base u l) : Told w' base t ls vs :=
  ⟨own_other h.own hx hg, h.len, fun i u l h1 h2 => by
    rcases he i u l h1 h2 with hn | hr
    · exact RI.keep (h.el i u l h1 h2) hg hn
    · exact hr, h.apart⟩

theorem Told.get {w : World} {base : Nat} {t : Value} {ls : List (List Int)} {vs : List Value} (h : Told w base t ls vs) (i : Nat) (hi : i < ls.length) : ∃ g cap, t = .slice (some ⟨g, 0, none⟩) ls.length cap ∧ base ≤ g ∧ ∃ u, vs[i]? = some u ∧ w.cell? ⟨g, i, none⟩ = some u ∧ RI w base u ls[i] := by
  have hv : i < vs.length := by rw [h.len]; exact hi
  rcases h.own.2 with ⟨_, hn⟩ | ⟨g, cap, cur, he, hb, hh, hl, _, hs, ht⟩
  · omega
  · refine ⟨g, cap, he, hb, vs[i], List.getElem?_eq_getElem hv, ?_, h.el i _ _ (List.getElem?_eq_getElem hv) (List.getElem?_eq_getElem hi)⟩
    rw [cell_of_row _ _ _ _ _ _ hh]
    have e := congrArg (fun l => l[i]?) ht
    simp only [Nat.mul_one] at e
    rw [List.getElem?_take_of_lt hi, List.getElem?_eq_getElem hv, Array.getElem?_toList] at e
    exact e
theorem Told.len_slice {w : World} {base : Nat} {t : Value} {ls : List (List Int)} {vs : List Value} (h : Told w base t ls vs) : ∃ A cap, t = .slice A ls.length cap := by
  rcases h.own.2 with ⟨he, hn⟩ | ⟨g, cap, cur, he, _⟩
  · exact ⟨none, 0, by rw [he, hn]⟩
  · exact ⟨_, cap, he⟩

/-- A number is stored into one of the lists. -/
theorem Told.put {w : World} {base : Nat} {t : Value} {ls : List (List Int)} {vs : List Value} (h : Told w base t ls vs) (i k g n cap : Nat) (x : Int) (l : List Int) (hv : vs[i]? = some (.slice (some ⟨g, 0, none⟩) n cap)) (hl : ls[i]? = some l) : Told (w.setCell ⟨g, k, none⟩ (.int .i64 x)) base t (ls.set i (l.set k x)) vs := by
  have hr := h.el i _ _ hv hl
  have hty := RI.typed hr g rfl
  have hi := (List.getElem?_eq_some_iff.1 hl).1
  refine ⟨?_, by rw [List.length_set]; exact h.len, fun j u l' h1 h2 => ?_, h.apart⟩
  · rw [List.length_set]
    refine own_move h.own fun k' hk => Below.heap_setCell _ _ _ _ fun he => ?_
    obtain ⟨c1, h1⟩ := own_typed h.own k' hk
    obtain ⟨c2, h2⟩ := hty
    have he' : k' = g := he
    subst he'
    rw [h1] at h2
    injection h2 with h2
    injection h2 with _ h2
    exact absurd h2 (by decide)
  · by_cases hj : i = j
    · subst hj
      rw [hv] at h1
      obtain rfl := Option.some.inj h1
      rw [List.getElem?_set_self hi] at h2
      obtain rfl := Option.some.inj h2
      exact row_put hr k x
    · rw [List.getElem?_set_ne hj] at h2
      refine RI.far (h.el j u l' h1 h2) (p := ⟨g, k, none⟩) (fun he => ?_) _
      rcases Nat.lt_or_gt_of_ne hj with hlt | hlt
      · exact h.apart i j _ _ g hlt hv h1 rfl he.symm
      · exact h.apart j i _ _ g hlt h1 hv he.symm rfl

/-! One of the lists, and what grows out of it. -/
structure Grow (w : World) (base M : Nat) (u x : Value) (l more : List Int) : Prop where
  rx : RI w base x (l ++ more)
  ru : RI w base u l
  lt : ∀ k, u.ownBlock = some k → k < M
  sh : (∃ g cap, u = .slice (some ⟨g, 0, none⟩) l.length cap ∧ x = .slice (some ⟨g, 0, none⟩) (l.length + more.length) cap) ∨ (∀ k, x.ownBlock = some k → M ≤ k)
theorem Grow.start {w : World} {base M : Nat} {u : Value} {l : List Int} (h : RI w base u l) (hM : w.heap.size ≤ M) : Grow w base M u u l [] := by
  refine ⟨by rw [List.append_nil]; exact h, h, fun k hk => Nat.lt_of_lt_of_le (Kd.R_lt h k hk) hM, ?_⟩
  rcases RI.form h with ⟨rfl, rfl⟩ | ⟨g, cap, rfl, _⟩
  · exact .inr fun k hk => by simp [Value.ownBlock] at hk
  · exact .inl ⟨g, cap, rfl, rfl⟩

/-- What an append of a number leaves. -/
structure Appended (W w' : World) (base : Nat) (x v : Value) (xs : List Int) (y : Int) : Prop where
  row : RI w' base v (xs ++ [y])
  grown : W.grownBy w' x.ownBlock
  how : (∃ g cap, x = .slice (some ⟨g, 0, none⟩) xs.length cap ∧ v = .slice (some ⟨g, 0, none⟩) (xs.length + 1) cap) ∨ ((∃ b, v.ownBlock = some b ∧ W.heap.size ≤ b) ∧ W.grownBy w' none)
theorem Grow.append {W w' : World} {base M : Nat} {u x v : Value} {l more : List Int} {y : Int} (h : Grow W base M u x l more) (hM : M ≤ W.heap.size) (ha : Appended W w' base x v (l ++ more) y) : Grow w' base M u v l (more ++ [y]) := by
  have hrow := ha.row
  rw [List.append_assoc] at hrow
  rcases ha.how with ⟨g, cap, hx, hv⟩ | ⟨⟨b, hb, hle⟩, hg⟩
  · rcases h.sh with ⟨g', cap', hu', hx'⟩ | hfr
    · rw [hx] at hx'
      injection hx' with h1 _ h3
      injection h1 with h1
      injection h1 with h1
      subst h1; subst h3
      refine ⟨hrow, ?_, h.lt, .inl ⟨g, cap, hu', by rw [hv]; simp [Nat.add_assoc]⟩⟩
      have h4 := ha.row
      rw [hv] at h4
      have h5 := Kd.R_take h4 (m := l.length) (by simp)
      rw [List.append_assoc, List.take_left, ← hu'] at h5
      exact h5
    · refine ⟨hrow, RI.keep h.ru ha.grown (fun k hk he => ?_), h.lt, .inr fun k hk => ?_⟩
      · have := hfr k hk
        have := h.lt k he.symm
        omega
      · rw [hv] at hk
        rw [hx] at hfr
        exact hfr k hk
  · exact ⟨hrow, RI.keep h.ru hg (fun k hk => by cases hk), h.lt, .inr fun k hk => by rw [hb] at hk; injection hk with hk; omega⟩
/-- Whose block is written: the list's own, or one laid since. -/
theorem Grow.whose {w : World} {base M : Nat} {u x : Value} {l more : List Int} (h : Grow w base M u x l more) : ∀ k, x.ownBlock = some k → u.ownBlock = some k ∨ M ≤ k := by
  intro k hk
  rcases h.sh with ⟨g, cap, hu, hx⟩ | hf
  · rw [hx] at hk; rw [hu]; exact .inl hk
  · exact .inr (hf k hk)

section
variable {P : Program} {ops : Array Oper} {rest : List Oper} {o : Oper} {a : Act} {Q : Exit → Act → World → Prop}
/-- append(x, y) of numbers, behind 'at_builtin': what it leaves, and how. -/
theorem append_int {W : World} (base : Nat) (hgd : o.guard = none) (s x : Operand) (t e : TypeId) (ho : o.op = .call { callee := .builtin .append, args := #[s, x], argTypes := #[t, t] })
    (he : e = 3) (ht : P.underlying t = some (.slice e)) (hinfo : (P.info? e).map (fun i => (i.zero, i.size, i.bytes)) = some (some (.int .i64 0), 1, 8))
    (v : Value) (xs : List Int) (y : Int) (hs : a.eval s = v) (hx : a.eval x = .slice (some ⟨W.heap.size, 0, none⟩) 1 1) (HO : RI W base v xs) (hbase : base ≤ W.heap.size) (hl : (xs.length + 1) * 8 ≤ 140737488355328)
    (h : ∀ v1 w1, Appended W w1 base v v1 xs y → wpList P ops Q rest (a.put o.dst v1) w1) :
    wpList P ops Q (o :: rest) a (W.alloc (.cells #[.int .i64 y] e)) := by
  subst he
  obtain ⟨i0, hi, hzz⟩ := Option.map_eq_some_iff.1 hinfo
  simp only [Prod.mk.injEq] at hzz
  obtain ⟨hz0, hz1, hz2⟩ := hzz
  have hown := Kd.own_of_R (enc := Value.int .i64) (h1 := fun _ => rfl) HO
  have hal : W.grownBy (W.alloc (.cells #[.int .i64 y] 3)) none := ⟨rfl, rfl, rfl, by rw [World.size_alloc]; omega, fun k hk _ => Below.heap_alloc _ _ _ hk⟩
  have hown1 : (W.alloc (.cells #[.int .i64 y] 3)).ownsRow base 3 1 v xs.length (encs (Value.int .i64) xs) := own_move hown (fun k hk => Below.heap_alloc _ _ _ (own_lt hown k hk))
  have hnew : (W.alloc (.cells #[.int .i64 y] 3)).heap[W.heap.size]? = some (.cells #[.int .i64 y] 3) := by
    show (W.heap.push _)[W.heap.size]? = _
    rw [Array.getElem?_push, if_pos rfl]
  have hc : ∀ j u, ([Value.int .i64 y] : List Value)[j]? = some u → (W.alloc (.cells #[.int .i64 y] 3)).cell? ((⟨W.heap.size, 0, none⟩ : Addr).add j) = some u := by
    intro j u hj
    have hj0 : j = 0 := by have := (List.getElem?_eq_some_iff.1 hj).1; simp at this; exact this
    subst hj0
    have : (⟨W.heap.size, 0, none⟩ : Addr).add 0 = ⟨W.heap.size, 0, none⟩ := by rw [Addr.add_lit]
    rw [this, cell_of_row _ _ _ _ _ _ hnew]
    exact hj
  have henc : encs (Value.int .i64) xs ++ [Value.int .i64 y] = encs (Value.int .i64) (xs ++ [y]) := by simp [encs]
  have hsz : (xs ++ [y]).length = xs.length + 1 := by simp
  have fin : ∀ v1 w1, w1.ownsRow base 3 1 v1 (xs.length + 1) (encs (Value.int .i64) xs ++ [Value.int .i64 y]) → RI w1 base v1 (xs ++ [y]) := fun v1 w1 h1 => by
    rw [henc, ← hsz] at h1
    exact Kd.R_of_own (h1 := fun _ => rfl) h1 (fun _ _ => trivial)
  rcases RI.form HO with ⟨hv, hx0⟩ | ⟨g, cap, hv, hcap, hbg, hlt⟩
  · subst hx0
    refine wpList_append_grows _ hgd s x t ho 3 i0 (.int .i64 0) 1 8 ht hi hz0 hz1 hz2 rfl (by decide) none 0 0 [] (by rw [hs, hv]) (fun _ => ⟨rfl, rfl⟩) rfl (fun b hb => by cases hb) ⟨W.heap.size, 0, none⟩ 1 1 [.int .i64 y] hx rfl hc (fun u hu => by rw [List.mem_singleton.1 hu]; rfl) (by omega) (by decide) (by decide) ?_
    intro v1 w1 h1 hg1
    have hg2 : W.grownBy w1 none := ⟨hg1.os.trans hal.os, hg1.tape.trans hal.tape, hg1.output.trans hal.output, Nat.le_trans hal.size hg1.size, fun k hk hn => (hg1.block k (Nat.lt_of_lt_of_le hk hal.size) hn).trans (hal.block k hk hn)⟩
    refine h v1 w1 ⟨fin v1 w1 (own_weaken h1 (Nat.le_trans hbase hal.size)), ⟨hg2.os, hg2.tape, hg2.output, hg2.size, fun k hk _ => hg2.block k hk (by simp)⟩, .inr ⟨?_, hg2⟩⟩
    rcases h1.2 with ⟨_, hz⟩ | ⟨b, cap, cur, hv1, hb1, _⟩
    · omega
    · exact ⟨b, by rw [hv1]; rfl, Nat.le_trans hal.size hb1⟩
  · by_cases hr : xs.length + 1 ≤ cap
    · refine wpList_append_fits _ hgd s x t ho base 3 i0 1 ht hi hz1 g xs.length cap _ (by rw [hs, hv]) (by rw [← hv]; exact hown1) ⟨W.heap.size, 0, none⟩ 1 1 [.int .i64 y] hx rfl hc (fun u hu => by rw [List.mem_singleton.1 hu]; rfl) hr ?_
      intro w1 h1 hg1
      refine h _ w1 ⟨fin _ w1 h1, ?_, .inl ⟨g, cap, hv, rfl⟩⟩
      rw [hv]
      exact ⟨hg1.os.trans hal.os, hg1.tape.trans hal.tape, hg1.output.trans hal.output, Nat.le_trans hal.size hg1.size, fun k hk hn => (hg1.block k (Nat.lt_of_lt_of_le hk hal.size) hn).trans (hal.block k hk (by simp))⟩
    · have hrd := (Kd.R_reads' (hv ▸ HO)).2.2
      refine wpList_append_grows _ hgd s x t ho 3 i0 (.int .i64 0) 1 8 ht hi hz0 hz1 hz2 rfl (by decide) (some ⟨g, 0, none⟩) xs.length cap (encs (Value.int .i64) xs) (by rw [hs, hv]) (fun h => by cases h) (by rw [encs_length]; omega) ?_ ⟨W.heap.size, 0, none⟩ 1 1 [.int .i64 y] hx rfl hc (fun u hu => by rw [List.mem_singleton.1 hu]; rfl) (by omega) (by simp only [maxLen]; omega) (by omega) ?_
      · intro b hb j u hj
        injection hb with hb
        subst hb
        have e : (⟨g, 0, none⟩ : Addr).add j = ⟨g, j, none⟩ := by rw [Addr.add_lit, Nat.zero_add]
        rw [e]
        rcases hown1.2 with ⟨h0, _⟩ | ⟨g', cap', cur, he', _, hh, _, _, _, htk⟩
        · rw [hv] at h0; cases h0
        · rw [hv] at he'
          injection he' with he'
          injection he' with he'
          injection he' with he'
          subst he'
          rw [cell_of_row _ _ _ _ _ _ hh]
          have hjl : j < xs.length := by have := (List.getElem?_eq_some_iff.1 hj).1; rw [encs_length] at this; exact this
          rw [← htk, Nat.mul_one, List.getElem?_take_of_lt hjl, Array.getElem?_toList] at hj
          exact hj
      intro v1 w1 h1 hg1
      have hg2 : W.grownBy w1 none := ⟨hg1.os.trans hal.os, hg1.tape.trans hal.tape, hg1.output.trans hal.output, Nat.le_trans hal.size hg1.size, fun k hk hn => (hg1.block k (Nat.lt_of_lt_of_le hk hal.size) hn).trans (hal.block k hk hn)⟩
      refine h v1 w1 ⟨fin v1 w1 (own_weaken h1 (Nat.le_trans hbase hal.size)), ⟨hg2.os, hg2.tape, hg2.output, hg2.size, fun k hk _ => hg2.block k hk (by simp)⟩, .inr ⟨?_, hg2⟩⟩
      rcases h1.2 with ⟨_, hz⟩ | ⟨b, cap, cur, hv1, hb1, _⟩
      · omega
      · exact ⟨b, by rw [hv1]; rfl, Nat.le_trans hal.size hb1⟩
end
end Go.Proofs.YtocijojjfcpaoaaDoor

/- What is owned: the walk. -/
set_option linter.unusedVariables false
set_option linter.unusedSimpArgs false
namespace Go.Proofs.YtocijojjfcpaoaaDoor
open Go.RowKit Go.Proofs.YtocijojjfcpaoaaDoorW.PrintWords Go.Proofs.YtocijojjfcpaoaaDoorW.PrintMore

/-- The lists in front of i are full; in list i, the first k. -/
def Full (i k : Nat) (ls : List (List Int)) : Prop := ∀ (j : Nat) l, ls[j]? = some l → (j < i → ∀ (q : Nat) x, l[q]? = some x → x = 1000 + j) ∧ (j = i → ∀ (q : Nat) x, q < k → l[q]? = some x → x = 1000 + j)
theorem Full.nil (ls : List (List Int)) : Full 0 0 ls := fun j l _ => ⟨fun h => by omega, fun _ q x h => by omega⟩
theorem Full.next {i k : Nat} {ls : List (List Int)} (h : Full i k ls) {l : List Int} (hl : ls[i]? = some l) (hk : l.length ≤ k) : Full (i + 1) 0 ls := fun j l' hj => by
  refine ⟨fun hlt q x hx => ?_, fun _ q x h => by omega⟩
  by_cases hji : j < i
  · exact (h j l' hj).1 hji q x hx
  · obtain rfl : j = i := by omega
    rw [hl] at hj
    obtain rfl := Option.some.inj hj
    have := (List.getElem?_eq_some_iff.1 hx).1
    exact (h j l hl).2 rfl q x (by omega) hx
theorem Full.put {i k : Nat} {ls : List (List Int)} (h : Full i k ls) {l : List Int} (hl : ls[i]? = some l) : Full i (k + 1) (ls.set i (l.set k (1000 + (i : Int)))) := fun j l' hj => by
  have hi := (List.getElem?_eq_some_iff.1 hl).1
  by_cases hji : i = j
  · subst hji
    rw [List.getElem?_set_self hi] at hj
    obtain rfl := Option.some.inj hj
    refine ⟨fun hlt => by omega, fun _ q x hq hx => ?_⟩
    by_cases hqk : k = q
    · subst hqk
      have := (List.getElem?_eq_some_iff.1 hx).1
      rw [List.length_set] at this
      rw [List.getElem?_set_self this] at hx
      exact (Option.some.inj hx).symm
    · rw [List.getElem?_set_ne hqk] at hx
      exact (h i l hl).2 rfl q x (by omega) hx
  · rw [List.getElem?_set_ne hji] at hj
    exact ⟨fun hlt => (h j l' hj).1 hlt, fun he => by omega⟩

/-- The first of three parts of 'owned': what the lists hold then. -/
structure Filled (w0 w : World) (base n : Nat) (t : Value) (vs : List Value) (i k : Nat) (ls : List (List Int)) : Prop where
  told : Told w base t ls vs
  len : ls.length = n
  full : Full i k ls
  most : ∀ l ∈ ls, l.length ≤ 2147483648
  below : Below base w0 w
theorem Filled.put {w0 w : World} {base n : Nat} {t : Value} {vs : List Value} {i k : Nat} {ls : List (List Int)} (h : Filled w0 w base n t vs i k ls) {g m cap : Nat} {l : List Int} (hv : vs[i]? = some (.slice (some ⟨g, 0, none⟩) m cap)) (hl : ls[i]? = some l) (hg : base ≤ g) :
    Filled w0 (w.setCell ⟨g, k, none⟩ (.int .i64 (1000 + (i : Int)))) base n t vs i (k + 1) (ls.set i (l.set k (1000 + (i : Int)))) :=
  ⟨h.told.put i k g m cap (1000 + (i : Int)) l hv hl, by rw [List.length_set]; exact h.len, h.full.put hl, fun x hx => by
    rcases List.mem_or_eq_of_mem_set hx with hm | rfl
    · exact h.most x hm
    · rw [List.length_set]; exact h.most l (List.mem_of_getElem? hl), h.below.setCell hg _⟩
theorem Filled.next {w0 w : World} {base n : Nat} {t : Value} {vs : List Value} {i k : Nat} {ls : List (List Int)} (h : Filled w0 w base n t vs i k ls) {l : List Int} (hl : ls[i]? = some l) (hk : l.length ≤ k) : Filled w0 w base n t vs (i + 1) 0 ls :=
  ⟨h.told, h.len, h.full.next hl hk, h.most, h.below⟩

/-- One list, as the walk meets it. -/
theorem Told.at_ {w : World} {base : Nat} {t : Value} {ls : List (List Int)} {vs : List Value} (h : Told w base t ls vs) (i n : Nat) (hn : ls.length = n) (hi : i < n) : ∃ g cap A l c, t = .slice (some ⟨g, 0, none⟩) n cap ∧ ls[i]? = some l ∧ vs[i]? = some (.slice A l.length c) ∧ w.cell? ⟨g, i, none⟩ = some (.slice A l.length c) ∧ RI w base (.slice A l.length c) l := by
  obtain ⟨g, cap, h1, _, u, h2, h3, h4⟩ := h.get i (by omega)
  obtain ⟨A, c, rfl⟩ := Kd.R_slice h4
  exact ⟨g, cap, A, _, c, by rw [h1, hn], List.getElem?_eq_getElem (by omega), h2, h3, h4⟩

/-! Long lists. -/
structure Long (w0 w : World) (base M0 M n : Nat) (t : Value) (ls : List (List Int)) (vs : List Value) (y : Value) (xs : List Value) (i : Nat) : Prop where
  told : Told w base t ls vs
  own : w.ownsRow M0 33 1 y i xs
  len : xs.length = i
  el : ∀ (j : Nat) x l, xs[j]? = some x → ls[j]? = some l → RI w base x (l ++ List.replicate 40 (5000 + (j : Int)))
  sh : ∀ (j : Nat) x u, xs[j]? = some x → vs[j]? = some u → ∀ k, x.ownBlock = some k → u.ownBlock = some k ∨ M0 ≤ k
  lt : ∀ x ∈ xs, ∀ k, x.ownBlock = some k → k < M
  vlt : ∀ u ∈ vs, ∀ k, u.ownBlock = some k → k < M0
  tlt : ∀ k, t.ownBlock = some k → k < M0
  size : M ≤ w.heap.size
  more : M0 ≤ M
  bm : base ≤ M0
  ll : ls.length = n
  below : Below base w0 w
theorem Told.lt {w : World} {base : Nat} {t : Value} {ls : List (List Int)} {vs : List Value} (h : Told w base t ls vs) : ∀ u ∈ vs, ∀ k, u.ownBlock = some k → k < w.heap.size := by
  intro u hu k hk
  obtain ⟨i, hi, rfl⟩ := List.mem_iff_getElem.1 hu
  have hl : i < ls.length := by rw [← h.len]; exact hi
  exact Kd.R_lt (h.el i _ _ (List.getElem?_eq_getElem hi) (List.getElem?_eq_getElem hl)) k hk
theorem Long.start {w0 w : World} {base n : Nat} {t : Value} {ls : List (List Int)} {vs : List Value} (h : Told w base t ls vs) (hn : ls.length = n) (hlo : base ≤ w.heap.size) (hb : Below base w0 w) : Long w0 w base w.heap.size w.heap.size n t ls vs (.slice none 0 0) [] 0 :=
  ⟨h, ⟨rfl, .inl ⟨rfl, rfl⟩⟩, rfl, fun j x l hx => by simp at hx, fun j x u hx => by simp at hx, fun x hx => by simp at hx, h.lt, fun k hk => own_lt h.own k hk, Nat.le_refl _, Nat.le_refl _, hlo, hn, hb⟩

/-- A list has been grown by one. -/
theorem Long.grow {w0 w w' : World} {base M0 M n : Nat} {t : Value} {ls : List (List Int)} {vs : List Value} {y : Value} {xs : List Value} {i : Nat} (h : Long w0 w base M0 M n t ls vs y xs i) {u x v : Value} {l more : List Int} {z : Int}
    (hu : vs[i]? = some u) (hl : ls[i]? = some l) (hg : Grow w base M u x l more) (ha : Appended w w' base x v (l ++ more) z) : Long w0 w' base M0 M n t ls vs y xs i ∧ Grow w' base M u v l (more ++ [z]) := by
  have hg' := hg.append h.size ha
  have hty := RI.typed hg.rx
  have hwh := hg.whose
  refine ⟨⟨?_, ?_, h.len, fun j x' l' h1 h2 => ?_, h.sh, h.lt, h.vlt, h.tlt, Nat.le_trans h.size ha.grown.size, h.more, h.bm, h.ll, ?_⟩, hg'⟩
  · refine h.told.step hty ha.grown fun j u' l' h1 h2 => ?_
    by_cases hj : j = i
    · subst hj
      rw [hu] at h1; rw [hl] at h2
      obtain rfl := Option.some.inj h1
      obtain rfl := Option.some.inj h2
      exact .inr hg'.ru
    · refine .inl fun k hk he => ?_
      rcases hwh k hk with hk' | hk'
      · rcases Nat.lt_or_gt_of_ne hj with hlt | hlt
        · exact h.told.apart j i _ _ k hlt h1 hu he.symm hk'
        · exact h.told.apart i j _ _ k hlt hu h1 hk' he.symm
      · have := h.vlt u' (List.mem_of_getElem? h1) k he.symm
        have := h.more
        omega
  · exact own_move h.own fun k hk => ha.grown.block k (own_lt h.own k hk) fun he => by
      obtain ⟨c1, h1⟩ := own_typed h.own k hk
      obtain ⟨c2, h2⟩ := hty k he.symm
      rw [h1] at h2
      injection h2 with h2
      injection h2 with _ h2
      exact absurd h2 (by decide)
  · refine RI.keep (h.el j x' l' h1 h2) ha.grown fun k hk he => ?_
    have hjx := (List.getElem?_eq_some_iff.1 h1).1
    have hji : j < i := by rw [← h.len]; exact hjx
    have hjv : j < vs.length := by rw [h.told.len]; exact (List.getElem?_eq_some_iff.1 h2).1
    have hkx := h.lt x' (List.mem_of_getElem? h1) k he.symm
    rcases hwh k hk with hk' | hk'
    · rcases h.sh j x' _ h1 (List.getElem?_eq_getElem hjv) k he.symm with h3 | h3
      · exact h.told.apart j i _ _ k hji (List.getElem?_eq_getElem hjv) hu h3 hk'
      · have := h.vlt u (List.mem_of_getElem? hu) k hk'
        omega
    · omega
  · exact h.below.grown ha.grown (Nat.le_trans h.bm (Nat.le_trans h.more h.size)) fun k hk => RI_base hg.rx k hk
where RI_base {w : World} {base : Nat} {v : Value} {l : List Int} (h : RI w base v l) : ∀ k, v.ownBlock = some k → base ≤ k := Kd.R_base h
/-- The grown list is laid beside the others. -/
theorem Long.push {w0 w w' : World} {base M0 M n : Nat} {t : Value} {ls : List (List Int)} {vs : List Value} {y y' : Value} {xs : List Value} {i : Nat} (h : Long w0 w base M0 M n t ls vs y xs i) {u x : Value} {l : List Int}
    (hu : vs[i]? = some u) (hl : ls[i]? = some l) (hg : Grow w base M u x l (List.replicate 40 (5000 + (i : Int)))) (ho : w'.ownsRow M0 33 1 y' (i + 1) (xs ++ [x])) (hgr : w.grownBy w' y.ownBlock) : Long w0 w' base M0 w'.heap.size n t ls vs y' (xs ++ [x]) (i + 1) := by
  have hty : ∀ k, y.ownBlock = some k → ∃ cells, w.heap[k]? = some (.cells cells 33 (0, 0)) := own_typed h.own
  have step : ∀ {v l}, RI w base v l → RI w' base v l := fun hr => Kd.R_over' hr hty (by decide) hgr
  have hlt : w.heap.size ≤ w'.heap.size := hgr.size
  refine ⟨?_, ho, by simp [h.len], fun j x' l' h1 h2 => ?_, fun j x' u' h1 h2 k hk => ?_, fun x' hx k hk => ?_, h.vlt, h.tlt, Nat.le_refl _, Nat.le_trans h.more (Nat.le_trans h.size hlt), h.bm, h.ll, ?_⟩
  · refine ⟨own_move h.told.own fun k hk => hgr.block k (own_lt h.told.own k hk) fun he => ?_, h.told.len, fun j u' l' h1 h2 => step (h.told.el j u' l' h1 h2), h.told.apart⟩
    have := h.tlt k hk
    have := own_base h.own k he.symm
    omega
  · by_cases hj : j < xs.length
    · rw [List.getElem?_append_left hj] at h1
      exact step (h.el j x' l' h1 h2)
    · have hj2 := (List.getElem?_eq_some_iff.1 h1).1
      simp only [List.length_append, List.length_singleton] at hj2
      obtain rfl : j = i := by have := h.len; omega
      rw [List.getElem?_append_right (by omega), show j - xs.length = 0 by have := h.len; omega, List.getElem?_cons_zero] at h1
      obtain rfl := Option.some.inj h1
      rw [hl] at h2
      obtain rfl := Option.some.inj h2
      exact step hg.rx
  · by_cases hj : j < xs.length
    · rw [List.getElem?_append_left hj] at h1
      exact h.sh j x' u' h1 h2 k hk
    · have hj2 := (List.getElem?_eq_some_iff.1 h1).1
      simp only [List.length_append, List.length_singleton] at hj2
      obtain rfl : j = i := by have := h.len; omega
      rw [List.getElem?_append_right (by omega), show j - xs.length = 0 by have := h.len; omega, List.getElem?_cons_zero] at h1
      obtain rfl := Option.some.inj h1
      rw [hu] at h2
      obtain rfl := Option.some.inj h2
      rcases hg.whose k hk with h3 | h3
      · exact .inl h3
      · exact .inr (Nat.le_trans h.more h3)
  · rcases List.mem_append.1 hx with hm | hm
    · have := h.lt x' hm k hk
      have := h.size
      omega
    · rw [List.mem_singleton] at hm
      subst hm
      have := Kd.R_lt hg.rx k hk
      omega
  · exact h.below.grown hgr (Nat.le_trans h.bm (Nat.le_trans h.more h.size)) fun k hk => Nat.le_trans h.bm (own_base h.own k hk)

/-- What stands in the lists, old and long. -/
theorem Long.at_ {w0 w : World} {base M0 M n : Nat} {t : Value} {ls : List (List Int)} {vs : List Value} {y : Value} {xs : List Value} (h : Long w0 w base M0 M n t ls vs y xs n) (i : Nat) (hi : i < n) : ∃ g cap A l c g2 cap2 g3 c3, t = .slice (some ⟨g, 0, none⟩) n cap ∧ ls[i]? = some l ∧ w.cell? ⟨g, i, none⟩ = some (.slice A l.length c) ∧ RI w base (.slice A l.length c) l ∧
    y = .slice (some ⟨g2, 0, none⟩) n cap2 ∧ w.cell? ⟨g2, i, none⟩ = some (.slice (some ⟨g3, 0, none⟩) (l.length + 40) c3) ∧ RI w base (.slice (some ⟨g3, 0, none⟩) (l.length + 40) c3) (l ++ List.replicate 40 (5000 + (i : Int))) := by
  obtain ⟨g, cap, A, l, c, h1, h2, _, h3, h4⟩ := h.told.at_ i n h.ll hi
  have hx : i < xs.length := by rw [h.len]; exact hi
  have h5 := h.el i _ _ (List.getElem?_eq_getElem hx) h2
  rcases h.own.2 with ⟨_, hz⟩ | ⟨g2, cap2, cur, he, hb, hh, hl, _, hs, ht⟩
  · omega
  · have hc : w.cell? ⟨g2, i, none⟩ = some xs[i] := by
      rw [cell_of_row _ _ _ _ _ _ hh]
      have e := congrArg (fun l => l[i]?) ht
      simp only [Nat.mul_one] at e
      rw [List.getElem?_take_of_lt hi, List.getElem?_eq_getElem hx, Array.getElem?_toList] at e
      exact e
    rcases RI.form h5 with ⟨_, hn⟩ | ⟨g3, c3, h6, _⟩
    · simp at hn
    · rw [h6] at hc h5
      simp only [List.length_append, List.length_replicate] at hc h5
      exact ⟨g, cap, A, l, c, g2, cap2, g3, c3, h1, h2, h3, h4, he, hc, h5⟩
theorem row_get {w : World} {base g n cap : Nat} {l : List Int} (h : RI w base (.slice (some ⟨g, 0, none⟩) n cap) l) (k : Nat) (x : Int) (hx : l[k]? = some x) : w.cell? ⟨g, k, none⟩ = some (.int .i64 x) := by
  have h1 := Kd.own_of_R (enc := Value.int .i64) (h1 := fun _ => rfl) h
  have hk := (List.getElem?_eq_some_iff.1 hx).1
  rcases h1.2 with ⟨_, hz⟩ | ⟨g2, cap2, cur, he, hb, hh, hl, _, hs, ht⟩
  · omega
  · injection he with he
    injection he with he
    injection he with he
    subst he
    rw [cell_of_row _ _ _ _ _ _ hh]
    have e := congrArg (fun l => l[k]?) ht
    simp only [Nat.mul_one, encs, List.getElem?_map, hx, Option.map_some] at e
    rw [List.getElem?_take_of_lt hk, Array.getElem?_toList] at e
    exact e
end Go.Proofs.YtocijojjfcpaoaaDoor

/- What is owned: the walk. -/
set_option linter.unusedVariables false
set_option linter.unusedSimpArgs false
namespace Go.Proofs.YtocijojjfcpaoaaDoor
open Go.RowKit Go.Proofs.YtocijojjfcpaoaaDoorW.PrintWords Go.Proofs.YtocijojjfcpaoaaDoorW.PrintMore

set_option maxRecDepth 100000 in
set_option maxHeartbeats 4000000 in
theorem owned_any (w : World) (base : Nat) (t : Value) (ls : List (List Int)) (vs : List Value) (h : Told w base t ls vs) (hlo : base ≤ w.heap.size) (hmany : ls.length ≤ 2147483647) (hmost : ∀ x ∈ ls, x.length ≤ 2147483648) :
    Calls Tryd.prog 51 #[t] w fun e w' => e = .returned (.bool true) ∧ Below base w w' := by
  obtain ⟨n, hn⟩ : ∃ n, ls.length = n := ⟨_, rfl⟩
  obtain ⟨A, cap, rfl⟩ := h.len_slice
  rw [hn] at hmany h ⊢
  have H0 : Hid (Filled w w base n (.slice A n cap) vs 0 0 ls) := Lib.hid ⟨h, hn, Full.nil ls, hmost, Below.refl _ _⟩
  have HLO := Lib.hid hlo
  clear h hn hmost hlo
  go_enter Tryd.func51, Tryd.ntmps51
  go_wp2
  go_loopw [4] (fun v wr => ∃ (i : Nat) (ls : List (List Int)), i ≤ n ∧ v = .int .i64 i ∧ Hid (Filled w wr base n (.slice A n cap) vs i 0 ls)) (fun v _ => n - (intOf v).toNat)
  case atStart => exact ⟨0, ls, by omega, rfl, H0⟩
  case round =>
    clear H0 ls
    obtain ⟨i, ls, hi, rfl, H⟩ := hrel
    by_cases hlt : i < n
    · obtain ⟨wo, rfl⟩ : ∃ wo : World, wo = wr := ⟨_, rfl⟩
      obtain ⟨g, cap', A1, l, c, he, hl, hv, hc, hR⟩ := H.out.told.at_ i n H.out.len hlt
      injection he with he _ hce
      subst he; subst hce
      obtain ⟨m, hm⟩ : ∃ m, l.length = m := ⟨_, rfl⟩
      have hm1 : m ≤ 2147483648 := by rw [← hm]; exact H.out.most l (List.mem_of_getElem? hl)
      rw [hm] at hv hc
      have HI : Hid (∃ ls l, ls[i]? = some l ∧ l.length = m ∧ Filled w wo base n (.slice (some ⟨g, 0, none⟩) n cap) vs i 0 ls) := Lib.hid ⟨ls, l, hl, hm, H.out⟩
      have HV := Lib.hid hv
      clear hR H hl hm hc hv
      go_wp2
      go_loopw [5] (fun v wr => ∃ (k : Nat), k ≤ m ∧ v = .int .i64 k ∧ Hid (∃ ls l, ls[i]? = some l ∧ l.length = m ∧ Filled w wr base n (.slice (some ⟨g, 0, none⟩) n cap) vs i k ls)) (fun v _ => m - (intOf v).toNat)
      case atStart => exact ⟨0, by omega, rfl, HI⟩
      case round =>
        clear HI
        obtain ⟨k, hk, rfl, HK⟩ := hrel
        obtain ⟨ls2, l2, hl2, hm2, hF⟩ := HK.out
        obtain ⟨g2, cap2, A2, l3, c2, he, hl3, hv3, hc3, hR3⟩ := hF.told.at_ i n hF.len hlt
        injection he with he _ hce
        injection he with he
        injection he with he
        subst he; subst hce
        rw [hl2] at hl3
        obtain rfl := Option.some.inj hl3
        rw [hm2] at hc3 hR3 hv3
        have e1 := Option.some.inj (HV.out.symm.trans hv3)
        injection e1 with e2 _ e3
        subst e2; subst e3
        by_cases hkl : k < m
        · have hR4 := hR3
          rcases RI.form hR3 with ⟨hz, hn0⟩ | ⟨g3, cap3, hz, hle, hbg, hlt3⟩
          · rw [hn0] at hm2
            simp at hm2
            omega
          rw [hm2] at hz
          injection hz with hz1 _ hz3
          subst hz1; subst hz3
          obtain ⟨x0, hx0, hf0⟩ := row_cell hR4 k hkl
          have HF := Lib.hid hF
          have HL2 := Lib.hid hl2
          have HM2 := Lib.hid hm2
          have HV3 := Lib.hid hv3
          have HBG := Lib.hid hbg
          clear hF hl2 hm2 hv3 hR3 hR4 hle hbg hlt3
          go_wp2
          go_roundw
          case rel => exact ⟨k + 1, by omega, by go_num, Lib.hid ⟨_, _, List.getElem?_set_self (List.getElem?_eq_some_iff.1 HL2.out).1, by rw [List.length_set]; exact HM2.out, HF.out.put HV3.out HL2.out HBG.out⟩⟩
          case measure => simp [intOf]; omega
        · obtain rfl : k = m := by omega
          have HF := Lib.hid hF
          have HL2 := Lib.hid hl2
          have HM2 := Lib.hid hm2
          clear hF hl2 hm2 hv3 hR3
          go_wp2
          go_roundw
          case rel => exact ⟨i + 1, ls2, by omega, by go_num, Lib.hid (HF.out.next HL2.out (Nat.le_of_eq HM2.out))⟩
          case measure => simp [intOf]; omega
    · obtain rfl : i = n := by omega
      have hfull := H.out.full
      have hmost := H.out.most
      have HFULL := Lib.hid hfull
      have HMOST := Lib.hid hmost
      have hL0 : Long w wr base wr.heap.size wr.heap.size i (.slice A i cap) ls vs (.slice none 0 0) [] 0 := Long.start H.out.told H.out.len (Nat.le_trans HLO.out H.out.below.size) H.out.below
      obtain ⟨M0, hM0⟩ : ∃ M0, wr.heap.size = M0 := ⟨_, rfl⟩
      have HL0 : Hid (Long w wr base M0 wr.heap.size i (.slice A i cap) ls vs (.slice none 0 0) [] 0) := by rw [hM0] at hL0 ⊢; exact Lib.hid hL0
      have hfit : Hid ((i + 1) * 24 ≤ 140737488355328) := Lib.hid (by omega)
      obtain ⟨w1, rfl⟩ : ∃ w1 : World, w1 = wr := ⟨_, rfl⟩
      clear hM0 hL0 hfull hmost H HLO
      go_wp2
      go_loopw [3, 6] (fun y v wr2 => ∃ (j : Nat) (xs : List Value), j ≤ i ∧ v = .int .i64 j ∧ Hid (Long w wr2 base M0 wr2.heap.size i (.slice A i cap) ls vs y xs j)) (fun _ v _ => i - (intOf v).toNat)
      case atStart => exact ⟨0, [], by omega, rfl, HL0⟩
      case round =>
        clear HL0
        obtain ⟨j, xs, hj, rfl, HL⟩ := hrel
        by_cases hjl : j < i
        · obtain ⟨wo, rfl⟩ : ∃ wo : World, wo = wr := ⟨_, rfl⟩
          obtain ⟨y, rfl⟩ : ∃ y : Value, y = u3 := ⟨_, rfl⟩
          obtain ⟨g, cap', A1, l, c, he, hl, hv, hc, hR⟩ := HL.out.told.at_ j i HL.out.ll hjl
          injection he with he _ hce
          subst he; subst hce
          have hm1 : l.length ≤ 2147483648 := HMOST.out l (List.mem_of_getElem? hl)
          obtain ⟨M1, hM1⟩ : ∃ M1, wo.heap.size = M1 := ⟨_, rfl⟩
          have HG0 : Hid (Long w wo base M0 M1 i (.slice (some ⟨g, 0, none⟩) i cap) ls vs y xs j ∧ Grow wo base M1 (.slice A1 l.length c) (.slice A1 l.length c) l (List.replicate 0 (5000 + (j : Int)))) := by
            rw [← hM1]; exact Lib.hid ⟨HL.out, Grow.start hR (Nat.le_refl _)⟩
          have HU := Lib.hid hv
          have HLJ := Lib.hid hl
          have HM1 := Lib.hid hm1
          obtain ⟨u, hu⟩ : ∃ u, Value.slice A1 l.length c = u := ⟨_, rfl⟩
          rw [hu] at hc HG0 HU
          clear HL hR hl hv hM1 hm1 hu
          go_wp2
          go_loopw [7, 8] (fun x v w3 => ∃ (k : Nat), k ≤ 40 ∧ v = .int .i64 k ∧ Hid (Long w w3 base M0 M1 i (.slice (some ⟨g, 0, none⟩) i cap) ls vs y xs j ∧ Grow w3 base M1 u x l (List.replicate k (5000 + (j : Int))))) (fun _ v _ => 40 - (intOf v).toNat)
          case atStart => exact ⟨0, by omega, rfl, HG0⟩
          case round =>
            clear HG0
            obtain ⟨k, hk, rfl, HK⟩ := hrel
            by_cases hkl : k < 40
            · have hb8 : Hid (((l ++ List.replicate k (5000 + (j : Int))).length + 1) * 8 ≤ 140737488355328) := Lib.hid (by
                have := HM1.out
                simp only [List.length_append, List.length_replicate]
                omega)
              have hbs : Hid (base ≤ wr.heap.size) := Lib.hid (Nat.le_trans HK.out.1.bm (Nat.le_trans HK.out.1.more HK.out.1.size))
              go_wp2_with (first
                | ((with_reducible refine gate_dst (N := 52) rfl ?_); refine append_int base rfl (.tmp 48) (.tmp 51) 33 3 rfl rfl Tryd.underlying33 infoInt u7 (l ++ List.replicate k (5000 + (j : Int))) (5000 + (j : Int)) rfl rfl HK.out.2.rx hbs.out hb8.out ?_; intro v1 w4 ha; have H4 := Lib.hid (HK.out.1.grow HU.out HLJ.out HK.out.2 ha); clear ha))
              go_roundw
              case rel => exact ⟨k + 1, by omega, by go_num, Lib.hid (by have h5 := H4.out; rw [← List.replicate_succ'] at h5; exact h5)⟩
              case measure => simp [intOf]; omega
            · obtain rfl : k = 40 := by omega
              obtain ⟨A3, c3, hx7⟩ := Kd.R_slice HK.out.2.rx
              rw [List.length_append, List.length_replicate] at hx7
              subst hx7
              have hbs : Hid (M0 ≤ wr.heap.size) := Lib.hid (Nat.le_trans HK.out.1.more HK.out.1.size)
              have hfj : Hid ((j + 1) * 24 ≤ 140737488355328) := Lib.hid (by omega)
              go_wp2_with (first
                | ((with_reducible refine gate_dst (N := 56) rfl ?_); refine print_append_cells (w0 := wr) M0 rfl (.tmp 53) (.tmp 55) 48 33 (.slice none 0 0) 1 24 rfl Tryd.underlying48 infoInts rfl (by decide) (by decide) y j xs [_] rfl rfl rfl (fun u hu => by rw [List.mem_singleton.1 hu]; rfl) HK.out.1.own (Below.refl _ _) hbs.out hfj.out ?_; intro v1 w4 ho _ hg _; have H4 := Lib.hid (HK.out.1.push HU.out HLJ.out HK.out.2 ho hg); clear ho hg))
              go_roundw
              case rel => exact ⟨j + 1, _, by omega, by go_num, H4⟩
              case measure => simp [intOf]; omega
        · obtain rfl : i = j := by omega
          have H2 : Hid (∃ M, Long w wr base M0 M i (.slice A i cap) ls vs u3 xs i) := Lib.hid ⟨_, HL.out⟩
          have hlm : u3 = u3 := rfl
          clear HL hlm
          obtain ⟨w2, rfl⟩ : ∃ w2 : World, w2 = wr := ⟨_, rfl⟩
          go_wp2
          go_loop [9] (fun v => ∃ (p : Nat), p ≤ i ∧ v = .int .i64 p) (fun v => i - (intOf v).toNat)
          case atStart => exact ⟨0, by omega, rfl⟩
          case round =>
            obtain ⟨p, hp, rfl⟩ := hrel
            by_cases hpl : p < i
            · obtain ⟨M, HLM⟩ := H2.out
              obtain ⟨g, cap', A1, l, c, g2, cap2, g3, c3, he, hl, hc1, hR1, hy, hc2, hR2⟩ := HLM.at_ p hpl
              injection he with he _ hce
              subst he; subst hce; subst hy
              have HLL := Lib.hid hl
              have HR1 := Lib.hid hR1
              have HR2 := Lib.hid hR2
              obtain ⟨m, hm⟩ : ∃ m, l.length = m := ⟨_, rfl⟩
              have hm1 : m ≤ 2147483648 := by rw [← hm]; exact HMOST.out l (List.mem_of_getElem? hl)
              have HM := Lib.hid hm
              rw [hm] at hc1 hc2
              clear HLM hl hR1 hR2 hm
              go_wp2
              go_loop [10] (fun v => ∃ (q : Nat), q ≤ m + 40 ∧ v = .int .i64 q) (fun v => m + 40 - (intOf v).toNat)
              case atStart => exact ⟨0, by omega, rfl⟩
              case round =>
                obtain ⟨q, hq, rfl⟩ := hrel
                by_cases hql : q < m + 40
                · by_cases hqm : q < m
                  · have hx : l[q]? = some (1000 + (p : Int)) := by
                      have hq' : q < l.length := by rw [HM.out]; exact hqm
                      rw [List.getElem?_eq_getElem hq']
                      congr 1
                      exact ((HFULL.out p l HLL.out).1 hpl q _ (List.getElem?_eq_getElem hq'))
                    have hx2 : (l ++ List.replicate 40 (5000 + (p : Int)))[q]? = some (1000 + (p : Int)) := by
                      rw [List.getElem?_append_left (by rw [HM.out]; exact hqm)]; exact hx
                    have k2 := row_get HR2.out q _ hx2
                    rcases RI.form HR1.out with ⟨_, hz⟩ | ⟨g1, cc, hz, _⟩
                    · rw [hz] at hx; simp at hx
                    injection hz with hz1 _ hz3
                    subst hz1; subst hz3
                    have k1 := row_get HR1.out q _ hx
                    have d1 : decide ((q : Int) < m) = true := decide_eq_true (by omega)
                    have d2 : decide ((m : Int) ≤ q) = false := decide_eq_false (by omega)
                    have d3 : decide ((q : Int) < m + 40) = true := decide_eq_true (by omega)
                    have d4 : decide (q < m) = true := decide_eq_true (by omega)
                    have d5 : decide (m ≤ q) = false := decide_eq_false (by omega)
                    clear hx hx2
                    go_wp2
                    go_round
                    case rel => exact ⟨q + 1, by omega, by go_num⟩
                    case measure => simp [intOf]; omega
                  · have hx2 : (l ++ List.replicate 40 (5000 + (p : Int)))[q]? = some (5000 + (p : Int)) := by
                      rw [List.getElem?_append_right (by rw [HM.out]; omega), List.getElem?_replicate, if_pos (by rw [HM.out]; omega)]
                    have k2 := row_get HR2.out q _ hx2
                    have d1 : decide ((q : Int) < m) = false := decide_eq_false (by omega)
                    have d2 : decide ((m : Int) ≤ q) = true := decide_eq_true (by omega)
                    have d3 : decide ((q : Int) < m + 40) = true := decide_eq_true (by omega)
                    have d4 : decide (q < m) = false := decide_eq_false (by omega)
                    have d5 : decide (m ≤ q) = true := decide_eq_true (by omega)
                    clear hx2
                    go_wp2
                    go_round
                    case rel => exact ⟨q + 1, by omega, by go_num⟩
                    case measure => simp [intOf]; omega
                · obtain rfl : q = m + 40 := by omega
                  have d3 : decide (((m + 40 : Nat) : Int) < m + 40) = false := decide_eq_false (by omega)
                  go_wp2
                  go_round
                  case rel => exact ⟨p + 1, by omega, by go_num⟩
                  case measure => simp [intOf]; omega
            · obtain rfl : i = p := by omega
              have HB : Hid (Below base w w2) := Lib.hid (H2.out.elim fun M h => h.below)
              go_wp2
              go_ret
              exact ⟨rfl, HB.out⟩
end Go.Proofs.YtocijojjfcpaoaaDoor

/- CharExact: the walk. -/
set_option linter.unusedVariables false
set_option linter.unusedSimpArgs false
namespace Go.Proofs.YtocijojjfcpaoaaDoor
open Go.RowKit Go.Proofs.YtocijojjfcpaoaaDoorW.PrintWords Go.Proofs.YtocijojjfcpaoaaDoorW.PrintMore

theorem one_any (w : World) (base : Nat) (k : Int) (s : ByteArray) (at_ : Int) (A : Option Addr) (c : Nat) (l : List Int) (t h : Value) (ls : List (List Int)) (vs : List Value) (H : OneIn w base s A c l t h ls vs) :
    Calls Tryd.prog 50 #[.agg #[.int .i64 k, .string s, .int .i64 at_, .slice A l.length c], t, h] w fun e w' => OnePost base w ls e w' := by
  by_cases hk : 1 ≤ k ∧ k ≤ 8
  · have : k = 1 ∨ k = 2 ∨ k = 3 ∨ k = 4 ∨ k = 5 ∨ k = 6 ∨ k = 7 ∨ k = 8 := by omega
    rcases this with rfl | rfl | rfl | rfl | rfl | rfl | rfl | rfl
    · exact one_1 w base s at_ A c l t h ls vs H
    · exact one_2 w base s at_ A c l t h ls vs H
    · exact one_3 w base s at_ A c l t h ls vs H
    · exact one_4 w base s at_ A c l t h ls vs H
    · exact one_5 w base s at_ A c l t h ls vs H
    · exact one_6 w base s at_ A c l t h ls vs H
    · exact one_7 w base s at_ A c l t h ls vs H
    · exact one_8 w base s at_ A c l t h ls vs H
  · exact one_0 w base k s at_ A c l t h ls vs H hk

/-- What stands in the script. -/
def OpsAt (W : World) (A : Option Addr) (n : Nat) : Prop :=
  ∀ i, i < n → ∃ (ad : Addr) (k : Int) (s : ByteArray) (at_ : Int) (Al : Option Addr) (c : Nat) (l : List Int), A = some ad ∧ W.cell? (ad.add (i * 4)) = some (.int .i64 k) ∧ W.cell? ⟨(ad.add (i * 4)).block, (ad.add (i * 4)).off + 1, none⟩ = some (.string s) ∧ W.cell? ⟨(ad.add (i * 4)).block, (ad.add (i * 4)).off + 2, none⟩ = some (.int .i64 at_) ∧ W.cell? ⟨(ad.add (i * 4)).block, (ad.add (i * 4)).off + 3, none⟩ = some (.slice Al l.length c) ∧ CI W Al l ∧ l.length ≤ c ∧ s.size ≤ 9223372036854775807 ∧ l.length ≤ 9223372036854775807
/-- A part of it that is small. -/
def OpsSmall (W : World) (A : Option Addr) (i : Nat) : Prop :=
  ∀ j, j < i → ∃ (ad : Addr) (s : ByteArray) (Al : Option Addr) (c : Nat) (l : List Int), A = some ad ∧ W.cell? ⟨(ad.add (j * 4)).block, (ad.add (j * 4)).off + 1, none⟩ = some (.string s) ∧ W.cell? ⟨(ad.add (j * 4)).block, (ad.add (j * 4)).off + 3, none⟩ = some (.slice Al l.length c) ∧ s.size ≤ 2147483647 ∧ l.length ≤ 2147483647

def addS (n k : Int) : Int := if 2147483647 < n ∨ 2147483647 < k then 2147483648 else n + k
theorem addS_ge {n k : Int} (h0 : 0 ≤ n) (h1 : 0 ≤ k) : 0 ≤ addS n k ∧ (addS n k ≤ 2147483647 → n ≤ 2147483647 ∧ k ≤ 2147483647) := by
  unfold addS
  split <;> omega
set_option maxRecDepth 100000 in
theorem add_any (n k : Int) (w : World) (h0 : 0 ≤ n) (h1 : 0 ≤ k) (h2 : n ≤ 9223372036854775807) (h3 : k ≤ 9223372036854775807) : Calls Tryd.prog 49 #[.int .i64 n, .int .i64 k] w fun e w' => e = .returned (.int .i64 (addS n k)) ∧ w' = w := by
  by_cases a : 2147483647 < n
  · have d : decide (2147483647 < n) = true := decide_eq_true a
    have hs : addS n k = 2147483648 := by unfold addS; rw [if_pos (.inl a)]
    rw [hs]
    clear hs a
    go_enter Tryd.func49, Tryd.ntmps49
    go_wp2
    try (go_quiet (fail))
    try go_wp2
    go_ret
    exact ⟨rfl, rfl⟩
  · have d : decide (2147483647 < n) = false := decide_eq_false a
    by_cases b : 2147483647 < k
    · have d2 : decide (2147483647 < k) = true := decide_eq_true b
      have hs : addS n k = 2147483648 := by unfold addS; rw [if_pos (.inr b)]
      rw [hs]
      clear hs a b
      go_enter Tryd.func49, Tryd.ntmps49
      go_wp2
      try (go_quiet (fail))
      try go_wp2
      go_ret
      exact ⟨rfl, rfl⟩
    · have d2 : decide (2147483647 < k) = false := decide_eq_false b
      have hs : addS n k = n + k := by unfold addS; rw [if_neg (by omega)]
      rw [hs]
      have a1 : n ≤ 2147483647 := by omega
      have b1 : k ≤ 2147483647 := by omega
      clear hs a b
      go_enter Tryd.func49, Tryd.ntmps49
      go_wp2
      try (go_quiet (fail))
      try go_wp2
      go_ret
      exact ⟨rfl, rfl⟩

set_option maxRecDepth 100000 in
set_option maxHeartbeats 4000000 in
theorem charExact_walk (A : Option Addr) (n cap : Nat) (w : World) (hS : OpsAt w A n) (hnn : n ≤ 9223372036854775807) (hu : Utf8 w) :
    Calls Tryd.prog 17 #[.slice A n cap] w fun e w' => e = .returned (.bool true) ∧ Below w.heap.size w w' := by
  have h6 : 6 ≤ w.heap.size := World.block_lt_of_cell? w _ (hu.2 0 (by decide)).1
  have HS := Lib.hid hS
  have HU := Lib.hid hu
  have H6 := Lib.hid h6
  have a0 := addS_ge (n := n) (k := 0) (by omega) (by omega)
  obtain ⟨z0, hz0⟩ : ∃ z, addS n 0 = z := ⟨_, rfl⟩
  have CA : Hid (Calls Tryd.prog 49 #[.int .i64 n, .int .i64 0] w fun e w' => e = .returned (.int .i64 z0) ∧ w' = w) := Lib.hid (by rw [← hz0]; exact add_any n 0 w (by omega) (by omega) (by omega) (by omega))
  have hz1 : z0 ≤ 4294967294 := by rw [← hz0]; unfold addS; split <;> omega
  rw [hz0] at a0
  obtain ⟨a01, a02⟩ := a0
  have A02 := Lib.hid a02
  clear hS hu h6 hz0 a02
  go_enter Tryd.func17, Tryd.ntmps17
  go_wp2_with (first
    | (go_at_call 49; (with_reducible refine CA.out.mono ?_); rintro e w' ⟨rfl, hw⟩; obtain rfl : w = w' := hw.symm))
  have HSM : Hid (z0 ≤ 2147483647 → (n : Int) ≤ 2147483647 ∧ OpsSmall w A 0) := Lib.hid fun h => ⟨(A02.out h).1, fun j hj => by omega⟩
  clear CA A02
  go_loopw [3, 4] (fun v3 v4 wr => ∃ (i : Nat) (z : Int), i ≤ n ∧ v4 = .int .i64 i ∧ v3 = .int .i64 z ∧ 0 ≤ z ∧ z ≤ 4294967294 ∧ Hid (z ≤ 2147483647 → (n : Int) ≤ 2147483647 ∧ OpsSmall w A i) ∧ Drawn0 w wr) (fun _ v _ => n - (intOf v).toNat)
  case atStart => exact ⟨0, z0, by omega, rfl, rfl, a01, hz1, HSM, Drawn0.refl _⟩
  case round =>
    clear HSM a01 hz1
    obtain ⟨i, z, hi, rfl, rfl, hz0, hz1, HZ, HD⟩ := hrel
    have HBW := Lib.hid HD.below
    by_cases hgo : i < n ∧ z ≤ 2147483647
    · obtain ⟨hlt, hzl⟩ := hgo
      obtain ⟨ad, k, s, at_, Al, c, l, rfl, x0, x1, x2, x3, hC, hc, hs1, hl1⟩ := HS.out i hlt
      have d1 : decide ((i : Int) < n) = true := decide_eq_true (by omega)
      have d2 : decide (z ≤ 2147483647) = true := decide_eq_true hzl
      have hq := addS_ge (n := s.size) (k := l.length) (by omega) (by omega)
      have hq1 : addS s.size l.length ≤ 4294967294 := by unfold addS; split <;> omega
      obtain ⟨hq2, hq3⟩ := hq
      have hr := addS_ge (n := z) (k := addS s.size l.length) (by omega) (by omega)
      have hr1 : addS z (addS s.size l.length) ≤ 4294967294 := by
        generalize addS s.size l.length = q at *
        unfold addS; split <;> omega
      obtain ⟨hr2, hr3⟩ := hr
      have HNEXT : Hid (addS z (addS s.size l.length) ≤ 2147483647 → (n : Int) ≤ 2147483647 ∧ OpsSmall w (some ad) (i + 1)) := Lib.hid fun hr4 => by
        obtain ⟨h1, h2⟩ := hr3 hr4
        obtain ⟨h3, h4⟩ := hq3 h2
        obtain ⟨h5, h6⟩ := HZ.out h1
        refine ⟨h5, fun j hj => ?_⟩
        by_cases hji : j < i
        · exact h6 j hji
        · obtain rfl : j = i := by omega
          exact ⟨ad, s, Al, c, l, rfl, x1, x3, by omega, by omega⟩
      have y1 := pw_cell_below HBW.out x1
      have y3 := pw_cell_below HBW.out x3
      have b1 : (0 : Int) ≤ (i : Int) := by omega
      have b2 : (i : Int) < (n : Int) := by omega
      clear hC hc hq3 hr3 x0 x1 x2 x3
      go_wp2
      go_quiet ((go_at_call 49; exact Calls.quiet_of_same (add_any _ _ _ (by omega) (by omega) (by omega) (by omega))))
      go_wp2
      go_roundw
      case rel => exact ⟨i + 1, addS z (addS s.size l.length), by omega, by go_num, rfl, hr2, hr1, HNEXT, by repeat (first | exact HD | apply Drawn0.step)⟩
      case measure => simp [intOf]; omega
    · by_cases hzl : z ≤ 2147483647
      · obtain rfl : n = i := by omega
        have d1 : decide ((n : Int) < n) = false := decide_eq_false (by omega)
        have d2 : decide (2147483647 < z) = false := decide_eq_false (by omega)
        obtain ⟨hnm, hsm⟩ := HZ.out hzl
        have HSM := Lib.hid hsm
        have hn2 : n ≤ 2147483647 := by omega
        obtain ⟨W, rfl⟩ : ∃ W, W = wr := ⟨_, rfl⟩
        have hb0 : Below w.heap.size w W := HBW.out
        have HB0 := Lib.hid hb0
        have HT0 : Hid (∃ (ls : List (List Int)) (vs : List Value), Told W w.heap.size (.slice none 0 0) ls vs ∧ Want W w.heap.size (.slice none 0 0) (.slice none 0 0) ls ∧ ls.length ≤ 0 ∧ (∀ x ∈ ls, x.length ≤ 2147483648) ∧ Below w.heap.size w W) := Lib.hid ⟨[], [], Told.nil _ _, Want.nil _ _ _, Nat.le_refl _, (fun x hx => by cases hx), hb0⟩
        clear hnm hsm HZ hgo hzl hz0 hz1 hi hnn hb0
        go_wp2
        go_loopw [5, 6, 7] (fun v5 v6 v7 wr => ∃ (i : Nat), i ≤ n ∧ v7 = .int .i64 i ∧ Hid (∃ (ls : List (List Int)) (vs : List Value), Told wr w.heap.size v5 ls vs ∧ Want wr w.heap.size v5 v6 ls ∧ ls.length ≤ i ∧ (∀ x ∈ ls, x.length ≤ 2147483648) ∧ Below w.heap.size w wr)) (fun _ _ v _ => n - (intOf v).toNat)
        case atStart => exact ⟨0, by omega, rfl, HT0⟩
        case round =>
          clear HT0
          obtain ⟨i, hi, rfl, HR⟩ := hrel
          by_cases hlt : i < n
          · obtain ⟨ls, vs, hT, hWt, hlen, hmost, hB⟩ := HR.out
            obtain ⟨ad, k, s, at_, Al, c, l, rfl, x0, x1, x2, x3, hC, hc, hs1, hl1⟩ := HS.out i hlt
            obtain ⟨ad', s', Al', c', l', he', y1, y3, hss, hll⟩ := HSM.out i hlt
            obtain rfl := Option.some.inj he'
            have e1 := Option.some.inj (y1.symm.trans x1)
            have e3 := Option.some.inj (y3.symm.trans x3)
            injection e1 with e1
            injection e3 with _ e3 _
            subst e1
            have HIN : Hid (OneIn wr w.heap.size s' Al c l u5 u6 ls vs) := Lib.hid ⟨hT, hWt, hB.size, H6.out, utf8_below' HU.out hB H6.out, hss, Kd.C_below hC hB, hc, by omega, by omega, hmost⟩
            have hlt1 : decide ((i : Int) < n) = true := decide_eq_true (by omega)
            replace x0 := pw_cell_below hB x0
            replace x1 := pw_cell_below hB x1
            replace x2 := pw_cell_below hB x2
            replace x3 := pw_cell_below hB x3
            have HBB := Lib.hid hB
            have HLN := Lib.hid hlen
            clear hT hWt hlen hmost hB hC hc hs1 hl1 y1 y3 hss hll e3 HR
            go_wp2_with (first
              | (go_at_call 50; (with_reducible refine (one_any _ w.heap.size k s' at_ Al c l u5 u6 ls vs HIN.out).mono ?_); rintro e w2 ⟨t2, h2, ls2, vs2, rfl, hT2, hW2, hl2, hm2, hb2⟩; have H2 : Hid (∃ (ls : List (List Int)) (vs : List Value), Told w2 w.heap.size t2 ls vs ∧ Want w2 w.heap.size t2 h2 ls ∧ ls.length ≤ i + 1 ∧ (∀ x ∈ ls, x.length ≤ 2147483648) ∧ Below w.heap.size w w2) := Lib.hid ⟨ls2, vs2, hT2, hW2, (by have := HLN.out; omega), hm2, HBB.out.trans hb2⟩; clear hT2 hW2 hl2 hm2 hb2))
            go_roundw
            case rel => exact ⟨i + 1, by omega, by go_num, H2⟩
            case measure => simp [intOf]; omega
          · obtain rfl : n = i := by omega
            obtain ⟨ls, vs, hT, hWt, hlen, hmost, hB⟩ := HR.out
            obtain ⟨L, hL⟩ : ∃ L, ls.length = L := ⟨_, rfl⟩
            have hL1 : L ≤ 2147483647 := by omega
            obtain ⟨A5, c5, h5⟩ := hT.len_slice
            obtain ⟨A6, c6, h6⟩ := Kd.R_slice hWt
            rw [hL] at h5 h6
            subst h5; subst h6
            have HL := Lib.hid hL
            have HMO := Lib.hid hmost
            have HC : Hid (Told wr w.heap.size (.slice A5 L c5) ls vs ∧ Want wr w.heap.size (.slice A5 L c5) (.slice A6 L c6) ls ∧ Below w.heap.size w wr) := Lib.hid ⟨hT, hWt, hB⟩
            have hlt1 : decide ((n : Int) < n) = false := decide_eq_false (by omega)
            clear hT hWt hlen hmost hB hL HR
            go_wp2
            go_loopw [11] (fun v wr => ∃ p : Nat, p ≤ L ∧ v = .int .i64 p ∧ Hid (Told wr w.heap.size (.slice A5 L c5) ls vs ∧ Want wr w.heap.size (.slice A5 L c5) (.slice A6 L c6) ls ∧ Below w.heap.size w wr)) (fun v _ => L - (intOf v).toNat)
            case atStart => exact ⟨0, by omega, rfl, HC⟩
            case round =>
              clear HC
              obtain ⟨p, hp, rfl, HC⟩ := hrel
              by_cases hpl : p < L
              · obtain ⟨g, cap', A1, l, c1, he, hl, _, hc1, hR1⟩ := HC.out.1.at_ p L HL.out hpl
                injection he with he _ hce
                subst he; subst hce
                obtain ⟨ad, cs, e6, _, hK, hcs⟩ := Kd.C_get (Kd.R_reads' HC.out.2.1).2.2 ([] : List Int) (p : Int) (by omega) (by have := HL.out; omega)
                subst e6
                obtain ⟨A2, c2, rfl, l2, g2⟩ := hK
                have hc2 := hcs 0 _ rfl
                rw [Int.toNat_natCast] at hc2 l2 g2
                have hgd : ls.getD p [] = l := by simp [List.getD, hl]
                rw [hgd] at hc2 l2 g2
                have hc2' : wr.cell? (ad.add p) = some (.slice A2 l.length c2) := by
                  have hz : p * (Kd.slice 3 (Kd.int .i64)).sz + 0 = p := by show p * 1 + 0 = p; omega
                  rwa [hz] at hc2
                have hlm := HMO.out l (List.mem_of_getElem? hl)
                have CS : Hid (∀ w', Below wr.heap.size wr w' → Calls Tryd.prog 28 #[.slice A1 l.length c1, .slice A2 l.length c2] w' fun e w'' => e = .returned (.bool true) ∧ Below w'.heap.size w' w'') := Lib.hid fun w' hb => same_calls A1 c1 A2 c2 l w' (Kd.R_reads' (Kd.R_below hR1 hb)).2.2 (Kd.R_reads' hR1).2.1 (Kd.C_below g2 hb) l2 (by omega)
                have HLO : Hid (w.heap.size ≤ wr.heap.size) := Lib.hid HC.out.2.2.size
                have b1 : (0 : Int) ≤ (p : Int) := by omega
                have b2 : (p : Int) < (L : Int) := by omega
                clear hl hR1 hcs hc2 hgd l2 g2 hlm
                go_wp2
                have HB0 : Hid (Below wr.heap.size wr wr.drew) := Lib.hid (Below.refl _ _).drew
                have hd1 := pw_cell_below HB0.out hc1
                have hd2 := pw_cell_below HB0.out hc2'
                go_region_held3 (fun w' => w'.cell? ⟨g, p, none⟩ = some (.slice A1 l.length c1) ∧ w'.cell? (ad.add p) = some (.slice A2 l.length c2)) (first | exact ⟨hd1, hd2⟩ | exact ⟨he1, he2⟩ | go_keep)
                  (first | (go_at_call 28; (with_reducible refine (CS.out _ HB0.out).mono ?_); rintro e w2 ⟨rfl, hb⟩; have hb2 := HB0.out.trans (hb.mono (Nat.le_refl _)); have HB2 := Lib.hid hb2; have he1 := pw_cell_below HB2.out hc1; have he2 := pw_cell_below HB2.out hc2'; clear hb hb2))
                go_wp2
                go_roundw
                case rel => exact ⟨p + 1, by omega, by go_num, Lib.hid ⟨HC.out.1.below HB2.out, HC.out.2.1.below HB2.out, HC.out.2.2.trans (HB2.out.mono HLO.out)⟩⟩
                case measure => simp [intOf]; omega
              · obtain rfl : L = p := by omega
                have CO : Hid (Calls Tryd.prog 51 #[.slice A5 L c5] wr fun e w' => e = .returned (.bool true) ∧ Below w.heap.size wr w') := Lib.hid (owned_any wr w.heap.size _ ls vs HC.out.1 HC.out.2.2.size (by rw [HL.out]; exact hL1) HMO.out)
                have HB3 := Lib.hid HC.out.2.2
                have hlt3 : decide ((L : Int) < L) = false := decide_eq_false (by omega)
                go_wp2_with (first
                  | (go_at_call 51; (with_reducible refine CO.out.mono ?_); rintro e w2 ⟨rfl, hb⟩; have HB4 := Lib.hid (HB3.out.trans hb); clear hb)
                  | (go_at_call 29; (with_reducible refine (awake01 _ (utf8_below' HU.out HB4.out H6.out)).mono ?_); rintro e w3 ⟨rfl, hb⟩; have HB5 := Lib.hid (HB4.out.trans (hb.mono HB4.out.size)); clear hb))
                go_ret
                exact ⟨rfl, HB5.out⟩
      · have d2 : decide (2147483647 < z) = true := decide_eq_true (by omega)
        have d3 : decide (z ≤ 2147483647) = false := decide_eq_false (by omega)
        by_cases hlt : i < n
        · have d1 : decide ((i : Int) < n) = true := decide_eq_true (by omega)
          go_wp2
          go_ret
          exact ⟨rfl, HBW.out⟩
        · have d1 : decide ((i : Int) < n) = false := decide_eq_false (by omega)
          go_wp2
          go_ret
          exact ⟨rfl, HBW.out⟩
end Go.Proofs.YtocijojjfcpaoaaDoor

/- The script of CharExact, read. -/
set_option linter.unusedVariables false
set_option linter.unusedSimpArgs false
namespace Go.Proofs.YtocijojjfcpaoaaDoor
open Go.RowKit Go.ChangeShapes Go.Deep Go.Proofs.YtocijojjfcpaoaaDoorW.PrintWords

theorem op_struct : Tryd.prog.underlying 47 = some (.struct #[⟨"Kind", 3, 0, false, "", "", 0⟩, ⟨"S", 9, 1, false, "", "", 8⟩, ⟨"At", 3, 2, false, "", "", 24⟩, ⟨"L", 33, 3, false, "", "", 32⟩]) := by kernel_rfl
theorem ops_arg {H : Type} {enc : TypeId × Value → H} {W : World} {a0 : Option Addr} {len cap : Nat} {d : DataW H} {ps : List MemPlace} (h : DataW.Trod enc Tryd.prog W 0 (fun _ => true) true 44 (.slice a0 len cap) d ps) : OpsAt W a0 len ∧ len ≤ 9223372036854775807 := by
  obtain ⟨fuel, hf⟩ := h
  rcases open_slice Tryd.underlying44 hf with ⟨hcs, hx⟩ | ⟨a, len', cap', m, n, D, Pl, hcs, _, hl, hm, hmm, hx, hel⟩
  · simp [Value.cells] at hcs
    obtain ⟨rfl, rfl, rfl⟩ := hcs
    exact ⟨fun i hi => by omega, by omega⟩
  · simp [Value.cells] at hcs
    obtain ⟨rfl, rfl, rfl⟩ := hcs
    simp only [if_true] at hmm
    refine ⟨fun i hi => ?_, by unfold maxLen at hm; omega⟩
    obtain ⟨cs', hc, ht⟩ := hel i (by omega)
    have hce : Tryd.prog.cellsOf 47 = 4 := by kernel_rfl
    have hci : Tryd.prog.cellsOf 3 = 1 := by kernel_rfl
    have hcb : Tryd.prog.cellsOf 9 = 1 := by kernel_rfl
    have hcl : Tryd.prog.cellsOf 33 = 1 := by kernel_rfl
    rw [hce] at hc
    obtain ⟨hb, hlen, hcell⟩ := World.cells?_some hc
    obtain ⟨xs, n', _, _, hlc, hxs, hfs⟩ := DataW.trod_struct op_struct ht
    have g0 := hfs 0 ⟨"Kind", 3, 0, false, "", "", 0⟩ rfl
    have g1 := hfs 1 ⟨"S", 9, 1, false, "", "", 8⟩ rfl
    have g2 := hfs 2 ⟨"At", 3, 2, false, "", "", 24⟩ rfl
    have g3 := hfs 3 ⟨"L", 33, 3, false, "", "", 32⟩ rfl
    match cs', hlen with
    | [c0, c1, c2, c3], _ =>
      dsimp only at g0 g1 g2 g3
      rw [hci] at g0 g2
      rw [hcb] at g1
      rw [hcl] at g3
      match xs, hxs with
      | [x0, x1, x2, x3], _ =>
        obtain ⟨z0, e0, _, w0⟩ := DataW.trod_int Tryd.underlying3 g0
        obtain ⟨z1, e1, _, w1⟩ := DataW.trod_string Tryd.underlying9 g1
        obtain ⟨z2, e2, _, w2⟩ := DataW.trod_int Tryd.underlying3 g2
        have e3 : ∃ Al ll cl, c3 = .slice Al ll cl := by
          rcases DataW.trod_slice Tryd.underlying33 g3 with ⟨h, _⟩ | ⟨a', l', c', _, _, _, _, h, _⟩
          · simp at h; exact ⟨_, _, _, h⟩
          · simp at h; exact ⟨_, _, _, h⟩
        obtain ⟨Al, ll, cl, rfl⟩ := e3
        simp at e0 e1 e2 g3
        subst e0 e1 e2
        have k0 := hcell 0 (by omega)
        have k1 := hcell 1 (by omega)
        have k2 := hcell 2 (by omega)
        have k3 := hcell 3 (by omega)
        have a0 : ((a.add (i * 4)).add 0) = a.add (i * 4) := by simp [Addr.add]
        rw [a0] at k0
        obtain ⟨l, hll, hCl, hcl2, _, hwf⟩ := ints_arg (H := H) (enc := enc) (d := x3.1) (ps := x3.2) ⟨n', g3⟩
        subst hll
        have hl63 : l.length ≤ 9223372036854775807 := by
          have := hCl.2.1
          omega
        exact ⟨a, z0, z1, z2, Al, cl, l, rfl, k0, k1, k2, k3, hCl, hcl2, by unfold maxLen at w1; omega, hl63⟩
end Go.Proofs.YtocijojjfcpaoaaDoor
