/- The document's classes, as printed, are those of the plain text. -/
import Derived.Test.YtocijojjfcpaoaaDoorRB1K
import Derived.Test.YtocijojjfcpaoaaDoorName
import Derived.Test.YtocijojjfcpaoaaDoorSign
set_option linter.unusedVariables false
namespace Go.Proofs.YtocijojjfcpaoaaDoor.PClassTexts
open Go.RowKit Go.Proofs.YtocijojjfcpaoaaDoorW.PrintWords
open Go.Proofs.YtocijojjfcpaoaaDoor.Pl (pts runes runes_step runes_end dec_pos dec_in inRanges valid isLetter isPart isKey keys isName parts sign signOf twoSigns oneSigns)

def flat (l : List (Int × Int)) : List Int := l.flatMap fun r => [r.1, r.2]
theorem flat_length (l : List (Int × Int)) : (flat l).length = 2 * l.length := by
  induction l with
  | nil => rfl
  | cons r l ih => simp only [flat, List.flatMap_cons, List.length_append, List.length_cons, List.length_nil] at *; omega
theorem flat_at (l : List (Int × Int)) (i : Nat) (h : i < l.length) : rd (flat l) ((2 * i : Nat) : Int) = l[i].1 ∧ rd (flat l) ((2 * i + 1 : Nat) : Int) = l[i].2 := by
  unfold rd
  rw [Int.toNat_natCast, Int.toNat_natCast]
  induction l generalizing i with
  | nil => simp at h
  | cons r l ih =>
    cases i with
    | zero => simp [flat]
    | succ i =>
      have := ih i (by simpa using h)
      have e : 2 * (i + 1) = (2 * i) + 2 := by omega
      rw [e]
      simpa [flat] using this

theorem in_loop (l : List (Int × Int)) (p : Int) (hl : l.length ≤ 100) : ∀ (d i k : Nat), l.length - i ≤ d → i ≤ l.length → d + 1 ≤ k → colophonref04_in.l0 k p (flat l) ((2 * i : Nat) : Int) = some (inRanges (l.drop i) p) := by
  intro d
  induction d with
  | zero =>
    intro i k hd hi hk
    obtain ⟨k, rfl⟩ : ∃ m, k = m + 1 := ⟨k - 1, by omega⟩
    have hf := flat_length l
    simp only [colophonref04_in.l0]
    rw [w64 (by omega) (by omega), if_neg (by omega), List.drop_of_length_le (by omega)]; rfl
  | succ d ih =>
    intro i k hd hi hk
    obtain ⟨k, rfl⟩ : ∃ m, k = m + 1 := ⟨k - 1, by omega⟩
    have hf := flat_length l
    simp only [colophonref04_in.l0]
    by_cases h : i < l.length
    · have ha := flat_at l i h
      have e1 : wrap64 (((2 * i : Nat) : Int) + 1) = ((2 * i + 1 : Nat) : Int) := by rw [w64 (by omega) (by omega)]; omega
      have e2 : wrap64 (((2 * i : Nat) : Int) + 2) = ((2 * (i + 1) : Nat) : Int) := by rw [w64 (by omega) (by omega)]; omega
      have hr := ih (i + 1) k (by omega) (by omega) (by omega)
      rw [e1, e2]
      simp only [ha.1, ha.2, hr]
      have hs : inRanges (l.drop i) p = ((decide (l[i].1 ≤ p) && decide (p ≤ l[i].2)) || inRanges (l.drop (i + 1)) p) := by rw [List.drop_eq_getElem_cons h]; rfl
      rw [if_pos (by omega), if_pos (by omega), if_pos (by omega), hs]
      by_cases c1 : l[i].1 ≤ p
      · rw [if_pos (show p ≥ l[i].1 from c1), if_pos (by omega)]
        by_cases c2 : p ≤ l[i].2
        · rw [if_pos c2]; simp [c1, c2]
        · rw [if_neg c2]; simp [c2]
      · rw [if_neg (by omega)]; simp [c1]
    · rw [w64 (by omega) (by omega), if_neg (by omega), List.drop_of_length_le (by omega)]; rfl

theorem in_eq (l : List (Int × Int)) (p : Int) (k : Nat) (hl : l.length ≤ 100) (hk : l.length + 1 ≤ k) : colophonref04_in.f k p (flat l) = some (inRanges l p) := by
  unfold colophonref04_in.f
  exact in_loop l p hl l.length 0 k (by omega) (by omega) (by omega)

theorem letter_eq (p : Int) (k : Nat) (hk : 20 ≤ k) : colophonref04_Letter.f k p = some (isLetter p) := by
  unfold colophonref04_Letter.f
  rw [show ([65, 90, 97, 122, 192, 214, 216, 246, 248, 591, 913, 929, 931, 974, 1024, 1119, 1488, 1514, 1568, 1610, 2308, 2361, 12353, 12438, 12449, 12538, 19968, 40959, 44032, 55203, 66560, 66639, 131072, 196607] : List Int) = flat Pl.letters from rfl,
    in_eq _ _ _ (by decide) (by have : Pl.letters.length = 17 := rfl; omega)]
  rfl

theorem part_eq (p : Int) (k : Nat) (hk : 20 ≤ k) : colophonref04_Part.f k p = some (isPart p) := by
  unfold colophonref04_Part.f
  rw [letter_eq p k hk, show ([48, 57, 95, 95, 768, 879] : List Int) = flat Pl.others from rfl,
    in_eq _ _ _ (by decide) (by have : Pl.others.length = 3 := rfl; omega)]
  simp only [Option.bind_some]
  unfold isPart isLetter
  by_cases h : inRanges Pl.letters p = true
  · rw [if_pos h, h, Bool.or_true]
  · rw [if_neg h, Bool.eq_false_iff.2 h, Bool.or_false]

theorem toList_iff (a b : ByteArray) : a.toList = b.toList ↔ a = b := by
  rw [ByteArray.toList_eq, ByteArray.toList_eq]
  constructor
  · intro h
    exact ByteArray.ext (Array.toList_inj.1 h)
  · rintro rfl; rfl

theorem key_loop (l : List ByteArray) (s : ByteArray) (hl : l.length ≤ 100) : ∀ (d i k : Nat), l.length - i ≤ d → i ≤ l.length → d + 1 ≤ k → colophonref04_IsKey.l0 k s l (i : Int) = some (Lib.containsS (l.drop i) s) := by
  intro d
  induction d with
  | zero =>
    intro i k hd hi hk
    obtain ⟨k, rfl⟩ : ∃ m, k = m + 1 := ⟨k - 1, by omega⟩
    simp only [colophonref04_IsKey.l0]
    rw [if_neg (by omega), List.drop_of_length_le (by omega)]; rfl
  | succ d ih =>
    intro i k hd hi hk
    obtain ⟨k, rfl⟩ : ∃ m, k = m + 1 := ⟨k - 1, by omega⟩
    simp only [colophonref04_IsKey.l0]
    by_cases h : i < l.length
    · have e2 : wrap64 ((i : Int) + 1) = ((i + 1 : Nat) : Int) := by rw [w64 (by omega) (by omega)]; omega
      have hr := ih (i + 1) k (by omega) (by omega) (by omega)
      have hg : rdOf ByteArray.empty l (i : Int) = l[i] := by unfold rdOf; simp [h]
      rw [e2, if_pos (by omega), if_pos (by omega), hg, hr, List.drop_eq_getElem_cons h]
      by_cases c : l[i] = s
      · rw [if_pos ((toList_iff _ _).2 c), (Lib.containsS_iff _ _).2 (by rw [c]; exact List.mem_cons_self)]
      · rw [if_neg (fun e => c ((toList_iff _ _).1 e)), Option.some_inj, Bool.eq_iff_iff, Lib.containsS_iff, Lib.containsS_iff, List.mem_cons]
        exact ⟨fun h => Or.inr h, fun h => h.elim (fun e => absurd e.symm c) id⟩
    · rw [if_neg (by omega), List.drop_of_length_le (by omega)]; rfl

theorem keys_eq : colophonref04_Keys.f = some keys := rfl

theorem isKey_eq (s : ByteArray) (k : Nat) (hk : 30 ≤ k) : colophonref04_IsKey.f k s = some (isKey s) := by
  unfold colophonref04_IsKey.f
  rw [keys_eq]
  simp only [Option.bind_some]
  have h := key_loop keys s (by decide) 24 0 k (by decide) (by omega) (by omega)
  rw [List.drop_zero] at h
  exact h

theorem letter_part {p : Int} (h : isLetter p = true) : isPart p = true := by
  unfold isPart; unfold isLetter at h; rw [h, Bool.or_true]

theorem parts_tail (s : ByteArray) : ∀ (d i : Nat), s.size - i = d → 1 ≤ i → parts (runes s i) = (pts (runes s i)).all fun p => isPart p := by
  intro d
  induction d using Nat.strongRecOn with
  | _ d ih =>
    intro i hd h1
    by_cases h : i < s.size
    · have h1 := dec_pos s i h
      have h2 := dec_in s i h
      rw [Pl.parts_step s i h, ih _ (by omega) (i + (Utf8.decode s i).2) rfl (by omega), runes_step s i h, show decide (i ≠ 0) = true from decide_eq_true (by omega), Bool.true_or, Bool.and_true]
      rfl
    · rw [runes_end s i h]; rfl

theorem name_loop (l : List Int) (hl : l.length ≤ 2147483648) : ∀ (d i k : Nat), l.length - i ≤ d → i ≤ l.length → d + 22 ≤ k → colophonref04_IsName.l0 k l (i : Int) = some ((l.drop i).all fun p => isPart p) := by
  intro d
  induction d with
  | zero =>
    intro i k hd hi hk
    obtain ⟨k, rfl⟩ : ∃ m, k = m + 1 := ⟨k - 1, by omega⟩
    simp only [colophonref04_IsName.l0]
    rw [if_neg (by omega), List.drop_of_length_le (by omega)]; rfl
  | succ d ih =>
    intro i k hd hi hk
    obtain ⟨k, rfl⟩ : ∃ m, k = m + 1 := ⟨k - 1, by omega⟩
    simp only [colophonref04_IsName.l0]
    by_cases h : i < l.length
    · have e2 : wrap64 ((i : Int) + 1) = ((i + 1 : Nat) : Int) := by rw [w64 (by omega) (by omega)]; omega
      have hr := ih (i + 1) k (by omega) (by omega) (by omega)
      have hg : rd l (i : Int) = l[i] := by unfold rd; simp [h]
      rw [e2, if_pos (by omega), if_pos (by omega), hg, hr, List.drop_eq_getElem_cons h, part_eq _ _ (by omega)]
      simp only [Option.bind_some, List.all_cons]
      by_cases c : isPart l[i] = true
      · rw [if_pos c, c, Bool.true_and]
      · rw [if_neg c, Bool.eq_false_iff.2 c, Bool.false_and]
    · rw [if_neg (by omega), List.drop_of_length_le (by omega)]; rfl

theorem isName_eq (s : ByteArray) (k : Nat) (hs : s.size ≤ 2147483648) (hk : s.size + 40 ≤ k) : colophonref04_IsName.f k s = some (isName s) := by
  unfold colophonref04_IsName.f
  rw [points_eq s k hs (by omega), valid_eq s k hs (by omega), isKey_eq s k (by omega)]
  obtain ⟨k, rfl⟩ : ∃ m, k = m + 1 := ⟨k - 1, by omega⟩
  simp only [Option.bind_some, colophonref04_IsName.j0, if_true]
  unfold isName
  by_cases hv : valid s 0 = true
  · rw [if_pos hv, hv, Bool.true_and]
    by_cases hky : isKey s = true
    · rw [if_pos hky, hky]; simp
    · rw [if_neg hky, Bool.eq_false_iff.2 hky, Bool.not_false, Bool.true_and]
      by_cases h0 : s.size = 0
      · rw [if_pos (by rw [runes_end s 0 (by omega)]; rfl), h0]; rfl
      · have h1 : 0 < s.size := by omega
        have hp := dec_pos s 0 h1
        have hlen := Pl.runes_length s s.size 0 (by omega)
        have hlp : (pts (runes s 0)).length = (runes s 0).length := by simp [pts]
        have hst := runes_step s 0 h1
        have hne : (pts (runes s 0)).length ≠ 0 := by rw [hlp, hst]; simp
        have hrd : rd (pts (runes s 0)) 0 = ((Utf8.decode s 0).1 : Int) := by rw [hst]; rfl
        rw [if_neg (by omega), if_pos (by omega), hrd, letter_eq _ _ (by omega), Pl.parts_step s 0 h1, show decide (s.size ≠ 0) = true from decide_eq_true h0, Bool.true_and]
        simp only [Option.bind_some, Nat.zero_add]
        rw [parts_tail s _ (Utf8.decode s 0).2 rfl hp]
        by_cases hl : isLetter ((Utf8.decode s 0).1 : Int) = true
        · rw [if_neg (by rw [hl]; decide), hl, letter_part hl]
          refine (name_loop _ (by omega) s.size 1 k (by omega) (by omega) (by omega)).trans ?_
          rw [hst, Nat.zero_add]
          simp [pts]
        · rw [if_pos (by rw [Bool.eq_false_iff.2 hl]; rfl), Bool.eq_false_iff.2 hl]
          simp
  · rw [if_neg hv, Bool.eq_false_iff.2 hv, Bool.false_and, Bool.and_false]

theorem pre_iff (s x : ByteArray) (a : Nat) : Lib.hasPrefix (s.extract a s.size).data.toList x.data.toList = true ↔ x.size ≤ s.size - a ∧ (s.extract a (a + x.size)).toList = x.toList := by
  unfold Lib.hasPrefix
  rw [List.isPrefixOf_iff_prefix, List.prefix_iff_eq_take, Lib.extract_to_end, ByteArray.toList_eq, ByteArray.toList_eq]
  have e3 : (s.extract a (a + x.size)).data.toList = (s.data.toList.drop a).take x.size := by
    rw [ByteArray.data_extract, Array.toList_extract, List.extract_eq_take_drop]
    congr 1; omega
  rw [e3]
  constructor
  · intro e
    refine ⟨?_, e.symm⟩
    have := congrArg List.length e
    rw [List.length_take, List.length_drop, Pl.size_list, Pl.size_list] at this
    omega
  · rintro ⟨_, e⟩
    exact e.symm

theorem nums (z a n : Nat) (hz : z ≤ 140737488351232) (ha : a < z) (hn : n ≤ 10) : wrap64 ((z : Int) - (a : Int)) = ((z - a : Nat) : Int) ∧ wrap64 ((a : Int) + (n : Int)) = ((a + n : Nat) : Int) := by
  constructor
  · rw [w64 (by omega) (by omega)]; omega
  · rw [w64 (by omega) (by omega)]; omega
theorem n1 (z a n : Nat) (h : n ≤ z - a) : ((z - a : Nat) : Int) ≥ (n : Int) := by omega
theorem n2 (a n : Nat) : (a : Int) ≤ ((a + n : Nat) : Int) := by omega
theorem n3 (z a n : Nat) (ha : a < z) (h : n ≤ z - a) : ((a + n : Nat) : Int) ≤ (z : Int) := by omega
theorem n4 (z a n : Nat) (h : ¬ n ≤ z - a) : ¬ ((z - a : Nat) : Int) ≥ (n : Int) := by omega

theorem sign_body (s x : ByteArray) (a : Nat) (ha : a < s.size) (hs : s.size ≤ 140737488351232) (hx : x.size ≤ 10) (R : Option ByteArray) :
    (if (wrap64 ((s.size : Int) - (a : Int))) ≥ (x.size : Int) then (if 0 ≤ (a : Int) then (if (a : Int) ≤ (wrap64 ((a : Int) + (x.size : Int))) then (if (wrap64 ((a : Int) + (x.size : Int))) ≤ (s.size : Int) then (if (s.extract (a : Int).toNat ((wrap64 ((a : Int) + (x.size : Int))) : Int).toNat).toList = x.toList then (some x) else R) else (none)) else (none)) else (none)) else R) =
      if Lib.hasPrefix (s.extract a s.size).data.toList x.data.toList = true then some x else R := by
  have hw := nums s.size a x.size hs ha hx
  rw [hw.1, hw.2, Int.toNat_natCast, Int.toNat_natCast]
  by_cases c : x.size ≤ s.size - a
  · rw [if_pos (n1 _ _ _ c), if_pos (Int.natCast_nonneg a), if_pos (n2 _ _), if_pos (n3 _ _ _ ha c)]
    by_cases c2 : (s.extract a (a + x.size)).toList = x.toList
    · rw [if_pos c2, if_pos ((pre_iff s x a).2 ⟨c, c2⟩)]
    · rw [if_neg c2, if_neg (fun e => c2 ((pre_iff s x a).1 e).2)]
  · rw [if_neg (n4 _ _ _ c), if_neg (fun e => c ((pre_iff s x a).1 e).1)]

theorem sign_loop (l : List ByteArray) (s : ByteArray) (a : Nat) (ha : a < s.size) (hs : s.size ≤ 140737488351232) (hl : l.length ≤ 100) (hz : ∀ x ∈ l, x.size ≤ 10) : ∀ (d i k : Nat), l.length - i ≤ d → i ≤ l.length → d + 1 ≤ k →
    colophonref04_Sign.l0 k s (a : Int) l (i : Int) = some (((l.drop i).find? fun x => Lib.hasPrefix (s.extract a s.size).data.toList x.data.toList).getD ⟨#[]⟩) := by
  intro d
  induction d with
  | zero =>
    intro i k hd hi hk
    obtain ⟨k, rfl⟩ : ∃ m, k = m + 1 := ⟨k - 1, by omega⟩
    rw [colophonref04_Sign.l0, if_neg (by omega), List.drop_of_length_le (by omega)]; rfl
  | succ d ih =>
    intro i k hd hi hk
    obtain ⟨k, rfl⟩ : ∃ m, k = m + 1 := ⟨k - 1, by omega⟩
    rw [colophonref04_Sign.l0]
    by_cases h : i < l.length
    · have e2 : wrap64 ((i : Int) + 1) = ((i + 1 : Nat) : Int) := by rw [w64 (by omega) (by omega)]; omega
      have hr := ih (i + 1) k (by omega) (by omega) (by omega)
      have hg : rdOf ByteArray.empty l (i : Int) = l[i] := by unfold rdOf; simp [h]
      have hx := hz l[i] (List.getElem_mem h)
      have hb := sign_body s l[i] a ha hs hx
      rw [e2, if_pos (by omega), if_pos (by omega), hg, hr, List.drop_eq_getElem_cons h, List.find?_cons]
      rw [hb]
      cases hp1 : Lib.hasPrefix (s.extract a s.size).data.toList l[i].data.toList <;> rfl
    · rw [if_neg (by omega), List.drop_of_length_le (by omega)]; rfl

theorem signs_eq : colophonref04_Signs.f = some (twoSigns ++ oneSigns.map fun c => ⟨#[c]⟩) := rfl

theorem idx_mem (l : List UInt8) (c : UInt8) : 0 ≤ Lib.indexByte l c ↔ c ∈ l := by
  induction l with
  | nil => simp [Lib.indexByte]
  | cons b l ih =>
    unfold Lib.indexByte
    by_cases hb : b = c
    · rw [if_pos (by simp [hb])]; simp [hb]
    · rw [if_neg (by simpa using hb)]
      have hcb : ¬ c = b := fun e => hb e.symm
      by_cases hl : Lib.indexByte l c = -1
      · rw [if_pos (by simp [hl])]
        have : ¬ c ∈ l := fun h => by have := ih.2 h; omega
        simp [hcb, this]
      · rw [if_neg (by simpa using hl)]
        have : 0 ≤ Lib.indexByte l c + 1 ↔ 0 ≤ Lib.indexByte l c := by
          constructor
          · intro h
            by_cases h1 : Lib.indexByte l c < 0
            · have := Lib.indexByte_ge l c; omega
            · omega
          · omega
        rw [this, ih]
        simp [hcb]

theorem one_find (t : ByteArray) (ht : 0 < t.size) (l : List UInt8) : ((l.map fun c => (⟨#[c]⟩ : ByteArray)).find? fun x => Lib.hasPrefix t.data.toList x.data.toList).getD ⟨#[]⟩ = if 0 ≤ Lib.indexByte l (t.get! 0) then t.extract 0 1 else ⟨#[]⟩ := by
  obtain ⟨c0, r, hr⟩ : ∃ c0 r, t.data.toList = c0 :: r := by
    cases h : t.data.toList with
    | nil => have := congrArg List.length h; rw [Pl.size_list, List.length_nil] at this; omega
    | cons a b => exact ⟨a, b, rfl⟩
  have hc : t.get! 0 = c0 := by rw [Pl.get_list, hr]; rfl
  have he : t.extract 0 1 = ⟨#[c0]⟩ := by
    apply ByteArray.ext
    apply Array.toList_inj.1
    rw [ByteArray.data_extract, Array.toList_extract, List.extract_eq_take_drop, hr]; rfl
  rw [hc, he, hr]
  have hp : ∀ c : UInt8, Lib.hasPrefix (c0 :: r) (⟨#[c]⟩ : ByteArray).data.toList = (c == c0) := by
    intro c
    unfold Lib.hasPrefix
    show (([c] : List UInt8).isPrefixOf (c0 :: r)) = _
    simp [List.isPrefixOf]
  induction l with
  | nil => rfl
  | cons c l ih =>
    rw [List.map_cons, List.find?_cons, hp]
    by_cases h : c = c0
    · subst h
      rw [beq_self_eq_true, if_pos ((idx_mem _ _).2 (by simp))]; rfl
    · rw [show (c == c0) = false from by simpa using h]
      refine ih.trans ?_
      have : (0 ≤ Lib.indexByte l c0) ↔ (0 ≤ Lib.indexByte (c :: l) c0) := by
        rw [idx_mem, idx_mem]
        have : ¬ c0 = c := fun e => h e.symm
        simp [this]
      by_cases h2 : 0 ≤ Lib.indexByte l c0
      · rw [if_pos h2, if_pos (this.1 h2)]
      · rw [if_neg h2, if_neg (fun e => h2 (this.2 e))]

theorem sign_eq (s : ByteArray) (a : Int) (k : Nat) (hs : s.size ≤ 140737488351232) (hk : 40 ≤ k) : colophonref04_Sign.f k s a = some (sign s a) := by
  unfold colophonref04_Sign.f sign
  obtain ⟨k, rfl⟩ : ∃ m, k = m + 1 := ⟨k - 1, by omega⟩
  simp only [colophonref04_Sign.j0, if_true]
  by_cases h0 : a < 0
  · rw [if_pos h0, if_neg (by omega)]
  · rw [if_neg h0]
    by_cases h1 : a < s.size
    · rw [if_neg (by rw [decide_eq_true_eq]; omega), if_pos (by omega), signs_eq]
      obtain ⟨i, rfl⟩ := Int.eq_ofNat_of_zero_le (show 0 ≤ a by omega)
      have hi : i < s.size := by omega
      simp only [Option.bind_some, Int.toNat_natCast]
      refine (sign_loop _ s i hi hs (by decide) (by decide) 21 0 k (by decide) (by omega) (by omega)).trans ?_
      rw [List.drop_zero, List.find?_append, Option.some_inj]
      unfold signOf Pl.two
      have := one_find (s.extract i s.size) (by rw [Pl.size_drop]; omega) oneSigns
      cases h : twoSigns.find? (fun x => Lib.hasPrefix (s.extract i s.size).data.toList x.data.toList) with
      | none => rw [Option.none_or, this]; rfl
      | some x => rfl
    · rw [if_pos (by rw [decide_eq_true_eq]; omega), if_neg (by omega)]
end Go.Proofs.YtocijojjfcpaoaaDoor.PClassTexts
