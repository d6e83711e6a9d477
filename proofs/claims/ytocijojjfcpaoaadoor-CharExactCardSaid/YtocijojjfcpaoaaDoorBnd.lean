/- Where characters begin: the places of a text, in order; the last character ahead of a place. -/
import Derived.Test.YtocijojjfcpaoaaDoorRange
import Derived.Shelf.Unicode.DecodeLast
set_option linter.unusedVariables false
namespace Go.Proofs.YtocijojjfcpaoaaDoor
open Go.RowKit

theorem AtRune.same {s : ByteArray} {i j k : Nat} (h : AtRune s i k) (h2 : AtRune s j k) : i = j := by
  have e := h.drop.symm.trans h2.drop
  by_cases hi : i < s.size
  · rw [Pl.runes_step s i hi] at e
    by_cases hj : j < s.size
    · rw [Pl.runes_step s j hj] at e
      injection e with e1 _
      exact congrArg Prod.fst e1
    · rw [Pl.runes_end s j hj] at e; cases e
  · by_cases hj : j < s.size
    · rw [Pl.runes_end s i hi, Pl.runes_step s j hj] at e; cases e
    · have := h.le; have := h2.le; omega

theorem AtRune.mono {s : ByteArray} : ∀ (d : Nat) {i j k k' : Nat}, k' - k = d + 1 → AtRune s i k → AtRune s j k' → i < s.size → i + (Utf8.decode s i).2 ≤ j
  | 0, i, j, k, k', hd, h, h2, hi => by
    have e : k' = k + 1 := by omega
    subst e
    exact Nat.le_of_eq ((h.next hi).same h2)
  | d + 1, i, j, k, k', hd, h, h2, hi => by
    have hn := h.next hi
    by_cases hi2 : i + (Utf8.decode s i).2 < s.size
    · have := AtRune.mono d (by omega) hn h2 hi2
      omega
    · have hr := hn.drop
      rw [Pl.runes_end s _ hi2] at hr
      have hz : (Pl.runes s 0).drop k' = [] := by
        rw [List.drop_eq_nil_iff] at hr ⊢
        omega
      have := h2.drop.symm.trans hz
      by_cases hj : j < s.size
      · rw [Pl.runes_step s j hj] at this; cases this
      · have := hn.le; omega

theorem AtRune.step_le {s : ByteArray} {i j k k' : Nat} (h : AtRune s i k) (h2 : AtRune s j k') (hij : i < j) : i + (Utf8.decode s i).2 ≤ j := by
  have hjs := h2.le
  rcases Nat.lt_trichotomy k k' with hk | hk | hk
  · exact AtRune.mono (k' - k - 1) (by omega) h h2 (by omega)
  · subst hk; have := h.same h2; omega
  · by_cases hj : j < s.size
    · have := AtRune.mono (k - k' - 1) (by omega) h2 h hj
      omega
    · have hr := h2.drop
      rw [Pl.runes_end s j hj] at hr
      have hz : (Pl.runes s 0).drop k = [] := by
        rw [List.drop_eq_nil_iff] at hr ⊢
        omega
      have := h.drop.symm.trans hz
      rw [Pl.runes_step s i (by omega)] at this; cases this

theorem cover (s : ByteArray) : ∀ q, q < s.size → ∃ a j, AtRune s a j ∧ a ≤ q ∧ q < a + (Utf8.decode s a).2
  | 0, h => ⟨0, 0, atRune0 s, Nat.le_refl _, by have := Pl.dec_pos s 0 h; omega⟩
  | q + 1, h => by
    obtain ⟨a, j, ha, h1, h2⟩ := cover s q (by omega)
    by_cases hq : q + 1 < a + (Utf8.decode s a).2
    · exact ⟨a, j, ha, by omega, hq⟩
    · have e : q + 1 = a + (Utf8.decode s a).2 := by omega
      have hn := ha.next (by omega)
      rw [← e] at hn
      exact ⟨q + 1, j + 1, hn, Nat.le_refl _, by have := Pl.dec_pos s (q + 1) h; omega⟩

/-- What a good character's other bytes are. -/
theorem ok_tail {s : ByteArray} {a : Nat} (h : Pl.ok s a) (k : Nat) (h1 : 1 ≤ k) (h2 : k < Pl.lead (Pl.bt s a 0)) : 128 ≤ Pl.bt s a k ∧ Pl.bt s a k ≤ 191 := by
  obtain ⟨_, hin, hf1, hf2, hf3⟩ := h
  have hl := Pl.lead_le (Pl.bt s a 0)
  have hlo := Pl.lo_spec (Pl.bt s a 0)
  have hhi := Pl.hi_spec (Pl.bt s a 0)
  rcases (by omega : k = 1 ∨ k = 2 ∨ k = 3) with rfl | rfl | rfl
  · have := hf1 (by omega) (by omega); omega
  · exact hf2 (by omega) (by omega)
  · exact hf3 (by omega) (by omega)
theorem ok_dec {s : ByteArray} {a : Nat} (hi : a < s.size) (h : Pl.ok s a) : Utf8.decode s a = (Pl.point s a, Pl.lead (Pl.bt s a 0)) := by rw [Pl.decode_eq s a hi, if_pos h]
theorem bad_dec {s : ByteArray} {a : Nat} (hi : a < s.size) (h : ¬ Pl.ok s a) : Utf8.decode s a = (65533, 1) := by rw [Pl.decode_eq s a hi, if_neg h]
theorem bt_shift (s : ByteArray) (a k : Nat) : Pl.bt s a k = Pl.bt s (a + k) 0 := by unfold Pl.bt; rw [Nat.add_zero]

/-- No good character stands over a place where one begins. -/
theorem no_inner {s : ByteArray} {p k q : Nat} (h : AtRune s p k) (hq : q < p) (hok : Pl.ok s q) (hp : p < q + (Utf8.decode s q).2) : False := by
  have hps := h.le
  have hqs : q < s.size := by omega
  obtain ⟨a, j, ha, h1, h2⟩ := cover s q hqs
  rcases Nat.lt_or_ge a q with hlt | hge
  · have hok2 : Pl.ok s a := by
      by_cases hk : Pl.ok s a
      · exact hk
      · rw [bad_dec (by omega) hk] at h2
        have : q < a + 1 := h2
        omega
    rw [ok_dec (by omega) hok2] at h2
    have h3 : q < a + Pl.lead (Pl.bt s a 0) := h2
    have := ok_tail hok2 (q - a) (by omega) (by omega)
    rw [bt_shift, show a + (q - a) = q from by omega] at this
    have hl := Pl.lead_spec (Pl.bt s q 0)
    have := hok.1
    omega
  · obtain rfl : a = q := by omega
    have := ha.step_le h hq
    omega

/-! ### a text cut behind a place -/
theorem bt_cut (s : ByteArray) (e i k : Nat) (he : e ≤ s.size) (h : i + k < e) : Pl.bt (s.extract 0 e) i k = Pl.bt s i k := by
  rw [Pl.bt_list, Pl.bt_list, extract_list', List.drop_zero]
  simp only [List.getD_eq_getElem?_getD]
  rw [List.getElem?_take, if_pos (by omega)]
where extract_list' : (s.extract 0 e).data.toList = (s.data.toList.drop 0).take (e - 0) := by
        rw [ByteArray.data_extract, Array.toList_extract, List.extract_eq_take_drop]
theorem size_cut (s : ByteArray) (e : Nat) (he : e ≤ s.size) : (s.extract 0 e).size = e := by rw [ByteArray.size_extract]; omega

theorem fits_cut (s : ByteArray) (e q n : Nat) (he : e ≤ s.size) (hn : q + n ≤ e) (h1 : 1 ≤ n) (h4 : n ≤ 4) : Pl.fits (s.extract 0 e) q n ↔ Pl.fits s q n := by
  unfold Pl.fits
  rw [size_cut s e he, bt_cut s e q 0 he (by omega)]
  constructor
  · rintro ⟨a, b, c⟩
    refine ⟨fun x y => ?_, fun x y => ?_, fun x y => ?_⟩
    · have := a x (by omega); rwa [bt_cut s e q 1 he (by omega)] at this
    · have := b x (by omega); rwa [bt_cut s e q 2 he (by omega)] at this
    · have := c x (by omega); rwa [bt_cut s e q 3 he (by omega)] at this
  · rintro ⟨a, b, c⟩
    refine ⟨fun x y => ?_, fun x y => ?_, fun x y => ?_⟩
    · rw [bt_cut s e q 1 he (by omega)]; exact a x (by omega)
    · rw [bt_cut s e q 2 he (by omega)]; exact b x (by omega)
    · rw [bt_cut s e q 3 he (by omega)]; exact c x (by omega)

theorem ok_cut (s : ByteArray) (e q : Nat) (he : e ≤ s.size) (hq : q < e) (hn : q + Pl.lead (Pl.bt s q 0) ≤ e) : Pl.ok (s.extract 0 e) q ↔ Pl.ok s q := by
  have h4 := Pl.lead_le (Pl.bt s q 0)
  unfold Pl.ok
  rw [size_cut s e he, bt_cut s e q 0 he (by omega)]
  by_cases h0 : Pl.lead (Pl.bt s q 0) = 0
  · simp [h0]
  · rw [fits_cut s e q _ he hn (by omega) h4]
    constructor
    · rintro ⟨a, b, c⟩; exact ⟨a, by omega, c⟩
    · rintro ⟨a, b, c⟩; exact ⟨a, hn, c⟩
theorem point_cut (s : ByteArray) (e q : Nat) (he : e ≤ s.size) (hq : q < e) (hn : q + Pl.lead (Pl.bt s q 0) ≤ e) (h0 : Pl.lead (Pl.bt s q 0) ≠ 0) : Pl.point (s.extract 0 e) q = Pl.point s q := by
  have h4 := Pl.lead_le (Pl.bt s q 0)
  unfold Pl.point
  rw [bt_cut s e q 0 he (by omega)]
  split
  · rfl
  · rw [bt_cut s e q 1 he (by omega)]
    split
    · rfl
    · rw [bt_cut s e q 2 he (by omega)]
      split
      · rfl
      · rw [bt_cut s e q 3 he (by omega)]
/-- A good character that ends ahead of the cut is read in the cut text as in the whole one. -/
theorem decode_cut (s : ByteArray) (e q : Nat) (he : e ≤ s.size) (hq : q < e) (hok : Pl.ok s q) (hn : q + Pl.lead (Pl.bt s q 0) ≤ e) : Utf8.decode (s.extract 0 e) q = Utf8.decode s q := by
  have h2 := (ok_cut s e q he hq hn).2 hok
  rw [ok_dec (by rw [size_cut s e he]; exact hq) h2, ok_dec (by omega) hok, point_cut s e q he hq hn hok.1, bt_cut s e q 0 he (by omega)]

theorem getD_cut (s : ByteArray) (e i : Nat) (he : e ≤ s.size) (hi : i < e) : ((s.extract 0 e).data.toList.getD i 0).toNat = Pl.bt s i 0 := by
  rw [← bt_cut s e i 0 he (by omega), Pl.bt_list, Nat.add_zero]
theorem start_iff (s : ByteArray) (e i : Nat) (he : e ≤ s.size) (hi : i < e) : Lib.runeStartB ((s.extract 0 e).data.toList.getD i 0) = true ↔ ¬ (128 ≤ Pl.bt s i 0 ∧ Pl.bt s i 0 ≤ 191) := by
  unfold Lib.runeStartB
  rw [getD_cut s e i he hi, bne_iff_ne]
  omega

theorem lastStart_lt (l : List UInt8) (h : 0 < l.length) : Lib.lastStart l < l.length := by
  unfold Lib.lastStart
  simp only
  repeat' split
  all_goals omega

/-- **The last character ahead of a character's end is that character.** -/
theorem last_at {s : ByteArray} {p k : Nat} (h : AtRune s p k) (hp : p < s.size) : Lib.decodeLastL (s.extract 0 (p + (Utf8.decode s p).2)).data.toList = Utf8.decode s p := by
  obtain ⟨e, he⟩ : ∃ e, p + (Utf8.decode s p).2 = e := ⟨_, rfl⟩
  have hes : e ≤ s.size := by rw [← he]; exact Pl.dec_in s p hp
  have hpos := Pl.dec_pos s p hp
  have hlen : (s.extract 0 e).data.toList.length = e := by rw [Pl.size_list, size_cut s e hes]
  rw [he]
  unfold Lib.decodeLastL
  rw [if_neg (by intro c; rw [c] at hlen; simp at hlen; omega), hlen, getD_cut s e (e - 1) hes (by omega)]
  by_cases hok : Pl.ok s p
  · have hd := ok_dec hp hok
    have hn : p + Pl.lead (Pl.bt s p 0) = e := by rw [← he, hd]
    have hl := Pl.lead_spec (Pl.bt s p 0)
    have h0 := hok.1
    by_cases h1 : Pl.lead (Pl.bt s p 0) = 1
    · have e1 : e - 1 = p := by omega
      rw [e1, if_pos (by omega), hd, h1]
      unfold Pl.point
      rw [if_pos h1]
    · have ht := ok_tail hok (Pl.lead (Pl.bt s p 0) - 1) (by omega) (by omega)
      rw [bt_shift, show p + (Pl.lead (Pl.bt s p 0) - 1) = e - 1 from by omega] at ht
      rw [if_neg (by omega)]
      have hst : Lib.runeStartB ((s.extract 0 e).data.toList.getD p 0) = true := (start_iff s e p hes (by omega)).2 (by omega)
      have hno : ∀ j, 1 ≤ j → j < Pl.lead (Pl.bt s p 0) → Lib.runeStartB ((s.extract 0 e).data.toList.getD (p + j) 0) = false := by
        intro j hj1 hj2
        have := ok_tail hok j hj1 hj2
        rw [bt_shift] at this
        rw [Bool.eq_false_iff]
        intro c
        exact (start_iff s e (p + j) hes (by omega)).1 c this
      have hls : Lib.lastStart (s.extract 0 e).data.toList = p := by
        unfold Lib.lastStart
        simp only [hlen]
        rcases (by omega : Pl.lead (Pl.bt s p 0) = 2 ∨ Pl.lead (Pl.bt s p 0) = 3 ∨ Pl.lead (Pl.bt s p 0) = 4) with h2 | h2 | h2
        · rw [if_neg (by omega), show e - 2 = p from by omega, if_pos hst]
        · have a := hno 1 (by omega) (by omega)
          rw [if_neg (by omega), show e - 2 = p + 1 from by omega, if_neg (by rw [a]; decide), if_neg (by omega), show e - 3 = p from by omega, if_pos hst]
        · have a := hno 2 (by omega) (by omega)
          have b := hno 1 (by omega) (by omega)
          rw [if_neg (by omega), show e - 2 = p + 2 from by omega, if_neg (by rw [a]; decide), if_neg (by omega), show e - 3 = p + 1 from by omega, if_neg (by rw [b]; decide), if_neg (by omega), show e - 4 = p from by omega, if_pos hst]
      have hdd : Lib.decodeL ((s.extract 0 e).data.toList.drop p) = Utf8.decode s p := by
        rw [Pl.drop_decode, decode_cut s e p hes (by omega) hok (by omega)]
      simp only [hls, hdd]
      rw [if_pos he]
  · have hd := bad_dec hp hok
    have e1 : p = e - 1 := by rw [hd] at he; have : p + 1 = e := he; omega
    have hnb : ¬ Pl.bt s (e - 1) 0 < 128 := by
      intro hlt
      rw [← e1] at hlt
      have hl := Pl.lead_spec (Pl.bt s p 0)
      have h1 : Pl.lead (Pl.bt s p 0) = 1 := by omega
      exact hok ⟨by omega, by omega, by unfold Pl.fits; rw [h1]; exact ⟨fun x => by omega, fun x => by omega, fun x => by omega⟩⟩
    rw [if_neg hnb]
    have hq := lastStart_lt (s.extract 0 e).data.toList (by omega)
    rw [hlen] at hq
    obtain ⟨q, hqq⟩ : ∃ q, Lib.lastStart (s.extract 0 e).data.toList = q := ⟨_, rfl⟩
    rw [hqq] at hq
    simp only [hqq, Pl.drop_decode]
    by_cases hc : q + (Utf8.decode (s.extract 0 e) q).2 = e
    · rw [if_pos hc]
      have hqs : q < (s.extract 0 e).size := by rw [size_cut s e hes]; exact hq
      by_cases hoq : Pl.ok (s.extract 0 e) q
      · exfalso
        have hdq := ok_dec hqs hoq
        rw [hdq, bt_cut s e q 0 hes (by omega)] at hc
        have hc' : q + Pl.lead (Pl.bt s q 0) = e := hc
        have hok2 := (ok_cut s e q hes hq (by omega)).1 hoq
        rcases Nat.lt_or_ge q p with hlt | hge
        · exact no_inner h hlt hok2 (by rw [ok_dec (by omega) hok2]; show p < q + Pl.lead (Pl.bt s q 0); omega)
        · obtain rfl : q = p := by omega
          exact hok hok2
      · rw [bad_dec hqs hoq, hd]
    · rw [if_neg hc, hd]; rfl
end Go.Proofs.YtocijojjfcpaoaaDoor
