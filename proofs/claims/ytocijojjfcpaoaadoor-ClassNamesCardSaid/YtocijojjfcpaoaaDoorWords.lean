/- Names and words: plain laws. -/
import Derived.Test.YtocijojjfcpaoaaDoorBack
import Derived.Test.YtocijojjfcpaoaaDoorName
set_option linter.unusedVariables false
namespace Go.Proofs.YtocijojjfcpaoaaDoor
open Go.RowKit

/-- What a name and a word of the language have in common. -/
def Pl.wordy (s : ByteArray) : Bool := decide (s.size ≠ 0) && (Pl.valid s 0 && Pl.parts (Pl.runes s 0))
theorem keys_wordy : Pl.keys.all Pl.wordy = true := by decide +kernel
theorem key_wordy {s : ByteArray} (h : Pl.isKey s = true) : Pl.wordy s = true :=
  List.all_eq_true.1 keys_wordy s ((Lib.containsS_iff _ _).1 h)
theorem name_wordy (s : ByteArray) : Pl.isName s = (Pl.wordy s && !Pl.isKey s) := by
  unfold Pl.isName Pl.wordy
  cases decide (s.size ≠ 0) <;> cases Pl.valid s 0 <;> cases Pl.isKey s <;> cases Pl.parts (Pl.runes s 0) <;> rfl
theorem either_wordy (s : ByteArray) : (Pl.isName s || Pl.isKey s) = Pl.wordy s := by
  rw [name_wordy]
  cases hk : Pl.isKey s with
  | true => rw [key_wordy hk]; rfl
  | false => simp
theorem not_both (s : ByteArray) : (Pl.isName s && Pl.isKey s) = false := by
  rw [name_wordy]
  cases Pl.wordy s <;> cases Pl.isKey s <;> rfl

/-- Parts, by the points. -/
def Pl.ptsOk (l : List Int) : Bool := l.all fun p => Pl.isPart p
theorem letter_is_part {p : Int} (h : Pl.isLetter p = true) : Pl.isPart p = true := by
  unfold Pl.isPart; unfold Pl.isLetter at h; rw [h, Bool.or_true]
theorem parts_behind (s : ByteArray) : ∀ (d i : Nat), s.size - i = d → 1 ≤ i → Pl.parts (Pl.runes s i) = Pl.ptsOk (Pl.pts (Pl.runes s i)) := by
  intro d
  induction d using Nat.strongRecOn with
  | _ d ih =>
    intro i hd h1
    by_cases h : i < s.size
    · have h1 := Pl.dec_pos s i h
      have h2 := Pl.dec_in s i h
      rw [Pl.parts_step s i h, ih _ (by omega) (i + (Utf8.decode s i).2) rfl (by omega), Pl.runes_step s i h, show decide (i ≠ 0) = true from decide_eq_true (by omega), Bool.true_or, Bool.and_true]
      rfl
    · rw [Pl.runes_end s i h]; rfl
theorem parts_pts (s : ByteArray) : Pl.parts (Pl.runes s 0) = (match Pl.pts (Pl.runes s 0) with | [] => true | p :: l => Pl.isLetter p && Pl.ptsOk l) := by
  by_cases h : 0 < s.size
  · have h1 := Pl.dec_pos s 0 h
    rw [Pl.parts_step s 0 h, Nat.zero_add, parts_behind s _ (Utf8.decode s 0).2 rfl h1, Pl.runes_step s 0 h, Nat.zero_add]
    show _ = (Pl.isLetter ((Utf8.decode s 0).1 : Int) && Pl.ptsOk (Pl.pts (Pl.runes s (Utf8.decode s 0).2)))
    cases hl : Pl.isLetter ((Utf8.decode s 0).1 : Int) with
    | true => rw [letter_is_part hl]; rfl
    | false => simp
  · rw [Pl.runes_end s 0 h]; rfl

/-- A text of good characters has no open end. -/
theorem valid_good {s : ByteArray} : ∀ {i k : Nat}, AtRune s i k → i < s.size → Pl.valid s 0 = true → Pl.ok s i := by
  intro i k h hi hv
  have hm : (i, (Utf8.decode s i).1, (Utf8.decode s i).2) ∈ Pl.runes s 0 := List.mem_of_getElem? (h.get hi)
  have := List.all_eq_true.1 hv _ hm
  exact of_decide_eq_true this
theorem valid_whole {s : ByteArray} (hv : Pl.valid s 0 = true) : Pl.whole s = s.size := by
  rcases whole_cases s with hc | ⟨hlt, hnear, ho⟩
  · exact hc.1
  · exfalso
    unfold Pl.opens at ho
    rw [Bool.and_eq_true, decide_eq_true_eq] at ho
    have h1 := ho.1
    obtain ⟨a, j, ha, h2, h3⟩ := cover s (Pl.whole s) hlt
    have hok := valid_good ha (by omega) hv
    rw [ok_dec (by omega) hok] at h3
    have h4 : Pl.whole s < a + Pl.lead (Pl.bt s a 0) := h3
    rcases Nat.lt_or_ge a (Pl.whole s) with hl | hg
    · have ht := ok_tail hok (Pl.whole s - a) (by omega) (by omega)
      rw [bt_shift, show a + (Pl.whole s - a) = Pl.whole s from by omega] at ht
      have hs := Pl.lead_spec (Pl.bt s (Pl.whole s) 0)
      omega
    · have e : a = Pl.whole s := by omega
      rw [e] at hok
      have := hok.2.1
      omega

structure WordSaid (s : ByteArray) : Prop where
  pos : s.size ≠ 0
  valid : Pl.valid s 0 = true
  parts : Pl.parts (Pl.runes s 0) = true
theorem wordy_said {s : ByteArray} (h : Pl.wordy s = true) : WordSaid s := by
  unfold Pl.wordy at h
  rw [Bool.and_eq_true, Bool.and_eq_true, decide_eq_true_eq] at h
  exact ⟨h.1, h.2.1, h.2.2⟩

/-- The points of a word: a letter, then parts. -/
theorem word_points {s : ByteArray} (h : WordSaid s) : ∃ p l, Pl.pts (Pl.runes s 0) = p :: l ∧ Pl.isLetter p = true ∧ Pl.ptsOk (p :: l) = true := by
  have hp := h.parts
  rw [parts_pts] at hp
  have hne : Pl.runes s 0 ≠ [] := by rw [Pl.runes_step s 0 (by have := h.pos; omega)]; exact List.cons_ne_nil _ _
  cases hl : Pl.pts (Pl.runes s 0) with
  | nil => unfold Pl.pts at hl; rw [List.map_eq_nil_iff] at hl; exact absurd hl hne
  | cons p l =>
    rw [hl] at hp
    rw [Bool.and_eq_true] at hp
    refine ⟨p, l, rfl, hp.1, ?_⟩
    show (Pl.isPart p && Pl.ptsOk l) = true
    rw [letter_is_part hp.1, hp.2]; rfl

/-- One more point behind a word. -/
theorem word_more {s : ByteArray} (h : WordSaid s) (p : Int) : Pl.wordy (s ++ Pl.enc p) = Pl.isPart (Pl.norm p) := by
  have ho := enc_one p
  have hw := valid_whole h.valid
  obtain ⟨q, l, hq, hl, hall⟩ := word_points h
  have hpts : Pl.pts (Pl.runes (s ++ Pl.enc p) 0) = q :: (l ++ [Pl.norm p]) := by
    rw [pts_both _ _ hw, hq, ho.runes]
    simp only [Pl.pts, List.map_cons, List.map_nil, List.cons_append, Int.toNat_of_nonneg (norm_nonneg p)]
  have hz : (s ++ Pl.enc p).size ≠ 0 := by rw [ByteArray.size_append]; have := h.pos; omega
  unfold Pl.wordy
  rw [decide_eq_true hz, valid_both _ _ hw, h.valid, ho.valid, parts_pts, hpts]
  have h2 : (Pl.isPart q && Pl.ptsOk l) = true := hall
  rw [Bool.and_eq_true] at h2
  have h3 : l.all (fun p => Pl.isPart p) = true := h2.2
  simp only [Pl.ptsOk, List.all_append, List.all_cons, List.all_nil, hl, h3, Bool.true_and, Bool.and_true]
theorem word_bad {s : ByteArray} (h : WordSaid s) : Pl.isName (s ++ ⟨#[255]⟩) = false := by
  have hw := valid_whole h.valid
  have hv : Pl.valid (s ++ ⟨#[255]⟩) 0 = false := by
    rw [valid_both _ _ hw, show Pl.valid ⟨#[255]⟩ 0 = false from by decide +kernel, Bool.and_false]
  unfold Pl.isName
  rw [hv]; simp
end Go.Proofs.YtocijojjfcpaoaaDoor
