/- What is cut: plain laws. -/
import Derived.Test.YtocijojjfcpaoaaDoorJoin
import Derived.Test.YtocijojjfcpaoaaDoorCut
set_option linter.unusedVariables false
namespace Go.Proofs.YtocijojjfcpaoaaDoor
open Go.RowKit

theorem wsum_append (a b : List Int) : Pl.wsum (a ++ b) = Pl.wsum a + Pl.wsum b := by
  induction a with
  | nil => simp [Pl.wsum]
  | cons p a ih => simp only [List.cons_append, Pl.wsum, ih]; omega
theorem wsum_nonneg (a : List Int) : 0 ≤ Pl.wsum a := by
  induction a with
  | nil => simp [Pl.wsum]
  | cons p a ih => have := Pl.widthOf_bd p; simp only [Pl.wsum]; omega
theorem wsum_le (a : List Int) : Pl.wsum a ≤ 2 * a.length := by
  induction a with
  | nil => simp [Pl.wsum]
  | cons p a ih => have := Pl.widthOf_bd p; simp only [Pl.wsum, List.length_cons]; omega

/-- the columns of the first k characters -/
def Pl.cols (s : ByteArray) (k : Nat) : Int := Pl.wsum (Pl.pts ((Pl.runes s 0).take k))
theorem cols_step {s : ByteArray} {i k : Nat} (h : AtRune s i k) (hi : i < s.size) : Pl.cols s (k + 1) = Pl.cols s k + Pl.widthOf ((Utf8.decode s i).1 : Int) := by
  have hk := h.lt hi
  have hg := h.get hi
  unfold Pl.cols
  rw [List.take_succ_eq_append_getElem hk]
  have e : (Pl.runes s 0)[k] = (i, (Utf8.decode s i).1, (Utf8.decode s i).2) := by
    rw [List.getElem?_eq_getElem hk] at hg
    exact Option.some.inj hg
  rw [e]
  simp only [Pl.pts, List.map_append, List.map_cons, List.map_nil, wsum_append]
  simp [Pl.wsum]
theorem cols_mono (s : ByteArray) {k k' : Nat} (h : k ≤ k') : Pl.cols s k ≤ Pl.cols s k' := by
  unfold Pl.cols
  have e : (Pl.runes s 0).take k' = (Pl.runes s 0).take k ++ ((Pl.runes s 0).take k').drop k := by
    have := List.take_append_drop k ((Pl.runes s 0).take k')
    rw [List.take_take, Nat.min_eq_left h] at this
    exact this.symm
  rw [e]
  simp only [Pl.pts, List.map_append, wsum_append]
  have := wsum_nonneg ((((Pl.runes s 0).take k').drop k).map fun r => (r.2.1 : Int))
  omega

/-- What Cut answers: where it ends, how many columns it has. -/
structure CutSaid (s : ByteArray) (c : Int) (e : Nat) (n : Int) : Prop where
  at_ : ∃ k, AtRune s e k ∧ n = Pl.cols s k
  le : n ≤ c
  full : e < s.size → n + Pl.widthOf ((Utf8.decode s e).1 : Int) > c

theorem cutAt_said (s : ByteArray) (c : Int) : ∀ (d i k : Nat) (n : Int), s.size - i = d → AtRune s i k → n = Pl.cols s k → n ≤ c →
    CutSaid s c (Pl.cutAt c (Pl.runes s i) s.size n).1 (Pl.cutAt c (Pl.runes s i) s.size n).2 := by
  intro d
  induction d using Nat.strongRecOn with
  | _ d ih =>
    intro i k n hd h hn hc
    by_cases hi : i < s.size
    · have h1 := Pl.dec_pos s i hi
      rw [Pl.runes_step s i hi]
      simp only [Pl.cutAt]
      by_cases hw : n + Pl.widthOf ((Utf8.decode s i).1 : Int) > c
      · rw [if_pos hw]
        exact ⟨⟨k, h, hn⟩, hc, fun _ => hw⟩
      · rw [if_neg hw]
        exact ih _ (by omega) (i + (Utf8.decode s i).2) (k + 1) _ rfl (h.next hi) (by rw [cols_step h hi, hn]) (by omega)
    · have hle := h.le
      rw [Pl.runes_end s i hi]
      simp only [Pl.cutAt]
      obtain rfl : i = s.size := by omega
      exact ⟨⟨k, h, hn⟩, hc, fun hx => absurd hx (Nat.lt_irrefl _)⟩

def Pl.cut (s : ByteArray) (c : Int) : Nat × Int := if c < 0 then (0, 0) else Pl.cutAt c (Pl.runes s 0) s.size 0
theorem cut_said (s : ByteArray) (c : Int) (hc : 0 ≤ c) : CutSaid s c (Pl.cut s c).1 (Pl.cut s c).2 := by
  unfold Pl.cut
  rw [if_neg (by omega)]
  exact cutAt_said s c _ 0 0 0 rfl (atRune0 s) (by simp [Pl.cols, Pl.pts, Pl.wsum]) hc
theorem cut_low (s : ByteArray) (c : Int) (hc : c < 0) : Pl.cut s c = (0, 0) := by unfold Pl.cut; rw [if_pos hc]

theorem atRune_noOver {s : ByteArray} {e k : Nat} (h : AtRune s e k) : NoOver s e := by
  intro i hi hok
  apply Classical.byContradiction
  intro hn
  have := h.le
  exact no_inner h hi hok (by rw [ok_dec (by omega) hok]; show e < i + Pl.lead (Pl.bt s i 0); omega)
theorem cols_cut {s : ByteArray} {e k : Nat} (h : AtRune s e k) (hk : k ≤ (Pl.runes s 0).length) : Pl.cols s k = Pl.wsum (Pl.pts (Pl.runes (s.extract 0 e) 0)) := by
  have h1 := cut_runes h.le (atRune_noOver h) _ 0 rfl (Nat.zero_le _)
  have h2 := h.drop
  have h3 := List.take_append_drop k (Pl.runes s 0)
  rw [h2] at h3
  have h4 := h3.trans h1
  have h5 := List.append_cancel_right h4
  unfold Pl.cols
  rw [h5]

theorem atRune_len {s : ByteArray} {e k : Nat} (h : AtRune s e k) : ∃ k', AtRune s e k' ∧ k' ≤ (Pl.runes s 0).length ∧ Pl.cols s k' = Pl.cols s k := by
  by_cases hk : k ≤ (Pl.runes s 0).length
  · exact ⟨k, h, hk, rfl⟩
  · refine ⟨(Pl.runes s 0).length, ⟨h.le, ?_⟩, Nat.le_refl _, ?_⟩
    · rw [← h.drop, List.drop_of_length_le (Nat.le_refl _), List.drop_of_length_le (by omega)]
    · unfold Pl.cols
      rw [List.take_of_length_le (Nat.le_refl _), List.take_of_length_le (by omega)]

theorem AtRune.idx_le {s : ByteArray} {i j k k' : Nat} (h : AtRune s i k) (h2 : AtRune s j k') (hij : i < j) : k < k' := by
  apply Classical.byContradiction
  intro hn
  rcases Nat.lt_or_ge k' k with hlt | hge
  · have hj : j < s.size ∨ ¬ j < s.size := Classical.em _
    rcases hj with hj | hj
    · have := AtRune.mono (k - k' - 1) (by omega) h2 h hj
      omega
    · have hr := h2.drop
      rw [Pl.runes_end s j hj] at hr
      have hz : (Pl.runes s 0).drop k = [] := by
        rw [List.drop_eq_nil_iff] at hr ⊢
        omega
      have := h.drop.symm.trans hz
      have := h2.le
      rw [Pl.runes_step s i (by omega)] at *
      simp at *
  · obtain rfl : k = k' := by omega
    have := h.same h2
    omega

/-- All that a wider cut has. -/
theorem cut_wider {s : ByteArray} {c c' : Int} {e e' : Nat} {n n' : Int} (h : CutSaid s c e n) (h' : CutSaid s c' e' n') (hc : c ≤ c') : e ≤ e' ∧ n ≤ n' := by
  obtain ⟨k, ha, hn⟩ := h.at_
  obtain ⟨k', ha', hn'⟩ := h'.at_
  have hle := ha.le
  have h1 := h.le
  by_cases hlt : e' < e
  · exfalso
    have hkk := ha'.idx_le ha hlt
    have hf := h'.full (by omega)
    have hs := cols_step ha' (by omega)
    have hm := cols_mono s (show k' + 1 ≤ k from hkk)
    omega
  · refine ⟨by omega, ?_⟩
    by_cases heq : e = e'
    · subst heq
      obtain ⟨a, ha1, hk1, hc1⟩ := atRune_len ha
      obtain ⟨b, hb1, hk2, hc2⟩ := atRune_len ha'
      have e1 := cols_cut ha1 hk1
      have e2 := cols_cut hb1 hk2
      omega
    · have hkk := ha.idx_le ha' (by omega)
      have := cols_mono s (show k ≤ k' by omega)
      omega

/-- What Cut says of columns enough. -/
theorem cut_all_said {s : ByteArray} {e : Nat} {n : Int} (h : CutSaid s (Pl.wsum (Pl.pts (Pl.runes s 0))) e n) : e = s.size ∧ n = Pl.wsum (Pl.pts (Pl.runes s 0)) := by
  obtain ⟨k, ha, hn⟩ := h.at_
  have hle := ha.le
  have hall : Pl.cols s (Pl.runes s 0).length = Pl.wsum (Pl.pts (Pl.runes s 0)) := by unfold Pl.cols; rw [List.take_of_length_le (Nat.le_refl _)]
  by_cases hlt : e < s.size
  · exfalso
    have hf := h.full hlt
    have hs := cols_step ha hlt
    have hk := ha.lt hlt
    have hm := cols_mono s (show k + 1 ≤ (Pl.runes s 0).length from hk)
    omega
  · obtain rfl : e = s.size := by omega
    refine ⟨rfl, ?_⟩
    obtain ⟨k', ha1, hk1, hc1⟩ := atRune_len ha
    have : k' = (Pl.runes s 0).length := ha1.len hk1 hlt
    rw [this] at hc1
    omega
theorem cut_text {s : ByteArray} {c : Int} {e : Nat} {n : Int} (h : CutSaid s c e n) : n = Pl.wsum (Pl.pts (Pl.runes (s.extract 0 e) 0)) := by
  obtain ⟨k, ha, hn⟩ := h.at_
  obtain ⟨k', ha1, hk1, hc1⟩ := atRune_len ha
  rw [hn, ← hc1]
  exact cols_cut ha1 hk1
theorem cut_in {s : ByteArray} {c : Int} {e : Nat} {n : Int} (h : CutSaid s c e n) : e ≤ s.size := by
  obtain ⟨k, ha, _⟩ := h.at_
  exact ha.le

theorem cut_calls (s : ByteArray) (c : Int) (w : World) (hc : c ≤ 9223372036854775807) (hs : s.size ≤ 140737488351232) (ht : WTabs w) (h2 : 2 ≤ w.heap.size) :
    Calls Tryd.prog 21 #[.string s, .int .i64 c] w fun e w' => e = .returned (.tuple #[.string (s.extract 0 (Pl.cut s c).1), .int .i64 (Pl.cut s c).2]) ∧ Below w.heap.size w w' := by
  by_cases h0 : c < 0
  · rw [cut_low s c h0]
    have e : s.extract 0 0 = ⟨#[]⟩ := by
      apply bx_ext
      rw [bx_cut, List.take_zero]
    show Calls _ _ _ _ fun e w' => e = .returned (.tuple #[.string (s.extract 0 0), .int .i64 0]) ∧ _
    rw [e]
    exact cut_neg s c w h0
  · unfold Pl.cut
    rw [if_neg h0]
    exact cut_any s c w (by omega) hc hs ht h2
end Go.Proofs.YtocijojjfcpaoaaDoor
