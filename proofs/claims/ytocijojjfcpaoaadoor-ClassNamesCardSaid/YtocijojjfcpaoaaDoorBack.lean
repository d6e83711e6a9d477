/- Texts of points: plain laws. -/
import Derived.Test.YtocijojjfcpaoaaDoorJoin
import Derived.Test.YtocijojjfcpaoaaDoorTxt
import Derived.Lib.MapLaws
set_option linter.unusedVariables false
namespace Go.Proofs.YtocijojjfcpaoaaDoor
open Go.RowKit

/-- The point that a number is written as. -/
def Pl.norm (p : Int) : Int := if p < 0 ∨ 1114111 < p ∨ (55296 ≤ p ∧ p ≤ 57343) then 65533 else p
def Pl.enc (p : Int) : ByteArray := ⟨(Lib.encodeRune (Pl.clip p)).toArray⟩
def Pl.utext (l : List Int) : ByteArray := ⟨(Pl.textOf l).toArray⟩

theorem bt_enc (q : Int) (k : Nat) : Pl.bt ⟨(Lib.encodeRune q).toArray⟩ 0 k = ((Lib.encodeRuneZ q).getD k 0).toNat := by
  rw [Pl.bt_list, Nat.zero_add]
  show ((Lib.encodeRune q).getD k 0).toNat = _
  unfold Lib.encodeRune
  by_cases h : k < (Lib.encodeRuneZ q).length
  · have hb := Lib.encodeRuneZ_byte q _ (List.getElem_mem h)
    simp only [List.getD_eq_getElem?_getD, List.getElem?_map, List.getElem?_eq_getElem h, Option.map_some, Option.getD_some]
    have : ((Lib.encodeRuneZ q)[k].toNat.toUInt8).toNat = (Lib.encodeRuneZ q)[k].toNat % 256 := by simp
    rw [this]
    omega
  · simp only [List.getD_eq_getElem?_getD, List.getElem?_map, List.getElem?_eq_none (Nat.le_of_not_lt h)]
    rfl
theorem size_enc (q : Int) : (⟨(Lib.encodeRune q).toArray⟩ : ByteArray).size = (Lib.encodeRuneZ q).length := by
  show (Lib.encodeRune q).toArray.size = _
  simp [Lib.encodeRune]

theorem one_char {e : ByteArray} {n : Nat} {x : Nat} (hs : e.size = n) (hl : Pl.lead (Pl.bt e 0 0) = n) (hn : 1 ≤ n) (hf : Pl.fits e 0 n) (hp : Pl.point e 0 = x) : Pl.ok e 0 ∧ Pl.lead (Pl.bt e 0 0) = e.size ∧ Pl.point e 0 = x ∧ 0 < e.size :=
  ⟨⟨by omega, by omega, by rw [hl]; exact hf⟩, by omega, hp, by omega⟩

set_option maxHeartbeats 4000000 in
theorem enc_char (q : Int) (x : Nat) (hx : (x : Int) = if (0 ≤ q ∧ q < 55296) ∨ (57343 < q ∧ q ≤ 1114111) then q else 65533) : let e : ByteArray := ⟨(Lib.encodeRune q).toArray⟩
    Pl.ok e 0 ∧ Pl.lead (Pl.bt e 0 0) = e.size ∧ Pl.point e 0 = x ∧ 0 < e.size := by
  intro e
  have hb : ∀ k, Pl.bt e 0 k = ((Lib.encodeRuneZ q).getD k 0).toNat := bt_enc q
  have hz : e.size = (Lib.encodeRuneZ q).length := size_enc q
  have b0 := hb 0; have b1 := hb 1; have b2 := hb 2; have b3 := hb 3
  by_cases c1 : 0 ≤ q ∧ q ≤ 127
  · rw [Lib.encodeRuneZ_one c1.1 c1.2] at b0 hz
    have b0' : Pl.bt e 0 0 = q.toNat := b0
    have hl := Pl.lead_spec (Pl.bt e 0 0)
    rw [if_pos (by omega)] at hx
    refine one_char (n := 1) hz (by omega) (by omega) ⟨fun h => by omega, fun h => by omega, fun h => by omega⟩ ?_
    unfold Pl.point
    rw [if_pos (by omega)]; omega
  by_cases c2 : 128 ≤ q ∧ q ≤ 2047
  · rw [Lib.encodeRuneZ_two c2.1 c2.2] at b0 b1 hz
    have b0' : Pl.bt e 0 0 = (192 + q / 64).toNat := b0
    have b1' : Pl.bt e 0 1 = (128 + q % 64).toNat := b1
    have hl := Pl.lead_spec (Pl.bt e 0 0)
    have hlo := Pl.lo_spec (Pl.bt e 0 0)
    have hhi := Pl.hi_spec (Pl.bt e 0 0)
    rw [if_pos (by omega)] at hx
    refine one_char (n := 2) hz (by omega) (by omega) ⟨fun _ _ => by omega, fun h => by omega, fun h => by omega⟩ ?_
    unfold Pl.point
    rw [if_neg (by omega), if_pos (by omega)]; omega
  by_cases c3 : (2048 ≤ q ∧ q < 55296) ∨ (57343 < q ∧ q ≤ 65535)
  · rw [Lib.encodeRuneZ_three c3] at b0 b1 b2 hz
    have b0' : Pl.bt e 0 0 = (224 + q / 4096).toNat := b0
    have b1' : Pl.bt e 0 1 = (128 + q / 64 % 64).toNat := b1
    have b2' : Pl.bt e 0 2 = (128 + q % 64).toNat := b2
    have hl := Pl.lead_spec (Pl.bt e 0 0)
    have hlo := Pl.lo_spec (Pl.bt e 0 0)
    have hhi := Pl.hi_spec (Pl.bt e 0 0)
    rw [if_pos (by omega)] at hx
    refine one_char (n := 3) hz (by omega) (by omega) ⟨fun _ _ => by omega, fun _ _ => by omega, fun h => by omega⟩ ?_
    unfold Pl.point
    rw [if_neg (by omega), if_neg (by omega), if_pos (by omega)]; omega
  by_cases c4 : 65536 ≤ q ∧ q ≤ 1114111
  · rw [Lib.encodeRuneZ_four c4.1 c4.2] at b0 b1 b2 b3 hz
    have b0' : Pl.bt e 0 0 = (240 + q / 262144).toNat := b0
    have b1' : Pl.bt e 0 1 = (128 + q / 4096 % 64).toNat := b1
    have b2' : Pl.bt e 0 2 = (128 + q / 64 % 64).toNat := b2
    have b3' : Pl.bt e 0 3 = (128 + q % 64).toNat := b3
    have hl := Pl.lead_spec (Pl.bt e 0 0)
    have hlo := Pl.lo_spec (Pl.bt e 0 0)
    have hhi := Pl.hi_spec (Pl.bt e 0 0)
    rw [if_pos (by omega)] at hx
    refine one_char (n := 4) hz (by omega) (by omega) ⟨fun _ _ => by omega, fun _ _ => by omega, fun _ _ => by omega⟩ ?_
    unfold Pl.point
    rw [if_neg (by omega), if_neg (by omega), if_neg (by omega)]; omega
  · rw [Lib.encodeRuneZ_bad (by omega)] at b0 b1 b2 hz
    have b0' : Pl.bt e 0 0 = 239 := b0
    have b1' : Pl.bt e 0 1 = 191 := b1
    have b2' : Pl.bt e 0 2 = 189 := b2
    have hl := Pl.lead_spec (Pl.bt e 0 0)
    have hlo := Pl.lo_spec (Pl.bt e 0 0)
    have hhi := Pl.hi_spec (Pl.bt e 0 0)
    rw [if_neg (by omega)] at hx
    refine one_char (n := 3) hz (by omega) (by omega) ⟨fun _ _ => by omega, fun _ _ => by omega, fun h => by omega⟩ ?_
    unfold Pl.point
    rw [if_neg (by omega), if_neg (by omega), if_pos (by omega)]; omega

theorem norm_clip (p : Int) : Pl.norm p = if (0 ≤ Pl.clip p ∧ Pl.clip p < 55296) ∨ (57343 < Pl.clip p ∧ Pl.clip p ≤ 1114111) then Pl.clip p else 65533 := by
  unfold Pl.norm Pl.clip
  repeat' split
  all_goals omega
theorem norm_nonneg (p : Int) : 0 ≤ Pl.norm p := by unfold Pl.norm; split <;> omega

structure OneChar (e : ByteArray) (x : Nat) : Prop where
  ok : Pl.ok e 0
  lead : Pl.lead (Pl.bt e 0 0) = e.size
  point : Pl.point e 0 = x
  pos : 0 < e.size
theorem enc_one (p : Int) : OneChar (Pl.enc p) (Pl.norm p).toNat := by
  have h := enc_char (Pl.clip p) (Pl.norm p).toNat (by rw [Int.toNat_of_nonneg (norm_nonneg p)]; exact norm_clip p)
  exact ⟨h.1, h.2.1, h.2.2.1, h.2.2.2⟩

theorem OneChar.runes {e : ByteArray} {x : Nat} (h : OneChar e x) : Pl.runes e 0 = [(0, x, e.size)] := by
  have hd := ok_dec h.pos h.ok
  rw [Pl.runes_step e 0 h.pos, hd, h.point, h.lead]
  simp only [Nat.zero_add]
  rw [Pl.runes_end e e.size (Nat.lt_irrefl _)]
theorem OneChar.valid {e : ByteArray} {x : Nat} (h : OneChar e x) : Pl.valid e 0 = true := by
  unfold Pl.valid
  rw [h.runes]
  simp only [List.all_cons, List.all_nil, Bool.and_true]
  exact decide_eq_true h.ok
theorem OneChar.whole {e : ByteArray} {x : Nat} (h : OneChar e x) : Pl.whole e = e.size := by
  rcases whole_cases e with hc | ⟨hlt, hnear, ho⟩
  · exact hc.1
  · exfalso
    unfold Pl.opens at ho
    rw [Bool.and_eq_true, decide_eq_true_eq] at ho
    have hl := h.lead
    have h1 := ho.1
    rcases Nat.eq_zero_or_pos (Pl.whole e) with h0 | h0
    · rw [h0] at h1; omega
    · have ht := ok_tail h.ok (Pl.whole e) h0 (by omega)
      rw [bt_shift, Nat.zero_add] at ht
      have hs := Pl.lead_spec (Pl.bt e (Pl.whole e) 0)
      omega

/-! ### valid, cut and joined -/
theorem good_cut' {t : ByteArray} {e i : Nat} (he : e ≤ t.size) (hn : NoOver t e) (hi : i < e) : Pl.good (t.extract 0 e) i = Pl.good t i := by
  unfold Pl.good
  rw [Bool.eq_iff_iff, decide_eq_true_eq, decide_eq_true_eq]
  constructor
  · intro h
    have h2 := h.2.1
    rw [size_cut t e he, bt_cut t e i 0 he (by omega)] at h2
    exact (ok_cut t e i he hi h2).1 h
  · intro h
    exact (ok_cut t e i he hi (hn i hi h)).2 h
theorem cut_valid {t : ByteArray} {e : Nat} (he : e ≤ t.size) (hn : NoOver t e) : ∀ (d i : Nat), e - i = d → i ≤ e → Pl.valid t i = (Pl.valid (t.extract 0 e) i && Pl.valid t e) := by
  intro d
  induction d using Nat.strongRecOn with
  | _ d ih =>
    intro i hd hi
    by_cases h : i < e
    · have h1 := Pl.dec_pos t i (by omega)
      have h2 := cut_le he hn h
      rw [Pl.valid_step t i (by omega), Pl.valid_step (t.extract 0 e) i (by rw [size_cut t e he]; exact h), decode_cut' he hn h, good_cut' he hn h, ih _ (by omega) (i + (Utf8.decode t i).2) rfl h2, Bool.and_assoc]
    · obtain rfl : i = e := by omega
      rw [Pl.valid_end (t.extract 0 i) i (by rw [size_cut t i he]; omega), Bool.true_and]
theorem good_join (a b : ByteArray) (j : Nat) (hj : j < b.size) : Pl.good (a ++ b) (a.size + j) = Pl.good b j := by
  have hd := decode_join a b j
  have hz : (a ++ b).size = a.size + b.size := ByteArray.size_append
  have h1 := Pl.bad_iff (a ++ b) (a.size + j) (by omega)
  have h2 := Pl.bad_iff b j hj
  rw [hd] at h1
  unfold Pl.good
  rw [Bool.eq_iff_iff, decide_eq_true_eq, decide_eq_true_eq]
  constructor
  · intro h
    apply Classical.byContradiction
    intro hn
    exact h1.1 (h2.2 hn) h
  · intro h
    apply Classical.byContradiction
    intro hn
    exact h2.1 (h1.2 hn) h
theorem valid_join (a b : ByteArray) : ∀ (d j : Nat), b.size - j = d → Pl.valid (a ++ b) (a.size + j) = Pl.valid b j := by
  intro d
  induction d using Nat.strongRecOn with
  | _ d ih =>
    intro j hd
    have hz : (a ++ b).size = a.size + b.size := ByteArray.size_append
    by_cases h : j < b.size
    · have h1 := Pl.dec_pos b j h
      rw [Pl.valid_step (a ++ b) (a.size + j) (by omega), Pl.valid_step b j h, decode_join, good_join a b j h, Nat.add_assoc, ih _ (by omega) _ rfl]
    · rw [Pl.valid_end (a ++ b) _ (by omega), Pl.valid_end b j h]
theorem valid_both (a b : ByteArray) (h : Pl.whole a = a.size) : Pl.valid (a ++ b) 0 = (Pl.valid a 0 && Pl.valid b 0) := by
  have hn := whole_noOver a b
  rw [h] at hn
  have h1 := cut_valid (t := a ++ b) (e := a.size) (by rw [ByteArray.size_append]; omega) hn _ 0 rfl (by omega)
  rw [join_cut] at h1
  have h2 := valid_join a b _ 0 rfl
  rw [Nat.add_zero] at h2
  rw [h1, h2]

theorem utext_cons (p : Int) (l : List Int) : Pl.utext (p :: l) = Pl.enc p ++ Pl.utext l := by
  apply bx_ext
  rw [bx_append]
  rfl
theorem utext_pts (l : List Int) : Pl.pts (Pl.runes (Pl.utext l) 0) = l.map Pl.norm := by
  induction l with
  | nil => rfl
  | cons p l ih =>
    have h := enc_one p
    rw [utext_cons, pts_both _ _ h.whole, ih, h.runes]
    simp only [Pl.pts, List.map_cons, List.map_nil, List.cons_append, List.nil_append, Int.toNat_of_nonneg (norm_nonneg p)]
theorem utext_valid (l : List Int) : Pl.valid (Pl.utext l) 0 = true := by
  induction l with
  | nil => rfl
  | cons p l ih =>
    have h := enc_one p
    rw [utext_cons, valid_both _ _ h.whole, ih, h.valid]; rfl

/-- The text of a text's points: the text itself just if all of it is good; else it is longer. -/
theorem back_at (s : ByteArray) : ∀ (d i : Nat), s.size - i = d → (Pl.valid s i = true → Pl.textOf (Pl.pts (Pl.runes s i)) = s.data.toList.drop i) ∧ (s.size - i ≤ (Pl.textOf (Pl.pts (Pl.runes s i))).length) ∧ (Pl.valid s i = false → s.size - i < (Pl.textOf (Pl.pts (Pl.runes s i))).length) := by
  intro d
  induction d using Nat.strongRecOn with
  | _ d ih =>
    intro i hd
    by_cases h : i < s.size
    · have h1 := Pl.dec_pos s i h
      have h2 := Pl.dec_in s i h
      have hpt := Pl.dec_point s i h
      obtain ⟨i1, i2, i3⟩ := ih _ (by omega) (i + (Utf8.decode s i).2) rfl
      have hclip : Pl.clip ((Utf8.decode s i).1 : Int) = ((Utf8.decode s i).1 : Int) := by unfold Pl.clip; rw [if_neg (by omega)]
      have hstep : Pl.textOf (Pl.pts (Pl.runes s i)) = Lib.encodeRune ((Utf8.decode s i).1 : Int) ++ Pl.textOf (Pl.pts (Pl.runes s (i + (Utf8.decode s i).2))) := by
        rw [Pl.runes_step s i h]
        simp only [Pl.pts, List.map_cons, Pl.textOf, List.flatMap_cons, hclip]
      rw [hstep, Pl.valid_step s i h, List.length_append]
      by_cases hok : Pl.ok s i
      · have hne : s.data.toList.drop i ≠ [] := by
          intro e
          have := congrArg List.length e
          rw [List.length_drop, Pl.size_list, List.length_nil] at this
          omega
        have henc := Lib.encode_decode (s.data.toList.drop i) hne (by rw [Pl.drop_decode]; exact fun e => (Pl.bad_iff s i h).1 e hok)
        rw [Pl.drop_decode] at henc
        have hlen : (Lib.encodeRune ((Utf8.decode s i).1 : Int)).length = (Utf8.decode s i).2 := by
          rw [henc, List.length_take, List.length_drop, Pl.size_list]; omega
        rw [show Pl.good s i = true from decide_eq_true hok, Bool.true_and, hlen]
        refine ⟨fun hv => ?_, by omega, fun hv => ?_⟩
        · rw [i1 hv, henc, ← List.drop_drop, List.take_append_drop]
        · have := i3 hv; omega
      · have hdec := bad_dec h hok
        have hlen : (Lib.encodeRune ((Utf8.decode s i).1 : Int)).length = 3 := by rw [hdec]; decide
        have hn : (Utf8.decode s i).2 = 1 := by rw [hdec]
        rw [show Pl.good s i = false from decide_eq_false hok, Bool.false_and, hlen]
        refine ⟨fun hv => (by cases hv), by omega, fun _ => by omega⟩
    · rw [Pl.runes_end s i h, Pl.valid_end s i h]
      refine ⟨fun _ => ?_, ?_, fun hv => (by cases hv)⟩
      · rw [List.drop_of_length_le (by rw [Pl.size_list]; omega)]; rfl
      · show s.size - i ≤ 0; omega
theorem back_iff (s : ByteArray) : Pl.utext (Pl.pts (Pl.runes s 0)) = s ↔ Pl.valid s 0 = true := by
  obtain ⟨h1, h2, h3⟩ := back_at s _ 0 rfl
  constructor
  · intro h
    cases hv : Pl.valid s 0 with
    | true => rfl
    | false =>
      have := h3 hv
      have e := congrArg ByteArray.size h
      have e2 : (Pl.utext (Pl.pts (Pl.runes s 0))).size = (Pl.textOf (Pl.pts (Pl.runes s 0))).length := by
        show ((Pl.textOf (Pl.pts (Pl.runes s 0))).toArray).size = _
        simp
      omega
  · intro hv
    apply bx_ext
    have := h1 hv
    rw [List.drop_zero] at this
    exact this
end Go.Proofs.YtocijojjfcpaoaaDoor
