/- The laws of signs, and the walk of ClassSigns. -/
import Derived.Test.YtocijojjfcpaoaaDoorWk04
set_option linter.unusedVariables false
set_option linter.unusedSimpArgs false
namespace Go.Proofs.YtocijojjfcpaoaaDoor
open Go.RowKit Go.Proofs.YtocijojjfcpaoaaDoorW.PrintWords

def Pl.signs : List ByteArray := Pl.twoSigns ++ Pl.oneSigns.map fun c => ⟨#[c]⟩
def Pl.pre (t : ByteArray) : ByteArray → Bool := fun x => Lib.hasPrefix t.data.toList x.data.toList

theorem Pl.signOf_find (t : ByteArray) (h : 0 < t.size) : Pl.signOf t = (Pl.signs.find? (Pl.pre t)).getD ⟨#[]⟩ := by
  unfold Pl.signs Pl.signOf Pl.two
  rw [List.find?_append]
  have := PClassTexts.one_find t h Pl.oneSigns
  cases h : Pl.twoSigns.find? (fun x => Lib.hasPrefix t.data.toList x.data.toList) with
  | none =>
    have h' : Pl.twoSigns.find? (Pl.pre t) = Option.none := h
    rw [h', Option.none_or]
    exact this.symm
  | some x =>
    have h' : Pl.twoSigns.find? (Pl.pre t) = some x := h
    rw [h']; rfl

/-- What a sign is: not empty, at most two bytes, a sign by itself, no part at its head, no name. -/
def Pl.signGood (x : ByteArray) : Bool := decide (0 < x.size) && (decide (x.size ≤ 2) && (decide ((Pl.signOf x).data = x.data) && (!Pl.isPart ((x.get! 0).toNat : Int) && !Pl.isName x)))
theorem Pl.signs_good : Pl.signs.all Pl.signGood = true := by decide +kernel

structure Pl.SignFacts (x : ByteArray) : Prop where
  pos : 0 < x.size
  le : x.size ≤ 2
  self : Pl.signOf x = x
  part : Pl.isPart ((x.get! 0).toNat : Int) = false
  name : Pl.isName x = false

theorem Pl.sign_facts {x : ByteArray} (h : x ∈ Pl.signs) : Pl.SignFacts x := by
  have := List.all_eq_true.1 Pl.signs_good x h
  unfold Pl.signGood at this
  simp only [Bool.and_eq_true, decide_eq_true_eq, Bool.not_eq_true'] at this
  obtain ⟨a, b, c, d, e⟩ := this
  exact ⟨a, b, ByteArray.ext c, d, e⟩

/-- At a text that is not empty: no sign, or one that stands there. -/
theorem Pl.sign_cases (t : ByteArray) (h : 0 < t.size) : (Pl.signOf t = ⟨#[]⟩ ∧ Pl.signs.find? (Pl.pre t) = Option.none) ∨ (Pl.SignFacts (Pl.signOf t) ∧ Pl.pre t (Pl.signOf t) = true) := by
  rw [Pl.signOf_find t h]
  cases hf : Pl.signs.find? (Pl.pre t) with
  | none => exact Or.inl ⟨rfl, rfl⟩
  | some x => exact Or.inr ⟨Pl.sign_facts (List.mem_of_find?_eq_some hf), List.find?_some hf⟩

theorem Pl.pre_take (t u x : ByteArray) (n : Nat) (hu : u.data.toList = t.data.toList.take n) (hx : x.size ≤ n) : Pl.pre u x = Pl.pre t x := by
  unfold Pl.pre Lib.hasPrefix
  rw [Bool.eq_iff_iff, List.isPrefixOf_iff_prefix, List.isPrefixOf_iff_prefix, hu, List.prefix_take_iff]
  rw [Pl.size_list]
  exact ⟨fun h => h.1, fun h => ⟨h, hx⟩⟩

theorem Pl.signOf_take (t u : ByteArray) (n : Nat) (hu : u.data.toList = t.data.toList.take n) (hn : 2 ≤ n) (ht : 0 < t.size) (hp : 0 < u.size) : Pl.signOf u = Pl.signOf t := by
  rw [Pl.signOf_find t ht, Pl.signOf_find u hp]
  congr 1
  have key : ∀ l : List ByteArray, (∀ x ∈ l, x.size ≤ 2) → l.find? (Pl.pre u) = l.find? (Pl.pre t) := by
    intro l hl
    induction l with
    | nil => rfl
    | cons x l ih =>
      rw [List.find?_cons, List.find?_cons, Pl.pre_take t u x n hu (by have := hl x List.mem_cons_self; omega), ih (fun y hy => hl y (List.mem_cons_of_mem _ hy))]
  exact key _ fun x hx => (Pl.sign_facts hx).le

theorem Pl.signOf_none (t u : ByteArray) (n : Nat) (hu : u.data.toList = t.data.toList.take n) (hp : 0 < u.size) (h : Pl.signs.find? (Pl.pre t) = Option.none) : Pl.signOf u = ⟨#[]⟩ := by
  rw [Pl.signOf_find u hp]
  have : Pl.signs.find? (Pl.pre u) = Option.none := by
    rw [List.find?_eq_none] at h ⊢
    intro x hx hux
    refine h x hx ?_
    unfold Pl.pre Lib.hasPrefix at hux ⊢
    rw [List.isPrefixOf_iff_prefix] at hux ⊢
    rw [hu] at hux
    exact hux.trans (List.take_prefix _ _)
  rw [this]; rfl

theorem ext_list {a b : ByteArray} (h : a.data.toList = b.data.toList) : a = b := ByteArray.ext (Array.toList_inj.1 h)
theorem extract_list (s : ByteArray) (i j : Nat) : (s.extract i j).data.toList = (s.data.toList.drop i).take (j - i) := by
  rw [ByteArray.data_extract, Array.toList_extract, List.extract_eq_take_drop]
theorem size_extract (s : ByteArray) (i j : Nat) (h : j ≤ s.size) : (s.extract i j).size = j - i := by rw [ByteArray.size_extract]; omega
theorem append_list (a b : ByteArray) : (a ++ b).data.toList = a.data.toList ++ b.data.toList := by rw [ByteArray.data_append, Array.toList_append]

theorem sign_at (s : ByteArray) (i : Nat) (h : i < s.size) : Pl.sign s (i : Int) = Pl.signOf (s.extract i s.size) := by
  unfold Pl.sign; rw [if_pos (by omega), Int.toNat_natCast]
theorem sign_zero (s : ByteArray) (h : 0 < s.size) : Pl.sign s 0 = Pl.signOf s := by
  have := sign_at s 0 h
  rw [Int.natCast_zero] at this
  rw [this]
  congr 1
  apply ext_list
  rw [extract_list, List.drop_zero, List.take_of_length_le (by rw [Pl.size_list]; omega)]

/-- What ClassSigns asks, of a place in the text where no sign stands. -/
theorem signs_empty (s : ByteArray) (i : Nat) (h : i < s.size) (he : Pl.sign s (i : Int) = ⟨#[]⟩) : Pl.sign (s.extract i (i + 1)) 0 = ⟨#[]⟩ := by
  have hp : 0 < (s.extract i s.size).size := by rw [Pl.size_drop]; omega
  have hq : 0 < (s.extract i (i + 1)).size := by rw [size_extract _ _ _ (by omega)]; omega
  rw [sign_zero _ hq]
  rw [sign_at s i h] at he
  rcases Pl.sign_cases _ hp with h1 | h1
  · exact Pl.signOf_none (s.extract i s.size) _ 1 (by rw [extract_list, Lib.extract_to_end]; congr 1; omega) hq h1.2
  · have := h1.1.pos
    rw [he] at this
    exact absurd this (by decide)

structure SignSaid (s : ByteArray) (i : Nat) (x : ByteArray) : Prop where
  le : x.size ≤ s.size - i
  stands : s.extract i (i + x.size) = x
  self : Pl.sign x 0 = x
  built : Pl.sign (s.extract 0 i ++ x) (i : Int) = x
  longer : x.size < s.size - i → Pl.sign (s.extract i (i + x.size + 1)) 0 = x
  facts : Pl.SignFacts x

theorem signs_full (s : ByteArray) (i : Nat) (h : i < s.size) (he : Pl.sign s (i : Int) ≠ ⟨#[]⟩) : SignSaid s i (Pl.sign s (i : Int)) := by
  have hp : 0 < (s.extract i s.size).size := by rw [Pl.size_drop]; omega
  rw [sign_at s i h] at he ⊢
  rcases Pl.sign_cases _ hp with h1 | ⟨hf, hpre⟩
  · exact absurd h1.1 he
  · obtain ⟨x, hx⟩ : ∃ x, Pl.signOf (s.extract i s.size) = x := ⟨_, rfl⟩
    rw [hx] at hf hpre ⊢
    have hpi := (PClassTexts.pre_iff s x i).1 hpre
    refine ⟨hpi.1, (PClassTexts.toList_iff _ _).1 hpi.2, by rw [sign_zero _ hf.pos, hf.self], ?_, ?_, hf⟩
    · have hsz : (s.extract 0 i ++ x).size = i + x.size := by
        rw [ByteArray.size_append, size_extract _ _ _ (by omega)]; omega
      have := hf.pos
      rw [sign_at _ i (by omega)]
      have e : (s.extract 0 i ++ x).extract i (s.extract 0 i ++ x).size = x := by
        apply ext_list
        rw [Lib.extract_to_end, append_list, List.drop_append_of_le_length (by rw [Pl.size_list, size_extract _ _ _ (by omega)]; omega), List.drop_of_length_le (by rw [Pl.size_list, size_extract _ _ _ (by omega)]; omega)]; rfl
      rw [e, hf.self]
    · intro hl
      have hq : 0 < (s.extract i (i + x.size + 1)).size := by rw [size_extract _ _ _ (by omega)]; omega
      have := hf.pos
      rw [sign_zero _ hq]
      exact (Pl.signOf_take (s.extract i s.size) _ (x.size + 1) (by rw [extract_list, Lib.extract_to_end]; congr 1; omega) (by omega) hp hq).trans hx

theorem get_head (x : ByteArray) (h : 0 < x.size) : x[0]'h = x.get! 0 := by
  show x.data[0] = x.data[0]!
  rw [getElem!_pos]

set_option maxRecDepth 100000 in
set_option maxHeartbeats 1000000 in
theorem classSigns_walk (s : ByteArray) (a : Int) (w : World) (hs : s.size ≤ 140737488351232) (_h0 : -9223372036854775808 ≤ a) (_h1 : a ≤ 9223372036854775807) (ht : CTabs w) (hu : UTabs w) :
    Calls Tryd.prog 11 #[.string s, .int .i64 a] w fun e w' => e = .returned (.bool true) ∧ Below w.heap.size w w' := by
  have h6 := utabs_size hu
  have h4 : 4 ≤ w.heap.size := by omega
  have HC := Lib.hid ht
  have HU := Lib.hid hu
  clear ht hu
  by_cases hl : s.size ≤ 268435455
  · by_cases hin : 0 ≤ a ∧ a < s.size
    · obtain ⟨i, rfl⟩ := Int.eq_ofNat_of_zero_le hin.1
      have hi : i < s.size := by omega
      obtain ⟨x, hx⟩ : ∃ x, Pl.sign s (i : Int) = x := ⟨_, rfl⟩
      have HX := Lib.hid hx
      by_cases he : x = ⟨#[]⟩
      · have hn := signs_empty s i hi (hx.trans he)
        subst he
        clear hx hin
        have S1 := sign_any s i w hs
        rw [HX.out] at S1
        have C1 := Lib.hid S1
        have C2 : Hid (∀ w, _) := fun w => sign_any (s.extract i (i + 1)) 0 w (by rw [ByteArray.size_extract]; omega)
        rw [hn] at C2
        clear S1 hn
        go_enter Tryd.func11, Tryd.ntmps11
        go_wp2_with (go_at_call 42; first | (with_reducible refine C1.out.mono ?_; rintro e w1 ⟨rfl, hb⟩; have HB1 := Aside0.mk hb; clear hb) | (with_reducible refine (C2.out _).mono ?_; rintro e w2 ⟨rfl, hb⟩; have HB2 := Aside0.mk (HB1.out.trans (hb.mono HB1.out.size)); have HC2 := Lib.hid (HC.out.below HB2.out h4); have HU2 := Lib.hid (utf8_below HU.out HB2.out h6); clear hb))
        go_wp2_with (go_at_call 35; refine (awake04 _ HC2.out HU2.out).mono ?_; rintro e w3 ⟨rfl, hb⟩; have HB3 := Aside0.mk (HB2.out.trans (hb.mono HB2.out.size)); clear hb)
        go_ret
        exact ⟨rfl, HB3.out⟩
      · have hf := signs_full s i hi (by rw [hx]; exact he)
        rw [hx] at hf
        have hxs : ¬ x.toList = [] := fun e => he ((PClassTexts.toList_iff x ⟨#[]⟩).1 (e.trans (by rw [ByteArray.toList_eq])))
        have hxe : x.toList.isEmpty = false := by rw [List.isEmpty_eq_false_iff]; exact hxs
        have hpos := hf.facts.pos
        have hle := hf.facts.le
        have hin2 := hf.le
        have FN := Lib.hid hf.facts.name
        have FP : Hid (Pl.isPart (wrap64 ((x[0]'hpos).toNat : Int)) = false) := by show _ = _; rw [get_head x hpos, PClassTexts.w64 (by omega) (by have := (x.get! 0).toNat_lt; omega)]; exact hf.facts.part
        have hst : (s.extract i (i + x.size)).toList = x.toList := (PClassTexts.toList_iff _ _).2 hf.stands
        have S1 := sign_any s i w hs
        rw [HX.out] at S1
        have C1 := Lib.hid S1
        have C2 : Hid (∀ w, _) := fun w => sign_any x 0 w (by omega)
        rw [hf.self] at C2
        have C3 : Hid (∀ w, _) := fun w => sign_any (s.extract 0 i ++ x) (i : Int) w (by rw [ByteArray.size_append, ByteArray.size_extract]; omega)
        rw [hf.built] at C3
        by_cases hlong : x.size < s.size - i
        · have C4 : Hid (∀ w, _) := fun w => sign_any (s.extract i (i + x.size + 1)) 0 w (by rw [ByteArray.size_extract]; omega)
          rw [hf.longer hlong] at C4
          clear S1 hf hx he hin
          go_enter Tryd.func11, Tryd.ntmps11
          go_wp2_with (go_at_call 42; first | (with_reducible refine C1.out.mono ?_; rintro e w1 ⟨rfl, hb⟩; have HB1 := Aside0.mk hb; clear hb) | (with_reducible refine (C2.out _).mono ?_; rintro e w2 ⟨rfl, hb⟩; have HB2 := Aside0.mk (HB1.out.trans (hb.mono HB1.out.size)); clear hb) | (with_reducible refine (C3.out _).mono ?_; rintro e w3 ⟨rfl, hb⟩; have HB3 := Aside0.mk (HB2.out.trans (hb.mono HB2.out.size)); have HC3 := Lib.hid (HC.out.below HB3.out h4); have h43 := Lib.hid (Nat.le_trans h4 HB3.out.size); clear hb) | (with_reducible refine (C4.out _).mono ?_; rintro e w4 ⟨rfl, hb⟩; have HB4 := Aside0.mk (HB3.out.trans (hb.mono HB3.out.size)); have HC4 := Lib.hid (HC.out.below HB4.out h4); have h44 := Lib.hid (Nat.le_trans h4 HB4.out.size); clear hb))
          go_wp2_with (go_at_call 38; refine (part_any _ _ HC4.out h44.out).mono ?_; rw [FP.out]; rintro e w5 ⟨rfl, hb⟩; have HB5 := Aside0.mk (HB4.out.trans (hb.mono HB4.out.size)); have HC5 := Lib.hid (HC.out.below HB5.out h4); have h45 := Lib.hid (Nat.le_trans h4 HB5.out.size); have HU5 := Lib.hid (utf8_below HU.out HB5.out h6); clear hb)
          go_wp2_with (go_at_call 34; refine (isName_any x _ (by omega) HU5.out HC5.out h45.out).mono ?_; rw [FN.out]; rintro e w6 ⟨rfl, hb⟩; have HB6 := Aside0.mk (HB5.out.trans (hb.mono HB5.out.size)); have HC6 := Lib.hid (HC.out.below HB6.out h4); have HU6 := Lib.hid (utf8_below HU.out HB6.out h6); clear hb)
          go_wp2_with (go_at_call 35; refine (awake04 _ HC6.out HU6.out).mono ?_; rintro e w7 ⟨rfl, hb⟩; have HB7 := Aside0.mk (HB6.out.trans (hb.mono HB6.out.size)); clear hb)
          go_ret
          exact ⟨rfl, HB7.out⟩
        · clear S1 hf hx he hin
          go_enter Tryd.func11, Tryd.ntmps11
          go_wp2_with (go_at_call 42; first | (with_reducible refine C1.out.mono ?_; rintro e w1 ⟨rfl, hb⟩; have HB1 := Aside0.mk hb; clear hb) | (with_reducible refine (C2.out _).mono ?_; rintro e w2 ⟨rfl, hb⟩; have HB2 := Aside0.mk (HB1.out.trans (hb.mono HB1.out.size)); clear hb) | (with_reducible refine (C3.out _).mono ?_; rintro e w3 ⟨rfl, hb⟩; have HB3 := Aside0.mk (HB2.out.trans (hb.mono HB2.out.size)); have HC3 := Lib.hid (HC.out.below HB3.out h4); have h43 := Lib.hid (Nat.le_trans h4 HB3.out.size); clear hb))
          go_wp2_with (go_at_call 38; refine (part_any _ _ HC3.out h43.out).mono ?_; rw [FP.out]; rintro e w5 ⟨rfl, hb⟩; have HB5 := Aside0.mk (HB3.out.trans (hb.mono HB3.out.size)); have HC5 := Lib.hid (HC.out.below HB5.out h4); have h45 := Lib.hid (Nat.le_trans h4 HB5.out.size); have HU5 := Lib.hid (utf8_below HU.out HB5.out h6); clear hb)
          go_wp2_with (go_at_call 34; refine (isName_any x _ (by omega) HU5.out HC5.out h45.out).mono ?_; rw [FN.out]; rintro e w6 ⟨rfl, hb⟩; have HB6 := Aside0.mk (HB5.out.trans (hb.mono HB5.out.size)); have HC6 := Lib.hid (HC.out.below HB6.out h4); have HU6 := Lib.hid (utf8_below HU.out HB6.out h6); clear hb)
          go_wp2_with (go_at_call 35; refine (awake04 _ HC6.out HU6.out).mono ?_; rintro e w7 ⟨rfl, hb⟩; have HB7 := Aside0.mk (HB6.out.trans (hb.mono HB6.out.size)); clear hb)
          go_ret
          exact ⟨rfl, HB7.out⟩
    · have S1 := sign_out s a w hin
      have C1 := Lib.hid S1
      clear S1
      go_enter Tryd.func11, Tryd.ntmps11
      by_cases h0 : a < 0
      · clear hin
        go_wp2_with (go_at_call 42; refine C1.out.mono ?_; rintro e w1 ⟨rfl, hb⟩; have HB1 := Aside0.mk hb; have HC1 := Lib.hid (HC.out.below HB1.out h4); have HU1 := Lib.hid (utf8_below HU.out HB1.out h6); clear hb)
        go_wp2_with (go_at_call 35; refine (awake04 _ HC1.out HU1.out).mono ?_; rintro e w2 ⟨rfl, hb⟩; have HB2 := Aside0.mk (HB1.out.trans (hb.mono HB1.out.size)); clear hb)
        go_ret
        exact ⟨rfl, HB2.out⟩
      · have h1 : (s.size : Int) ≤ a := by omega
        clear hin
        go_wp2_with (go_at_call 42; refine C1.out.mono ?_; rintro e w1 ⟨rfl, hb⟩; have HB1 := Aside0.mk hb; have HC1 := Lib.hid (HC.out.below HB1.out h4); have HU1 := Lib.hid (utf8_below HU.out HB1.out h6); clear hb)
        go_wp2_with (go_at_call 35; refine (awake04 _ HC1.out HU1.out).mono ?_; rintro e w2 ⟨rfl, hb⟩; have HB2 := Aside0.mk (HB1.out.trans (hb.mono HB1.out.size)); clear hb)
        go_ret
        exact ⟨rfl, HB2.out⟩
  · have hl' : (268435455 : Int) < s.size := by omega
    go_enter Tryd.func11, Tryd.ntmps11
    go_wp2
    go_ret
    exact ⟨rfl, Below.refl _ _⟩
end Go.Proofs.YtocijojjfcpaoaaDoor
