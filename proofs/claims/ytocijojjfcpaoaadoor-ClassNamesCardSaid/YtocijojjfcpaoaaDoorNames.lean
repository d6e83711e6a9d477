/- The walk of ClassNames. -/
import Derived.Test.YtocijojjfcpaoaaDoorWords
import Derived.Test.YtocijojjfcpaoaaDoorAw04
import Derived.Test.YtocijojjfcpaoaaDoorText
import Derived.Test.YtocijojjfcpaoaaDoorC
set_option linter.unusedVariables false
set_option linter.unusedSimpArgs false
namespace Go.Proofs.YtocijojjfcpaoaaDoor
open Go.RowKit Go.Proofs.YtocijojjfcpaoaaDoorW.PrintWords Go.Proofs.YtocijojjfcpaoaaDoorW.PrintMore

theorem letter_cols (p : Int) (h : Pl.isLetter p = true) : 1 ≤ Pl.widthOf p := by
  unfold Pl.isLetter at h
  unfold Pl.widthOf
  simp only [Pl.inRanges, Pl.letters, Pl.none, List.any_cons, List.any_nil, Bool.or_eq_true, Bool.and_eq_true, decide_eq_true_eq, Bool.or_false] at h ⊢
  repeat' split
  all_goals omega
theorem wsum_pos (a : List Int) : 0 ≤ Pl.wsum a := by
  induction a with
  | nil => simp [Pl.wsum]
  | cons p a ih => have := Pl.widthOf_bd p; simp only [Pl.wsum]; omega
theorem utab4_below {B : Nat} {w w' : World} (h : UTab4 w) (hb : Below B w w') (hB : 6 ≤ B) : UTab4 w' := utf8_below h hb hB
theorem point_row (p : Int) (B : Nat) (w : World) (h : w.heap[B]? = some (.cells #[.int .i64 p] 3 (0, 0))) :
    Calls Tryd.prog 46 #[.slice (some ⟨B, 0, none⟩) 1 1] w fun e w' => e = .returned (.string (Pl.enc p)) ∧ Below w.heap.size w w' := by
  have hC : CI w (some ⟨B, 0, none⟩) [p] := C_ints (l := [p]) h (by simp)
  refine (text_any (some ⟨B, 0, none⟩) 1 [p] w hC (Nat.le_refl _) (by simp)).mono ?_
  have e : (⟨(Pl.textOf [p]).toArray⟩ : ByteArray) = Pl.enc p := by
    apply bx_ext
    show Pl.textOf [p] = Lib.encodeRune (Pl.clip p)
    simp [Pl.textOf]
  rw [e]
  exact fun _ _ h => h

theorem rd_ok {L : List Int} (h : Pl.ptsOk L = true) (i : Nat) (hi : i < L.length) : Pl.isPart (rd L (i : Int)) = true := by
  have h1 : rd L (i : Int) = L[i] := by unfold rd; simp [hi]
  rw [h1]
  exact List.all_eq_true.1 h _ (List.getElem_mem hi)

set_option maxRecDepth 100000 in
set_option maxHeartbeats 2000000 in
theorem classNames_walk (s : ByteArray) (p : Int) (w : World) (hs : s.size ≤ 140737488351232) (_h0 : -9223372036854775808 ≤ p) (_h1 : p ≤ 9223372036854775807) (hw : WTabs w) (ht : CTabs w) (hu : Lib.Utf8Tabs 4 5 w) :
    Calls Tryd.prog 15 #[.string s, .int .i64 p] w fun e w' => e = .returned (.bool true) ∧ Below w.heap.size w w' := by
  have h6 := utab4_size hu
  have h4 : 4 ≤ w.heap.size := by omega
  have h2 : 2 ≤ w.heap.size := by omega
  have HC := Lib.hid ht
  have HU := Lib.hid hu
  have HW := Lib.hid hw
  clear ht hu hw
  by_cases hl : s.size ≤ 268435455
  · by_cases hwd : Pl.wordy s = true
    · have hsaid := wordy_said hwd
      obtain ⟨q, l, hq, hql, hall⟩ := word_points hsaid
      have hws : 1 ≤ Pl.wsum (Pl.pts (Pl.runes s 0)) := by
        rw [hq]
        have h1 := letter_cols q hql
        have h2 := wsum_pos l
        show 1 ≤ Pl.widthOf q + Pl.wsum l
        omega
      obtain ⟨ws, hwe⟩ : ∃ x, Pl.wsum (Pl.pts (Pl.runes s 0)) = x := ⟨_, rfl⟩
      have hmore := word_more hsaid p
      have hbad := word_bad hsaid
      obtain ⟨t, htt⟩ : ∃ t, s ++ Pl.enc p = t := ⟨_, rfl⟩
      rw [htt] at hmore
      have hen : (Pl.enc p).size ≤ 4 := by
        have h := Lib.runeCells_le (Pl.clip p)
        rw [Lib.runeCells_length] at h
        show (Lib.encodeRune (Pl.clip p)).toArray.size ≤ 4
        simpa using h.2
      have htz : t.size ≤ s.size + 4 := by
        rw [← htt, ByteArray.size_append]
        omega
      rw [hwe] at hws
      have hn1 : decide (ws < 1) = false := decide_eq_false (by omega)
      have CV0 : ∀ w, _ → _ := fun w h => valid_any s w hs h
      rw [hsaid.valid] at CV0
      have CV := Lib.hid CV0
      have CT0 : ∀ w, _ → _ → _ := fun w h h2 => wtext_any s w hs h h2
      rw [hwe] at CT0
      have CT := Lib.hid CT0
      obtain ⟨L, hL⟩ : ∃ L, q :: l = L := ⟨_, rfl⟩
      have hrd0 : rd L 0 = q := by rw [← hL]; rfl
      rw [hL] at hq hall
      obtain ⟨m, hm⟩ : ∃ m, L.length = m := ⟨_, rfl⟩
      have hm1 : 1 ≤ m := by rw [← hm, ← hL]; simp
      have hm0 : ((m : Int) == 0) = false := by rw [beq_eq_false_iff_ne]; omega
      have CP0 : ∀ w, _ := fun w => points_row s w (by omega)
      rw [hq, hm] at CP0
      have CP := Lib.hid CP0
      have HLM := Lib.hid hm
      have HR0 := Lib.hid hrd0
      have CN : Hid (∀ w, _ → _ → _ → _) := fun w h h2 h3 => isName_any s w hs h h2 h3
      have CK : Hid (∀ w, _) := fun w => isKey_any s w
      have CB0 : ∀ w, _ → _ → _ → _ := fun w h h2 h3 => isName_any (s ++ ⟨#[255]⟩) w (by rw [ByteArray.size_append]; show s.size + 1 ≤ _; omega) h h2 h3
      rw [hbad] at CB0
      have CB := Lib.hid CB0
      have hor := either_wordy t
      rw [hmore] at hor
      obtain ⟨bn, hbn⟩ : ∃ x, Pl.isName t = x := ⟨_, rfl⟩
      obtain ⟨bk, hbk⟩ : ∃ x, Pl.isKey t = x := ⟨_, rfl⟩
      obtain ⟨br, hbr⟩ : ∃ x, Pl.isPart (Pl.norm p) = x := ⟨_, rfl⟩
      rw [hbn, hbk, hbr] at hor
      have CNT : Hid (∀ w, Lib.Utf8Tabs 4 5 w → CTabs w → 4 ≤ w.heap.size → Calls Tryd.prog 34 #[.string t] w fun e w' => e = .returned (.bool bn) ∧ Below w.heap.size w w') := Lib.hid fun w h h2 h3 => by
        have := isName_any t w (by omega) h h2 h3
        rw [hbn] at this
        exact this
      have CKT : Hid (∀ w, Calls Tryd.prog 33 #[.string t] w fun e w' => e = .returned (.bool bk) ∧ Below w.heap.size w w') := Lib.hid fun w => by
        have := isKey_any t w
        rw [hbk] at this
        exact this
      have CPT : Hid (∀ v, Pl.norm p = v → ∀ w, CTabs w → 4 ≤ w.heap.size → Calls Tryd.prog 38 #[.int .i64 v] w fun e w' => e = .returned (.bool br) ∧ Below w.heap.size w w') := Lib.hid fun v hv w h h2 => by
        have := part_any v w h h2
        rw [← hv, hbr] at this
        rw [← hv]
        exact this
      have BN : Hid ((bn = true ∧ br = true) ∨ (bn = false ∧ bk = br)) := Lib.hid (by cases bn <;> simp at hor <;> simp [hor])
      have HTT := Lib.hid htt
      have HQL := Lib.hid hql
      have HALL := Lib.hid hall
      have hlb : m ≤ 268435455 := by
        have := Pl.runes_length s s.size 0 (by omega)
        have h5 := congrArg List.length hq
        rw [len_pts, hm] at h5
        omega
      have hnm := name_wordy s
      rw [hwd, Bool.true_and] at hnm
      have HB0 := Aside0.mk (Below.refl w.heap.size w)
      clear CV0 CT0 CP0 CB0 hmore hor hbn hbk hbr htt hql hall hbad hsaid hwe hwd hq hL hm hrd0
      obtain ⟨ks, hks⟩ : ∃ x, Pl.isKey s = x := ⟨_, rfl⟩
      rw [hks] at hnm
      have HN := Lib.hid hnm
      have HK := Lib.hid hks
      clear hnm hks
      have cs : (decide (p < 0) = true ∧ Hid (Pl.norm p = 65533)) ∨ (decide (p < 0) = false ∧ decide ((1114111 : Int) < p) = true ∧ Hid (Pl.norm p = 65533)) ∨ (decide (p < 0) = false ∧ decide ((1114111 : Int) < p) = false ∧ decide ((55296 : Int) ≤ p) = true ∧ decide (p ≤ 57343) = true ∧ Hid (Pl.norm p = 65533)) ∨ (decide (p < 0) = false ∧ decide ((1114111 : Int) < p) = false ∧ decide ((55296 : Int) ≤ p) = true ∧ decide (p ≤ 57343) = false ∧ Hid (Pl.norm p = p)) ∨ (decide (p < 0) = false ∧ decide ((1114111 : Int) < p) = false ∧ decide ((55296 : Int) ≤ p) = false ∧ Hid (Pl.norm p = p)) := by
        by_cases k1 : p < 0
        · exact Or.inl ⟨decide_eq_true k1, by unfold Hid Pl.norm; rw [if_pos (by omega)]⟩
        by_cases k2 : 1114111 < p
        · exact Or.inr (Or.inl ⟨decide_eq_false k1, decide_eq_true k2, by unfold Hid Pl.norm; rw [if_pos (by omega)]⟩)
        by_cases k3 : 55296 ≤ p
        · by_cases k4 : p ≤ 57343
          · exact Or.inr (Or.inr (Or.inl ⟨decide_eq_false k1, decide_eq_false k2, decide_eq_true k3, decide_eq_true k4, by unfold Hid Pl.norm; rw [if_pos (by omega)]⟩))
          · exact Or.inr (Or.inr (Or.inr (Or.inl ⟨decide_eq_false k1, decide_eq_false k2, decide_eq_true k3, decide_eq_false k4, by unfold Hid Pl.norm; rw [if_neg (by omega)]⟩)))
        · exact Or.inr (Or.inr (Or.inr (Or.inr ⟨decide_eq_false k1, decide_eq_false k2, decide_eq_false k3, by unfold Hid Pl.norm; rw [if_neg (by omega)]⟩)))
      have CS := Lib.hid cs
      clear cs
      cases ks <;> (
        go_enter Tryd.func15, Tryd.ntmps15
        go_wp2_with (go_at_call 34; (with_reducible refine (CN.out _ HU.out HC.out h4).mono ?_); rw [HN.out]; rintro e w1 ⟨rfl, hb⟩; have HB1 := Aside0.mk hb; have HC1 := Lib.hid (HC.out.below HB1.out h4); have HU1 := Lib.hid (utab4_below HU.out HB1.out h6); have HW1 := Lib.hid (HW.out.below HB1.out h2); clear hb)
        go_wp2_with (go_at_call 33; (with_reducible refine (CK.out _).mono ?_); rw [HK.out]; rintro e w2 ⟨rfl, hb⟩; have HB2 := Aside0.mk (HB1.out.trans (hb.mono HB1.out.size)); have HC2 := Lib.hid (HC.out.below HB2.out h4); have HU2 := Lib.hid (utab4_below HU.out HB2.out h6); have HW2 := Lib.hid (HW.out.below HB2.out h2); have h42 := Lib.hid (Nat.le_trans h4 HB2.out.size); have h22 := Lib.hid (Nat.le_trans h2 HB2.out.size); clear hb)
        go_wp2_with (go_at_call 47; (with_reducible refine (CV.out _ HU2.out).mono ?_); rintro e w3 ⟨rfl, hb⟩; have HB3 := Aside0.mk (HB2.out.trans (hb.mono HB2.out.size)); have HC3 := Lib.hid (HC.out.below HB3.out h4); have HU3 := Lib.hid (utab4_below HU.out HB3.out h6); have HW3 := Lib.hid (HW.out.below HB3.out h2); have h43 := Lib.hid (Nat.le_trans h4 HB3.out.size); have h23 := Lib.hid (Nat.le_trans h2 HB3.out.size); clear hb)
        go_wp2_with (go_at_call 23; (with_reducible refine (CT.out _ HW3.out h23.out).mono ?_); rintro e w4 ⟨rfl, hb⟩; have HB4 := Aside0.mk (HB3.out.trans (hb.mono HB3.out.size)); have HC4 := Lib.hid (HC.out.below HB4.out h4); have HU4 := Lib.hid (utab4_below HU.out HB4.out h6); have HW4 := Lib.hid (HW.out.below HB4.out h2); have h44 := Lib.hid (Nat.le_trans h4 HB4.out.size); have h24 := Lib.hid (Nat.le_trans h2 HB4.out.size); clear hb)
        go_wp2_with (go_at_call 27; (with_reducible refine (CP.out _).mono ?_); rintro e w5 ⟨A5, c5, rfl, hc5, hC5, hb⟩; have HB5 := Aside0.mk (HB4.out.trans (hb.mono HB4.out.size)); have HC5 := Lib.hid (HC.out.below HB5.out h4); have HU5 := Lib.hid (utab4_below HU.out HB5.out h6); have HW5 := Lib.hid (HW.out.below HB5.out h2); have h45 := Lib.hid (Nat.le_trans h4 HB5.out.size); have h25 := Lib.hid (Nat.le_trans h2 HB5.out.size); obtain ⟨ad, e0, hx0⟩ := Kd.at_int hC5 0 (by omega) (by rw [HLM.out]; omega); cases e0; have hx1 : w5.cell? ad = some (.int .i64 q) := (by have h := hx0; rw [HR0.out] at h; exact h); have HC55 := Aside0.mk hC5; have Hc5 := Aside0.mk hc5; clear hC5 hc5; clear hb)
        go_wp2_with (go_at_call 36; (refine (letter_any q _ HC5.out).mono ?_); rw [HQL.out]; rintro e w6 ⟨rfl, hb⟩; have HB6 := Aside0.mk (HB5.out.trans (hb.mono HB5.out.size)); have HB56 := Aside0.mk hb; clear hb)
        go_loopw [8] (fun v wr => ∃ i : Nat, i ≤ m ∧ v = .int .i64 i ∧ Aside0 (Below w.heap.size w wr ∧ Below w5.heap.size w5 wr)) (fun v _ => m - (intOf v).toNat)
        case atStart => exact ⟨0, by omega, rfl, ⟨HB6.out, HB56.out⟩⟩
        case round =>
          obtain ⟨i, hi, rfl, HBr⟩ := hrel
          by_cases hlt : i < m
          · obtain ⟨a1, e1, hy1⟩ := Kd.at_int HC55.out (i : Int) (by omega) (by rw [HLM.out]; omega)
            cases e1
            have HOK := Lib.hid (rd_ok HALL.out i (by rw [HLM.out]; exact hlt))
            obtain ⟨x, hx⟩ : ∃ x, rd L (i : Int) = x := ⟨_, rfl⟩
            rw [hx] at hy1 HOK
            clear hx
            replace hy1 := pw_cell_below HBr.out.2 hy1
            rw [Int.toNat_natCast] at hy1
            have HCr := Lib.hid (HC.out.below HBr.out.1 h4)
            have h4r := Lib.hid (Nat.le_trans h4 HBr.out.1.size)
            have hlt1 : decide ((i : Int) < (m : Int)) = true := decide_eq_true (by omega)
            go_wp2_with (go_at_call 38; (refine (part_any x _ HCr.out h4r.out).mono ?_); rw [HOK.out]; rintro e w7 ⟨rfl, hb⟩; have HB7 := Aside0.mk (HBr.out.1.trans (hb.mono HBr.out.1.size)); have HB57 := Aside0.mk (HBr.out.2.trans (hb.mono HBr.out.2.size)); clear hb)
            go_roundw
            case rel => exact ⟨i + 1, by omega, by simp, ⟨HB7.out, HB57.out⟩⟩
            case measure => simp [intOf]; omega
          · obtain rfl : m = i := by omega
            have HBr1 := Aside0.mk HBr.out.1
            clear HBr hx0 hx1
            have CTX : Hid (Calls Tryd.prog 46 #[.slice (some ⟨wr.heap.size, 0, none⟩) 1 1] (wr.alloc (.cells #[.int .i64 p] 3)) fun e w' => e = .returned (.string (Pl.enc p)) ∧ Below (wr.alloc (.cells #[.int .i64 p] 3)).heap.size (wr.alloc (.cells #[.int .i64 p] 3)) w') :=
              Lib.hid (point_row p wr.heap.size _ (by show (wr.heap.push _)[wr.heap.size]? = _; rw [Array.getElem?_push, if_pos rfl]))
            have HBa := Aside0.mk (HBr1.out.alloc HBr1.out.size (.cells #[.int .i64 p] 3))
            go_wp2_with (go_at_call 46; (with_reducible refine CTX.out.mono ?_); rintro e w7 ⟨rfl, hb⟩; have HB7 := Aside0.mk (HBa.out.trans (hb.mono HBa.out.size)); have HC7 := Lib.hid (HC.out.below HB7.out h4); have HU7 := Lib.hid (utab4_below HU.out HB7.out h6); have h47 := Lib.hid (Nat.le_trans h4 HB7.out.size); clear hb)
            rw [HTT.out]
            clear hen htz hws hn1 CV CT CP CN CK HQL HALL HR0 HLM HC55 hm0 hm1 hlt hi hlb
            rcases CS.out with ⟨d1, HP⟩ | ⟨d1, d2, HP⟩ | ⟨d1, d2, d3, d4, HP⟩ | ⟨d1, d2, d3, d4, HP⟩ | ⟨d1, d2, d3, HP⟩ <;> rcases BN.out with ⟨rfl, rfl⟩ | ⟨rfl, rfl⟩ <;> (
              go_wp2_with (first
                | (go_at_call 34; (with_reducible refine (CNT.out _ HU7.out HC7.out h47.out).mono ?_); rintro e w8 ⟨rfl, hb⟩; have HB8 := Aside0.mk (HB7.out.trans (hb.mono HB7.out.size)); have HC8 := Lib.hid (HC.out.below HB8.out h4); have HU8 := Lib.hid (utab4_below HU.out HB8.out h6); have h48 := Lib.hid (Nat.le_trans h4 HB8.out.size); clear hb)
                | (go_at_call 33; (with_reducible refine (CKT.out _).mono ?_); rintro e w9 ⟨rfl, hb⟩; have HB9 := Aside0.mk (HB8.out.trans (hb.mono HB8.out.size)); have HC9 := Lib.hid (HC.out.below HB9.out h4); have HU9 := Lib.hid (utab4_below HU.out HB9.out h6); have h49 := Lib.hid (Nat.le_trans h4 HB9.out.size); clear hb)
                | (go_at_call 38; (with_reducible refine (CPT.out _ HP.out _ HC9.out h49.out).mono ?_); rintro e w10 ⟨rfl, hb⟩; have HB10 := Aside0.mk (HB9.out.trans (hb.mono HB9.out.size)); have HC10 := Lib.hid (HC.out.below HB10.out h4); have HU10 := Lib.hid (utab4_below HU.out HB10.out h6); have h410 := Lib.hid (Nat.le_trans h4 HB10.out.size); clear hb)
                | (go_at_call 38; (with_reducible refine (CPT.out _ HP.out _ HC8.out h48.out).mono ?_); rintro e w10 ⟨rfl, hb⟩; have HB10 := Aside0.mk (HB8.out.trans (hb.mono HB8.out.size)); have HC10 := Lib.hid (HC.out.below HB10.out h4); have HU10 := Lib.hid (utab4_below HU.out HB10.out h6); have h410 := Lib.hid (Nat.le_trans h4 HB10.out.size); clear hb)
                | (go_at_call 34; (with_reducible refine (CB.out _ HU10.out HC10.out h410.out).mono ?_); rintro e w11 ⟨rfl, hb⟩; have HB11 := Aside0.mk (HB10.out.trans (hb.mono HB10.out.size)); have HC11 := Lib.hid (HC.out.below HB11.out h4); have HU11 := Lib.hid (utab4_below HU.out HB11.out h6); have h411 := Lib.hid (Nat.le_trans h4 HB11.out.size); clear hb)
                | (go_at_call 35; (with_reducible refine (awake04' _ HC11.out HU11.out).mono ?_); rintro e w12 ⟨rfl, hb⟩; have HB12 := Aside0.mk (HB11.out.trans (hb.mono HB11.out.size)); have HC12 := Lib.hid (HC.out.below HB12.out h4); have HU12 := Lib.hid (utab4_below HU.out HB12.out h6); have h412 := Lib.hid (Nat.le_trans h4 HB12.out.size); clear hb))
              go_ret
              exact ⟨rfl, HB12.out⟩))
    · have hnw := either_wordy s
      rw [Bool.eq_false_iff.2 hwd, Bool.or_eq_false_iff] at hnw
      have HN := Lib.hid hnw.1
      have HK := Lib.hid hnw.2
      clear hnw hwd
      go_enter Tryd.func15, Tryd.ntmps15
      go_wp2_with (go_at_call 34; refine (isName_any s w hs HU.out HC.out h4).mono ?_; rw [HN.out]; rintro e w1 ⟨rfl, hb⟩; have HB1 := Aside0.mk hb; clear hb)
      go_wp2_with (go_at_call 33; refine (isKey_any s _).mono ?_; rw [HK.out]; rintro e w2 ⟨rfl, hb⟩; have HB2 := Aside0.mk (HB1.out.trans (hb.mono HB1.out.size)); have HC2 := Lib.hid (HC.out.below HB2.out h4); have HU2 := Lib.hid (utab4_below HU.out HB2.out h6); clear hb)
      go_wp2_with (go_at_call 35; refine (awake04' _ HC2.out HU2.out).mono ?_; rintro e w3 ⟨rfl, hb⟩; have HB3 := Aside0.mk (HB2.out.trans (hb.mono HB2.out.size)); clear hb)
      go_ret
      exact ⟨rfl, HB3.out⟩
  · have hl' : (268435455 : Int) < s.size := by omega
    go_enter Tryd.func15, Tryd.ntmps15
    go_wp2
    go_ret
    exact ⟨rfl, Below.refl _ _⟩
end Go.Proofs.YtocijojjfcpaoaaDoor
