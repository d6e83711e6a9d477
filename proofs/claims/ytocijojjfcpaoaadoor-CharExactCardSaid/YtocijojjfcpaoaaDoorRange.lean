/- The walk of CharRange. -/
import Derived.Test.YtocijojjfcpaoaaDoorAw01
set_option linter.unusedVariables false
set_option linter.unusedSimpArgs false
namespace Go.Proofs.YtocijojjfcpaoaaDoor
open Go.RowKit Go.Proofs.YtocijojjfcpaoaaDoorW.PrintWords Go.Proofs.YtocijojjfcpaoaaDoorW.PrintMore

theorem rd_plcs (R : List (Nat × Nat × Nat)) (k : Nat) (r : Nat × Nat × Nat) (h : R[k]? = some r) : rd (Pl.plcs R) (k : Int) = (r.1 : Int) ∧ rd (Pl.pts R) (k : Int) = (r.2.1 : Int) := by
  unfold rd Pl.plcs Pl.pts
  rw [Int.toNat_natCast]
  simp [List.getD_eq_getElem?_getD, List.getElem?_map, h]

theorem len_plcs (R : List (Nat × Nat × Nat)) : (Pl.plcs R).length = R.length := by simp [Pl.plcs]
theorem len_pts (R : List (Nat × Nat × Nat)) : (Pl.pts R).length = R.length := by simp [Pl.pts]

theorem add_succ (a : Addr) (k : Nat) : a.add (k + 1) = ⟨a.block, a.off + (k + 1), none⟩ := by
  unfold Addr.add
  rw [if_neg (by omega)]

/-- Where the characters stand: at place i the k-th one begins. -/
structure AtRune (s : ByteArray) (i k : Nat) : Prop where
  le : i ≤ s.size
  drop : (Pl.runes s 0).drop k = Pl.runes s i

theorem AtRune.get {s : ByteArray} {i k : Nat} (h : AtRune s i k) (hi : i < s.size) : (Pl.runes s 0)[k]? = some (i, (Utf8.decode s i).1, (Utf8.decode s i).2) := by
  have := congrArg (fun l => l[0]?) h.drop
  simp only [List.getElem?_drop, Nat.add_zero] at this
  rw [this, Pl.runes_step s i hi]; rfl
theorem AtRune.lt {s : ByteArray} {i k : Nat} (h : AtRune s i k) (hi : i < s.size) : k < (Pl.runes s 0).length := (List.getElem?_eq_some_iff.1 (h.get hi)).1
theorem AtRune.next {s : ByteArray} {i k : Nat} (h : AtRune s i k) (hi : i < s.size) : AtRune s (i + (Utf8.decode s i).2) (k + 1) :=
  ⟨Pl.dec_in s i hi, by
    have := congrArg (List.drop 1) h.drop
    rw [List.drop_drop, Pl.runes_step s i hi] at this
    exact this⟩
theorem AtRune.len {s : ByteArray} {i k : Nat} (h : AtRune s i k) (hk : k ≤ (Pl.runes s 0).length) (hi : ¬ i < s.size) : k = (Pl.runes s 0).length := by
  have := congrArg List.length h.drop
  rw [List.length_drop, Pl.runes_end s i hi] at this
  simp at this
  omega
/-- where the next one begins -/
theorem AtRune.ends {s : ByteArray} {i k : Nat} (h : AtRune s i k) (hi : i < s.size) :
    (k + 1 < (Pl.runes s 0).length ∧ rd (Pl.plcs (Pl.runes s 0)) ((k + 1 : Nat) : Int) = ((i + (Utf8.decode s i).2 : Nat) : Int)) ∨ (k + 1 = (Pl.runes s 0).length ∧ i + (Utf8.decode s i).2 = s.size) := by
  have h2 := h.next hi
  have hk := h.lt hi
  by_cases hn : i + (Utf8.decode s i).2 < s.size
  · exact Or.inl ⟨h2.lt hn, (rd_plcs _ _ _ (h2.get hn)).1⟩
  · have := h2.le
    exact Or.inr ⟨h2.len (by omega) hn, by omega⟩
theorem atRune0 (s : ByteArray) : AtRune s 0 0 := ⟨Nat.zero_le _, rfl⟩

theorem good_iff (s : ByteArray) (i : Nat) (hi : i < s.size) : (Pl.good s i == (((Utf8.decode s i).1 : Int) == 65533 && ((Utf8.decode s i).2 : Int) == 1)) = false := by
  have hb := Pl.bad_iff s i hi
  by_cases hk : Pl.ok s i
  · rw [show Pl.good s i = true from decide_eq_true hk]
    have : ¬ ((Utf8.decode s i).1 = 65533 ∧ (Utf8.decode s i).2 = 1) := fun h => hb.1 h hk
    have e : (((Utf8.decode s i).1 : Int) == 65533 && ((Utf8.decode s i).2 : Int) == 1) = false := by
      rw [Bool.and_eq_false_iff, beq_eq_false_iff_ne, beq_eq_false_iff_ne]
      omega
    rw [e]; rfl
  · rw [show Pl.good s i = false from decide_eq_false hk]
    have := hb.2 hk
    have e : (((Utf8.decode s i).1 : Int) == 65533 && ((Utf8.decode s i).2 : Int) == 1) = true := by
      rw [Bool.and_eq_true, beq_iff_eq, beq_iff_eq]
      omega
    rw [e]; rfl

set_option maxRecDepth 100000 in
set_option maxHeartbeats 1000000 in
theorem charRange_walk (s : ByteArray) (w : World) (hs : s.size ≤ 140737488351232) (hu : Lib.Utf8Tabs 4 5 w) :
    Calls Tryd.prog 12 #[.string s] w fun e w' => e = .returned (.bool true) ∧ Below w.heap.size w w' := by
  have h6 : 6 ≤ w.heap.size := World.block_lt_of_cell? w _ (hu.2 0 (by decide)).1
  have HU := Lib.hid hu
  clear hu
  by_cases hl : s.size ≤ 2147483647
  · have hlen := Pl.runes_length s s.size 0 (by omega)
    obtain ⟨m, hm⟩ : ∃ m, (Pl.runes s 0).length = m := ⟨_, rfl⟩
    have hP : (Pl.plcs (Pl.runes s 0)).length = m := by rw [len_plcs, hm]
    have hQ : (Pl.pts (Pl.runes s 0)).length = m := by rw [len_pts, hm]
    have P1 := places_row s w (by omega)
    have P2 : ∀ w, _ := fun w => points_row s w (by omega)
    have P3 : ∀ w, _ := fun w => count_any s w hs
    rw [hP] at P1
    rw [hQ] at P2
    rw [hm] at P3
    have C1 := Lib.hid P1
    have C2 := Lib.hid P2
    have C3 := Lib.hid P3
    clear P1 P2 P3
    go_enter Tryd.func12, Tryd.ntmps12
    go_wp2_with (go_at_call 44; with_reducible refine C1.out.mono ?_; rintro e w1 ⟨A1, c1, rfl, hc1, hC1, hb⟩; have HB1 := Aside0.mk hb; have HC1 := Aside0.mk hC1; have Hc1 := Aside0.mk hc1; clear hb hC1 hc1)
    go_wp2_with (go_at_call 27; with_reducible refine (C2.out _).mono ?_; rintro e w2 ⟨A2, c2, rfl, hc2, hC2, hb⟩; have HB2 := Aside0.mk (HB1.out.trans (hb.mono HB1.out.size)); have HC12 := Aside0.mk (Kd.C_below HC1.out hb); have HC2 := Aside0.mk hC2; have Hc2 := Aside0.mk hc2; clear hb hC2 hc2)
    go_loopg [5] s.size (fun g v wr => ∃ i k : Nat, v = .int .i64 k ∧ s.size - i ≤ g ∧ k ≤ m ∧ Aside0 (AtRune s i k) ∧ wr.heap[w2.heap.size]? = some (.stringIter s i) ∧ Aside0 (Below w.heap.size w wr ∧ Below w2.heap.size w2 wr))
    case atStart => exact ⟨0, 0, rfl, by omega, by omega, ⟨atRune0 s⟩, World.iter_heap w2 s 0, ⟨HB2.out.alloc HB2.out.size _, (Below.refl _ _).alloc (Nat.le_refl _) _⟩⟩
    case round =>
      obtain ⟨i, k, rfl, hg, hk, HAT, hI, HB⟩ := hrel
      have HI := Aside0.mk hI
      clear hI
      by_cases hp : i < s.size
      · have hnx : ∀ ty, (Instr.next (.pointer (some ⟨w2.heap.size, 0, none⟩)) true ty).run Tryd.prog wr = _ := fun ty => Lib.run_next_any_at wr w2.heap.size s i ty HI.out hp
        have hd1 := Pl.dec_pos s i hp
        have hd2 := Pl.dec_in s i hp
        have hd4 := Pl.dec_le4 s i hp
        have hpt := i64_dec s i hp
        have hit2 := Aside0.mk (Lib.iterAt_heap wr w2.heap.size s i (i + (Utf8.decode s i).2) HI.out)
        have hb2 := Aside0.mk (Lib.below_iterAt HB.out.1 (k := w2.heap.size) HB2.out.size s (i + (Utf8.decode s i).2))
        have hb22 := Aside0.mk (Lib.below_iterAt HB.out.2 (k := w2.heap.size) (Nat.le_refl _) s (i + (Utf8.decode s i).2))
        have HGET := Aside0.mk (HAT.out.get hp)
        have hkm : k < m := by rw [← hm]; exact HAT.out.lt hp
        have hrd := Aside0.mk (rd_plcs _ _ _ HGET.out)
        obtain ⟨a1, e1, hy1⟩ := Kd.at_int HC12.out (k : Int) (by omega) (by rw [hP]; omega)
        cases e1
        obtain ⟨a2, e2, hy2⟩ := Kd.at_int HC2.out (k : Int) (by omega) (by rw [hQ]; omega)
        cases e2
        rw [Int.toNat_natCast, hrd.out.1] at hy1
        rw [Int.toNat_natCast, hrd.out.2] at hy2
        replace hy1 := pw_cell_below hb22.out hy1
        replace hy2 := pw_cell_below hb22.out hy2
        have hge : decide ((k : Int) ≥ (m : Int)) = false := decide_eq_false (by omega)
        have hge2 : decide ((m : Int) ≤ (k : Int)) = false := decide_eq_false (by omega)
        have CN0 := next_any s (i : Int) (wr.iterAt w2.heap.size s (i + (Utf8.decode s i).2)) hs
        have en : Pl.next s (i : Int) = (((Utf8.decode s i).1 : Int), ((Utf8.decode s i).2 : Int), Pl.good s i) := by unfold Pl.next; rw [if_pos (by omega), Int.toNat_natCast]
        rw [en] at CN0
        have hbad := Aside0.mk (Pl.bad_iff s i hp)
        clear en
        by_cases hok : Pl.ok s i
        · rw [show Pl.good s i = true from decide_eq_true hok] at CN0
          by_cases hr : (Utf8.decode s i).1 = 65533
          · have hn1 : ¬ (Utf8.decode s i).2 = 1 := fun h => hbad.out.1 ⟨hr, h⟩ hok
            have hrb : (((Utf8.decode s i).1 : Int) == 65533) = true := by rw [beq_iff_eq]; omega
            have hnb : (((Utf8.decode s i).2 : Int) == 1) = false := by rw [beq_eq_false_iff_ne]; omega
            clear hr hok
            have CN := Aside0.mk CN0
            clear CN0
            rcases HAT.out.ends hp with ⟨hlt, hr1⟩ | ⟨hlt, hr1⟩
            · rw [hm] at hlt
              have hlt1 : decide ((k : Int) + 1 < (m : Int)) = true := decide_eq_true (by omega)
              obtain ⟨a3, e3, hy3⟩ := Kd.at_int HC12.out ((k + 1 : Nat) : Int) (by omega) (by rw [hP]; omega)
              cases e3
              rw [Int.toNat_natCast, hr1] at hy3
              obtain ⟨z, hz⟩ : ∃ z : Int, ((i + (Utf8.decode s i).2 : Nat) : Int) = z := ⟨_, rfl⟩
              rw [hz] at hy3
              have hq9 : (((Utf8.decode s i).2 : Int) != (z - (i : Int))) = false := by rw [bne_eq_false_iff_eq]; omega
              have hz0 : 0 ≤ z := by omega
              have hz1 : z ≤ (s.size : Int) := by omega
              replace hy3 := pw_cell_below hb22.out hy3
              have hlp : (k : Int) + 1 < (m : Int) := by omega
              clear hr1 hlt hz
              go_wp2_with (go_at_call 26; with_reducible refine CN.out.mono ?_; rintro e w3 ⟨rfl, hb⟩; have HB3 := Aside0.mk (And.intro (hb2.out.trans (hb.mono hb2.out.size)) (hb22.out.trans (hb.mono hb22.out.size))); have HI3 := Aside0.mk (iter_below hit2.out hb); have hy4 := pw_cell_below hb hy3; rw [add_succ] at hy4; clear hb)
              repeat (go_quiet (fail); try go_wp2)
              go_roundg (s.size - (i + (Utf8.decode s i).2))
              case measure => omega
              case rel => exact ⟨i + (Utf8.decode s i).2, k + 1, by go_num, by omega, by omega, ⟨HAT.out.next hp⟩, HI3.out, HB3⟩
            · rw [hm] at hlt
              have hlt1 : decide ((k : Int) + 1 < (m : Int)) = false := decide_eq_false (by omega)
              have hq9 : (((Utf8.decode s i).2 : Int) != ((s.size : Int) - (i : Int))) = false := by rw [bne_eq_false_iff_eq]; omega
              clear hlt hr1
              go_wp2_with (go_at_call 26; with_reducible refine CN.out.mono ?_; rintro e w3 ⟨rfl, hb⟩; have HB3 := Aside0.mk (And.intro (hb2.out.trans (hb.mono hb2.out.size)) (hb22.out.trans (hb.mono hb22.out.size))); have HI3 := Aside0.mk (iter_below hit2.out hb);  clear hb)
              repeat (go_quiet (fail); try go_wp2)
              go_roundg (s.size - (i + (Utf8.decode s i).2))
              case measure => omega
              case rel => exact ⟨i + (Utf8.decode s i).2, k + 1, by go_num, by omega, by omega, ⟨HAT.out.next hp⟩, HI3.out, HB3⟩
          · have hrb : (((Utf8.decode s i).1 : Int) == 65533) = false := by rw [beq_eq_false_iff_ne]; omega
            clear hr hok
            have CN := Aside0.mk CN0
            clear CN0
            rcases HAT.out.ends hp with ⟨hlt, hr1⟩ | ⟨hlt, hr1⟩
            · rw [hm] at hlt
              have hlt1 : decide ((k : Int) + 1 < (m : Int)) = true := decide_eq_true (by omega)
              obtain ⟨a3, e3, hy3⟩ := Kd.at_int HC12.out ((k + 1 : Nat) : Int) (by omega) (by rw [hP]; omega)
              cases e3
              rw [Int.toNat_natCast, hr1] at hy3
              obtain ⟨z, hz⟩ : ∃ z : Int, ((i + (Utf8.decode s i).2 : Nat) : Int) = z := ⟨_, rfl⟩
              rw [hz] at hy3
              have hq9 : (((Utf8.decode s i).2 : Int) != (z - (i : Int))) = false := by rw [bne_eq_false_iff_eq]; omega
              have hz0 : 0 ≤ z := by omega
              have hz1 : z ≤ (s.size : Int) := by omega
              replace hy3 := pw_cell_below hb22.out hy3
              have hlp : (k : Int) + 1 < (m : Int) := by omega
              clear hr1 hlt hz
              go_wp2_with (go_at_call 26; with_reducible refine CN.out.mono ?_; rintro e w3 ⟨rfl, hb⟩; have HB3 := Aside0.mk (And.intro (hb2.out.trans (hb.mono hb2.out.size)) (hb22.out.trans (hb.mono hb22.out.size))); have HI3 := Aside0.mk (iter_below hit2.out hb); have hy4 := pw_cell_below hb hy3; rw [add_succ] at hy4; clear hb)
              repeat (go_quiet (fail); try go_wp2)
              go_roundg (s.size - (i + (Utf8.decode s i).2))
              case measure => omega
              case rel => exact ⟨i + (Utf8.decode s i).2, k + 1, by go_num, by omega, by omega, ⟨HAT.out.next hp⟩, HI3.out, HB3⟩
            · rw [hm] at hlt
              have hlt1 : decide ((k : Int) + 1 < (m : Int)) = false := decide_eq_false (by omega)
              have hq9 : (((Utf8.decode s i).2 : Int) != ((s.size : Int) - (i : Int))) = false := by rw [bne_eq_false_iff_eq]; omega
              clear hlt hr1
              go_wp2_with (go_at_call 26; with_reducible refine CN.out.mono ?_; rintro e w3 ⟨rfl, hb⟩; have HB3 := Aside0.mk (And.intro (hb2.out.trans (hb.mono hb2.out.size)) (hb22.out.trans (hb.mono hb22.out.size))); have HI3 := Aside0.mk (iter_below hit2.out hb);  clear hb)
              repeat (go_quiet (fail); try go_wp2)
              go_roundg (s.size - (i + (Utf8.decode s i).2))
              case measure => omega
              case rel => exact ⟨i + (Utf8.decode s i).2, k + 1, by go_num, by omega, by omega, ⟨HAT.out.next hp⟩, HI3.out, HB3⟩
        · rw [show Pl.good s i = false from decide_eq_false hok] at CN0
          have hb3 := hbad.out.2 hok
          have hrb : (((Utf8.decode s i).1 : Int) == 65533) = true := by rw [beq_iff_eq]; omega
          have hnb : (((Utf8.decode s i).2 : Int) == 1) = true := by rw [beq_iff_eq]; omega
          clear hb3 hok
          have CN := Aside0.mk CN0
          clear CN0
          rcases HAT.out.ends hp with ⟨hlt, hr1⟩ | ⟨hlt, hr1⟩
          · rw [hm] at hlt
            have hlt1 : decide ((k : Int) + 1 < (m : Int)) = true := decide_eq_true (by omega)
            obtain ⟨a3, e3, hy3⟩ := Kd.at_int HC12.out ((k + 1 : Nat) : Int) (by omega) (by rw [hP]; omega)
            cases e3
            rw [Int.toNat_natCast, hr1] at hy3
            obtain ⟨z, hz⟩ : ∃ z : Int, ((i + (Utf8.decode s i).2 : Nat) : Int) = z := ⟨_, rfl⟩
            rw [hz] at hy3
            have hq9 : (((Utf8.decode s i).2 : Int) != (z - (i : Int))) = false := by rw [bne_eq_false_iff_eq]; omega
            have hz0 : 0 ≤ z := by omega
            have hz1 : z ≤ (s.size : Int) := by omega
            replace hy3 := pw_cell_below hb22.out hy3
            have hlp : (k : Int) + 1 < (m : Int) := by omega
            clear hr1 hlt hz
            go_wp2_with (go_at_call 26; with_reducible refine CN.out.mono ?_; rintro e w3 ⟨rfl, hb⟩; have HB3 := Aside0.mk (And.intro (hb2.out.trans (hb.mono hb2.out.size)) (hb22.out.trans (hb.mono hb22.out.size))); have HI3 := Aside0.mk (iter_below hit2.out hb); have hy4 := pw_cell_below hb hy3; rw [add_succ] at hy4; clear hb)
            repeat (go_quiet (fail); try go_wp2)
            go_roundg (s.size - (i + (Utf8.decode s i).2))
            case measure => omega
            case rel => exact ⟨i + (Utf8.decode s i).2, k + 1, by go_num, by omega, by omega, ⟨HAT.out.next hp⟩, HI3.out, HB3⟩
          · rw [hm] at hlt
            have hlt1 : decide ((k : Int) + 1 < (m : Int)) = false := decide_eq_false (by omega)
            have hq9 : (((Utf8.decode s i).2 : Int) != ((s.size : Int) - (i : Int))) = false := by rw [bne_eq_false_iff_eq]; omega
            clear hlt hr1
            go_wp2_with (go_at_call 26; with_reducible refine CN.out.mono ?_; rintro e w3 ⟨rfl, hb⟩; have HB3 := Aside0.mk (And.intro (hb2.out.trans (hb.mono hb2.out.size)) (hb22.out.trans (hb.mono hb22.out.size))); have HI3 := Aside0.mk (iter_below hit2.out hb);  clear hb)
            repeat (go_quiet (fail); try go_wp2)
            go_roundg (s.size - (i + (Utf8.decode s i).2))
            case measure => omega
            case rel => exact ⟨i + (Utf8.decode s i).2, k + 1, by go_num, by omega, by omega, ⟨HAT.out.next hp⟩, HI3.out, HB3⟩
      · have hnx : ∀ ty, (Instr.next (.pointer (some ⟨w2.heap.size, 0, none⟩)) true ty).run Tryd.prog wr = _ := fun ty => Lib.run_next_end_at wr w2.heap.size s i ty HI.out hp
        have hkm : k = m := by rw [← hm]; exact HAT.out.len (by omega) hp
        subst hkm
        go_wp2_with (go_at_call 45; with_reducible refine (C3.out _).mono ?_; rintro e w3 ⟨rfl, hb⟩; have HB3 := Aside0.mk (HB.out.1.trans (hb.mono HB.out.1.size)); have HU3 := Lib.hid (utf8_below' HU.out HB3.out h6); clear hb)
        go_wp2_with (go_at_call 29; refine (awake01 _ HU3.out).mono ?_; rintro e w4 ⟨rfl, hb⟩; have HB4 := Aside0.mk (HB3.out.trans (hb.mono HB3.out.size)); clear hb)
        go_ret
        exact ⟨rfl, HB4.out⟩
  · have hl' : (2147483647 : Int) < s.size := by omega
    go_enter Tryd.func12, Tryd.ntmps12
    go_wp2
    go_ret
    exact ⟨rfl, Below.refl _ _⟩
end Go.Proofs.YtocijojjfcpaoaaDoor
