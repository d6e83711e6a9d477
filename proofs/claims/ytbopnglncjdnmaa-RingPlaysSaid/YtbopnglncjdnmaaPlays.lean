/- RingPlays: the walk. -/
import Derived.Test.YtbopnglncjdnmaaPlaysA
set_option linter.unusedSimpArgs false
set_option linter.unusedVariables false
namespace Go.Proofs.Ytbopnglncjdnmaa
open Go.RowKit

set_option maxHeartbeats 4000000 in
set_option maxRecDepth 100000 in
theorem ringPlays_ok (room other n cap : Nat) (A : Option Addr) (W : World) (h1 : 1 ≤ room) (h2 : room ≤ 2097152) (h3 : 1 ≤ other) (h4 : other ≤ 2097152) (hS : ScriptAt W A n) (hn : n ≤ 16777216) :
    Calls Try.prog 8 #[.int .i64 room, .int .i64 other, .slice A n cap] W fun e w' => e = .returned (.bool true) ∧ Below W.heap.size W w' := by
  have HS := Lib.hid hS
  have d1 : decide ((16777216 : Int) < n) = false := decide_eq_false (by omega)
  have d1' : decide (16777216 < n) = false := decide_eq_false (by omega)
  clear hS
  go_enter Try.func8, Try.ntmps8
  go_wp2_with (first
    | (go_at_call 24; (with_reducible refine (new_q room W h1 h2).mono ?_); rintro e w1 ⟨rfl, hn1⟩; have N1 := Lib.hid hn1; clear hn1)
    | (go_at_call 10; (with_reducible refine (new_r room w1 h1 h2).mono ?_); rintro e w2 ⟨rfl, hn2⟩; have N2 := Lib.hid hn2; clear hn2)
    | (go_at_call 25; (with_reducible refine (new_t room w2 h1 h2).mono ?_); rintro e w3 ⟨rfl, hn3⟩; have N3 := Lib.hid hn3; clear hn3)
    | (go_at_call 24; (with_reducible refine (new_q other w3 h3 h4).mono ?_); rintro e w4 ⟨rfl, hn4⟩; have N4 := Lib.hid hn4; clear hn4)
    | (go_at_call 10; (with_reducible refine (new_r other w4 h3 h4).mono ?_); rintro e w5 ⟨rfl, hn5⟩; have N5 := Lib.hid hn5; clear hn5)
    | (go_at_call 25; (with_reducible refine (new_t other w5 h3 h4).mono ?_); rintro e w6 ⟨rfl, hn6⟩; have N6 := Lib.hid hn6; clear hn6))
  have HT0 : Hid (Two W w6 (.pointer (some ⟨w1.heap.size, 0, none⟩)) (.pointer (some ⟨w2.heap.size, 0, none⟩)) (.pointer (some ⟨W.heap.size, 0, none⟩)) (some room) [] (.pointer (some ⟨w4.heap.size, 0, none⟩)) (.pointer (some ⟨w5.heap.size, 0, none⟩)) (.pointer (some ⟨w3.heap.size, 0, none⟩)) (some other) []) :=
    Lib.hid (two_new N1.out N2.out N3.out N4.out N5.out N6.out)
  clear N1 N2 N3 N4 N5 N6 d1 d1'
  generalize (Value.pointer (some ⟨w1.heap.size, 0, none⟩)) = r at HT0 ⊢
  generalize (Value.pointer (some ⟨w2.heap.size, 0, none⟩)) = t at HT0 ⊢
  generalize (Value.pointer (some ⟨W.heap.size, 0, none⟩)) = q at HT0 ⊢
  generalize (Value.pointer (some ⟨w4.heap.size, 0, none⟩)) = s at HT0 ⊢
  generalize (Value.pointer (some ⟨w5.heap.size, 0, none⟩)) = u at HT0 ⊢
  generalize (Value.pointer (some ⟨w3.heap.size, 0, none⟩)) = p at HT0 ⊢
  generalize (some room) = m at HT0
  generalize (some other) = m2 at HT0
  have hnil : Nums [] := fun x hx => by cases hx
  have HNIL := Lib.hid hnil
  clear hnil
  go_loopw [16] (fun v wr => ∃ i : Nat, i ≤ n ∧ v = .int .i64 i ∧ ∃ l l2, Hid (Two W wr r t q m l s u p m2 l2 ∧ Nums l ∧ Nums l2)) (fun v _ => n - (intOf v).toNat)
  case atStart => exact ⟨0, by omega, rfl, [], [], Lib.hid ⟨HT0.out, HNIL.out, HNIL.out⟩⟩
  case round =>
    obtain ⟨i, hi, rfl, l, l2, HT⟩ := hrel
    by_cases hlt : i < n
    · obtain ⟨ad, kind, b, ii, x, rfl, hab, hx0, hx1, hx2, hx3, hnx⟩ := HS.out i hlt
      have hbw := HT.out.1.below
      replace hx0 := (hbw.cell (p := ad.add (i * 4)) (by rw [adb]; exact hab)).trans hx0
      replace hx1 := (hbw.cell (p := ⟨(ad.add (i * 4)).block, (ad.add (i * 4)).off + 1, none⟩) (by show (ad.add (i * 4)).block < _; rw [adb]; exact hab)).trans hx1
      replace hx2 := (hbw.cell (p := ⟨(ad.add (i * 4)).block, (ad.add (i * 4)).off + 2, none⟩) (by show (ad.add (i * 4)).block < _; rw [adb]; exact hab)).trans hx2
      replace hx3 := (hbw.cell (p := ⟨(ad.add (i * 4)).block, (ad.add (i * 4)).off + 3, none⟩) (by show (ad.add (i * 4)).block < _; rw [adb]; exact hab)).trans hx3
      have HNX := Lib.hid hnx
      have hii : (i : Int) < n := by omega
      clear hbw hnx hab
      cases b with
      | false =>
        go_wp2_with (first
          | (go_at_call 26; (refine (two_A kind false ii x (by first | exact HT.out.1 | exact HT.out.1.quiet ((Side.refl _ _).alloc _)) HNX.out HT.out.2.1).mono ?_); rintro e w7 ⟨rfl, h7⟩; have H7 := Lib.hid h7; clear h7))
        go_roundw
        case rel => exact ⟨i + 1, by omega, by simp, _, _, Lib.hid ⟨H7.out, nums_act HT.out.2.1 kind ii x HNX.out, HT.out.2.2⟩⟩
        case measure => simp [intOf]; omega
      | true =>
        go_wp2_with (first
          | (go_at_call 26; (refine (two_B kind true ii x (by first | exact HT.out.1 | exact HT.out.1.quiet ((Side.refl _ _).alloc _)) HNX.out HT.out.2.2).mono ?_); rintro e w7 ⟨rfl, h7⟩; have H7 := Lib.hid h7; clear h7))
        go_roundw
        case rel => exact ⟨i + 1, by omega, by simp, _, _, Lib.hid ⟨H7.out, HT.out.2.1, nums_act HT.out.2.2 kind ii x HNX.out⟩⟩
        case measure => simp [intOf]; omega
    · obtain rfl : n = i := by omega
      obtain ⟨L, hL⟩ : ∃ L, l.length = L := ⟨_, rfl⟩
      have hLs : L ≤ 2097152 := by rw [← hL]; exact two_small HT.out.1
      have HL := Lib.hid hL
      clear hL
      go_wp2_with (fail)
      go_loopw [19] (fun v wr => ∃ z : Int, -1 ≤ z ∧ z ≤ L + 1 ∧ v = .int .i64 z ∧ Hid (Two W wr r t q m l s u p m2 l2)) (fun v _ => ((L : Int) + 1 - intOf v).toNat)
      case atStart => exact ⟨-1, by omega, by omega, rfl, Lib.hid HT.out.1⟩
      case round =>
        obtain ⟨z, hz0, hz1, rfl, HZ⟩ := hrel
        have CLN : Hid (∀ w, Two W w r t q m l s u p m2 l2 → Calls Try.prog 27 #[q] w fun e w' => e = .returned (.int .i64 L) ∧ Two W w' r t q m l s u p m2 l2) := Lib.hid fun w hw => by
          have := two_len hw
          rw [HL.out] at this
          exact this
        have CAT : Hid (∀ w, Two W w r t q m l s u p m2 l2 → Calls Try.prog 26 #[r, t, q, .agg #[.int .i64 4, .bool false, .int .i64 z, .int .i64 0]] w fun e w' => e = .returned (.bool true) ∧ Two W w' r t q m l s u p m2 l2) := Lib.hid fun w hw => by
          have := two_A 4 false z 0 hw num_zero HT.out.2.1
          rw [actL_at] at this
          exact this
        by_cases hle : z ≤ L
        · have e1 : decide (z ≤ (L : Int)) = true := decide_eq_true hle
          go_wp2_with (first
            | (go_at_call 27; (refine (CLN.out _ HZ.out).mono ?_); rintro e w7 ⟨rfl, h7⟩; have H7 := Lib.hid h7; clear h7)
            | (go_at_call 26; (refine (CAT.out _ H7.out).mono ?_); rintro e w8 ⟨rfl, h8⟩; have H8 := Lib.hid h8; clear h8))
          go_roundw
          case rel => exact ⟨z + 1, by omega, by omega, rfl, H8⟩
          case measure => simp [intOf]; omega
        · have e1 : decide (z ≤ (L : Int)) = false := decide_eq_false hle
          have CA6 : Hid (∀ w, Two W w r t q m l s u p m2 l2 → Calls Try.prog 26 #[r, t, q, .agg #[.int .i64 6, .bool false, .int .i64 0, .int .i64 0]] w fun e w' => e = .returned (.bool true) ∧ Two W w' r t q m l s u p m2 l2) := Lib.hid fun w hw => by
            have := two_A 6 false 0 0 hw num_zero HT.out.2.1
            rw [actL_len] at this
            exact this
          have CB6 : Hid (∀ w, Two W w r t q m l s u p m2 l2 → Calls Try.prog 26 #[s, u, p, .agg #[.int .i64 6, .bool false, .int .i64 0, .int .i64 0]] w fun e w' => e = .returned (.bool true) ∧ Two W w' r t q m l s u p m2 l2) := Lib.hid fun w hw => by
            have := two_B 6 false 0 0 hw num_zero HT.out.2.2
            rw [actL_len] at this
            exact this
          go_wp2_with (first
            | (go_at_call 27; (refine (CLN.out _ HZ.out).mono ?_); rintro e w7 ⟨rfl, h7⟩; have H7 := Lib.hid h7; clear h7)
            | (go_at_call 26; (with_reducible refine (CA6.out _ H7.out).mono ?_); rintro e w8 ⟨rfl, h8⟩; have H8 := Lib.hid h8; clear h8)
            | (go_at_call 26; (with_reducible refine (CB6.out _ H8.out).mono ?_); rintro e w9 ⟨rfl, h9⟩; have H9 := Lib.hid h9; clear h9)
            | (go_at_call 9; (with_reducible refine (awake05 W _ H9.out.below).mono ?_); rintro e w10 ⟨rfl, h10⟩; have H10 := Lib.hid h10; clear h10))
          go_ret
          exact ⟨rfl, H10.out⟩
end Go.Proofs.Ytbopnglncjdnmaa
