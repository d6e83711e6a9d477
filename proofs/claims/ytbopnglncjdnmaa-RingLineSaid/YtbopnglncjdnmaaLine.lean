/- RingLine: round and round. -/
import Derived.Test.YtbopnglncjdnmaaAwake
set_option linter.unusedSimpArgs false
set_option linter.unusedVariables false
namespace Go.Proofs.Ytbopnglncjdnmaa
open Go.RowKit

/-- s, s + 1, .. : k of them. -/
def upFrom : Int → Nat → List Int
  | _, 0 => []
  | s, k + 1 => s :: upFrom (s + 1) k
theorem upFrom_len : ∀ (k : Nat) (s : Int), (upFrom s k).length = k
  | 0, _ => rfl
  | k + 1, s => by rw [upFrom, List.length_cons, upFrom_len k]
theorem upFrom_push : ∀ (k : Nat) (s : Int), upFrom s k ++ [s + k] = upFrom s (k + 1)
  | 0, s => by simp [upFrom]
  | k + 1, s => by
    have ih := upFrom_push k (s + 1)
    rw [upFrom, List.cons_append, show s + ((k + 1 : Nat) : Int) = s + 1 + k from by omega, ih]
    rfl
theorem upFrom_get : ∀ (k : Nat) (s : Int) (i : Nat), i < k → (upFrom s k)[i]? = some (s + i)
  | 0, _, _, h => by omega
  | k + 1, s, 0, _ => by simp [upFrom]
  | k + 1, s, i + 1, h => by
    rw [upFrom, List.getElem?_cons_succ, upFrom_get k (s + 1) i (by omega)]
    congr 1
    omega
theorem line_push {w0 w : World} {b R i : Nat} (h : Mine w0 w b R (upFrom 0 i)) (hi : i < R) :
    Calls Try.prog 11 #[.pointer (some ⟨b, 0, none⟩), .int .i64 i] w fun e w' => e = .returned (.int .i64 0) ∧ Mine w0 w' b R (upFrom 0 (i + 1)) := by
  refine (mine_push (i : Int) h (by rw [upFrom_len]; exact hi)).mono fun e w' ⟨he, hm⟩ => ⟨he, ?_⟩
  have := upFrom_push i 0
  rw [Int.zero_add] at this
  rw [this] at hm
  exact hm

theorem line_push2 {w0 w : World} {b R K j : Nat} (h : Mine w0 w b R (upFrom j K)) (hi : K < R) :
    Calls Try.prog 11 #[.pointer (some ⟨b, 0, none⟩), .int .i64 ((K : Int) + j)] w fun e w' => e = .returned (.int .i64 0) ∧ Mine w0 w' b R (upFrom j (K + 1)) := by
  refine (mine_push ((K : Int) + j) h (by rw [upFrom_len]; exact hi)).mono fun e w' ⟨he, hm⟩ => ⟨he, ?_⟩
  have := upFrom_push K j
  rw [Int.add_comm (K : Int) j, this] at hm
  exact hm
theorem line_len {w0 w : World} {b R K : Nat} {s : Int} (h : Mine w0 w b R (upFrom s K)) :
    Calls Try.prog 12 #[.pointer (some ⟨b, 0, none⟩)] w fun e w' => e = .returned (.int .i64 K) ∧ w' = w := by
  have := mine_len h
  rw [upFrom_len] at this
  exact this
theorem line_len1 {w0 w : World} {b R K : Nat} {s : Int} (h : Mine w0 w b R (upFrom s (K + 1))) :
    Calls Try.prog 12 #[.pointer (some ⟨b, 0, none⟩)] w fun e w' => e = .returned (.int .i64 ((K : Int) + 1)) ∧ w' = w := line_len h
theorem line_front {w0 w : World} {b R K j : Nat} (h : Mine w0 w b R (upFrom j (K + 1))) :
    Calls Try.prog 13 #[.pointer (some ⟨b, 0, none⟩)] w fun e w' => e = .returned (.tuple #[.int .i64 j, .int .i64 0]) ∧ Mine w0 w' b R (upFrom (j + 1 : Nat) K) := mine_front h
theorem line_at {w0 w : World} {b R K N i : Nat} (h : Mine w0 w b R (upFrom N K)) (hi : i < K) :
    Calls Try.prog 14 #[.pointer (some ⟨b, 0, none⟩), .int .i64 i] w fun e w' => e = .returned (.tuple #[.int .i64 ((N : Int) + i), .int .i64 0]) ∧ Mine w0 w' b R (upFrom N K) := mine_at i h (upFrom_get K N i hi)

/-- What the ring is filled up to. -/
def lineAll (N : Int) (K q : Nat) : List Int := upFrom N K ++ List.replicate q (-1)
theorem lineAll_len (N : Int) (K q : Nat) : (lineAll N K q).length = K + q := by rw [lineAll, List.length_append, upFrom_len, List.length_replicate]
theorem lineAll_push (N : Int) (K q : Nat) : lineAll N K q ++ [-1] = lineAll N K (q + 1) := by
  rw [lineAll, lineAll, List.append_assoc, List.replicate_succ']
theorem lineAll_get (N : Int) (K q i : Nat) (h : i < K + q) : (lineAll N K q)[i]? = some (if (i : Int) < K then N + i else -1) := by
  unfold lineAll
  by_cases hi : i < K
  · rw [List.getElem?_append_left (by rw [upFrom_len]; exact hi), upFrom_get K N i hi, if_pos (by omega)]
  · rw [List.getElem?_append_right (by rw [upFrom_len]; omega), upFrom_len, List.getElem?_replicate, if_pos (by omega), if_neg (by omega)]
theorem fill_push {w0 w : World} {b R K q : Nat} {N : Int} (h : Mine w0 w b R (lineAll N K q)) (hi : K + q < R) :
    Calls Try.prog 11 #[.pointer (some ⟨b, 0, none⟩), .int .i64 (-1)] w fun e w' => e = .returned (.int .i64 0) ∧ Mine w0 w' b R (lineAll N K (q + 1)) := by
  refine (mine_push (-1) h (by rw [lineAll_len]; exact hi)).mono fun e w' ⟨he, hm⟩ => ⟨he, ?_⟩
  rw [lineAll_push] at hm
  exact hm
theorem fill_len {w0 w : World} {b R K q m : Nat} {N : Int} (h : Mine w0 w b R (lineAll N K q)) (hm : K + q = m) :
    Calls Try.prog 12 #[.pointer (some ⟨b, 0, none⟩)] w fun e w' => e = .returned (.int .i64 m) ∧ w' = w := by
  have := mine_len h
  rw [lineAll_len, hm] at this
  exact this
theorem fill_no {w0 w : World} {b R K q : Nat} {N : Int} (h : Mine w0 w b R (lineAll N K q)) (hi : K + q = R) :
    Calls Try.prog 11 #[.pointer (some ⟨b, 0, none⟩), .int .i64 (-1)] w fun e w' => e = .returned (.int .i64 50) ∧ Mine w0 w' b R (lineAll N K q) :=
  mine_push_no (-1) h (by rw [lineAll_len]; exact hi)
theorem take_back {w0 w : World} {b R K q k : Nat} {N : Int} (h : Mine w0 w b R ((lineAll N K q).take (k + 1))) (hk : k < K + q) :
    Calls Try.prog 15 #[.pointer (some ⟨b, 0, none⟩)] w fun e w' => e = .returned (.tuple #[.int .i64 (if (k : Int) < K then N + k else -1), .int .i64 0]) ∧ Mine w0 w' b R ((lineAll N K q).take k) := by
  rw [List.take_add_one, lineAll_get N K q k hk] at h
  exact mine_back h

set_option maxHeartbeats 4000000 in
set_option maxRecDepth 100000 in
theorem ringLine_walk (room keep rounds : Int) (w : World) (_h0 : -9223372036854775808 ≤ room) (_h1 : room ≤ 9223372036854775807) (_h2 : -9223372036854775808 ≤ keep) (_h3 : keep ≤ 9223372036854775807) (_h4 : -9223372036854775808 ≤ rounds) (_h5 : rounds ≤ 9223372036854775807) :
    Calls Try.prog 6 #[.int .i64 room, .int .i64 keep, .int .i64 rounds] w fun e w' => e = .returned (.bool true) ∧ Below w.heap.size w w' := by
  by_cases hg : (1 ≤ room ∧ room ≤ 2000) ∧ (0 ≤ keep ∧ keep < room) ∧ (0 ≤ rounds ∧ rounds ≤ 20000)
  · obtain ⟨⟨a1, a2⟩, ⟨a3, a4⟩, a5, a6⟩ := hg
    obtain ⟨R, rfl⟩ : ∃ R : Nat, room = R := ⟨room.toNat, by omega⟩
    obtain ⟨K, rfl⟩ : ∃ K : Nat, keep = K := ⟨keep.toNat, by omega⟩
    obtain ⟨N, rfl⟩ : ∃ N : Nat, rounds = N := ⟨rounds.toNat, by omega⟩
    have d1 : decide ((R : Int) < 1) = false := decide_eq_false (by omega)
    have d2 : decide ((2000 : Int) < R) = false := decide_eq_false (by omega)
    have d3 : decide ((K : Int) < 0) = false := decide_eq_false (by omega)
    have d4 : decide ((R : Int) ≤ K) = false := decide_eq_false (by omega)
    have d5 : decide ((N : Int) < 0) = false := decide_eq_false (by omega)
    have d6 : decide ((20000 : Int) < N) = false := decide_eq_false (by omega)
    have d7 : decide (R ≤ K) = false := decide_eq_false (by omega)
    have d8 : decide (2000 < R) = false := decide_eq_false (by omega)
    have d9 : decide (20000 < N) = false := decide_eq_false (by omega)
    have hR1 : 1 ≤ R := by omega
    have hR2 : R ≤ 2000 := by omega
    have hK : K < R := by omega
    have hN : N ≤ 20000 := by omega
    clear a1 a2 a3 a4 a5 a6 _h0 _h1 _h2 _h3 _h4 _h5
    have HB := Lib.hid (Below.refl w.heap.size w)
    go_enter Try.func6, Try.ntmps6
    go_wp2_with (first
      | (go_at_call 10; refine (mine_new w _ R (by omega) (by omega) HB.out).mono ?_; rintro e w1 ⟨b, rfl, h1⟩; have H1 := Lib.hid h1; clear h1))
    go_loopw [9] (fun v wr => ∃ i : Nat, i ≤ K ∧ v = .int .i64 i ∧ Hid (Mine w wr b R (upFrom 0 i))) (fun v _ => K - (intOf v).toNat)
    case atStart => exact ⟨0, by omega, rfl, H1⟩
    case round =>
      obtain ⟨i, hi, rfl, HM⟩ := hrel
      by_cases hlt : i < K
      · go_wp2_with (first
          | (go_at_call 11; (with_reducible refine (line_push HM.out (by omega)).mono ?_); rintro e w2 ⟨rfl, h2⟩; have H2 := Lib.hid h2; clear h2))
        go_roundw
        case rel => exact ⟨i + 1, by omega, by simp, H2⟩
        case measure => simp [intOf]; omega
      · obtain rfl : K = i := by omega
        go_wp2_with (fail)
        have H0 := HM
        go_loopw [10] (fun v wr => ∃ j : Nat, j ≤ N ∧ v = .int .i64 j ∧ Hid (Mine w wr b R (upFrom j K))) (fun v _ => N - (intOf v).toNat)
        case atStart => exact ⟨0, by omega, rfl, H0⟩
        case round =>
          obtain ⟨j, hj, rfl, HM2⟩ := hrel
          by_cases hlt2 : j < N
          · go_wp2_with (first
              | (go_at_call 11; (with_reducible refine (line_push2 HM2.out (by omega)).mono ?_); rintro e w2 ⟨rfl, h2⟩; have H2 := Lib.hid h2; clear h2)
              | (go_at_call 12; (with_reducible refine (line_len1 H2.out).mono ?_); rintro e w3 ⟨rfl, rfl⟩)
              | (go_at_call 13; (with_reducible refine (line_front H2.out).mono ?_); rintro e w3 ⟨rfl, h3⟩; have H3 := Lib.hid h3; clear h3)
              | (go_at_call 12; (with_reducible refine (line_len H3.out).mono ?_); rintro e w4 ⟨rfl, rfl⟩))
            go_roundw
            case rel => exact ⟨j + 1, by omega, by simp, H3⟩
            case measure => simp [intOf]; omega
          · obtain rfl : N = j := by omega
            go_wp2_with (fail)
            go_loopw [14] (fun v wr => ∃ i : Nat, i ≤ K ∧ v = .int .i64 i ∧ Hid (Mine w wr b R (upFrom N K))) (fun v _ => K - (intOf v).toNat)
            case atStart => exact ⟨0, by omega, rfl, HM2⟩
            case round =>
              obtain ⟨i, hi3, rfl, HM3⟩ := hrel
              by_cases hlt3 : i < K
              · go_wp2_with (first
                  | (go_at_call 14; (with_reducible refine (line_at HM3.out (by omega)).mono ?_); rintro e w2 ⟨rfl, h2⟩; have H2 := Lib.hid h2; clear h2))
                go_roundw
                case rel => exact ⟨i + 1, by omega, by simp, H2⟩
                case measure => simp [intOf]; omega
              · obtain rfl : K = i := by omega
                go_wp2_with (fail)
                have HF0 : Hid (Mine w wr b R (lineAll N K 0)) := Lib.hid (by unfold lineAll; rw [List.replicate_zero, List.append_nil]; exact HM3.out)
                go_loopg [] (R - K) (fun g wr => ∃ q : Nat, K + q ≤ R ∧ R - K - q ≤ g ∧ Hid (Mine w wr b R (lineAll N K q)))
                case atStart => exact ⟨0, by omega, by omega, HF0⟩
                case round =>
                  obtain ⟨q, hq, hg, HM4⟩ := hrel
                  obtain ⟨m, hm⟩ : ∃ m, K + q = m := ⟨_, rfl⟩
                  have HMM := Lib.hid hm
                  by_cases hq2 : m < R
                  · have e1 : decide ((m : Int) < R) = true := decide_eq_true (by omega)
                    have e2 : decide (m < R) = true := decide_eq_true (by omega)
                    clear hm
                    go_wp2_with (first
                      | (go_at_call 12; (with_reducible refine (fill_len HM4.out HMM.out).mono ?_); rintro e w2 ⟨rfl, rfl⟩)
                      | (go_at_call 11; refine (fill_push HM4.out (by have := HMM.out; omega)).mono ?_; rintro e w3 ⟨rfl, h3⟩; have H3 := Lib.hid h3; clear h3))
                    have hm2 : K + q = m := HMM.out
                    go_roundg (R - K - (q + 1))
                    case measure => omega
                    case rel => exact ⟨q + 1, by omega, by omega, H3⟩
                  · have e1 : decide ((m : Int) < R) = false := decide_eq_false (by omega)
                    have e2 : decide (m < R) = false := decide_eq_false (by omega)
                    obtain rfl : R = m := by omega
                    go_wp2_with (first
                      | (go_at_call 12; (with_reducible refine (fill_len HM4.out HMM.out).mono ?_); rintro e w2 ⟨rfl, rfl⟩)
                      | (go_at_call 11; (with_reducible refine (fill_no HM4.out HMM.out).mono ?_); rintro e w3 ⟨rfl, h5⟩; have HM5 := Lib.hid h5; clear h5)
                      | (go_at_call 12; (with_reducible refine (fill_len HM5.out HMM.out).mono ?_); rintro e w2 ⟨rfl, rfl⟩))
                    have HL0 : Hid (Mine w w2 b R ((lineAll N K q).take R)) := Lib.hid (by
                      rw [List.take_of_length_le (by rw [lineAll_len]; omega)]; exact HM5.out)
                    clear e1 e2 hq2 hm
                    go_loopw [18] (fun v wr => ∃ (k : Nat) (z : Int), k ≤ R ∧ v = .int .i64 z ∧ z + 1 = k ∧ Hid (Mine w wr b R ((lineAll N K q).take k))) (fun v _ => (intOf v + 1).toNat)
                    case atStart => exact ⟨R, (R : Int) - 1, by omega, rfl, by omega, HL0⟩
                    case round =>
                      obtain ⟨k, z, hkR, rfl, hzk, HM6⟩ := hrel
                      cases k with
                      | zero =>
                        obtain rfl : z = -1 := by omega
                        have HM7 : Hid (Mine w wr b R []) := Lib.hid (by have := HM6.out; rw [List.take_zero] at this; exact this)
                        go_wp2_with (first
                          | (go_at_call 15; (with_reducible refine (mine_back_no HM7.out).mono ?_); rintro e w3 ⟨rfl, h8⟩; have HM8 := Lib.hid h8; clear h8)
                          | (go_at_call 13; (with_reducible refine (mine_front_no HM8.out).mono ?_); rintro e w3 ⟨rfl, h9⟩; have HM9 := Lib.hid h9; clear h9)
                          | (go_at_call 9; (with_reducible refine (awake05 w _ HM9.out.below).mono ?_); rintro e w3 ⟨rfl, h10⟩; have HM10 := Lib.hid h10; clear h10))
                        go_ret
                        exact ⟨rfl, HM10.out⟩
                      | succ k =>
                        obtain rfl : z = (k : Int) := by omega
                        have HKQ : Hid (k < K + q) := Lib.hid (by have := HMM.out; omega)
                        by_cases hkK : k < K
                        · have e1 : decide ((k : Int) < K) = true := decide_eq_true (by omega)
                          have e2 : decide (k < K) = true := decide_eq_true (by omega)
                          have CB := take_back HM6.out HKQ.out
                          rw [if_pos (by omega)] at CB
                          have CB' := Lib.hid CB
                          clear CB hzk
                          go_wp2_with (first
                            | (go_at_call 15; (with_reducible refine CB'.out.mono ?_); rintro e w3 ⟨rfl, h8⟩; have HM8 := Lib.hid h8; clear h8))
                          go_roundw
                          case rel => exact ⟨k, (k : Int) - 1, by omega, rfl, by omega, HM8⟩
                          case measure => simp [intOf]
                        · have e1 : decide ((k : Int) < K) = false := decide_eq_false (by omega)
                          have e2 : decide (k < K) = false := decide_eq_false (by omega)
                          have CB := take_back HM6.out HKQ.out
                          rw [if_neg (by omega)] at CB
                          have CB' := Lib.hid CB
                          clear CB hzk
                          go_wp2_with (first
                            | (go_at_call 15; (with_reducible refine CB'.out.mono ?_); rintro e w3 ⟨rfl, h8⟩; have HM8 := Lib.hid h8; clear h8))
                          go_roundw
                          case rel => exact ⟨k, (k : Int) - 1, by omega, rfl, by omega, HM8⟩
                          case measure => simp [intOf]
  · have HB := Lib.hid (Below.refl w.heap.size w)
    have cs : room < 1 ∨ (1 ≤ room ∧ 2000 < room) ∨ (1 ≤ room ∧ room ≤ 2000 ∧ keep < 0) ∨ (1 ≤ room ∧ room ≤ 2000 ∧ 0 ≤ keep ∧ room ≤ keep) ∨ (1 ≤ room ∧ room ≤ 2000 ∧ 0 ≤ keep ∧ keep < room ∧ rounds < 0) ∨ (1 ≤ room ∧ room ≤ 2000 ∧ 0 ≤ keep ∧ keep < room ∧ 0 ≤ rounds ∧ 20000 < rounds) := by omega
    clear hg
    rcases cs with g1 | ⟨g1, g2⟩ | ⟨g1, g2, g3⟩ | ⟨g1, g2, g3, g4⟩ | ⟨g1, g2, g3, g4, g5⟩ | ⟨g1, g2, g3, g4, g5, g6⟩ <;> (
      try (have d1 : decide (room < 1) = true := decide_eq_true (by omega))
      try (have d1 : decide (room < 1) = false := decide_eq_false (by omega))
      try (have d2 : decide (2000 < room) = true := decide_eq_true (by omega))
      try (have d2 : decide (2000 < room) = false := decide_eq_false (by omega))
      try (have d3 : decide (keep < 0) = true := decide_eq_true (by omega))
      try (have d3 : decide (keep < 0) = false := decide_eq_false (by omega))
      try (have d4 : decide (room ≤ keep) = true := decide_eq_true (by omega))
      try (have d4 : decide (room ≤ keep) = false := decide_eq_false (by omega))
      try (have d5 : decide (rounds < 0) = true := decide_eq_true (by omega))
      try (have d5 : decide (rounds < 0) = false := decide_eq_false (by omega))
      go_enter Try.func6, Try.ntmps6
      go_wp2_with (first
        | (go_at_call 9; (with_reducible refine (awake05 w _ HB.out).mono ?_); rintro e w3 ⟨rfl, h10⟩; have HM10 := Lib.hid h10; clear h10))
      go_ret
      exact ⟨rfl, HM10.out⟩)
end Go.Proofs.Ytbopnglncjdnmaa
