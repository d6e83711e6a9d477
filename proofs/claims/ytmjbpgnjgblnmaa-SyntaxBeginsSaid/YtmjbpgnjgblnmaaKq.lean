/- SyntaxBegins: whatever the tokens and the cut, the law returns true; nothing that was there changes. -/
import Derived.Test.YtmjbpgnjgblnmaaKp
import Derived.Test.YtmjbpgnjgblnmaaRows
import Derived.WalkKit
import Derived.ProofKit
import Derived.OpenShut
import Derived.ShutString
import Derived.ChangeOld
import Derived.Below
import Derived.SizedLaws
import Derived.Deep.DeepHandedRow
set_option linter.unusedVariables false
set_option linter.unusedSimpArgs false
namespace Go.Proofs.Ytmjbpgnjgblnmaa
open Go.RowKit Go.Proofs.YtmjbpgnjgblnmaaW.PrintWords Go.Proofs.YtmjbpgnjgblnmaaW.PrintLast Go.Proofs.YtmjbpgnjgblnmaaW.PrintMore
theorem take_rd (l : List Tk) (i : Nat) (hi : i < l.length) : l.take (i + 1) = l.take i ++ [PSyntaxWhole.rd_T35 l i] := by
  rw [List.take_add_one, List.getElem?_eq_getElem hi]
  simp [PSyntaxWhole.rd_T35, List.getD_eq_getElem?_getD, hi]
/-- Behind the last token that is no comment, of the first n. -/
def lastN (l : List Tk) : Nat → Nat
  | 0 => 0
  | i + 1 => if isNote (PSyntaxWhole.rd_T35 l i) then lastN l i else i + 1
theorem last_le (l : List Tk) : ∀ n, lastN l n ≤ n
  | 0 => Nat.le_refl _
  | n + 1 => by
    have := last_le l n
    rw [lastN]
    split <;> omega
theorem last_iff (l : List Tk) (k : Nat) : ∀ n, n ≤ l.length → (lastN l n ≤ k ↔ ((l.take n).drop k).all isNote = true)
  | 0, _ => by simp [lastN]
  | n + 1, hn => by
    have ih := last_iff l k n (by omega)
    have hl : (l.take n).length = n := by rw [List.length_take]; omega
    rw [take_rd l n (by omega), lastN]
    by_cases hk : k ≤ n
    · rw [List.drop_append_of_le_length (by rw [hl]; exact hk), List.all_append]
      by_cases ht : isNote (PSyntaxWhole.rd_T35 l n) = true
      · rw [if_pos ht]
        simp [ht]
        simpa using ih
      · rw [if_neg ht]
        simp only [List.all_cons, ht, List.all_nil, Bool.false_and, Bool.and_false]
        constructor
        · intro h; omega
        · intro h; cases h
    · have hd : (l.take n ++ [PSyntaxWhole.rd_T35 l n]).drop k = [] := List.drop_of_length_le (by rw [List.length_append, hl, List.length_singleton]; omega)
      rw [hd]
      have := last_le l n
      constructor
      · intro _; rfl
      · intro _; split <;> omega
theorem cut_nums {cut : Int} (h1 : -9223372036854775808 ≤ cut) (h2 : cut < 0) : wrap64 (cut + 1) = cut + 1 ∧ wrap64 (-(cut + 1)) = -(cut + 1) ∧ 0 ≤ -(cut + 1) ∧ -(cut + 1) ≤ 9223372036854775807 := by
  unfold wrap64
  omega
theorem mod_nums (q : Int) (n : Nat) (h : 0 ≤ q) : ∃ k : Nat, q.tmod ((n : Int) + 1) = k ∧ k ≤ n := by
  have h1 := Int.tmod_nonneg ((n : Int) + 1) h
  have h2 := Int.tmod_lt_of_pos q (show (0 : Int) < (n : Int) + 1 by omega)
  exact ⟨(q.tmod ((n : Int) + 1)).toNat, by omega, by omega⟩
theorem len_nums {n k : Nat} (h : n ≤ 4194304) (hk : k ≤ n) : wrap64 ((n : Int) + 1) = (n : Int) + 1 ∧ ¬ ((n : Int) + 1 = 0) ∧ wrap64 (k : Int) = (k : Int) := by
  unfold wrap64
  omega
theorem idx_nums {i n : Nat} (h : i < n) (hn : n ≤ 9223372036854775807) : (i : Int) < (n : Int) ∧ (0 : Int) ≤ (i : Int) ∧ wrap64 ((i : Int) + 1) = (i : Int) + 1 ∧ IntKind.i64.wrap ((i : Int) + 1) = (i : Int) + 1 ∧ ¬ ((n : Int) ≤ (i : Int)) := by
  simp only [IntKind.wrap_i64]
  unfold wrap64
  omega
set_option maxRecDepth 100000 in
set_option maxHeartbeats 4000000 in
theorem begins_any (A : Option Addr) (c : Nat) (l : List Tk) (cut : Int) (w : World) (hC : Kd.C kTk w A l.length l) (hc : l.length ≤ c) (hl : l.length ≤ 4194304) (h1 : -9223372036854775808 ≤ cut) (h2 : cut ≤ 9223372036854775807) :
    Calls Try.prog 6 #[.slice A l.length c, .int .i64 cut] w fun e w' => e = .returned (.bool true) ∧ Below w.heap.size w w' := by
  have HAW := Lib.hid (awake_any w)
  have HPR := Lib.hid (fun (w1 : World) (hb : Below w.heap.size w w1) => prog_any A c l w1 (Kd.C_below hC hb) hl)
  have HC := Lib.hid hC
  have HL := Lib.hid hl
  have HCC := Lib.hid hc
  have g0 : ¬ ((4194304 : Int) < (l.length : Int)) := by omega
  clear hC hl hc
  by_cases hcut : cut < 0
  · obtain ⟨n1, n2, n3, n4⟩ := cut_nums h1 hcut
    go_enter Try.func6, Try.ntmps6
    go_upto_region 7 with (first | (go_at_call 16; (with_reducible refine Calls.mono HAW.out ?_); rintro e w1 ⟨rfl, hb1⟩; have HB1 := Lib.hid hb1; clear hb1) | (go_at_call 17; (with_reducible refine Calls.mono (HPR.out _ HB1.out) ?_); rintro e w2 ⟨v2, rfl, ho2, hb2⟩; obtain ⟨A2, ca2, hv2⟩ := owns_slice ho2; subst hv2; have HB2 := Lib.hid (HB1.out.trans (hb2.mono HB1.out.size)); clear ho2 hb2) | ((with_reducible refine gate_ (.store 51 (.tmp 6) (.tmp 27)) rfl ?_); refine Tr.wl_box rfl rfl _ _ _ rfl (ndAgg (prNd l) (.slice A2 (prNd l).f2.length ca2)) (Tr.ndCells (prNd l).f0 (prNd l).f1 (.slice A2 (prNd l).f2.length ca2)) rfl rfl rfl Tr.infoNd8 (Tr.ndCells_one _ _ rfl) (World.alloc_heap_new w2 _) rfl ?_; intro w3 h3 hu3; have HB3 := Lib.hid (HB2.out.trans ((box_up hu3).mono HB2.out.size)); clear h3 hu3))
    obtain ⟨q, hq⟩ : ∃ q, -(cut + 1) = q := ⟨_, rfl⟩
    rw [hq] at n3 n4 ⊢
    clear hq n1 n2 h1 h2 hcut HAW HPR HB1 HB2
    obtain ⟨k, hk, hkl⟩ := mod_nums q (l.length) n3
    obtain ⟨n5, n6, n7⟩ := len_nums HL.out hkl
    have gk1 : (0 : Int) ≤ (k : Int) := by omega
    have gk2 : (k : Int) ≤ (c : Int) := by have := HCC.out; omega
    have hlk : (l.take k).length = k := by rw [List.length_take]; omega
    have HPK := Lib.hid (fun (w1 : World) (hb : Below w.heap.size w w1) => (show Calls Try.prog 17 #[.slice A k c] w1 (fun e w' => ProgPost w1 (l.take k) e w') from (by have h := prog_any A c (l.take k) w1 (Kd.C_below (Kd.C_take HC.out hkl) hb) (by rw [hlk]; have := HL.out; omega); rw [hlk] at h; exact h)))
    have HBEG := Lib.hid (begins_plain l k hkl)
    clear hlk hkl n3 n4
    go_upto_region 9 with (first | (go_at_call 17; (with_reducible refine Calls.mono (HPK.out _ HB3.out) ?_); rintro e w4 ⟨v4, rfl, ho4, hb4⟩; obtain ⟨A4, ca4, hv4⟩ := owns_slice ho4; subst hv4; have HB4 := Lib.hid (HB3.out.trans (hb4.mono HB3.out.size)); clear ho4 hb4) | ((with_reducible refine gate_ (.store 51 (.tmp 10) (.tmp 45)) rfl ?_); refine Tr.wl_box rfl rfl _ _ _ rfl (ndAgg (prNd (l.take k)) (.slice A4 (prNd (l.take k)).f2.length ca4)) (Tr.ndCells (prNd (l.take k)).f0 (prNd (l.take k)).f1 (.slice A4 (prNd (l.take k)).f2.length ca4)) rfl rfl rfl Tr.infoNd8 (Tr.ndCells_one _ _ rfl) (World.alloc_heap_new w4 _) rfl ?_; intro w5 h5 hu5; have HB5 := Lib.hid (HB4.out.trans ((box_up hu5).mono HB4.out.size)); clear h5 hu5))
    by_cases hE : progE l = 0
    · have dE : (progE l != 0) = false := by rw [hE]; rfl
      have HE := Lib.hid hE
      rw [hE] at dE ⊢
      clear hE
      go_wp2
      go_loopw [13, 14] (fun v13 v14 wr => ∃ i : Nat, i ≤ l.length ∧ v14 = .int .i64 i ∧ v13 = .int .i64 (lastN l i) ∧ Hid (Below w.heap.size w wr)) (fun _ v14 _ => l.length - (intOf v14).toNat)
      case atStart => exact ⟨0, Nat.zero_le _, rfl, rfl, HB5⟩
      case round =>
        obtain ⟨i, hi, rfl, rfl, H⟩ := hrel
        by_cases hlt : i < l.length
        · obtain ⟨ad, rfl, hcells⟩ := tok_cells HC.out i hlt
          have hls : lastN l (i + 1) = if isNote (PSyntaxWhole.rd_T35 l i) then lastN l i else i + 1 := rfl
          obtain ⟨t, ht⟩ : ∃ t, PSyntaxWhole.rd_T35 l i = t := ⟨_, rfl⟩
          rw [ht] at hcells hls
          obtain ⟨c0, c1, c2, c3, c4, c5⟩ := hcells wr H.out
          obtain ⟨q1, q2, q3, q4, q5⟩ := idx_nums hlt (by have := HL.out; omega)
          obtain ⟨k7, hk7⟩ : ∃ k7, (t.f0 == 7) = k7 := ⟨_, rfl⟩
          obtain ⟨k8, hk8⟩ : ∃ k8, (t.f0 == 8) = k8 := ⟨_, rfl⟩
          have m7 : (t.f0 != 7) = !k7 := by rw [bne, hk7]
          have m8 : (t.f0 != 8) = !k8 := by rw [bne, hk8]
          have hnt : isNote t = (k7 || k8) := by unfold isNote; rw [hk7, hk8]
          rw [hnt] at hls
          have HLS := Lib.hid hls
          obtain ⟨li, hli⟩ : ∃ li, lastN l i = li := ⟨_, rfl⟩
          rw [hli]
          have HLI := Lib.hid hli
          clear ht hcells hnt hls hk7 hk8 c1 c2 c3 c4 c5 hli
          cases k7 with
          | true =>
            clear m8
            go_wp2
            go_roundw
            case rel => exact ⟨i + 1, by omega, by go_num, by rw [HLS.out]; simp [HLI.out], H⟩
            case measure => simp [intOf] <;> omega
          | false =>
            cases k8 with
            | true =>
              go_wp2
              go_roundw
              case rel => exact ⟨i + 1, by omega, by go_num, by rw [HLS.out]; simp [HLI.out], H⟩
              case measure => simp [intOf] <;> omega
            | false =>
              go_wp2
              go_roundw
              case rel => exact ⟨i + 1, by omega, by go_num, by rw [HLS.out]; simp; try go_num, H⟩
              case measure => simp [intOf] <;> omega
        · obtain rfl : i = l.length := by omega
          have q1 : ¬ ((l.length : Int) < (l.length : Int)) := by omega
          have hlast := last_iff l k l.length (Nat.le_refl _)
          rw [List.take_length] at hlast
          obtain ⟨L, hL⟩ : ∃ L, lastN l l.length = L := ⟨_, rfl⟩
          rw [hL] at hlast ⊢
          clear hL
          have dE : ((0 : Int) == 0) = true := rfl
          by_cases hkl : L ≤ k
          · obtain ⟨f1, f2⟩ := HBEG.out.2.1 HE.out (hlast.1 hkl)
            have gkl : (L : Int) ≤ (k : Int) := by omega
            clear hlast
            rw [f1, f2]
            go_wp2
            go_ret
            exact ⟨rfl, H.out⟩
          · have hnt : ¬ (progE l = 0 ∧ (l.drop k).all isNote = true) := fun h => hkl (hlast.2 h.2)
            have gkl : ¬ ((L : Int) ≤ (k : Int)) := by omega
            clear hlast
            by_cases hF : progE (l.take k) = 0
            · exfalso
              obtain ⟨f1, f2⟩ := HBEG.out.2.2.1 hF hnt
              rw [HE.out] at f1
              cases f1
            · obtain ⟨f1, f2⟩ := HBEG.out.2.2.2 hF (fun h => h.1 HE.out)
              clear hF hnt
              rw [f1, f2]
              go_wp2
              go_ret
              exact ⟨rfl, H.out⟩

    · have dE : (progE l != 0) = true := bne_iff_ne.2 hE
      have HE := Lib.hid hE
      by_cases hak : progA l < k
      · have gak : (progA l : Int) < (k : Int) := by omega
        obtain ⟨f1, f2⟩ := HBEG.out.1 hE hak
        rw [f1, f2]
        clear hE f1 f2
        go_wp2
        go_ret
        exact ⟨rfl, HB5.out⟩
      · have gak : ¬ ((progA l : Int) < (k : Int)) := by omega
        clear hE
        go_wp2
        go_loopw [13, 14] (fun v13 v14 wr => ∃ i : Nat, i ≤ l.length ∧ v14 = .int .i64 i ∧ v13 = .int .i64 (lastN l i) ∧ Hid (Below w.heap.size w wr)) (fun _ v14 _ => l.length - (intOf v14).toNat)
        case atStart => exact ⟨0, Nat.zero_le _, rfl, rfl, HB5⟩
        case round =>
          obtain ⟨i, hi, rfl, rfl, H⟩ := hrel
          by_cases hlt : i < l.length
          · obtain ⟨ad, rfl, hcells⟩ := tok_cells HC.out i hlt
            have hls : lastN l (i + 1) = if isNote (PSyntaxWhole.rd_T35 l i) then lastN l i else i + 1 := rfl
            obtain ⟨t, ht⟩ : ∃ t, PSyntaxWhole.rd_T35 l i = t := ⟨_, rfl⟩
            rw [ht] at hcells hls
            obtain ⟨c0, c1, c2, c3, c4, c5⟩ := hcells wr H.out
            obtain ⟨q1, q2, q3, q4, q5⟩ := idx_nums hlt (by have := HL.out; omega)
            obtain ⟨k7, hk7⟩ : ∃ k7, (t.f0 == 7) = k7 := ⟨_, rfl⟩
            obtain ⟨k8, hk8⟩ : ∃ k8, (t.f0 == 8) = k8 := ⟨_, rfl⟩
            have m7 : (t.f0 != 7) = !k7 := by rw [bne, hk7]
            have m8 : (t.f0 != 8) = !k8 := by rw [bne, hk8]
            have hnt : isNote t = (k7 || k8) := by unfold isNote; rw [hk7, hk8]
            rw [hnt] at hls
            have HLS := Lib.hid hls
            obtain ⟨li, hli⟩ : ∃ li, lastN l i = li := ⟨_, rfl⟩
            rw [hli]
            have HLI := Lib.hid hli
            clear ht hcells hnt hls hk7 hk8 c1 c2 c3 c4 c5 hli
            cases k7 with
            | true =>
              clear m8
              go_wp2
              go_roundw
              case rel => exact ⟨i + 1, by omega, by go_num, by rw [HLS.out]; simp [HLI.out], H⟩
              case measure => simp [intOf] <;> omega
            | false =>
              cases k8 with
              | true =>
                go_wp2
                go_roundw
                case rel => exact ⟨i + 1, by omega, by go_num, by rw [HLS.out]; simp [HLI.out], H⟩
                case measure => simp [intOf] <;> omega
              | false =>
                go_wp2
                go_roundw
                case rel => exact ⟨i + 1, by omega, by go_num, by rw [HLS.out]; simp; try go_num, H⟩
                case measure => simp [intOf] <;> omega
          · obtain rfl : i = l.length := by omega
            have q1 : ¬ ((l.length : Int) < (l.length : Int)) := by omega
            have hlast := last_iff l k l.length (Nat.le_refl _)
            rw [List.take_length] at hlast
            obtain ⟨L, hL⟩ : ∃ L, lastN l l.length = L := ⟨_, rfl⟩
            rw [hL] at hlast ⊢
            clear hL
            have hnt : ¬ (progE l = 0 ∧ (l.drop k).all isNote = true) := fun h => HE.out h.1
            have dE : (progE l == 0) = false := beq_eq_false_iff_ne.2 HE.out
            clear hlast
            by_cases hF : progE (l.take k) = 0
            · obtain ⟨f1, f2⟩ := HBEG.out.2.2.1 hF hnt
              have gka : (k : Int) ≤ (progA l : Int) := by omega
              clear hnt dE
              rw [f1, hF]
              clear hF
              go_wp2
              go_ret
              exact ⟨rfl, H.out⟩
            · obtain ⟨f1, f2⟩ := HBEG.out.2.2.2 hF (fun h => hak h.2)
              clear hF hnt
              rw [f1, f2]
              go_wp2
              go_ret
              exact ⟨rfl, H.out⟩

  · have n3 : 0 ≤ cut := by omega
    have n4 := h2
    go_enter Try.func6, Try.ntmps6
    go_upto_region 7 with (first | (go_at_call 16; (with_reducible refine Calls.mono HAW.out ?_); rintro e w1 ⟨rfl, hb1⟩; have HB1 := Lib.hid hb1; clear hb1) | (go_at_call 17; (with_reducible refine Calls.mono (HPR.out _ HB1.out) ?_); rintro e w2 ⟨v2, rfl, ho2, hb2⟩; obtain ⟨A2, ca2, hv2⟩ := owns_slice ho2; subst hv2; have HB2 := Lib.hid (HB1.out.trans (hb2.mono HB1.out.size)); clear ho2 hb2) | ((with_reducible refine gate_ (.store 51 (.tmp 6) (.tmp 27)) rfl ?_); refine Tr.wl_box rfl rfl _ _ _ rfl (ndAgg (prNd l) (.slice A2 (prNd l).f2.length ca2)) (Tr.ndCells (prNd l).f0 (prNd l).f1 (.slice A2 (prNd l).f2.length ca2)) rfl rfl rfl Tr.infoNd8 (Tr.ndCells_one _ _ rfl) (World.alloc_heap_new w2 _) rfl ?_; intro w3 h3 hu3; have HB3 := Lib.hid (HB2.out.trans ((box_up hu3).mono HB2.out.size)); clear h3 hu3))
    obtain ⟨q, hq⟩ : ∃ q, cut = q := ⟨_, rfl⟩
    rw [hq] at n3 n4 ⊢
    clear hq h1 h2 hcut HAW HPR HB1 HB2
    obtain ⟨k, hk, hkl⟩ := mod_nums q (l.length) n3
    obtain ⟨n5, n6, n7⟩ := len_nums HL.out hkl
    have gk1 : (0 : Int) ≤ (k : Int) := by omega
    have gk2 : (k : Int) ≤ (c : Int) := by have := HCC.out; omega
    have hlk : (l.take k).length = k := by rw [List.length_take]; omega
    have HPK := Lib.hid (fun (w1 : World) (hb : Below w.heap.size w w1) => (show Calls Try.prog 17 #[.slice A k c] w1 (fun e w' => ProgPost w1 (l.take k) e w') from (by have h := prog_any A c (l.take k) w1 (Kd.C_below (Kd.C_take HC.out hkl) hb) (by rw [hlk]; have := HL.out; omega); rw [hlk] at h; exact h)))
    have HBEG := Lib.hid (begins_plain l k hkl)
    clear hlk hkl n3 n4
    go_upto_region 9 with (first | (go_at_call 17; (with_reducible refine Calls.mono (HPK.out _ HB3.out) ?_); rintro e w4 ⟨v4, rfl, ho4, hb4⟩; obtain ⟨A4, ca4, hv4⟩ := owns_slice ho4; subst hv4; have HB4 := Lib.hid (HB3.out.trans (hb4.mono HB3.out.size)); clear ho4 hb4) | ((with_reducible refine gate_ (.store 51 (.tmp 10) (.tmp 45)) rfl ?_); refine Tr.wl_box rfl rfl _ _ _ rfl (ndAgg (prNd (l.take k)) (.slice A4 (prNd (l.take k)).f2.length ca4)) (Tr.ndCells (prNd (l.take k)).f0 (prNd (l.take k)).f1 (.slice A4 (prNd (l.take k)).f2.length ca4)) rfl rfl rfl Tr.infoNd8 (Tr.ndCells_one _ _ rfl) (World.alloc_heap_new w4 _) rfl ?_; intro w5 h5 hu5; have HB5 := Lib.hid (HB4.out.trans ((box_up hu5).mono HB4.out.size)); clear h5 hu5))
    by_cases hE : progE l = 0
    · have dE : (progE l != 0) = false := by rw [hE]; rfl
      have HE := Lib.hid hE
      rw [hE] at dE ⊢
      clear hE
      go_wp2
      go_loopw [13, 14] (fun v13 v14 wr => ∃ i : Nat, i ≤ l.length ∧ v14 = .int .i64 i ∧ v13 = .int .i64 (lastN l i) ∧ Hid (Below w.heap.size w wr)) (fun _ v14 _ => l.length - (intOf v14).toNat)
      case atStart => exact ⟨0, Nat.zero_le _, rfl, rfl, HB5⟩
      case round =>
        obtain ⟨i, hi, rfl, rfl, H⟩ := hrel
        by_cases hlt : i < l.length
        · obtain ⟨ad, rfl, hcells⟩ := tok_cells HC.out i hlt
          have hls : lastN l (i + 1) = if isNote (PSyntaxWhole.rd_T35 l i) then lastN l i else i + 1 := rfl
          obtain ⟨t, ht⟩ : ∃ t, PSyntaxWhole.rd_T35 l i = t := ⟨_, rfl⟩
          rw [ht] at hcells hls
          obtain ⟨c0, c1, c2, c3, c4, c5⟩ := hcells wr H.out
          obtain ⟨q1, q2, q3, q4, q5⟩ := idx_nums hlt (by have := HL.out; omega)
          obtain ⟨k7, hk7⟩ : ∃ k7, (t.f0 == 7) = k7 := ⟨_, rfl⟩
          obtain ⟨k8, hk8⟩ : ∃ k8, (t.f0 == 8) = k8 := ⟨_, rfl⟩
          have m7 : (t.f0 != 7) = !k7 := by rw [bne, hk7]
          have m8 : (t.f0 != 8) = !k8 := by rw [bne, hk8]
          have hnt : isNote t = (k7 || k8) := by unfold isNote; rw [hk7, hk8]
          rw [hnt] at hls
          have HLS := Lib.hid hls
          obtain ⟨li, hli⟩ : ∃ li, lastN l i = li := ⟨_, rfl⟩
          rw [hli]
          have HLI := Lib.hid hli
          clear ht hcells hnt hls hk7 hk8 c1 c2 c3 c4 c5 hli
          cases k7 with
          | true =>
            clear m8
            go_wp2
            go_roundw
            case rel => exact ⟨i + 1, by omega, by go_num, by rw [HLS.out]; simp [HLI.out], H⟩
            case measure => simp [intOf] <;> omega
          | false =>
            cases k8 with
            | true =>
              go_wp2
              go_roundw
              case rel => exact ⟨i + 1, by omega, by go_num, by rw [HLS.out]; simp [HLI.out], H⟩
              case measure => simp [intOf] <;> omega
            | false =>
              go_wp2
              go_roundw
              case rel => exact ⟨i + 1, by omega, by go_num, by rw [HLS.out]; simp; try go_num, H⟩
              case measure => simp [intOf] <;> omega
        · obtain rfl : i = l.length := by omega
          have q1 : ¬ ((l.length : Int) < (l.length : Int)) := by omega
          have hlast := last_iff l k l.length (Nat.le_refl _)
          rw [List.take_length] at hlast
          obtain ⟨L, hL⟩ : ∃ L, lastN l l.length = L := ⟨_, rfl⟩
          rw [hL] at hlast ⊢
          clear hL
          have dE : ((0 : Int) == 0) = true := rfl
          by_cases hkl : L ≤ k
          · obtain ⟨f1, f2⟩ := HBEG.out.2.1 HE.out (hlast.1 hkl)
            have gkl : (L : Int) ≤ (k : Int) := by omega
            clear hlast
            rw [f1, f2]
            go_wp2
            go_ret
            exact ⟨rfl, H.out⟩
          · have hnt : ¬ (progE l = 0 ∧ (l.drop k).all isNote = true) := fun h => hkl (hlast.2 h.2)
            have gkl : ¬ ((L : Int) ≤ (k : Int)) := by omega
            clear hlast
            by_cases hF : progE (l.take k) = 0
            · exfalso
              obtain ⟨f1, f2⟩ := HBEG.out.2.2.1 hF hnt
              rw [HE.out] at f1
              cases f1
            · obtain ⟨f1, f2⟩ := HBEG.out.2.2.2 hF (fun h => h.1 HE.out)
              clear hF hnt
              rw [f1, f2]
              go_wp2
              go_ret
              exact ⟨rfl, H.out⟩

    · have dE : (progE l != 0) = true := bne_iff_ne.2 hE
      have HE := Lib.hid hE
      by_cases hak : progA l < k
      · have gak : (progA l : Int) < (k : Int) := by omega
        obtain ⟨f1, f2⟩ := HBEG.out.1 hE hak
        rw [f1, f2]
        clear hE f1 f2
        go_wp2
        go_ret
        exact ⟨rfl, HB5.out⟩
      · have gak : ¬ ((progA l : Int) < (k : Int)) := by omega
        clear hE
        go_wp2
        go_loopw [13, 14] (fun v13 v14 wr => ∃ i : Nat, i ≤ l.length ∧ v14 = .int .i64 i ∧ v13 = .int .i64 (lastN l i) ∧ Hid (Below w.heap.size w wr)) (fun _ v14 _ => l.length - (intOf v14).toNat)
        case atStart => exact ⟨0, Nat.zero_le _, rfl, rfl, HB5⟩
        case round =>
          obtain ⟨i, hi, rfl, rfl, H⟩ := hrel
          by_cases hlt : i < l.length
          · obtain ⟨ad, rfl, hcells⟩ := tok_cells HC.out i hlt
            have hls : lastN l (i + 1) = if isNote (PSyntaxWhole.rd_T35 l i) then lastN l i else i + 1 := rfl
            obtain ⟨t, ht⟩ : ∃ t, PSyntaxWhole.rd_T35 l i = t := ⟨_, rfl⟩
            rw [ht] at hcells hls
            obtain ⟨c0, c1, c2, c3, c4, c5⟩ := hcells wr H.out
            obtain ⟨q1, q2, q3, q4, q5⟩ := idx_nums hlt (by have := HL.out; omega)
            obtain ⟨k7, hk7⟩ : ∃ k7, (t.f0 == 7) = k7 := ⟨_, rfl⟩
            obtain ⟨k8, hk8⟩ : ∃ k8, (t.f0 == 8) = k8 := ⟨_, rfl⟩
            have m7 : (t.f0 != 7) = !k7 := by rw [bne, hk7]
            have m8 : (t.f0 != 8) = !k8 := by rw [bne, hk8]
            have hnt : isNote t = (k7 || k8) := by unfold isNote; rw [hk7, hk8]
            rw [hnt] at hls
            have HLS := Lib.hid hls
            obtain ⟨li, hli⟩ : ∃ li, lastN l i = li := ⟨_, rfl⟩
            rw [hli]
            have HLI := Lib.hid hli
            clear ht hcells hnt hls hk7 hk8 c1 c2 c3 c4 c5 hli
            cases k7 with
            | true =>
              clear m8
              go_wp2
              go_roundw
              case rel => exact ⟨i + 1, by omega, by go_num, by rw [HLS.out]; simp [HLI.out], H⟩
              case measure => simp [intOf] <;> omega
            | false =>
              cases k8 with
              | true =>
                go_wp2
                go_roundw
                case rel => exact ⟨i + 1, by omega, by go_num, by rw [HLS.out]; simp [HLI.out], H⟩
                case measure => simp [intOf] <;> omega
              | false =>
                go_wp2
                go_roundw
                case rel => exact ⟨i + 1, by omega, by go_num, by rw [HLS.out]; simp; try go_num, H⟩
                case measure => simp [intOf] <;> omega
          · obtain rfl : i = l.length := by omega
            have q1 : ¬ ((l.length : Int) < (l.length : Int)) := by omega
            have hlast := last_iff l k l.length (Nat.le_refl _)
            rw [List.take_length] at hlast
            obtain ⟨L, hL⟩ : ∃ L, lastN l l.length = L := ⟨_, rfl⟩
            rw [hL] at hlast ⊢
            clear hL
            have hnt : ¬ (progE l = 0 ∧ (l.drop k).all isNote = true) := fun h => HE.out h.1
            have dE : (progE l == 0) = false := beq_eq_false_iff_ne.2 HE.out
            clear hlast
            by_cases hF : progE (l.take k) = 0
            · obtain ⟨f1, f2⟩ := HBEG.out.2.2.1 hF hnt
              have gka : (k : Int) ≤ (progA l : Int) := by omega
              clear hnt dE
              rw [f1, hF]
              clear hF
              go_wp2
              go_ret
              exact ⟨rfl, H.out⟩
            · obtain ⟨f1, f2⟩ := HBEG.out.2.2.2 hF (fun h => hak h.2)
              clear hF hnt
              rw [f1, f2]
              go_wp2
              go_ret
              exact ⟨rfl, H.out⟩
end Go.Proofs.Ytmjbpgnjgblnmaa
set_option linter.unusedVariables false
set_option linter.unusedSimpArgs false
namespace Go.Proofs.Ytmjbpgnjgblnmaa
open Go.RowKit Go.Proofs.YtmjbpgnjgblnmaaW.PrintWords Go.Proofs.YtmjbpgnjgblnmaaW.PrintLast Go.Proofs.YtmjbpgnjgblnmaaW.PrintMore
set_option maxRecDepth 100000 in
theorem begins_big (A : Option Addr) (n c : Nat) (cut : Int) (w : World) (h : 4194304 < n) : Calls Try.prog 6 #[.slice A n c, .int .i64 cut] w fun e w' => e = .returned (.bool true) ∧ Below w.heap.size w w' := by
  have HAW := Lib.hid (awake_any w)
  have g : (4194304 : Int) < (n : Int) := by omega
  clear h
  go_enter Try.func6, Try.ntmps6
  go_wp2_with (go_at_call 16; (with_reducible refine Calls.mono HAW.out ?_); rintro e w1 ⟨rfl, hb1⟩; have HB1 := Lib.hid hb1; clear hb1)
  go_ret
  exact ⟨rfl, HB1.out⟩
theorem syntaxBegins_walk (A : Option Addr) (n c : Nat) (cut : Int) (w : World) (hS : ∃ l : List Tk, l.length = n ∧ n ≤ c ∧ Kd.C kTk w A n l) (h1 : -9223372036854775808 ≤ cut) (h2 : cut ≤ 9223372036854775807) : Calls Try.prog 6 #[.slice A n c, .int .i64 cut] w fun e w' => e = .returned (.bool true) ∧ Below w.heap.size w w' := by
  obtain ⟨l, rfl, hc, hC⟩ := hS
  rcases Nat.lt_or_ge 4194304 l.length with h | h
  · exact begins_big A l.length c cut w h
  · exact begins_any A c l cut w hC hc h h1 h2
end Go.Proofs.Ytmjbpgnjgblnmaa
set_option linter.unusedVariables false
set_option linter.unusedSimpArgs false
namespace Go.Proofs.Ytmjbpgnjgblnmaa.syntaxBegins
open Go.ChangeShapes Go.WideShapes Go.ChangeAt Go.RowKit
open Go.ChangeMaps (open_string shut_string)
theorem own : ownKnob Try.prog.godebug = none := by kernel_rfl
set_option maxRecDepth 100000 in
theorem lifted (os : Os) (started : os.Started) (H : Type) (enc : TypeId × Value → H) :
    ReturnsInHanded {} Try.checked os 6 .any (Rows.syntaxBeginsSpec.pre6 enc Try.prog Try.f6 Rows.syntaxBeginsRow.domain false) (Rows.syntaxBeginsSpec.post enc Try.prog Try.f6 false true false false) := by
  refine returnsInHanded_of_change_sized (C := Try.checked) own started (by kernel_rfl) Try.func6
    (ChangeSpec.witness6 (enc := enc) (C := Try.checked) false ⟨#[], #[.slice none 0 0, .int .i64 0], []⟩ 8 (by kernel_rfl) (by kernel_rfl) (by kernel_rfl) (by kernel_rfl)) ?_
  intro W base args ds gs before hval hW _ hsz _
  have hW' := hW
  obtain ⟨p, q, hA0, hV, rfl, hfz, hnd⟩ := hW
  have hA : DataW.TrodAll enc Try.prog W 0 (fun _ => true) true Try.f6.params.toList args.toList ds p := hA0
  rw [Try.params6] at hA hval
  obtain ⟨v0, vs0, d0, ds0, p0, q0, hargs, rfl, rfl, h0, r0⟩ := trodAll_cons hA
  obtain ⟨v1, vs1, d1, ds1, p1, q1, rfl, rfl, rfl, h1, r1⟩ := trodAll_cons r0
  obtain ⟨rfl, rfl, rfl⟩ := trodAll_nil r1
  obtain rfl : args = #[v0, v1] := by cases args; simp_all
  obtain ⟨rfl, rfl⟩ := trodVars_none hV
  clear hA0
  obtain ⟨a0, len0, cap0, rfl⟩ := okWide_slice Try.underlying22 (hval 0 22 v0 rfl rfl)
  have h0k := h0
  have hlt0 : ∀ x ∈ p0, x.block < W.heap.size := fun x hx => hW'.lt x (by simp [hx])
  have hS0 := toks_arg h0
  obtain ⟨x1, rfl, rfl, rfl, wx1⟩ := open_int Try.underlying3 (hval 1 3 v1 rfl rfl) h1
  have b1 := bounds_i64 wx1
  simp only [List.append_nil] at hW'
  refine (syntaxBegins_walk a0 len0 cap0 x1 W hS0 b1.1 b1.2).mono fun e W' ⟨he, hb⟩ => ?_
  subst he
  exact ⟨_, rfl, _, _, _, [], _, [], hW', trodAll_mk1 (shut_bool Try.underlying4 _), (trodAll_cons_mk (Below.trod laidOut0 (by kernel_rfl) (of_decide_eq_true (by kernel_rfl)) h0k hb hlt0) (trodAll_cons_mk (shut_int Try.underlying3 wx1) trodAll_mk0)), rfl, hb.frame _, fun h => by cases h⟩
theorem over : Rows.syntaxBeginsRow.holds Try.pinned (OpenSpec.ofChange Rows.syntaxBeginsSpec) :=
  OpenClaim.holds_of_wide 6 Try.f6 rfl rfl rfl rfl rfl rfl rfl ⟨rfl, rfl, rfl, rfl, rfl⟩ rfl rfl rfl rfl rfl (by kernel_rfl) Try.func6 (by kernel_rfl)
    (of_decide_eq_true (by kernel_rfl)) (by unfold Func.isWrapper; first | (rw [if_pos (by decide +kernel)]; kernel_rfl) | (rw [if_neg (by decide +kernel)]; exact ⟨rfl, rfl⟩))
    (fun os started H enc _ => lifted os started H enc)
end Go.Proofs.Ytmjbpgnjgblnmaa.syntaxBegins
namespace Go.Proofs.Ytmjbpgnjgblnmaa
/-- SyntaxBegins. -/
theorem syntaxBegins_holds : Rows.SyntaxBeginsSaid := syntaxBegins.over
end Go.Proofs.Ytmjbpgnjgblnmaa
namespace Go.Proofs.Ytmjbpgnjgblnmaa
#print axioms syntaxBegins_holds
end Go.Proofs.Ytmjbpgnjgblnmaa
