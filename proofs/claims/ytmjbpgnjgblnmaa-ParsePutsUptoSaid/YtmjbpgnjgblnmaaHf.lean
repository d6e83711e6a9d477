/- What the claim stands on: part Hf. -/
import Derived.Test.YtmjbpgnjgblnmaaHe
import Derived.Test.YtmjbpgnjgblnmaaHc
import Derived.Deep.QuietTactic
import Derived.BigQuiet
import Derived.ArgAppend
import Derived.Deep.RegionHeld3
import Derived.BigRegion
set_option linter.unusedVariables false
set_option linter.unusedSimpArgs false
namespace Go.Proofs.Ytmjbpgnjgblnmaa
open Go.RowKit Go.Proofs.YtmjbpgnjgblnmaaW.PrintWords Go.Proofs.YtmjbpgnjgblnmaaW.PrintLast Go.Proofs.YtmjbpgnjgblnmaaW.PrintMore
theorem val_yes {l : List Tk} {s : RS} (h : (cdR l s ⟨#[64, 110, 117, 109, 98, 101, 114]⟩ || cdR l s ⟨#[64, 116, 101, 120, 116]⟩ || cdR l s ⟨#[64, 99, 104, 97, 114]⟩) = true) : ∃ x, cdR l s x = true ∧ RId.expand .r_factor (cAt l s.i) = some [.opn 32 [.word x]] := by
 simp only [Bool.or_eq_true] at h
 rcases h with (h | h) | h
 ·exact ⟨_, h, by rw [(cd_yes h).2.1]; rfl⟩
 ·exact ⟨_, h, by rw [(cd_yes h).2.1]; rfl⟩
 ·exact ⟨_, h, by rw [(cd_yes h).2.1]; rfl⟩
theorem val_no {l : List Tk} {s : RS} (h : (cdR l s ⟨#[64, 110, 117, 109, 98, 101, 114]⟩ || cdR l s ⟨#[64, 116, 101, 120, 116]⟩ || cdR l s ⟨#[64, 99, 104, 97, 114]⟩) = false) (he : s.e = 0) : ¬ cAt l s.i = ⟨#[64, 110, 117, 109, 98, 101, 114]⟩ ∧ ¬ cAt l s.i = ⟨#[64, 116, 101, 120, 116]⟩ ∧ ¬ cAt l s.i = ⟨#[64, 99, 104, 97, 114]⟩ := by
 simp only [Bool.or_eq_false_iff] at h
 exact ⟨cd_no (by decide) h.1.1 he, cd_no (by decide) h.1.2 he, cd_no (by decide) h.2 he⟩
set_option maxRecDepth 100000 in
set_option maxHeartbeats 8000000 in
theorem g_kindOf (l : List Tk) (all : Bool) (n : Nat) (C_expr : 0 < n → GoodR l all (n - 1) 133 [.rule .r_expr]) (C_kindOf : 0 < n → GoodR l all (n - 1) 135 [.rule .r_kind]) (N_row2 : 0 < n → ∀ m, m ≤ n - 1 → NodeAt l all m 134 [.int .u8 10, .int .u8 11, .string ⟨#[101, 110, 100]⟩] 10 [.word ⟨#[114, 101, 99, 111, 114, 100]⟩, .rule .r_member, .rule .r_members, .word ⟨#[101, 110, 100]⟩]) : GoodAt l all n 135 [.rule .r_kind] := by
 intro W0 A c p w s r H hr
 have HM := Lib.hid H
 clear H
 show Calls Try.prog _ #[.pointer (some ⟨p, 0, none⟩)] w (RPost W0 A c l all p r)
 go_enter Try.func135, Try.ntmps135
 obtain ⟨b1, hb1⟩ : ∃ b, cdR l s ⟨#[97, 114, 114, 97, 121]⟩ = b := ⟨_, rfl⟩
 have HC1 := Lib.hid (fun (w1 : World) (h : RMem W0 A c l all w1 p s) => (show Calls Try.prog 106 #[.pointer (some ⟨p, 0, none⟩), .string ⟨#[97, 114, 114, 97, 121]⟩] w1 (BPost W0 A c l all p s b1 w1) from wd_new hb1 (by decide) (by decide) w1 h))
 obtain ⟨b2, hb2⟩ : ∃ b, cdR l s ⟨#[114, 101, 99, 111, 114, 100]⟩ = b := ⟨_, rfl⟩
 have HC2 := Lib.hid (fun (w1 : World) (h : RMem W0 A c l all w1 p s) => (show Calls Try.prog 106 #[.pointer (some ⟨p, 0, none⟩), .string ⟨#[114, 101, 99, 111, 114, 100]⟩] w1 (BPost W0 A c l all p s b2 w1) from wd_new hb2 (by decide) (by decide) w1 h))
 cases b1 with
 | true =>
  obtain ⟨he1, hc1, hi1⟩ := cd_yes hb1
  obtain ⟨m3, s3, hm3, hfi3, h3, hfin3, hr3⟩ := run_node (k := 9) (T := [.word ⟨#[97, 114, 114, 97, 121]⟩, .word ⟨#[91]⟩, .rule .r_expr, .word ⟨#[46, 46]⟩, .rule .r_expr, .word ⟨#[93]⟩, .word ⟨#[111, 102]⟩, .rule .r_kind]) (S := []) (fun _ => by rw [hc1]; rfl) hr
  have HC3 := Lib.hid (fun (w1 : World) (h : RMem W0 A c l all w1 p s) => (show Calls Try.prog 85 #[.pointer (some ⟨p, 0, none⟩), .int .u8 9] w1 (RPost W0 A c l all p (opR 9 s)) from opens_any h 9 (fun he => (hfi3 he).1.1)))
  have hle3 : m3 ≤ n := by have := (Nat.le_refl n); omega
  have hlt3 : m3 + 1 ≤ n := by have := (hfi3 he1).2; have := (Nat.le_refl n); omega
  obtain ⟨s4, h4, hr4⟩ := rrun_app m3 [.word ⟨#[97, 114, 114, 97, 121]⟩] [.word ⟨#[91]⟩, .rule .r_expr, .word ⟨#[46, 46]⟩, .rule .r_expr, .word ⟨#[93]⟩, .word ⟨#[111, 102]⟩, .rule .r_kind] (opR 9 s) s3 h3
  have HC4 := Lib.hid (fun (w1 : World) (h : RMem W0 A c l all w1 p (opR 9 s)) => (show Calls Try.prog 86 #[.pointer (some ⟨p, 0, none⟩), .string ⟨#[97, 114, 114, 97, 121]⟩] w1 (RPost W0 A c l all p s4) from tw_new h4 (by decide) (by decide) w1 h))
  obtain ⟨s5, h5, hr5⟩ := rrun_app m3 [.word ⟨#[91]⟩] [.rule .r_expr, .word ⟨#[46, 46]⟩, .rule .r_expr, .word ⟨#[93]⟩, .word ⟨#[111, 102]⟩, .rule .r_kind] s4 s3 hr4
  have HC5 := Lib.hid (fun (w1 : World) (h : RMem W0 A c l all w1 p s4) => (show Calls Try.prog 88 #[.pointer (some ⟨p, 0, none⟩), .string ⟨#[91]⟩] w1 (RPost W0 A c l all p s5) from ts_new h5 (by decide) (by decide) w1 h))
  obtain ⟨s6, h6, hr6⟩ := rrun_app m3 [.rule .r_expr] [.word ⟨#[46, 46]⟩, .rule .r_expr, .word ⟨#[93]⟩, .word ⟨#[111, 102]⟩, .rule .r_kind] s5 s3 hr5
  have HC6 := Lib.hid (fun (w1 : World) (h : RMem W0 A c l all w1 p s5) => (show Calls Try.prog 133 #[.pointer (some ⟨p, 0, none⟩)] w1 (RPost W0 A c l all p s6) from C_expr (by have := hlt3; omega) m3 (by omega) W0 A c p w1 s5 s6 h h6))
  obtain ⟨s7, h7, hr7⟩ := rrun_app m3 [.word ⟨#[46, 46]⟩] [.rule .r_expr, .word ⟨#[93]⟩, .word ⟨#[111, 102]⟩, .rule .r_kind] s6 s3 hr6
  have HC7 := Lib.hid (fun (w1 : World) (h : RMem W0 A c l all w1 p s6) => (show Calls Try.prog 88 #[.pointer (some ⟨p, 0, none⟩), .string ⟨#[46, 46]⟩] w1 (RPost W0 A c l all p s7) from ts_new h7 (by decide) (by decide) w1 h))
  obtain ⟨s8, h8, hr8⟩ := rrun_app m3 [.rule .r_expr] [.word ⟨#[93]⟩, .word ⟨#[111, 102]⟩, .rule .r_kind] s7 s3 hr7
  have HC8 := Lib.hid (fun (w1 : World) (h : RMem W0 A c l all w1 p s7) => (show Calls Try.prog 133 #[.pointer (some ⟨p, 0, none⟩)] w1 (RPost W0 A c l all p s8) from C_expr (by have := hlt3; omega) m3 (by omega) W0 A c p w1 s7 s8 h h8))
  obtain ⟨s9, h9, hr9⟩ := rrun_app m3 [.word ⟨#[93]⟩] [.word ⟨#[111, 102]⟩, .rule .r_kind] s8 s3 hr8
  have HC9 := Lib.hid (fun (w1 : World) (h : RMem W0 A c l all w1 p s8) => (show Calls Try.prog 88 #[.pointer (some ⟨p, 0, none⟩), .string ⟨#[93]⟩] w1 (RPost W0 A c l all p s9) from ts_new h9 (by decide) (by decide) w1 h))
  obtain ⟨s10, h10, hr10⟩ := rrun_app m3 [.word ⟨#[111, 102]⟩] [.rule .r_kind] s9 s3 hr9
  have HC10 := Lib.hid (fun (w1 : World) (h : RMem W0 A c l all w1 p s9) => (show Calls Try.prog 86 #[.pointer (some ⟨p, 0, none⟩), .string ⟨#[111, 102]⟩] w1 (RPost W0 A c l all p s10) from tw_new h10 (by decide) (by decide) w1 h))
  obtain ⟨s11, h11, hr11⟩ := rrun_app m3 [.rule .r_kind] [] s10 s3 hr10
  have HC11 := Lib.hid (fun (w1 : World) (h : RMem W0 A c l all w1 p s10) => (show Calls Try.prog 135 #[.pointer (some ⟨p, 0, none⟩)] w1 (RPost W0 A c l all p s11) from C_kindOf (by have := hlt3; omega) m3 (by omega) W0 A c p w1 s10 s11 h h11))
  have hz12 : s3 = s11 := rrun_nil hr11
  have HZ12 := Lib.hid hz12
  clear hz12
  have HC12 := Lib.hid (fun (w1 : World) (h : RMem W0 A c l all w1 p s11) => (show Calls Try.prog 114 #[.pointer (some ⟨p, 0, none⟩)] w1 (RPost W0 A c l all p (clR s3)) from (by rw [HZ12.out]; exact closes_any h (fun he => by have h9 := hfin3 (by rw [HZ12.out]; exact he); rw [HZ12.out] at h9; exact ⟨by have := h9.1; omega, h9.2⟩))))
  have hz13 := rrun_nil hr3
  have HY13 := Lib.hid hz13
  clear hz13
  go_wp2_with (first
   | (go_at_call 106; (with_reducible refine Calls.mono (HC1.out _ HM.out) ?_); rintro e w1 ⟨rfl, h, -⟩; replace HM := Lib.hid h; clear h)
   | (go_at_call 106; (with_reducible refine Calls.mono (HC2.out _ HM.out) ?_); rintro e w1 ⟨rfl, h, -⟩; replace HM := Lib.hid h; clear h)
   | (go_at_call 85; (with_reducible refine Calls.mono (HC3.out _ HM.out) ?_); rintro e w1 ⟨rfl, h⟩; replace HM := Lib.hid h; clear h)
   | (go_at_call 86; (with_reducible refine Calls.mono (HC4.out _ HM.out) ?_); rintro e w1 ⟨rfl, h⟩; replace HM := Lib.hid h; clear h)
   | (go_at_call 88; (with_reducible refine Calls.mono (HC5.out _ HM.out) ?_); rintro e w1 ⟨rfl, h⟩; replace HM := Lib.hid h; clear h)
   | (go_at_call 133; (with_reducible refine Calls.mono (HC6.out _ HM.out) ?_); rintro e w1 ⟨rfl, h⟩; replace HM := Lib.hid h; clear h)
   | (go_at_call 88; (with_reducible refine Calls.mono (HC7.out _ HM.out) ?_); rintro e w1 ⟨rfl, h⟩; replace HM := Lib.hid h; clear h)
   | (go_at_call 133; (with_reducible refine Calls.mono (HC8.out _ HM.out) ?_); rintro e w1 ⟨rfl, h⟩; replace HM := Lib.hid h; clear h)
   | (go_at_call 88; (with_reducible refine Calls.mono (HC9.out _ HM.out) ?_); rintro e w1 ⟨rfl, h⟩; replace HM := Lib.hid h; clear h)
   | (go_at_call 86; (with_reducible refine Calls.mono (HC10.out _ HM.out) ?_); rintro e w1 ⟨rfl, h⟩; replace HM := Lib.hid h; clear h)
   | (go_at_call 135; (with_reducible refine Calls.mono (HC11.out _ HM.out) ?_); rintro e w1 ⟨rfl, h⟩; replace HM := Lib.hid h; clear h)
   | (go_at_call 114; (with_reducible refine Calls.mono (HC12.out _ HM.out) ?_); rintro e w1 ⟨rfl, h⟩; replace HM := Lib.hid h; clear h))
  refine ⟨rfl, .tuple #[], by kernel_rfl, rfl, ?_⟩
  rw [HY13.out]; exact HM.out
 | false =>
  cases b2 with
  | true =>
   obtain ⟨he2, hc2, hi2⟩ := cd_yes hb2
   obtain ⟨m3, s3, hm3, hfi3, h3, hfin3, hr3⟩ := run_node (k := 10) (T := [.word ⟨#[114, 101, 99, 111, 114, 100]⟩, .rule .r_member, .rule .r_members, .word ⟨#[101, 110, 100]⟩]) (S := []) (fun _ => by rw [hc2]; rfl) hr
   have HC3 := Lib.hid (fun (w1 : World) (h : RMem W0 A c l all w1 p s) => (show Calls Try.prog 134 #[.pointer (some ⟨p, 0, none⟩), .int .u8 10, .int .u8 11, .string ⟨#[101, 110, 100]⟩] w1 (RPost W0 A c l all p (clR s3)) from N_row2 (by have := (hfi3 he2).2; have := (Nat.le_refl n); omega) m3 (by have := (hfi3 he2).2; have := (Nat.le_refl n); omega) W0 A c p w1 s s3 h (fun he => (hfi3 he).1) h3 hfin3))
   have hz4 := rrun_nil hr3
   have HY4 := Lib.hid hz4
   clear hz4
   go_wp2_with (first
    | (go_at_call 106; (with_reducible refine Calls.mono (HC1.out _ HM.out) ?_); rintro e w1 ⟨rfl, h, -⟩; replace HM := Lib.hid h; clear h)
    | (go_at_call 106; (with_reducible refine Calls.mono (HC2.out _ HM.out) ?_); rintro e w1 ⟨rfl, h, -⟩; replace HM := Lib.hid h; clear h)
    | (go_at_call 134; (with_reducible refine Calls.mono (HC3.out _ HM.out) ?_); rintro e w1 ⟨rfl, h⟩; replace HM := Lib.hid h; clear h))
   refine ⟨rfl, .tuple #[], by kernel_rfl, rfl, ?_⟩
   rw [HY4.out]; exact HM.out
  | false =>
   obtain ⟨b3, hb3⟩ : ∃ b, cdR l s ⟨#[64, 110, 97, 109, 101]⟩ = b := ⟨_, rfl⟩
   cases b3 with
   | true =>
    obtain ⟨he3, hc3, hi3⟩ := cd_yes hb3
    obtain ⟨m4, s4, hm4, hfi4, h4, hfin4, hr4⟩ := run_node (k := 8) (T := [.word ⟨#[64, 110, 97, 109, 101]⟩]) (S := []) (fun _ => by rw [hc3]; rfl) hr
    have HC4 := Lib.hid (fun (w1 : World) (h : RMem W0 A c l all w1 p s) => (show Calls Try.prog 85 #[.pointer (some ⟨p, 0, none⟩), .int .u8 8] w1 (RPost W0 A c l all p (opR 8 s)) from opens_any h 8 (fun he => (hfi4 he).1.1)))
    have hle4 : m4 ≤ n := by have := (Nat.le_refl n); omega
    have hlt4 : m4 + 1 ≤ n := by have := (hfi4 he3).2; have := (Nat.le_refl n); omega
    obtain ⟨s5, h5, hr5⟩ := rrun_app m4 [.word ⟨#[64, 110, 97, 109, 101]⟩] [] (opR 8 s) s4 h4
    have HC5 := Lib.hid (fun (w1 : World) (h : RMem W0 A c l all w1 p (opR 8 s)) => (show Calls Try.prog 87 #[.pointer (some ⟨p, 0, none⟩)] w1 (RPost W0 A c l all p s5) from tn_new h5 w1 h))
    have hz6 : s4 = s5 := rrun_nil hr5
    have HZ6 := Lib.hid hz6
    clear hz6
    have HC6 := Lib.hid (fun (w1 : World) (h : RMem W0 A c l all w1 p s5) => (show Calls Try.prog 114 #[.pointer (some ⟨p, 0, none⟩)] w1 (RPost W0 A c l all p (clR s4)) from (by rw [HZ6.out]; exact closes_any h (fun he => by have h9 := hfin4 (by rw [HZ6.out]; exact he); rw [HZ6.out] at h9; exact ⟨by have := h9.1; omega, h9.2⟩))))
    have hz7 := rrun_nil hr4
    have HY7 := Lib.hid hz7
    clear hz7
    go_wp2_with (first
     | (go_at_call 106; (with_reducible refine Calls.mono (HC1.out _ HM.out) ?_); rintro e w1 ⟨rfl, h, -⟩; replace HM := Lib.hid h; clear h)
     | (go_at_call 106; (with_reducible refine Calls.mono (HC2.out _ HM.out) ?_); rintro e w1 ⟨rfl, h, -⟩; replace HM := Lib.hid h; clear h)
     | (go_at_call 85; (with_reducible refine Calls.mono (HC4.out _ HM.out) ?_); rintro e w1 ⟨rfl, h⟩; replace HM := Lib.hid h; clear h)
     | (go_at_call 87; (with_reducible refine Calls.mono (HC5.out _ HM.out) ?_); rintro e w1 ⟨rfl, h⟩; replace HM := Lib.hid h; clear h)
     | (go_at_call 114; (with_reducible refine Calls.mono (HC6.out _ HM.out) ?_); rintro e w1 ⟨rfl, h⟩; replace HM := Lib.hid h; clear h))
    go_end0
    exact ⟨rfl, by rw [HY7.out]; exact HM.out⟩
   | false =>
    have hz4 : r = wrR l s := run_none (fun he => by have e1 := cd_no (by decide) hb1 he; have e2 := cd_no (by decide) hb2 he; have e3 := cd_no (by decide) hb3 he; simp [RId.expand, e1, e2, e3]) hr
    have HY4 := Lib.hid hz4
    clear hz4
    have hfo : s.e = 0 → s.ser ≤ 1099511627776 := fun he => (rrun_fit hr he).1
    have HC4 := Lib.hid (fun (w1 : World) (h : RMem W0 A c l all w1 p s) => (show Calls Try.prog 85 #[.pointer (some ⟨p, 0, none⟩), .int .u8 8] w1 (RPost W0 A c l all p (opR 8 s)) from opens_any h 8 hfo))
    have HC5 := Lib.hid (fun (w1 : World) (h : RMem W0 A c l all w1 p (opR 8 s)) => (show Calls Try.prog 87 #[.pointer (some ⟨p, 0, none⟩)] w1 (RPost W0 A c l all p (wrR l (opR 8 s))) from (by have h9 := rtakeName_any h (fun hc => by rw [cdR_op, hb3] at hc; cases hc); rw [cdR_op, hb3] at h9; rw [show tkR l all false (opR 8 s) = wrR l (opR 8 s) from if_neg (by decide)] at h9; exact h9)))
    have HC6 := Lib.hid (fun (w1 : World) (h : RMem W0 A c l all w1 p (wrR l (opR 8 s))) => (show Calls Try.prog 114 #[.pointer (some ⟨p, 0, none⟩)] w1 (RPost W0 A c l all p (clR (wrR l (opR 8 s)))) from closes_any h (fun he => absurd he wrR_e)))
    go_wp2_with (first
     | (go_at_call 106; (with_reducible refine Calls.mono (HC1.out _ HM.out) ?_); rintro e w1 ⟨rfl, h, -⟩; replace HM := Lib.hid h; clear h)
     | (go_at_call 106; (with_reducible refine Calls.mono (HC2.out _ HM.out) ?_); rintro e w1 ⟨rfl, h, -⟩; replace HM := Lib.hid h; clear h)
     | (go_at_call 85; (with_reducible refine Calls.mono (HC4.out _ HM.out) ?_); rintro e w1 ⟨rfl, h⟩; replace HM := Lib.hid h; clear h)
     | (go_at_call 87; (with_reducible refine Calls.mono (HC5.out _ HM.out) ?_); rintro e w1 ⟨rfl, h⟩; replace HM := Lib.hid h; clear h)
     | (go_at_call 114; (with_reducible refine Calls.mono (HC6.out _ HM.out) ?_); rintro e w1 ⟨rfl, h⟩; replace HM := Lib.hid h; clear h))
    go_end0
    exact ⟨rfl, by rw [HY4.out, ← wrR_op (k := 8)]; exact HM.out⟩
set_option maxRecDepth 100000 in
set_option maxHeartbeats 8000000 in
theorem g_factor (l : List Tk) (all : Bool) (n : Nat) (C_factor : 0 < n → GoodR l all (n - 1) 171 [.rule .r_factor]) (C_expr : 0 < n → GoodR l all (n - 1) 133 [.rule .r_expr]) (D_object : GoodR l all n 151 [.rule .r_object]) : GoodAt l all n 171 [.rule .r_factor] := by
 intro W0 A c p w s r H hr
 have HM := Lib.hid H
 clear H
 show Calls Try.prog _ #[.pointer (some ⟨p, 0, none⟩)] w (RPost W0 A c l all p r)
 go_enter Try.func171, Try.ntmps171
 obtain ⟨b1, hb1⟩ : ∃ b, cdR l s ⟨#[45]⟩ = b := ⟨_, rfl⟩
 have HC1 := Lib.hid (fun (w1 : World) (h : RMem W0 A c l all w1 p s) => (show Calls Try.prog 109 #[.pointer (some ⟨p, 0, none⟩), .string ⟨#[45]⟩] w1 (BPost W0 A c l all p s b1 w1) from sg_new hb1 (by decide) (by decide) w1 h))
 obtain ⟨b2, hb2⟩ : ∃ b, cdR l s ⟨#[110, 111, 116]⟩ = b := ⟨_, rfl⟩
 have HC2 := Lib.hid (fun (w1 : World) (h : RMem W0 A c l all w1 p s) => (show Calls Try.prog 106 #[.pointer (some ⟨p, 0, none⟩), .string ⟨#[110, 111, 116]⟩] w1 (BPost W0 A c l all p s b2 w1) from wd_new hb2 (by decide) (by decide) w1 h))
 obtain ⟨b3, hb3⟩ : ∃ b, cdR l s ⟨#[40]⟩ = b := ⟨_, rfl⟩
 have HC3 := Lib.hid (fun (w1 : World) (h : RMem W0 A c l all w1 p s) => (show Calls Try.prog 109 #[.pointer (some ⟨p, 0, none⟩), .string ⟨#[40]⟩] w1 (BPost W0 A c l all p s b3 w1) from sg_new hb3 (by decide) (by decide) w1 h))
 obtain ⟨b4, hb4⟩ : ∃ b, (cdR l s ⟨#[64, 110, 117, 109, 98, 101, 114]⟩ || cdR l s ⟨#[64, 116, 101, 120, 116]⟩ || cdR l s ⟨#[64, 99, 104, 97, 114]⟩) = b := ⟨_, rfl⟩
 have HC4 := Lib.hid (fun (w1 : World) (h : RMem W0 A c l all w1 p s) => (show Calls Try.prog 163 #[.pointer (some ⟨p, 0, none⟩)] w1 (BPost W0 A c l all p s b4 w1) from (hb4 ▸ rvalue_any h)))
 obtain ⟨b5, hb5⟩ : ∃ b, cdR l s ⟨#[64, 110, 97, 109, 101]⟩ = b := ⟨_, rfl⟩
 have HC5 := Lib.hid (fun (w1 : World) (h : RMem W0 A c l all w1 p s) => (show Calls Try.prog 108 #[.pointer (some ⟨p, 0, none⟩), .int .u8 1] w1 (BPost W0 A c l all p s b5 w1) from (by have h9 := rkind_any h 1; rw [show (((1 : Nat)) : Int) = 1 from rfl, kdR_code (.inl ⟨rfl, rfl⟩), hb5] at h9; exact h9)))
 cases b1 with
 | true =>
  obtain ⟨he1, hc1, hi1⟩ := cd_yes hb1
  obtain ⟨m6, s6, hm6, hfi6, h6, hfin6, hr6⟩ := run_node (k := 25) (T := [.word ⟨#[45]⟩, .rule .r_factor]) (S := []) (fun _ => by rw [hc1]; rfl) hr
  have HC6 := Lib.hid (fun (w1 : World) (h : RMem W0 A c l all w1 p s) => (show Calls Try.prog 85 #[.pointer (some ⟨p, 0, none⟩), .int .u8 25] w1 (RPost W0 A c l all p (opR 25 s)) from opens_any h 25 (fun he => (hfi6 he).1.1)))
  have hle6 : m6 ≤ n := by have := (Nat.le_refl n); omega
  have hlt6 : m6 + 1 ≤ n := by have := (hfi6 he1).2; have := (Nat.le_refl n); omega
  obtain ⟨s7, h7, hr7⟩ := rrun_app m6 [.word ⟨#[45]⟩] [.rule .r_factor] (opR 25 s) s6 h6
  have HC7 := Lib.hid (fun (w1 : World) (h : RMem W0 A c l all w1 p (opR 25 s)) => (show Calls Try.prog 107 #[.pointer (some ⟨p, 0, none⟩), .bool true] w1 (RPost W0 A c l all p s7) from tt_new h7 (cdR_op.trans hb1) w1 h))
  obtain ⟨s8, h8, hr8⟩ := rrun_app m6 [.rule .r_factor] [] s7 s6 hr7
  have HC8 := Lib.hid (fun (w1 : World) (h : RMem W0 A c l all w1 p s7) => (show Calls Try.prog 171 #[.pointer (some ⟨p, 0, none⟩)] w1 (RPost W0 A c l all p s8) from C_factor (by have := hlt6; omega) m6 (by omega) W0 A c p w1 s7 s8 h h8))
  have hz9 : s6 = s8 := rrun_nil hr8
  have HZ9 := Lib.hid hz9
  clear hz9
  have HC9 := Lib.hid (fun (w1 : World) (h : RMem W0 A c l all w1 p s8) => (show Calls Try.prog 114 #[.pointer (some ⟨p, 0, none⟩)] w1 (RPost W0 A c l all p (clR s6)) from (by rw [HZ9.out]; exact closes_any h (fun he => by have h9 := hfin6 (by rw [HZ9.out]; exact he); rw [HZ9.out] at h9; exact ⟨by have := h9.1; omega, h9.2⟩))))
  have hz10 := rrun_nil hr6
  have HY10 := Lib.hid hz10
  clear hz10
  go_wp2_with (first
   | (go_at_call 109; (with_reducible refine Calls.mono (HC1.out _ HM.out) ?_); rintro e w1 ⟨rfl, h, -⟩; replace HM := Lib.hid h; clear h)
   | (go_at_call 106; (with_reducible refine Calls.mono (HC2.out _ HM.out) ?_); rintro e w1 ⟨rfl, h, -⟩; replace HM := Lib.hid h; clear h)
   | (go_at_call 109; (with_reducible refine Calls.mono (HC3.out _ HM.out) ?_); rintro e w1 ⟨rfl, h, -⟩; replace HM := Lib.hid h; clear h)
   | (go_at_call 163; (with_reducible refine Calls.mono (HC4.out _ HM.out) ?_); rintro e w1 ⟨rfl, h, -⟩; replace HM := Lib.hid h; clear h)
   | (go_at_call 108; (with_reducible refine Calls.mono (HC5.out _ HM.out) ?_); rintro e w1 ⟨rfl, h, -⟩; replace HM := Lib.hid h; clear h)
   | (go_at_call 85; (with_reducible refine Calls.mono (HC6.out _ HM.out) ?_); rintro e w1 ⟨rfl, h⟩; replace HM := Lib.hid h; clear h)
   | (go_at_call 107; (with_reducible refine Calls.mono (HC7.out _ HM.out) ?_); rintro e w1 ⟨rfl, h⟩; replace HM := Lib.hid h; clear h)
   | (go_at_call 171; (with_reducible refine Calls.mono (HC8.out _ HM.out) ?_); rintro e w1 ⟨rfl, h⟩; replace HM := Lib.hid h; clear h)
   | (go_at_call 114; (with_reducible refine Calls.mono (HC9.out _ HM.out) ?_); rintro e w1 ⟨rfl, h⟩; replace HM := Lib.hid h; clear h))
  go_end0
  exact ⟨rfl, by rw [HY10.out]; exact HM.out⟩
 | false =>
  cases b2 with
  | true =>
   obtain ⟨he2, hc2, hi2⟩ := cd_yes hb2
   obtain ⟨m6, s6, hm6, hfi6, h6, hfin6, hr6⟩ := run_node (k := 26) (T := [.word ⟨#[110, 111, 116]⟩, .rule .r_factor]) (S := []) (fun _ => by rw [hc2]; rfl) hr
   have HC6 := Lib.hid (fun (w1 : World) (h : RMem W0 A c l all w1 p s) => (show Calls Try.prog 85 #[.pointer (some ⟨p, 0, none⟩), .int .u8 26] w1 (RPost W0 A c l all p (opR 26 s)) from opens_any h 26 (fun he => (hfi6 he).1.1)))
   have hle6 : m6 ≤ n := by have := (Nat.le_refl n); omega
   have hlt6 : m6 + 1 ≤ n := by have := (hfi6 he2).2; have := (Nat.le_refl n); omega
   obtain ⟨s7, h7, hr7⟩ := rrun_app m6 [.word ⟨#[110, 111, 116]⟩] [.rule .r_factor] (opR 26 s) s6 h6
   have HC7 := Lib.hid (fun (w1 : World) (h : RMem W0 A c l all w1 p (opR 26 s)) => (show Calls Try.prog 107 #[.pointer (some ⟨p, 0, none⟩), .bool true] w1 (RPost W0 A c l all p s7) from tt_new h7 (cdR_op.trans hb2) w1 h))
   obtain ⟨s8, h8, hr8⟩ := rrun_app m6 [.rule .r_factor] [] s7 s6 hr7
   have HC8 := Lib.hid (fun (w1 : World) (h : RMem W0 A c l all w1 p s7) => (show Calls Try.prog 171 #[.pointer (some ⟨p, 0, none⟩)] w1 (RPost W0 A c l all p s8) from C_factor (by have := hlt6; omega) m6 (by omega) W0 A c p w1 s7 s8 h h8))
   have hz9 : s6 = s8 := rrun_nil hr8
   have HZ9 := Lib.hid hz9
   clear hz9
   have HC9 := Lib.hid (fun (w1 : World) (h : RMem W0 A c l all w1 p s8) => (show Calls Try.prog 114 #[.pointer (some ⟨p, 0, none⟩)] w1 (RPost W0 A c l all p (clR s6)) from (by rw [HZ9.out]; exact closes_any h (fun he => by have h9 := hfin6 (by rw [HZ9.out]; exact he); rw [HZ9.out] at h9; exact ⟨by have := h9.1; omega, h9.2⟩))))
   have hz10 := rrun_nil hr6
   have HY10 := Lib.hid hz10
   clear hz10
   go_wp2_with (first
    | (go_at_call 109; (with_reducible refine Calls.mono (HC1.out _ HM.out) ?_); rintro e w1 ⟨rfl, h, -⟩; replace HM := Lib.hid h; clear h)
    | (go_at_call 106; (with_reducible refine Calls.mono (HC2.out _ HM.out) ?_); rintro e w1 ⟨rfl, h, -⟩; replace HM := Lib.hid h; clear h)
    | (go_at_call 109; (with_reducible refine Calls.mono (HC3.out _ HM.out) ?_); rintro e w1 ⟨rfl, h, -⟩; replace HM := Lib.hid h; clear h)
    | (go_at_call 163; (with_reducible refine Calls.mono (HC4.out _ HM.out) ?_); rintro e w1 ⟨rfl, h, -⟩; replace HM := Lib.hid h; clear h)
    | (go_at_call 108; (with_reducible refine Calls.mono (HC5.out _ HM.out) ?_); rintro e w1 ⟨rfl, h, -⟩; replace HM := Lib.hid h; clear h)
    | (go_at_call 85; (with_reducible refine Calls.mono (HC6.out _ HM.out) ?_); rintro e w1 ⟨rfl, h⟩; replace HM := Lib.hid h; clear h)
    | (go_at_call 107; (with_reducible refine Calls.mono (HC7.out _ HM.out) ?_); rintro e w1 ⟨rfl, h⟩; replace HM := Lib.hid h; clear h)
    | (go_at_call 171; (with_reducible refine Calls.mono (HC8.out _ HM.out) ?_); rintro e w1 ⟨rfl, h⟩; replace HM := Lib.hid h; clear h)
    | (go_at_call 114; (with_reducible refine Calls.mono (HC9.out _ HM.out) ?_); rintro e w1 ⟨rfl, h⟩; replace HM := Lib.hid h; clear h))
   go_end0
   exact ⟨rfl, by rw [HY10.out]; exact HM.out⟩
  | false =>
   cases b3 with
   | true =>
    obtain ⟨he3, hc3, hi3⟩ := cd_yes hb3
    obtain ⟨m6, s6, hm6, hfi6, h6, hfin6, hr6⟩ := run_node (k := 27) (T := [.word ⟨#[40]⟩, .rule .r_expr, .word ⟨#[41]⟩]) (S := []) (fun _ => by rw [hc3]; rfl) hr
    have HC6 := Lib.hid (fun (w1 : World) (h : RMem W0 A c l all w1 p s) => (show Calls Try.prog 85 #[.pointer (some ⟨p, 0, none⟩), .int .u8 27] w1 (RPost W0 A c l all p (opR 27 s)) from opens_any h 27 (fun he => (hfi6 he).1.1)))
    have hle6 : m6 ≤ n := by have := (Nat.le_refl n); omega
    have hlt6 : m6 + 1 ≤ n := by have := (hfi6 he3).2; have := (Nat.le_refl n); omega
    obtain ⟨s7, h7, hr7⟩ := rrun_app m6 [.word ⟨#[40]⟩] [.rule .r_expr, .word ⟨#[41]⟩] (opR 27 s) s6 h6
    have HC7 := Lib.hid (fun (w1 : World) (h : RMem W0 A c l all w1 p (opR 27 s)) => (show Calls Try.prog 107 #[.pointer (some ⟨p, 0, none⟩), .bool true] w1 (RPost W0 A c l all p s7) from tt_new h7 (cdR_op.trans hb3) w1 h))
    obtain ⟨s8, h8, hr8⟩ := rrun_app m6 [.rule .r_expr] [.word ⟨#[41]⟩] s7 s6 hr7
    have HC8 := Lib.hid (fun (w1 : World) (h : RMem W0 A c l all w1 p s7) => (show Calls Try.prog 133 #[.pointer (some ⟨p, 0, none⟩)] w1 (RPost W0 A c l all p s8) from C_expr (by have := hlt6; omega) m6 (by omega) W0 A c p w1 s7 s8 h h8))
    obtain ⟨s9, h9, hr9⟩ := rrun_app m6 [.word ⟨#[41]⟩] [] s8 s6 hr8
    have HC9 := Lib.hid (fun (w1 : World) (h : RMem W0 A c l all w1 p s8) => (show Calls Try.prog 88 #[.pointer (some ⟨p, 0, none⟩), .string ⟨#[41]⟩] w1 (RPost W0 A c l all p s9) from ts_new h9 (by decide) (by decide) w1 h))
    have hz10 : s6 = s9 := rrun_nil hr9
    have HZ10 := Lib.hid hz10
    clear hz10
    have HC10 := Lib.hid (fun (w1 : World) (h : RMem W0 A c l all w1 p s9) => (show Calls Try.prog 114 #[.pointer (some ⟨p, 0, none⟩)] w1 (RPost W0 A c l all p (clR s6)) from (by rw [HZ10.out]; exact closes_any h (fun he => by have h9 := hfin6 (by rw [HZ10.out]; exact he); rw [HZ10.out] at h9; exact ⟨by have := h9.1; omega, h9.2⟩))))
    have hz11 := rrun_nil hr6
    have HY11 := Lib.hid hz11
    clear hz11
    go_wp2_with (first
     | (go_at_call 109; (with_reducible refine Calls.mono (HC1.out _ HM.out) ?_); rintro e w1 ⟨rfl, h, -⟩; replace HM := Lib.hid h; clear h)
     | (go_at_call 106; (with_reducible refine Calls.mono (HC2.out _ HM.out) ?_); rintro e w1 ⟨rfl, h, -⟩; replace HM := Lib.hid h; clear h)
     | (go_at_call 109; (with_reducible refine Calls.mono (HC3.out _ HM.out) ?_); rintro e w1 ⟨rfl, h, -⟩; replace HM := Lib.hid h; clear h)
     | (go_at_call 163; (with_reducible refine Calls.mono (HC4.out _ HM.out) ?_); rintro e w1 ⟨rfl, h, -⟩; replace HM := Lib.hid h; clear h)
     | (go_at_call 108; (with_reducible refine Calls.mono (HC5.out _ HM.out) ?_); rintro e w1 ⟨rfl, h, -⟩; replace HM := Lib.hid h; clear h)
     | (go_at_call 85; (with_reducible refine Calls.mono (HC6.out _ HM.out) ?_); rintro e w1 ⟨rfl, h⟩; replace HM := Lib.hid h; clear h)
     | (go_at_call 107; (with_reducible refine Calls.mono (HC7.out _ HM.out) ?_); rintro e w1 ⟨rfl, h⟩; replace HM := Lib.hid h; clear h)
     | (go_at_call 133; (with_reducible refine Calls.mono (HC8.out _ HM.out) ?_); rintro e w1 ⟨rfl, h⟩; replace HM := Lib.hid h; clear h)
     | (go_at_call 88; (with_reducible refine Calls.mono (HC9.out _ HM.out) ?_); rintro e w1 ⟨rfl, h⟩; replace HM := Lib.hid h; clear h)
     | (go_at_call 114; (with_reducible refine Calls.mono (HC10.out _ HM.out) ?_); rintro e w1 ⟨rfl, h⟩; replace HM := Lib.hid h; clear h))
    go_end0
    exact ⟨rfl, by rw [HY11.out]; exact HM.out⟩
   | false =>
    cases b4 with
    | true =>
     obtain ⟨x, hb9, hx9⟩ := val_yes hb4
     have he9 := (cd_yes hb9).1
     obtain ⟨m6, s6, hm6, hfi6, h6, hfin6, hr6⟩ := run_node (k := 32) (T := [.word x]) (S := []) (fun _ => hx9) hr
     have HC6 := Lib.hid (fun (w1 : World) (h : RMem W0 A c l all w1 p s) => (show Calls Try.prog 85 #[.pointer (some ⟨p, 0, none⟩), .int .u8 32] w1 (RPost W0 A c l all p (opR 32 s)) from opens_any h 32 (fun he => (hfi6 he).1.1)))
     have HC7 := Lib.hid (fun (w1 : World) (h : RMem W0 A c l all w1 p (opR 32 s)) => (show Calls Try.prog 107 #[.pointer (some ⟨p, 0, none⟩), .bool true] w1 (RPost W0 A c l all p s6) from tt_new h6 (cdR_op.trans hb9) w1 h))
     have HC8 := Lib.hid (fun (w1 : World) (h : RMem W0 A c l all w1 p s6) => (show Calls Try.prog 114 #[.pointer (some ⟨p, 0, none⟩)] w1 (RPost W0 A c l all p (clR s6)) from closes_any h (fun he => by have h9 := hfin6 he; exact ⟨by have := h9.1; omega, h9.2⟩)))
     have hz11 := rrun_nil hr6
     have HY11 := Lib.hid hz11
     clear hz11
     go_wp2_with (first
      | (go_at_call 109; (with_reducible refine Calls.mono (HC1.out _ HM.out) ?_); rintro e w1 ⟨rfl, h, -⟩; replace HM := Lib.hid h; clear h)
      | (go_at_call 106; (with_reducible refine Calls.mono (HC2.out _ HM.out) ?_); rintro e w1 ⟨rfl, h, -⟩; replace HM := Lib.hid h; clear h)
      | (go_at_call 109; (with_reducible refine Calls.mono (HC3.out _ HM.out) ?_); rintro e w1 ⟨rfl, h, -⟩; replace HM := Lib.hid h; clear h)
      | (go_at_call 163; (with_reducible refine Calls.mono (HC4.out _ HM.out) ?_); rintro e w1 ⟨rfl, h, -⟩; replace HM := Lib.hid h; clear h)
      | (go_at_call 108; (with_reducible refine Calls.mono (HC5.out _ HM.out) ?_); rintro e w1 ⟨rfl, h, -⟩; replace HM := Lib.hid h; clear h)
      | (go_at_call 85; (with_reducible refine Calls.mono (HC6.out _ HM.out) ?_); rintro e w1 ⟨rfl, h⟩; replace HM := Lib.hid h; clear h)
      | (go_at_call 107; (with_reducible refine Calls.mono (HC7.out _ HM.out) ?_); rintro e w1 ⟨rfl, h⟩; replace HM := Lib.hid h; clear h)
      | (go_at_call 114; (with_reducible refine Calls.mono (HC8.out _ HM.out) ?_); rintro e w1 ⟨rfl, h⟩; replace HM := Lib.hid h; clear h))
     go_end0
     exact ⟨rfl, by rw [HY11.out]; exact HM.out⟩
    | false =>
     cases b5 with
     | true =>
      have he5 := (cd_yes hb5).1
      have hro : rrun l all n [.rule .r_object] s = some r := run_same (fun _ => by rw [(cd_yes hb5).2.1]; rfl) hr
      have HC90 := Lib.hid (fun (w1 : World) (h : RMem W0 A c l all w1 p s) => (show Calls Try.prog 151 #[.pointer (some ⟨p, 0, none⟩)] w1 (RPost W0 A c l all p r) from D_object n (Nat.le_refl n) W0 A c p w1 s r h hro))
      go_wp2_with (first
       | (go_at_call 109; (with_reducible refine Calls.mono (HC1.out _ HM.out) ?_); rintro e w1 ⟨rfl, h, -⟩; replace HM := Lib.hid h; clear h)
       | (go_at_call 106; (with_reducible refine Calls.mono (HC2.out _ HM.out) ?_); rintro e w1 ⟨rfl, h, -⟩; replace HM := Lib.hid h; clear h)
       | (go_at_call 109; (with_reducible refine Calls.mono (HC3.out _ HM.out) ?_); rintro e w1 ⟨rfl, h, -⟩; replace HM := Lib.hid h; clear h)
       | (go_at_call 163; (with_reducible refine Calls.mono (HC4.out _ HM.out) ?_); rintro e w1 ⟨rfl, h, -⟩; replace HM := Lib.hid h; clear h)
       | (go_at_call 108; (with_reducible refine Calls.mono (HC5.out _ HM.out) ?_); rintro e w1 ⟨rfl, h, -⟩; replace HM := Lib.hid h; clear h)
       | (go_at_call 151; (with_reducible refine Calls.mono (HC90.out _ HM.out) ?_); rintro e w1 ⟨rfl, h⟩; replace HM := Lib.hid h; clear h))
      go_end0
      exact ⟨rfl, HM.out⟩
     | false =>
      have hz9 : r = wrR l s := run_noname (k := 28) (T := [.rule .r_selected]) (fun he => by have e1 := cd_no (by decide) hb1 he; have e2 := cd_no (by decide) hb2 he; have e3 := cd_no (by decide) hb3 he; have e5 := cd_no (by decide) hb5 he; obtain ⟨f1, f2, f3⟩ := val_no hb4 he; simp [RId.expand, e1, e2, e3, e5, f1, f2, f3]) hb5 hr
      have HY9 := Lib.hid hz9
      clear hz9
      have HC91 := Lib.hid (fun (w1 : World) (h : RMem W0 A c l all w1 p s) => (show Calls Try.prog 131 #[.pointer (some ⟨p, 0, none⟩)] w1 (RPost W0 A c l all p (wrR l s)) from rwrong_any h))
      go_wp2_with (first
       | (go_at_call 109; (with_reducible refine Calls.mono (HC1.out _ HM.out) ?_); rintro e w1 ⟨rfl, h, -⟩; replace HM := Lib.hid h; clear h)
       | (go_at_call 106; (with_reducible refine Calls.mono (HC2.out _ HM.out) ?_); rintro e w1 ⟨rfl, h, -⟩; replace HM := Lib.hid h; clear h)
       | (go_at_call 109; (with_reducible refine Calls.mono (HC3.out _ HM.out) ?_); rintro e w1 ⟨rfl, h, -⟩; replace HM := Lib.hid h; clear h)
       | (go_at_call 163; (with_reducible refine Calls.mono (HC4.out _ HM.out) ?_); rintro e w1 ⟨rfl, h, -⟩; replace HM := Lib.hid h; clear h)
       | (go_at_call 108; (with_reducible refine Calls.mono (HC5.out _ HM.out) ?_); rintro e w1 ⟨rfl, h, -⟩; replace HM := Lib.hid h; clear h)
       | (go_at_call 131; (with_reducible refine Calls.mono (HC91.out _ HM.out) ?_); rintro e w1 ⟨rfl, h⟩; replace HM := Lib.hid h; clear h))
      go_end0
      exact ⟨rfl, by rw [HY9.out]; exact HM.out⟩
end Go.Proofs.Ytmjbpgnjgblnmaa
namespace Go.Proofs.Ytmjbpgnjgblnmaa
open Go.RowKit Go.Proofs.YtmjbpgnjgblnmaaW.PrintWords Go.Proofs.YtmjbpgnjgblnmaaW.PrintLast Go.Proofs.YtmjbpgnjgblnmaaW.PrintMore
abbrev cmpL : List ByteArray := [⟨#[61]⟩, ⟨#[35]⟩, ⟨#[60]⟩, ⟨#[60, 61]⟩, ⟨#[62]⟩, ⟨#[62, 61]⟩]
def SrAt (w : World) (g : Nat) (ws : List ByteArray) : Prop := w.heap[g]? = some (.cells (ws.map Value.string).toArray 9 (0, 0))
theorem SrAt.cell {w : World} {g : Nat} {ws : List ByteArray} (h : SrAt w g ws) {j : Nat} {s : ByteArray} (hj : ws[j]? = some s) : w.cell? ⟨g, j, none⟩ = some (.string s) := by
 rw [cell_of_row _ _ _ _ _ _ h]
 simp [hj]
theorem cmp_good {x : ByteArray} (hx : x ∈ cmpL) : goodW x = true ∧ lowW x = false := by
 simp only [cmpL, List.mem_cons, List.not_mem_nil, or_false] at hx
 rcases hx with rfl | rfl | rfl | rfl | rfl | rfl <;> decide
theorem cmp_yes {l : List Tk} {s : RS} {x : ByteArray} (hx : x ∈ cmpL) (h : cdR l s x = true) : RId.expand .r_compared (cAt l s.i) = some [.push [.word x, .rule .r_sum]] := by
 rw [(cd_yes h).2.1]
 simp only [cmpL, List.mem_cons, List.not_mem_nil, or_false] at hx
 rcases hx with rfl | rfl | rfl | rfl | rfl | rfl <;> rfl
theorem cmp_no {l : List Tk} {s : RS} (h : ∀ x ∈ cmpL, cdR l s x = false) (he : s.e = 0) : RId.expand .r_compared (cAt l s.i) = some [] := by
 have e0 := cd_no (by decide) (h ⟨#[61]⟩ (by simp [cmpL])) he
 have e1 := cd_no (by decide) (h ⟨#[35]⟩ (by simp [cmpL])) he
 have e2 := cd_no (by decide) (h ⟨#[60]⟩ (by simp [cmpL])) he
 have e3 := cd_no (by decide) (h ⟨#[60, 61]⟩ (by simp [cmpL])) he
 have e4 := cd_no (by decide) (h ⟨#[62]⟩ (by simp [cmpL])) he
 have e5 := cd_no (by decide) (h ⟨#[62, 61]⟩ (by simp [cmpL])) he
 simp [RId.expand, e0, e1, e2, e3, e4, e5]
set_option maxRecDepth 100000 in
set_option maxHeartbeats 8000000 in
theorem g_relation (l : List Tk) (all : Bool) (n : Nat) (D_sum : GoodR l all n 161 [.rule .r_sum]) : NodeAt l all n 150 [] 22 [.rule .r_sum, .rule .r_compared] := by
 intro W0 A c p w s s1 H hf hr hfin
 have HM := Lib.hid H
 clear H
 show Calls Try.prog _ #[.pointer (some ⟨p, 0, none⟩)] w (RPost W0 A c l all p (clR s1))
 go_enter Try.func150, Try.ntmps150
 have HC1 := Lib.hid (fun (w1 : World) (h : RMem W0 A c l all w1 p s) => (show Calls Try.prog 85 #[.pointer (some ⟨p, 0, none⟩), .int .u8 22] w1 (RPost W0 A c l all p (opR 22 s)) from opens_any h 22 (fun he => (hf he).1)))
 have hr0 := hr
 obtain ⟨s2, h2, hr2⟩ := rrun_app n [.rule .r_sum] [.rule .r_compared] (opR 22 s) s1 hr0
 have HC2 := Lib.hid (fun (w1 : World) (h : RMem W0 A c l all w1 p (opR 22 s)) => (show Calls Try.prog 161 #[.pointer (some ⟨p, 0, none⟩)] w1 (RPost W0 A c l all p s2) from D_sum n (Nat.le_refl n) W0 A c p w1 (opR 22 s) s2 h h2))
 have HR0 := Lib.hid hr2
 go_upto_region 2 with (first
  | (go_at_call 85; (with_reducible refine Calls.mono (HC1.out _ HM.out) ?_); rintro e w1 ⟨rfl, h⟩; replace HM := Lib.hid h; clear h)
  | (go_at_call 161; (with_reducible refine Calls.mono (HC2.out _ HM.out) ?_); rintro e w1 ⟨rfl, h⟩; replace HM := Lib.hid h; clear h))
 have hb1 : Below w1.heap.size w1 (w1.alloc (.cells #[.string ⟨#[61]⟩, .string ⟨#[35]⟩, .string ⟨#[60]⟩, .string ⟨#[60, 61]⟩, .string ⟨#[62]⟩, .string ⟨#[62, 61]⟩] 9)) := (Below.refl _ w1).alloc (Nat.le_refl _) _
 have hs1 : SrAt (w1.alloc (.cells #[.string ⟨#[61]⟩, .string ⟨#[35]⟩, .string ⟨#[60]⟩, .string ⟨#[60, 61]⟩, .string ⟨#[62]⟩, .string ⟨#[62, 61]⟩] 9)) w1.heap.size cmpL := World.alloc_heap_new _ _
 have hM1 := HM.out.moved hb1
 go_wp2
 generalize w1.alloc (.cells #[.string ⟨#[61]⟩, .string ⟨#[35]⟩, .string ⟨#[60]⟩, .string ⟨#[60, 61]⟩, .string ⟨#[62]⟩, .string ⟨#[62, 61]⟩] 9) = w2 at hb1 hs1 hM1 ⊢
 obtain ⟨g, hg⟩ : ∃ g, w1.heap.size = g := ⟨_, rfl⟩
 rw [hg] at hs1 ⊢
 have HI0 : Hid (RMem W0 A c l all w2 p s2 ∧ SrAt w2 g cmpL ∧ ∀ (k : Nat) x, k < 0 → cmpL[k]? = some x → cdR l s2 x = false) := Lib.hid ⟨hM1, hs1, fun k x h => absurd h (Nat.not_lt_zero k)⟩
 clear HM hb1 hs1 hM1 hg
 go_loopw [3] (fun v3 wr => ∃ j : Nat, j ≤ 6 ∧ v3 = .int .i64 j ∧ Hid (RMem W0 A c l all wr p s2 ∧ SrAt wr g cmpL ∧ ∀ (k : Nat) x, k < j → cmpL[k]? = some x → cdR l s2 x = false)) (fun v3 _ => 6 - (intOf v3).toNat)
 case atStart => exact ⟨0, Nat.zero_le _, rfl, Lib.hid HI0.out⟩
 case round =>
  obtain ⟨j, hjl, rfl, H⟩ := hrel
  clear HI0
  by_cases hlt : j < 6
  ·obtain ⟨x, hx⟩ : ∃ x, cmpL[j]? = some x := ⟨_, List.getElem?_eq_getElem (show j < cmpL.length from hlt)⟩
   have hmem : x ∈ cmpL := List.mem_of_getElem? hx
   have hcell := H.out.2.1.cell hx
   have k1 : (j : Int) < 6 := by omega
   have k2 : (0 : Int) ≤ j := by omega
   have k3 : wrap64 ((j : Int) + 1) = (j : Int) + 1 := by unfold wrap64; omega
   have k4 : IntKind.i64.wrap ((j : Int) + 1) = (j : Int) + 1 := by rw [IntKind.wrap_i64]; omega
   have HM := Lib.hid H.out.1
   have HX := Lib.hid (And.intro hx hmem)
   obtain ⟨b, hb⟩ : ∃ b, cdR l s2 x = b := ⟨_, rfl⟩
   have HB := Lib.hid hb
   have HC9 := Lib.hid (fun (w1 : World) (h : RMem W0 A c l all w1 p s2) => (show Calls Try.prog 109 #[.pointer (some ⟨p, 0, none⟩), .string x] w1 (BPost W0 A c l all p s2 b w1) from sg_new hb (cmp_good hmem).1 (cmp_good hmem).2 w1 h))
   cases b with
   | true =>
    obtain ⟨m9, hkm9, hfi9, hp9⟩ := run_rule (cd_yes hb).1 (cmp_yes hmem hb) hr2
    have hq9 : rrun l all m9 [.word x, .rule .r_sum] s2 = some s1 := hp9
    have hle9 : m9 ≤ n := by omega
    obtain ⟨s31, h31, hr31⟩ := rrun_app m9 [.word x] [.rule .r_sum] s2 s1 hq9
    have HC31 := Lib.hid (fun (w1 : World) (h : RMem W0 A c l all w1 p s2) => (show Calls Try.prog 107 #[.pointer (some ⟨p, 0, none⟩), .bool true] w1 (RPost W0 A c l all p s31) from tt_new h31 hb w1 h))
    obtain ⟨s32, h32, hr32⟩ := rrun_app m9 [.rule .r_sum] [] s31 s1 hr31
    have HC32 := Lib.hid (fun (w1 : World) (h : RMem W0 A c l all w1 p s31) => (show Calls Try.prog 161 #[.pointer (some ⟨p, 0, none⟩)] w1 (RPost W0 A c l all p s32) from D_sum m9 hle9 W0 A c p w1 s31 s32 h h32))
    clear hx hmem hb
    have hz33 : s1 = s32 := rrun_nil hr32
    have HZ33 := Lib.hid hz33
    clear hz33
    have HC33 := Lib.hid (fun (w1 : World) (h : RMem W0 A c l all w1 p s32) => (show Calls Try.prog 114 #[.pointer (some ⟨p, 0, none⟩)] w1 (RPost W0 A c l all p (clR s1)) from (by rw [HZ33.out]; exact closes_any h (fun he => by have h9 := hfin (by rw [HZ33.out]; exact he); rw [HZ33.out] at h9; exact ⟨by have := h9.1; omega, h9.2⟩))))
    go_wp2_with (first
     | (go_at_call 109; (with_reducible refine Calls.mono (HC9.out _ HM.out) ?_); rintro e w1 ⟨rfl, h, -⟩; replace HM := Lib.hid h; clear h)
     | (go_at_call 107; (with_reducible refine Calls.mono (HC31.out _ HM.out) ?_); rintro e w1 ⟨rfl, h⟩; replace HM := Lib.hid h; clear h)
     | (go_at_call 161; (with_reducible refine Calls.mono (HC32.out _ HM.out) ?_); rintro e w1 ⟨rfl, h⟩; replace HM := Lib.hid h; clear h)
     | (go_at_call 114; (with_reducible refine Calls.mono (HC33.out _ HM.out) ?_); rintro e w1 ⟨rfl, h⟩; replace HM := Lib.hid h; clear h))
    go_end0
    exact ⟨rfl, HM.out⟩
   | false =>
    clear hx hmem hb
    go_wp2_with (first
     | (go_at_call 109; (with_reducible refine Calls.mono (HC9.out _ HM.out) ?_); rintro e w1 ⟨rfl, h, hB⟩; replace HM := Lib.hid h; have HS := Lib.hid (show SrAt w1 g cmpL from (hB.block g (blk_lt H.out.2.1)).trans H.out.2.1); clear h hB))
    go_roundw
    case rel => exact ⟨j + 1, by omega, by go_num, Lib.hid ⟨HM.out, HS.out, fun k z hk hz => by
      by_cases hkj : k < j
      ·exact H.out.2.2 k z hkj hz
      ·obtain rfl : k = j := by omega
       rw [HX.out.1] at hz
       cases hz
       exact HB.out⟩⟩
    case measure => simp [intOf] <;> omega
  ·have h6 : j = 6 := by omega
   subst h6
   have k1 : ¬ ((6 : Nat) : Int) < 6 := by omega
   have hall : ∀ x ∈ cmpL, cdR l s2 x = false := fun x hx => by
    obtain ⟨k, hk⟩ := List.mem_iff_getElem?.1 hx
    exact H.out.2.2 k x (List.getElem?_eq_some_iff.1 hk).1 hk
   have hs9 := run_stay (fun he => cmp_no hall he) hr2
   have HM := Lib.hid H.out.1
   have hz51 : s1 = s2 := rrun_nil hs9
   have HZ51 := Lib.hid hz51
   clear hz51
   have HC51 := Lib.hid (fun (w1 : World) (h : RMem W0 A c l all w1 p s2) => (show Calls Try.prog 114 #[.pointer (some ⟨p, 0, none⟩)] w1 (RPost W0 A c l all p (clR s1)) from (by rw [HZ51.out]; exact closes_any h (fun he => by have h9 := hfin (by rw [HZ51.out]; exact he); rw [HZ51.out] at h9; exact ⟨by have := h9.1; omega, h9.2⟩))))
   go_wp2_with (first
    | (go_at_call 114; (with_reducible refine Calls.mono (HC51.out _ HM.out) ?_); rintro e w1 ⟨rfl, h⟩; replace HM := Lib.hid h; clear h))
   go_end0
   exact ⟨rfl, HM.out⟩
end Go.Proofs.Ytmjbpgnjgblnmaa
namespace Go.Proofs.Ytmjbpgnjgblnmaa
open Go.RowKit Go.Proofs.YtmjbpgnjgblnmaaW.PrintWords Go.Proofs.YtmjbpgnjgblnmaaW.PrintLast Go.Proofs.YtmjbpgnjgblnmaaW.PrintMore
set_option maxRecDepth 100000 in
set_option maxHeartbeats 8000000 in
theorem g_statement (l : List Tk) (all : Bool) (n : Nat) (C_object : 0 < n → GoodR l all (n - 1) 151 [.rule .r_object]) (C_expr : 0 < n → GoodR l all (n - 1) 133 [.rule .r_expr]) (C_body : 0 < n → GoodR l all (n - 1) 113 [.rule .r_body]) (N_branch : 0 < n → ∀ m, m ≤ n - 1 → NodeAt l all m 152 [] 15 [.word ⟨#[105, 102]⟩, .rule .r_expr, .word ⟨#[116, 104, 101, 110]⟩, .rule .r_body, .rule .r_elses, .word ⟨#[101, 110, 100]⟩]) : GoodAt l all n 136 [.rule .r_statement] := by
 intro W0 A c p w s r H hr
 have HM := Lib.hid H
 clear H
 show Calls Try.prog _ #[.pointer (some ⟨p, 0, none⟩)] w (RPost W0 A c l all p r)
 go_enter Try.func136, Try.ntmps136
 obtain ⟨b1, hb1⟩ : ∃ b, cdR l s ⟨#[64, 110, 97, 109, 101]⟩ = b := ⟨_, rfl⟩
 have HC1 := Lib.hid (fun (w1 : World) (h : RMem W0 A c l all w1 p s) => (show Calls Try.prog 108 #[.pointer (some ⟨p, 0, none⟩), .int .u8 1] w1 (BPost W0 A c l all p s b1 w1) from (by have h9 := rkind_any h 1; rw [show (((1 : Nat)) : Int) = 1 from rfl, kdR_code (.inl ⟨rfl, rfl⟩), hb1] at h9; exact h9)))
 cases b1 with
 | true =>
  obtain ⟨he1, hc1, hi1⟩ := cd_yes hb1
  obtain ⟨m2, s2, hm2, hfi2, h2, hfin2, hr2⟩ := run_node (k := 14) (T := [.rule .r_object, .rule .r_assigned]) (S := []) (fun _ => by rw [hc1]; rfl) hr
  have HC2 := Lib.hid (fun (w1 : World) (h : RMem W0 A c l all w1 p s) => (show Calls Try.prog 85 #[.pointer (some ⟨p, 0, none⟩), .int .u8 14] w1 (RPost W0 A c l all p (opR 14 s)) from opens_any h 14 (fun he => (hfi2 he).1.1)))
  have hle2 : m2 ≤ n := by have := (Nat.le_refl n); omega
  have hlt2 : m2 + 1 ≤ n := by have := (hfi2 he1).2; have := (Nat.le_refl n); omega
  obtain ⟨s3, h3, hr3⟩ := rrun_app m2 [.rule .r_object] [.rule .r_assigned] (opR 14 s) s2 h2
  have HC3 := Lib.hid (fun (w1 : World) (h : RMem W0 A c l all w1 p (opR 14 s)) => (show Calls Try.prog 151 #[.pointer (some ⟨p, 0, none⟩)] w1 (RPost W0 A c l all p s3) from C_object (by have := hlt2; omega) m2 (by omega) W0 A c p w1 (opR 14 s) s3 h h3))
  obtain ⟨b4, hb4⟩ : ∃ b, cdR l s3 ⟨#[58, 61]⟩ = b := ⟨_, rfl⟩
  have HC4 := Lib.hid (fun (w1 : World) (h : RMem W0 A c l all w1 p s3) => (show Calls Try.prog 109 #[.pointer (some ⟨p, 0, none⟩), .string ⟨#[58, 61]⟩] w1 (BPost W0 A c l all p s3 b4 w1) from sg_new hb4 (by decide) (by decide) w1 h))
  cases b4 with
  | true =>
   obtain ⟨he4, hc4, hi4⟩ := cd_yes hb4
   obtain ⟨m4, hkm4, hfi4, hp4⟩ := run_rule he4 (e := [.push [.word ⟨#[58, 61]⟩, .rule .r_expr]]) (by rw [hc4]; rfl) hr3
   have hq4 : rrun l all m4 [.word ⟨#[58, 61]⟩, .rule .r_expr] s3 = some s2 := hp4
   have hle4 : m4 + 1 ≤ n := by have := hle2; omega
   obtain ⟨s5, h5, hr5⟩ := rrun_app m4 [.word ⟨#[58, 61]⟩] [.rule .r_expr] s3 s2 hq4
   have HC5 := Lib.hid (fun (w1 : World) (h : RMem W0 A c l all w1 p s3) => (show Calls Try.prog 88 #[.pointer (some ⟨p, 0, none⟩), .string ⟨#[58, 61]⟩] w1 (RPost W0 A c l all p s5) from ts_new h5 (by decide) (by decide) w1 h))
   obtain ⟨s6, h6, hr6⟩ := rrun_app m4 [.rule .r_expr] [] s5 s2 hr5
   have HC6 := Lib.hid (fun (w1 : World) (h : RMem W0 A c l all w1 p s5) => (show Calls Try.prog 133 #[.pointer (some ⟨p, 0, none⟩)] w1 (RPost W0 A c l all p s6) from C_expr (Nat.lt_of_lt_of_le (Nat.succ_pos m4) hle4) m4 (by omega) W0 A c p w1 s5 s6 h h6))
   have hz7 : s2 = s6 := rrun_nil hr6
   have HZ7 := Lib.hid hz7
   clear hz7
   have HC7 := Lib.hid (fun (w1 : World) (h : RMem W0 A c l all w1 p s6) => (show Calls Try.prog 114 #[.pointer (some ⟨p, 0, none⟩)] w1 (RPost W0 A c l all p (clR s2)) from (by rw [HZ7.out]; exact closes_any h (fun he => by have h9 := hfin2 (by rw [HZ7.out]; exact he); rw [HZ7.out] at h9; exact ⟨by have := h9.1; omega, h9.2⟩))))
   have hz8 := rrun_nil hr2
   have HY8 := Lib.hid hz8
   clear hz8
   go_wp2_with (first
    | (go_at_call 108; (with_reducible refine Calls.mono (HC1.out _ HM.out) ?_); rintro e w1 ⟨rfl, h, -⟩; replace HM := Lib.hid h; clear h)
    | (go_at_call 85; (with_reducible refine Calls.mono (HC2.out _ HM.out) ?_); rintro e w1 ⟨rfl, h⟩; replace HM := Lib.hid h; clear h)
    | (go_at_call 151; (with_reducible refine Calls.mono (HC3.out _ HM.out) ?_); rintro e w1 ⟨rfl, h⟩; replace HM := Lib.hid h; clear h)
    | (go_at_call 109; (with_reducible refine Calls.mono (HC4.out _ HM.out) ?_); rintro e w1 ⟨rfl, h, -⟩; replace HM := Lib.hid h; clear h)
    | (go_at_call 88; (with_reducible refine Calls.mono (HC5.out _ HM.out) ?_); rintro e w1 ⟨rfl, h⟩; replace HM := Lib.hid h; clear h)
    | (go_at_call 133; (with_reducible refine Calls.mono (HC6.out _ HM.out) ?_); rintro e w1 ⟨rfl, h⟩; replace HM := Lib.hid h; clear h)
    | (go_at_call 114; (with_reducible refine Calls.mono (HC7.out _ HM.out) ?_); rintro e w1 ⟨rfl, h⟩; replace HM := Lib.hid h; clear h))
   refine ⟨rfl, .tuple #[], by kernel_rfl, rfl, ?_⟩
   rw [HY8.out]; exact HM.out
  | false =>
   have hs5 := run_stay (fun he => by have e4 := cd_no (by decide) hb4 he; simp [RId.expand, e4]) hr3
   have hz6 : s2 = s3 := rrun_nil hs5
   have HZ6 := Lib.hid hz6
   clear hz6
   have HC6 := Lib.hid (fun (w1 : World) (h : RMem W0 A c l all w1 p s3) => (show Calls Try.prog 114 #[.pointer (some ⟨p, 0, none⟩)] w1 (RPost W0 A c l all p (clR s2)) from (by rw [HZ6.out]; exact closes_any h (fun he => by have h9 := hfin2 (by rw [HZ6.out]; exact he); rw [HZ6.out] at h9; exact ⟨by have := h9.1; omega, h9.2⟩))))
   have hz7 := rrun_nil hr2
   have HY7 := Lib.hid hz7
   clear hz7
   go_wp2_with (first
    | (go_at_call 108; (with_reducible refine Calls.mono (HC1.out _ HM.out) ?_); rintro e w1 ⟨rfl, h, -⟩; replace HM := Lib.hid h; clear h)
    | (go_at_call 85; (with_reducible refine Calls.mono (HC2.out _ HM.out) ?_); rintro e w1 ⟨rfl, h⟩; replace HM := Lib.hid h; clear h)
    | (go_at_call 151; (with_reducible refine Calls.mono (HC3.out _ HM.out) ?_); rintro e w1 ⟨rfl, h⟩; replace HM := Lib.hid h; clear h)
    | (go_at_call 109; (with_reducible refine Calls.mono (HC4.out _ HM.out) ?_); rintro e w1 ⟨rfl, h, -⟩; replace HM := Lib.hid h; clear h)
    | (go_at_call 114; (with_reducible refine Calls.mono (HC6.out _ HM.out) ?_); rintro e w1 ⟨rfl, h⟩; replace HM := Lib.hid h; clear h))
   refine ⟨rfl, .tuple #[], by kernel_rfl, rfl, ?_⟩
   rw [HY7.out]; exact HM.out
 | false =>
  obtain ⟨b2, hb2⟩ : ∃ b, kdR l s 2 = b := ⟨_, rfl⟩
  have HC2 := Lib.hid (fun (w1 : World) (h : RMem W0 A c l all w1 p s) => (show Calls Try.prog 108 #[.pointer (some ⟨p, 0, none⟩), .int .u8 2] w1 (BPost W0 A c l all p s b2 w1) from (by have h9 := rkind_any h 2; rw [show (((2 : Nat)) : Int) = 2 from rfl, hb2] at h9; exact h9)))
  cases b2 with
  | true =>
   obtain ⟨he9, t, ht9, hf9⟩ := kdR_true hb2
   have hi9 : s.i < l.length := (List.getElem?_eq_some_iff.1 ht9).1
   obtain ⟨d0, hd0⟩ : ∃ b, cdR l s ⟨#[115, 107, 105, 112]⟩ = b := ⟨_, rfl⟩
   have g0 : (t.f1.toList == [115, 107, 105, 112]) = d0 := by have h9 := word_at (x := ⟨#[115, 107, 105, 112]⟩) (by decide) he9 ht9 (by rw [show lowW ⟨#[115, 107, 105, 112]⟩ = true by decide]; exact hf9); rw [hd0, ByteArray.toList_eq ⟨#[115, 107, 105, 112]⟩] at h9; exact h9.symm
   obtain ⟨d1, hd1⟩ : ∃ b, cdR l s ⟨#[105, 102]⟩ = b := ⟨_, rfl⟩
   have g1 : (t.f1.toList == [105, 102]) = d1 := by have h9 := word_at (x := ⟨#[105, 102]⟩) (by decide) he9 ht9 (by rw [show lowW ⟨#[105, 102]⟩ = true by decide]; exact hf9); rw [hd1, ByteArray.toList_eq ⟨#[105, 102]⟩] at h9; exact h9.symm
   obtain ⟨d2, hd2⟩ : ∃ b, cdR l s ⟨#[119, 104, 105, 108, 101]⟩ = b := ⟨_, rfl⟩
   have g2 : (t.f1.toList == [119, 104, 105, 108, 101]) = d2 := by have h9 := word_at (x := ⟨#[119, 104, 105, 108, 101]⟩) (by decide) he9 ht9 (by rw [show lowW ⟨#[119, 104, 105, 108, 101]⟩ = true by decide]; exact hf9); rw [hd2, ByteArray.toList_eq ⟨#[119, 104, 105, 108, 101]⟩] at h9; exact h9.symm
   obtain ⟨d3, hd3⟩ : ∃ b, cdR l s ⟨#[102, 111, 114]⟩ = b := ⟨_, rfl⟩
   have g3 : (t.f1.toList == [102, 111, 114]) = d3 := by have h9 := word_at (x := ⟨#[102, 111, 114]⟩) (by decide) he9 ht9 (by rw [show lowW ⟨#[102, 111, 114]⟩ = true by decide]; exact hf9); rw [hd3, ByteArray.toList_eq ⟨#[102, 111, 114]⟩] at h9; exact h9.symm
   obtain ⟨d4, hd4⟩ : ∃ b, cdR l s ⟨#[114, 101, 112, 101, 97, 116]⟩ = b := ⟨_, rfl⟩
   have g4 : (t.f1.toList == [114, 101, 112, 101, 97, 116]) = d4 := by have h9 := word_at (x := ⟨#[114, 101, 112, 101, 97, 116]⟩) (by decide) he9 ht9 (by rw [show lowW ⟨#[114, 101, 112, 101, 97, 116]⟩ = true by decide]; exact hf9); rw [hd4, ByteArray.toList_eq ⟨#[114, 101, 112, 101, 97, 116]⟩] at h9; exact h9.symm
   obtain ⟨d5, hd5⟩ : ∃ b, cdR l s ⟨#[114, 101, 116, 117, 114, 110]⟩ = b := ⟨_, rfl⟩
   have g5 : (t.f1.toList == [114, 101, 116, 117, 114, 110]) = d5 := by have h9 := word_at (x := ⟨#[114, 101, 116, 117, 114, 110]⟩) (by decide) he9 ht9 (by rw [show lowW ⟨#[114, 101, 116, 117, 114, 110]⟩ = true by decide]; exact hf9); rw [hd5, ByteArray.toList_eq ⟨#[114, 101, 116, 117, 114, 110]⟩] at h9; exact h9.symm
   obtain ⟨d6, hd6⟩ : ∃ b, cdR l s ⟨#[98, 101, 103, 105, 110]⟩ = b := ⟨_, rfl⟩
   have g6 : (t.f1.toList == [98, 101, 103, 105, 110]) = d6 := by have h9 := word_at (x := ⟨#[98, 101, 103, 105, 110]⟩) (by decide) he9 ht9 (by rw [show lowW ⟨#[98, 101, 103, 105, 110]⟩ = true by decide]; exact hf9); rw [hd6, ByteArray.toList_eq ⟨#[98, 101, 103, 105, 110]⟩] at h9; exact h9.symm
   obtain ⟨path0, ser0, vp0, vs0, vl0, hrel0, hps0, HA0⟩ := HM.out
   obtain ⟨ad, hAd, htc⟩ := tok_cells HA0.toks s.i hi9
   rw [rd_of ht9] at htc
   have hlen := HA0.len
   have HAD := Lib.hid hAd
   clear hAd
   obtain ⟨z1, z2, z3, z4⟩ := idx4 hi9 hlen
   have HTC := Lib.hid htc
   clear hrel0 hps0 HA0 htc hlen
   go_wp2_with (first
    | (go_at_call 108; (with_reducible refine Calls.mono (HC1.out _ HM.out) ?_); rintro e w1 ⟨rfl, h, -⟩; replace HM := Lib.hid h; clear h)
    | (go_at_call 108; (with_reducible refine Calls.mono (HC2.out _ HM.out) ?_); rintro e w1 ⟨rfl, h, -⟩; replace HM := Lib.hid h; obtain ⟨path1, ser1, vp1, vs1, vl1, hrel1, hps1, HA1⟩ := h; obtain ⟨q0, q1, q2, q3, q4, q5, q6, q7⟩ := HA1.cell; rw [HAD.out] at q0; have hcc := HTC.out w1 HA1.below; obtain ⟨-, c1, -, -, -, -⟩ := hcc; clear hrel1 hps1 HA1))
   go_quiet (fail)
   replace HM := Lib.hid (HM.out.moved (below_drewN (Below.refl _ _) nq))
   generalize w1.drewN nq = w2 at HM ⊢
   clear q0 q1 q2 q3 q4 q5 q6 q7 c1
   clear HTC ht9 hf9 hi9
   cases d0 with
   | true =>
    obtain ⟨-, hc200, -⟩ := cd_yes hd0
    obtain ⟨m3, s3, hm3, hfi3, h3, hfin3, hr3⟩ := run_node (k := 13) (T := [.word ⟨#[115, 107, 105, 112]⟩]) (S := []) (fun _ => by rw [hc200]; rfl) hr
    have HC3 := Lib.hid (fun (w1 : World) (h : RMem W0 A c l all w1 p s) => (show Calls Try.prog 85 #[.pointer (some ⟨p, 0, none⟩), .int .u8 13] w1 (RPost W0 A c l all p (opR 13 s)) from opens_any h 13 (fun he => (hfi3 he).1.1)))
    have hle3 : m3 ≤ n := by have := (Nat.le_refl n); omega
    have hlt3 : m3 + 1 ≤ n := by have := (hfi3 he9).2; have := (Nat.le_refl n); omega
    obtain ⟨s4, h4, hr4⟩ := rrun_app m3 [.word ⟨#[115, 107, 105, 112]⟩] [] (opR 13 s) s3 h3
    have HC4 := Lib.hid (fun (w1 : World) (h : RMem W0 A c l all w1 p (opR 13 s)) => (show Calls Try.prog 86 #[.pointer (some ⟨p, 0, none⟩), .string ⟨#[115, 107, 105, 112]⟩] w1 (RPost W0 A c l all p s4) from tw_new h4 (by decide) (by decide) w1 h))
    have hz5 : s3 = s4 := rrun_nil hr4
    have HZ5 := Lib.hid hz5
    clear hz5
    have HC5 := Lib.hid (fun (w1 : World) (h : RMem W0 A c l all w1 p s4) => (show Calls Try.prog 114 #[.pointer (some ⟨p, 0, none⟩)] w1 (RPost W0 A c l all p (clR s3)) from (by rw [HZ5.out]; exact closes_any h (fun he => by have h9 := hfin3 (by rw [HZ5.out]; exact he); rw [HZ5.out] at h9; exact ⟨by have := h9.1; omega, h9.2⟩))))
    have hz6 := rrun_nil hr3
    have HY6 := Lib.hid hz6
    clear hz6
    go_wp2_with (first
     | (go_at_call 85; (with_reducible refine Calls.mono (HC3.out _ HM.out) ?_); rintro e w1 ⟨rfl, h⟩; replace HM := Lib.hid h; clear h)
     | (go_at_call 86; (with_reducible refine Calls.mono (HC4.out _ HM.out) ?_); rintro e w1 ⟨rfl, h⟩; replace HM := Lib.hid h; clear h)
     | (go_at_call 114; (with_reducible refine Calls.mono (HC5.out _ HM.out) ?_); rintro e w1 ⟨rfl, h⟩; replace HM := Lib.hid h; clear h))
    go_end0
    exact ⟨rfl, by rw [HY6.out]; exact HM.out⟩
   | false =>
    cases d1 with
    | true =>
     obtain ⟨-, hc201, -⟩ := cd_yes hd1
     obtain ⟨m3, s3, hm3, hfi3, h3, hfin3, hr3⟩ := run_node (k := 15) (T := [.word ⟨#[105, 102]⟩, .rule .r_expr, .word ⟨#[116, 104, 101, 110]⟩, .rule .r_body, .rule .r_elses, .word ⟨#[101, 110, 100]⟩]) (S := []) (fun _ => by rw [hc201]; rfl) hr
     have HC3 := Lib.hid (fun (w1 : World) (h : RMem W0 A c l all w1 p s) => (show Calls Try.prog 152 #[.pointer (some ⟨p, 0, none⟩)] w1 (RPost W0 A c l all p (clR s3)) from N_branch (by have := (hfi3 he9).2; have := (Nat.le_refl n); omega) m3 (by have := (hfi3 he9).2; have := (Nat.le_refl n); omega) W0 A c p w1 s s3 h (fun he => (hfi3 he).1) h3 hfin3))
     have hz4 := rrun_nil hr3
     have HY4 := Lib.hid hz4
     clear hz4
     go_wp2_with (first
      | (go_at_call 152; (with_reducible refine Calls.mono (HC3.out _ HM.out) ?_); rintro e w1 ⟨rfl, h⟩; replace HM := Lib.hid h; clear h))
     go_end0
     exact ⟨rfl, by rw [HY4.out]; exact HM.out⟩
    | false =>
     cases d2 with
     | true =>
      obtain ⟨-, hc202, -⟩ := cd_yes hd2
      obtain ⟨m3, s3, hm3, hfi3, h3, hfin3, hr3⟩ := run_node (k := 16) (T := [.word ⟨#[119, 104, 105, 108, 101]⟩, .rule .r_expr, .word ⟨#[100, 111]⟩, .rule .r_body, .word ⟨#[101, 110, 100]⟩]) (S := []) (fun _ => by rw [hc202]; rfl) hr
      have HC3 := Lib.hid (fun (w1 : World) (h : RMem W0 A c l all w1 p s) => (show Calls Try.prog 85 #[.pointer (some ⟨p, 0, none⟩), .int .u8 16] w1 (RPost W0 A c l all p (opR 16 s)) from opens_any h 16 (fun he => (hfi3 he).1.1)))
      have hle3 : m3 ≤ n := by have := (Nat.le_refl n); omega
      have hlt3 : m3 + 1 ≤ n := by have := (hfi3 he9).2; have := (Nat.le_refl n); omega
      obtain ⟨s4, h4, hr4⟩ := rrun_app m3 [.word ⟨#[119, 104, 105, 108, 101]⟩] [.rule .r_expr, .word ⟨#[100, 111]⟩, .rule .r_body, .word ⟨#[101, 110, 100]⟩] (opR 16 s) s3 h3
      have HC4 := Lib.hid (fun (w1 : World) (h : RMem W0 A c l all w1 p (opR 16 s)) => (show Calls Try.prog 86 #[.pointer (some ⟨p, 0, none⟩), .string ⟨#[119, 104, 105, 108, 101]⟩] w1 (RPost W0 A c l all p s4) from tw_new h4 (by decide) (by decide) w1 h))
      obtain ⟨s5, h5, hr5⟩ := rrun_app m3 [.rule .r_expr] [.word ⟨#[100, 111]⟩, .rule .r_body, .word ⟨#[101, 110, 100]⟩] s4 s3 hr4
      have HC5 := Lib.hid (fun (w1 : World) (h : RMem W0 A c l all w1 p s4) => (show Calls Try.prog 133 #[.pointer (some ⟨p, 0, none⟩)] w1 (RPost W0 A c l all p s5) from C_expr (by have := hlt3; omega) m3 (by omega) W0 A c p w1 s4 s5 h h5))
      obtain ⟨s6, h6, hr6⟩ := rrun_app m3 [.word ⟨#[100, 111]⟩] [.rule .r_body, .word ⟨#[101, 110, 100]⟩] s5 s3 hr5
      have HC6 := Lib.hid (fun (w1 : World) (h : RMem W0 A c l all w1 p s5) => (show Calls Try.prog 86 #[.pointer (some ⟨p, 0, none⟩), .string ⟨#[100, 111]⟩] w1 (RPost W0 A c l all p s6) from tw_new h6 (by decide) (by decide) w1 h))
      obtain ⟨s7, h7, hr7⟩ := rrun_app m3 [.rule .r_body] [.word ⟨#[101, 110, 100]⟩] s6 s3 hr6
      have HC7 := Lib.hid (fun (w1 : World) (h : RMem W0 A c l all w1 p s6) => (show Calls Try.prog 113 #[.pointer (some ⟨p, 0, none⟩)] w1 (RPost W0 A c l all p s7) from C_body (by have := hlt3; omega) m3 (by omega) W0 A c p w1 s6 s7 h h7))
      obtain ⟨s8, h8, hr8⟩ := rrun_app m3 [.word ⟨#[101, 110, 100]⟩] [] s7 s3 hr7
      have HC8 := Lib.hid (fun (w1 : World) (h : RMem W0 A c l all w1 p s7) => (show Calls Try.prog 86 #[.pointer (some ⟨p, 0, none⟩), .string ⟨#[101, 110, 100]⟩] w1 (RPost W0 A c l all p s8) from tw_new h8 (by decide) (by decide) w1 h))
      have hz9 : s3 = s8 := rrun_nil hr8
      have HZ9 := Lib.hid hz9
      clear hz9
      have HC9 := Lib.hid (fun (w1 : World) (h : RMem W0 A c l all w1 p s8) => (show Calls Try.prog 114 #[.pointer (some ⟨p, 0, none⟩)] w1 (RPost W0 A c l all p (clR s3)) from (by rw [HZ9.out]; exact closes_any h (fun he => by have h9 := hfin3 (by rw [HZ9.out]; exact he); rw [HZ9.out] at h9; exact ⟨by have := h9.1; omega, h9.2⟩))))
      have hz10 := rrun_nil hr3
      have HY10 := Lib.hid hz10
      clear hz10
      go_wp2_with (first
       | (go_at_call 85; (with_reducible refine Calls.mono (HC3.out _ HM.out) ?_); rintro e w1 ⟨rfl, h⟩; replace HM := Lib.hid h; clear h)
       | (go_at_call 86; (with_reducible refine Calls.mono (HC4.out _ HM.out) ?_); rintro e w1 ⟨rfl, h⟩; replace HM := Lib.hid h; clear h)
       | (go_at_call 133; (with_reducible refine Calls.mono (HC5.out _ HM.out) ?_); rintro e w1 ⟨rfl, h⟩; replace HM := Lib.hid h; clear h)
       | (go_at_call 86; (with_reducible refine Calls.mono (HC6.out _ HM.out) ?_); rintro e w1 ⟨rfl, h⟩; replace HM := Lib.hid h; clear h)
       | (go_at_call 113; (with_reducible refine Calls.mono (HC7.out _ HM.out) ?_); rintro e w1 ⟨rfl, h⟩; replace HM := Lib.hid h; clear h)
       | (go_at_call 86; (with_reducible refine Calls.mono (HC8.out _ HM.out) ?_); rintro e w1 ⟨rfl, h⟩; replace HM := Lib.hid h; clear h)
       | (go_at_call 114; (with_reducible refine Calls.mono (HC9.out _ HM.out) ?_); rintro e w1 ⟨rfl, h⟩; replace HM := Lib.hid h; clear h))
      go_end0
      exact ⟨rfl, by rw [HY10.out]; exact HM.out⟩
     | false =>
      cases d3 with
      | true =>
       obtain ⟨-, hc203, -⟩ := cd_yes hd3
       obtain ⟨m3, s3, hm3, hfi3, h3, hfin3, hr3⟩ := run_node (k := 17) (T := [.word ⟨#[102, 111, 114]⟩, .word ⟨#[64, 110, 97, 109, 101]⟩, .word ⟨#[58, 61]⟩, .rule .r_expr, .word ⟨#[116, 111]⟩, .rule .r_expr, .word ⟨#[100, 111]⟩, .rule .r_body, .word ⟨#[101, 110, 100]⟩]) (S := []) (fun _ => by rw [hc203]; rfl) hr
       have HC3 := Lib.hid (fun (w1 : World) (h : RMem W0 A c l all w1 p s) => (show Calls Try.prog 85 #[.pointer (some ⟨p, 0, none⟩), .int .u8 17] w1 (RPost W0 A c l all p (opR 17 s)) from opens_any h 17 (fun he => (hfi3 he).1.1)))
       have hle3 : m3 ≤ n := by have := (Nat.le_refl n); omega
       have hlt3 : m3 + 1 ≤ n := by have := (hfi3 he9).2; have := (Nat.le_refl n); omega
       obtain ⟨s4, h4, hr4⟩ := rrun_app m3 [.word ⟨#[102, 111, 114]⟩] [.word ⟨#[64, 110, 97, 109, 101]⟩, .word ⟨#[58, 61]⟩, .rule .r_expr, .word ⟨#[116, 111]⟩, .rule .r_expr, .word ⟨#[100, 111]⟩, .rule .r_body, .word ⟨#[101, 110, 100]⟩] (opR 17 s) s3 h3
       have HC4 := Lib.hid (fun (w1 : World) (h : RMem W0 A c l all w1 p (opR 17 s)) => (show Calls Try.prog 86 #[.pointer (some ⟨p, 0, none⟩), .string ⟨#[102, 111, 114]⟩] w1 (RPost W0 A c l all p s4) from tw_new h4 (by decide) (by decide) w1 h))
       obtain ⟨s5, h5, hr5⟩ := rrun_app m3 [.word ⟨#[64, 110, 97, 109, 101]⟩] [.word ⟨#[58, 61]⟩, .rule .r_expr, .word ⟨#[116, 111]⟩, .rule .r_expr, .word ⟨#[100, 111]⟩, .rule .r_body, .word ⟨#[101, 110, 100]⟩] s4 s3 hr4
       have HC5 := Lib.hid (fun (w1 : World) (h : RMem W0 A c l all w1 p s4) => (show Calls Try.prog 87 #[.pointer (some ⟨p, 0, none⟩)] w1 (RPost W0 A c l all p s5) from tn_new h5 w1 h))
       obtain ⟨s6, h6, hr6⟩ := rrun_app m3 [.word ⟨#[58, 61]⟩] [.rule .r_expr, .word ⟨#[116, 111]⟩, .rule .r_expr, .word ⟨#[100, 111]⟩, .rule .r_body, .word ⟨#[101, 110, 100]⟩] s5 s3 hr5
       have HC6 := Lib.hid (fun (w1 : World) (h : RMem W0 A c l all w1 p s5) => (show Calls Try.prog 88 #[.pointer (some ⟨p, 0, none⟩), .string ⟨#[58, 61]⟩] w1 (RPost W0 A c l all p s6) from ts_new h6 (by decide) (by decide) w1 h))
       obtain ⟨s7, h7, hr7⟩ := rrun_app m3 [.rule .r_expr] [.word ⟨#[116, 111]⟩, .rule .r_expr, .word ⟨#[100, 111]⟩, .rule .r_body, .word ⟨#[101, 110, 100]⟩] s6 s3 hr6
       have HC7 := Lib.hid (fun (w1 : World) (h : RMem W0 A c l all w1 p s6) => (show Calls Try.prog 133 #[.pointer (some ⟨p, 0, none⟩)] w1 (RPost W0 A c l all p s7) from C_expr (by have := hlt3; omega) m3 (by omega) W0 A c p w1 s6 s7 h h7))
       obtain ⟨s8, h8, hr8⟩ := rrun_app m3 [.word ⟨#[116, 111]⟩] [.rule .r_expr, .word ⟨#[100, 111]⟩, .rule .r_body, .word ⟨#[101, 110, 100]⟩] s7 s3 hr7
       have HC8 := Lib.hid (fun (w1 : World) (h : RMem W0 A c l all w1 p s7) => (show Calls Try.prog 86 #[.pointer (some ⟨p, 0, none⟩), .string ⟨#[116, 111]⟩] w1 (RPost W0 A c l all p s8) from tw_new h8 (by decide) (by decide) w1 h))
       obtain ⟨s9, h9, hr9⟩ := rrun_app m3 [.rule .r_expr] [.word ⟨#[100, 111]⟩, .rule .r_body, .word ⟨#[101, 110, 100]⟩] s8 s3 hr8
       have HC9 := Lib.hid (fun (w1 : World) (h : RMem W0 A c l all w1 p s8) => (show Calls Try.prog 133 #[.pointer (some ⟨p, 0, none⟩)] w1 (RPost W0 A c l all p s9) from C_expr (by have := hlt3; omega) m3 (by omega) W0 A c p w1 s8 s9 h h9))
       obtain ⟨s10, h10, hr10⟩ := rrun_app m3 [.word ⟨#[100, 111]⟩] [.rule .r_body, .word ⟨#[101, 110, 100]⟩] s9 s3 hr9
       have HC10 := Lib.hid (fun (w1 : World) (h : RMem W0 A c l all w1 p s9) => (show Calls Try.prog 86 #[.pointer (some ⟨p, 0, none⟩), .string ⟨#[100, 111]⟩] w1 (RPost W0 A c l all p s10) from tw_new h10 (by decide) (by decide) w1 h))
       obtain ⟨s11, h11, hr11⟩ := rrun_app m3 [.rule .r_body] [.word ⟨#[101, 110, 100]⟩] s10 s3 hr10
       have HC11 := Lib.hid (fun (w1 : World) (h : RMem W0 A c l all w1 p s10) => (show Calls Try.prog 113 #[.pointer (some ⟨p, 0, none⟩)] w1 (RPost W0 A c l all p s11) from C_body (by have := hlt3; omega) m3 (by omega) W0 A c p w1 s10 s11 h h11))
       obtain ⟨s12, h12, hr12⟩ := rrun_app m3 [.word ⟨#[101, 110, 100]⟩] [] s11 s3 hr11
       have HC12 := Lib.hid (fun (w1 : World) (h : RMem W0 A c l all w1 p s11) => (show Calls Try.prog 86 #[.pointer (some ⟨p, 0, none⟩), .string ⟨#[101, 110, 100]⟩] w1 (RPost W0 A c l all p s12) from tw_new h12 (by decide) (by decide) w1 h))
       have hz13 : s3 = s12 := rrun_nil hr12
       have HZ13 := Lib.hid hz13
       clear hz13
       have HC13 := Lib.hid (fun (w1 : World) (h : RMem W0 A c l all w1 p s12) => (show Calls Try.prog 114 #[.pointer (some ⟨p, 0, none⟩)] w1 (RPost W0 A c l all p (clR s3)) from (by rw [HZ13.out]; exact closes_any h (fun he => by have h9 := hfin3 (by rw [HZ13.out]; exact he); rw [HZ13.out] at h9; exact ⟨by have := h9.1; omega, h9.2⟩))))
       have hz14 := rrun_nil hr3
       have HY14 := Lib.hid hz14
       clear hz14
       go_wp2_with (first
        | (go_at_call 85; (with_reducible refine Calls.mono (HC3.out _ HM.out) ?_); rintro e w1 ⟨rfl, h⟩; replace HM := Lib.hid h; clear h)
        | (go_at_call 86; (with_reducible refine Calls.mono (HC4.out _ HM.out) ?_); rintro e w1 ⟨rfl, h⟩; replace HM := Lib.hid h; clear h)
        | (go_at_call 87; (with_reducible refine Calls.mono (HC5.out _ HM.out) ?_); rintro e w1 ⟨rfl, h⟩; replace HM := Lib.hid h; clear h)
        | (go_at_call 88; (with_reducible refine Calls.mono (HC6.out _ HM.out) ?_); rintro e w1 ⟨rfl, h⟩; replace HM := Lib.hid h; clear h)
        | (go_at_call 133; (with_reducible refine Calls.mono (HC7.out _ HM.out) ?_); rintro e w1 ⟨rfl, h⟩; replace HM := Lib.hid h; clear h)
        | (go_at_call 86; (with_reducible refine Calls.mono (HC8.out _ HM.out) ?_); rintro e w1 ⟨rfl, h⟩; replace HM := Lib.hid h; clear h)
        | (go_at_call 133; (with_reducible refine Calls.mono (HC9.out _ HM.out) ?_); rintro e w1 ⟨rfl, h⟩; replace HM := Lib.hid h; clear h)
        | (go_at_call 86; (with_reducible refine Calls.mono (HC10.out _ HM.out) ?_); rintro e w1 ⟨rfl, h⟩; replace HM := Lib.hid h; clear h)
        | (go_at_call 113; (with_reducible refine Calls.mono (HC11.out _ HM.out) ?_); rintro e w1 ⟨rfl, h⟩; replace HM := Lib.hid h; clear h)
        | (go_at_call 86; (with_reducible refine Calls.mono (HC12.out _ HM.out) ?_); rintro e w1 ⟨rfl, h⟩; replace HM := Lib.hid h; clear h)
        | (go_at_call 114; (with_reducible refine Calls.mono (HC13.out _ HM.out) ?_); rintro e w1 ⟨rfl, h⟩; replace HM := Lib.hid h; clear h))
       go_end0
       exact ⟨rfl, by rw [HY14.out]; exact HM.out⟩
      | false =>
       cases d4 with
       | true =>
        obtain ⟨-, hc204, -⟩ := cd_yes hd4
        obtain ⟨m3, s3, hm3, hfi3, h3, hfin3, hr3⟩ := run_node (k := 18) (T := [.word ⟨#[114, 101, 112, 101, 97, 116]⟩, .rule .r_body, .word ⟨#[117, 110, 116, 105, 108]⟩, .rule .r_expr]) (S := []) (fun _ => by rw [hc204]; rfl) hr
        have HC3 := Lib.hid (fun (w1 : World) (h : RMem W0 A c l all w1 p s) => (show Calls Try.prog 85 #[.pointer (some ⟨p, 0, none⟩), .int .u8 18] w1 (RPost W0 A c l all p (opR 18 s)) from opens_any h 18 (fun he => (hfi3 he).1.1)))
        have hle3 : m3 ≤ n := by have := (Nat.le_refl n); omega
        have hlt3 : m3 + 1 ≤ n := by have := (hfi3 he9).2; have := (Nat.le_refl n); omega
        obtain ⟨s4, h4, hr4⟩ := rrun_app m3 [.word ⟨#[114, 101, 112, 101, 97, 116]⟩] [.rule .r_body, .word ⟨#[117, 110, 116, 105, 108]⟩, .rule .r_expr] (opR 18 s) s3 h3
        have HC4 := Lib.hid (fun (w1 : World) (h : RMem W0 A c l all w1 p (opR 18 s)) => (show Calls Try.prog 86 #[.pointer (some ⟨p, 0, none⟩), .string ⟨#[114, 101, 112, 101, 97, 116]⟩] w1 (RPost W0 A c l all p s4) from tw_new h4 (by decide) (by decide) w1 h))
        obtain ⟨s5, h5, hr5⟩ := rrun_app m3 [.rule .r_body] [.word ⟨#[117, 110, 116, 105, 108]⟩, .rule .r_expr] s4 s3 hr4
        have HC5 := Lib.hid (fun (w1 : World) (h : RMem W0 A c l all w1 p s4) => (show Calls Try.prog 113 #[.pointer (some ⟨p, 0, none⟩)] w1 (RPost W0 A c l all p s5) from C_body (by have := hlt3; omega) m3 (by omega) W0 A c p w1 s4 s5 h h5))
        obtain ⟨s6, h6, hr6⟩ := rrun_app m3 [.word ⟨#[117, 110, 116, 105, 108]⟩] [.rule .r_expr] s5 s3 hr5
        have HC6 := Lib.hid (fun (w1 : World) (h : RMem W0 A c l all w1 p s5) => (show Calls Try.prog 86 #[.pointer (some ⟨p, 0, none⟩), .string ⟨#[117, 110, 116, 105, 108]⟩] w1 (RPost W0 A c l all p s6) from tw_new h6 (by decide) (by decide) w1 h))
        obtain ⟨s7, h7, hr7⟩ := rrun_app m3 [.rule .r_expr] [] s6 s3 hr6
        have HC7 := Lib.hid (fun (w1 : World) (h : RMem W0 A c l all w1 p s6) => (show Calls Try.prog 133 #[.pointer (some ⟨p, 0, none⟩)] w1 (RPost W0 A c l all p s7) from C_expr (by have := hlt3; omega) m3 (by omega) W0 A c p w1 s6 s7 h h7))
        have hz8 : s3 = s7 := rrun_nil hr7
        have HZ8 := Lib.hid hz8
        clear hz8
        have HC8 := Lib.hid (fun (w1 : World) (h : RMem W0 A c l all w1 p s7) => (show Calls Try.prog 114 #[.pointer (some ⟨p, 0, none⟩)] w1 (RPost W0 A c l all p (clR s3)) from (by rw [HZ8.out]; exact closes_any h (fun he => by have h9 := hfin3 (by rw [HZ8.out]; exact he); rw [HZ8.out] at h9; exact ⟨by have := h9.1; omega, h9.2⟩))))
        have hz9 := rrun_nil hr3
        have HY9 := Lib.hid hz9
        clear hz9
        go_wp2_with (first
         | (go_at_call 85; (with_reducible refine Calls.mono (HC3.out _ HM.out) ?_); rintro e w1 ⟨rfl, h⟩; replace HM := Lib.hid h; clear h)
         | (go_at_call 86; (with_reducible refine Calls.mono (HC4.out _ HM.out) ?_); rintro e w1 ⟨rfl, h⟩; replace HM := Lib.hid h; clear h)
         | (go_at_call 113; (with_reducible refine Calls.mono (HC5.out _ HM.out) ?_); rintro e w1 ⟨rfl, h⟩; replace HM := Lib.hid h; clear h)
         | (go_at_call 86; (with_reducible refine Calls.mono (HC6.out _ HM.out) ?_); rintro e w1 ⟨rfl, h⟩; replace HM := Lib.hid h; clear h)
         | (go_at_call 133; (with_reducible refine Calls.mono (HC7.out _ HM.out) ?_); rintro e w1 ⟨rfl, h⟩; replace HM := Lib.hid h; clear h)
         | (go_at_call 114; (with_reducible refine Calls.mono (HC8.out _ HM.out) ?_); rintro e w1 ⟨rfl, h⟩; replace HM := Lib.hid h; clear h))
        go_end0
        exact ⟨rfl, by rw [HY9.out]; exact HM.out⟩
       | false =>
        cases d5 with
        | true =>
         obtain ⟨-, hc205, -⟩ := cd_yes hd5
         obtain ⟨m3, s3, hm3, hfi3, h3, hfin3, hr3⟩ := run_node (k := 19) (T := [.word ⟨#[114, 101, 116, 117, 114, 110]⟩, .rule .r_maybe]) (S := []) (fun _ => by rw [hc205]; rfl) hr
         have HC3 := Lib.hid (fun (w1 : World) (h : RMem W0 A c l all w1 p s) => (show Calls Try.prog 85 #[.pointer (some ⟨p, 0, none⟩), .int .u8 19] w1 (RPost W0 A c l all p (opR 19 s)) from opens_any h 19 (fun he => (hfi3 he).1.1)))
         have hle3 : m3 ≤ n := by have := (Nat.le_refl n); omega
         have hlt3 : m3 + 1 ≤ n := by have := (hfi3 he9).2; have := (Nat.le_refl n); omega
         obtain ⟨s4, h4, hr4⟩ := rrun_app m3 [.word ⟨#[114, 101, 116, 117, 114, 110]⟩] [.rule .r_maybe] (opR 19 s) s3 h3
         have HC4 := Lib.hid (fun (w1 : World) (h : RMem W0 A c l all w1 p (opR 19 s)) => (show Calls Try.prog 86 #[.pointer (some ⟨p, 0, none⟩), .string ⟨#[114, 101, 116, 117, 114, 110]⟩] w1 (RPost W0 A c l all p s4) from tw_new h4 (by decide) (by decide) w1 h))
         obtain ⟨b5, hb5⟩ : ∃ b, begR l s4 = b := ⟨_, rfl⟩
         have HC5 := Lib.hid (fun (w1 : World) (h : RMem W0 A c l all w1 p s4) => (show Calls Try.prog 153 #[.pointer (some ⟨p, 0, none⟩)] w1 (BPost W0 A c l all p s4 b5 w1) from (hb5 ▸ rbegins_any h)))
         cases b5 with
         | true =>
          obtain ⟨he5, -, hx5⟩ := beg_yes hb5
          obtain ⟨m5, hkm5, hfi5, hp5⟩ := run_rule he5 hx5 hr4
          have hq5 : rrun l all m5 [.rule .r_expr] s4 = some s3 := hp5
          obtain ⟨s6, h6, hr6⟩ := rrun_app m5 [.rule .r_expr] [] s4 s3 hq5
          have HC6 := Lib.hid (fun (w1 : World) (h : RMem W0 A c l all w1 p s4) => (show Calls Try.prog 133 #[.pointer (some ⟨p, 0, none⟩)] w1 (RPost W0 A c l all p s6) from C_expr (by have := hlt3; omega) m5 (by omega) W0 A c p w1 s4 s6 h h6))
          have hz7 : s3 = s6 := rrun_nil hr6
          have HZ7 := Lib.hid hz7
          clear hz7
          have HC7 := Lib.hid (fun (w1 : World) (h : RMem W0 A c l all w1 p s6) => (show Calls Try.prog 114 #[.pointer (some ⟨p, 0, none⟩)] w1 (RPost W0 A c l all p (clR s3)) from (by rw [HZ7.out]; exact closes_any h (fun he => by have h9 := hfin3 (by rw [HZ7.out]; exact he); rw [HZ7.out] at h9; exact ⟨by have := h9.1; omega, h9.2⟩))))
          have hz8 := rrun_nil hr3
          have HY8 := Lib.hid hz8
          clear hz8
          go_wp2_with (first
           | (go_at_call 85; (with_reducible refine Calls.mono (HC3.out _ HM.out) ?_); rintro e w1 ⟨rfl, h⟩; replace HM := Lib.hid h; clear h)
           | (go_at_call 86; (with_reducible refine Calls.mono (HC4.out _ HM.out) ?_); rintro e w1 ⟨rfl, h⟩; replace HM := Lib.hid h; clear h)
           | (go_at_call 153; (with_reducible refine Calls.mono (HC5.out _ HM.out) ?_); rintro e w1 ⟨rfl, h, -⟩; replace HM := Lib.hid h; clear h)
           | (go_at_call 133; (with_reducible refine Calls.mono (HC6.out _ HM.out) ?_); rintro e w1 ⟨rfl, h⟩; replace HM := Lib.hid h; clear h)
           | (go_at_call 114; (with_reducible refine Calls.mono (HC7.out _ HM.out) ?_); rintro e w1 ⟨rfl, h⟩; replace HM := Lib.hid h; clear h))
          go_end0
          exact ⟨rfl, by rw [HY8.out]; exact HM.out⟩
         | false =>
          have hs5 := run_stay (fun he => (beg_no hb5 he).2) hr4
          have hz6 : s3 = s4 := rrun_nil hs5
          have HZ6 := Lib.hid hz6
          clear hz6
          have HC6 := Lib.hid (fun (w1 : World) (h : RMem W0 A c l all w1 p s4) => (show Calls Try.prog 114 #[.pointer (some ⟨p, 0, none⟩)] w1 (RPost W0 A c l all p (clR s3)) from (by rw [HZ6.out]; exact closes_any h (fun he => by have h9 := hfin3 (by rw [HZ6.out]; exact he); rw [HZ6.out] at h9; exact ⟨by have := h9.1; omega, h9.2⟩))))
          have hz7 := rrun_nil hr3
          have HY7 := Lib.hid hz7
          clear hz7
          go_wp2_with (first
           | (go_at_call 85; (with_reducible refine Calls.mono (HC3.out _ HM.out) ?_); rintro e w1 ⟨rfl, h⟩; replace HM := Lib.hid h; clear h)
           | (go_at_call 86; (with_reducible refine Calls.mono (HC4.out _ HM.out) ?_); rintro e w1 ⟨rfl, h⟩; replace HM := Lib.hid h; clear h)
           | (go_at_call 153; (with_reducible refine Calls.mono (HC5.out _ HM.out) ?_); rintro e w1 ⟨rfl, h, -⟩; replace HM := Lib.hid h; clear h)
           | (go_at_call 114; (with_reducible refine Calls.mono (HC6.out _ HM.out) ?_); rintro e w1 ⟨rfl, h⟩; replace HM := Lib.hid h; clear h))
          go_end0
          exact ⟨rfl, by rw [HY7.out]; exact HM.out⟩
        | false =>
         cases d6 with
         | true =>
          obtain ⟨-, hc206, -⟩ := cd_yes hd6
          obtain ⟨m3, s3, hm3, hfi3, h3, hfin3, hr3⟩ := run_node (k := 20) (T := [.word ⟨#[98, 101, 103, 105, 110]⟩, .rule .r_body, .word ⟨#[101, 110, 100]⟩]) (S := []) (fun _ => by rw [hc206]; rfl) hr
          have HC3 := Lib.hid (fun (w1 : World) (h : RMem W0 A c l all w1 p s) => (show Calls Try.prog 85 #[.pointer (some ⟨p, 0, none⟩), .int .u8 20] w1 (RPost W0 A c l all p (opR 20 s)) from opens_any h 20 (fun he => (hfi3 he).1.1)))
          have hle3 : m3 ≤ n := by have := (Nat.le_refl n); omega
          have hlt3 : m3 + 1 ≤ n := by have := (hfi3 he9).2; have := (Nat.le_refl n); omega
          obtain ⟨s4, h4, hr4⟩ := rrun_app m3 [.word ⟨#[98, 101, 103, 105, 110]⟩] [.rule .r_body, .word ⟨#[101, 110, 100]⟩] (opR 20 s) s3 h3
          have HC4 := Lib.hid (fun (w1 : World) (h : RMem W0 A c l all w1 p (opR 20 s)) => (show Calls Try.prog 86 #[.pointer (some ⟨p, 0, none⟩), .string ⟨#[98, 101, 103, 105, 110]⟩] w1 (RPost W0 A c l all p s4) from tw_new h4 (by decide) (by decide) w1 h))
          obtain ⟨s5, h5, hr5⟩ := rrun_app m3 [.rule .r_body] [.word ⟨#[101, 110, 100]⟩] s4 s3 hr4
          have HC5 := Lib.hid (fun (w1 : World) (h : RMem W0 A c l all w1 p s4) => (show Calls Try.prog 113 #[.pointer (some ⟨p, 0, none⟩)] w1 (RPost W0 A c l all p s5) from C_body (by have := hlt3; omega) m3 (by omega) W0 A c p w1 s4 s5 h h5))
          obtain ⟨s6, h6, hr6⟩ := rrun_app m3 [.word ⟨#[101, 110, 100]⟩] [] s5 s3 hr5
          have HC6 := Lib.hid (fun (w1 : World) (h : RMem W0 A c l all w1 p s5) => (show Calls Try.prog 86 #[.pointer (some ⟨p, 0, none⟩), .string ⟨#[101, 110, 100]⟩] w1 (RPost W0 A c l all p s6) from tw_new h6 (by decide) (by decide) w1 h))
          have hz7 : s3 = s6 := rrun_nil hr6
          have HZ7 := Lib.hid hz7
          clear hz7
          have HC7 := Lib.hid (fun (w1 : World) (h : RMem W0 A c l all w1 p s6) => (show Calls Try.prog 114 #[.pointer (some ⟨p, 0, none⟩)] w1 (RPost W0 A c l all p (clR s3)) from (by rw [HZ7.out]; exact closes_any h (fun he => by have h9 := hfin3 (by rw [HZ7.out]; exact he); rw [HZ7.out] at h9; exact ⟨by have := h9.1; omega, h9.2⟩))))
          have hz8 := rrun_nil hr3
          have HY8 := Lib.hid hz8
          clear hz8
          go_wp2_with (first
           | (go_at_call 85; (with_reducible refine Calls.mono (HC3.out _ HM.out) ?_); rintro e w1 ⟨rfl, h⟩; replace HM := Lib.hid h; clear h)
           | (go_at_call 86; (with_reducible refine Calls.mono (HC4.out _ HM.out) ?_); rintro e w1 ⟨rfl, h⟩; replace HM := Lib.hid h; clear h)
           | (go_at_call 113; (with_reducible refine Calls.mono (HC5.out _ HM.out) ?_); rintro e w1 ⟨rfl, h⟩; replace HM := Lib.hid h; clear h)
           | (go_at_call 86; (with_reducible refine Calls.mono (HC6.out _ HM.out) ?_); rintro e w1 ⟨rfl, h⟩; replace HM := Lib.hid h; clear h)
           | (go_at_call 114; (with_reducible refine Calls.mono (HC7.out _ HM.out) ?_); rintro e w1 ⟨rfl, h⟩; replace HM := Lib.hid h; clear h))
          go_end0
          exact ⟨rfl, by rw [HY8.out]; exact HM.out⟩
         | false =>
          have hz9 : r = wrR l s := run_none (fun he => by have e0 := cd_no (by decide) hd0 he; have e1 := cd_no (by decide) hd1 he; have e2 := cd_no (by decide) hd2 he; have e3 := cd_no (by decide) hd3 he; have e4 := cd_no (by decide) hd4 he; have e5 := cd_no (by decide) hd5 he; have e6 := cd_no (by decide) hd6 he; have e9 := cd_no (by decide) hb1 he; simp [RId.expand, e0, e1, e2, e3, e4, e5, e6, e9]) hr
          have HY9 := Lib.hid hz9
          clear hz9
          have HC91 := Lib.hid (fun (w1 : World) (h : RMem W0 A c l all w1 p s) => (show Calls Try.prog 131 #[.pointer (some ⟨p, 0, none⟩)] w1 (RPost W0 A c l all p (wrR l s)) from rwrong_any h))
          go_wp2_with (first
           | (go_at_call 131; (with_reducible refine Calls.mono (HC91.out _ HM.out) ?_); rintro e w1 ⟨rfl, h⟩; replace HM := Lib.hid h; clear h))
          go_end0
          exact ⟨rfl, by rw [HY9.out]; exact HM.out⟩
  | false =>
   have hz9 : r = wrR l s := run_none (fun he => by have e0 := cd_no (by decide) (word_of (x := ⟨#[115, 107, 105, 112]⟩) (by decide) (by rw [show lowW ⟨#[115, 107, 105, 112]⟩ = true by decide]; exact hb2)) he; have e1 := cd_no (by decide) (word_of (x := ⟨#[105, 102]⟩) (by decide) (by rw [show lowW ⟨#[105, 102]⟩ = true by decide]; exact hb2)) he; have e2 := cd_no (by decide) (word_of (x := ⟨#[119, 104, 105, 108, 101]⟩) (by decide) (by rw [show lowW ⟨#[119, 104, 105, 108, 101]⟩ = true by decide]; exact hb2)) he; have e3 := cd_no (by decide) (word_of (x := ⟨#[102, 111, 114]⟩) (by decide) (by rw [show lowW ⟨#[102, 111, 114]⟩ = true by decide]; exact hb2)) he; have e4 := cd_no (by decide) (word_of (x := ⟨#[114, 101, 112, 101, 97, 116]⟩) (by decide) (by rw [show lowW ⟨#[114, 101, 112, 101, 97, 116]⟩ = true by decide]; exact hb2)) he; have e5 := cd_no (by decide) (word_of (x := ⟨#[114, 101, 116, 117, 114, 110]⟩) (by decide) (by rw [show lowW ⟨#[114, 101, 116, 117, 114, 110]⟩ = true by decide]; exact hb2)) he; have e6 := cd_no (by decide) (word_of (x := ⟨#[98, 101, 103, 105, 110]⟩) (by decide) (by rw [show lowW ⟨#[98, 101, 103, 105, 110]⟩ = true by decide]; exact hb2)) he; have e9 := cd_no (by decide) hb1 he; simp [RId.expand, e0, e1, e2, e3, e4, e5, e6, e9]) hr
   have HY9 := Lib.hid hz9
   clear hz9
   have HC91 := Lib.hid (fun (w1 : World) (h : RMem W0 A c l all w1 p s) => (show Calls Try.prog 131 #[.pointer (some ⟨p, 0, none⟩)] w1 (RPost W0 A c l all p (wrR l s)) from rwrong_any h))
   go_wp2_with (first
    | (go_at_call 108; (with_reducible refine Calls.mono (HC1.out _ HM.out) ?_); rintro e w1 ⟨rfl, h, -⟩; replace HM := Lib.hid h; clear h)
    | (go_at_call 108; (with_reducible refine Calls.mono (HC2.out _ HM.out) ?_); rintro e w1 ⟨rfl, h, -⟩; replace HM := Lib.hid h; clear h)
    | (go_at_call 131; (with_reducible refine Calls.mono (HC91.out _ HM.out) ?_); rintro e w1 ⟨rfl, h⟩; replace HM := Lib.hid h; clear h))
   refine ⟨rfl, .tuple #[], by kernel_rfl, rfl, ?_⟩
   rw [HY9.out]; exact HM.out
end Go.Proofs.Ytmjbpgnjgblnmaa
namespace Go.Proofs.Ytmjbpgnjgblnmaa
open Go.RowKit Go.Proofs.YtmjbpgnjgblnmaaW.PrintWords Go.Proofs.YtmjbpgnjgblnmaaW.PrintLast Go.Proofs.YtmjbpgnjgblnmaaW.PrintMore
set_option maxRecDepth 100000 in
set_option maxHeartbeats 8000000 in
theorem g_program (l : List Tk) (all : Bool) (n : Nat) (D_block : GoodR l all n 89 [.rule .r_block]) {W0 : World} {A : Option Addr} {c p : Nat} {w : World} {s r : RS} (H : RMem W0 A c l all w p s) (hf : s.e = 0 → s.ser + 1 ≤ 1099511627776) (hr : rrun l all n [.word ⟨#[112, 114, 111, 103, 114, 97, 109]⟩, .word ⟨#[64, 110, 97, 109, 101]⟩, .word ⟨#[59]⟩, .rule .r_block, .word ⟨#[46]⟩] (opR 1 s) = some r) :
  Calls Try.prog 69 #[.pointer (some ⟨p, 0, none⟩)] w (RPost W0 A c l all p (if r.e = 0 ∧ r.i < l.length then badR 120 r else r)) := by
 have HM := Lib.hid H
 clear H
 obtain ⟨rr, hrr⟩ : ∃ rr, (if r.e = 0 ∧ r.i < l.length then badR 120 r else r) = rr := ⟨_, rfl⟩
 rw [hrr]
 have HRR := Lib.hid hrr
 clear hrr
 go_enter Try.func69, Try.ntmps69
 have HC1 := Lib.hid (fun (w1 : World) (h : RMem W0 A c l all w1 p s) => (show Calls Try.prog 85 #[.pointer (some ⟨p, 0, none⟩), .int .u8 1] w1 (RPost W0 A c l all p (opR 1 s)) from opens_any h 1 (fun he => by have := hf he; omega)))
 have hr0 := hr
 obtain ⟨s2, h2, hr2⟩ := rrun_app n [.word ⟨#[112, 114, 111, 103, 114, 97, 109]⟩] [.word ⟨#[64, 110, 97, 109, 101]⟩, .word ⟨#[59]⟩, .rule .r_block, .word ⟨#[46]⟩] (opR 1 s) r hr0
 have HC2 := Lib.hid (fun (w1 : World) (h : RMem W0 A c l all w1 p (opR 1 s)) => (show Calls Try.prog 86 #[.pointer (some ⟨p, 0, none⟩), .string ⟨#[112, 114, 111, 103, 114, 97, 109]⟩] w1 (RPost W0 A c l all p s2) from tw_new h2 (by decide) (by decide) w1 h))
 obtain ⟨s3, h3, hr3⟩ := rrun_app n [.word ⟨#[64, 110, 97, 109, 101]⟩] [.word ⟨#[59]⟩, .rule .r_block, .word ⟨#[46]⟩] s2 r hr2
 have HC3 := Lib.hid (fun (w1 : World) (h : RMem W0 A c l all w1 p s2) => (show Calls Try.prog 87 #[.pointer (some ⟨p, 0, none⟩)] w1 (RPost W0 A c l all p s3) from tn_new h3 w1 h))
 obtain ⟨s4, h4, hr4⟩ := rrun_app n [.word ⟨#[59]⟩] [.rule .r_block, .word ⟨#[46]⟩] s3 r hr3
 have HC4 := Lib.hid (fun (w1 : World) (h : RMem W0 A c l all w1 p s3) => (show Calls Try.prog 88 #[.pointer (some ⟨p, 0, none⟩), .string ⟨#[59]⟩] w1 (RPost W0 A c l all p s4) from ts_new h4 (by decide) (by decide) w1 h))
 obtain ⟨s5, h5, hr5⟩ := rrun_app n [.rule .r_block] [.word ⟨#[46]⟩] s4 r hr4
 have HC5 := Lib.hid (fun (w1 : World) (h : RMem W0 A c l all w1 p s4) => (show Calls Try.prog 89 #[.pointer (some ⟨p, 0, none⟩)] w1 (RPost W0 A c l all p s5) from D_block n (Nat.le_refl n) W0 A c p w1 s4 s5 h h5))
 obtain ⟨s6, h6, hr6⟩ := rrun_app n [.word ⟨#[46]⟩] [] s5 r hr5
 have HC6 := Lib.hid (fun (w1 : World) (h : RMem W0 A c l all w1 p s5) => (show Calls Try.prog 88 #[.pointer (some ⟨p, 0, none⟩), .string ⟨#[46]⟩] w1 (RPost W0 A c l all p s6) from ts_new h6 (by decide) (by decide) w1 h))
 have hz7 : r = s6 := rrun_nil hr6
 have HZ := Lib.hid hz7
 clear hz7
 by_cases he : r.e = 0
 ·by_cases hi : r.i < l.length
  ·have g1 : (r.i : Int) < (l.length : Int) := by omega
   have g5 : decide ((r.i : Int) < (l.length : Int)) = true := decide_eq_true g1
   have HW : Hid (rr = badR 120 r) := Lib.hid (HRR.out.symm.trans (if_pos ⟨he, hi⟩))
   have HEE := Lib.hid he
   clear hi he
   go_wp2_with (first
    | (go_at_call 85; (with_reducible refine Calls.mono (HC1.out _ HM.out) ?_); rintro e w1 ⟨rfl, h⟩; replace HM := Lib.hid h; clear h)
    | (go_at_call 86; (with_reducible refine Calls.mono (HC2.out _ HM.out) ?_); rintro e w1 ⟨rfl, h⟩; replace HM := Lib.hid h; clear h)
    | (go_at_call 87; (with_reducible refine Calls.mono (HC3.out _ HM.out) ?_); rintro e w1 ⟨rfl, h⟩; replace HM := Lib.hid h; clear h)
    | (go_at_call 88; (with_reducible refine Calls.mono (HC4.out _ HM.out) ?_); rintro e w1 ⟨rfl, h⟩; replace HM := Lib.hid h; clear h)
    | (go_at_call 89; (with_reducible refine Calls.mono (HC5.out _ HM.out) ?_); rintro e w1 ⟨rfl, h⟩; replace HM := Lib.hid h; clear h)
    | (go_at_call 88; (with_reducible refine Calls.mono (HC6.out _ HM.out) ?_); rintro e w1 ⟨rfl, h⟩; rw [← HZ.out] at h; replace HM := Lib.hid h; obtain ⟨path, ser, vp, vs, vl, hrel, hpsl, HA⟩ := h; have HQ := Lib.hid hpsl; have HE : Hid (r.e = 0 → path = r.path ∧ ser = r.ser) := Lib.hid hrel; obtain ⟨q0, q1, q2, q3, q4, q5, q6, q7⟩ := HA.cell; have HA0 := Lib.hid HA; clear HA hpsl hrel))
   rw [HEE.out] at q7
   go_quiet (fail)
   obtain ⟨w0, hw0⟩ : ∃ V, w1.drewN nq = V := ⟨_, rfl⟩
   rw [hw0]
   replace HA0 := Lib.hid (show RAt W0 A c l all w0 p r.i path ser r.paths r.last r.e vp vs vl by rw [← hw0]; exact HA0.out.moved (below_drewN (Below.refl _ _) _))
   clear hw0 q0 q1 q2 q3 q4 q5 q6 q7
   obtain ⟨q0, q1, q2, q3, q4, q5, q6, q7⟩ := HA0.out.cell
   go_wp2_with (first
    | ((with_reducible refine gate_ (.store 39 (.tmp 33) (.const (.int .i64 120))) rfl ?_); refine wl_cells rfl rfl _ _ _ rfl (g := p) (off := 7) (.int .i64 120) [.int .i64 120] rfl rfl rfl (by kernel_rfl) (fun v hv => by rw [List.mem_singleton.1 hv]; rfl) HA0.out.box (by simp) ?_; intro V1 hV; have hA := HA0.out.upd 7 (.int .i64 120) (by decide) (i' := r.i) (ser' := ser) (e' := 120) rfl HA0.out.ile (Nat.le_refl _); rw [← hV] at hA; have HA1 := Lib.hid hA; clear hA hV))
   go_end0
   exact ⟨rfl, by rw [HW.out]; exact ⟨_, _, _, _, _, fun h => absurd h (show ¬ ((120 : Int) = 0) by decide), HQ.out, HA1.out⟩⟩
  ·have g1 : decide ((r.i : Int) < (l.length : Int)) = false := decide_eq_false (by omega)
   have g2 : ¬ (r.i : Int) < (l.length : Int) := by omega
   have g3 : decide (r.i < l.length) = false := decide_eq_false (by omega)
   have HW : Hid (rr = r) := Lib.hid (HRR.out.symm.trans (if_neg (fun h => hi h.2)))
   have HEE := Lib.hid he
   clear hi he
   go_wp2_with (first
    | (go_at_call 85; (with_reducible refine Calls.mono (HC1.out _ HM.out) ?_); rintro e w1 ⟨rfl, h⟩; replace HM := Lib.hid h; clear h)
    | (go_at_call 86; (with_reducible refine Calls.mono (HC2.out _ HM.out) ?_); rintro e w1 ⟨rfl, h⟩; replace HM := Lib.hid h; clear h)
    | (go_at_call 87; (with_reducible refine Calls.mono (HC3.out _ HM.out) ?_); rintro e w1 ⟨rfl, h⟩; replace HM := Lib.hid h; clear h)
    | (go_at_call 88; (with_reducible refine Calls.mono (HC4.out _ HM.out) ?_); rintro e w1 ⟨rfl, h⟩; replace HM := Lib.hid h; clear h)
    | (go_at_call 89; (with_reducible refine Calls.mono (HC5.out _ HM.out) ?_); rintro e w1 ⟨rfl, h⟩; replace HM := Lib.hid h; clear h)
    | (go_at_call 88; (with_reducible refine Calls.mono (HC6.out _ HM.out) ?_); rintro e w1 ⟨rfl, h⟩; rw [← HZ.out] at h; replace HM := Lib.hid h; obtain ⟨path, ser, vp, vs, vl, hrel, hpsl, HA⟩ := h; have HQ := Lib.hid hpsl; have HE : Hid (r.e = 0 → path = r.path ∧ ser = r.ser) := Lib.hid hrel; obtain ⟨q0, q1, q2, q3, q4, q5, q6, q7⟩ := HA.cell; have HA0 := Lib.hid HA; clear HA hpsl hrel))
   rw [HEE.out] at q7
   go_quiet (fail)
   go_wp2
   go_end0
   exact ⟨rfl, by rw [HW.out]; exact RMem.moved ⟨_, _, _, _, _, HE.out, HQ.out, HA0.out⟩ (below_drewN (Below.refl _ _) _)⟩
 ·have g1 : (r.e == 0) = false := by rw [beq_eq_false_iff_ne]; exact he
  have HW : Hid (rr = r) := Lib.hid (HRR.out.symm.trans (if_neg (fun h => he h.1)))
  go_wp2_with (first
   | (go_at_call 85; (with_reducible refine Calls.mono (HC1.out _ HM.out) ?_); rintro e w1 ⟨rfl, h⟩; replace HM := Lib.hid h; clear h)
   | (go_at_call 86; (with_reducible refine Calls.mono (HC2.out _ HM.out) ?_); rintro e w1 ⟨rfl, h⟩; replace HM := Lib.hid h; clear h)
   | (go_at_call 87; (with_reducible refine Calls.mono (HC3.out _ HM.out) ?_); rintro e w1 ⟨rfl, h⟩; replace HM := Lib.hid h; clear h)
   | (go_at_call 88; (with_reducible refine Calls.mono (HC4.out _ HM.out) ?_); rintro e w1 ⟨rfl, h⟩; replace HM := Lib.hid h; clear h)
   | (go_at_call 89; (with_reducible refine Calls.mono (HC5.out _ HM.out) ?_); rintro e w1 ⟨rfl, h⟩; replace HM := Lib.hid h; clear h)
   | (go_at_call 88; (with_reducible refine Calls.mono (HC6.out _ HM.out) ?_); rintro e w1 ⟨rfl, h⟩; rw [← HZ.out] at h; replace HM := Lib.hid h; obtain ⟨path, ser, vp, vs, vl, hrel, hpsl, HA⟩ := h; have HQ := Lib.hid hpsl; have HE : Hid (r.e = 0 → path = r.path ∧ ser = r.ser) := Lib.hid hrel; obtain ⟨q0, q1, q2, q3, q4, q5, q6, q7⟩ := HA.cell; have HA0 := Lib.hid HA; clear HA hpsl hrel))
  go_quiet (fail)
  go_wp2
  go_end0
  exact ⟨rfl, by rw [HW.out]; exact RMem.moved ⟨_, _, _, _, _, HE.out, HQ.out, HA0.out⟩ (below_drewN (Below.refl _ _) _)⟩
end Go.Proofs.Ytmjbpgnjgblnmaa
namespace Go.Proofs.Ytmjbpgnjgblnmaa
open Go.RowKit Go.Proofs.YtmjbpgnjgblnmaaW.PrintWords Go.Proofs.YtmjbpgnjgblnmaaW.PrintLast Go.Proofs.YtmjbpgnjgblnmaaW.PrintMore
structure FunAt (l : List Tk) (all : Bool) (n : Nat) : Prop where
 object : GoodAt l all n 151 [.rule .r_object]
 factor : GoodAt l all n 171 [.rule .r_factor]
 term : GoodAt l all n 166 [.rule .r_term]
 sum : GoodAt l all n 161 [.rule .r_sum]
 relation : GoodAt l all n 150 [.rule .r_rel]
 expr : GoodAt l all n 133 [.rule .r_expr]
 kindOf : GoodAt l all n 135 [.rule .r_kind]
 statement : GoodAt l all n 136 [.rule .r_statement]
 body : GoodAt l all n 113 [.rule .r_body]
 block : GoodAt l all n 89 [.rule .r_block]
theorem rule_node {l : List Tk} {all : Bool} {n : Nat} {F : FuncId} {R : RId} {k : Nat} {T : List WT} (hx : ∀ c, R.expand c = some [.opn k T]) (hN : ∀ m, m ≤ n - 1 → NodeAt l all m F [] k T) : GoodAt l all n F [.rule R] := by
 intro W0 A c p w s r H hr
 obtain ⟨m, s1, hm, hf, h1, hfin, h2⟩ := run_node (fun _ => hx _) hr
 rw [rrun_nil h2]
 exact hN m hm W0 A c p w s s1 H (fun he => (hf he).1) h1 hfin
theorem all_fun (l : List Tk) (all : Bool) : ∀ n, FunAt l all n := by
 intro n
 induction n using Nat.strongRecOn with
 | ind n IH =>
  have Inames : ∀ m, m < n → GoodAt l all m 132 [.word ⟨#[64, 110, 97, 109, 101]⟩, .rule .r_names, .word ⟨#[58]⟩, .rule .r_kind] := fun m hm => g_names l all m (fun k hk => (IH k (by omega)).kindOf)
  have Irow1 : ∀ m, m < n → NodeAt l all m 134 [.int .u8 6, .int .u8 7, .string ⟨#[41]⟩] 6 [.word ⟨#[40]⟩, .rule .r_param, .rule .r_moreParams, .word ⟨#[41]⟩] := fun m hm => g_row1 l all m (fun k hk => Inames k (by omega))
  have Irow2 : ∀ m, m < n → NodeAt l all m 134 [.int .u8 10, .int .u8 11, .string ⟨#[101, 110, 100]⟩] 10 [.word ⟨#[114, 101, 99, 111, 114, 100]⟩, .rule .r_member, .rule .r_members, .word ⟨#[101, 110, 100]⟩] := fun m hm => g_row2 l all m (fun k hk => Inames k (by omega))
  have Ivariable : ∀ m, m < n → NodeAt l all m 110 [] 3 [.word ⟨#[118, 97, 114]⟩, .word ⟨#[64, 110, 97, 109, 101]⟩, .rule .r_names, .word ⟨#[58]⟩, .rule .r_kind, .word ⟨#[59]⟩] := fun m hm => g_variable l all m (fun k hk => Inames k (by omega))
  have Iconstant : ∀ m, m < n → NodeAt l all m 111 [] 4 [.word ⟨#[99, 111, 110, 115, 116]⟩, .word ⟨#[64, 110, 97, 109, 101]⟩, .word ⟨#[61]⟩, .rule .r_expr, .word ⟨#[59]⟩] := fun m hm => g_constant l all m (fun k hk => (IH k (by omega)).expr)
  have Iproc : ∀ m, m < n → NodeAt l all m 112 [] 5 [.word ⟨#[112, 114, 111, 99]⟩, .word ⟨#[64, 110, 97, 109, 101]⟩, .rule .r_params, .rule .r_typed, .word ⟨#[59]⟩, .rule .r_block, .word ⟨#[59]⟩] := fun m hm => g_proc l all m (fun k hk => (IH k (by omega)).kindOf) (fun k hk => (IH k (by omega)).block) (fun h k hk => Irow1 k (by omega))
  have IlistI : ∀ m, m < n → NodeAt l all m 162 [.int .u8 29, .string ⟨#[91]⟩, .string ⟨#[93]⟩] 29 [.word ⟨#[91]⟩, .rule .r_expr, .rule .r_exprs, .word ⟨#[93]⟩] := fun m hm => g_listI l all m (fun k hk => (IH k (by omega)).expr)
  have IlistA : ∀ m, m < n → NodeAt l all m 162 [.int .u8 31, .string ⟨#[40]⟩, .string ⟨#[41]⟩] 31 [.word ⟨#[40]⟩, .rule .r_args, .word ⟨#[41]⟩] := fun m hm => g_listA l all m (fun k hk => (IH k (by omega)).expr)
  have Ibranch : ∀ m, m < n → NodeAt l all m 152 [] 15 [.word ⟨#[105, 102]⟩, .rule .r_expr, .word ⟨#[116, 104, 101, 110]⟩, .rule .r_body, .rule .r_elses, .word ⟨#[101, 110, 100]⟩] := fun m hm => g_branch l all m (fun k hk => (IH k (by omega)).expr) (fun k hk => (IH k (by omega)).body)
  have c_object : GoodAt l all n 151 [.rule .r_object] := rule_node (fun _ => rfl) (fun m hm => g_object l all m (fun h k hk => IlistI k (by omega)) (fun h k hk => IlistA k (by omega)))
  have c_factor : GoodAt l all n 171 [.rule .r_factor] := g_factor l all n (fun h k hk => (IH k (by omega)).factor) (fun h k hk => (IH k (by omega)).expr) (fun k hk => by rcases Nat.lt_or_ge k n with h | h; exact (IH k h).object; obtain rfl : k = n := (by omega); exact c_object)
  have c_term : GoodAt l all n 166 [.rule .r_term] := rule_node (fun _ => rfl) (fun m hm => g_term l all m (fun k hk => by rcases Nat.lt_or_ge k n with h | h; exact (IH k h).factor; obtain rfl : k = n := (by omega); exact c_factor))
  have c_sum : GoodAt l all n 161 [.rule .r_sum] := rule_node (fun _ => rfl) (fun m hm => g_sum l all m (fun k hk => by rcases Nat.lt_or_ge k n with h | h; exact (IH k h).term; obtain rfl : k = n := (by omega); exact c_term))
  have c_relation : GoodAt l all n 150 [.rule .r_rel] := rule_node (fun _ => rfl) (fun m hm => g_relation l all m (fun k hk => by rcases Nat.lt_or_ge k n with h | h; exact (IH k h).sum; obtain rfl : k = n := (by omega); exact c_sum))
  have c_expr : GoodAt l all n 133 [.rule .r_expr] := rule_node (fun _ => rfl) (fun m hm => g_expr l all m (fun k hk => by rcases Nat.lt_or_ge k n with h | h; exact (IH k h).relation; obtain rfl : k = n := (by omega); exact c_relation))
  have c_kindOf : GoodAt l all n 135 [.rule .r_kind] := g_kindOf l all n (fun h k hk => (IH k (by omega)).expr) (fun h k hk => (IH k (by omega)).kindOf) (fun h k hk => Irow2 k (by omega))
  have c_statement : GoodAt l all n 136 [.rule .r_statement] := g_statement l all n (fun h k hk => (IH k (by omega)).object) (fun h k hk => (IH k (by omega)).expr) (fun h k hk => (IH k (by omega)).body) (fun h k hk => Ibranch k (by omega))
  have c_body : GoodAt l all n 113 [.rule .r_body] := rule_node (fun _ => rfl) (fun m hm => g_body l all m (fun k hk => by rcases Nat.lt_or_ge k n with h | h; exact (IH k h).statement; obtain rfl : k = n := (by omega); exact c_statement))
  have c_block : GoodAt l all n 89 [.rule .r_block] := rule_node (fun _ => rfl) (fun m hm => g_block l all m (fun k hk => by rcases Nat.lt_or_ge k n with h | h; exact (IH k h).body; obtain rfl : k = n := (by omega); exact c_body) (fun h k hk => Ivariable k (by omega)) (fun h k hk => Iconstant k (by omega)) (fun h k hk => Iproc k (by omega)))
  exact ⟨c_object, c_factor, c_term, c_sum, c_relation, c_expr, c_kindOf, c_statement, c_body, c_block⟩
def ReadPost (A : Option Addr) (c : Nat) (l : List Tk) (all : Bool) (w : World) (r : RS) (e : Ending) (w' : World) : Prop := e = .returned (.pointer (some ⟨w.heap.size, 0, none⟩)) ∧ RMem w A c l all w' w.heap.size r
set_option maxRecDepth 100000 in
set_option maxHeartbeats 4000000 in
theorem read_any (A : Option Addr) (c : Nat) (l : List Tk) (all : Bool) (w : World) (hC : Kd.C kTk w A l.length l) (hl : l.length ≤ 4194304) (n : Nat) (r : RS) (hr : rrun l all n [.word ⟨#[112, 114, 111, 103, 114, 97, 109]⟩, .word ⟨#[64, 110, 97, 109, 101]⟩, .word ⟨#[59]⟩, .rule .r_block, .word ⟨#[46]⟩] (opR 1 ⟨0, [], 0, [], [], 0⟩) = some r) (rr : RS) (hrr : (if r.e = 0 ∧ r.i < l.length then badR 120 r else r) = rr) :
  Calls Try.prog 53 #[.slice A l.length c, .bool all] w (ReadPost A c l all w rr) := by
 have hM : ∀ V, V = w.alloc (.cells #[.slice A l.length c, .int .i64 0, .slice none 0 0, .int .i64 0, .bool all, .slice none 0 0, .slice none 0 0, .int .i64 0] 99) → RMem w A c l all V w.heap.size ⟨0, [], 0, [], [], 0⟩ := by
  rintro _ rfl
  refine ⟨[], 0, _, _, _, fun _ => ⟨rfl, rfl⟩, Nat.le_refl _, ⟨World.alloc_heap_new _ _, own_nil _ _ _ _, ⟨⟨[], own_nil _ _ _ _, fun k v q h => by cases h⟩⟩, ⟨own_nil _ _ _ _, fun g h => by cases h⟩, (Below.refl _ w).alloc (Nat.le_refl _) _, hC, Nat.le_refl _, hl, Nat.zero_le _, Nat.le_refl _⟩⟩
 have HP := Lib.hid (fun (V : World) (h : RMem w A c l all V w.heap.size ⟨0, [], 0, [], [], 0⟩) => g_program l all n (fun k _ => (all_fun l all k).block) h (fun _ => (by decide : (0 : Nat) + 1 ≤ 1099511627776)) hr)
 rw [hrr] at HP
 clear hrr
 have HMM := Lib.hid hM
 clear hM hr
 go_enter Try.func53, Try.ntmps53
 go_upto_region 2 with (fail)
 obtain ⟨V, hV⟩ : ∃ V, w.alloc (.cells #[.slice A l.length c, .int .i64 0, .slice none 0 0, .int .i64 0, .bool all, .slice none 0 0, .slice none 0 0, .int .i64 0] 99) = V := ⟨_, rfl⟩
 rw [hV]
 have HM := Lib.hid (HMM.out V hV.symm)
 clear hV
 go_wp2_with (first
  | (go_at_call 69; (with_reducible refine Calls.mono (HP.out _ HM.out) ?_); rintro e w1 ⟨rfl, h⟩; replace HM := Lib.hid h; clear h))
 go_ret
 exact ⟨rfl, HM.out⟩
end Go.Proofs.Ytmjbpgnjgblnmaa
namespace Go.Proofs.Ytmjbpgnjgblnmaa
open Go.RowKit Go.Proofs.YtmjbpgnjgblnmaaW.PrintWords Go.Proofs.YtmjbpgnjgblnmaaW.PrintLast Go.Proofs.YtmjbpgnjgblnmaaW.PrintMore
abbrev StT := PParsePuts.S107
abbrev kSt := PParsePuts.k107
def toS (x : Nat × Nat) : StT := ⟨x.1, x.2⟩
def clE (x : Nat × Nat) : Ev := evOf (3, x.1)
def opE (x : Nat × Nat) : Ev := evOf (1, x.1)
theorem rd_S {a : List (Nat × Nat)} {i : Nat} {x : Nat × Nat} (h : a[i]? = some x) : PParsePuts.rd_T107 (a.map toS) i = toS x := by
 simp [PParsePuts.rd_T107, List.getD_eq_getElem?_getD, h]
theorem w64 {i : Nat} (h : i < 4611686018427387904) : wrap64 ((i : Int) + 1) = ((i + 1 : Nat) : Int) := by unfold wrap64; omega
theorem w64s {i : Nat} (h : i < 4611686018427387904) : wrap64 ((i : Int) - 1) = (i : Int) - 1 := by unfold wrap64; omega
theorem btw_l2 (b : List (Nat × Nat)) (hb : b.length < 1099511627776) : ∀ (n i : Nat) (acc : List Ev), i + n = b.length → acc.length + n < 2199023255552 → PParsePuts.colophonref12_Between.l2 (n + 1) (b.map toS) acc i = some (acc ++ (b.drop i).map opE)
 | 0, i, acc, h, hl => by
  rw [PParsePuts.colophonref12_Between.l2, if_neg (by rw [List.length_map]; omega), List.drop_of_length_le (by omega)]
  simp
 | n + 1, i, acc, h, hl => by
  obtain ⟨x, hx⟩ : ∃ x, b[i]? = some x := ⟨_, List.getElem?_eq_getElem (by omega)⟩
  rw [PParsePuts.colophonref12_Between.l2, if_pos (by rw [List.length_map]; omega), if_pos (by omega), if_pos (by omega), rd_S hx, w64 (by omega)]
  rw [btw_l2 b hb n (i + 1) _ (by omega) (by rw [List.length_append, List.length_singleton]; omega)]
  have hd : b.drop i = x :: b.drop (i + 1) := by
   rw [List.drop_eq_getElem_cons (by omega)]
   have := (List.getElem?_eq_some_iff.1 hx).2
   rw [this]
  rw [hd, List.map_cons, List.append_assoc]
  rfl
theorem btw_l1 (a b : List (Nat × Nat)) (n m : Nat) (ha : a.length < 1099511627776) : ∀ (d : Nat) (acc : List Ev), n + d ≤ a.length → acc.length + d < 2199023255552 →
  PParsePuts.colophonref12_Between.l1 (d + (m + 1)) (a.map toS) (b.map toS) n acc ((n + d : Nat) - 1 : Int) = PParsePuts.colophonref12_Between.l2 m (b.map toS) (acc ++ (((a.drop n).take d).reverse).map clE) n
 | 0, acc, h, hl => by
  rw [Nat.zero_add, PParsePuts.colophonref12_Between.l1, if_neg (by omega)]
  simp
 | d + 1, acc, h, hl => by
  obtain ⟨x, hx⟩ : ∃ x, a[n + d]? = some x := ⟨_, List.getElem?_eq_getElem (by omega)⟩
  rw [show d + 1 + (m + 1) = (d + (m + 1)) + 1 by omega, show (((n + (d + 1) : Nat) : Int) - 1) = ((n + d : Nat) : Int) by omega]
  rw [PParsePuts.colophonref12_Between.l1, if_pos (by omega), if_pos (by omega), if_pos (by rw [List.length_map]; omega), if_pos (by omega), rd_S hx, w64s (by omega)]
  rw [btw_l1 a b n m ha d _ (by omega) (by rw [List.length_append, List.length_singleton]; omega)]
  have ht : (a.drop n).take (d + 1) = (a.drop n).take d ++ [x] := by
   rw [List.take_add_one, List.getElem?_drop, hx]; rfl
  rw [ht, List.reverse_append, List.reverse_singleton, List.map_append, ← List.append_assoc]
  rfl
theorem btw_l0 (a b : List (Nat × Nat)) (m : Nat) (ha : a.length < 1099511627776) : ∀ (c i : Nat), common (a.drop i) (b.drop i) = c → PParsePuts.colophonref12_Between.l0 (c + (m + 1)) (a.map toS) (b.map toS) i = PParsePuts.colophonref12_Between.j1 m (a.map toS) (b.map toS) ((i + c : Nat) : Int)
 | c, i, h => by
  by_cases hi : i < a.length
  ·by_cases hj : i < b.length
   ·obtain ⟨x, hx⟩ : ∃ x, a[i]? = some x := ⟨_, List.getElem?_eq_getElem hi⟩
    obtain ⟨y, hy⟩ : ∃ y, b[i]? = some y := ⟨_, List.getElem?_eq_getElem hj⟩
    have hd : a.drop i = x :: a.drop (i + 1) := by
     rw [List.drop_eq_getElem_cons hi]
     have := (List.getElem?_eq_some_iff.1 hx).2
     rw [this]
    have he : b.drop i = y :: b.drop (i + 1) := by
     rw [List.drop_eq_getElem_cons hj]
     have := (List.getElem?_eq_some_iff.1 hy).2
     rw [this]
    rw [hd, he, common] at h
    by_cases hxy : x = y
    ·rw [if_pos hxy] at h
     obtain ⟨c, rfl⟩ : ∃ c', c = c' + 1 := ⟨c - 1, by omega⟩
     rw [show c + 1 + (m + 1) = (c + (m + 1)) + 1 by omega, PParsePuts.colophonref12_Between.l0, if_pos (by rw [List.length_map]; omega), if_pos (by rw [List.length_map]; omega), if_pos (by omega), rd_S hx, rd_S hy, if_pos (by rw [hxy]; simp), w64 (by omega)]
     rw [btw_l0 a b m ha c (i + 1) (by omega), show i + 1 + c = i + (c + 1) by omega]
    ·rw [if_neg hxy] at h
     subst h
     rw [Nat.zero_add, PParsePuts.colophonref12_Between.l0, if_pos (by rw [List.length_map]; omega), if_pos (by rw [List.length_map]; omega), if_pos (by omega), rd_S hx, rd_S hy, if_neg]
     ·rfl
     ·intro hh
      simp only [toS, Bool.and_eq_true, beq_iff_eq] at hh
      exact hxy (Prod.ext (by omega) (by omega))
   ·rw [List.drop_of_length_le (l := b) (by omega)] at h
    have h0 : c = 0 := by
     rw [← h]; cases a.drop i <;> rfl
    subst h0
    rw [Nat.zero_add, PParsePuts.colophonref12_Between.l0, if_pos (by rw [List.length_map]; omega), if_neg (by rw [List.length_map]; omega)]
    rfl
  ·rw [List.drop_of_length_le (l := a) (by omega)] at h
   have h0 : c = 0 := by rw [← h]; rfl
   subst h0
   rw [Nat.zero_add, PParsePuts.colophonref12_Between.l0, if_neg (by rw [List.length_map]; omega)]
   rfl
theorem common_le : ∀ a b, common a b ≤ a.length ∧ common a b ≤ b.length
 | [], b => by simp [common]
 | x :: a, [] => by simp [common]
 | x :: a, y :: b => by
  rw [common]
  have := common_le a b
  split
  ·simp only [List.length_cons]; omega
  ·omega
theorem btw_f (a b : List (Nat × Nat)) (ha : a.length < 1099511627776) (hb : b.length < 1099511627776) : ∃ k, PParsePuts.colophonref12_Between.f k (a.map toS) (b.map toS) = some (betw a b) := by
 obtain ⟨c1, c2⟩ := common_le a b
 obtain ⟨n, hn⟩ : ∃ n, common a b = n := ⟨_, rfl⟩
 rw [hn] at c1 c2
 refine ⟨n + ((a.length - n + ((b.length - n + 1) + 1) + 1) + 1), ?_⟩
 unfold PParsePuts.colophonref12_Between.f
 have h0 := btw_l0 a b (a.length - n + ((b.length - n + 1) + 1) + 1) ha n 0 (by simpa using hn)
 rw [Nat.zero_add] at h0
 rw [show (0 : Int) = ((0 : Nat) : Int) from rfl, h0, PParsePuts.colophonref12_Between.j1]
 have h1 := btw_l1 a b n (b.length - n + 1) ha (a.length - n) [] (by omega) (by simp; omega)
 have hw : wrap64 (((a.map toS).length : Int) - 1) = ((n + (a.length - n) : Nat) : Int) - 1 := by
  rw [List.length_map, w64s (by omega)]; omega
 rw [hw, h1, btw_l2 b hb (b.length - n) n _ (by omega) (by simp; omega)]
 unfold betw
 rw [hn, List.take_of_length_le (by rw [List.length_drop]; omega)]
 rfl
theorem reps_st (V : World) (q : List (Nat × Nat)) : Reps (kSt.K V) 2 (q.map toS) (q.flatMap stCells) := by
 induction q with
 | nil => exact Reps.none _ _
 | cons x l ih =>
  have := Kd.reps_append ((Reps.none (kSt.K V) 2).snoc (PParsePuts.k107_mk V (toS x)) rfl) ih
  rw [List.nil_append, List.nil_append, List.singleton_append] at this
  exact this
theorem st_C {V : World} {base : Nat} {v : Value} {q : List (Nat × Nat)} (h : stRow V base v q) : ∃ A c, v = .slice A q.length c ∧ q.length ≤ c ∧ Kd.C kSt V A (q.map toS).length (q.map toS) := by
 obtain ⟨A, c, hv, hr⟩ := own_reads_row (size := 2) h (reps_st V q) (by rw [List.length_map])
 obtain ⟨A2, c2, hv2, hc⟩ := row_slice h
 subst hv
 injection hv2 with h1 h2 h3
 subst h3
 exact ⟨A, _, rfl, hc, by rw [List.length_map]; exact hr⟩
theorem reps_flat {α : Type} {R : α → List Value → Prop} {size : Nat} {f : α → List Value} (hR : ∀ p c, R p c → c = f p) : ∀ (ps : List α) (cs : List Value), Reps R size ps cs → cs = ps.flatMap f
 | [], cs, h => by
  have := h.1
  simpa using this
 | p :: ps, cs, h => by
  have h0 := hR _ _ (h.2 0 p rfl)
  have hl := h.1
  rw [List.length_cons, Nat.add_mul, Nat.one_mul] at hl
  have hr : Reps R size ps (cs.drop size) := by
   refine ⟨by rw [List.length_drop]; omega, fun j q hq => ?_⟩
   have := h.2 (j + 1) q hq
   rw [List.drop_drop, show size + j * size = (j + 1) * size by rw [Nat.add_mul]; omega]
   exact this
  have h1 := reps_flat hR ps _ hr
  rw [Nat.zero_mul, List.drop_zero] at h0
  rw [List.flatMap_cons, ← h0, ← h1, List.take_append_drop]
theorem R_ev {w : World} {base : Nat} {ok : Nat → Prop} {v : Value} {l : List Ev} (h : Kd.R kEv 46 w base ok v l) : w.ownsRow base 46 8 v l.length (l.flatMap evCells) := by
 obtain ⟨h0, inner, ho, hr⟩ := h
 have := reps_flat (f := evCells) (fun p c hp => PParsePuts.k46_openM hp) l inner hr
 rw [this] at ho
 exact ho
theorem between_any {w : World} {b1 b2 : Nat} {va vb : Value} {a b : List (Nat × Nat)} (ha : stRow w b1 va a) (hb : stRow w b2 vb b) (hla : a.length < 1099511627776) (hlb : b.length < 1099511627776) :
  Calls Try.prog 54 #[va, vb] w fun e w' => ∃ v, e = .returned v ∧ w'.ownsRow w.heap.size 46 8 v (betw a b).length ((betw a b).flatMap evCells) ∧ Below w.heap.size w w' := by
 obtain ⟨A, c, rfl, hc, hC⟩ := st_C ha
 obtain ⟨A2, c2, rfl, hc2, hC2⟩ := st_C hb
 obtain ⟨k, hk⟩ := btw_f a b hla hlb
 have := PParsePuts.colophonref12_Between.calls k A c (a.map toS) A2 c2 (b.map toS) _ w hC (by rw [List.length_map]; exact hc) hC2 (by rw [List.length_map]; exact hc2) hk
 rw [List.length_map, List.length_map] at this
 refine this.mono ?_
 rintro e w' ⟨v, rfl, h1, h2⟩
 exact ⟨v, rfl, R_ev h1, h2⟩
end Go.Proofs.Ytmjbpgnjgblnmaa
namespace Go.Proofs.Ytmjbpgnjgblnmaa
open Go.RowKit Go.Proofs.YtmjbpgnjgblnmaaW.PrintWords Go.Proofs.YtmjbpgnjgblnmaaW.PrintLast Go.Proofs.YtmjbpgnjgblnmaaW.PrintMore
def awkL : List Tk := [⟨2, ⟨#[112, 114, 111, 103, 114, 97, 109]⟩, ⟨0, 0, 0⟩, 0⟩, ⟨1, ⟨#[112]⟩, ⟨0, 0, 0⟩, 0⟩, ⟨6, ⟨#[59]⟩, ⟨0, 0, 0⟩, 0⟩, ⟨2, ⟨#[98, 101, 103, 105, 110]⟩, ⟨0, 0, 0⟩, 0⟩, ⟨2, ⟨#[115, 107, 105, 112]⟩, ⟨0, 0, 0⟩, 0⟩, ⟨2, ⟨#[101, 110, 100]⟩, ⟨0, 0, 0⟩, 0⟩, ⟨6, ⟨#[46]⟩, ⟨0, 0, 0⟩, 0⟩]
def tkCells (t : Tk) : List Value := [.int .u8 t.f0, .string t.f1, .int .i64 t.f2.f0, .int .i64 t.f2.f1, .int .i64 t.f2.f2, .int .i64 t.f3]
def awkS : Nat → Par × Nat
 | 0 => (newPar, 0)
 | i + 1 => ((put (awkS i).1 (PParsePuts.rd_T35 awkL i)).2.2, (awkS i).2 + (put (awkS i).1 (PParsePuts.rd_T35 awkL i)).1.length)
def awkOk (i : Nat) : Bool := ((put (awkS i).1 (PParsePuts.rd_T35 awkL i)).2.1 == 0) && decide ((awkS i).1.todo.length ≤ 100) && decide (-100 ≤ (awkS i).1.depth) && decide ((awkS i).1.depth ≤ 100) && decide ((awkS i).2 ≤ 100) && decide ((put (awkS i).1 (PParsePuts.rd_T35 awkL i)).1.length ≤ 100)
theorem awk_all : (List.range 8).all (fun i => (i == 7) || awkOk i) = true := by kernel_rfl
theorem awk_end : ((awkS 7).2 == 14 && (awkS 7).1.depth == 1 && (awkS 7).1.todo.length == 1 && !(awkS 7).1.closed && (awkS 7).1.wrong == 0) = true := by kernel_rfl
theorem awk_sign : ((put newPar ⟨6, ⟨#[59]⟩, ⟨0, 0, 0⟩, 0⟩).2.1 == 120) = true := by kernel_rfl
end Go.Proofs.Ytmjbpgnjgblnmaa
namespace Go.Proofs.Ytmjbpgnjgblnmaa
open Go.RowKit Go.Proofs.YtmjbpgnjgblnmaaW.PrintWords Go.Proofs.YtmjbpgnjgblnmaaW.PrintLast Go.Proofs.YtmjbpgnjgblnmaaW.PrintMore
theorem key_any (s : ByteArray) (w : World) : Calls Try.prog 22 #[.string s] w fun e w' => e = .returned (.agg #[.int .u8 2, .string s, .int .i64 0, .int .i64 0, .int .i64 0, .int .i64 0]) ∧ Below w.heap.size w w' := PParsePuts.colophonlaw12_key.calls s 2 s 0 0 0 0 w rfl
theorem sign_any (s : ByteArray) (w : World) : Calls Try.prog 13 #[.string s] w fun e w' => e = .returned (.agg #[.int .u8 6, .string s, .int .i64 0, .int .i64 0, .int .i64 0, .int .i64 0]) ∧ Below w.heap.size w w' := PParsePuts.colophonlaw12_sign.calls s 6 s 0 0 0 0 w rfl
theorem name_any (s : ByteArray) (w : World) : Calls Try.prog 23 #[.string s] w fun e w' => e = .returned (.agg #[.int .u8 1, .string s, .int .i64 0, .int .i64 0, .int .i64 0, .int .i64 0]) ∧ Below w.heap.size w w' := PParsePuts.colophonlaw12_name.calls s 1 s 0 0 0 0 w rfl
theorem PStep.out {B p : Nat} {w wr w2 : World} {s : List WT} {es : List Ev} {d : Int} {b : Bool} {wc : Int} {cl : Bool} {vt ve vt2 ve2 : Value} (hs : PStep p vt ve wr vt2 ve2 w2) (H : PAt wr p s es d b wc cl vt ve) (hb : Below B w wr) (hB : B ≤ w.heap.size) (hp : B ≤ p) : Below B w w2 := by
 refine ⟨hs.os.trans hb.os, hs.tape.trans hb.tape, hs.output.trans hb.output, Nat.le_trans hb.size hs.size, fun q hq => ?_⟩
 have hsz := hb.size
 refine (hs.block q (by omega) (by omega) (fun e => ?_) (fun e => ?_)).trans (hb.block q hq)
 ·have := own_base H.todo q e.symm
  omega
 ·have := own_base H.evs q e.symm
  omega
theorem awk_ends : ∀ i, Ends (awkS i).1.todo
 | 0 => fun k hk => by
  simp only [awkS, newPar, List.mem_cons, List.not_mem_nil, or_false, reduceCtorEq, false_or, WT.fin.injEq] at hk
  omega
 | i + 1 => put_ends _ (awk_ends i)
theorem awk_at {i : Nat} (hi : i < 7) : (put (awkS i).1 (PParsePuts.rd_T35 awkL i)).2.1 = 0 ∧ (awkS i).1.todo.length ≤ 100 ∧ -100 ≤ (awkS i).1.depth ∧ (awkS i).1.depth ≤ 100 ∧ (awkS i).2 ≤ 100 ∧ (put (awkS i).1 (PParsePuts.rd_T35 awkL i)).1.length ≤ 100 := by
 have h := List.all_eq_true.1 awk_all i (List.mem_range.2 (by omega))
 have h7 : (i == 7) = false := by rw [beq_eq_false_iff_ne]; omega
 rw [h7, Bool.false_or] at h
 simp only [awkOk, Bool.and_eq_true, beq_iff_eq, decide_eq_true_eq] at h
 exact ⟨h.1.1.1.1.1, h.1.1.1.1.2, h.1.1.1.2, h.1.1.2, h.1.2, h.2⟩
theorem wrap_ij {n m i : Nat} (hn : n ≤ 100) (hm : m ≤ 100) (hi : i < 7) : (i : Int) < 7 ∧ (0 : Int) ≤ (i : Int) ∧ wrap64 ((i : Int) + 1) = (i : Int) + 1 ∧ IntKind.i64.wrap ((i : Int) + 1) = (i : Int) + 1 ∧ wrap64 ((n : Int) + (m : Int)) = (n : Int) + (m : Int) ∧ IntKind.i64.wrap ((n : Int) + (m : Int)) = (n : Int) + (m : Int) := by
 simp only [IntKind.wrap_i64]
 unfold wrap64
 omega
theorem par_bounds {P : Par} (h2 : P.todo.length ≤ 100) (h3 : -100 ≤ P.depth) (h4 : P.depth ≤ 100) : P.todo.length ≤ 2147483648 ∧ -2147483648 ≤ P.depth ∧ P.depth ≤ 2147483648 := by omega
theorem awk_fin : (awkS 7).2 = 14 ∧ (awkS 7).1.depth = 1 ∧ (awkS 7).1.todo.length = 1 ∧ (awkS 7).1.closed = false ∧ (awkS 7).1.wrong = 0 := by
 have h := awk_end
 simp only [Bool.and_eq_true, beq_iff_eq, Bool.not_eq_true'] at h
 exact ⟨h.1.1.1.1, h.1.1.1.2, h.1.1.2, h.1.2, h.2⟩
theorem awk_C {V : World} {g : Nat} (h : V.heap[g]? = some (.cells (awkL.flatMap tkCells).toArray 35 (0, 0))) : Kd.C kTk V (some ⟨g, 0, none⟩) awkL.length awkL := by
 have hrow : V.ownsRow 0 35 6 (.slice (some ⟨g, 0, none⟩) 7 7) 7 (awkL.flatMap tkCells) := ⟨rfl, .inr ⟨g, 7, _, rfl, Nat.zero_le _, h, Nat.le_refl _, by decide, rfl, rfl⟩⟩
 have hreps : Reps (kTk.K V) 6 awkL (awkL.flatMap tkCells) := by
  have key : ∀ l : List Tk, Reps (kTk.K V) 6 l (l.flatMap tkCells) := fun l => by
   induction l with
   | nil => exact Reps.none _ _
   | cons x l ih =>
    have := Kd.reps_append ((Reps.none (kTk.K V) 6).snoc (PParsePuts.k35_mk V x) rfl) ih
    rw [List.nil_append, List.nil_append, List.singleton_append] at this
    exact this
  exact key _
 obtain ⟨A, c1, hv, hr⟩ := own_reads_row (size := 6) hrow hreps rfl
 injection hv with h1 h2 h3
 subst h1
 exact hr
theorem PIn.below {w w1 : World} {p : Nat} {P : Par} {es : List Ev} {vt ve : Value} (H : PIn w p P es vt ve) (h : Below w.heap.size w w1) : PIn w1 p P es vt ve := ⟨H.at_.below h, H.ends, H.bt, H.bd1, H.bd2⟩
theorem close_one {p : Nat} {td : List WT} {bg : Bool} {es : List Ev} {vt ve : Value} {w : World} (hA : PAt w p td es 1 bg 0 false vt ve) (hE : Ends td) (h1 : td.length = 1) :
  Calls Try.prog 26 #[.pointer (some ⟨p, 0, none⟩)] w fun e w' => ∃ Ax cx es' vt' ve', e = .returned (.tuple #[.slice Ax 1 cx, .int .i64 0]) ∧ PAt w' p td es' 0 bg 0 true vt' ve' ∧ PStep p vt ve w vt' ve' w' := by
 have h := Close_any p ⟨td, 1, bg, 0, false⟩ es vt ve w ⟨hA, hE, (by dsimp only; omega), (by dsimp only; omega), (by dsimp only; omega)⟩
 have hc : closeP ⟨td, 1, bg, 0, false⟩ = ([evOf (3, 1)], 0, ⟨td, 0, bg, 0, true⟩) := by unfold closeP; simp [h1]
 unfold ClosePost at h
 rw [hc] at h
 refine h.mono ?_
 rintro e w' ⟨v, es', vt', ve', he, h2, h3, h4, -⟩
 obtain ⟨Ax, cx, rfl, -⟩ := row_slice h4
 exact ⟨Ax, cx, es', vt', ve', he, h2, h3⟩
theorem close_two {p : Nat} {td : List WT} {bg : Bool} {es : List Ev} {vt ve : Value} {w : World} (hA : PAt w p td es 0 bg 0 true vt ve) (hE : Ends td) (h1 : td.length = 1) :
  Calls Try.prog 26 #[.pointer (some ⟨p, 0, none⟩)] w fun e w' => ∃ es' vt' ve', e = .returned (.tuple #[.slice none 0 0, .int .i64 4]) ∧ PAt w' p td es' 0 bg 0 true vt' ve' ∧ PStep p vt ve w vt' ve' w' := by
 have h := Close_any p ⟨td, 0, bg, 0, true⟩ es vt ve w ⟨hA, hE, (by dsimp only; omega), (by dsimp only; omega), (by dsimp only; omega)⟩
 have hc : closeP ⟨td, 0, bg, 0, true⟩ = ([], 4, ⟨td, 0, bg, 0, true⟩) := by unfold closeP; simp
 unfold ClosePost at h
 rw [hc] at h
 refine h.mono ?_
 rintro e w' ⟨v, es', vt', ve', he, h2, h3, -, h5⟩
 obtain rfl : v = .slice none 0 0 := by
  rcases h5 with ⟨-, h⟩ | h
  ·exact absurd h (by simp)
  ·exact h
 exact ⟨es', vt', ve', he, h2, h3⟩
theorem put_sign {q : Nat} {vt ve : Value} {w : World} (hq : PIn w q newPar [] vt ve) :
  Calls Try.prog 24 #[.pointer (some ⟨q, 0, none⟩), .agg #[.int .u8 6, .string ⟨#[59]⟩, .int .i64 0, .int .i64 0, .int .i64 0, .int .i64 0]] w fun e w' => ∃ v vt' ve', e = .returned (.tuple #[v, .int .i64 120]) ∧ PStep q vt ve w vt' ve' w' := by
 have h := put_any q newPar [] vt ve ⟨6, ⟨#[59]⟩, ⟨0, 0, 0⟩, 0⟩ w hq
 unfold PutPost at h
 have h1 := awk_sign
 rw [beq_iff_eq] at h1
 rw [h1] at h
 refine h.mono ?_
 rintro e w' ⟨v, es', vt', ve', he, -, h3, -, -⟩
 exact ⟨v, vt', ve', he, h3⟩
theorem Put_nil6 (w : World) : Calls Try.prog 24 #[.pointer none, .agg #[.int .u8 6, .string ⟨#[59]⟩, .int .i64 0, .int .i64 0, .int .i64 0, .int .i64 0]] w fun e w' => e = .returned (.tuple #[.slice none 0 0, .int .i64 3]) ∧ Below w.heap.size w w' := Put_nil ⟨6, ⟨#[59]⟩, ⟨0, 0, 0⟩, 0⟩ w
structure AwkI (p g : Nat) (w W2 wr : World) (vt0 ve0 : Value) (i : Nat) (es : List Ev) (vt ve : Value) : Prop where
 at_ : PAt wr p (awkS i).1.todo es (awkS i).1.depth (awkS i).1.begun (awkS i).1.wrong (awkS i).1.closed vt ve
 step : PStep p vt0 ve0 W2 vt ve wr
set_option maxRecDepth 100000 in
set_option maxHeartbeats 8000000 in
theorem awake_any (w : World) : Calls Try.prog 8 #[] w fun e w' => e = .returned (.bool true) ∧ Below w.heap.size w w' := by
 have HN := Lib.hid (New_any w)
 go_enter Try.func8, Try.ntmps8
 go_upto_region 6 with (first
  | (go_at_call 9; (with_reducible refine Calls.mono HN.out ?_); rintro e w9 ⟨vt0, rfl, hp1, hb1⟩; have HP := Lib.hid hp1.at_; have HB := Lib.hid hb1; clear hp1 hb1)
  | (go_at_call 22; (with_reducible refine Calls.mono (key_any _ _) ?_); rintro e w9 ⟨rfl, hb⟩; replace HP := Lib.hid (HP.out.below hb); replace HB := Lib.hid (HB.out.trans (hb.mono HB.out.size)); clear hb)
  | (go_at_call 13; (with_reducible refine Calls.mono (sign_any _ _) ?_); rintro e w9 ⟨rfl, hb⟩; replace HP := Lib.hid (HP.out.below hb); replace HB := Lib.hid (HB.out.trans (hb.mono HB.out.size)); clear hb)
  | (go_at_call 23; (with_reducible refine Calls.mono (name_any _ _) ?_); rintro e w9 ⟨rfl, hb⟩; replace HP := Lib.hid (HP.out.below hb); replace HB := Lib.hid (HB.out.trans (hb.mono HB.out.size)); clear hb))
 obtain ⟨W2, hW2⟩ : ∃ V, w9.alloc (.cells #[.int .u8 2, .string ⟨#[112, 114, 111, 103, 114, 97, 109]⟩, .int .i64 0, .int .i64 0, .int .i64 0, .int .i64 0, .int .u8 1, .string ⟨#[112]⟩, .int .i64 0, .int .i64 0, .int .i64 0, .int .i64 0, .int .u8 6, .string ⟨#[59]⟩, .int .i64 0, .int .i64 0, .int .i64 0, .int .i64 0, .int .u8 2, .string ⟨#[98, 101, 103, 105, 110]⟩, .int .i64 0, .int .i64 0, .int .i64 0, .int .i64 0, .int .u8 2, .string ⟨#[115, 107, 105, 112]⟩, .int .i64 0, .int .i64 0, .int .i64 0, .int .i64 0, .int .u8 2, .string ⟨#[101, 110, 100]⟩, .int .i64 0, .int .i64 0, .int .i64 0, .int .i64 0, .int .u8 6, .string ⟨#[46]⟩, .int .i64 0, .int .i64 0, .int .i64 0, .int .i64 0] 35) = V := ⟨_, rfl⟩
 have hg2 : W2.heap[w9.heap.size]? = some (.cells (awkL.flatMap tkCells).toArray 35 (0, 0)) := by rw [← hW2]; exact World.alloc_heap_new _ _
 have hb2 : Below w9.heap.size w9 W2 := by rw [← hW2]; exact (Below.refl _ _).alloc (Nat.le_refl _) _
 rw [hW2]
 clear hW2 HN
 have HP2 := Lib.hid (HP.out.below hb2)
 have HB2 := Lib.hid (HB.out.trans (hb2.mono HB.out.size))
 have HG2 := Lib.hid hg2
 clear hg2 hb2 HP HB
 obtain ⟨g, hg⟩ : ∃ g, w9.heap.size = g := ⟨_, rfl⟩
 rw [hg] at HG2 ⊢
 obtain ⟨p, hp⟩ : ∃ p, w.heap.size = p := ⟨_, rfl⟩
 have HPE := Lib.hid hp
 rw [hp] at HP2 ⊢
 clear hg hp
 go_wp2
 go_loopw [2, 4] (fun v2 v4 wr => ∃ i : Nat, i ≤ 7 ∧ v4 = .int .i64 i ∧ v2 = .int .i64 (awkS i).2 ∧ Hid (∃ es vt ve, AwkI p g w W2 wr vt0 (.slice none 0 0) i es vt ve)) (fun v2 v4 _ => 7 - (intOf v4).toNat)
 case atStart => exact ⟨0, by decide, rfl, rfl, Lib.hid ⟨_, _, _, ⟨HP2.out, PStep.refl _ _ _ _⟩⟩⟩
 case round =>
  obtain ⟨i, hi, rfl, rfl, H⟩ := hrel
  obtain ⟨es, vt, ve, H⟩ := H.out
  by_cases hlt : i < 7
  ·obtain ⟨h1, h2, h3, h4, h5, h6⟩ := awk_at hlt
   obtain ⟨ad, hae, hcells⟩ := tok_cells (awk_C (H.step.keep HP2.out HG2.out (by decide) (by decide) (by decide))) i hlt
   injection hae with hae
   subst hae
   have hadd : (⟨g, 0, none⟩ : Addr).add (i * 6) = ⟨g, i * 6, none⟩ := by unfold Addr.add; split <;> simp_all
   rw [hadd] at hcells
   clear hadd
   obtain ⟨t, ht⟩ : ∃ t, PParsePuts.rd_T35 awkL i = t := ⟨_, rfl⟩
   have hs1 : awkS (i + 1) = ((put (awkS i).1 t).2.2, (awkS i).2 + (put (awkS i).1 t).1.length) := by rw [← ht]; rfl
   rw [ht] at hcells h1 h6
   obtain ⟨c0, c1, c2, c3, c4, c5⟩ := hcells wr (Below.refl _ _)
   obtain ⟨n, hn⟩ : ∃ n, (awkS i).2 = n := ⟨_, rfl⟩
   have hpt := put_any p (awkS i).1 es vt ve t wr ⟨H.at_, awk_ends i, (par_bounds h2 h3 h4).1, (par_bounds h2 h3 h4).2.1, (par_bounds h2 h3 h4).2.2⟩
   unfold PutPost at hpt
   obtain ⟨m, hm⟩ : ∃ m, (put (awkS i).1 t).1.length = m := ⟨_, rfl⟩
   rw [h1, hm] at hpt
   rw [hm, hn] at hs1
   rw [hm] at h6
   rw [hn] at h5
   obtain ⟨g1, g2, g3, g4, g5, g6⟩ := wrap_ij h5 h6 hlt
   have HPT := Lib.hid hpt
   have HH := Lib.hid H
   have HS1 := Lib.hid hs1
   rw [hn]
   clear hpt H hs1 hm hn ht hcells h1 h2 h3 h4 h5 h6
   go_wp2_with (go_at_call 24; (with_reducible refine Calls.mono HPT.out ?_); rintro e w2 ⟨v, es2, vt2, ve2, rfl, hA2, hs2, hv2, -⟩; obtain ⟨Ax, cx, rfl, -⟩ := row_slice hv2; have HA2 := Lib.hid hA2; have HS2 := Lib.hid (HH.out.step.trans hs2); clear c0 c1 c2 c3 c4 c5 hA2 hs2 hv2)
   go_roundw
   case rel => exact ⟨i + 1, by omega, by go_num, by rw [HS1.out]; go_num, Lib.hid ⟨_, _, _, ⟨by rw [HS1.out]; exact HA2.out, HS2.out⟩⟩⟩
   case measure => simp [intOf] <;> omega
  ·obtain rfl : i = 7 := by omega
   obtain ⟨f1, f2, f3, f4, f5⟩ := awk_fin
   rw [f1]
   have HH := Lib.hid H
   obtain ⟨P7, hP7⟩ : ∃ P, (awkS 7).1 = P := ⟨_, rfl⟩
   have he7 := awk_ends 7
   rw [hP7] at f2 f3 f4 f5 he7
   have hat := H.at_
   rw [hP7] at hat
   have hB2 := HB2.out
   rw [HPE.out] at hB2
   have hb7 := H.step.out HP2.out hB2 (Nat.le_of_eq HPE.out.symm) (Nat.le_refl _)
   obtain ⟨td, d7, bg, wg, cl⟩ := P7
   dsimp only at f2 f3 f4 f5 he7 hat
   subst f2; subst f4; subst f5
   have HD := Lib.hid (Depth_any p ⟨td, 1, bg, 0, false⟩ es vt ve wr hat)
   have HC1 := Lib.hid (close_one hat he7 f3)
   have HP7 := Lib.hid hat
   have HB := Lib.hid hb7
   have HE7 := Lib.hid he7
   have HF3 := Lib.hid f3
   have hpw : p ≤ w.heap.size := Nat.le_of_eq HPE.out.symm
   have HPW := Lib.hid hpw
   clear H f1 hP7 he7 hat hb7 hB2 f3 hpw
   go_wp2_with (first
    | (go_at_call 25; (with_reducible refine Calls.mono HD.out ?_); rintro e w2 ⟨rfl, rfl⟩; clear HD)
    | (go_at_call 26; (with_reducible refine Calls.mono HC1.out ?_); rintro e w2 ⟨A1, c1, es1, vt1, ve1, rfl, hA, hS⟩; have HC2 := Lib.hid (close_two hA HE7.out HF3.out); have HA1 := Lib.hid hA; replace HB := Lib.hid (hS.out HP7.out HB.out HPW.out (Nat.le_refl _)); clear hA hS)
    | (go_at_call 26; (with_reducible refine Calls.mono HC2.out ?_); rintro e w2 ⟨es2, vt2, ve2, rfl, hA, hS⟩; replace HB := Lib.hid (hS.out HA1.out HB.out HPW.out (Nat.le_refl _)); clear hA hS)
    | (go_at_call 9; (with_reducible refine Calls.mono (New_any _) ?_); rintro e w2 ⟨vtq, rfl, hq, hb⟩; have HQ := Lib.hid hq; have HQP := Lib.hid (Nat.le_trans HPW.out HB.out.size); replace HB := Lib.hid (HB.out.trans (hb.mono (Nat.le_trans HPW.out HB.out.size))); clear hq hb)
    | (go_at_call 13; (with_reducible refine Calls.mono (sign_any _ _) ?_); rintro e w2 ⟨rfl, hb⟩; replace HQ := Lib.hid (HQ.out.below hb); replace HB := Lib.hid (HB.out.trans (hb.mono (Nat.le_trans HPW.out HB.out.size))); clear hb)
    | (go_at_call 13; (with_reducible refine Calls.mono (sign_any _ _) ?_); rintro e w2 ⟨rfl, hb⟩; replace HB := Lib.hid (HB.out.trans (hb.mono (Nat.le_trans HPW.out HB.out.size))); clear hb)
    | (go_at_call 24; (with_reducible refine Calls.mono (put_sign HQ.out) ?_); rintro e w2 ⟨v, vt8, ve8, rfl, hS⟩; replace HB := Lib.hid (hS.out HQ.out.at_ HB.out HPW.out HQP.out); clear hS HQ HQP)
    | (go_at_call 24; (with_reducible refine Calls.mono (Put_nil6 _) ?_); rintro e w2 ⟨rfl, hb⟩; replace HB := Lib.hid (HB.out.trans (hb.mono (Nat.le_trans HPW.out HB.out.size))); clear hb)
    | (go_at_call 26; (with_reducible refine Calls.mono (Close_nil _) ?_); rintro e w2 ⟨rfl, rfl⟩)
    | (go_at_call 25; (with_reducible refine Calls.mono (Depth_nil _) ?_); rintro e w2 ⟨rfl, rfl⟩))
   go_ret
   exact ⟨rfl, by have h := HB.out; rw [HPE.out]; exact h⟩
end Go.Proofs.Ytmjbpgnjgblnmaa
namespace Go.Proofs.Ytmjbpgnjgblnmaa
open Go.RowKit Go.Proofs.YtmjbpgnjgblnmaaW.PrintWords Go.Proofs.YtmjbpgnjgblnmaaW.PrintLast Go.Proofs.YtmjbpgnjgblnmaaW.PrintMore
theorem infoTk : (Try.prog.info? 35).map (fun i => (i.zero, i.size, i.bytes)) = some (some (.agg #[.int .u8 0, .string ⟨#[]⟩, .int .i64 0, .int .i64 0, .int .i64 0, .int .i64 0]), 6, 56) := by kernel_rfl
theorem tkCells_one (t : Tk) : ∀ v ∈ tkCells t, v.oneCell' = true := by
 intro v hv; simp only [tkCells, List.mem_cons, List.not_mem_nil, or_false] at hv; rcases hv with rfl | rfl | rfl | rfl | rfl | rfl <;> rfl
theorem tks_one (l : List Tk) : ∀ v ∈ l.flatMap tkCells, v.oneCell' = true := by
 intro v hv
 obtain ⟨e, _, he⟩ := List.mem_flatMap.1 hv
 exact tkCells_one e v he
theorem reps_tk (V : World) (l : List Tk) : Reps (kTk.K V) 6 l (l.flatMap tkCells) := by
 induction l with
 | nil => exact Reps.none _ _
 | cons x l ih =>
  have := Kd.reps_append ((Reps.none (kTk.K V) 6).snoc (PParsePuts.k35_mk V x) rfl) ih
  rw [List.nil_append, List.nil_append, List.singleton_append] at this
  exact this
theorem toks_C {V : World} {base : Nat} {v : Value} {l : List Tk} (h : V.ownsRow base 35 6 v l.length (l.flatMap tkCells)) : ∃ A c, v = .slice A l.length c ∧ l.length ≤ c ∧ Kd.C kTk V A l.length l := by
 obtain ⟨A, c, hv, hr⟩ := own_reads_row (size := 6) h (reps_tk V l) rfl
 obtain ⟨A2, c2, hv2, hc⟩ := row_slice h
 subst hv
 injection hv2 with h1 h2 h3
 subst h3
 exact ⟨A, _, rfl, hc, hr⟩
theorem wl_appN {ops : Array Oper} {rest : List Oper} {o : Oper} {a : Act} {Q : Exit → Act → World → Prop} {W : World} {e t : TypeId} {z : Value} {size bytes : Nat} (hinfo : (Try.prog.info? e).map (fun i => (i.zero, i.size, i.bytes)) = some (some z, size, bytes)) (hund : Try.prog.underlying t = some (.slice e)) (hz : z.cells.size = size) (hpos : 0 < size) (hbt : 0 < bytes)
  (hgd : o.guard = none) (s x : Operand) (ho : o.op = .call { callee := .builtin .append, args := #[s, x], argTypes := #[t, t] }) (base : Nat) {u : Value} {n : Nat} {xs : List Value} (hs : a.eval s = u) (hown : W.ownsRow base e size u n xs)
  {v : Value} {m b2 : Nat} {news : List Value} (hx : a.eval x = v) (hrow : W.ownsRow b2 e size v m news) (h1 : ∀ u ∈ news, u.oneCell' = true) (hl : (n + m) * bytes ≤ 140737488355328) (hbase : base ≤ W.heap.size)
  (h : ∀ v1 w1, w1.ownsRow base e size v1 (n + m) (xs ++ news) → W.grownBy w1 u.ownBlock → (v1.ownBlock = u.ownBlock ∨ ∀ g, v1.ownBlock = some g → W.heap.size ≤ g) → wpList Try.prog ops Q rest (a.put o.dst v1) w1) : wpList Try.prog ops Q (o :: rest) a W := by
 obtain ⟨i0, hi, hzz⟩ := Option.map_eq_some_iff.1 hinfo
 simp only [Prod.mk.injEq] at hzz
 obtain ⟨hz0, hz1, hz2⟩ := hzz
 have hmm : n + m ≤ 140737488355328 := Nat.le_trans (Nat.le_mul_of_pos_right _ hbt) hl
 refine wpList_plain hgd fun K hK => ?_
 have hcase : (v = .slice none 0 0 ∧ m = 0) ∨ ∃ g cap, v = .slice (some ⟨g, 0, none⟩) m cap := by
  rcases hrow.2 with h | ⟨g, cap, cur, h, _⟩
  ·exact .inl h
  ·exact .inr ⟨g, cap, h⟩
 rcases hcase with ⟨rfl, rfl⟩ | ⟨g, cap, rfl⟩
 ·have hnil : news = [] := by
   have := hrow.1
   simpa using this
  subst hnil
  have hr := run_append_owned_none (P := Try.prog) W base t o.type e i0 size hund hi u n xs hown
  unfold Oper.wp execOp
  simp only [ho, resolve, invoke, builtin, Sem.run_bind, Sem.run_pure, Result.andThen_ok, List.map_toArray, List.map_cons, List.map_nil, hs, hx, hr]
  exact hK _ _ (h u W (by rw [List.append_nil]; exact hown) ⟨rfl, rfl, rfl, Nat.le_refl _, fun _ _ _ => rfl⟩ (.inl rfl))
 ·obtain ⟨v1, w1, hr, ho2, hg, -, hat⟩ := run_append_own_at (P := Try.prog) W base t o.type e i0 _ size bytes hund hi hz0 hz1 hz2 hz hpos u n xs hown ⟨g, 0, none⟩ m cap news hrow.1 (row_news hrow) h1 (by simp only [maxLen]; omega) hl hbase
  unfold Oper.wp execOp
  simp only [ho, resolve, invoke, builtin, Sem.run_bind, Sem.run_pure, Result.andThen_ok, List.map_toArray, List.map_cons, List.map_nil, hs, hx, hr]
  refine hK _ _ (h v1 w1 ho2 hg ?_)
  rcases hat with hat | hat
  ·exact .inl hat
  ·exact .inr (fun k hk => by rw [hat] at hk; cases hk; exact Nat.le_refl _)
structure QAt (w : World) (q : Nat) (Q : QS) (vL vN : Value) : Prop where
 box : w.heap[q]? = some (.cells #[vL, vN, .int .i64 Q.e, .bool Q.cl] 77 (0, 0))
 L : w.ownsRow 0 35 6 vL Q.L.length (Q.L.flatMap tkCells)
 now : stRow w 0 vN Q.now
structure QStep (q : Nat) (w w' : World) : Prop where
 os : w'.os = w.os
 tape : w'.tape = w.tape
 output : w'.output = w.output
 size : w.heap.size ≤ w'.heap.size
 block : ∀ k, k < w.heap.size → k ≠ q → w'.heap[k]? = w.heap[k]?
theorem QStep.refl (q : Nat) (w : World) : QStep q w w := ⟨rfl, rfl, rfl, Nat.le_refl _, fun _ _ _ => rfl⟩
theorem QStep.trans {q : Nat} {w w1 w2 : World} (h : QStep q w w1) (k : QStep q w1 w2) : QStep q w w2 :=
 ⟨k.os.trans h.os, k.tape.trans h.tape, k.output.trans h.output, Nat.le_trans h.size k.size, fun i hi hq => (k.block i (Nat.lt_of_lt_of_le hi h.size) hq).trans (h.block i hi hq)⟩
theorem QStep.below {q : Nat} {w w1 : World} (h : Below w.heap.size w w1) : QStep q w w1 := ⟨h.os, h.tape, h.output, h.size, fun i hi _ => h.block i hi⟩
theorem QStep.grown {q : Nat} {w w1 w2 : World} {row : Option Nat} (h : QStep q w w1) (hg : w1.grownBy w2 row) (hr : ∀ k, row = some k → w.heap.size ≤ k) : QStep q w w2 :=
 ⟨hg.os.trans h.os, hg.tape.trans h.tape, hg.output.trans h.output, Nat.le_trans h.size hg.size, fun i hi hq => (hg.block i (Nat.lt_of_lt_of_le hi h.size) (fun e => by have := hr i e.symm; omega)).trans (h.block i hi hq)⟩
theorem QStep.set {q : Nat} {w w1 : World} (h : QStep q w w1) (off : Nat) (vs : List Value) : QStep q w (w1.setCells q off vs) := by
 have hsm := setCells_same q vs off w1
 exact ⟨hsm.1.trans h.os, hsm.2.1.trans h.tape, hsm.2.2.1.trans h.output, by rw [hsm.2.2.2]; exact h.size, fun i hi hq => (setCells_far vs off i hq).trans (h.block i hi hq)⟩
section
variable {w w1 : World} {q : Nat} {Q : QS} {vL vN : Value}
theorem QAt.cell (H : QAt w q Q vL vN) : w.cell? ⟨q, 0, none⟩ = some vL ∧ w.cell? ⟨q, 1, none⟩ = some vN ∧ w.cell? ⟨q, 2, none⟩ = some (.int .i64 Q.e) ∧ w.cell? ⟨q, 3, none⟩ = some (.bool Q.cl) :=
 ⟨cell_of_row _ _ _ _ _ _ H.box, cell_of_row _ _ _ _ _ _ H.box, cell_of_row _ _ _ _ _ _ H.box, cell_of_row _ _ _ _ _ _ H.box⟩
theorem QAt.move (H : QAt w q Q vL vN) (h : ∀ k, k < w.heap.size → k = q ∨ vL.ownBlock = some k ∨ vN.ownBlock = some k → w1.heap[k]? = w.heap[k]?) : QAt w1 q Q vL vN :=
 ⟨(h q (blk_lt H.box) (.inl rfl)).trans H.box, own_move H.L (fun k hk => h k (own_lt H.L k hk) (.inr (.inl hk))), own_move H.now (fun k hk => h k (own_lt H.now k hk) (.inr (.inr hk)))⟩
theorem QAt.below (H : QAt w q Q vL vN) (h : Below w.heap.size w w1) : QAt w1 q Q vL vN := H.move (fun k hk _ => h.block k hk)
theorem QAt.typed (H : QAt w q Q vL vN) (k : Nat) (h : k = q ∨ vL.ownBlock = some k ∨ vN.ownBlock = some k) : ∃ cs T, w.heap[k]? = some (.cells cs T (0, 0)) ∧ (T = 77 ∨ T = 35 ∨ T = 107) := by
 rcases h with rfl | h | h
 ·exact ⟨_, _, H.box, .inl rfl⟩
 ·obtain ⟨cs, hc⟩ := own_typed H.L k h
  exact ⟨cs, _, hc, .inr (.inl rfl)⟩
 ·obtain ⟨cs, hc⟩ := own_typed H.now k h
  exact ⟨cs, _, hc, .inr (.inr rfl)⟩
theorem QAt.grown (H : QAt w q Q vL vN) {row : Option Nat} (hg : w.grownBy w1 row) (hr : ∀ k, row = some k → k = q ∨ vL.ownBlock = some k ∨ vN.ownBlock = some k → False) : QAt w1 q Q vL vN :=
 H.move (fun k hk h => hg.block k hk (fun e => hr k e.symm h))
theorem QAt.grownE (H : QAt w q Q vL vN) {base size n : Nat} {u : Value} {xs : List Value} (hu : w.ownsRow base 46 size u n xs) (hg : w.grownBy w1 u.ownBlock) : QAt w1 q Q vL vN :=
 H.grown hg (fun k hk h => by
  obtain ⟨cs, T, hc, hT⟩ := H.typed k h
  obtain ⟨cs2, hc2⟩ := own_typed hu k hk
  rw [hc] at hc2
  have := cells_ty hc2
  subst this
  revert hT; decide)
theorem QAt.set (H : QAt w q Q vL vN) (off : Nat) (v : Value) (hoff : off < 4) {Q' : QS} {vL' vN' : Value} (hc : [vL, vN, .int .i64 Q.e, .bool Q.cl].take off ++ [v] ++ [vL, vN, .int .i64 Q.e, .bool Q.cl].drop (off + 1) = [vL', vN', .int .i64 Q'.e, .bool Q'.cl])
  (hL : w.ownsRow 0 35 6 vL' Q'.L.length (Q'.L.flatMap tkCells)) (hN : stRow w 0 vN' Q'.now) : QAt (w.setCells q off [v]) q Q' vL' vN' := by
 obtain ⟨cur', k1, k2, k3⟩ := setCells_row [v] off w _ H.box (by simp; omega)
 have hfar : ∀ k, k ≠ q → (w.setCells q off [v]).heap[k]? = w.heap[k]? := fun k hk => setCells_far _ off k hk
 refine ⟨?_, own_move hL (fun k hk => hfar k (fun e => ?_)), own_move hN (fun k hk => hfar k (fun e => ?_))⟩
 ·rw [k1]
  have : cur' = #[vL', vN', .int .i64 Q'.e, .bool Q'.cl] := by
   apply Array.toList_inj.1
   rw [k3]
   exact hc
  rw [this]
 ·obtain ⟨cs, h⟩ := own_typed hL k hk
  rw [e, H.box] at h; cases h
 ·obtain ⟨cs, h⟩ := own_typed hN k hk
  rw [e, H.box] at h; cases h
end
end Go.Proofs.Ytmjbpgnjgblnmaa
namespace Go.Proofs.Ytmjbpgnjgblnmaa
open Go.RowKit Go.Proofs.YtmjbpgnjgblnmaaW.PrintWords Go.Proofs.YtmjbpgnjgblnmaaW.PrintLast Go.Proofs.YtmjbpgnjgblnmaaW.PrintMore
def BeginPost (q : Nat) (Q : QS) (vL : Value) (w : World) (e : Ending) (w' : World) : Prop := ∃ v vN', e = .returned v ∧ QAt w' q { Q with now := qnow Q } vL vN' ∧ w'.ownsRow w.heap.size 46 8 v (qpre Q).length ((qpre Q).flatMap evCells) ∧ QStep q w w'
def QPost (q : Nat) (r : List Ev × Int × QS) (w : World) (e : Ending) (w' : World) : Prop := ∃ v vL' vN', e = .returned (.tuple #[v, .int .i64 r.2.1]) ∧ QAt w' q r.2.2 vL' vN' ∧ w'.ownsRow w.heap.size 46 8 v r.1.length (r.1.flatMap evCells) ∧ QStep q w w'
set_option maxRecDepth 100000 in
set_option maxHeartbeats 8000000 in
theorem begin_any {w : World} {q : Nat} {Q : QS} {vL vN : Value} (H : QAt w q Q vL vN) : Calls Try.prog 52 #[.pointer (some ⟨q, 0, none⟩)] w (BeginPost q Q vL w) := by
 obtain ⟨L, now, e, cl⟩ := Q
 obtain ⟨c0, c1, c2, c3⟩ := H.cell
 have HH := Lib.hid H
 cases now with
 | cons x now =>
  obtain ⟨A1, k1, hv, -⟩ := row_slice H.now
  subst hv
  have g1 : ((0 : Int) < ((x :: now).length : Int)) := by rw [List.length_cons]; omega
  obtain ⟨n, hn⟩ : ∃ n, (x :: now).length = n := ⟨_, rfl⟩
  dsimp only at c1
  rw [hn] at g1 c1
  have HN := Lib.hid (show BeginPost q ⟨L, x :: now, e, cl⟩ vL w (.returned (.slice none 0 0)) w from ⟨_, _, rfl, H, own_nil _ _ _ _, QStep.refl _ _⟩)
  clear H hn
  go_enter Try.func52, Try.ntmps52
  go_wp2
  go_ret
  exact HN.out
 | nil =>
  obtain ⟨A1, k1, hv, -⟩ := row_slice H.now
  subst hv
  clear H
  dsimp only [List.length_nil] at c1
  go_enter Try.func52, Try.ntmps52
  obtain ⟨V1, hV1⟩ : ∃ V, w.alloc (.cells #[.int .u8 1, .int .i64 1] 107) = V := ⟨_, rfl⟩
  obtain ⟨g, hg⟩ : ∃ g, w.heap.size = g := ⟨_, rfl⟩
  have hb1 : Below w.heap.size w V1 := by rw [← hV1]; exact (Below.refl _ w).alloc (Nat.le_refl _) _
  have HV := Lib.hid (HH.out.below hb1)
  have HS1 := Lib.hid (QStep.below (q := q) hb1)
  have HRW : Hid (stRow V1 0 (.slice (some ⟨g, 0, none⟩) 1 1) [(1, 1)]) := Lib.hid ⟨rfl, .inr ⟨g, 1, #[.int .u8 1, .int .i64 1], rfl, Nat.zero_le _, by rw [← hV1, ← hg]; exact World.alloc_heap_new _ _, Nat.le_refl _, by decide, rfl, rfl⟩⟩
  have HB := Lib.hid (And.intro hV1 hg)
  have hsz : V1.heap.size = g + 1 := by rw [← hV1, World.size_alloc, hg]
  have HSZ := Lib.hid hsz
  clear hV1 hg hb1 hsz
  go_wp2_with (first
   | ((with_reducible refine gate_dst (N := 12) rfl ?_); rw [HB.out.1, HB.out.2]; clear c0 c1 c2 c3; obtain ⟨c0, c1, c2, c3⟩ := HV.out.cell; go_simp)
   | ((with_reducible refine gate_ (.store 75 (.tmp 13) (.tmp 11)) rfl ?_); refine wl_cells rfl rfl _ _ _ rfl (g := q) (off := 1) (.slice (some ⟨g, 0, none⟩) 1 1) [.slice (some ⟨g, 0, none⟩) 1 1] rfl rfl rfl (by kernel_rfl) (fun v hv => by rw [List.mem_singleton.1 hv]; rfl) HV.out.box (by simp) ?_; intro V2 hV; obtain hA := HV.out.set (Q' := ⟨L, [(1, 1)], e, cl⟩) (vL' := vL) (vN' := .slice (some ⟨g, 0, none⟩) 1 1) 1 (.slice (some ⟨g, 0, none⟩) 1 1) (by decide) rfl HV.out.L HRW.out; have hS := HS1.out.set (q := q) 1 [.slice (some ⟨g, 0, none⟩) 1 1]; rw [← hV] at hA hS; have HA2 := Lib.hid hA; have HS2 := Lib.hid hS; clear hA hS hV))
  go_ret
  obtain ⟨ga, hga⟩ : ∃ ga, V2.heap.size = ga := ⟨_, rfl⟩
  have hb3 : Below V2.heap.size V2 (V2.alloc (.cells #[.int .u8 1, .int .u8 1, .int .u8 0, .string ⟨#[]⟩, .int .i64 0, .int .i64 0, .int .i64 0, .int .i64 0] 46)) := (Below.refl _ V2).alloc (Nat.le_refl _) _
  refine ⟨_, _, rfl, HA2.out.below hb3, ?_, HS2.out.trans (QStep.below hb3)⟩
  exact ⟨rfl, .inr ⟨_, 1, _, rfl, by rw [← HB.out.2] at *; exact HS2.out.size, World.alloc_heap_new _ _, Nat.le_refl _, by decide, rfl, rfl⟩⟩
set_option maxRecDepth 100000 in
set_option maxHeartbeats 8000000 in
theorem rput_any {w : World} {q : Nat} {Q : QS} {vL vN : Value} (H : QAt w q Q vL vN) (t : Tk) (hL : Q.L.length ≤ 4194303) (hnote : ∀ u ∈ Q.L, isNote u = false) (hlen : Q.cl = false → Q.e = 0 → isNote t = false → (qnow Q).length ≤ 1000000 ∧ (readR false (Q.L ++ [t])).last.length ≤ 1000000) :
  Calls Try.prog 32 #[.pointer (some ⟨q, 0, none⟩), .agg #[.int .u8 t.f0, .string t.f1, .int .i64 t.f2.f0, .int .i64 t.f2.f1, .int .i64 t.f2.f2, .int .i64 t.f3]] w (QPost q (qput Q t) w) := by
 obtain ⟨L, now, e0, cl⟩ := Q
 dsimp only at hL hnote hlen
 obtain ⟨W0, hW0⟩ : ∃ V, w.alloc (.cells #[.int .u8 t.f0, .string t.f1, .int .i64 t.f2.f0, .int .i64 t.f2.f1, .int .i64 t.f2.f2, .int .i64 t.f3] 35) = V := ⟨_, rfl⟩
 have hb0 : Below w.heap.size w W0 := by rw [← hW0]; exact (Below.refl _ w).alloc (Nat.le_refl _) _
 obtain ⟨B0, hB0⟩ : ∃ B0, w.heap.size = B0 := ⟨_, rfl⟩
 have hT0 : W0.heap[B0]? = some (.cells #[.int .u8 t.f0, .string t.f1, .int .i64 t.f2.f0, .int .i64 t.f2.f1, .int .i64 t.f2.f2, .int .i64 t.f3] 35 (0, 0)) := by rw [← hW0, ← hB0]; exact World.alloc_heap_new _ _
 have hsz : W0.heap.size = B0 + 1 := by rw [← hW0, World.size_alloc, hB0]
 have hqw := blk_lt H.box
 have HQL : Hid (q < W0.heap.size) := Lib.hid (by omega)
 have HB0 : Hid (B0 < W0.heap.size ∧ B0 ≠ q) := Lib.hid ⟨by omega, by omega⟩
 have HT0 := Lib.hid hT0
 have HW0 := Lib.hid (And.intro hW0 hB0)
 have HQ := Lib.hid (H.below hb0)
 have HS := Lib.hid (QStep.refl q W0)
 have HS00 := Lib.hid (QStep.below (q := q) hb0)
 have HLN := Lib.hid hL
 have HHL := Lib.hid hlen
 obtain ⟨c0, c1, c2, c3⟩ := HQ.out.cell
 obtain ⟨d0, d1, d2, d3, d4, d5⟩ := six_cells hT0
 have hCM := PParsePuts.colophonref12_Comment.calls t.f0 t.f1 t.f2.f0 t.f2.f1 t.f2.f2 t.f3 (isNote t) W0 (by
  unfold PParsePuts.colophonref12_Comment.f isNote
  by_cases h7 : t.f0 = 7
  ·rw [if_pos h7, h7]; rfl
  ·rw [if_neg h7, beq_eq_false_iff_ne.2 h7, Bool.false_or])
 have HCM := Lib.hid hCM
 clear hCM hlen hL hqw hsz hT0 hB0 hb0 hW0
 go_enter Try.func32, Try.ntmps32
 go_upto_region 1 with (fail)
 rw [HW0.out.1, HW0.out.2]
 cases cl with
 | true =>
  have HPU := Lib.hid (show qput ⟨L, now, e0, true⟩ t = ([], 4, ⟨L, now, e0, true⟩) by unfold qput; simp)
  go_wp2
  go_ret2
  unfold QPost
  rw [HPU.out]
  exact ⟨_, _, _, rfl, HQ.out, own_nil _ _ _ _, HS00.out⟩
 | false =>
  by_cases he : e0 = 0
  ·subst he
   by_cases hnt : isNote t = true
   ·rw [hnt] at HCM
    have HPU := Lib.hid (show qput ⟨L, now, 0, false⟩ t = (qpre ⟨L, now, 0, false⟩ ++ [noteE t], 0, ⟨L, qnow ⟨L, now, 0, false⟩, 0, false⟩) by unfold qput; simp [hnt])
    clear hnt
    go_wp2_with (first
     | (go_at_call 51; (with_reducible refine Calls.mono HCM.out ?_); rintro e w1 ⟨rfl, hb⟩; replace HQ := Lib.hid (HQ.out.below hb); replace HS := Lib.hid (HS.out.trans (QStep.below hb)); clear c0 c1 c2 c3 d0 d1 d2 d3 d4 d5; obtain ⟨c0, c1, c2, c3⟩ := HQ.out.cell; obtain ⟨d0, d1, d2, d3, d4, d5⟩ := six_cells ((HS.out.block B0 HB0.out.1 HB0.out.2).trans HT0.out); clear hb)
     | (go_at_call 52; (with_reducible refine Calls.mono (begin_any HQ.out) ?_); rintro e w2 ⟨v, vN2, rfl, hA, hO, hS⟩; have HO := Lib.hid (own_weaken hO (show W0.heap.size ≤ _ from HS.out.size)); replace HQ := Lib.hid (hA); replace HS := Lib.hid (HS.out.trans hS); clear c0 c1 c2 c3 d0 d1 d2 d3 d4 d5; obtain ⟨c0, c1, c2, c3⟩ := HQ.out.cell; obtain ⟨d0, d1, d2, d3, d4, d5⟩ := six_cells ((HS.out.block B0 HB0.out.1 HB0.out.2).trans HT0.out); clear hA hO hS)
     | ((with_reducible refine gate_dst (N := 34) rfl ?_); refine wl_app1 infoEv rfl rfl (by decide) (by decide) rfl (.tmp 30) (.tmp 33) rfl W0.heap.size (u := v) (q := (qpre ⟨L, now, 0, false⟩).length) (kc := (qpre ⟨L, now, 0, false⟩).flatMap evCells) (cs := [.int .u8 4, .int .u8 0, .int .u8 t.f0, .string t.f1, .int .i64 t.f2.f0, .int .i64 t.f2.f1, .int .i64 t.f2.f2, .int .i64 t.f3]) rfl rfl HO.out rfl (evCells_one ⟨4, 0, t⟩) HS.out.size (by have := HLN.out; simp [qpre]; split <;> simp) ?_; intro zg zc zw ho hg hat; have HF := Lib.hid ho; have HQF := Lib.hid (HQ.out.grownE HO.out hg); have HSF := Lib.hid (HS.out.grown hg (fun k hk => own_base HO.out k hk)); clear ho hg hat))
    go_ret2
    unfold QPost
    rw [HPU.out]
    refine ⟨_, _, _, rfl, HQF.out, ?_, HS00.out.trans HSF.out⟩
    rw [List.length_append, List.flatMap_append]
    exact own_weaken HF.out HS00.out.size
   ·obtain ⟨nr, rr, hr1, hr2⟩ := read_run false (L ++ [t]) (by have := HLN.out; rw [List.length_append, List.length_singleton]; omega) (fun u hu => by
     rcases List.mem_append.1 hu with h | h
     ·exact hnote u h
     ·rw [List.mem_singleton.1 h]; simpa using hnt)
    have HRR := Lib.hid (And.intro hr1 (show (if rr.e = 0 ∧ rr.i < (L ++ [t]).length then badR 120 rr else rr) = readR false (L ++ [t]) from hr2))
    have hnf : isNote t = false := by simpa using hnt
    have hll := HHL.out rfl rfl hnf
    have HLB : Hid ((qnow ⟨L, now, 0, false⟩).length < 1099511627776 ∧ (readR false (L ++ [t])).last.length < 1099511627776) := Lib.hid ⟨by have := hll.1; omega, by have := hll.2; omega⟩
    have hpb : (qpre ⟨L, now, 0, false⟩).length ≤ 1 := by unfold qpre; split <;> simp
    have hbt : (betw (qnow ⟨L, now, 0, false⟩) (readR false (L ++ [t])).last).length ≤ 2000000 := by
     unfold betw
     rw [List.length_append, List.length_map, List.length_map, List.length_reverse, List.length_drop, List.length_drop]
     omega
    have HPB := Lib.hid (And.intro hpb hbt)
    clear hpb hbt hll
    rw [hnf] at HCM
    clear hr1 hr2 hnf
    by_cases h1 : (readR false (L ++ [t])).e = 120
    ·skip
     have HER := Lib.hid h1
     have HPU : Hid (qput ⟨L, now, 0, false⟩ t = ([], 120, ⟨L, now, 120, false⟩)) := Lib.hid (by unfold qput; simp [hnt, h1])
     clear hnt h1
     go_wp2_with (first
      | (go_at_call 51; (with_reducible refine Calls.mono HCM.out ?_); rintro e w1 ⟨rfl, hb⟩; replace HQ := Lib.hid (HQ.out.below hb); replace HS := Lib.hid (HS.out.trans (QStep.below hb)); clear c0 c1 c2 c3 d0 d1 d2 d3 d4 d5; obtain ⟨c0, c1, c2, c3⟩ := HQ.out.cell; obtain ⟨d0, d1, d2, d3, d4, d5⟩ := six_cells ((HS.out.block B0 HB0.out.1 HB0.out.2).trans HT0.out); clear hb)
      | ((with_reducible refine gate_dst (N := 40) rfl ?_); refine wl_appN infoTk rfl rfl (by decide) (by decide) rfl (.tmp 35) (.tmp 39) rfl W0.heap.size (u := .slice none 0 0) (n := 0) (xs := []) rfl (own_nil _ _ _ _) rfl HQ.out.L (tks_one L) (by have := HLN.out; dsimp only; omega) HS.out.size ?_; intro v1 w3 ho hg hat; rw [Nat.zero_add, List.nil_append] at ho; have hb3 : Below w1.heap.size w1 w3 := ⟨hg.os, hg.tape, hg.output, hg.size, fun k hk => hg.block k hk (by simp [Value.ownBlock])⟩; have HV1 := Lib.hid ho; have HF1 : Hid (∀ k, v1.ownBlock = some k → w1.heap.size ≤ k) := Lib.hid (fun k hk => by rcases hat with hat | hat; (rw [hat] at hk; simp [Value.ownBlock] at hk); exact hat k hk); have HZ1 : Hid (W0.heap.size ≤ w1.heap.size ∧ QAt w1 q ⟨L, now, 0, false⟩ vL vN) := Lib.hid ⟨HS.out.size, HQ.out⟩; replace HQ := Lib.hid (HQ.out.below hb3); replace HS := Lib.hid (HS.out.trans (QStep.below hb3)); clear c0 c1 c2 c3 d0 d1 d2 d3 d4 d5; obtain ⟨c0, c1, c2, c3⟩ := HQ.out.cell; obtain ⟨d0, d1, d2, d3, d4, d5⟩ := six_cells ((HS.out.block B0 HB0.out.1 HB0.out.2).trans HT0.out); clear ho hg hat hb3)
      | ((with_reducible refine gate_dst (N := 44) rfl ?_); refine wl_app1 infoTk rfl rfl (by decide) (by decide) rfl (.tmp 41) (.tmp 43) rfl W0.heap.size (u := v1) (q := L.length) (kc := L.flatMap tkCells) (cs := [.int .u8 t.f0, .string t.f1, .int .i64 t.f2.f0, .int .i64 t.f2.f1, .int .i64 t.f2.f2, .int .i64 t.f3]) rfl rfl HV1.out rfl (tkCells_one t) HS.out.size (by have := HLN.out; omega) ?_; intro lg lc w4 ho hg hat; have hLr : w4.ownsRow W0.heap.size 35 6 (.slice (some ⟨lg, 0, none⟩) (L.length + 1) lc) (L ++ [t]).length ((L ++ [t]).flatMap tkCells) := (by rw [List.length_append, List.flatMap_append]; exact ho); have HLR := Lib.hid hLr; obtain ⟨A9, c9, hv9, hc9, hC9⟩ := toks_C hLr; injection hv9 with hv91 hv92 hv93; subst hv91; subst hv93; have hRD := read_any (some ⟨lg, 0, none⟩) lc (L ++ [t]) false w4 hC9 (by have := HLN.out; rw [List.length_append, List.length_singleton]; omega) nr rr HRR.out.1 (readR false (L ++ [t])) HRR.out.2; simp only [List.length_append, List.length_singleton] at hRD; have HRD := Lib.hid hRD; replace HQ := Lib.hid (HQ.out.grown hg (fun k hk h => by have h1 := HF1.out k hk; obtain ⟨cs, T, hc, -⟩ := HZ1.out.2.typed k h; have := blk_lt hc; omega)); replace HS := Lib.hid (HS.out.grown hg (fun k hk => Nat.le_trans HZ1.out.1 (HF1.out k hk))); clear c0 c1 c2 c3 d0 d1 d2 d3 d4 d5; obtain ⟨c0, c1, c2, c3⟩ := HQ.out.cell; obtain ⟨d0, d1, d2, d3, d4, d5⟩ := six_cells ((HS.out.block B0 HB0.out.1 HB0.out.2).trans HT0.out); clear ho hg hat hLr hc9 hC9 hRD hv92)
      | (go_at_call 53; (with_reducible refine Calls.mono HRD.out ?_); rintro e w5 ⟨rfl, path, ser, vp, vs, vl, -, -, hR⟩; have HR := Lib.hid hR; have hb5 := hR.below; obtain ⟨-, -, -, -, -, -, r6, r7⟩ := hR.cell; rw [HER.out] at r7; have HLR5 := Lib.hid (own_move HLR.out (fun k hk => hb5.block k (own_lt HLR.out k hk))); have HGR : Hid (W0.heap.size ≤ w4.heap.size ∧ w4.heap.size < w5.heap.size) := Lib.hid ⟨HS.out.size, blk_lt hR.box⟩; replace HQ := Lib.hid (HQ.out.below hb5); replace HS := Lib.hid (HS.out.trans (QStep.below hb5)); clear c0 c1 c2 c3 d0 d1 d2 d3 d4 d5; obtain ⟨c0, c1, c2, c3⟩ := HQ.out.cell; obtain ⟨d0, d1, d2, d3, d4, d5⟩ := six_cells ((HS.out.block B0 HB0.out.1 HB0.out.2).trans HT0.out); clear hR hb5)
      | ((with_reducible refine gate_ (.store 39 (.tmp 65) (.tmp 63)) rfl ?_); refine wl_cells rfl rfl _ _ _ rfl (g := q) (off := 2) (.int .i64 120) [.int .i64 120] rfl rfl rfl (by kernel_rfl) (fun v hv => by rw [List.mem_singleton.1 hv]; rfl) HQ.out.box (by simp) ?_; intro V6 hV; have hA := HQ.out.set (Q' := ⟨L, now, 120, false⟩) (vL' := vL) (vN' := vN) 2 (.int .i64 120) (by decide) rfl HQ.out.L HQ.out.now; have hS := HS.out.set (q := q) 2 [.int .i64 120]; rw [← hV] at hA hS; have HQE := Lib.hid hA; have HSE := Lib.hid hS; clear hA hS hV c0 c1 c2 c3; obtain ⟨c0, c1, c2, c3⟩ := HQE.out.cell))
     go_quiet (fail)
     go_wp2
     go_ret2
     unfold QPost
     rw [HPU.out]
     exact ⟨_, _, _, rfl, HQE.out.below (below_drewN (Below.refl _ _) _), own_nil _ _ _ _, HS00.out.trans (HSE.out.trans (QStep.below (below_drewN (Below.refl _ _) _)))⟩
    ·by_cases h2 : (readR false (L ++ [t])).e = 122
     ·have h1b := h1
      have HER := Lib.hid h2
      have HPU : Hid (qput ⟨L, now, 0, false⟩ t = ([], 122, ⟨L, now, 122, false⟩)) := Lib.hid (by unfold qput; simp [hnt, h2])
      clear hnt h2 h1 h1b
      go_wp2_with (first
       | (go_at_call 51; (with_reducible refine Calls.mono HCM.out ?_); rintro e w1 ⟨rfl, hb⟩; replace HQ := Lib.hid (HQ.out.below hb); replace HS := Lib.hid (HS.out.trans (QStep.below hb)); clear c0 c1 c2 c3 d0 d1 d2 d3 d4 d5; obtain ⟨c0, c1, c2, c3⟩ := HQ.out.cell; obtain ⟨d0, d1, d2, d3, d4, d5⟩ := six_cells ((HS.out.block B0 HB0.out.1 HB0.out.2).trans HT0.out); clear hb)
       | ((with_reducible refine gate_dst (N := 40) rfl ?_); refine wl_appN infoTk rfl rfl (by decide) (by decide) rfl (.tmp 35) (.tmp 39) rfl W0.heap.size (u := .slice none 0 0) (n := 0) (xs := []) rfl (own_nil _ _ _ _) rfl HQ.out.L (tks_one L) (by have := HLN.out; dsimp only; omega) HS.out.size ?_; intro v1 w3 ho hg hat; rw [Nat.zero_add, List.nil_append] at ho; have hb3 : Below w1.heap.size w1 w3 := ⟨hg.os, hg.tape, hg.output, hg.size, fun k hk => hg.block k hk (by simp [Value.ownBlock])⟩; have HV1 := Lib.hid ho; have HF1 : Hid (∀ k, v1.ownBlock = some k → w1.heap.size ≤ k) := Lib.hid (fun k hk => by rcases hat with hat | hat; (rw [hat] at hk; simp [Value.ownBlock] at hk); exact hat k hk); have HZ1 : Hid (W0.heap.size ≤ w1.heap.size ∧ QAt w1 q ⟨L, now, 0, false⟩ vL vN) := Lib.hid ⟨HS.out.size, HQ.out⟩; replace HQ := Lib.hid (HQ.out.below hb3); replace HS := Lib.hid (HS.out.trans (QStep.below hb3)); clear c0 c1 c2 c3 d0 d1 d2 d3 d4 d5; obtain ⟨c0, c1, c2, c3⟩ := HQ.out.cell; obtain ⟨d0, d1, d2, d3, d4, d5⟩ := six_cells ((HS.out.block B0 HB0.out.1 HB0.out.2).trans HT0.out); clear ho hg hat hb3)
       | ((with_reducible refine gate_dst (N := 44) rfl ?_); refine wl_app1 infoTk rfl rfl (by decide) (by decide) rfl (.tmp 41) (.tmp 43) rfl W0.heap.size (u := v1) (q := L.length) (kc := L.flatMap tkCells) (cs := [.int .u8 t.f0, .string t.f1, .int .i64 t.f2.f0, .int .i64 t.f2.f1, .int .i64 t.f2.f2, .int .i64 t.f3]) rfl rfl HV1.out rfl (tkCells_one t) HS.out.size (by have := HLN.out; omega) ?_; intro lg lc w4 ho hg hat; have hLr : w4.ownsRow W0.heap.size 35 6 (.slice (some ⟨lg, 0, none⟩) (L.length + 1) lc) (L ++ [t]).length ((L ++ [t]).flatMap tkCells) := (by rw [List.length_append, List.flatMap_append]; exact ho); have HLR := Lib.hid hLr; obtain ⟨A9, c9, hv9, hc9, hC9⟩ := toks_C hLr; injection hv9 with hv91 hv92 hv93; subst hv91; subst hv93; have hRD := read_any (some ⟨lg, 0, none⟩) lc (L ++ [t]) false w4 hC9 (by have := HLN.out; rw [List.length_append, List.length_singleton]; omega) nr rr HRR.out.1 (readR false (L ++ [t])) HRR.out.2; simp only [List.length_append, List.length_singleton] at hRD; have HRD := Lib.hid hRD; replace HQ := Lib.hid (HQ.out.grown hg (fun k hk h => by have h1 := HF1.out k hk; obtain ⟨cs, T, hc, -⟩ := HZ1.out.2.typed k h; have := blk_lt hc; omega)); replace HS := Lib.hid (HS.out.grown hg (fun k hk => Nat.le_trans HZ1.out.1 (HF1.out k hk))); clear c0 c1 c2 c3 d0 d1 d2 d3 d4 d5; obtain ⟨c0, c1, c2, c3⟩ := HQ.out.cell; obtain ⟨d0, d1, d2, d3, d4, d5⟩ := six_cells ((HS.out.block B0 HB0.out.1 HB0.out.2).trans HT0.out); clear ho hg hat hLr hc9 hC9 hRD hv92)
       | (go_at_call 53; (with_reducible refine Calls.mono HRD.out ?_); rintro e w5 ⟨rfl, path, ser, vp, vs, vl, -, -, hR⟩; have HR := Lib.hid hR; have hb5 := hR.below; obtain ⟨-, -, -, -, -, -, r6, r7⟩ := hR.cell; rw [HER.out] at r7; have HLR5 := Lib.hid (own_move HLR.out (fun k hk => hb5.block k (own_lt HLR.out k hk))); have HGR : Hid (W0.heap.size ≤ w4.heap.size ∧ w4.heap.size < w5.heap.size) := Lib.hid ⟨HS.out.size, blk_lt hR.box⟩; replace HQ := Lib.hid (HQ.out.below hb5); replace HS := Lib.hid (HS.out.trans (QStep.below hb5)); clear c0 c1 c2 c3 d0 d1 d2 d3 d4 d5; obtain ⟨c0, c1, c2, c3⟩ := HQ.out.cell; obtain ⟨d0, d1, d2, d3, d4, d5⟩ := six_cells ((HS.out.block B0 HB0.out.1 HB0.out.2).trans HT0.out); clear hR hb5)
       | ((with_reducible refine gate_ (.store 39 (.tmp 65) (.tmp 63)) rfl ?_); refine wl_cells rfl rfl _ _ _ rfl (g := q) (off := 2) (.int .i64 122) [.int .i64 122] rfl rfl rfl (by kernel_rfl) (fun v hv => by rw [List.mem_singleton.1 hv]; rfl) HQ.out.box (by simp) ?_; intro V6 hV; have hA := HQ.out.set (Q' := ⟨L, now, 122, false⟩) (vL' := vL) (vN' := vN) 2 (.int .i64 122) (by decide) rfl HQ.out.L HQ.out.now; have hS := HS.out.set (q := q) 2 [.int .i64 122]; rw [← hV] at hA hS; have HQE := Lib.hid hA; have HSE := Lib.hid hS; clear hA hS hV c0 c1 c2 c3; obtain ⟨c0, c1, c2, c3⟩ := HQE.out.cell))
      go_quiet (fail)
      go_wp2
      go_ret2
      unfold QPost
      rw [HPU.out]
      exact ⟨_, _, _, rfl, HQE.out.below (below_drewN (Below.refl _ _) _), own_nil _ _ _ _, HS00.out.trans (HSE.out.trans (QStep.below (below_drewN (Below.refl _ _) _)))⟩
     ·skip
      obtain ⟨er, her⟩ : ∃ er, (readR false (L ++ [t])).e = er := ⟨_, rfl⟩
      have HER := Lib.hid her
      rw [her] at h1 h2
      have g1 : (er == 120) = false := by rw [beq_eq_false_iff_ne]; exact h1
      have g2 : (er == 122) = false := by rw [beq_eq_false_iff_ne]; exact h2
      have HPU : Hid (qput ⟨L, now, 0, false⟩ t = (qpre ⟨L, now, 0, false⟩ ++ betw (qnow ⟨L, now, 0, false⟩) (readR false (L ++ [t])).last ++ [leafE t], 0, ⟨L ++ [t], (readR false (L ++ [t])).last, 0, false⟩)) := Lib.hid (by unfold qput; simp [hnt, her, h1, h2])
      clear hnt h1 h2 her
      go_wp2_with (first
       | (go_at_call 51; (with_reducible refine Calls.mono HCM.out ?_); rintro e w1 ⟨rfl, hb⟩; replace HQ := Lib.hid (HQ.out.below hb); replace HS := Lib.hid (HS.out.trans (QStep.below hb)); clear c0 c1 c2 c3 d0 d1 d2 d3 d4 d5; obtain ⟨c0, c1, c2, c3⟩ := HQ.out.cell; obtain ⟨d0, d1, d2, d3, d4, d5⟩ := six_cells ((HS.out.block B0 HB0.out.1 HB0.out.2).trans HT0.out); clear hb)
       | ((with_reducible refine gate_dst (N := 40) rfl ?_); refine wl_appN infoTk rfl rfl (by decide) (by decide) rfl (.tmp 35) (.tmp 39) rfl W0.heap.size (u := .slice none 0 0) (n := 0) (xs := []) rfl (own_nil _ _ _ _) rfl HQ.out.L (tks_one L) (by have := HLN.out; dsimp only; omega) HS.out.size ?_; intro v1 w3 ho hg hat; rw [Nat.zero_add, List.nil_append] at ho; have hb3 : Below w1.heap.size w1 w3 := ⟨hg.os, hg.tape, hg.output, hg.size, fun k hk => hg.block k hk (by simp [Value.ownBlock])⟩; have HV1 := Lib.hid ho; have HF1 : Hid (∀ k, v1.ownBlock = some k → w1.heap.size ≤ k) := Lib.hid (fun k hk => by rcases hat with hat | hat; (rw [hat] at hk; simp [Value.ownBlock] at hk); exact hat k hk); have HZ1 : Hid (W0.heap.size ≤ w1.heap.size ∧ QAt w1 q ⟨L, now, 0, false⟩ vL vN) := Lib.hid ⟨HS.out.size, HQ.out⟩; replace HQ := Lib.hid (HQ.out.below hb3); replace HS := Lib.hid (HS.out.trans (QStep.below hb3)); clear c0 c1 c2 c3 d0 d1 d2 d3 d4 d5; obtain ⟨c0, c1, c2, c3⟩ := HQ.out.cell; obtain ⟨d0, d1, d2, d3, d4, d5⟩ := six_cells ((HS.out.block B0 HB0.out.1 HB0.out.2).trans HT0.out); clear ho hg hat hb3)
       | ((with_reducible refine gate_dst (N := 44) rfl ?_); refine wl_app1 infoTk rfl rfl (by decide) (by decide) rfl (.tmp 41) (.tmp 43) rfl W0.heap.size (u := v1) (q := L.length) (kc := L.flatMap tkCells) (cs := [.int .u8 t.f0, .string t.f1, .int .i64 t.f2.f0, .int .i64 t.f2.f1, .int .i64 t.f2.f2, .int .i64 t.f3]) rfl rfl HV1.out rfl (tkCells_one t) HS.out.size (by have := HLN.out; omega) ?_; intro lg lc w4 ho hg hat; have hLr : w4.ownsRow W0.heap.size 35 6 (.slice (some ⟨lg, 0, none⟩) (L.length + 1) lc) (L ++ [t]).length ((L ++ [t]).flatMap tkCells) := (by rw [List.length_append, List.flatMap_append]; exact ho); have HLR := Lib.hid hLr; obtain ⟨A9, c9, hv9, hc9, hC9⟩ := toks_C hLr; injection hv9 with hv91 hv92 hv93; subst hv91; subst hv93; have hRD := read_any (some ⟨lg, 0, none⟩) lc (L ++ [t]) false w4 hC9 (by have := HLN.out; rw [List.length_append, List.length_singleton]; omega) nr rr HRR.out.1 (readR false (L ++ [t])) HRR.out.2; simp only [List.length_append, List.length_singleton] at hRD; have HRD := Lib.hid hRD; replace HQ := Lib.hid (HQ.out.grown hg (fun k hk h => by have h1 := HF1.out k hk; obtain ⟨cs, T, hc, -⟩ := HZ1.out.2.typed k h; have := blk_lt hc; omega)); replace HS := Lib.hid (HS.out.grown hg (fun k hk => Nat.le_trans HZ1.out.1 (HF1.out k hk))); clear c0 c1 c2 c3 d0 d1 d2 d3 d4 d5; obtain ⟨c0, c1, c2, c3⟩ := HQ.out.cell; obtain ⟨d0, d1, d2, d3, d4, d5⟩ := six_cells ((HS.out.block B0 HB0.out.1 HB0.out.2).trans HT0.out); clear ho hg hat hLr hc9 hC9 hRD hv92)
       | (go_at_call 53; (with_reducible refine Calls.mono HRD.out ?_); rintro e w5 ⟨rfl, path, ser, vp, vs, vl, -, -, hR⟩; have HR := Lib.hid hR; have HVO : Hid (vl.oneCell' = true ∧ vl.cells.toList = [vl]) := Lib.hid (by obtain ⟨A8, c8, hv8, -⟩ := row_slice hR.last.row; rw [hv8]; exact ⟨rfl, rfl⟩); have hb5 := hR.below; obtain ⟨-, -, -, -, -, -, r6, r7⟩ := hR.cell; rw [HER.out] at r7; have HLR5 := Lib.hid (own_move HLR.out (fun k hk => hb5.block k (own_lt HLR.out k hk))); have HGR : Hid (W0.heap.size ≤ w4.heap.size ∧ w4.heap.size < w5.heap.size) := Lib.hid ⟨HS.out.size, blk_lt hR.box⟩; replace HQ := Lib.hid (HQ.out.below hb5); replace HS := Lib.hid (HS.out.trans (QStep.below hb5)); clear c0 c1 c2 c3 d0 d1 d2 d3 d4 d5; obtain ⟨c0, c1, c2, c3⟩ := HQ.out.cell; obtain ⟨d0, d1, d2, d3, d4, d5⟩ := six_cells ((HS.out.block B0 HB0.out.1 HB0.out.2).trans HT0.out); clear hR hb5)
       | (go_at_call 52; (with_reducible refine Calls.mono (begin_any HQ.out) ?_); rintro e w6 ⟨v, vN6, rfl, hA, hO, hS⟩; have HO := Lib.hid (own_weaken hO (show W0.heap.size ≤ _ from HS.out.size)); have HGQ : Hid (w4.heap.size ≠ q) := Lib.hid (fun e => by have := HGR.out.1; have := HQL.out; omega); replace r6 := (World.cell?_of_block (hS.block w4.heap.size HGR.out.2 HGQ.out)).trans r6; replace HLR5 := Lib.hid (own_move HLR5.out (fun k hk => hS.block k (own_lt HLR5.out k hk) (fun e => by have := own_base HLR5.out k hk; have := HQL.out; omega))); have HVL := Lib.hid (own_move HR.out.last.row (fun k hk => hS.block k (own_lt HR.out.last.row k hk) (fun e => by have := own_base HR.out.last.row k hk; have := HQL.out; have := HGR.out; omega))); replace HQ := Lib.hid (hA); replace HS := Lib.hid (HS.out.trans hS); clear c0 c1 c2 c3 d0 d1 d2 d3 d4 d5; obtain ⟨c0, c1, c2, c3⟩ := HQ.out.cell; obtain ⟨d0, d1, d2, d3, d4, d5⟩ := six_cells ((HS.out.block B0 HB0.out.1 HB0.out.2).trans HT0.out); clear hA hO hS)
       | ((with_reducible refine gate_ (.store 22 (.tmp 75) (.tmp 73)) rfl ?_); refine wl_cells rfl rfl _ _ _ rfl (g := q) (off := 0) (.slice (some ⟨lg, 0, none⟩) (L.length + 1) lc) [.slice (some ⟨lg, 0, none⟩) (L.length + 1) lc] rfl rfl rfl (by kernel_rfl) (fun v hv => by rw [List.mem_singleton.1 hv]; rfl) HQ.out.box (by simp) ?_; intro V7 hV; have hA := HQ.out.set (Q' := ⟨L ++ [t], qnow ⟨L, now, 0, false⟩, 0, false⟩) (vL' := .slice (some ⟨lg, 0, none⟩) (L.length + 1) lc) (vN' := vN6) 0 (.slice (some ⟨lg, 0, none⟩) (L.length + 1) lc) (by decide) rfl (own_weaken HLR5.out (Nat.zero_le _)) HQ.out.now; have hS := (QStep.refl q w6).set (q := q) 0 [.slice (some ⟨lg, 0, none⟩) (L.length + 1) lc]; have hS0 := HS.out.trans hS; rw [← hV] at hA hS hS0; replace r6 := (World.cell?_of_block (hS.block w4.heap.size (World.block_lt_of_cell? w6 ⟨w4.heap.size, 6, none⟩ r6) HGQ.out)).trans r6; replace HO := Lib.hid (own_move HO.out (fun k hk => hS.block k (own_lt HO.out k hk) (fun e => by have := own_base HO.out k hk; have := HQL.out; omega))); replace HVL := Lib.hid (own_move HVL.out (fun k hk => hS.block k (own_lt HVL.out k hk) (fun e => by have := own_base HVL.out k hk; have := HQL.out; have := HGR.out; omega))); replace HQ := Lib.hid (hA); replace HS := Lib.hid (hS0); clear c0 c1 c2 c3 d0 d1 d2 d3 d4 d5; obtain ⟨c0, c1, c2, c3⟩ := HQ.out.cell; obtain ⟨d0, d1, d2, d3, d4, d5⟩ := six_cells ((HS.out.block B0 HB0.out.1 HB0.out.2).trans HT0.out); clear hA hS hS0 hV)
       | (go_at_call 54; (with_reducible refine Calls.mono (between_any HQ.out.now HVL.out HLB.out.1 HLB.out.2) ?_); rintro e w8 ⟨v8, rfl, hO, hb⟩; have H8 := Lib.hid hO; replace HO := Lib.hid (own_move HO.out (fun k hk => hb.block k (own_lt HO.out k hk))); replace HVL := Lib.hid (own_move HVL.out (fun k hk => hb.block k (own_lt HVL.out k hk))); replace HQ := Lib.hid (HQ.out.below hb); replace HS := Lib.hid (HS.out.trans (QStep.below hb)); clear c0 c1 c2 c3 d0 d1 d2 d3 d4 d5; obtain ⟨c0, c1, c2, c3⟩ := HQ.out.cell; obtain ⟨d0, d1, d2, d3, d4, d5⟩ := six_cells ((HS.out.block B0 HB0.out.1 HB0.out.2).trans HT0.out); clear hO hb)
       | ((with_reducible refine gate_dst (N := 87) rfl ?_); refine wl_appN infoEv rfl rfl (by decide) (by decide) rfl (.tmp 80) (.tmp 86) rfl W0.heap.size (u := v) rfl HO.out rfl H8.out (evs_one _) (by have := HLB.out.2; have := HPB.out; omega) HS.out.size ?_; intro v9 w9 ho hg hat; have H9 := Lib.hid ho; replace HVL := Lib.hid (own_move HVL.out (fun k hk => hg.block k (own_lt HVL.out k hk) (fun e => by obtain ⟨cs, hc⟩ := own_typed HVL.out k hk; obtain ⟨cs2, hc2⟩ := own_typed HO.out k e.symm; rw [hc] at hc2; exact absurd (cells_ty hc2) (by decide)))); replace HQ := Lib.hid (HQ.out.grownE HO.out hg); replace HS := Lib.hid (HS.out.grown hg (fun k hk => own_base HO.out k hk)); clear c0 c1 c2 c3 d0 d1 d2 d3 d4 d5; obtain ⟨c0, c1, c2, c3⟩ := HQ.out.cell; obtain ⟨d0, d1, d2, d3, d4, d5⟩ := six_cells ((HS.out.block B0 HB0.out.1 HB0.out.2).trans HT0.out); clear ho hg hat)
       | ((with_reducible refine gate_ (.store 75 (.tmp 91) (.tmp 89)) rfl ?_); refine wl_cells rfl rfl _ _ _ rfl (g := q) (off := 1) (vl) [vl] rfl rfl HVO.out.2 (by kernel_rfl) (fun v hv => by rw [List.mem_singleton.1 hv]; exact HVO.out.1) HQ.out.box (by simp) ?_; intro V10 hV; have hA := HQ.out.set (Q' := ⟨L ++ [t], (readR false (L ++ [t])).last, 0, false⟩) (vL' := .slice (some ⟨lg, 0, none⟩) (L.length + 1) lc) (vN' := vl) 1 vl (by decide) rfl HQ.out.L (own_weaken HVL.out (Nat.zero_le _)); have hS := (QStep.refl q w9).set (q := q) 1 [vl]; have hS0 := HS.out.trans hS; rw [← hV] at hA hS hS0; replace H9 := Lib.hid (own_move H9.out (fun k hk => hS.block k (own_lt H9.out k hk) (fun e => by have := own_base H9.out k hk; have := HQL.out; omega))); replace HQ := Lib.hid (hA); replace HS := Lib.hid (hS0); clear c0 c1 c2 c3 d0 d1 d2 d3 d4 d5; obtain ⟨c0, c1, c2, c3⟩ := HQ.out.cell; obtain ⟨d0, d1, d2, d3, d4, d5⟩ := six_cells ((HS.out.block B0 HB0.out.1 HB0.out.2).trans HT0.out); clear hA hS hS0 hV)
       | ((with_reducible refine gate_dst (N := 96) rfl ?_); refine wl_app1 infoEv rfl rfl (by decide) (by decide) rfl (.tmp 92) (.tmp 95) rfl W0.heap.size (u := v9) (q := (qpre ⟨L, now, 0, false⟩).length + (betw (qnow ⟨L, now, 0, false⟩) (readR false (L ++ [t])).last).length) (kc := (qpre ⟨L, now, 0, false⟩).flatMap evCells ++ (betw (qnow ⟨L, now, 0, false⟩) (readR false (L ++ [t])).last).flatMap evCells) (cs := [.int .u8 2, .int .u8 0, .int .u8 t.f0, .string t.f1, .int .i64 t.f2.f0, .int .i64 t.f2.f1, .int .i64 t.f2.f2, .int .i64 t.f3]) rfl rfl H9.out rfl (evCells_one ⟨2, 0, t⟩) HS.out.size (by have := HLN.out; have := HLB.out.2; have := HPB.out; omega) ?_; intro zg zc zw ho hg hat; have HF := Lib.hid ho; have HQF := Lib.hid (HQ.out.grownE H9.out hg); have HSF := Lib.hid (HS.out.grown hg (fun k hk => own_base H9.out k hk)); clear ho hg hat))
      go_ret2
      unfold QPost
      rw [HPU.out]
      refine ⟨_, _, _, rfl, HQF.out, ?_, HS00.out.trans HSF.out⟩
      rw [List.length_append, List.length_append, List.flatMap_append, List.flatMap_append]
      exact own_weaken HF.out HS00.out.size
  ·have g1 : (e0 != 0) = true := by rw [bne_iff_ne]; exact he
   have HPU := Lib.hid (show qput ⟨L, now, e0, false⟩ t = ([], e0, ⟨L, now, e0, false⟩) by unfold qput; simp [he])
   go_wp2
   go_quiet (fail)
   go_wp2
   go_ret2
   unfold QPost
   rw [HPU.out]
   exact ⟨_, _, _, rfl, HQ.out.below (below_drewN (Below.refl _ _) _), own_nil _ _ _ _, HS00.out.trans (QStep.below (below_drewN (Below.refl _ _) _))⟩
end Go.Proofs.Ytmjbpgnjgblnmaa
namespace Go.Proofs.Ytmjbpgnjgblnmaa
open Go.RowKit Go.Proofs.YtmjbpgnjgblnmaaW.PrintWords Go.Proofs.YtmjbpgnjgblnmaaW.PrintLast Go.Proofs.YtmjbpgnjgblnmaaW.PrintMore
set_option maxRecDepth 100000 in
set_option maxHeartbeats 8000000 in
theorem rclose_any {w : World} {q : Nat} {Q : QS} {vL vN : Value} (H : QAt w q Q vL vN) (hL : Q.L.length ≤ 4194303) (hnote : ∀ u ∈ Q.L, isNote u = false) (hlen : Q.now.length ≤ 1000000) :
  Calls Try.prog 36 #[.pointer (some ⟨q, 0, none⟩)] w (QPost q (qclose Q) w) := by
 obtain ⟨L, now, e0, cl⟩ := Q
 dsimp only at hL hnote hlen
 obtain ⟨A, c, rfl, -, -⟩ := toks_C H.L
 obtain ⟨c0, c1, c2, c3⟩ := H.cell
 have HQ := Lib.hid H
 have HS := Lib.hid (QStep.refl q w)
 have HLN := Lib.hid hL
 have HLB : Hid (now.length < 1099511627776) := Lib.hid (by omega)
 clear H hL hlen
 go_enter Try.func36, Try.ntmps36
 cases cl with
 | true =>
  have HPU := Lib.hid (show qclose ⟨L, now, e0, true⟩ = ([], 4, ⟨L, now, e0, true⟩) by unfold qclose; simp)
  go_wp2
  go_ret2
  unfold QPost
  rw [HPU.out]
  exact ⟨_, _, _, rfl, HQ.out, own_nil _ _ _ _, HS.out⟩
 | false =>
  by_cases he : e0 = 0
  ·subst he
   obtain ⟨nr, rr, hr1, hr2⟩ := read_run false L (by have := HLN.out; omega) hnote
   have HRR := Lib.hid (And.intro hr1 (show (if rr.e = 0 ∧ rr.i < L.length then badR 120 rr else rr) = readR false L from hr2))
   clear hr1 hr2 hnote
   by_cases h1 : (readR false L).e = 0
   ·have HER := Lib.hid h1
    have HPU := Lib.hid (show qclose ⟨L, now, 0, false⟩ = (betw now [], 0, ⟨L, now, 0, true⟩) by unfold qclose; simp [h1])
    clear h1
    go_wp2_with (first
     | ((with_reducible refine gate_ (.store 4 (.tmp 11) (.const (.bool true))) rfl ?_); refine wl_cells rfl rfl _ _ _ rfl (g := q) (off := 3) (.bool true) [.bool true] rfl rfl rfl (by kernel_rfl) (fun v hv => by rw [List.mem_singleton.1 hv]; rfl) HQ.out.box (by simp) ?_; intro V3 hV; have hA := HQ.out.set (Q' := ⟨L, now, 0, true⟩) (vL' := .slice A L.length c) (vN' := vN) 3 (.bool true) (by decide) rfl HQ.out.L HQ.out.now; have hS := HS.out.set (q := q) 3 [.bool true]; rw [← hV] at hA hS; obtain ⟨A9, c9, hv9, hc9, hC9⟩ := toks_C hA.L; injection hv9 with hv91 hv92 hv93; subst hv91; subst hv93; have HRD := Lib.hid (read_any A c L false V3 hC9 (by have := HLN.out; omega) nr rr HRR.out.1 (readR false L) HRR.out.2); replace HQ := Lib.hid hA; replace HS := Lib.hid hS; clear c0 c1 c2 c3 hA hS hV hc9 hC9; obtain ⟨c0, c1, c2, c3⟩ := HQ.out.cell)
     | (go_at_call 53; (with_reducible refine Calls.mono HRD.out ?_); rintro e w5 ⟨rfl, path, ser, vp, vs, vl, -, -, hR⟩; have hb5 := hR.below; obtain ⟨-, -, -, -, -, -, -, r7⟩ := hR.cell; rw [HER.out] at r7; replace HQ := Lib.hid (HQ.out.below hb5); replace HS := Lib.hid (HS.out.trans (QStep.below hb5)); clear c0 c1 c2 c3 hR hb5; obtain ⟨c0, c1, c2, c3⟩ := HQ.out.cell)
     | (go_at_call 54; (with_reducible refine Calls.mono (between_any (b := []) HQ.out.now (own_nil _ 0 _ _) HLB.out (by decide)) ?_); rintro e w8 ⟨v8, rfl, hO, hb⟩; have H8 := Lib.hid (own_weaken hO HS.out.size); replace HQ := Lib.hid (HQ.out.below hb); replace HS := Lib.hid (HS.out.trans (QStep.below hb)); clear c0 c1 c2 c3 hO hb; obtain ⟨c0, c1, c2, c3⟩ := HQ.out.cell))
    go_ret2
    unfold QPost
    rw [HPU.out]
    exact ⟨_, _, _, rfl, HQ.out, H8.out, HS.out⟩
   ·obtain ⟨er, her⟩ : ∃ er, (readR false L).e = er := ⟨_, rfl⟩
    have HER := Lib.hid her
    rw [her] at h1
    have HPU := Lib.hid (show qclose ⟨L, now, 0, false⟩ = ([], er, ⟨L, now, er, true⟩) by unfold qclose; simp [her, h1])
    have g1 : (er != 0) = true := by rw [bne_iff_ne]; exact h1
    clear her
    go_upto_region 9 with (first
     | ((with_reducible refine gate_ (.store 4 (.tmp 11) (.const (.bool true))) rfl ?_); refine wl_cells rfl rfl _ _ _ rfl (g := q) (off := 3) (.bool true) [.bool true] rfl rfl rfl (by kernel_rfl) (fun v hv => by rw [List.mem_singleton.1 hv]; rfl) HQ.out.box (by simp) ?_; intro V3 hV; have hA := HQ.out.set (Q' := ⟨L, now, 0, true⟩) (vL' := .slice A L.length c) (vN' := vN) 3 (.bool true) (by decide) rfl HQ.out.L HQ.out.now; have hS := HS.out.set (q := q) 3 [.bool true]; rw [← hV] at hA hS; obtain ⟨A9, c9, hv9, hc9, hC9⟩ := toks_C hA.L; injection hv9 with hv91 hv92 hv93; subst hv91; subst hv93; have HRD := Lib.hid (read_any A c L false V3 hC9 (by have := HLN.out; omega) nr rr HRR.out.1 (readR false L) HRR.out.2); replace HQ := Lib.hid hA; replace HS := Lib.hid hS; clear c0 c1 c2 c3 hA hS hV hc9 hC9; obtain ⟨c0, c1, c2, c3⟩ := HQ.out.cell)
     | (go_at_call 53; (with_reducible refine Calls.mono HRD.out ?_); rintro e w5 ⟨rfl, path, ser, vp, vs, vl, -, -, hR⟩; have hb5 := hR.below; obtain ⟨-, -, -, -, -, -, -, r7⟩ := hR.cell; rw [HER.out] at r7; replace HQ := Lib.hid (HQ.out.below hb5); replace HS := Lib.hid (HS.out.trans (QStep.below hb5)); clear c0 c1 c2 c3 hR hb5; obtain ⟨c0, c1, c2, c3⟩ := HQ.out.cell)
     | ((with_reducible refine gate_ (.store 39 (.tmp 37) (.tmp 35)) rfl ?_); refine wl_cells rfl rfl _ _ _ rfl (g := q) (off := 2) (.int .i64 er) [.int .i64 er] rfl rfl rfl (by kernel_rfl) (fun v hv => by rw [List.mem_singleton.1 hv]; rfl) HQ.out.box (by simp) ?_; intro V6 hV; have hA := HQ.out.set (Q' := ⟨L, now, er, true⟩) (vL' := .slice A L.length c) (vN' := vN) 2 (.int .i64 er) (by decide) rfl HQ.out.L HQ.out.now; have hS := HS.out.set (q := q) 2 [.int .i64 er]; rw [← hV] at hA hS; replace HQ := Lib.hid hA; replace HS := Lib.hid hS; clear c0 c1 c2 c3 hA hS hV; obtain ⟨c0, c1, c2, c3⟩ := HQ.out.cell))
    go_quiet (fail)
    go_wp2
    go_ret2
    unfold QPost
    rw [HPU.out]
    exact ⟨_, _, _, rfl, HQ.out.below (below_drewN (Below.refl _ _) _), own_nil _ _ _ _, HS.out.trans (QStep.below (below_drewN (Below.refl _ _) _))⟩
  ·have g1 : (e0 != 0) = true := by rw [bne_iff_ne]; exact he
   have HPU := Lib.hid (show qclose ⟨L, now, e0, false⟩ = ([], e0, ⟨L, now, e0, true⟩) by unfold qclose; simp [he])
   go_upto_region 5 with (first
    | ((with_reducible refine gate_ (.store 4 (.tmp 11) (.const (.bool true))) rfl ?_); refine wl_cells rfl rfl _ _ _ rfl (g := q) (off := 3) (.bool true) [.bool true] rfl rfl rfl (by kernel_rfl) (fun v hv => by rw [List.mem_singleton.1 hv]; rfl) HQ.out.box (by simp) ?_; intro V3 hV; have hA := HQ.out.set (Q' := ⟨L, now, e0, true⟩) (vL' := .slice A L.length c) (vN' := vN) 3 (.bool true) (by decide) rfl HQ.out.L HQ.out.now; have hS := HS.out.set (q := q) 3 [.bool true]; rw [← hV] at hA hS; obtain ⟨A9, c9, hv9, hc9, hC9⟩ := toks_C hA.L; injection hv9 with hv91 hv92 hv93; subst hv91; subst hv93; replace HQ := Lib.hid hA; replace HS := Lib.hid hS; clear c0 c1 c2 c3 hA hS hV hc9 hC9; obtain ⟨c0, c1, c2, c3⟩ := HQ.out.cell))
   go_quiet (fail)
   go_wp2
   go_ret2
   unfold QPost
   rw [HPU.out]
   exact ⟨_, _, _, rfl, HQ.out.below (below_drewN (Below.refl _ _) _), own_nil _ _ _ _, HS.out.trans (QStep.below (below_drewN (Below.refl _ _) _))⟩
theorem rdepth_any {w : World} {q : Nat} {Q : QS} {vL vN : Value} (H : QAt w q Q vL vN) : Calls Try.prog 35 #[.pointer (some ⟨q, 0, none⟩)] w fun e w' => e = .returned (.int .i64 (if Q.cl then 0 else Q.now.length)) ∧ w' = w := by
 obtain ⟨L, now, e0, cl⟩ := Q
 obtain ⟨A1, k1, hv, -⟩ := row_slice H.now
 subst hv
 obtain ⟨c0, c1, c2, c3⟩ := H.cell
 dsimp only at c1 c2 c3 ⊢
 clear H
 go_enter Try.func35, Try.ntmps35
 cases cl with
 | true =>
  go_wp2
  go_ret
  exact ⟨rfl, rfl⟩
 | false =>
  go_wp2
  go_ret
  exact ⟨rfl, rfl⟩
theorem rnew_any (w : World) : Calls Try.prog 10 #[] w fun e w' => e = .returned (.pointer (some ⟨w.heap.size, 0, none⟩)) ∧ QAt w' w.heap.size ⟨[], [], 0, false⟩ (.slice none 0 0) (.slice none 0 0) ∧ Below w.heap.size w w' := by
 go_enter Try.func10, Try.ntmps10
 go_wp2
 go_ret
 exact ⟨rfl, ⟨World.alloc_heap_new _ _, own_nil _ _ _ _, own_nil _ _ _ _⟩, (Below.refl _ w).alloc (Nat.le_refl _) _⟩
end Go.Proofs.Ytmjbpgnjgblnmaa
namespace Go.Proofs.Ytmjbpgnjgblnmaa
open Go.RowKit Go.Proofs.YtmjbpgnjgblnmaaW.PrintWords Go.Proofs.YtmjbpgnjgblnmaaW.PrintLast Go.Proofs.YtmjbpgnjgblnmaaW.PrintMore
theorem ev_take (l : List Ev) (j : Nat) (hj : j ≤ l.length) : (l.flatMap evCells).take (j * 8) = (l.take j).flatMap evCells := by
 have h4 : l.flatMap evCells = (l.take j).flatMap evCells ++ (l.drop j).flatMap evCells := by rw [← List.flatMap_append, List.take_append_drop]
 rw [h4, List.take_left' (by rw [evs_len, List.length_take, Nat.min_eq_left hj])]
theorem ev_drop (l : List Ev) (j : Nat) (hj : j ≤ l.length) : (l.flatMap evCells).drop (j * 8) = (l.drop j).flatMap evCells := by
 have h4 : l.flatMap evCells = (l.take j).flatMap evCells ++ (l.drop j).flatMap evCells := by rw [← List.flatMap_append, List.take_append_drop]
 conv => lhs; rw [h4]
 rw [List.drop_left' (by rw [evs_len, List.length_take, Nat.min_eq_left hj])]
theorem gr_refl (w : World) (row : Option Nat) : w.grownBy w row := ⟨rfl, rfl, rfl, Nat.le_refl _, fun _ _ _ => rfl⟩
theorem gr_trans {w w1 w2 : World} {row : Option Nat} (h : w.grownBy w1 row) (k : w1.grownBy w2 row) : w.grownBy w2 row :=
 ⟨k.os.trans h.os, k.tape.trans h.tape, k.output.trans h.output, Nat.le_trans h.size k.size, fun i hi hr => (k.block i (Nat.lt_of_lt_of_le hi h.size) hr).trans (h.block i hi hr)⟩
theorem take_mid {α : Type} (L : List α) (a b N : Nat) (seg : List α) (hb : b = a + seg.length) (h : b ≤ N) (hN : N ≤ L.length) : (L.take a ++ seg ++ L.drop (a + seg.length)).take N = (L.take N).take a ++ seg ++ (L.take N).drop b := by
 have hA : (L.take a).length = a := by rw [List.length_take]; omega
 rw [List.take_take, Nat.min_eq_left (by omega), List.append_assoc, List.append_assoc, List.take_append, hA, show (L.take a).take N = L.take a from List.take_of_length_le (by omega), List.take_append, show seg.take (N - a) = seg from List.take_of_length_le (by omega), List.drop_take, hb, show N - a - seg.length = N - (a + seg.length) by omega]
theorem ev_put {w : World} {B g cap n : Nat} {es : List Ev} (h : w.ownsRow B 46 8 (.slice (some ⟨g, 0, none⟩) n cap) n (es.flatMap evCells)) (hn : es.length = n) {j : Nat} (hj : j < n) (x : Ev) :
  (∃ cur : Array Value, w.heap[g]? = some (.cells cur 46 (0, 0)) ∧ j * 8 + (evCells x).length ≤ cur.size) ∧ ∀ V, V = w.setCells g (j * 8) (evCells x) → (∃ es' : List Ev, es'.length = n ∧ V.ownsRow B 46 8 (.slice (some ⟨g, 0, none⟩) n cap) n (es'.flatMap evCells)) ∧ w.grownBy V (some g) := by
 rcases h.2 with ⟨hh, _⟩ | ⟨g', cap', cur, hh, hb, hg, hnc, hcm, hcs, htake⟩
 ·cases hh
 ·simp only [Value.slice.injEq, Option.some.injEq, Addr.mk.injEq, and_true, true_and] at hh
  obtain ⟨rfl, rfl⟩ := hh
  have hfit : j * 8 + (evCells x).length ≤ cur.size := by rw [evCells_len]; omega
  refine ⟨⟨cur, hg, hfit⟩, ?_⟩
  rintro _ rfl
  obtain ⟨cur', k1, k2, k3⟩ := setCells_row (evCells x) (j * 8) w _ hg hfit
  have hsm := setCells_same g (evCells x) (j * 8) w
  refine ⟨⟨es.take j ++ [x] ++ es.drop (j + 1), by simp; omega, ?_, .inr ⟨g, cap, cur', rfl, hb, k1, hnc, hcm, k2.trans hcs, ?_⟩⟩, ⟨hsm.1, hsm.2.1, hsm.2.2.1, by rw [hsm.2.2.2]; exact Nat.le_refl _, fun k hk hne => setCells_far _ _ k (fun e => hne (by rw [e]))⟩⟩
  ·rw [evs_len]; simp; omega
  ·rw [k3, List.flatMap_append, List.flatMap_append, List.flatMap_cons, List.flatMap_nil, List.append_nil, ← ev_take es j (by omega), ← ev_drop es (j + 1) (by omega), ← htake]
   exact take_mid cur.toList (j * 8) ((j + 1) * 8) (n * 8) (evCells x) (by rw [evCells_len]; omega) (by omega) (by rw [Array.length_toList]; omega)
theorem own_behind {w : World} {B g cap n size : Nat} {e : TypeId} {xs : List Value} (h : w.ownsRow B e size (.slice (some ⟨g, 0, none⟩) n cap) n xs) {off : Nat} {seg : List Value} {cur0 : Array Value} (hg0 : w.heap[g]? = some (.cells cur0 e (0, 0))) (hoff : n * size ≤ off) (hfit : off + seg.length ≤ cur0.size) : (w.setCells g off seg).ownsRow B e size (.slice (some ⟨g, 0, none⟩) n cap) n xs := by
 rcases h.2 with ⟨hh, _⟩ | ⟨g', cap', cur, hh, hb, hg, hnc, hcm, hcs, htake⟩
 ·cases hh
 ·simp only [Value.slice.injEq, Option.some.injEq, Addr.mk.injEq, and_true, true_and] at hh
  obtain ⟨rfl, rfl⟩ := hh
  rw [hg] at hg0
  have hcc : cur = cur0 := by injection hg0 with h1; injection h1
  subst hcc
  obtain ⟨cur', k1, k2, k3⟩ := setCells_row seg off w _ hg hfit
  refine ⟨h.1, .inr ⟨g, cap, cur', rfl, hb, k1, hnc, hcm, k2.trans hcs, ?_⟩⟩
  rw [k3, List.append_assoc, List.take_append, List.length_take, Array.length_toList, Nat.min_eq_left (by omega), List.take_take, Nat.min_eq_left hoff, htake, show n * size - off = 0 by omega, List.take_zero, List.append_nil]
theorem wl_keep1 {ops : Array Oper} {rest : List Oper} {o : Oper} {a : Act} {Q : Exit → Act → World → Prop} {W : World} (hgd : o.guard = none) (s x : Operand) (ho : o.op = .call { callee := .builtin .append, args := #[s, x], argTypes := #[38, 38] }) (base : Nat) {u : Value} {es : List Ev} (e1 : Ev) (hs : a.eval s = u) (hx : a.eval x = .slice (some ⟨W.heap.size, 0, none⟩) 1 1)
  (HO : W.ownsRow base 46 8 u es.length (es.flatMap evCells)) (hbase : base ≤ W.heap.size) (hl : es.length ≤ 1099511627776)
  (h : ∀ g1 c1 w1, w1.ownsRow 0 46 8 (.slice (some ⟨g1, 0, none⟩) (es.length + 1) c1) (es.length + 1) (es.flatMap evCells ++ evCells e1) → w1.ownsRow base 46 8 u es.length (es.flatMap evCells) → W.grownBy w1 u.ownBlock → (u.ownBlock = some g1 ∨ W.heap.size ≤ g1) → wpList Try.prog ops Q rest (a.put o.dst (.slice (some ⟨g1, 0, none⟩) (es.length + 1) c1)) w1) : wpList Try.prog ops Q (o :: rest) a (W.alloc (.cells (evCells e1).toArray 46)) := by
 obtain ⟨i0, hi, hzz⟩ := Option.map_eq_some_iff.1 infoEv
 simp only [Prod.mk.injEq] at hzz
 obtain ⟨hz0, hz1, hz2⟩ := hzz
 have HO2 := HO.alloc (.cells (evCells e1).toArray 46)
 have hnews : ∀ j v, (evCells e1)[j]? = some v → (W.alloc (.cells (evCells e1).toArray 46)).cell? ((⟨W.heap.size, 0, none⟩ : Addr).add j) = some v := by
  simpa using World.news_of_block (cs := (evCells e1).toArray) (t := 46) (fr := (0, 0)) (heap_alloc_new W (.cells (evCells e1).toArray 46))
 have hga := World.grownBy_alloc W (.cells (evCells e1).toArray 46)
 rcases HO.2 with ⟨rfl, hn0⟩ | ⟨g, cap, cur, rfl, hb, hg, hnc, hcm, hcs, htake⟩
 ·have hnil : es = [] := List.length_eq_zero_iff.1 hn0
  subst hnil
  refine wpList_append_grows (W.alloc (.cells (evCells e1).toArray 46)) hgd s x 38 ho 46 i0 _ 8 64 Try.underlying38 hi hz0 hz1 hz2 rfl (by decide) none 0 0 [] hs (fun _ => ⟨rfl, rfl⟩) rfl (fun b h => by cases h) ⟨W.heap.size, 0, none⟩ 1 1 (evCells e1) hx rfl hnews (evCells_one e1) (by decide) (by decide) (by decide) (fun v' w' h1 h2 => ?_)
  rcases h1.2 with ⟨_, hn⟩ | ⟨g1, c1, cur1, rfl, hb1, hg1, -⟩
  ·omega
  ·refine h g1 c1 w' (own_weaken h1 (Nat.zero_le _)) (own_nil _ _ _ _) (World.grownBy.trans (hga _) ⟨h2.os, h2.tape, h2.output, h2.size, fun k hk _ => h2.block k hk (by simp)⟩) (.inr ?_)
   rw [World.size_alloc] at hb1; omega
 ·by_cases hroom : es.length + 1 ≤ cap
  ·obtain ⟨w', hr, h1, h2⟩ := run_append_fits (P := Try.prog) (W.alloc (.cells (evCells e1).toArray 46)) base 38 o.type 46 i0 8 Try.underlying38 hi hz1 g es.length cap _ HO2 ⟨W.heap.size, 0, none⟩ 1 1 (evCells e1) rfl hnews (evCells_one e1) hroom
   refine wpList_plain hgd fun K hK => ?_
   unfold Oper.wp execOp
   simp only [ho, resolve, invoke, builtin, Sem.run_bind, Sem.run_pure, Result.andThen_ok, List.map_toArray, List.map_cons, List.map_nil, hs, hx, hr]
   refine hK _ _ (h g cap w' (own_weaken h1 (Nat.zero_le _)) ?_ (World.grownBy.trans (hga _) h2) (.inl rfl))
   have := own_take h1 (m := es.length) (by omega)
   rw [List.take_left' (by rw [evs_len])] at this
   exact this
  ·refine wpList_append_grows (W.alloc (.cells (evCells e1).toArray 46)) hgd s x 38 ho 46 i0 _ 8 64 Try.underlying38 hi hz0 hz1 hz2 rfl (by decide) (some ⟨g, 0, none⟩) es.length cap (es.flatMap evCells) hs (fun h => by cases h) (evs_len es) (fun b h => by cases h; exact row_news HO2) ⟨W.heap.size, 0, none⟩ 1 1 (evCells e1) hx rfl hnews (evCells_one e1) (by omega) (by simp only [maxLen]; omega) (by omega) (fun v' w' h1 h2 => ?_)
   rcases h1.2 with ⟨_, hn⟩ | ⟨g1, c1, cur1, rfl, hb1, hg1, -⟩
   ·omega
   ·refine h g1 c1 w' (own_weaken h1 (Nat.zero_le _)) (own_move HO2 (fun k hk => h2.block k (own_lt HO2 k hk) (by simp))) (World.grownBy.trans (hga _) ⟨h2.os, h2.tape, h2.output, h2.size, fun k hk _ => h2.block k hk (by simp)⟩) (.inr ?_)
    rw [World.size_alloc] at hb1; omega
theorem own_spoilt {w0 w : World} {base g1 c1 n : Nat} {u : Value} {es : List Ev} {xs : List Value} (h1 : w.ownsRow 0 46 8 (.slice (some ⟨g1, 0, none⟩) (n + 1) c1) (n + 1) xs) (h2 : w.ownsRow base 46 8 u n (es.flatMap evCells)) (hg : w0.grownBy w u.ownBlock) (hat : u.ownBlock = some g1 ∨ w0.heap.size ≤ g1) (v : Value) :
  (∃ cur : Array Value, w.heap[g1]? = some (.cells cur 46 (0, 0)) ∧ n * 8 + 1 + 1 ≤ cur.size) ∧ ∀ V, V = w.setCells g1 (n * 8 + 1) [v] → V.ownsRow base 46 8 u n (es.flatMap evCells) ∧ w0.grownBy V u.ownBlock := by
 rcases h1.2 with ⟨hh, _⟩ | ⟨g', cap', cur, hh, hb, hgg, hnc, hcm, hcs, htake⟩
 ·cases hh
 ·simp only [Value.slice.injEq, Option.some.injEq, Addr.mk.injEq, and_true, true_and] at hh
  obtain ⟨rfl, rfl⟩ := hh
  have hfit : n * 8 + 1 + 1 ≤ cur.size := by omega
  refine ⟨⟨cur, hgg, hfit⟩, ?_⟩
  rintro _ rfl
  have hsm := setCells_same g1 [v] (n * 8 + 1) w
  refine ⟨?_, ⟨hsm.1.trans hg.os, hsm.2.1.trans hg.tape, hsm.2.2.1.trans hg.output, by rw [hsm.2.2.2]; exact hg.size, fun k hk hne => (setCells_far _ _ k (fun e => ?_)).trans (hg.block k hk hne)⟩⟩
  ·by_cases hu : u.ownBlock = some g1
   ·rcases h2.2 with ⟨rfl, _⟩ | ⟨g2, cap2, cur2, rfl, _⟩
    ·simp [Value.ownBlock] at hu
    ·have : g2 = g1 := by simpa [Value.ownBlock] using hu
     subst this
     exact own_behind h2 hgg (by omega) (by simpa using hfit)
   ·exact own_move h2 (fun k hk => setCells_far _ _ k (fun e => hu (e ▸ hk)))
  ·subst e
   rcases hat with h | h
   ·exact hne h.symm
   ·omega
def SpoilPost (B : Nat) (v : Value) (n : Nat) (w : World) (e : Ending) (w' : World) : Prop := e = .returned (.tuple #[]) ∧ (∃ es' : List Ev, es'.length = n ∧ w'.ownsRow B 46 8 v n (es'.flatMap evCells)) ∧ w.grownBy w' v.ownBlock
set_option maxRecDepth 100000 in
set_option maxHeartbeats 4000000 in
theorem spoil_any (B : Nat) (v : Value) (n : Nat) (es : List Ev) (w : World) (hn : es.length = n) (h : w.ownsRow B 46 8 v n (es.flatMap evCells)) (hB : B ≤ w.heap.size) (hl : n ≤ 1099511627776) :
  Calls Try.prog 34 #[v] w (SpoilPost B v n w) := by
 obtain ⟨A, c, hv, -⟩ := row_slice h
 have HI0 : Hid (∃ es' : List Ev, es'.length = n ∧ w.ownsRow B 46 8 v n (es'.flatMap evCells) ∧ w.grownBy w v.ownBlock) := Lib.hid ⟨es, hn, h, gr_refl _ _⟩
 have HL := Lib.hid (And.intro hl hB)
 clear h hB hl hn
 subst hv
 go_enter Try.func34, Try.ntmps34
 go_wp2
 go_loopw [2] (fun v2 wr => ∃ j : Nat, j ≤ n ∧ v2 = .int .i64 j ∧ Hid (∃ es' : List Ev, es'.length = n ∧ wr.ownsRow B 46 8 (.slice A n c) n (es'.flatMap evCells) ∧ w.grownBy wr (Value.slice A n c).ownBlock)) (fun v2 _ => n - (intOf v2).toNat)
 case atStart => exact ⟨0, Nat.zero_le _, rfl, HI0⟩
 case round =>
  obtain ⟨j, hj, rfl, H⟩ := hrel
  obtain ⟨es1, hn1, ho1, hg1⟩ := H.out
  clear HI0 H
  have HG := Lib.hid hg1
  by_cases hlt : j < n
  ·obtain ⟨g, cap, hv, -, -⟩ := ho1.form (by omega)
   injection hv with hv1 hv2 hv3
   subst hv1
   have k1 : (j : Int) < (n : Int) := by omega
   have k2 : (0 : Int) ≤ j := by omega
   have k3 : wrap64 ((j : Int) + 1) = (j : Int) + 1 := by unfold wrap64; have := HL.out; omega
   have k4 : IntKind.i64.wrap ((j : Int) + 1) = (j : Int) + 1 := by rw [IntKind.wrap_i64]; have := HL.out; omega
   obtain ⟨⟨cur, hc1, hc2⟩, hnx⟩ := ev_put ho1 hn1 hlt ⟨77, 0, noTk⟩
   have HC := Lib.hid (And.intro hc1 hc2)
   have HNX := Lib.hid hnx
   clear hc1 hc2 hnx ho1 hn1 hg1
   go_wp2_with ((with_reducible refine gate_ (.store 46 (.tmp 13) (.tmp 12)) rfl ?_); refine wl_cells rfl rfl _ _ _ rfl (g := g) (off := j * 8) (.agg #[.int .u8 77, .int .u8 0, .int .u8 0, .string ⟨#[]⟩, .int .i64 0, .int .i64 0, .int .i64 0, .int .i64 0]) (evCells ⟨77, 0, noTk⟩) rfl rfl rfl (by kernel_rfl) (evCells_one _) HC.out.1 HC.out.2 ?_; intro V1 hV; obtain ⟨hE, hG2⟩ := HNX.out V1 hV; have HN := Lib.hid (And.intro hE hG2); clear hE hG2 hV)
   go_roundw
   case rel =>
    refine ⟨j + 1, by omega, by go_num, Lib.hid ?_⟩
    obtain ⟨⟨es2, h1, h2⟩, h3⟩ := HN.out
    exact ⟨es2, h1, h2, gr_trans HG.out h3⟩
   case measure => simp [intOf] <;> omega
  ·have hjn : j = n := by omega
   subst hjn
   have k1 : ¬ (j : Int) < (j : Int) := by omega
   have k2 : wrap64 (((j : Int) + 1) - 1) = j := by unfold wrap64; have := HL.out; omega
   have HO := Lib.hid ho1
   have HN := Lib.hid hn1
   have hsz := Nat.le_trans HL.out.2 hg1.size
   have HSZ := Lib.hid hsz
   obtain ⟨m, hm⟩ : ∃ m, j + 1 = m := ⟨_, rfl⟩
   have g5 : IntKind.i64.wrap ((m : Int) - 1) = j := by rw [IntKind.wrap_i64]; have := HL.out; omega
   have g6 : wrap64 ((m : Int) - 1) = j := by unfold wrap64; have := HL.out; omega
   have g7 : (j : Int) < m := by omega
   have g8 : (0 : Int) ≤ j := by omega
   have HM := Lib.hid hm
   clear ho1 hn1 hg1 hsz k2 hm
   go_wp2_with (first
    | ((with_reducible refine gate_dst (N := 17) rfl ?_); refine wl_keep1 (W := wr) rfl (.tmp 14) (.tmp 16) rfl B ⟨78, 0, noTk⟩ (u := .slice A j c) (es := es1) rfl rfl (by rw [HN.out]; exact HO.out) HSZ.out (by have := HL.out; have := HN.out; omega) ?_; intro g1 c1 w1 ho1 ho2 hg hat; rw [HN.out] at ho1 ho2; obtain ⟨⟨cur, hc1, hc2⟩, hnx⟩ := own_spoilt ho1 ho2 hg hat (.int .u8 79); have HC := Lib.hid (And.intro hc1 hc2); have HNX := Lib.hid hnx; rw [HN.out, HM.out]; clear ho1 ho2 hg hat hc1 hc2 hnx)
    | ((with_reducible refine gate_ (.store 44 (.tmp 23) (.const (.int .u8 79))) rfl ?_); refine wl_cells rfl rfl _ _ _ rfl (g := g1) (off := j * 8 + 1) (.int .u8 79) [.int .u8 79] rfl rfl rfl (by kernel_rfl) (fun v hv => by rw [List.mem_singleton.1 hv]; rfl) HC.out.1 HC.out.2 ?_; intro V1 hV; obtain ⟨hE, hG2⟩ := HNX.out V1 hV; have HF := Lib.hid (And.intro hE hG2); clear hE hG2 hV))
   go_end0
   exact ⟨rfl, ⟨es1, HN.out, HF.out.1⟩, gr_trans HG.out HF.out.2⟩
end Go.Proofs.Ytmjbpgnjgblnmaa
namespace Go.Proofs.Ytmjbpgnjgblnmaa
open Go.RowKit Go.Proofs.YtmjbpgnjgblnmaaW.PrintWords Go.Proofs.YtmjbpgnjgblnmaaW.PrintLast Go.Proofs.YtmjbpgnjgblnmaaW.PrintMore
structure TIn (i : Nat) (P : Par) (Q : QS) : Prop where
 ends : Ends P.todo
 bt : P.todo.length ≤ 6 + 77 * i
 d1 : -1 ≤ P.depth
 d2 : P.depth ≤ 1000
 ql : Q.L.length ≤ i
 qn : Q.now.length ≤ 1000
 ag : Agree P Q
theorem now_len {P : Par} {Q : QS} (H : Agree P Q) (hc : P.closed = false) (hw : P.wrong = 0) : Q.now.length ≤ 1000 := by
 obtain ⟨op, p', path, ser, S⟩ := H.fine hc hw
 have hn := S.now
 have hl := S.len
 have hf := S.inv.fins
 have hm := S.inv.most
 cases hb : P.begun with
 | false =>
  rw [hb, if_neg (by decide)] at hn
  rw [hn]; exact Nat.zero_le _
 | true =>
  rw [hb, if_pos rfl] at hn hf
  rw [hn, hl, hf]; exact hm
theorem qput_now {Q : QS} {t : Tk} (h : (qput Q t).2.2.e ≠ 0 ∨ Q.cl = true) : (qput Q t).2.2.now = Q.now := by
 unfold qput at h ⊢
 by_cases hc : Q.cl = true
 ·rw [if_pos hc]
 rw [if_neg hc] at h ⊢
 by_cases he : Q.e ≠ 0
 ·rw [if_pos he]
 rw [if_neg he] at h ⊢
 by_cases hn : isNote t = true
 ·rw [if_pos hn] at h
  rcases h with h | h
  ·exact absurd h (by simpa using he)
  ·exact absurd h hc
 rw [if_neg hn] at h ⊢
 split
 ·rfl
 ·rename_i hr
  rw [if_neg hr] at h
  rcases h with h | h
  ·exact absurd h (by simpa using he)
  ·exact absurd h hc
theorem qput_L (Q : QS) (t : Tk) : (qput Q t).2.2.L.length ≤ Q.L.length + 1 := by
 unfold qput
 split
 ·exact Nat.le_succ _
 split
 ·exact Nat.le_succ _
 split
 ·exact Nat.le_succ _
 split
 ·exact Nat.le_succ _
 ·simp
theorem TIn.put {i : Nat} {P : Par} {Q : QS} (H : TIn i P Q) (t : Tk) : TIn (i + 1) (put P t).2.2 (qput Q t).2.2 := by
 obtain ⟨-, -, ha⟩ := qput_agree H.ag t
 have hq : (qput Q t).2.2.now.length ≤ 1000 := by
  by_cases hc : Q.cl = true
  ·rw [qput_now (.inr hc)]; exact H.qn
  ·by_cases he : (qput Q t).2.2.e = 0
   ·refine now_len ha ?_ (by rw [ha.e]; exact he)
    have hcl : P.closed = false := by rw [H.ag.cl]; simpa using hc
    unfold _root_.Go.Proofs.Ytmjbpgnjgblnmaa.put
    rw [if_neg (by rw [hcl]; decide)]
    split
    ·exact hcl
    split
    ·exact hcl
    dsimp only
    split <;> exact hcl
   ·rw [qput_now (.inl he)]; exact H.qn
 have hd : -1 ≤ (_root_.Go.Proofs.Ytmjbpgnjgblnmaa.put P t).2.2.depth ∧ (_root_.Go.Proofs.Ytmjbpgnjgblnmaa.put P t).2.2.depth ≤ 1000 := by
  by_cases hc : (_root_.Go.Proofs.Ytmjbpgnjgblnmaa.put P t).2.2.closed = false
  ·rw [ha.len hc]; omega
  ·by_cases hp : P.closed = true
   ·have : (_root_.Go.Proofs.Ytmjbpgnjgblnmaa.put P t).2.2 = P := by unfold _root_.Go.Proofs.Ytmjbpgnjgblnmaa.put; rw [if_pos hp]
    rw [this]; exact ⟨H.d1, H.d2⟩
   ·exfalso
    have hcl : P.closed = false := by simpa using hp
    apply hc
    unfold _root_.Go.Proofs.Ytmjbpgnjgblnmaa.put
    rw [if_neg hp]
    split
    ·exact hcl
    split
    ·exact hcl
    dsimp only
    split <;> exact hcl
 have hl := put_len P t
 have hb := H.bt
 have hL := qput_L Q t
 have hql := H.ql
 exact ⟨put_ends t H.ends, by omega, hd.1, hd.2, by omega, hq, ha⟩
theorem TIn.close {i : Nat} {P : Par} {Q : QS} (H : TIn i P Q) : TIn i (closeP P).2.2 (qclose Q).2.2 := by
 obtain ⟨-, -, ha⟩ := qclose_agree H.ag
 have h1 : (closeP P).2.2.todo = P.todo := by
  unfold closeP
  split
  ·rfl
  split
  ·rfl
  split <;> rfl
 have h2 : (qclose Q).2.2.L = Q.L ∧ (qclose Q).2.2.now = Q.now := by
  unfold qclose
  split
  ·exact ⟨rfl, rfl⟩
  split
  ·exact ⟨rfl, rfl⟩
  split <;> exact ⟨rfl, rfl⟩
 have hd : -1 ≤ (closeP P).2.2.depth ∧ (closeP P).2.2.depth ≤ 1000 := by
  have hd1 := H.d1
  have hd2 := H.d2
  unfold closeP
  by_cases hc : P.closed = true
  ·rw [if_pos hc]; exact ⟨hd1, hd2⟩
  have hcl : P.closed = false := by simpa using hc
  have hlen := H.ag.len hcl
  rw [if_neg hc]
  split
  ·exact ⟨hd1, hd2⟩
  split
  ·exact ⟨hd1, hd2⟩
  ·dsimp only; omega
 exact ⟨by rw [h1]; exact H.ends, by rw [h1]; exact H.bt, hd.1, hd.2, by rw [h2.1]; exact H.ql, by rw [h2.2]; exact H.qn, ha⟩
theorem TIn.mono {i j : Nat} {P : Par} {Q : QS} (H : TIn i P Q) (h : i ≤ j) : TIn j P Q := ⟨H.ends, by have := H.bt; omega, H.d1, H.d2, Nat.le_trans H.ql h, H.qn, H.ag⟩
theorem tin_new : TIn 0 newPar ⟨[], [], 0, false⟩ := by
 refine ⟨?_, by decide, by decide, by decide, Nat.le_refl _, Nat.zero_le _, agree_new⟩
 intro k hk
 simp only [newPar, List.mem_cons, List.not_mem_nil, or_false, reduceCtorEq, false_or, WT.fin.injEq] at hk
 omega
theorem TIn.lens {i : Nat} {P : Par} {Q : QS} (H : TIn i P Q) (t : Tk) : Q.cl = false → Q.e = 0 → isNote t = false → (qnow Q).length ≤ 1000000 ∧ (readR false (Q.L ++ [t])).last.length ≤ 1000000 := by
 intro hc he hn
 have hcp : P.closed = false := by rw [H.ag.cl]; exact hc
 have hwp : P.wrong = 0 := by rw [H.ag.e]; exact he
 refine ⟨?_, ?_⟩
 ·unfold qnow
  have := H.qn
  split
  ·simp
  ·omega
 ·obtain ⟨op, p', path, ser, S⟩ := H.ag.fine hcp hwp
  obtain ⟨r1, r2⟩ := S.read t
  by_cases h0 : (token t P.todo (preD P)).1 = 0
  ·have hq : (qput Q t).2.2.now = (readR false (Q.L ++ [t])).last := by
    unfold qput
    obtain ⟨r3, -⟩ := r2 h0
    rw [if_neg (by rw [hc]; decide), if_neg (by rw [he]; exact fun h => h rfl), if_neg (by rw [hn]; decide), if_neg (by omega)]
   have := (H.put t).qn
   rw [hq] at this
   omega
  ·have h1 := rdRun_pre (Q.L ++ [t]).length Q.L [t] par0 rs0 p' (path, ser) rfl (by rw [List.length_append]; simp [rs0]) S.st
   have h2 : readR false (Q.L ++ [t]) = rdRun false (Q.L ++ [t]).length p' (midR rs0 (rs0.i + Q.L.length) (path, ser)) [t] := h1
   rw [h2, rdRun, S.todo, S.depth, if_pos h0]
   exact Nat.zero_le _
theorem TIn.pin {i : Nat} {P : Par} {Q : QS} (H : TIn i P Q) {w : World} {p : Nat} {es : List Ev} {vt ve : Value} (hA : PAt w p P.todo es P.depth P.begun P.wrong P.closed vt ve) (hi : i ≤ 1000000) : PIn w p P es vt ve :=
 ⟨hA, H.ends, by have := H.bt; omega, by have := H.d1; omega, by have := H.d2; omega⟩
end Go.Proofs.Ytmjbpgnjgblnmaa
namespace Go.Proofs.Ytmjbpgnjgblnmaa
open Go.RowKit Go.Proofs.YtmjbpgnjgblnmaaW.PrintWords Go.Proofs.YtmjbpgnjgblnmaaW.PrintLast Go.Proofs.YtmjbpgnjgblnmaaW.PrintMore
theorem QAt.pstep {w w1 : World} {p q : Nat} {Q : QS} {vL vN vt ve vt' ve' : Value} {s : List WT} {es : List Ev} {d : Int} {b : Bool} {wc : Int} {cl : Bool} (H : QAt w q Q vL vN) (hP : PAt w p s es d b wc cl vt ve) (hs : PStep p vt ve w vt' ve' w1) : QAt w1 q Q vL vN :=
 H.move (fun k hk h => by
  obtain ⟨cs, T, hc, hT⟩ := H.typed k h
  refine hs.block k hk (fun e => ?_) (fun e => ?_) (fun e => ?_)
  ·rw [e, hP.box] at hc
   have := cells_ty hc
   subst this
   revert hT; decide
  ·obtain ⟨cs2, hc2⟩ := own_typed hP.todo k e.symm
   rw [hc] at hc2
   have := cells_ty hc2
   subst this
   revert hT; decide
  ·obtain ⟨cs2, hc2⟩ := own_typed hP.evs k e.symm
   rw [hc] at hc2
   have := cells_ty hc2
   subst this
   revert hT; decide)
theorem PAt.qstep {w w1 : World} {p q : Nat} {Q : QS} {vL vN vt ve : Value} {s : List WT} {es : List Ev} {d : Int} {b : Bool} {wc : Int} {cl : Bool} (hP : PAt w p s es d b wc cl vt ve) (H : QAt w q Q vL vN) (hs : QStep q w w1) : PAt w1 p s es d b wc cl vt ve := by
 refine ⟨(hs.block p (blk_lt hP.box) (fun e => ?_)).trans hP.box, own_move hP.todo (fun k hk => hs.block k (own_lt hP.todo k hk) (fun e => ?_)), own_move hP.evs (fun k hk => hs.block k (own_lt hP.evs k hk) (fun e => ?_))⟩
 ·have h1 := hP.box
  rw [e, H.box] at h1; exact absurd (cells_ty h1) (by decide)
 ·obtain ⟨cs2, hc2⟩ := own_typed hP.todo k hk
  rw [e, H.box] at hc2; exact absurd (cells_ty hc2) (by decide)
 ·obtain ⟨cs2, hc2⟩ := own_typed hP.evs k hk
  rw [e, H.box] at hc2; exact absurd (cells_ty hc2) (by decide)
theorem row_qstep {w w1 : World} {q base size n : Nat} {Q : QS} {vL vN v : Value} {xs : List Value} (h : w.ownsRow base 46 size v n xs) (H : QAt w q Q vL vN) (hs : QStep q w w1) : w1.ownsRow base 46 size v n xs :=
 own_move h (fun k hk => hs.block k (own_lt h k hk) (fun e => by
  obtain ⟨cs2, hc2⟩ := own_typed h k hk
  rw [e, H.box] at hc2; exact absurd (cells_ty hc2) (by decide)))
structure TStep (p q : Nat) (vt ve : Value) (w : World) (vt' ve' : Value) (w' : World) : Prop where
 os : w'.os = w.os
 tape : w'.tape = w.tape
 output : w'.output = w.output
 size : w.heap.size ≤ w'.heap.size
 block : ∀ k, k < w.heap.size → k ≠ p → k ≠ q → some k ≠ vt.ownBlock → some k ≠ ve.ownBlock → w'.heap[k]? = w.heap[k]?
 ft : ∀ g, vt'.ownBlock = some g → vt.ownBlock = some g ∨ w.heap.size ≤ g
 fe : ∀ g, ve'.ownBlock = some g → ve.ownBlock = some g ∨ w.heap.size ≤ g
theorem TStep.of_P {p q : Nat} {vt ve vt' ve' : Value} {w w' : World} (h : PStep p vt ve w vt' ve' w') : TStep p q vt ve w vt' ve' w' := ⟨h.os, h.tape, h.output, h.size, fun k hk h0 _ h1 h2 => h.block k hk h0 h1 h2, h.ft, h.fe⟩
theorem TStep.thenQ {p q : Nat} {vt ve vt' ve' : Value} {w w1 w2 : World} (h : TStep p q vt ve w vt' ve' w1) (k : QStep q w1 w2) : TStep p q vt ve w vt' ve' w2 :=
 ⟨k.os.trans h.os, k.tape.trans h.tape, k.output.trans h.output, Nat.le_trans h.size k.size, fun i hi h0 h1 h2 h3 => (k.block i (Nat.lt_of_lt_of_le hi h.size) h1).trans (h.block i hi h0 h1 h2 h3), h.ft, h.fe⟩
theorem TStep.thenE {p q : Nat} {vt ve vt' ve' : Value} {w w1 w2 : World} {row : Option Nat} (h : TStep p q vt ve w vt' ve' w1) (k : w1.grownBy w2 row) (hr : ∀ g, row = some g → ve'.ownBlock = some g) : TStep p q vt ve w vt' ve' w2 := by
 refine ⟨k.os.trans h.os, k.tape.trans h.tape, k.output.trans h.output, Nat.le_trans h.size k.size, fun i hi h0 h1 h2 h3 => (k.block i (Nat.lt_of_lt_of_le hi h.size) (fun e => ?_)).trans (h.block i hi h0 h1 h2 h3), h.ft, h.fe⟩
 rcases h.fe i (hr i e.symm) with h4 | h4
 ·exact h3 h4.symm
 ·omega
theorem TStep.start {p q : Nat} {vt ve vt' ve' : Value} {w w0 w1 : World} (h : Below w.heap.size w w0) (k : TStep p q vt ve w0 vt' ve' w1) : TStep p q vt ve w vt' ve' w1 :=
 ⟨k.os.trans h.os, k.tape.trans h.tape, k.output.trans h.output, Nat.le_trans h.size k.size, fun i hi h0 h1 h2 h3 => (k.block i (Nat.lt_of_lt_of_le hi h.size) h0 h1 h2 h3).trans (h.block i hi), fun g hg => (k.ft g hg).imp id (fun h2 => Nat.le_trans h.size h2), fun g hg => (k.fe g hg).imp id (fun h2 => Nat.le_trans h.size h2)⟩
theorem evs_Cn {V : World} {base : Nat} {v : Value} {l : List Ev} (h : V.ownsRow base 46 8 v l.length (l.flatMap evCells)) : ∃ A c, v = .slice A l.length c ∧ l.length ≤ c ∧ Kd.C kEv V A l.length l := by
 have hR : Reps (kEv.K V) 8 l (l.flatMap evCells) := by
  clear h
  induction l with
  | nil => exact Reps.none _ _
  | cons x l ih =>
   have := Kd.reps_append ((Reps.none (kEv.K V) 8).snoc (PParsePuts.k46_mk V x) rfl) ih
   rw [List.nil_append, List.nil_append, List.singleton_append] at this
   exact this
 obtain ⟨A, c, hv, hr⟩ := own_reads_row (size := 8) h hR rfl
 obtain ⟨A2, c2, hv2, hc⟩ := row_slice h
 subst hv
 injection hv2 with h1 h2 h3
 subst h3
 exact ⟨A, _, rfl, hc, hr⟩
theorem same_l0 (l : List Ev) (hl : l.length < 1099511627776) : ∀ (n i : Nat), i + n = l.length → PParsePuts.colophonlaw12_same.l0 (n + 1) l l i = some true
 | 0, i, h => by rw [PParsePuts.colophonlaw12_same.l0, if_neg (by omega)]
 | n + 1, i, h => by
  rw [PParsePuts.colophonlaw12_same.l0, if_pos (by omega), if_pos (by omega), if_pos (by omega), if_neg (by simp), w64 (by omega)]
  exact same_l0 l hl n (i + 1) (by omega)
theorem same_any {w : World} {b1 b2 : Nat} {va vb : Value} {l : List Ev} (ha : w.ownsRow b1 46 8 va l.length (l.flatMap evCells)) (hb : w.ownsRow b2 46 8 vb l.length (l.flatMap evCells)) (hl : l.length < 1099511627776) :
  Calls Try.prog 33 #[va, vb] w fun e w' => e = .returned (.bool true) ∧ ∃ n, w' = w.drewN n := by
 obtain ⟨A, c, rfl, hc, hC⟩ := evs_Cn ha
 obtain ⟨A2, c2, rfl, hc2, hC2⟩ := evs_Cn hb
 refine (PParsePuts.colophonlaw12_same.calls (l.length + 1) A c l A2 c2 l true w hC hc hC2 hc2 ?_).mono ?_
 ·unfold PParsePuts.colophonlaw12_same.f
  rw [if_pos rfl]
  exact same_l0 l hl l.length 0 (by omega)
 ·rintro e w' ⟨rfl, h⟩
  exact ⟨rfl, h.out⟩
def PairPost (p q : Nat) (P' : Par) (Q' : QS) (vt ve : Value) (w : World) (e : Ending) (w' : World) : Prop :=
 e = .returned (.bool true) ∧ ∃ es' vt' ve' vL' vN', PAt w' p P'.todo es' P'.depth P'.begun P'.wrong P'.closed vt' ve' ∧ QAt w' q Q' vL' vN' ∧ TStep p q vt ve w vt' ve' w'
theorem PAt.spoilt {w w1 : World} {p : Nat} {vt ve v : Value} {s : List WT} {es : List Ev} {d : Int} {b : Bool} {wc : Int} {cl : Bool} {n : Nat} (hP : PAt w p s es d b wc cl vt ve) (hv : v = ve ∨ v = .slice none 0 0) (hE : ∃ es' : List Ev, es'.length = n ∧ w1.ownsRow p 46 8 v n (es'.flatMap evCells)) (hg : w.grownBy w1 v.ownBlock) : ∃ es', PAt w1 p s es' d b wc cl vt ve := by
 have hne : ∀ k, (k = p ∨ vt.ownBlock = some k) → some k ≠ ve.ownBlock := fun k hk e => by
  obtain ⟨cs, hc⟩ := own_typed hP.evs k e.symm
  rcases hk with rfl | hk
  ·rw [hP.box] at hc; exact absurd (cells_ty hc) (by decide)
  ·obtain ⟨cs2, hc2⟩ := own_typed hP.todo k hk
   rw [hc] at hc2; exact absurd (cells_ty hc2) (by decide)
 rcases hv with rfl | rfl
 ·obtain ⟨es', hn, ho⟩ := hE
  exact ⟨es', (hg.block p (blk_lt hP.box) (hne p (.inl rfl))).trans hP.box, own_move hP.todo (fun k hk => hg.block k (own_lt hP.todo k hk) (hne k (.inr hk))), by rw [hn]; exact ho⟩
 ·exact ⟨es, hP.move (fun k hk => hg.block k hk (by simp [Value.ownBlock]))⟩
set_option maxRecDepth 100000 in
set_option maxHeartbeats 8000000 in
theorem pput_any {w : World} {p q i : Nat} {P : Par} {Q : QS} {es : List Ev} {vt ve vL vN : Value} (H : TIn i P Q) (hi : i ≤ 1000000) (hP : PAt w p P.todo es P.depth P.begun P.wrong P.closed vt ve) (hQ : QAt w q Q vL vN) (t : Tk) (hev : (put P t).1.length < 1000000) :
  Calls Try.prog 11 #[.agg #[.pointer (some ⟨p, 0, none⟩), .pointer (some ⟨q, 0, none⟩)], .agg #[.int .u8 t.f0, .string t.f1, .int .i64 t.f2.f0, .int .i64 t.f2.f1, .int .i64 t.f2.f2, .int .i64 t.f3]] w (PairPost p q (put P t).2.2 (qput Q t).2.2 vt ve w) := by
 obtain ⟨a1, a2, a3⟩ := qput_agree H.ag t
 have hT2 := H.put t
 have HCP := Lib.hid (fun (V : World) (h : PAt V p P.todo es P.depth P.begun P.wrong P.closed vt ve) => (show Calls Try.prog 24 #[.pointer (some ⟨p, 0, none⟩), .agg #[.int .u8 t.f0, .string t.f1, .int .i64 t.f2.f0, .int .i64 t.f2.f1, .int .i64 t.f2.f2, .int .i64 t.f3]] V (PutPost p P vt ve t V) from put_any p P es vt ve t V (H.pin h hi)))
 have HCQ := Lib.hid (fun (V : World) (h : QAt V q Q vL vN) => (show Calls Try.prog 32 #[.pointer (some ⟨q, 0, none⟩), .agg #[.int .u8 t.f0, .string t.f1, .int .i64 t.f2.f0, .int .i64 t.f2.f1, .int .i64 t.f2.f2, .int .i64 t.f3]] V (QPost q (qput Q t) V) from rput_any h t (by have := H.ql; omega) H.ag.note (H.lens t)))
 obtain ⟨R, hR⟩ : ∃ R, put P t = R := ⟨_, rfl⟩
 obtain ⟨S, hS⟩ : ∃ S, qput Q t = S := ⟨_, rfl⟩
 unfold PutPost at HCP
 unfold QPost at HCQ
 rw [hR] at HCP a1 a2 a3 hT2 ⊢
 rw [hS] at HCQ a1 a2 a3 hT2 ⊢
 obtain ⟨evs, er, P'⟩ := R
 obtain ⟨evs2, er2, Q'⟩ := S
 dsimp only at a1 a2 a3 hT2 HCP HCQ ⊢
 subst a1; subst a2
 obtain ⟨dd, hdd⟩ : ∃ dd, (if P'.closed = true then 0 else P'.depth) = dd := ⟨_, rfl⟩
 have hdq : (if Q'.cl = true then 0 else (Q'.now.length : Int)) = dd := by
  rw [← hdd, ← a3.cl]
  cases hc : P'.closed with
  | true => rfl
  | false => rw [if_neg (by decide), if_neg (by decide), a3.len hc]
 have hdq2 : ((if Q'.cl = true then 0 else Q'.now.length : Nat) : Int) = dd := by rw [← hdq]; split <;> rfl
 have hle : evs.length < 1000000 := by
  have h9 : (put P t).1 = evs := by rw [hR]
  rw [← h9]
  exact hev
 obtain ⟨V, hV⟩ : ∃ V, (w.alloc (.cells #[.pointer (some ⟨p, 0, none⟩), .pointer (some ⟨q, 0, none⟩)] 29)).alloc (.cells #[.int .u8 t.f0, .string t.f1, .int .i64 t.f2.f0, .int .i64 t.f2.f1, .int .i64 t.f2.f2, .int .i64 t.f3] 35) = V := ⟨_, rfl⟩
 obtain ⟨B, hB⟩ : ∃ B, w.heap.size = B := ⟨_, rfl⟩
 have hb0 : Below w.heap.size w V := by rw [← hV]; exact ((Below.refl _ w).alloc (Nat.le_refl _) _).alloc (by rw [World.size_alloc]; omega) _
 have hx0 : V.heap[B]? = some (.cells #[.pointer (some ⟨p, 0, none⟩), .pointer (some ⟨q, 0, none⟩)] 29 (0, 0)) := by rw [← hV, ← hB]; exact (Below.heap_alloc _ _ _ (by rw [World.size_alloc]; omega)).trans (World.alloc_heap_new _ _)
 have hx1 : V.heap[B + 1]? = some (.cells #[.int .u8 t.f0, .string t.f1, .int .i64 t.f2.f0, .int .i64 t.f2.f1, .int .i64 t.f2.f2, .int .i64 t.f3] 35 (0, 0)) := by
  have := World.alloc_heap_new (w.alloc (.cells #[.pointer (some ⟨p, 0, none⟩), .pointer (some ⟨q, 0, none⟩)] 29)) (.cells #[.int .u8 t.f0, .string t.f1, .int .i64 t.f2.f0, .int .i64 t.f2.f1, .int .i64 t.f2.f2, .int .i64 t.f3] 35)
  rw [World.size_alloc, hB] at this
  rw [← hV]; exact this
 have hsz : V.heap.size = B + 2 := by rw [← hV]; simp only [World.size_alloc]; omega
 have hpw := blk_lt hP.box
 have hqw := blk_lt hQ.box
 have HN : Hid (B < V.heap.size ∧ B ≠ p ∧ some B ≠ vt.ownBlock ∧ some B ≠ ve.ownBlock ∧ B ≠ q ∧ B + 1 < V.heap.size ∧ B + 1 ≠ p ∧ some (B + 1) ≠ vt.ownBlock ∧ some (B + 1) ≠ ve.ownBlock ∧ B + 1 ≠ q) := Lib.hid ⟨by omega, fun e => by omega, fun e => by have := own_lt hP.todo B e.symm; omega, fun e => by have := own_lt hP.evs B e.symm; omega, by omega, by omega, fun e => by omega, fun e => by have := own_lt hP.todo (B + 1) e.symm; omega, fun e => by have := own_lt hP.evs (B + 1) e.symm; omega, by omega⟩
 have HX := Lib.hid (And.intro hx0 hx1)
 have HP := Lib.hid (hP.below hb0)
 have HQ := Lib.hid (hQ.below hb0)
 have HB0 := Lib.hid hb0
 have HVV := Lib.hid (And.intro hV hB)
 have HLE := Lib.hid hle
 have HDP := Lib.hid (fun (w : World) (h : ∃ es vt ve, PAt w p P'.todo es P'.depth P'.begun P'.wrong P'.closed vt ve) => (show Calls Try.prog 25 #[.pointer (some ⟨p, 0, none⟩)] w (fun e w' => e = .returned (.int .i64 dd) ∧ w' = w) from by obtain ⟨es, vt, ve, h⟩ := h; have h9 := Depth_any p P' es vt ve w h; rw [hdd] at h9; exact h9))
 have HDR := Lib.hid (fun (w : World) (h : ∃ vL vN, QAt w q Q' vL vN) => (show Calls Try.prog 35 #[.pointer (some ⟨q, 0, none⟩)] w (fun e w' => e = .returned (.int .i64 dd) ∧ w' = w) from by obtain ⟨vL, vN, h⟩ := h; have h9 := rdepth_any h; simp only [hdq, hdq2] at h9; exact h9))
 have b0 := cell_of_row _ _ 0 _ _ _ hx0
 have b1 := cell_of_row _ _ 1 _ _ _ hx0
 obtain ⟨d0, d1, d2, d3, d4, d5⟩ := six_cells hx1
 clear hx0 hx1 hb0 hV hB hsz hpw hqw hle hdq hdq2 hdd a3 hT2 hR hS hP hQ H hi hev
 go_enter Try.func11, Try.ntmps11
 go_upto_region 1 with (fail)
 rw [HVV.out.1, HVV.out.2]
 go_wp2_with (first
  | (go_at_call 24; (with_reducible refine Calls.mono (HCP.out _ HP.out) ?_); rintro e w1 ⟨v, es2, vt2, ve2, rfl, hA2, hs2, hv1, hv2⟩; have HQ1 := Lib.hid (HQ.out.pstep HP.out hs2); have HP1 := Lib.hid hA2; have HV1 := Lib.hid hv1; have HV2 := Lib.hid hv2; have HS1 := Lib.hid (TStep.of_P (q := q) hs2); have HX1 := Lib.hid (And.intro ((hs2.block B HN.out.1 HN.out.2.1 HN.out.2.2.1 HN.out.2.2.2.1).trans HX.out.1) ((hs2.block (B + 1) HN.out.2.2.2.2.2.1 HN.out.2.2.2.2.2.2.1 HN.out.2.2.2.2.2.2.2.1 HN.out.2.2.2.2.2.2.2.2.1).trans HX.out.2)); clear hA2 hs2 hv1 hv2; clear b0 b1 d0 d1 d2 d3 d4 d5; have b0 := cell_of_row _ _ 0 _ _ _ (HX1.out.1); have b1 := cell_of_row _ _ 1 _ _ _ (HX1.out.1); obtain ⟨d0, d1, d2, d3, d4, d5⟩ := six_cells (HX1.out.2))
  | (go_at_call 32; (with_reducible refine Calls.mono (HCQ.out _ HQ1.out) ?_); rintro e w2 ⟨v2, vL2, vN2, rfl, hA2, hv1, hs2⟩; have HP2 := Lib.hid (HP1.out.qstep HQ1.out hs2); have HV3 := Lib.hid (row_qstep HV1.out HQ1.out hs2); have HQ2 := Lib.hid hA2; have HW := Lib.hid hv1; have HS2 := Lib.hid (HS1.out.thenQ hs2); have HX2 := Lib.hid (And.intro ((hs2.block B (blk_lt HX1.out.1) HN.out.2.2.2.2.1).trans HX1.out.1) ((hs2.block (B + 1) (blk_lt HX1.out.2) HN.out.2.2.2.2.2.2.2.2.2).trans HX1.out.2)); clear hA2 hs2 hv1; clear b0 b1 d0 d1 d2 d3 d4 d5; have b0 := cell_of_row _ _ 0 _ _ _ (HX2.out.1); have b1 := cell_of_row _ _ 1 _ _ _ (HX2.out.1); obtain ⟨d0, d1, d2, d3, d4, d5⟩ := six_cells (HX2.out.2))
  | (go_at_call 33; (with_reducible refine Calls.mono (same_any HV3.out HW.out (by have := HLE.out; omega)) ?_); rintro e w3 ⟨rfl, nn, hw3⟩; have hb3 : Below w2.heap.size w2 w3 := (by rw [hw3]; exact below_drewN (Below.refl _ _) _); replace HV3 := Lib.hid (own_move HV3.out (fun k hk => hb3.block k (own_lt HV3.out k hk))); replace HP2 := Lib.hid (HP2.out.below hb3); replace HQ2 := Lib.hid (HQ2.out.below hb3); replace HS2 := Lib.hid (HS2.out.thenQ (QStep.below hb3)); replace HX2 := Lib.hid (And.intro ((hb3.block B (blk_lt HX2.out.1)).trans HX2.out.1) ((hb3.block (B + 1) (blk_lt HX2.out.2)).trans HX2.out.2)); clear hw3 hb3; clear b0 b1 d0 d1 d2 d3 d4 d5; have b0 := cell_of_row _ _ 0 _ _ _ (HX2.out.1); have b1 := cell_of_row _ _ 1 _ _ _ (HX2.out.1); obtain ⟨d0, d1, d2, d3, d4, d5⟩ := six_cells (HX2.out.2))
  | (go_at_call 34; (with_reducible refine Calls.mono (spoil_any p v evs.length evs w3 rfl HV3.out (Nat.le_of_lt (blk_lt HP2.out.box)) (by have := HLE.out; omega)) ?_); rintro e w4 ⟨rfl, hE, hg⟩; obtain ⟨es4, hP4⟩ := PAt.spoilt HP2.out HV2.out hE hg; have HP4 := Lib.hid hP4; have HQ4 := Lib.hid (QAt.grownE HQ2.out HV3.out hg); have HS4 := Lib.hid (HS2.out.thenE hg (fun g hgg => by rcases HV2.out with h | h; (rw [← h]; exact hgg); (rw [h] at hgg; cases hgg))); have HX4 : Hid (w4.heap[B]? = some (.cells #[.pointer (some ⟨p, 0, none⟩), .pointer (some ⟨q, 0, none⟩)] 29 (0, 0))) := Lib.hid ((hg.block B (blk_lt HX2.out.1) (fun e => by obtain ⟨cs, hc⟩ := own_typed HV3.out B e.symm; rw [HX2.out.1] at hc; exact absurd (cells_ty hc) (by decide))).trans HX2.out.1); clear hE hg hP4; clear b0 b1 d0 d1 d2 d3 d4 d5; have b0 := cell_of_row _ _ 0 _ _ _ HX4.out; have b1 := cell_of_row _ _ 1 _ _ _ HX4.out))
 go_quiet ((first | (go_at_call 25; exact Calls.quiet_of_same (HDP.out _ ⟨_, _, _, HP4.out.below (below_drewN (Below.refl _ _) _)⟩)) | (go_at_call 35; exact Calls.quiet_of_same (HDR.out _ ⟨_, _, HQ4.out.below (below_drewN (Below.refl _ _) _)⟩))))
 go_wp2
 go_ret
 exact ⟨rfl, es4, _, _, _, _, HP4.out.below (below_drewN (Below.refl _ _) _), HQ4.out.below (below_drewN (Below.refl _ _) _), (HS4.out.start HB0.out).thenQ (QStep.below (below_drewN (Below.refl _ _) _))⟩
set_option maxRecDepth 100000 in
set_option maxHeartbeats 8000000 in
theorem pclose_any {w : World} {p q i : Nat} {P : Par} {Q : QS} {es : List Ev} {vt ve vL vN : Value} (H : TIn i P Q) (hi : i ≤ 1000000) (hP : PAt w p P.todo es P.depth P.begun P.wrong P.closed vt ve) (hQ : QAt w q Q vL vN) (hev : (closeP P).1.length < 1000000) :
  Calls Try.prog 12 #[.agg #[.pointer (some ⟨p, 0, none⟩), .pointer (some ⟨q, 0, none⟩)]] w (PairPost p q (closeP P).2.2 (qclose Q).2.2 vt ve w) := by
 obtain ⟨a1, a2, a3⟩ := qclose_agree H.ag
 have hT2 := H.close
 have HCP := Lib.hid (fun (V : World) (h : PAt V p P.todo es P.depth P.begun P.wrong P.closed vt ve) => (show Calls Try.prog 26 #[.pointer (some ⟨p, 0, none⟩)] V (ClosePost p P vt ve V) from Close_any p P es vt ve V (H.pin h hi)))
 have HCQ := Lib.hid (fun (V : World) (h : QAt V q Q vL vN) => (show Calls Try.prog 36 #[.pointer (some ⟨q, 0, none⟩)] V (QPost q (qclose Q) V) from rclose_any h (by have := H.ql; omega) H.ag.note (by have := H.qn; omega)))
 obtain ⟨R, hR⟩ : ∃ R, closeP P = R := ⟨_, rfl⟩
 obtain ⟨S, hS⟩ : ∃ S, qclose Q = S := ⟨_, rfl⟩
 unfold ClosePost at HCP
 unfold QPost at HCQ
 rw [hR] at HCP a1 a2 a3 hT2 ⊢
 rw [hS] at HCQ a1 a2 a3 hT2 ⊢
 obtain ⟨evs, er, P'⟩ := R
 obtain ⟨evs2, er2, Q'⟩ := S
 dsimp only at a1 a2 a3 hT2 HCP HCQ ⊢
 subst a1; subst a2
 obtain ⟨dd, hdd⟩ : ∃ dd, (if P'.closed = true then 0 else P'.depth) = dd := ⟨_, rfl⟩
 have hdq : (if Q'.cl = true then 0 else (Q'.now.length : Int)) = dd := by
  rw [← hdd, ← a3.cl]
  cases hc : P'.closed with
  | true => rfl
  | false => rw [if_neg (by decide), if_neg (by decide), a3.len hc]
 have hdq2 : ((if Q'.cl = true then 0 else Q'.now.length : Nat) : Int) = dd := by rw [← hdq]; split <;> rfl
 have hle : evs.length < 1000000 := by
  have h9 : (closeP P).1 = evs := by rw [hR]
  rw [← h9]
  exact hev
 obtain ⟨V, hV⟩ : ∃ V, w.alloc (.cells #[.pointer (some ⟨p, 0, none⟩), .pointer (some ⟨q, 0, none⟩)] 29) = V := ⟨_, rfl⟩
 obtain ⟨B, hB⟩ : ∃ B, w.heap.size = B := ⟨_, rfl⟩
 have hb0 : Below w.heap.size w V := by rw [← hV]; exact (Below.refl _ w).alloc (Nat.le_refl _) _
 have hx0 : V.heap[B]? = some (.cells #[.pointer (some ⟨p, 0, none⟩), .pointer (some ⟨q, 0, none⟩)] 29 (0, 0)) := by rw [← hV, ← hB]; exact World.alloc_heap_new _ _
 have hsz : V.heap.size = B + 1 := by rw [← hV]; simp only [World.size_alloc]; omega
 have hpw := blk_lt hP.box
 have hqw := blk_lt hQ.box
 have HN : Hid (B < V.heap.size ∧ B ≠ p ∧ some B ≠ vt.ownBlock ∧ some B ≠ ve.ownBlock ∧ B ≠ q) := Lib.hid ⟨by omega, fun e => by omega, fun e => by have := own_lt hP.todo B e.symm; omega, fun e => by have := own_lt hP.evs B e.symm; omega, by omega⟩
 have HX := Lib.hid (And.intro hx0 trivial)
 have HP := Lib.hid (hP.below hb0)
 have HQ := Lib.hid (hQ.below hb0)
 have HB0 := Lib.hid hb0
 have HVV := Lib.hid (And.intro hV hB)
 have HLE := Lib.hid hle
 have HDP := Lib.hid (fun (w : World) (h : ∃ es vt ve, PAt w p P'.todo es P'.depth P'.begun P'.wrong P'.closed vt ve) => (show Calls Try.prog 25 #[.pointer (some ⟨p, 0, none⟩)] w (fun e w' => e = .returned (.int .i64 dd) ∧ w' = w) from by obtain ⟨es, vt, ve, h⟩ := h; have h9 := Depth_any p P' es vt ve w h; rw [hdd] at h9; exact h9))
 have HDR := Lib.hid (fun (w : World) (h : ∃ vL vN, QAt w q Q' vL vN) => (show Calls Try.prog 35 #[.pointer (some ⟨q, 0, none⟩)] w (fun e w' => e = .returned (.int .i64 dd) ∧ w' = w) from by obtain ⟨vL, vN, h⟩ := h; have h9 := rdepth_any h; simp only [hdq, hdq2] at h9; exact h9))
 have b0 := cell_of_row _ _ 0 _ _ _ hx0
 have b1 := cell_of_row _ _ 1 _ _ _ hx0
 skip
 clear hx0  hb0 hV hB hsz hpw hqw hle hdq hdq2 hdd a3 hT2 hR hS hP hQ H hi hev
 go_enter Try.func12, Try.ntmps12
 go_upto_region 1 with (fail)
 rw [HVV.out.1, HVV.out.2]
 go_wp2_with (first
  | (go_at_call 26; (with_reducible refine Calls.mono (HCP.out _ HP.out) ?_); rintro e w1 ⟨v, es2, vt2, ve2, rfl, hA2, hs2, hv1, hv2⟩; have HQ1 := Lib.hid (HQ.out.pstep HP.out hs2); have HP1 := Lib.hid hA2; have HV1 := Lib.hid hv1; have HV2 := Lib.hid (hv2.imp (fun h => h.1) id); have HS1 := Lib.hid (TStep.of_P (q := q) hs2); have HX1 := Lib.hid (And.intro ((hs2.block B HN.out.1 HN.out.2.1 HN.out.2.2.1 HN.out.2.2.2.1).trans HX.out.1) trivial); clear hA2 hs2 hv1 hv2; clear b0 b1; have b0 := cell_of_row _ _ 0 _ _ _ (HX1.out.1); have b1 := cell_of_row _ _ 1 _ _ _ (HX1.out.1))
  | (go_at_call 36; (with_reducible refine Calls.mono (HCQ.out _ HQ1.out) ?_); rintro e w2 ⟨v2, vL2, vN2, rfl, hA2, hv1, hs2⟩; have HP2 := Lib.hid (HP1.out.qstep HQ1.out hs2); have HV3 := Lib.hid (row_qstep HV1.out HQ1.out hs2); have HQ2 := Lib.hid hA2; have HW := Lib.hid hv1; have HS2 := Lib.hid (HS1.out.thenQ hs2); have HX2 := Lib.hid (And.intro ((hs2.block B (blk_lt HX1.out.1) HN.out.2.2.2.2).trans HX1.out.1) trivial); clear hA2 hs2 hv1; clear b0 b1; have b0 := cell_of_row _ _ 0 _ _ _ (HX2.out.1); have b1 := cell_of_row _ _ 1 _ _ _ (HX2.out.1))
  | (go_at_call 33; (with_reducible refine Calls.mono (same_any HV3.out HW.out (by have := HLE.out; omega)) ?_); rintro e w3 ⟨rfl, nn, hw3⟩; have hb3 : Below w2.heap.size w2 w3 := (by rw [hw3]; exact below_drewN (Below.refl _ _) _); replace HV3 := Lib.hid (own_move HV3.out (fun k hk => hb3.block k (own_lt HV3.out k hk))); replace HP2 := Lib.hid (HP2.out.below hb3); replace HQ2 := Lib.hid (HQ2.out.below hb3); replace HS2 := Lib.hid (HS2.out.thenQ (QStep.below hb3)); replace HX2 := Lib.hid (And.intro ((hb3.block B (blk_lt HX2.out.1)).trans HX2.out.1) trivial); clear hw3 hb3; clear b0 b1; have b0 := cell_of_row _ _ 0 _ _ _ (HX2.out.1); have b1 := cell_of_row _ _ 1 _ _ _ (HX2.out.1))
  | (go_at_call 34; (with_reducible refine Calls.mono (spoil_any p v evs.length evs w3 rfl HV3.out (Nat.le_of_lt (blk_lt HP2.out.box)) (by have := HLE.out; omega)) ?_); rintro e w4 ⟨rfl, hE, hg⟩; obtain ⟨es4, hP4⟩ := PAt.spoilt HP2.out HV2.out hE hg; have HP4 := Lib.hid hP4; have HQ4 := Lib.hid (QAt.grownE HQ2.out HV3.out hg); have HS4 := Lib.hid (HS2.out.thenE hg (fun g hgg => by rcases HV2.out with h | h; (rw [← h]; exact hgg); (rw [h] at hgg; cases hgg))); have HX4 : Hid (w4.heap[B]? = some (.cells #[.pointer (some ⟨p, 0, none⟩), .pointer (some ⟨q, 0, none⟩)] 29 (0, 0))) := Lib.hid ((hg.block B (blk_lt HX2.out.1) (fun e => by obtain ⟨cs, hc⟩ := own_typed HV3.out B e.symm; rw [HX2.out.1] at hc; exact absurd (cells_ty hc) (by decide))).trans HX2.out.1); clear hE hg hP4; clear b0 b1; have b0 := cell_of_row _ _ 0 _ _ _ HX4.out; have b1 := cell_of_row _ _ 1 _ _ _ HX4.out))
 go_quiet ((first | (go_at_call 25; exact Calls.quiet_of_same (HDP.out _ ⟨_, _, _, HP4.out.below (below_drewN (Below.refl _ _) _)⟩)) | (go_at_call 35; exact Calls.quiet_of_same (HDR.out _ ⟨_, _, HQ4.out.below (below_drewN (Below.refl _ _) _)⟩))))
 go_wp2
 go_ret
 exact ⟨rfl, es4, _, _, _, _, HP4.out.below (below_drewN (Below.refl _ _) _), HQ4.out.below (below_drewN (Below.refl _ _) _), (HS4.out.start HB0.out).thenQ (QStep.below (below_drewN (Below.refl _ _) _))⟩
end Go.Proofs.Ytmjbpgnjgblnmaa
namespace Go.Proofs.Ytmjbpgnjgblnmaa
open Go.RowKit Go.Proofs.YtmjbpgnjgblnmaaW.PrintWords Go.Proofs.YtmjbpgnjgblnmaaW.PrintLast Go.Proofs.YtmjbpgnjgblnmaaW.PrintMore
structure PutsI (W0 wr : World) (ba bb p1 q1 p2 q2 : Nat) (P1 : Par) (Q1 : QS) (P2 : Par) (Q2 : QS) (es1 es2 : List Ev) (vt1 ve1 vL1 vN1 vt2 ve2 vL2 vN2 : Value) : Prop where
 A : PAt wr p1 P1.todo es1 P1.depth P1.begun P1.wrong P1.closed vt1 ve1
 QA : QAt wr q1 Q1 vL1 vN1
 B : PAt wr p2 P2.todo es2 P2.depth P2.begun P2.wrong P2.closed vt2 ve2
 QB : QAt wr q2 Q2 vL2 vN2
 xa : wr.heap[ba]? = some (.cells #[.pointer (some ⟨p1, 0, none⟩), .pointer (some ⟨q1, 0, none⟩)] 29 (0, 0))
 xb : wr.heap[bb]? = some (.cells #[.pointer (some ⟨p2, 0, none⟩), .pointer (some ⟨q2, 0, none⟩)] 29 (0, 0))
 below : Below W0.heap.size W0 wr
 base : W0.heap.size ≤ p1 ∧ W0.heap.size ≤ q1 ∧ W0.heap.size ≤ p2 ∧ W0.heap.size ≤ q2
 np : p1 ≠ p2
 nq : q1 ≠ q2
 dt : ∀ g, vt1.ownBlock = some g → vt2.ownBlock ≠ some g
 de : ∀ g, ve1.ownBlock = some g → ve2.ownBlock ≠ some g
theorem PutsI.swap {W0 wr : World} {ba bb p1 q1 p2 q2 : Nat} {P1 : Par} {Q1 : QS} {P2 : Par} {Q2 : QS} {es1 es2 : List Ev} {vt1 ve1 vL1 vN1 vt2 ve2 vL2 vN2 : Value} (H : PutsI W0 wr ba bb p1 q1 p2 q2 P1 Q1 P2 Q2 es1 es2 vt1 ve1 vL1 vN1 vt2 ve2 vL2 vN2) : PutsI W0 wr bb ba p2 q2 p1 q1 P2 Q2 P1 Q1 es2 es1 vt2 ve2 vL2 vN2 vt1 ve1 vL1 vN1 :=
 ⟨H.B, H.QB, H.A, H.QA, H.xb, H.xa, H.below, ⟨H.base.2.2.1, H.base.2.2.2, H.base.1, H.base.2.1⟩, H.np.symm, H.nq.symm, fun g h e => H.dt g e h, fun g h e => H.de g e h⟩
theorem PutsI.one {W0 wr w1 : World} {ba bb p1 q1 p2 q2 : Nat} {P1 P1' : Par} {Q1 Q1' : QS} {P2 : Par} {Q2 : QS} {es1 es1' es2 : List Ev} {vt1 ve1 vL1 vN1 vt1' ve1' vL1' vN1' vt2 ve2 vL2 vN2 : Value} (H : PutsI W0 wr ba bb p1 q1 p2 q2 P1 Q1 P2 Q2 es1 es2 vt1 ve1 vL1 vN1 vt2 ve2 vL2 vN2)
  (hA : PAt w1 p1 P1'.todo es1' P1'.depth P1'.begun P1'.wrong P1'.closed vt1' ve1') (hQ : QAt w1 q1 Q1' vL1' vN1') (hs : TStep p1 q1 vt1 ve1 wr vt1' ve1' w1) : PutsI W0 w1 ba bb p1 q1 p2 q2 P1' Q1' P2 Q2 es1' es2 vt1' ve1' vL1' vN1' vt2 ve2 vL2 vN2 := by
 have hk : ∀ k (cs : Array Value) T, wr.heap[k]? = some (.cells cs T (0, 0)) → (T = 67 → k ≠ p1) → (T = 77 → k ≠ q1) → (T = 71 → vt1.ownBlock ≠ some k) → (T = 46 → ve1.ownBlock ≠ some k) → w1.heap[k]? = wr.heap[k]? := fun k cs T hc h1 h2 h3 h4 => by
  refine hs.block k (blk_lt hc) (fun e => ?_) (fun e => ?_) (fun e => ?_) (fun e => ?_)
  ·have h9 := H.A.box
   rw [← e, hc] at h9
   exact h1 (cells_ty h9) e
  ·have h9 := H.QA.box
   rw [← e, hc] at h9
   exact h2 (cells_ty h9) e
  ·obtain ⟨cs2, h9⟩ := own_typed H.A.todo k e.symm
   rw [hc] at h9
   exact h3 (cells_ty h9) e.symm
  ·obtain ⟨cs2, h9⟩ := own_typed H.A.evs k e.symm
   rw [hc] at h9
   exact h4 (cells_ty h9) e.symm
 have hB : PAt w1 p2 P2.todo es2 P2.depth P2.begun P2.wrong P2.closed vt2 ve2 := by
  refine ⟨(hk p2 _ _ H.B.box (fun _ => H.np.symm) (fun h => absurd h (by decide)) (fun h => absurd h (by decide)) (fun h => absurd h (by decide))).trans H.B.box, own_move H.B.todo (fun k hkk => ?_), own_move H.B.evs (fun k hkk => ?_)⟩
  ·obtain ⟨cs, hc⟩ := own_typed H.B.todo k hkk
   exact hk k cs _ hc (fun h => absurd h (by decide)) (fun h => absurd h (by decide)) (fun _ h => H.dt k h hkk) (fun h => absurd h (by decide))
  ·obtain ⟨cs, hc⟩ := own_typed H.B.evs k hkk
   exact hk k cs _ hc (fun h => absurd h (by decide)) (fun h => absurd h (by decide)) (fun h => absurd h (by decide)) (fun _ h => H.de k h hkk)
 have hQB : QAt w1 q2 Q2 vL2 vN2 := by
  refine ⟨(hk q2 _ _ H.QB.box (fun h => absurd h (by decide)) (fun _ => H.nq.symm) (fun h => absurd h (by decide)) (fun h => absurd h (by decide))).trans H.QB.box, own_move H.QB.L (fun k hkk => ?_), own_move H.QB.now (fun k hkk => ?_)⟩
  ·obtain ⟨cs, hc⟩ := own_typed H.QB.L k hkk
   exact hk k cs _ hc (fun h => absurd h (by decide)) (fun h => absurd h (by decide)) (fun h => absurd h (by decide)) (fun h => absurd h (by decide))
  ·obtain ⟨cs, hc⟩ := own_typed H.QB.now k hkk
   exact hk k cs _ hc (fun h => absurd h (by decide)) (fun h => absurd h (by decide)) (fun h => absurd h (by decide)) (fun h => absurd h (by decide))
 refine ⟨hA, hQ, hB, hQB, (hk ba _ _ H.xa (fun h => absurd h (by decide)) (fun h => absurd h (by decide)) (fun h => absurd h (by decide)) (fun h => absurd h (by decide))).trans H.xa, (hk bb _ _ H.xb (fun h => absurd h (by decide)) (fun h => absurd h (by decide)) (fun h => absurd h (by decide)) (fun h => absurd h (by decide))).trans H.xb, ?_, H.base, H.np, H.nq, fun g hg e => ?_, fun g hg e => ?_⟩
 ·have hb := H.base
  refine ⟨hs.os.trans H.below.os, hs.tape.trans H.below.tape, hs.output.trans H.below.output, Nat.le_trans H.below.size hs.size, fun k hkk => (hs.block k (Nat.lt_of_lt_of_le hkk H.below.size) (by omega) (by omega) (fun e => ?_) (fun e => ?_)).trans (H.below.block k hkk)⟩
  ·have := own_base H.A.todo k e.symm; omega
  ·have := own_base H.A.evs k e.symm; omega
 ·rcases hs.ft g hg with h | h
  ·exact H.dt g h e
  ·have := own_lt H.B.todo g e; omega
 ·rcases hs.fe g hg with h | h
  ·exact H.de g h e
  ·have := own_lt H.B.evs g e; omega
theorem PutsI.two {W0 wr w1 : World} {ba bb p1 q1 p2 q2 : Nat} {P2 P2' : Par} {Q2 Q2' : QS} {P1 : Par} {Q1 : QS} {es1 es2 es2' : List Ev} {vt1 ve1 vL1 vN1 vt2 ve2 vL2 vN2 vt2' ve2' vL2' vN2' : Value} (H : PutsI W0 wr ba bb p1 q1 p2 q2 P1 Q1 P2 Q2 es1 es2 vt1 ve1 vL1 vN1 vt2 ve2 vL2 vN2)
  (hA : PAt w1 p2 P2'.todo es2' P2'.depth P2'.begun P2'.wrong P2'.closed vt2' ve2') (hQ : QAt w1 q2 Q2' vL2' vN2') (hs : TStep p2 q2 vt2 ve2 wr vt2' ve2' w1) : PutsI W0 w1 ba bb p1 q1 p2 q2 P1 Q1 P2' Q2' es1 es2' vt1 ve1 vL1 vN1 vt2' ve2' vL2' vN2' := (H.swap.one hA hQ hs).swap
def PutsE (W0 wr : World) (ba bb p1 q1 p2 q2 i : Nat) (P1 : Par) (Q1 : QS) (P2 : Par) (Q2 : QS) : Prop :=
 TIn i P1 Q1 ∧ TIn i P2 Q2 ∧ ∃ es1 es2 vt1 ve1 vL1 vN1 vt2 ve2 vL2 vN2, PutsI W0 wr ba bb p1 q1 p2 q2 P1 Q1 P2 Q2 es1 es2 vt1 ve1 vL1 vN1 vt2 ve2 vL2 vN2
theorem PutsE.below {W0 wr w1 : World} {ba bb p1 q1 p2 q2 i : Nat} {P1 : Par} {Q1 : QS} {P2 : Par} {Q2 : QS} (H : PutsE W0 wr ba bb p1 q1 p2 q2 i P1 Q1 P2 Q2) (hb : Below wr.heap.size wr w1) : PutsE W0 w1 ba bb p1 q1 p2 q2 i P1 Q1 P2 Q2 := by
 obtain ⟨h1, h2, es1, es2, vt1, ve1, vL1, vN1, vt2, ve2, vL2, vN2, h⟩ := H
 exact ⟨h1, h2, es1, es2, vt1, ve1, vL1, vN1, vt2, ve2, vL2, vN2, h.A.below hb, h.QA.below hb, h.B.below hb, h.QB.below hb, (hb.block ba (blk_lt h.xa)).trans h.xa, (hb.block bb (blk_lt h.xb)).trans h.xb, h.below.trans (hb.mono h.below.size), h.base, h.np, h.nq, h.dt, h.de⟩
theorem PutsE.cells {W0 wr : World} {ba bb p1 q1 p2 q2 i : Nat} {P1 : Par} {Q1 : QS} {P2 : Par} {Q2 : QS} (H : PutsE W0 wr ba bb p1 q1 p2 q2 i P1 Q1 P2 Q2) : wr.cell? ⟨ba, 0, none⟩ = some (.pointer (some ⟨p1, 0, none⟩)) ∧ wr.cell? ⟨ba, 1, none⟩ = some (.pointer (some ⟨q1, 0, none⟩)) ∧ wr.cell? ⟨bb, 0, none⟩ = some (.pointer (some ⟨p2, 0, none⟩)) ∧ wr.cell? ⟨bb, 1, none⟩ = some (.pointer (some ⟨q2, 0, none⟩)) ∧ Below W0.heap.size W0 wr := by
 obtain ⟨h1, h2, es1, es2, vt1, ve1, vL1, vN1, vt2, ve2, vL2, vN2, h⟩ := H
 exact ⟨cell_of_row _ _ _ _ _ _ h.xa, cell_of_row _ _ _ _ _ _ h.xa, cell_of_row _ _ _ _ _ _ h.xb, cell_of_row _ _ _ _ _ _ h.xb, h.below⟩
theorem ev_count {P : Par} {Q : QS} {i : Nat} (H : TIn i P Q) (t : Tk) : (put P t).1.length < 1000000 := by
 by_cases he : (put P t).2.1 = 0
 ·by_cases hc : P.closed = true
  ·exfalso
   unfold put at he
   rw [if_pos hc] at he
   exact absurd he (show ¬ ((4 : Int) = 0) by decide)
  ·have hcl : P.closed = false := by simpa using hc
   by_cases hw : P.wrong = 0
   ·obtain ⟨op, p', path, ser, S⟩ := H.ag.fine hcl hw
    obtain ⟨op', hI, -⟩ := put_nest S.inv t [] he
    have := put_evlen S.inv t he hI
    omega
   ·exfalso
    unfold put at he
    rw [if_neg hc, if_pos hw] at he
    exact hw he
 ·have : (put P t).1 = [] := by
   unfold put at he ⊢
   split
   ·rfl
   split
   ·rfl
   split
   ·rename_i h1 h2 h3
    rw [if_neg h1, if_neg h2, if_pos h3] at he
    exact absurd rfl he
   dsimp only
   split
   ·rfl
   ·rename_i h1 h2 h3 h4
    rw [if_neg h1, if_neg h2, if_neg h3] at he
    dsimp only at he
    rw [if_neg h4] at he
    exact absurd rfl he
  rw [this]; decide
theorem cl_count (P : Par) : (closeP P).1.length < 1000000 := by
 unfold closeP
 split
 ·exact (by decide : (0 : Nat) < 1000000)
 split
 ·exact (by decide : (0 : Nat) < 1000000)
 split
 ·exact (by decide : (0 : Nat) < 1000000)
 ·exact (by decide : (1 : Nat) < 1000000)
theorem PutsE.putA {W0 wr : World} {ba bb p1 q1 p2 q2 i : Nat} {P1 : Par} {Q1 : QS} {P2 : Par} {Q2 : QS} (H : PutsE W0 wr ba bb p1 q1 p2 q2 i P1 Q1 P2 Q2) (hi : i ≤ 1000000) (t : Tk) :
  Calls Try.prog 11 #[.agg #[.pointer (some ⟨p1, 0, none⟩), .pointer (some ⟨q1, 0, none⟩)], .agg #[.int .u8 t.f0, .string t.f1, .int .i64 t.f2.f0, .int .i64 t.f2.f1, .int .i64 t.f2.f2, .int .i64 t.f3]] wr fun e w' => e = .returned (.bool true) ∧ PutsE W0 w' ba bb p1 q1 p2 q2 (i + 1) (put P1 t).2.2 (qput Q1 t).2.2 P2 Q2 := by
 obtain ⟨h1, h2, es1, es2, vt1, ve1, vL1, vN1, vt2, ve2, vL2, vN2, h⟩ := H
 refine (pput_any h1 hi h.A h.QA t (ev_count h1 t)).mono ?_
 rintro e w' ⟨rfl, es', vt', ve', vL', vN', a1, a2, a3⟩
 exact ⟨rfl, h1.put t, h2.mono (Nat.le_succ i), _, _, _, _, _, _, _, _, _, _, h.one a1 a2 a3⟩
theorem PutsE.putB {W0 wr : World} {ba bb p1 q1 p2 q2 i : Nat} {P1 : Par} {Q1 : QS} {P2 : Par} {Q2 : QS} (H : PutsE W0 wr ba bb p1 q1 p2 q2 i P1 Q1 P2 Q2) (hi : i ≤ 1000000) (t : Tk) :
  Calls Try.prog 11 #[.agg #[.pointer (some ⟨p2, 0, none⟩), .pointer (some ⟨q2, 0, none⟩)], .agg #[.int .u8 t.f0, .string t.f1, .int .i64 t.f2.f0, .int .i64 t.f2.f1, .int .i64 t.f2.f2, .int .i64 t.f3]] wr fun e w' => e = .returned (.bool true) ∧ PutsE W0 w' ba bb p1 q1 p2 q2 (i + 1) P1 Q1 (put P2 t).2.2 (qput Q2 t).2.2 := by
 obtain ⟨h1, h2, es1, es2, vt1, ve1, vL1, vN1, vt2, ve2, vL2, vN2, h⟩ := H
 refine (pput_any h2 hi h.B h.QB t (ev_count h2 t)).mono ?_
 rintro e w' ⟨rfl, es', vt', ve', vL', vN', a1, a2, a3⟩
 exact ⟨rfl, h1.mono (Nat.le_succ i), h2.put t, _, _, _, _, _, _, _, _, _, _, h.two a1 a2 a3⟩
theorem PutsE.closeA {W0 wr : World} {ba bb p1 q1 p2 q2 i : Nat} {P1 : Par} {Q1 : QS} {P2 : Par} {Q2 : QS} (H : PutsE W0 wr ba bb p1 q1 p2 q2 i P1 Q1 P2 Q2) (hi : i ≤ 1000000) :
  Calls Try.prog 12 #[.agg #[.pointer (some ⟨p1, 0, none⟩), .pointer (some ⟨q1, 0, none⟩)]] wr fun e w' => e = .returned (.bool true) ∧ PutsE W0 w' ba bb p1 q1 p2 q2 i (closeP P1).2.2 (qclose Q1).2.2 P2 Q2 := by
 obtain ⟨h1, h2, es1, es2, vt1, ve1, vL1, vN1, vt2, ve2, vL2, vN2, h⟩ := H
 refine (pclose_any h1 hi h.A h.QA (cl_count P1)).mono ?_
 rintro e w' ⟨rfl, es', vt', ve', vL', vN', a1, a2, a3⟩
 exact ⟨rfl, h1.close, h2, _, _, _, _, _, _, _, _, _, _, h.one a1 a2 a3⟩
theorem PutsE.closeB {W0 wr : World} {ba bb p1 q1 p2 q2 i : Nat} {P1 : Par} {Q1 : QS} {P2 : Par} {Q2 : QS} (H : PutsE W0 wr ba bb p1 q1 p2 q2 i P1 Q1 P2 Q2) (hi : i ≤ 1000000) :
  Calls Try.prog 12 #[.agg #[.pointer (some ⟨p2, 0, none⟩), .pointer (some ⟨q2, 0, none⟩)]] wr fun e w' => e = .returned (.bool true) ∧ PutsE W0 w' ba bb p1 q1 p2 q2 i P1 Q1 (closeP P2).2.2 (qclose Q2).2.2 := by
 obtain ⟨h1, h2, es1, es2, vt1, ve1, vL1, vN1, vt2, ve2, vL2, vN2, h⟩ := H
 refine (pclose_any h2 hi h.B h.QB (cl_count P2)).mono ?_
 rintro e w' ⟨rfl, es', vt', ve', vL', vN', a1, a2, a3⟩
 exact ⟨rfl, h1, h2.close, _, _, _, _, _, _, _, _, _, _, h.two a1 a2 a3⟩
end Go.Proofs.Ytmjbpgnjgblnmaa
