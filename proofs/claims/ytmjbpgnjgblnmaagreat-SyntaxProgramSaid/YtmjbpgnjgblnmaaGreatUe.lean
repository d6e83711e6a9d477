/- What the claim stands on: part Ue. -/
import Derived.Test.YtmjbpgnjgblnmaaGreatUd
import Derived.Test.YtmjbpgnjgblnmaaGreatUc
import Derived.WalkSmall
set_option maxRecDepth 100000
set_option maxHeartbeats 8000000
set_option linter.unusedVariables false
set_option linter.unusedSimpArgs false
namespace Go.Proofs.YtmjbpgnjgblnmaaGreat
open Go.RowKit Go.Proofs.YtmjbpgnjgblnmaaGreatW.PrintWords Go.Proofs.YtmjbpgnjgblnmaaGreatW.PrintLast Go.Proofs.YtmjbpgnjgblnmaaGreatW.PrintMore
theorem g_listI (l : List Tk) (all : Bool) (n : Nat) (D_expr : GoodR l all n 103 [.rule .r_expr]) : NodeAt l all n 140 [.int .u8 29, .string ⟨#[91]⟩, .string ⟨#[93]⟩] 29 [.word ⟨#[91]⟩, .rule .r_expr, .rule .r_exprs, .word ⟨#[93]⟩] := by
 intro W0 A c p w s s1 H hf hr hfin
 have HM := zh H
 clear H
 show Calls Tryz.prog _ #[.pointer (some ⟨p, 0, none⟩), .int .u8 29, .string ⟨#[91]⟩, .string ⟨#[93]⟩] w (RPost W0 A c l all p (clR s1))
 go_enter Tryz.func140, Tryz.ntmps140
 have HC1 := zh (fun (w1 : World) (h : RMem W0 A c l all w1 p s) => (show Calls Tryz.prog 52 #[.pointer (some ⟨p, 0, none⟩), .int .u8 29] w1 (RPost W0 A c l all p (opR 29 s)) from opens_any h 29 (fun he => (hf he).1)))
 have hr0 := hr
 obtain ⟨s2, h2, hr2⟩ := rrun_app n [.word ⟨#[91]⟩] [.rule .r_expr, .rule .r_exprs, .word ⟨#[93]⟩] (opR 29 s) s1 hr0
 have HC2 := zh (fun (w1 : World) (h : RMem W0 A c l all w1 p (opR 29 s)) => (show Calls Tryz.prog 55 #[.pointer (some ⟨p, 0, none⟩), .string ⟨#[91]⟩] w1 (RPost W0 A c l all p s2) from ts_new h2 (by decide) (by decide) w1 h))
 obtain ⟨b3, hb3⟩ : ∃ b, begR l s2 = b := ⟨_, rfl⟩
 have HC3 := zh (fun (w1 : World) (h : RMem W0 A c l all w1 p s2) => (show Calls Tryz.prog 129 #[.pointer (some ⟨p, 0, none⟩)] w1 (BPost W0 A c l all p s2 b3 w1) from (hb3 ▸ rbegins_any h)))
 cases b3
 all_goals (
  obtain ⟨s4, h4, hr4⟩ := rrun_app n [.rule .r_expr] [.rule .r_exprs, .word ⟨#[93]⟩] s2 s1 hr2
  have HC4 := zh (fun (w1 : World) (h : RMem W0 A c l all w1 p s2) => (show Calls Tryz.prog 103 #[.pointer (some ⟨p, 0, none⟩)] w1 (RPost W0 A c l all p s4) from D_expr n (Nat.le_refl n) W0 A c p w1 s2 s4 h h4))
  have HR0 := zh hr4
  go_wp2_with (first
   | (go_at_call 52; (with_reducible refine cM (HC1.out _ HM.out) ?_); rintro e w1 ⟨rfl, h⟩; replace HM := zh h; clear h)
   | (go_at_call 55; (with_reducible refine cM (HC2.out _ HM.out) ?_); rintro e w1 ⟨rfl, h⟩; replace HM := zh h; clear h)
   | (go_at_call 129; (with_reducible refine cM (HC3.out _ HM.out) ?_); rintro e w1 ⟨rfl, h, -⟩; replace HM := zh h; clear h)
   | (go_at_call 103; (with_reducible refine cM (HC4.out _ HM.out) ?_); rintro e w1 ⟨rfl, h⟩; replace HM := zh h; clear h))
  go_loopg [9] n (fun kq v9 wr => Hid (∃ s0, RMem W0 A c l all wr p s0 ∧ kq ≤ n ∧ rrun l all kq [.rule .r_exprs, .word ⟨#[93]⟩] s0 = some s1))
  case atStart => exact zh ⟨_, HM.out, Nat.le_refl _, HR0.out⟩
  case round =>
   obtain ⟨s0, hM, hkn, hrun⟩ := hrel.out
   clear HR0 hrel HM
   have HM := zh hM
   clear hM
   obtain ⟨b25, hb25⟩ : ∃ b, cdR l s0 ⟨#[44]⟩ = b := ⟨_, rfl⟩
   have HC25 := zh (fun (w1 : World) (h : RMem W0 A c l all w1 p s0) => (show Calls Tryz.prog 73 #[.pointer (some ⟨p, 0, none⟩), .string ⟨#[44]⟩] w1 (BPost W0 A c l all p s0 b25 w1) from sg_new hb25 (by decide) (by decide) w1 h))
   cases b25 with
   | true =>
    obtain ⟨he25, hc25, hi25⟩ := cd_yes hb25
    obtain ⟨m25, hkm25, hfi25, hp25⟩ := run_rule he25 (e := [.push [.word ⟨#[44]⟩, .rule .r_expr, .rule .r_exprs]]) (by rw [hc25]; rfl) hrun
    have hq25 : rrun l all m25 [.word ⟨#[44]⟩, .rule .r_expr, .rule .r_exprs, .word ⟨#[93]⟩] s0 = some s1 := hp25
    have hle25 : m25 + 1 ≤ n := by have := hkn; omega
    obtain ⟨s26, h26, hr26⟩ := rrun_app m25 [.word ⟨#[44]⟩] [.rule .r_expr, .rule .r_exprs, .word ⟨#[93]⟩] s0 s1 hq25
    have HC26 := zh (fun (w1 : World) (h : RMem W0 A c l all w1 p s0) => (show Calls Tryz.prog 55 #[.pointer (some ⟨p, 0, none⟩), .string ⟨#[44]⟩] w1 (RPost W0 A c l all p s26) from ts_new h26 (by decide) (by decide) w1 h))
    obtain ⟨s27, h27, hr27⟩ := rrun_app m25 [.rule .r_expr] [.rule .r_exprs, .word ⟨#[93]⟩] s26 s1 hr26
    have HC27 := zh (fun (w1 : World) (h : RMem W0 A c l all w1 p s26) => (show Calls Tryz.prog 103 #[.pointer (some ⟨p, 0, none⟩)] w1 (RPost W0 A c l all p s27) from D_expr m25 (Nat.le_of_succ_le hle25) W0 A c p w1 s26 s27 h h27))
    have HRZ := zh hr27
    have HLZ := zh (show m25 ≤ n by omega)
    go_wp2_with (first
     | (go_at_call 73; (with_reducible refine cM (HC25.out _ HM.out) ?_); rintro e w1 ⟨rfl, h, -⟩; replace HM := zh h; clear h)
     | (go_at_call 55; (with_reducible refine cM (HC26.out _ HM.out) ?_); rintro e w1 ⟨rfl, h⟩; replace HM := zh h; clear h)
     | (go_at_call 103; (with_reducible refine cM (HC27.out _ HM.out) ?_); rintro e w1 ⟨rfl, h⟩; replace HM := zh h; clear h))
    go_roundg m25
    case measure => omega
    case rel => exact zh ⟨_, HM.out, HLZ.out, HRZ.out⟩
   | false =>
    have hs26 := run_stay (fun he => by have e25 := cd_no (by decide) hb25 he; simp [RId.expand, e25]) hrun
    obtain ⟨s27, h27, hr27⟩ := rrun_app gk [.word ⟨#[93]⟩] [] s0 s1 hs26
    have HC27 := zh (fun (w1 : World) (h : RMem W0 A c l all w1 p s0) => (show Calls Tryz.prog 55 #[.pointer (some ⟨p, 0, none⟩), .string ⟨#[93]⟩] w1 (RPost W0 A c l all p s27) from ts_new h27 (by decide) (by decide) w1 h))
    have hz28 : s1 = s27 := rrun_nil hr27
    have HZ28 := zh hz28
    clear hz28
    have HC28 := zh (fun (w1 : World) (h : RMem W0 A c l all w1 p s27) => (show Calls Tryz.prog 78 #[.pointer (some ⟨p, 0, none⟩)] w1 (RPost W0 A c l all p (clR s1)) from (by rw [HZ28.out]; exact closes_any h (fun he => by have h9 := hfin (by rw [HZ28.out]; exact he); rw [HZ28.out] at h9; exact ⟨by have := h9.1; omega, h9.2⟩))))
    go_wp2_with (first
     | (go_at_call 73; (with_reducible refine cM (HC25.out _ HM.out) ?_); rintro e w1 ⟨rfl, h, -⟩; replace HM := zh h; clear h)
     | (go_at_call 55; (with_reducible refine cM (HC27.out _ HM.out) ?_); rintro e w1 ⟨rfl, h⟩; replace HM := zh h; clear h)
     | (go_at_call 78; (with_reducible refine cM (HC28.out _ HM.out) ?_); rintro e w1 ⟨rfl, h⟩; replace HM := zh h; clear h))
    go_end0
    exact ⟨rfl, HM.out⟩)
theorem g_listA (l : List Tk) (all : Bool) (n : Nat) (D_expr : GoodR l all n 103 [.rule .r_expr]) : NodeAt l all n 140 [.int .u8 31, .string ⟨#[40]⟩, .string ⟨#[41]⟩] 31 [.word ⟨#[40]⟩, .rule .r_args, .word ⟨#[41]⟩] := by
 intro W0 A c p w s s1 H hf hr hfin
 have HM := zh H
 clear H
 show Calls Tryz.prog _ #[.pointer (some ⟨p, 0, none⟩), .int .u8 31, .string ⟨#[40]⟩, .string ⟨#[41]⟩] w (RPost W0 A c l all p (clR s1))
 go_enter Tryz.func140, Tryz.ntmps140
 have HC1 := zh (fun (w1 : World) (h : RMem W0 A c l all w1 p s) => (show Calls Tryz.prog 52 #[.pointer (some ⟨p, 0, none⟩), .int .u8 31] w1 (RPost W0 A c l all p (opR 31 s)) from opens_any h 31 (fun he => (hf he).1)))
 have hr0 := hr
 obtain ⟨s2, h2, hr2⟩ := rrun_app n [.word ⟨#[40]⟩] [.rule .r_args, .word ⟨#[41]⟩] (opR 31 s) s1 hr0
 have HC2 := zh (fun (w1 : World) (h : RMem W0 A c l all w1 p (opR 31 s)) => (show Calls Tryz.prog 55 #[.pointer (some ⟨p, 0, none⟩), .string ⟨#[40]⟩] w1 (RPost W0 A c l all p s2) from ts_new h2 (by decide) (by decide) w1 h))
 obtain ⟨b3, hb3⟩ : ∃ b, begR l s2 = b := ⟨_, rfl⟩
 have HC3 := zh (fun (w1 : World) (h : RMem W0 A c l all w1 p s2) => (show Calls Tryz.prog 129 #[.pointer (some ⟨p, 0, none⟩)] w1 (BPost W0 A c l all p s2 b3 w1) from (hb3 ▸ rbegins_any h)))
 cases b3 with
 | true =>
  obtain ⟨he3, hx3, -⟩ := beg_yes hb3
  obtain ⟨m3, hkm3, hfi3, hp3⟩ := run_rule he3 hx3 hr2
  have hq3 : rrun l all m3 [.rule .r_expr, .rule .r_exprs, .word ⟨#[41]⟩] s2 = some s1 := hp3
  have hle3 : m3 + 1 ≤ n := by have := (Nat.le_refl n); omega
  obtain ⟨s4, h4, hr4⟩ := rrun_app m3 [.rule .r_expr] [.rule .r_exprs, .word ⟨#[41]⟩] s2 s1 hq3
  have HC4 := zh (fun (w1 : World) (h : RMem W0 A c l all w1 p s2) => (show Calls Tryz.prog 103 #[.pointer (some ⟨p, 0, none⟩)] w1 (RPost W0 A c l all p s4) from D_expr m3 (Nat.le_of_succ_le hle3) W0 A c p w1 s2 s4 h h4))
  have HR0 := zh hr4
  go_wp2_with (first
   | (go_at_call 52; (with_reducible refine cM (HC1.out _ HM.out) ?_); rintro e w1 ⟨rfl, h⟩; replace HM := zh h; clear h)
   | (go_at_call 55; (with_reducible refine cM (HC2.out _ HM.out) ?_); rintro e w1 ⟨rfl, h⟩; replace HM := zh h; clear h)
   | (go_at_call 129; (with_reducible refine cM (HC3.out _ HM.out) ?_); rintro e w1 ⟨rfl, h, -⟩; replace HM := zh h; clear h)
   | (go_at_call 103; (with_reducible refine cM (HC4.out _ HM.out) ?_); rintro e w1 ⟨rfl, h⟩; replace HM := zh h; clear h))
  go_loopg [9] m3 (fun kq v9 wr => Hid (∃ s0, RMem W0 A c l all wr p s0 ∧ kq ≤ m3 ∧ rrun l all kq [.rule .r_exprs, .word ⟨#[41]⟩] s0 = some s1))
  case atStart => exact zh ⟨_, HM.out, Nat.le_refl _, HR0.out⟩
  case round =>
   obtain ⟨s0, hM, hkn, hrun⟩ := hrel.out
   clear HR0 hrel HM
   have HM := zh hM
   clear hM
   obtain ⟨b25, hb25⟩ : ∃ b, cdR l s0 ⟨#[44]⟩ = b := ⟨_, rfl⟩
   have HC25 := zh (fun (w1 : World) (h : RMem W0 A c l all w1 p s0) => (show Calls Tryz.prog 73 #[.pointer (some ⟨p, 0, none⟩), .string ⟨#[44]⟩] w1 (BPost W0 A c l all p s0 b25 w1) from sg_new hb25 (by decide) (by decide) w1 h))
   cases b25 with
   | true =>
    obtain ⟨he25, hc25, hi25⟩ := cd_yes hb25
    obtain ⟨m25, hkm25, hfi25, hp25⟩ := run_rule he25 (e := [.push [.word ⟨#[44]⟩, .rule .r_expr, .rule .r_exprs]]) (by rw [hc25]; rfl) hrun
    have hq25 : rrun l all m25 [.word ⟨#[44]⟩, .rule .r_expr, .rule .r_exprs, .word ⟨#[41]⟩] s0 = some s1 := hp25
    have hle25 : m25 + 1 ≤ n := by have := (Nat.le_trans hkn (Nat.le_of_succ_le hle3)); omega
    obtain ⟨s26, h26, hr26⟩ := rrun_app m25 [.word ⟨#[44]⟩] [.rule .r_expr, .rule .r_exprs, .word ⟨#[41]⟩] s0 s1 hq25
    have HC26 := zh (fun (w1 : World) (h : RMem W0 A c l all w1 p s0) => (show Calls Tryz.prog 55 #[.pointer (some ⟨p, 0, none⟩), .string ⟨#[44]⟩] w1 (RPost W0 A c l all p s26) from ts_new h26 (by decide) (by decide) w1 h))
    obtain ⟨s27, h27, hr27⟩ := rrun_app m25 [.rule .r_expr] [.rule .r_exprs, .word ⟨#[41]⟩] s26 s1 hr26
    have HC27 := zh (fun (w1 : World) (h : RMem W0 A c l all w1 p s26) => (show Calls Tryz.prog 103 #[.pointer (some ⟨p, 0, none⟩)] w1 (RPost W0 A c l all p s27) from D_expr m25 (Nat.le_of_succ_le hle25) W0 A c p w1 s26 s27 h h27))
    have HRZ := zh hr27
    have HLZ := zh (show m25 ≤ m3 by omega)
    go_wp2_with (first
     | (go_at_call 73; (with_reducible refine cM (HC25.out _ HM.out) ?_); rintro e w1 ⟨rfl, h, -⟩; replace HM := zh h; clear h)
     | (go_at_call 55; (with_reducible refine cM (HC26.out _ HM.out) ?_); rintro e w1 ⟨rfl, h⟩; replace HM := zh h; clear h)
     | (go_at_call 103; (with_reducible refine cM (HC27.out _ HM.out) ?_); rintro e w1 ⟨rfl, h⟩; replace HM := zh h; clear h))
    go_roundg m25
    case measure => omega
    case rel => exact zh ⟨_, HM.out, HLZ.out, HRZ.out⟩
   | false =>
    have hs26 := run_stay (fun he => by have e25 := cd_no (by decide) hb25 he; simp [RId.expand, e25]) hrun
    obtain ⟨s27, h27, hr27⟩ := rrun_app gk [.word ⟨#[41]⟩] [] s0 s1 hs26
    have HC27 := zh (fun (w1 : World) (h : RMem W0 A c l all w1 p s0) => (show Calls Tryz.prog 55 #[.pointer (some ⟨p, 0, none⟩), .string ⟨#[41]⟩] w1 (RPost W0 A c l all p s27) from ts_new h27 (by decide) (by decide) w1 h))
    have hz28 : s1 = s27 := rrun_nil hr27
    have HZ28 := zh hz28
    clear hz28
    have HC28 := zh (fun (w1 : World) (h : RMem W0 A c l all w1 p s27) => (show Calls Tryz.prog 78 #[.pointer (some ⟨p, 0, none⟩)] w1 (RPost W0 A c l all p (clR s1)) from (by rw [HZ28.out]; exact closes_any h (fun he => by have h9 := hfin (by rw [HZ28.out]; exact he); rw [HZ28.out] at h9; exact ⟨by have := h9.1; omega, h9.2⟩))))
    go_wp2_with (first
     | (go_at_call 73; (with_reducible refine cM (HC25.out _ HM.out) ?_); rintro e w1 ⟨rfl, h, -⟩; replace HM := zh h; clear h)
     | (go_at_call 55; (with_reducible refine cM (HC27.out _ HM.out) ?_); rintro e w1 ⟨rfl, h⟩; replace HM := zh h; clear h)
     | (go_at_call 78; (with_reducible refine cM (HC28.out _ HM.out) ?_); rintro e w1 ⟨rfl, h⟩; replace HM := zh h; clear h))
    go_end0
    exact ⟨rfl, HM.out⟩
 | false =>
  have hs3 := run_stay (fun he => (beg_no hb3 he).1) hr2
  obtain ⟨s4, h4, hr4⟩ := rrun_app n [.word ⟨#[41]⟩] [] s2 s1 hs3
  have HC4 := zh (fun (w1 : World) (h : RMem W0 A c l all w1 p s2) => (show Calls Tryz.prog 55 #[.pointer (some ⟨p, 0, none⟩), .string ⟨#[41]⟩] w1 (RPost W0 A c l all p s4) from ts_new h4 (by decide) (by decide) w1 h))
  have hz5 : s1 = s4 := rrun_nil hr4
  have HZ5 := zh hz5
  clear hz5
  have HC5 := zh (fun (w1 : World) (h : RMem W0 A c l all w1 p s4) => (show Calls Tryz.prog 78 #[.pointer (some ⟨p, 0, none⟩)] w1 (RPost W0 A c l all p (clR s1)) from (by rw [HZ5.out]; exact closes_any h (fun he => by have h9 := hfin (by rw [HZ5.out]; exact he); rw [HZ5.out] at h9; exact ⟨by have := h9.1; omega, h9.2⟩))))
  go_wp2_with (first
   | (go_at_call 52; (with_reducible refine cM (HC1.out _ HM.out) ?_); rintro e w1 ⟨rfl, h⟩; replace HM := zh h; clear h)
   | (go_at_call 55; (with_reducible refine cM (HC2.out _ HM.out) ?_); rintro e w1 ⟨rfl, h⟩; replace HM := zh h; clear h)
   | (go_at_call 129; (with_reducible refine cM (HC3.out _ HM.out) ?_); rintro e w1 ⟨rfl, h, -⟩; replace HM := zh h; clear h)
   | (go_at_call 55; (with_reducible refine cM (HC4.out _ HM.out) ?_); rintro e w1 ⟨rfl, h⟩; replace HM := zh h; clear h)
   | (go_at_call 78; (with_reducible refine cM (HC5.out _ HM.out) ?_); rintro e w1 ⟨rfl, h⟩; replace HM := zh h; clear h))
  go_end0
  exact ⟨rfl, HM.out⟩
theorem g_objectR (l : List Tk) (all : Bool) (n : Nat) (N_listI : 0 < n → ∀ m, m ≤ n - 1 → NodeAt l all m 140 [.int .u8 29, .string ⟨#[91]⟩, .string ⟨#[93]⟩] 29 [.word ⟨#[91]⟩, .rule .r_expr, .rule .r_exprs, .word ⟨#[93]⟩]) (N_listA : 0 < n → ∀ m, m ≤ n - 1 → NodeAt l all m 140 [.int .u8 31, .string ⟨#[40]⟩, .string ⟨#[41]⟩] 31 [.word ⟨#[40]⟩, .rule .r_args, .word ⟨#[41]⟩]) : NodeAt l all n 127 [] 28 [.word ⟨#[64, 110, 97, 109, 101]⟩, .rule .r_selected] := by
 intro W0 A c p w s s1 H hf hr hfin
 have HM := zh H
 clear H
 show Calls Tryz.prog _ #[.pointer (some ⟨p, 0, none⟩)] w (RPost W0 A c l all p (clR s1))
 go_enter Tryz.func127, Tryz.ntmps127
 have HC1 := zh (fun (w1 : World) (h : RMem W0 A c l all w1 p s) => (show Calls Tryz.prog 52 #[.pointer (some ⟨p, 0, none⟩), .int .u8 28] w1 (RPost W0 A c l all p (opR 28 s)) from opens_any h 28 (fun he => (hf he).1)))
 have hr0 := hr
 obtain ⟨s2, h2, hr2⟩ := rrun_app n [.word ⟨#[64, 110, 97, 109, 101]⟩] [.rule .r_selected] (opR 28 s) s1 hr0
 have HC2 := zh (fun (w1 : World) (h : RMem W0 A c l all w1 p (opR 28 s)) => (show Calls Tryz.prog 54 #[.pointer (some ⟨p, 0, none⟩)] w1 (RPost W0 A c l all p s2) from tn_new h2 w1 h))
 have HR0 := zh hr2
 go_wp2_with (first
  | (go_at_call 52; (with_reducible refine cM (HC1.out _ HM.out) ?_); rintro e w1 ⟨rfl, h⟩; replace HM := zh h; clear h)
  | (go_at_call 54; (with_reducible refine cM (HC2.out _ HM.out) ?_); rintro e w1 ⟨rfl, h⟩; replace HM := zh h; clear h))
 go_loopg [2] n (fun kq v2 wr => Hid (∃ s0, RMem W0 A c l all wr p s0 ∧ kq ≤ n ∧ rrun l all kq [.rule .r_selected] s0 = some s1))
 case atStart => exact zh ⟨_, HM.out, Nat.le_refl _, HR0.out⟩
 case round =>
  obtain ⟨s0, hM, hkn, hrun⟩ := hrel.out
  clear HR0 hrel HM
  have HM := zh hM
  clear hM
  obtain ⟨b23, hb23⟩ : ∃ b, cdR l s0 ⟨#[91]⟩ = b := ⟨_, rfl⟩
  have HC23 := zh (fun (w1 : World) (h : RMem W0 A c l all w1 p s0) => (show Calls Tryz.prog 73 #[.pointer (some ⟨p, 0, none⟩), .string ⟨#[91]⟩] w1 (BPost W0 A c l all p s0 b23 w1) from sg_new hb23 (by decide) (by decide) w1 h))
  obtain ⟨b24, hb24⟩ : ∃ b, cdR l s0 ⟨#[46]⟩ = b := ⟨_, rfl⟩
  have HC24 := zh (fun (w1 : World) (h : RMem W0 A c l all w1 p s0) => (show Calls Tryz.prog 73 #[.pointer (some ⟨p, 0, none⟩), .string ⟨#[46]⟩] w1 (BPost W0 A c l all p s0 b24 w1) from sg_new hb24 (by decide) (by decide) w1 h))
  obtain ⟨b25, hb25⟩ : ∃ b, cdR l s0 ⟨#[40]⟩ = b := ⟨_, rfl⟩
  have HC25 := zh (fun (w1 : World) (h : RMem W0 A c l all w1 p s0) => (show Calls Tryz.prog 73 #[.pointer (some ⟨p, 0, none⟩), .string ⟨#[40]⟩] w1 (BPost W0 A c l all p s0 b25 w1) from sg_new hb25 (by decide) (by decide) w1 h))
  cases b23 with
  | true =>
   obtain ⟨he23, hc23, hi23⟩ := cd_yes hb23
   obtain ⟨m23, hkm23, hfi23, hp23⟩ := run_rule he23 (e := [.push [.rule .r_selected], .opn 29 [.word ⟨#[91]⟩, .rule .r_expr, .rule .r_exprs, .word ⟨#[93]⟩]]) (by rw [hc23]; rfl) hrun
   obtain ⟨s23, h23, hfin23, hr23⟩ := run_fin (show rrun l all m23 ([.word ⟨#[91]⟩, .rule .r_expr, .rule .r_exprs, .word ⟨#[93]⟩] ++ .fin 29 :: [.rule .r_selected]) (opR 29 s0) = some s1 from hp23)
   have hle23 : m23 + 1 ≤ n := by have := hkn; omega
   have HC123 := zh (fun (w1 : World) (h : RMem W0 A c l all w1 p s0) => (show Calls Tryz.prog 140 #[.pointer (some ⟨p, 0, none⟩), .int .u8 29, .string ⟨#[91]⟩, .string ⟨#[93]⟩] w1 (RPost W0 A c l all p (clR s23)) from N_listI (by omega) m23 (by omega) W0 A c p w1 s0 s23 h (fun _ => hfi23) h23 hfin23))
   have HRZ := zh hr23
   have HLZ := zh (show m23 ≤ n by omega)
   go_wp2_with (first
    | (go_at_call 73; (with_reducible refine cM (HC23.out _ HM.out) ?_); rintro e w1 ⟨rfl, h, -⟩; replace HM := zh h; clear h)
    | (go_at_call 73; (with_reducible refine cM (HC24.out _ HM.out) ?_); rintro e w1 ⟨rfl, h, -⟩; replace HM := zh h; clear h)
    | (go_at_call 73; (with_reducible refine cM (HC25.out _ HM.out) ?_); rintro e w1 ⟨rfl, h, -⟩; replace HM := zh h; clear h)
    | (go_at_call 140; (with_reducible refine cM (HC123.out _ HM.out) ?_); rintro e w1 ⟨rfl, h⟩; replace HM := zh h; clear h))
   go_roundg m23
   case measure => omega
   case rel => exact zh ⟨_, HM.out, HLZ.out, HRZ.out⟩
  | false =>
   cases b24 with
   | true =>
    obtain ⟨he24, hc24, hi24⟩ := cd_yes hb24
    obtain ⟨m24, hkm24, hfi24, hp24⟩ := run_rule he24 (e := [.push [.rule .r_selected], .opn 30 [.word ⟨#[46]⟩, .word ⟨#[64, 110, 97, 109, 101]⟩]]) (by rw [hc24]; rfl) hrun
    obtain ⟨s24, h24, hfin24, hr24⟩ := run_fin (show rrun l all m24 ([.word ⟨#[46]⟩, .word ⟨#[64, 110, 97, 109, 101]⟩] ++ .fin 30 :: [.rule .r_selected]) (opR 30 s0) = some s1 from hp24)
    have hle24 : m24 + 1 ≤ n := by have := hkn; omega
    have HC124 := zh (fun (w1 : World) (h : RMem W0 A c l all w1 p s0) => (show Calls Tryz.prog 52 #[.pointer (some ⟨p, 0, none⟩), .int .u8 30] w1 (RPost W0 A c l all p (opR 30 s0)) from opens_any h 30 (fun _ => hfi24.1)))
    obtain ⟨s26, h26, hr26⟩ := rrun_app m24 [.word ⟨#[46]⟩] [.word ⟨#[64, 110, 97, 109, 101]⟩] (opR 30 s0) s24 h24
    have HC26 := zh (fun (w1 : World) (h : RMem W0 A c l all w1 p (opR 30 s0)) => (show Calls Tryz.prog 55 #[.pointer (some ⟨p, 0, none⟩), .string ⟨#[46]⟩] w1 (RPost W0 A c l all p s26) from ts_new h26 (by decide) (by decide) w1 h))
    obtain ⟨s27, h27, hr27⟩ := rrun_app m24 [.word ⟨#[64, 110, 97, 109, 101]⟩] [] s26 s24 hr26
    have HC27 := zh (fun (w1 : World) (h : RMem W0 A c l all w1 p s26) => (show Calls Tryz.prog 54 #[.pointer (some ⟨p, 0, none⟩)] w1 (RPost W0 A c l all p s27) from tn_new h27 w1 h))
    have hz28 : s24 = s27 := rrun_nil hr27
    have HZ28 := zh hz28
    clear hz28
    have HC28 := zh (fun (w1 : World) (h : RMem W0 A c l all w1 p s27) => (show Calls Tryz.prog 78 #[.pointer (some ⟨p, 0, none⟩)] w1 (RPost W0 A c l all p (clR s24)) from (by rw [HZ28.out]; exact closes_any h (fun he => by have h9 := hfin24 (by rw [HZ28.out]; exact he); rw [HZ28.out] at h9; exact ⟨by have := h9.1; omega, h9.2⟩))))
    have HRZ := zh hr24
    have HLZ := zh (show m24 ≤ n by omega)
    go_wp2_with (first
     | (go_at_call 73; (with_reducible refine cM (HC23.out _ HM.out) ?_); rintro e w1 ⟨rfl, h, -⟩; replace HM := zh h; clear h)
     | (go_at_call 73; (with_reducible refine cM (HC24.out _ HM.out) ?_); rintro e w1 ⟨rfl, h, -⟩; replace HM := zh h; clear h)
     | (go_at_call 73; (with_reducible refine cM (HC25.out _ HM.out) ?_); rintro e w1 ⟨rfl, h, -⟩; replace HM := zh h; clear h)
     | (go_at_call 52; (with_reducible refine cM (HC124.out _ HM.out) ?_); rintro e w1 ⟨rfl, h⟩; replace HM := zh h; clear h)
     | (go_at_call 55; (with_reducible refine cM (HC26.out _ HM.out) ?_); rintro e w1 ⟨rfl, h⟩; replace HM := zh h; clear h)
     | (go_at_call 54; (with_reducible refine cM (HC27.out _ HM.out) ?_); rintro e w1 ⟨rfl, h⟩; replace HM := zh h; clear h)
     | (go_at_call 78; (with_reducible refine cM (HC28.out _ HM.out) ?_); rintro e w1 ⟨rfl, h⟩; replace HM := zh h; clear h))
    go_roundg m24
    case measure => omega
    case rel => exact zh ⟨_, HM.out, HLZ.out, HRZ.out⟩
   | false =>
    cases b25 with
    | true =>
     obtain ⟨he25, hc25, hi25⟩ := cd_yes hb25
     obtain ⟨m25, hkm25, hfi25, hp25⟩ := run_rule he25 (e := [.push [.rule .r_selected], .opn 31 [.word ⟨#[40]⟩, .rule .r_args, .word ⟨#[41]⟩]]) (by rw [hc25]; rfl) hrun
     obtain ⟨s25, h25, hfin25, hr25⟩ := run_fin (show rrun l all m25 ([.word ⟨#[40]⟩, .rule .r_args, .word ⟨#[41]⟩] ++ .fin 31 :: [.rule .r_selected]) (opR 31 s0) = some s1 from hp25)
     have hle25 : m25 + 1 ≤ n := by have := hkn; omega
     have HC125 := zh (fun (w1 : World) (h : RMem W0 A c l all w1 p s0) => (show Calls Tryz.prog 140 #[.pointer (some ⟨p, 0, none⟩), .int .u8 31, .string ⟨#[40]⟩, .string ⟨#[41]⟩] w1 (RPost W0 A c l all p (clR s25)) from N_listA (by omega) m25 (by omega) W0 A c p w1 s0 s25 h (fun _ => hfi25) h25 hfin25))
     have HRZ := zh hr25
     have HLZ := zh (show m25 ≤ n by omega)
     go_wp2_with (first
      | (go_at_call 73; (with_reducible refine cM (HC23.out _ HM.out) ?_); rintro e w1 ⟨rfl, h, -⟩; replace HM := zh h; clear h)
      | (go_at_call 73; (with_reducible refine cM (HC24.out _ HM.out) ?_); rintro e w1 ⟨rfl, h, -⟩; replace HM := zh h; clear h)
      | (go_at_call 73; (with_reducible refine cM (HC25.out _ HM.out) ?_); rintro e w1 ⟨rfl, h, -⟩; replace HM := zh h; clear h)
      | (go_at_call 140; (with_reducible refine cM (HC125.out _ HM.out) ?_); rintro e w1 ⟨rfl, h⟩; replace HM := zh h; clear h))
     go_roundg m25
     case measure => omega
     case rel => exact zh ⟨_, HM.out, HLZ.out, HRZ.out⟩
    | false =>
     have hs26 := run_stay (fun he => by have e23 := cd_no (by decide) hb23 he; have e24 := cd_no (by decide) hb24 he; have e25 := cd_no (by decide) hb25 he; simp [RId.expand, e23, e24, e25]) hrun
     have hz27 : s1 = s0 := rrun_nil hs26
     have HZ27 := zh hz27
     clear hz27
     have HC27 := zh (fun (w1 : World) (h : RMem W0 A c l all w1 p s0) => (show Calls Tryz.prog 78 #[.pointer (some ⟨p, 0, none⟩)] w1 (RPost W0 A c l all p (clR s1)) from (by rw [HZ27.out]; exact closes_any h (fun he => by have h9 := hfin (by rw [HZ27.out]; exact he); rw [HZ27.out] at h9; exact ⟨by have := h9.1; omega, h9.2⟩))))
     go_wp2_with (first
      | (go_at_call 73; (with_reducible refine cM (HC23.out _ HM.out) ?_); rintro e w1 ⟨rfl, h, -⟩; replace HM := zh h; clear h)
      | (go_at_call 73; (with_reducible refine cM (HC24.out _ HM.out) ?_); rintro e w1 ⟨rfl, h, -⟩; replace HM := zh h; clear h)
      | (go_at_call 73; (with_reducible refine cM (HC25.out _ HM.out) ?_); rintro e w1 ⟨rfl, h, -⟩; replace HM := zh h; clear h)
      | (go_at_call 78; (with_reducible refine cM (HC27.out _ HM.out) ?_); rintro e w1 ⟨rfl, h⟩; replace HM := zh h; clear h))
     go_end0
     exact ⟨rfl, HM.out⟩
theorem val_yes {l : List Tk} {s : RS} (h : (cdR l s ⟨#[64, 110, 117, 109, 98, 101, 114]⟩ || cdR l s ⟨#[64, 116, 101, 120, 116]⟩ || cdR l s ⟨#[64, 99, 104, 97, 114]⟩) = true) : ∃ x, cdR l s x = true ∧ RId.expand .r_factor (cAt l s.i) = some [.opn 32 [.word x]] := by
 simp only [Bool.or_eq_true] at h
 rcases h with (h | h) | h
 ·exact ⟨_, h, by rw [(cd_yes h).2.1]; rfl⟩
 ·exact ⟨_, h, by rw [(cd_yes h).2.1]; rfl⟩
 ·exact ⟨_, h, by rw [(cd_yes h).2.1]; rfl⟩
theorem val_no {l : List Tk} {s : RS} (h : (cdR l s ⟨#[64, 110, 117, 109, 98, 101, 114]⟩ || cdR l s ⟨#[64, 116, 101, 120, 116]⟩ || cdR l s ⟨#[64, 99, 104, 97, 114]⟩) = false) (he : s.e = 0) : ¬ cAt l s.i = ⟨#[64, 110, 117, 109, 98, 101, 114]⟩ ∧ ¬ cAt l s.i = ⟨#[64, 116, 101, 120, 116]⟩ ∧ ¬ cAt l s.i = ⟨#[64, 99, 104, 97, 114]⟩ := by
 simp only [Bool.or_eq_false_iff] at h
 exact ⟨cd_no (by decide) h.1.1 he, cd_no (by decide) h.1.2 he, cd_no (by decide) h.2 he⟩
theorem g_kindOf (l : List Tk) (all : Bool) (n : Nat) (C_expr : 0 < n → GoodR l all (n - 1) 103 [.rule .r_expr]) (C_kindOf : 0 < n → GoodR l all (n - 1) 105 [.rule .r_kind]) (N_row2 : 0 < n → ∀ m, m ≤ n - 1 → NodeAt l all m 104 [.int .u8 10, .int .u8 11, .string ⟨#[101, 110, 100]⟩] 10 [.word ⟨#[114, 101, 99, 111, 114, 100]⟩, .rule .r_member, .rule .r_members, .word ⟨#[101, 110, 100]⟩]) : GoodAt l all n 105 [.rule .r_kind] := by
 intro W0 A c p w s r H hr
 have HM := zh H
 clear H
 show Calls Tryz.prog _ #[.pointer (some ⟨p, 0, none⟩)] w (RPost W0 A c l all p r)
 go_enter Tryz.func105, Tryz.ntmps105
 obtain ⟨b1, hb1⟩ : ∃ b, cdR l s ⟨#[97, 114, 114, 97, 121]⟩ = b := ⟨_, rfl⟩
 have HC1 := zh (fun (w1 : World) (h : RMem W0 A c l all w1 p s) => (show Calls Tryz.prog 70 #[.pointer (some ⟨p, 0, none⟩), .string ⟨#[97, 114, 114, 97, 121]⟩] w1 (BPost W0 A c l all p s b1 w1) from wd_new hb1 (by decide) (by decide) w1 h))
 obtain ⟨b2, hb2⟩ : ∃ b, cdR l s ⟨#[114, 101, 99, 111, 114, 100]⟩ = b := ⟨_, rfl⟩
 have HC2 := zh (fun (w1 : World) (h : RMem W0 A c l all w1 p s) => (show Calls Tryz.prog 70 #[.pointer (some ⟨p, 0, none⟩), .string ⟨#[114, 101, 99, 111, 114, 100]⟩] w1 (BPost W0 A c l all p s b2 w1) from wd_new hb2 (by decide) (by decide) w1 h))
 cases b1 with
 | true =>
  obtain ⟨he1, hc1, hi1⟩ := cd_yes hb1
  obtain ⟨m3, s3, hm3, hfi3, h3, hfin3, hr3⟩ := run_node (k := 9) (T := [.word ⟨#[97, 114, 114, 97, 121]⟩, .word ⟨#[91]⟩, .rule .r_expr, .word ⟨#[46, 46]⟩, .rule .r_expr, .word ⟨#[93]⟩, .word ⟨#[111, 102]⟩, .rule .r_kind]) (S := []) (fun _ => by rw [hc1]; rfl) hr
  have HC3 := zh (fun (w1 : World) (h : RMem W0 A c l all w1 p s) => (show Calls Tryz.prog 52 #[.pointer (some ⟨p, 0, none⟩), .int .u8 9] w1 (RPost W0 A c l all p (opR 9 s)) from opens_any h 9 (fun he => (hfi3 he).1.1)))
  have hle3 : m3 ≤ n := by have := (Nat.le_refl n); omega
  have hlt3 : m3 + 1 ≤ n := by have := (hfi3 he1).2; have := (Nat.le_refl n); omega
  obtain ⟨s4, h4, hr4⟩ := rrun_app m3 [.word ⟨#[97, 114, 114, 97, 121]⟩] [.word ⟨#[91]⟩, .rule .r_expr, .word ⟨#[46, 46]⟩, .rule .r_expr, .word ⟨#[93]⟩, .word ⟨#[111, 102]⟩, .rule .r_kind] (opR 9 s) s3 h3
  have HC4 := zh (fun (w1 : World) (h : RMem W0 A c l all w1 p (opR 9 s)) => (show Calls Tryz.prog 53 #[.pointer (some ⟨p, 0, none⟩), .string ⟨#[97, 114, 114, 97, 121]⟩] w1 (RPost W0 A c l all p s4) from tw_new h4 (by decide) (by decide) w1 h))
  obtain ⟨s5, h5, hr5⟩ := rrun_app m3 [.word ⟨#[91]⟩] [.rule .r_expr, .word ⟨#[46, 46]⟩, .rule .r_expr, .word ⟨#[93]⟩, .word ⟨#[111, 102]⟩, .rule .r_kind] s4 s3 hr4
  have HC5 := zh (fun (w1 : World) (h : RMem W0 A c l all w1 p s4) => (show Calls Tryz.prog 55 #[.pointer (some ⟨p, 0, none⟩), .string ⟨#[91]⟩] w1 (RPost W0 A c l all p s5) from ts_new h5 (by decide) (by decide) w1 h))
  obtain ⟨s6, h6, hr6⟩ := rrun_app m3 [.rule .r_expr] [.word ⟨#[46, 46]⟩, .rule .r_expr, .word ⟨#[93]⟩, .word ⟨#[111, 102]⟩, .rule .r_kind] s5 s3 hr5
  have HC6 := zh (fun (w1 : World) (h : RMem W0 A c l all w1 p s5) => (show Calls Tryz.prog 103 #[.pointer (some ⟨p, 0, none⟩)] w1 (RPost W0 A c l all p s6) from C_expr (by have := hlt3; omega) m3 (by omega) W0 A c p w1 s5 s6 h h6))
  obtain ⟨s7, h7, hr7⟩ := rrun_app m3 [.word ⟨#[46, 46]⟩] [.rule .r_expr, .word ⟨#[93]⟩, .word ⟨#[111, 102]⟩, .rule .r_kind] s6 s3 hr6
  have HC7 := zh (fun (w1 : World) (h : RMem W0 A c l all w1 p s6) => (show Calls Tryz.prog 55 #[.pointer (some ⟨p, 0, none⟩), .string ⟨#[46, 46]⟩] w1 (RPost W0 A c l all p s7) from ts_new h7 (by decide) (by decide) w1 h))
  obtain ⟨s8, h8, hr8⟩ := rrun_app m3 [.rule .r_expr] [.word ⟨#[93]⟩, .word ⟨#[111, 102]⟩, .rule .r_kind] s7 s3 hr7
  have HC8 := zh (fun (w1 : World) (h : RMem W0 A c l all w1 p s7) => (show Calls Tryz.prog 103 #[.pointer (some ⟨p, 0, none⟩)] w1 (RPost W0 A c l all p s8) from C_expr (by have := hlt3; omega) m3 (by omega) W0 A c p w1 s7 s8 h h8))
  obtain ⟨s9, h9, hr9⟩ := rrun_app m3 [.word ⟨#[93]⟩] [.word ⟨#[111, 102]⟩, .rule .r_kind] s8 s3 hr8
  have HC9 := zh (fun (w1 : World) (h : RMem W0 A c l all w1 p s8) => (show Calls Tryz.prog 55 #[.pointer (some ⟨p, 0, none⟩), .string ⟨#[93]⟩] w1 (RPost W0 A c l all p s9) from ts_new h9 (by decide) (by decide) w1 h))
  obtain ⟨s10, h10, hr10⟩ := rrun_app m3 [.word ⟨#[111, 102]⟩] [.rule .r_kind] s9 s3 hr9
  have HC10 := zh (fun (w1 : World) (h : RMem W0 A c l all w1 p s9) => (show Calls Tryz.prog 53 #[.pointer (some ⟨p, 0, none⟩), .string ⟨#[111, 102]⟩] w1 (RPost W0 A c l all p s10) from tw_new h10 (by decide) (by decide) w1 h))
  obtain ⟨s11, h11, hr11⟩ := rrun_app m3 [.rule .r_kind] [] s10 s3 hr10
  have HC11 := zh (fun (w1 : World) (h : RMem W0 A c l all w1 p s10) => (show Calls Tryz.prog 105 #[.pointer (some ⟨p, 0, none⟩)] w1 (RPost W0 A c l all p s11) from C_kindOf (by have := hlt3; omega) m3 (by omega) W0 A c p w1 s10 s11 h h11))
  have hz12 : s3 = s11 := rrun_nil hr11
  have HZ12 := zh hz12
  clear hz12
  have HC12 := zh (fun (w1 : World) (h : RMem W0 A c l all w1 p s11) => (show Calls Tryz.prog 78 #[.pointer (some ⟨p, 0, none⟩)] w1 (RPost W0 A c l all p (clR s3)) from (by rw [HZ12.out]; exact closes_any h (fun he => by have h9 := hfin3 (by rw [HZ12.out]; exact he); rw [HZ12.out] at h9; exact ⟨by have := h9.1; omega, h9.2⟩))))
  have hz13 := rrun_nil hr3
  have HY13 := zh hz13
  clear hz13
  go_wp2_with (first
   | (go_at_call 70; (with_reducible refine cM (HC1.out _ HM.out) ?_); rintro e w1 ⟨rfl, h, -⟩; replace HM := zh h; clear h)
   | (go_at_call 70; (with_reducible refine cM (HC2.out _ HM.out) ?_); rintro e w1 ⟨rfl, h, -⟩; replace HM := zh h; clear h)
   | (go_at_call 52; (with_reducible refine cM (HC3.out _ HM.out) ?_); rintro e w1 ⟨rfl, h⟩; replace HM := zh h; clear h)
   | (go_at_call 53; (with_reducible refine cM (HC4.out _ HM.out) ?_); rintro e w1 ⟨rfl, h⟩; replace HM := zh h; clear h)
   | (go_at_call 55; (with_reducible refine cM (HC5.out _ HM.out) ?_); rintro e w1 ⟨rfl, h⟩; replace HM := zh h; clear h)
   | (go_at_call 103; (with_reducible refine cM (HC6.out _ HM.out) ?_); rintro e w1 ⟨rfl, h⟩; replace HM := zh h; clear h)
   | (go_at_call 55; (with_reducible refine cM (HC7.out _ HM.out) ?_); rintro e w1 ⟨rfl, h⟩; replace HM := zh h; clear h)
   | (go_at_call 103; (with_reducible refine cM (HC8.out _ HM.out) ?_); rintro e w1 ⟨rfl, h⟩; replace HM := zh h; clear h)
   | (go_at_call 55; (with_reducible refine cM (HC9.out _ HM.out) ?_); rintro e w1 ⟨rfl, h⟩; replace HM := zh h; clear h)
   | (go_at_call 53; (with_reducible refine cM (HC10.out _ HM.out) ?_); rintro e w1 ⟨rfl, h⟩; replace HM := zh h; clear h)
   | (go_at_call 105; (with_reducible refine cM (HC11.out _ HM.out) ?_); rintro e w1 ⟨rfl, h⟩; replace HM := zh h; clear h)
   | (go_at_call 78; (with_reducible refine cM (HC12.out _ HM.out) ?_); rintro e w1 ⟨rfl, h⟩; replace HM := zh h; clear h))
  refine ⟨rfl, .tuple #[], by kernel_rfl, rfl, ?_⟩
  rw [HY13.out]; exact HM.out
 | false =>
  cases b2 with
  | true =>
   obtain ⟨he2, hc2, hi2⟩ := cd_yes hb2
   obtain ⟨m3, s3, hm3, hfi3, h3, hfin3, hr3⟩ := run_node (k := 10) (T := [.word ⟨#[114, 101, 99, 111, 114, 100]⟩, .rule .r_member, .rule .r_members, .word ⟨#[101, 110, 100]⟩]) (S := []) (fun _ => by rw [hc2]; rfl) hr
   have HC3 := zh (fun (w1 : World) (h : RMem W0 A c l all w1 p s) => (show Calls Tryz.prog 104 #[.pointer (some ⟨p, 0, none⟩), .int .u8 10, .int .u8 11, .string ⟨#[101, 110, 100]⟩] w1 (RPost W0 A c l all p (clR s3)) from N_row2 (by have := (hfi3 he2).2; have := (Nat.le_refl n); omega) m3 (by have := (hfi3 he2).2; have := (Nat.le_refl n); omega) W0 A c p w1 s s3 h (fun he => (hfi3 he).1) h3 hfin3))
   have hz4 := rrun_nil hr3
   have HY4 := zh hz4
   clear hz4
   go_wp2_with (first
    | (go_at_call 70; (with_reducible refine cM (HC1.out _ HM.out) ?_); rintro e w1 ⟨rfl, h, -⟩; replace HM := zh h; clear h)
    | (go_at_call 70; (with_reducible refine cM (HC2.out _ HM.out) ?_); rintro e w1 ⟨rfl, h, -⟩; replace HM := zh h; clear h)
    | (go_at_call 104; (with_reducible refine cM (HC3.out _ HM.out) ?_); rintro e w1 ⟨rfl, h⟩; replace HM := zh h; clear h))
   refine ⟨rfl, .tuple #[], by kernel_rfl, rfl, ?_⟩
   rw [HY4.out]; exact HM.out
  | false =>
   obtain ⟨b3, hb3⟩ : ∃ b, cdR l s ⟨#[64, 110, 97, 109, 101]⟩ = b := ⟨_, rfl⟩
   cases b3 with
   | true =>
    obtain ⟨he3, hc3, hi3⟩ := cd_yes hb3
    obtain ⟨m4, s4, hm4, hfi4, h4, hfin4, hr4⟩ := run_node (k := 8) (T := [.word ⟨#[64, 110, 97, 109, 101]⟩]) (S := []) (fun _ => by rw [hc3]; rfl) hr
    have HC4 := zh (fun (w1 : World) (h : RMem W0 A c l all w1 p s) => (show Calls Tryz.prog 52 #[.pointer (some ⟨p, 0, none⟩), .int .u8 8] w1 (RPost W0 A c l all p (opR 8 s)) from opens_any h 8 (fun he => (hfi4 he).1.1)))
    have hle4 : m4 ≤ n := by have := (Nat.le_refl n); omega
    have hlt4 : m4 + 1 ≤ n := by have := (hfi4 he3).2; have := (Nat.le_refl n); omega
    obtain ⟨s5, h5, hr5⟩ := rrun_app m4 [.word ⟨#[64, 110, 97, 109, 101]⟩] [] (opR 8 s) s4 h4
    have HC5 := zh (fun (w1 : World) (h : RMem W0 A c l all w1 p (opR 8 s)) => (show Calls Tryz.prog 54 #[.pointer (some ⟨p, 0, none⟩)] w1 (RPost W0 A c l all p s5) from tn_new h5 w1 h))
    have hz6 : s4 = s5 := rrun_nil hr5
    have HZ6 := zh hz6
    clear hz6
    have HC6 := zh (fun (w1 : World) (h : RMem W0 A c l all w1 p s5) => (show Calls Tryz.prog 78 #[.pointer (some ⟨p, 0, none⟩)] w1 (RPost W0 A c l all p (clR s4)) from (by rw [HZ6.out]; exact closes_any h (fun he => by have h9 := hfin4 (by rw [HZ6.out]; exact he); rw [HZ6.out] at h9; exact ⟨by have := h9.1; omega, h9.2⟩))))
    have hz7 := rrun_nil hr4
    have HY7 := zh hz7
    clear hz7
    go_wp2_with (first
     | (go_at_call 70; (with_reducible refine cM (HC1.out _ HM.out) ?_); rintro e w1 ⟨rfl, h, -⟩; replace HM := zh h; clear h)
     | (go_at_call 70; (with_reducible refine cM (HC2.out _ HM.out) ?_); rintro e w1 ⟨rfl, h, -⟩; replace HM := zh h; clear h)
     | (go_at_call 52; (with_reducible refine cM (HC4.out _ HM.out) ?_); rintro e w1 ⟨rfl, h⟩; replace HM := zh h; clear h)
     | (go_at_call 54; (with_reducible refine cM (HC5.out _ HM.out) ?_); rintro e w1 ⟨rfl, h⟩; replace HM := zh h; clear h)
     | (go_at_call 78; (with_reducible refine cM (HC6.out _ HM.out) ?_); rintro e w1 ⟨rfl, h⟩; replace HM := zh h; clear h))
    go_end0
    exact ⟨rfl, by rw [HY7.out]; exact HM.out⟩
   | false =>
    have hz4 : r = wrR l s := run_none (fun he => by have e1 := cd_no (by decide) hb1 he; have e2 := cd_no (by decide) hb2 he; have e3 := cd_no (by decide) hb3 he; simp [RId.expand, e1, e2, e3]) hr
    have HY4 := zh hz4
    clear hz4
    have hfo : s.e = 0 → s.ser ≤ 1099511627776 := fun he => (rrun_fit hr he).1
    have HC4 := zh (fun (w1 : World) (h : RMem W0 A c l all w1 p s) => (show Calls Tryz.prog 52 #[.pointer (some ⟨p, 0, none⟩), .int .u8 8] w1 (RPost W0 A c l all p (opR 8 s)) from opens_any h 8 hfo))
    have HC5 := zh (fun (w1 : World) (h : RMem W0 A c l all w1 p (opR 8 s)) => (show Calls Tryz.prog 54 #[.pointer (some ⟨p, 0, none⟩)] w1 (RPost W0 A c l all p (wrR l (opR 8 s))) from (by have h9 := rtakeName_any h (fun hc => by rw [cdR_op, hb3] at hc; cases hc); rw [cdR_op, hb3] at h9; rw [show tkR l all false (opR 8 s) = wrR l (opR 8 s) from if_neg (by decide)] at h9; exact h9)))
    have HC6 := zh (fun (w1 : World) (h : RMem W0 A c l all w1 p (wrR l (opR 8 s))) => (show Calls Tryz.prog 78 #[.pointer (some ⟨p, 0, none⟩)] w1 (RPost W0 A c l all p (clR (wrR l (opR 8 s)))) from closes_any h (fun he => absurd he wrR_e)))
    go_wp2_with (first
     | (go_at_call 70; (with_reducible refine cM (HC1.out _ HM.out) ?_); rintro e w1 ⟨rfl, h, -⟩; replace HM := zh h; clear h)
     | (go_at_call 70; (with_reducible refine cM (HC2.out _ HM.out) ?_); rintro e w1 ⟨rfl, h, -⟩; replace HM := zh h; clear h)
     | (go_at_call 52; (with_reducible refine cM (HC4.out _ HM.out) ?_); rintro e w1 ⟨rfl, h⟩; replace HM := zh h; clear h)
     | (go_at_call 54; (with_reducible refine cM (HC5.out _ HM.out) ?_); rintro e w1 ⟨rfl, h⟩; replace HM := zh h; clear h)
     | (go_at_call 78; (with_reducible refine cM (HC6.out _ HM.out) ?_); rintro e w1 ⟨rfl, h⟩; replace HM := zh h; clear h))
    go_end0
    exact ⟨rfl, by rw [HY4.out, ← wrR_op (k := 8)]; exact HM.out⟩
theorem g_factorR (l : List Tk) (all : Bool) (n : Nat) (C_factor : 0 < n → GoodR l all (n - 1) 153 [.rule .r_factor]) (C_expr : 0 < n → GoodR l all (n - 1) 103 [.rule .r_expr]) (D_object : GoodR l all n 127 [.rule .r_object]) : GoodAt l all n 153 [.rule .r_factor] := by
 intro W0 A c p w s r H hr
 have HM := zh H
 clear H
 show Calls Tryz.prog _ #[.pointer (some ⟨p, 0, none⟩)] w (RPost W0 A c l all p r)
 go_enter Tryz.func153, Tryz.ntmps153
 obtain ⟨b1, hb1⟩ : ∃ b, cdR l s ⟨#[45]⟩ = b := ⟨_, rfl⟩
 have HC1 := zh (fun (w1 : World) (h : RMem W0 A c l all w1 p s) => (show Calls Tryz.prog 73 #[.pointer (some ⟨p, 0, none⟩), .string ⟨#[45]⟩] w1 (BPost W0 A c l all p s b1 w1) from sg_new hb1 (by decide) (by decide) w1 h))
 obtain ⟨b2, hb2⟩ : ∃ b, cdR l s ⟨#[110, 111, 116]⟩ = b := ⟨_, rfl⟩
 have HC2 := zh (fun (w1 : World) (h : RMem W0 A c l all w1 p s) => (show Calls Tryz.prog 70 #[.pointer (some ⟨p, 0, none⟩), .string ⟨#[110, 111, 116]⟩] w1 (BPost W0 A c l all p s b2 w1) from wd_new hb2 (by decide) (by decide) w1 h))
 obtain ⟨b3, hb3⟩ : ∃ b, cdR l s ⟨#[40]⟩ = b := ⟨_, rfl⟩
 have HC3 := zh (fun (w1 : World) (h : RMem W0 A c l all w1 p s) => (show Calls Tryz.prog 73 #[.pointer (some ⟨p, 0, none⟩), .string ⟨#[40]⟩] w1 (BPost W0 A c l all p s b3 w1) from sg_new hb3 (by decide) (by decide) w1 h))
 obtain ⟨b4, hb4⟩ : ∃ b, (cdR l s ⟨#[64, 110, 117, 109, 98, 101, 114]⟩ || cdR l s ⟨#[64, 116, 101, 120, 116]⟩ || cdR l s ⟨#[64, 99, 104, 97, 114]⟩) = b := ⟨_, rfl⟩
 have HC4 := zh (fun (w1 : World) (h : RMem W0 A c l all w1 p s) => (show Calls Tryz.prog 141 #[.pointer (some ⟨p, 0, none⟩)] w1 (BPost W0 A c l all p s b4 w1) from (hb4 ▸ rvalue_any h)))
 obtain ⟨b5, hb5⟩ : ∃ b, cdR l s ⟨#[64, 110, 97, 109, 101]⟩ = b := ⟨_, rfl⟩
 have HC5 := zh (fun (w1 : World) (h : RMem W0 A c l all w1 p s) => (show Calls Tryz.prog 72 #[.pointer (some ⟨p, 0, none⟩), .int .u8 1] w1 (BPost W0 A c l all p s b5 w1) from (by have h9 := rkind_any h 1; rw [show (((1 : Nat)) : Int) = 1 from rfl, kdR_code (.inl ⟨rfl, rfl⟩), hb5] at h9; exact h9)))
 cases b1 with
 | true =>
  obtain ⟨he1, hc1, hi1⟩ := cd_yes hb1
  obtain ⟨m6, s6, hm6, hfi6, h6, hfin6, hr6⟩ := run_node (k := 25) (T := [.word ⟨#[45]⟩, .rule .r_factor]) (S := []) (fun _ => by rw [hc1]; rfl) hr
  have HC6 := zh (fun (w1 : World) (h : RMem W0 A c l all w1 p s) => (show Calls Tryz.prog 52 #[.pointer (some ⟨p, 0, none⟩), .int .u8 25] w1 (RPost W0 A c l all p (opR 25 s)) from opens_any h 25 (fun he => (hfi6 he).1.1)))
  have hle6 : m6 ≤ n := by have := (Nat.le_refl n); omega
  have hlt6 : m6 + 1 ≤ n := by have := (hfi6 he1).2; have := (Nat.le_refl n); omega
  obtain ⟨s7, h7, hr7⟩ := rrun_app m6 [.word ⟨#[45]⟩] [.rule .r_factor] (opR 25 s) s6 h6
  have HC7 := zh (fun (w1 : World) (h : RMem W0 A c l all w1 p (opR 25 s)) => (show Calls Tryz.prog 71 #[.pointer (some ⟨p, 0, none⟩), .bool true] w1 (RPost W0 A c l all p s7) from tt_new h7 (cdR_op.trans hb1) w1 h))
  obtain ⟨s8, h8, hr8⟩ := rrun_app m6 [.rule .r_factor] [] s7 s6 hr7
  have HC8 := zh (fun (w1 : World) (h : RMem W0 A c l all w1 p s7) => (show Calls Tryz.prog 153 #[.pointer (some ⟨p, 0, none⟩)] w1 (RPost W0 A c l all p s8) from C_factor (by have := hlt6; omega) m6 (by omega) W0 A c p w1 s7 s8 h h8))
  have hz9 : s6 = s8 := rrun_nil hr8
  have HZ9 := zh hz9
  clear hz9
  have HC9 := zh (fun (w1 : World) (h : RMem W0 A c l all w1 p s8) => (show Calls Tryz.prog 78 #[.pointer (some ⟨p, 0, none⟩)] w1 (RPost W0 A c l all p (clR s6)) from (by rw [HZ9.out]; exact closes_any h (fun he => by have h9 := hfin6 (by rw [HZ9.out]; exact he); rw [HZ9.out] at h9; exact ⟨by have := h9.1; omega, h9.2⟩))))
  have hz10 := rrun_nil hr6
  have HY10 := zh hz10
  clear hz10
  go_wp2_with (first
   | (go_at_call 73; (with_reducible refine cM (HC1.out _ HM.out) ?_); rintro e w1 ⟨rfl, h, -⟩; replace HM := zh h; clear h)
   | (go_at_call 70; (with_reducible refine cM (HC2.out _ HM.out) ?_); rintro e w1 ⟨rfl, h, -⟩; replace HM := zh h; clear h)
   | (go_at_call 73; (with_reducible refine cM (HC3.out _ HM.out) ?_); rintro e w1 ⟨rfl, h, -⟩; replace HM := zh h; clear h)
   | (go_at_call 141; (with_reducible refine cM (HC4.out _ HM.out) ?_); rintro e w1 ⟨rfl, h, -⟩; replace HM := zh h; clear h)
   | (go_at_call 72; (with_reducible refine cM (HC5.out _ HM.out) ?_); rintro e w1 ⟨rfl, h, -⟩; replace HM := zh h; clear h)
   | (go_at_call 52; (with_reducible refine cM (HC6.out _ HM.out) ?_); rintro e w1 ⟨rfl, h⟩; replace HM := zh h; clear h)
   | (go_at_call 71; (with_reducible refine cM (HC7.out _ HM.out) ?_); rintro e w1 ⟨rfl, h⟩; replace HM := zh h; clear h)
   | (go_at_call 153; (with_reducible refine cM (HC8.out _ HM.out) ?_); rintro e w1 ⟨rfl, h⟩; replace HM := zh h; clear h)
   | (go_at_call 78; (with_reducible refine cM (HC9.out _ HM.out) ?_); rintro e w1 ⟨rfl, h⟩; replace HM := zh h; clear h))
  go_end0
  exact ⟨rfl, by rw [HY10.out]; exact HM.out⟩
 | false =>
  cases b2 with
  | true =>
   obtain ⟨he2, hc2, hi2⟩ := cd_yes hb2
   obtain ⟨m6, s6, hm6, hfi6, h6, hfin6, hr6⟩ := run_node (k := 26) (T := [.word ⟨#[110, 111, 116]⟩, .rule .r_factor]) (S := []) (fun _ => by rw [hc2]; rfl) hr
   have HC6 := zh (fun (w1 : World) (h : RMem W0 A c l all w1 p s) => (show Calls Tryz.prog 52 #[.pointer (some ⟨p, 0, none⟩), .int .u8 26] w1 (RPost W0 A c l all p (opR 26 s)) from opens_any h 26 (fun he => (hfi6 he).1.1)))
   have hle6 : m6 ≤ n := by have := (Nat.le_refl n); omega
   have hlt6 : m6 + 1 ≤ n := by have := (hfi6 he2).2; have := (Nat.le_refl n); omega
   obtain ⟨s7, h7, hr7⟩ := rrun_app m6 [.word ⟨#[110, 111, 116]⟩] [.rule .r_factor] (opR 26 s) s6 h6
   have HC7 := zh (fun (w1 : World) (h : RMem W0 A c l all w1 p (opR 26 s)) => (show Calls Tryz.prog 71 #[.pointer (some ⟨p, 0, none⟩), .bool true] w1 (RPost W0 A c l all p s7) from tt_new h7 (cdR_op.trans hb2) w1 h))
   obtain ⟨s8, h8, hr8⟩ := rrun_app m6 [.rule .r_factor] [] s7 s6 hr7
   have HC8 := zh (fun (w1 : World) (h : RMem W0 A c l all w1 p s7) => (show Calls Tryz.prog 153 #[.pointer (some ⟨p, 0, none⟩)] w1 (RPost W0 A c l all p s8) from C_factor (by have := hlt6; omega) m6 (by omega) W0 A c p w1 s7 s8 h h8))
   have hz9 : s6 = s8 := rrun_nil hr8
   have HZ9 := zh hz9
   clear hz9
   have HC9 := zh (fun (w1 : World) (h : RMem W0 A c l all w1 p s8) => (show Calls Tryz.prog 78 #[.pointer (some ⟨p, 0, none⟩)] w1 (RPost W0 A c l all p (clR s6)) from (by rw [HZ9.out]; exact closes_any h (fun he => by have h9 := hfin6 (by rw [HZ9.out]; exact he); rw [HZ9.out] at h9; exact ⟨by have := h9.1; omega, h9.2⟩))))
   have hz10 := rrun_nil hr6
   have HY10 := zh hz10
   clear hz10
   go_wp2_with (first
    | (go_at_call 73; (with_reducible refine cM (HC1.out _ HM.out) ?_); rintro e w1 ⟨rfl, h, -⟩; replace HM := zh h; clear h)
    | (go_at_call 70; (with_reducible refine cM (HC2.out _ HM.out) ?_); rintro e w1 ⟨rfl, h, -⟩; replace HM := zh h; clear h)
    | (go_at_call 73; (with_reducible refine cM (HC3.out _ HM.out) ?_); rintro e w1 ⟨rfl, h, -⟩; replace HM := zh h; clear h)
    | (go_at_call 141; (with_reducible refine cM (HC4.out _ HM.out) ?_); rintro e w1 ⟨rfl, h, -⟩; replace HM := zh h; clear h)
    | (go_at_call 72; (with_reducible refine cM (HC5.out _ HM.out) ?_); rintro e w1 ⟨rfl, h, -⟩; replace HM := zh h; clear h)
    | (go_at_call 52; (with_reducible refine cM (HC6.out _ HM.out) ?_); rintro e w1 ⟨rfl, h⟩; replace HM := zh h; clear h)
    | (go_at_call 71; (with_reducible refine cM (HC7.out _ HM.out) ?_); rintro e w1 ⟨rfl, h⟩; replace HM := zh h; clear h)
    | (go_at_call 153; (with_reducible refine cM (HC8.out _ HM.out) ?_); rintro e w1 ⟨rfl, h⟩; replace HM := zh h; clear h)
    | (go_at_call 78; (with_reducible refine cM (HC9.out _ HM.out) ?_); rintro e w1 ⟨rfl, h⟩; replace HM := zh h; clear h))
   go_end0
   exact ⟨rfl, by rw [HY10.out]; exact HM.out⟩
  | false =>
   cases b3 with
   | true =>
    obtain ⟨he3, hc3, hi3⟩ := cd_yes hb3
    obtain ⟨m6, s6, hm6, hfi6, h6, hfin6, hr6⟩ := run_node (k := 27) (T := [.word ⟨#[40]⟩, .rule .r_expr, .word ⟨#[41]⟩]) (S := []) (fun _ => by rw [hc3]; rfl) hr
    have HC6 := zh (fun (w1 : World) (h : RMem W0 A c l all w1 p s) => (show Calls Tryz.prog 52 #[.pointer (some ⟨p, 0, none⟩), .int .u8 27] w1 (RPost W0 A c l all p (opR 27 s)) from opens_any h 27 (fun he => (hfi6 he).1.1)))
    have hle6 : m6 ≤ n := by have := (Nat.le_refl n); omega
    have hlt6 : m6 + 1 ≤ n := by have := (hfi6 he3).2; have := (Nat.le_refl n); omega
    obtain ⟨s7, h7, hr7⟩ := rrun_app m6 [.word ⟨#[40]⟩] [.rule .r_expr, .word ⟨#[41]⟩] (opR 27 s) s6 h6
    have HC7 := zh (fun (w1 : World) (h : RMem W0 A c l all w1 p (opR 27 s)) => (show Calls Tryz.prog 71 #[.pointer (some ⟨p, 0, none⟩), .bool true] w1 (RPost W0 A c l all p s7) from tt_new h7 (cdR_op.trans hb3) w1 h))
    obtain ⟨s8, h8, hr8⟩ := rrun_app m6 [.rule .r_expr] [.word ⟨#[41]⟩] s7 s6 hr7
    have HC8 := zh (fun (w1 : World) (h : RMem W0 A c l all w1 p s7) => (show Calls Tryz.prog 103 #[.pointer (some ⟨p, 0, none⟩)] w1 (RPost W0 A c l all p s8) from C_expr (by have := hlt6; omega) m6 (by omega) W0 A c p w1 s7 s8 h h8))
    obtain ⟨s9, h9, hr9⟩ := rrun_app m6 [.word ⟨#[41]⟩] [] s8 s6 hr8
    have HC9 := zh (fun (w1 : World) (h : RMem W0 A c l all w1 p s8) => (show Calls Tryz.prog 55 #[.pointer (some ⟨p, 0, none⟩), .string ⟨#[41]⟩] w1 (RPost W0 A c l all p s9) from ts_new h9 (by decide) (by decide) w1 h))
    have hz10 : s6 = s9 := rrun_nil hr9
    have HZ10 := zh hz10
    clear hz10
    have HC10 := zh (fun (w1 : World) (h : RMem W0 A c l all w1 p s9) => (show Calls Tryz.prog 78 #[.pointer (some ⟨p, 0, none⟩)] w1 (RPost W0 A c l all p (clR s6)) from (by rw [HZ10.out]; exact closes_any h (fun he => by have h9 := hfin6 (by rw [HZ10.out]; exact he); rw [HZ10.out] at h9; exact ⟨by have := h9.1; omega, h9.2⟩))))
    have hz11 := rrun_nil hr6
    have HY11 := zh hz11
    clear hz11
    go_wp2_with (first
     | (go_at_call 73; (with_reducible refine cM (HC1.out _ HM.out) ?_); rintro e w1 ⟨rfl, h, -⟩; replace HM := zh h; clear h)
     | (go_at_call 70; (with_reducible refine cM (HC2.out _ HM.out) ?_); rintro e w1 ⟨rfl, h, -⟩; replace HM := zh h; clear h)
     | (go_at_call 73; (with_reducible refine cM (HC3.out _ HM.out) ?_); rintro e w1 ⟨rfl, h, -⟩; replace HM := zh h; clear h)
     | (go_at_call 141; (with_reducible refine cM (HC4.out _ HM.out) ?_); rintro e w1 ⟨rfl, h, -⟩; replace HM := zh h; clear h)
     | (go_at_call 72; (with_reducible refine cM (HC5.out _ HM.out) ?_); rintro e w1 ⟨rfl, h, -⟩; replace HM := zh h; clear h)
     | (go_at_call 52; (with_reducible refine cM (HC6.out _ HM.out) ?_); rintro e w1 ⟨rfl, h⟩; replace HM := zh h; clear h)
     | (go_at_call 71; (with_reducible refine cM (HC7.out _ HM.out) ?_); rintro e w1 ⟨rfl, h⟩; replace HM := zh h; clear h)
     | (go_at_call 103; (with_reducible refine cM (HC8.out _ HM.out) ?_); rintro e w1 ⟨rfl, h⟩; replace HM := zh h; clear h)
     | (go_at_call 55; (with_reducible refine cM (HC9.out _ HM.out) ?_); rintro e w1 ⟨rfl, h⟩; replace HM := zh h; clear h)
     | (go_at_call 78; (with_reducible refine cM (HC10.out _ HM.out) ?_); rintro e w1 ⟨rfl, h⟩; replace HM := zh h; clear h))
    go_end0
    exact ⟨rfl, by rw [HY11.out]; exact HM.out⟩
   | false =>
    cases b4 with
    | true =>
     obtain ⟨x, hb9, hx9⟩ := val_yes hb4
     have he9 := (cd_yes hb9).1
     obtain ⟨m6, s6, hm6, hfi6, h6, hfin6, hr6⟩ := run_node (k := 32) (T := [.word x]) (S := []) (fun _ => hx9) hr
     have HC6 := zh (fun (w1 : World) (h : RMem W0 A c l all w1 p s) => (show Calls Tryz.prog 52 #[.pointer (some ⟨p, 0, none⟩), .int .u8 32] w1 (RPost W0 A c l all p (opR 32 s)) from opens_any h 32 (fun he => (hfi6 he).1.1)))
     have HC7 := zh (fun (w1 : World) (h : RMem W0 A c l all w1 p (opR 32 s)) => (show Calls Tryz.prog 71 #[.pointer (some ⟨p, 0, none⟩), .bool true] w1 (RPost W0 A c l all p s6) from tt_new h6 (cdR_op.trans hb9) w1 h))
     have HC8 := zh (fun (w1 : World) (h : RMem W0 A c l all w1 p s6) => (show Calls Tryz.prog 78 #[.pointer (some ⟨p, 0, none⟩)] w1 (RPost W0 A c l all p (clR s6)) from closes_any h (fun he => by have h9 := hfin6 he; exact ⟨by have := h9.1; omega, h9.2⟩)))
     have hz11 := rrun_nil hr6
     have HY11 := zh hz11
     clear hz11
     go_wp2_with (first
      | (go_at_call 73; (with_reducible refine cM (HC1.out _ HM.out) ?_); rintro e w1 ⟨rfl, h, -⟩; replace HM := zh h; clear h)
      | (go_at_call 70; (with_reducible refine cM (HC2.out _ HM.out) ?_); rintro e w1 ⟨rfl, h, -⟩; replace HM := zh h; clear h)
      | (go_at_call 73; (with_reducible refine cM (HC3.out _ HM.out) ?_); rintro e w1 ⟨rfl, h, -⟩; replace HM := zh h; clear h)
      | (go_at_call 141; (with_reducible refine cM (HC4.out _ HM.out) ?_); rintro e w1 ⟨rfl, h, -⟩; replace HM := zh h; clear h)
      | (go_at_call 72; (with_reducible refine cM (HC5.out _ HM.out) ?_); rintro e w1 ⟨rfl, h, -⟩; replace HM := zh h; clear h)
      | (go_at_call 52; (with_reducible refine cM (HC6.out _ HM.out) ?_); rintro e w1 ⟨rfl, h⟩; replace HM := zh h; clear h)
      | (go_at_call 71; (with_reducible refine cM (HC7.out _ HM.out) ?_); rintro e w1 ⟨rfl, h⟩; replace HM := zh h; clear h)
      | (go_at_call 78; (with_reducible refine cM (HC8.out _ HM.out) ?_); rintro e w1 ⟨rfl, h⟩; replace HM := zh h; clear h))
     go_end0
     exact ⟨rfl, by rw [HY11.out]; exact HM.out⟩
    | false =>
     cases b5 with
     | true =>
      have he5 := (cd_yes hb5).1
      have hro : rrun l all n [.rule .r_object] s = some r := run_same (fun _ => by rw [(cd_yes hb5).2.1]; rfl) hr
      have HC90 := zh (fun (w1 : World) (h : RMem W0 A c l all w1 p s) => (show Calls Tryz.prog 127 #[.pointer (some ⟨p, 0, none⟩)] w1 (RPost W0 A c l all p r) from D_object n (Nat.le_refl n) W0 A c p w1 s r h hro))
      go_wp2_with (first
       | (go_at_call 73; (with_reducible refine cM (HC1.out _ HM.out) ?_); rintro e w1 ⟨rfl, h, -⟩; replace HM := zh h; clear h)
       | (go_at_call 70; (with_reducible refine cM (HC2.out _ HM.out) ?_); rintro e w1 ⟨rfl, h, -⟩; replace HM := zh h; clear h)
       | (go_at_call 73; (with_reducible refine cM (HC3.out _ HM.out) ?_); rintro e w1 ⟨rfl, h, -⟩; replace HM := zh h; clear h)
       | (go_at_call 141; (with_reducible refine cM (HC4.out _ HM.out) ?_); rintro e w1 ⟨rfl, h, -⟩; replace HM := zh h; clear h)
       | (go_at_call 72; (with_reducible refine cM (HC5.out _ HM.out) ?_); rintro e w1 ⟨rfl, h, -⟩; replace HM := zh h; clear h)
       | (go_at_call 127; (with_reducible refine cM (HC90.out _ HM.out) ?_); rintro e w1 ⟨rfl, h⟩; replace HM := zh h; clear h))
      go_end0
      exact ⟨rfl, HM.out⟩
     | false =>
      have hz9 : r = wrR l s := run_noname (k := 28) (T := [.rule .r_selected]) (fun he => by have e1 := cd_no (by decide) hb1 he; have e2 := cd_no (by decide) hb2 he; have e3 := cd_no (by decide) hb3 he; have e5 := cd_no (by decide) hb5 he; obtain ⟨f1, f2, f3⟩ := val_no hb4 he; simp [RId.expand, e1, e2, e3, e5, f1, f2, f3]) hb5 hr
      have HY9 := zh hz9
      clear hz9
      have HC91 := zh (fun (w1 : World) (h : RMem W0 A c l all w1 p s) => (show Calls Tryz.prog 101 #[.pointer (some ⟨p, 0, none⟩)] w1 (RPost W0 A c l all p (wrR l s)) from rwrong_any h))
      go_wp2_with (first
       | (go_at_call 73; (with_reducible refine cM (HC1.out _ HM.out) ?_); rintro e w1 ⟨rfl, h, -⟩; replace HM := zh h; clear h)
       | (go_at_call 70; (with_reducible refine cM (HC2.out _ HM.out) ?_); rintro e w1 ⟨rfl, h, -⟩; replace HM := zh h; clear h)
       | (go_at_call 73; (with_reducible refine cM (HC3.out _ HM.out) ?_); rintro e w1 ⟨rfl, h, -⟩; replace HM := zh h; clear h)
       | (go_at_call 141; (with_reducible refine cM (HC4.out _ HM.out) ?_); rintro e w1 ⟨rfl, h, -⟩; replace HM := zh h; clear h)
       | (go_at_call 72; (with_reducible refine cM (HC5.out _ HM.out) ?_); rintro e w1 ⟨rfl, h, -⟩; replace HM := zh h; clear h)
       | (go_at_call 101; (with_reducible refine cM (HC91.out _ HM.out) ?_); rintro e w1 ⟨rfl, h⟩; replace HM := zh h; clear h))
      go_end0
      exact ⟨rfl, by rw [HY9.out]; exact HM.out⟩
abbrev cmpL : List ByteArray := [⟨#[61]⟩, ⟨#[35]⟩, ⟨#[60]⟩, ⟨#[60, 61]⟩, ⟨#[62]⟩, ⟨#[62, 61]⟩]
def SrAt (w : World) (g : Nat) (ws : List ByteArray) : Prop := w.heap[g]? = some (.cells (ws.map Value.string).toArray 9 (0, 0))
theorem SrAt.cell {w : World} {g : Nat} {ws : List ByteArray} (h : SrAt w g ws) {j : Nat} {s : ByteArray} (hj : ws[j]? = some s) : w.cell? ⟨g, j, none⟩ = some (.string s) := by
 rw [cR _ h]
 simp [hj]
theorem cmp_good {x : ByteArray} (hx : x ∈ cmpL) : goodWR x = true ∧ lowWR x = false := by
 simp only [cmpL, List.mem_cons, List.not_mem_nil, or_false] at hx
 rcases hx with rfl | rfl | rfl | rfl | rfl | rfl <;> decide
theorem cmp_yes {l : List Tk} {s : RS} {x : ByteArray} (hx : x ∈ cmpL) (h : cdR l s x = true) : RId.expand .r_compared (cAt l s.i) = some [.push [.word x, .rule .r_sum]] := by
 rw [(cd_yes h).2.1]
 simp only [cmpL, List.mem_cons, List.not_mem_nil, or_false] at hx
 rcases hx with rfl | rfl | rfl | rfl | rfl | rfl <;> rfl
theorem cmp_no {l : List Tk} {s : RS} (h : ∀ x ∈ cmpL, cdR l s x = false) (he : s.e = 0) : RId.expand .r_compared (cAt l s.i) = some [] := by
 have e0 := cd_no (by decide) (h ⟨#[61]⟩ (by simp [cmpL])) he
 have e1 := cd_no (by decide) (h ⟨#[35]⟩ (by simp [cmpL])) he
 have e2 := cd_no (by decide) (h ⟨#[60]⟩ (by simp [cmpL])) he
 have e3 := cd_no (by decide) (h ⟨#[60, 61]⟩ (by simp [cmpL])) he
 have e4 := cd_no (by decide) (h ⟨#[62]⟩ (by simp [cmpL])) he
 have e5 := cd_no (by decide) (h ⟨#[62, 61]⟩ (by simp [cmpL])) he
 simp [RId.expand, e0, e1, e2, e3, e4, e5]
theorem g_relation (l : List Tk) (all : Bool) (n : Nat) (D_sum : GoodR l all n 139 [.rule .r_sum]) : NodeAt l all n 126 [] 22 [.rule .r_sum, .rule .r_compared] := by
 intro W0 A c p w s s1 H hf hr hfin
 have HM := zh H
 clear H
 show Calls Tryz.prog _ #[.pointer (some ⟨p, 0, none⟩)] w (RPost W0 A c l all p (clR s1))
 go_enter Tryz.func126, Tryz.ntmps126
 have HC1 := zh (fun (w1 : World) (h : RMem W0 A c l all w1 p s) => (show Calls Tryz.prog 52 #[.pointer (some ⟨p, 0, none⟩), .int .u8 22] w1 (RPost W0 A c l all p (opR 22 s)) from opens_any h 22 (fun he => (hf he).1)))
 have hr0 := hr
 obtain ⟨s2, h2, hr2⟩ := rrun_app n [.rule .r_sum] [.rule .r_compared] (opR 22 s) s1 hr0
 have HC2 := zh (fun (w1 : World) (h : RMem W0 A c l all w1 p (opR 22 s)) => (show Calls Tryz.prog 139 #[.pointer (some ⟨p, 0, none⟩)] w1 (RPost W0 A c l all p s2) from D_sum n (Nat.le_refl n) W0 A c p w1 (opR 22 s) s2 h h2))
 have HR0 := zh hr2
 go_upto_region 2 with (first
  | (go_at_call 52; (with_reducible refine cM (HC1.out _ HM.out) ?_); rintro e w1 ⟨rfl, h⟩; replace HM := zh h; clear h)
  | (go_at_call 139; (with_reducible refine cM (HC2.out _ HM.out) ?_); rintro e w1 ⟨rfl, h⟩; replace HM := zh h; clear h))
 have hb1 : Below w1.heap.size w1 (w1.alloc (.cells #[.string ⟨#[61]⟩, .string ⟨#[35]⟩, .string ⟨#[60]⟩, .string ⟨#[60, 61]⟩, .string ⟨#[62]⟩, .string ⟨#[62, 61]⟩] 9)) := (Below.refl _ w1).alloc (Nat.le_refl _) _
 have hs1 : SrAt (w1.alloc (.cells #[.string ⟨#[61]⟩, .string ⟨#[35]⟩, .string ⟨#[60]⟩, .string ⟨#[60, 61]⟩, .string ⟨#[62]⟩, .string ⟨#[62, 61]⟩] 9)) w1.heap.size cmpL := World.alloc_heap_new _ _
 have hM1 := HM.out.moved hb1
 go_wp2
 generalize w1.alloc (.cells #[.string ⟨#[61]⟩, .string ⟨#[35]⟩, .string ⟨#[60]⟩, .string ⟨#[60, 61]⟩, .string ⟨#[62]⟩, .string ⟨#[62, 61]⟩] 9) = w2 at hb1 hs1 hM1 ⊢
 obtain ⟨g, hg⟩ : ∃ g, w1.heap.size = g := ⟨_, rfl⟩
 rw [hg] at hs1 ⊢
 have HI0 : Hid (RMem W0 A c l all w2 p s2 ∧ SrAt w2 g cmpL ∧ ∀ (k : Nat) x, k < 0 → cmpL[k]? = some x → cdR l s2 x = false) := zh ⟨hM1, hs1, fun k x h => absurd h (Nat.not_lt_zero k)⟩
 clear HM hb1 hs1 hM1 hg
 go_loopw [3] (fun v3 wr => ∃ j : Nat, j ≤ 6 ∧ v3 = .int .i64 j ∧ Hid (RMem W0 A c l all wr p s2 ∧ SrAt wr g cmpL ∧ ∀ (k : Nat) x, k < j → cmpL[k]? = some x → cdR l s2 x = false)) (fun v3 _ => 6 - (intOf v3).toNat)
 case atStart => exact ⟨0, Nat.zero_le _, rfl, zh HI0.out⟩
 case round =>
  obtain ⟨j, hjl, rfl, H⟩ := hrel
  clear HI0
  by_cases hlt : j < 6
  ·obtain ⟨x, hx⟩ : ∃ x, cmpL[j]? = some x := ⟨_, List.getElem?_eq_getElem (show j < cmpL.length from hlt)⟩
   have hmem : x ∈ cmpL := List.mem_of_getElem? hx
   have hcell := H.out.2.1.cell hx
   have k1 : (j : Int) < 6 := by omega
   have k2 : (0 : Int) ≤ j := by omega
   have k3 : wrap64 ((j : Int) + 1) = (j : Int) + 1 := by unfold wrap64; omega
   have k4 : IntKind.i64.wrap ((j : Int) + 1) = (j : Int) + 1 := by rw [IntKind.wrap_i64]; omega
   have HM := zh H.out.1
   have HX := zh (And.intro hx hmem)
   obtain ⟨b, hb⟩ : ∃ b, cdR l s2 x = b := ⟨_, rfl⟩
   have HB := zh hb
   have HC9 := zh (fun (w1 : World) (h : RMem W0 A c l all w1 p s2) => (show Calls Tryz.prog 73 #[.pointer (some ⟨p, 0, none⟩), .string x] w1 (BPost W0 A c l all p s2 b w1) from sg_new hb (cmp_good hmem).1 (cmp_good hmem).2 w1 h))
   cases b with
   | true =>
    obtain ⟨m9, hkm9, hfi9, hp9⟩ := run_rule (cd_yes hb).1 (cmp_yes hmem hb) hr2
    have hq9 : rrun l all m9 [.word x, .rule .r_sum] s2 = some s1 := hp9
    have hle9 : m9 ≤ n := by omega
    obtain ⟨s31, h31, hr31⟩ := rrun_app m9 [.word x] [.rule .r_sum] s2 s1 hq9
    have HC31 := zh (fun (w1 : World) (h : RMem W0 A c l all w1 p s2) => (show Calls Tryz.prog 71 #[.pointer (some ⟨p, 0, none⟩), .bool true] w1 (RPost W0 A c l all p s31) from tt_new h31 hb w1 h))
    obtain ⟨s32, h32, hr32⟩ := rrun_app m9 [.rule .r_sum] [] s31 s1 hr31
    have HC32 := zh (fun (w1 : World) (h : RMem W0 A c l all w1 p s31) => (show Calls Tryz.prog 139 #[.pointer (some ⟨p, 0, none⟩)] w1 (RPost W0 A c l all p s32) from D_sum m9 hle9 W0 A c p w1 s31 s32 h h32))
    clear hx hmem hb
    have hz33 : s1 = s32 := rrun_nil hr32
    have HZ33 := zh hz33
    clear hz33
    have HC33 := zh (fun (w1 : World) (h : RMem W0 A c l all w1 p s32) => (show Calls Tryz.prog 78 #[.pointer (some ⟨p, 0, none⟩)] w1 (RPost W0 A c l all p (clR s1)) from (by rw [HZ33.out]; exact closes_any h (fun he => by have h9 := hfin (by rw [HZ33.out]; exact he); rw [HZ33.out] at h9; exact ⟨by have := h9.1; omega, h9.2⟩))))
    go_wp2_with (first
     | (go_at_call 73; (with_reducible refine cM (HC9.out _ HM.out) ?_); rintro e w1 ⟨rfl, h, -⟩; replace HM := zh h; clear h)
     | (go_at_call 71; (with_reducible refine cM (HC31.out _ HM.out) ?_); rintro e w1 ⟨rfl, h⟩; replace HM := zh h; clear h)
     | (go_at_call 139; (with_reducible refine cM (HC32.out _ HM.out) ?_); rintro e w1 ⟨rfl, h⟩; replace HM := zh h; clear h)
     | (go_at_call 78; (with_reducible refine cM (HC33.out _ HM.out) ?_); rintro e w1 ⟨rfl, h⟩; replace HM := zh h; clear h))
    go_end0
    exact ⟨rfl, HM.out⟩
   | false =>
    clear hx hmem hb
    go_wp2_with (first
     | (go_at_call 73; (with_reducible refine cM (HC9.out _ HM.out) ?_); rintro e w1 ⟨rfl, h, hB⟩; replace HM := zh h; have HS := zh (show SrAt w1 g cmpL from (hB.block g (blk_lt H.out.2.1)).trans H.out.2.1); clear h hB))
    go_roundw
    case rel => exact ⟨j + 1, by omega, by go_num, zh ⟨HM.out, HS.out, fun k z hk hz => by
      by_cases hkj : k < j
      ·exact H.out.2.2 k z hkj hz
      ·obtain rfl : k = j := by omega
       rw [HX.out.1] at hz
       cases hz
       exact HB.out⟩⟩
    case measure => simp [intOf] <;> omega
  ·have h6 : j = 6 := by omega
   subst h6
   have k1 : ¬ ((6 : Nat) : Int) < 6 := by omega
   have hall : ∀ x ∈ cmpL, cdR l s2 x = false := fun x hx => by
    obtain ⟨k, hk⟩ := List.mem_iff_getElem?.1 hx
    exact H.out.2.2 k x (List.getElem?_eq_some_iff.1 hk).1 hk
   have hs9 := run_stay (fun he => cmp_no hall he) hr2
   have HM := zh H.out.1
   have hz51 : s1 = s2 := rrun_nil hs9
   have HZ51 := zh hz51
   clear hz51
   have HC51 := zh (fun (w1 : World) (h : RMem W0 A c l all w1 p s2) => (show Calls Tryz.prog 78 #[.pointer (some ⟨p, 0, none⟩)] w1 (RPost W0 A c l all p (clR s1)) from (by rw [HZ51.out]; exact closes_any h (fun he => by have h9 := hfin (by rw [HZ51.out]; exact he); rw [HZ51.out] at h9; exact ⟨by have := h9.1; omega, h9.2⟩))))
   go_wp2_with (first
    | (go_at_call 78; (with_reducible refine cM (HC51.out _ HM.out) ?_); rintro e w1 ⟨rfl, h⟩; replace HM := zh h; clear h))
   go_end0
   exact ⟨rfl, HM.out⟩
theorem g_statementR (l : List Tk) (all : Bool) (n : Nat) (C_object : 0 < n → GoodR l all (n - 1) 127 [.rule .r_object]) (C_expr : 0 < n → GoodR l all (n - 1) 103 [.rule .r_expr]) (C_body : 0 < n → GoodR l all (n - 1) 77 [.rule .r_body]) (N_branch : 0 < n → ∀ m, m ≤ n - 1 → NodeAt l all m 128 [] 15 [.word ⟨#[105, 102]⟩, .rule .r_expr, .word ⟨#[116, 104, 101, 110]⟩, .rule .r_body, .rule .r_elses, .word ⟨#[101, 110, 100]⟩]) : GoodAt l all n 106 [.rule .r_statement] := by
 intro W0 A c p w s r H hr
 have HM := zh H
 clear H
 show Calls Tryz.prog _ #[.pointer (some ⟨p, 0, none⟩)] w (RPost W0 A c l all p r)
 go_enter Tryz.func106, Tryz.ntmps106
 obtain ⟨b1, hb1⟩ : ∃ b, cdR l s ⟨#[64, 110, 97, 109, 101]⟩ = b := ⟨_, rfl⟩
 have HC1 := zh (fun (w1 : World) (h : RMem W0 A c l all w1 p s) => (show Calls Tryz.prog 72 #[.pointer (some ⟨p, 0, none⟩), .int .u8 1] w1 (BPost W0 A c l all p s b1 w1) from (by have h9 := rkind_any h 1; rw [show (((1 : Nat)) : Int) = 1 from rfl, kdR_code (.inl ⟨rfl, rfl⟩), hb1] at h9; exact h9)))
 cases b1 with
 | true =>
  obtain ⟨he1, hc1, hi1⟩ := cd_yes hb1
  obtain ⟨m2, s2, hm2, hfi2, h2, hfin2, hr2⟩ := run_node (k := 14) (T := [.rule .r_object, .rule .r_assigned]) (S := []) (fun _ => by rw [hc1]; rfl) hr
  have HC2 := zh (fun (w1 : World) (h : RMem W0 A c l all w1 p s) => (show Calls Tryz.prog 52 #[.pointer (some ⟨p, 0, none⟩), .int .u8 14] w1 (RPost W0 A c l all p (opR 14 s)) from opens_any h 14 (fun he => (hfi2 he).1.1)))
  have hle2 : m2 ≤ n := by have := (Nat.le_refl n); omega
  have hlt2 : m2 + 1 ≤ n := by have := (hfi2 he1).2; have := (Nat.le_refl n); omega
  obtain ⟨s3, h3, hr3⟩ := rrun_app m2 [.rule .r_object] [.rule .r_assigned] (opR 14 s) s2 h2
  have HC3 := zh (fun (w1 : World) (h : RMem W0 A c l all w1 p (opR 14 s)) => (show Calls Tryz.prog 127 #[.pointer (some ⟨p, 0, none⟩)] w1 (RPost W0 A c l all p s3) from C_object (by have := hlt2; omega) m2 (by omega) W0 A c p w1 (opR 14 s) s3 h h3))
  obtain ⟨b4, hb4⟩ : ∃ b, cdR l s3 ⟨#[58, 61]⟩ = b := ⟨_, rfl⟩
  have HC4 := zh (fun (w1 : World) (h : RMem W0 A c l all w1 p s3) => (show Calls Tryz.prog 73 #[.pointer (some ⟨p, 0, none⟩), .string ⟨#[58, 61]⟩] w1 (BPost W0 A c l all p s3 b4 w1) from sg_new hb4 (by decide) (by decide) w1 h))
  cases b4 with
  | true =>
   obtain ⟨he4, hc4, hi4⟩ := cd_yes hb4
   obtain ⟨m4, hkm4, hfi4, hp4⟩ := run_rule he4 (e := [.push [.word ⟨#[58, 61]⟩, .rule .r_expr]]) (by rw [hc4]; rfl) hr3
   have hq4 : rrun l all m4 [.word ⟨#[58, 61]⟩, .rule .r_expr] s3 = some s2 := hp4
   have hle4 : m4 + 1 ≤ n := by have := hle2; omega
   obtain ⟨s5, h5, hr5⟩ := rrun_app m4 [.word ⟨#[58, 61]⟩] [.rule .r_expr] s3 s2 hq4
   have HC5 := zh (fun (w1 : World) (h : RMem W0 A c l all w1 p s3) => (show Calls Tryz.prog 55 #[.pointer (some ⟨p, 0, none⟩), .string ⟨#[58, 61]⟩] w1 (RPost W0 A c l all p s5) from ts_new h5 (by decide) (by decide) w1 h))
   obtain ⟨s6, h6, hr6⟩ := rrun_app m4 [.rule .r_expr] [] s5 s2 hr5
   have HC6 := zh (fun (w1 : World) (h : RMem W0 A c l all w1 p s5) => (show Calls Tryz.prog 103 #[.pointer (some ⟨p, 0, none⟩)] w1 (RPost W0 A c l all p s6) from C_expr (Nat.lt_of_lt_of_le (Nat.succ_pos m4) hle4) m4 (by omega) W0 A c p w1 s5 s6 h h6))
   have hz7 : s2 = s6 := rrun_nil hr6
   have HZ7 := zh hz7
   clear hz7
   have HC7 := zh (fun (w1 : World) (h : RMem W0 A c l all w1 p s6) => (show Calls Tryz.prog 78 #[.pointer (some ⟨p, 0, none⟩)] w1 (RPost W0 A c l all p (clR s2)) from (by rw [HZ7.out]; exact closes_any h (fun he => by have h9 := hfin2 (by rw [HZ7.out]; exact he); rw [HZ7.out] at h9; exact ⟨by have := h9.1; omega, h9.2⟩))))
   have hz8 := rrun_nil hr2
   have HY8 := zh hz8
   clear hz8
   go_wp2_with (first
    | (go_at_call 72; (with_reducible refine cM (HC1.out _ HM.out) ?_); rintro e w1 ⟨rfl, h, -⟩; replace HM := zh h; clear h)
    | (go_at_call 52; (with_reducible refine cM (HC2.out _ HM.out) ?_); rintro e w1 ⟨rfl, h⟩; replace HM := zh h; clear h)
    | (go_at_call 127; (with_reducible refine cM (HC3.out _ HM.out) ?_); rintro e w1 ⟨rfl, h⟩; replace HM := zh h; clear h)
    | (go_at_call 73; (with_reducible refine cM (HC4.out _ HM.out) ?_); rintro e w1 ⟨rfl, h, -⟩; replace HM := zh h; clear h)
    | (go_at_call 55; (with_reducible refine cM (HC5.out _ HM.out) ?_); rintro e w1 ⟨rfl, h⟩; replace HM := zh h; clear h)
    | (go_at_call 103; (with_reducible refine cM (HC6.out _ HM.out) ?_); rintro e w1 ⟨rfl, h⟩; replace HM := zh h; clear h)
    | (go_at_call 78; (with_reducible refine cM (HC7.out _ HM.out) ?_); rintro e w1 ⟨rfl, h⟩; replace HM := zh h; clear h))
   refine ⟨rfl, .tuple #[], by kernel_rfl, rfl, ?_⟩
   rw [HY8.out]; exact HM.out
  | false =>
   have hs5 := run_stay (fun he => by have e4 := cd_no (by decide) hb4 he; simp [RId.expand, e4]) hr3
   have hz6 : s2 = s3 := rrun_nil hs5
   have HZ6 := zh hz6
   clear hz6
   have HC6 := zh (fun (w1 : World) (h : RMem W0 A c l all w1 p s3) => (show Calls Tryz.prog 78 #[.pointer (some ⟨p, 0, none⟩)] w1 (RPost W0 A c l all p (clR s2)) from (by rw [HZ6.out]; exact closes_any h (fun he => by have h9 := hfin2 (by rw [HZ6.out]; exact he); rw [HZ6.out] at h9; exact ⟨by have := h9.1; omega, h9.2⟩))))
   have hz7 := rrun_nil hr2
   have HY7 := zh hz7
   clear hz7
   go_wp2_with (first
    | (go_at_call 72; (with_reducible refine cM (HC1.out _ HM.out) ?_); rintro e w1 ⟨rfl, h, -⟩; replace HM := zh h; clear h)
    | (go_at_call 52; (with_reducible refine cM (HC2.out _ HM.out) ?_); rintro e w1 ⟨rfl, h⟩; replace HM := zh h; clear h)
    | (go_at_call 127; (with_reducible refine cM (HC3.out _ HM.out) ?_); rintro e w1 ⟨rfl, h⟩; replace HM := zh h; clear h)
    | (go_at_call 73; (with_reducible refine cM (HC4.out _ HM.out) ?_); rintro e w1 ⟨rfl, h, -⟩; replace HM := zh h; clear h)
    | (go_at_call 78; (with_reducible refine cM (HC6.out _ HM.out) ?_); rintro e w1 ⟨rfl, h⟩; replace HM := zh h; clear h))
   refine ⟨rfl, .tuple #[], by kernel_rfl, rfl, ?_⟩
   rw [HY7.out]; exact HM.out
 | false =>
  obtain ⟨b2, hb2⟩ : ∃ b, kdR l s 2 = b := ⟨_, rfl⟩
  have HC2 := zh (fun (w1 : World) (h : RMem W0 A c l all w1 p s) => (show Calls Tryz.prog 72 #[.pointer (some ⟨p, 0, none⟩), .int .u8 2] w1 (BPost W0 A c l all p s b2 w1) from (by have h9 := rkind_any h 2; rw [show (((2 : Nat)) : Int) = 2 from rfl, hb2] at h9; exact h9)))
  cases b2 with
  | true =>
   obtain ⟨he9, t, ht9, hf9⟩ := kdR_true hb2
   have hi9 : s.i < l.length := (List.getElem?_eq_some_iff.1 ht9).1
   obtain ⟨d0, hd0⟩ : ∃ b, cdR l s ⟨#[115, 107, 105, 112]⟩ = b := ⟨_, rfl⟩
   have g0 : (t.f1.toList == [115, 107, 105, 112]) = d0 := by have h9 := word_at (x := ⟨#[115, 107, 105, 112]⟩) (by decide) he9 ht9 (by rw [show lowWR ⟨#[115, 107, 105, 112]⟩ = true by decide]; exact hf9); rw [hd0, ByteArray.toList_eq ⟨#[115, 107, 105, 112]⟩] at h9; exact h9.symm
   obtain ⟨d1, hd1⟩ : ∃ b, cdR l s ⟨#[105, 102]⟩ = b := ⟨_, rfl⟩
   have g1 : (t.f1.toList == [105, 102]) = d1 := by have h9 := word_at (x := ⟨#[105, 102]⟩) (by decide) he9 ht9 (by rw [show lowWR ⟨#[105, 102]⟩ = true by decide]; exact hf9); rw [hd1, ByteArray.toList_eq ⟨#[105, 102]⟩] at h9; exact h9.symm
   obtain ⟨d2, hd2⟩ : ∃ b, cdR l s ⟨#[119, 104, 105, 108, 101]⟩ = b := ⟨_, rfl⟩
   have g2 : (t.f1.toList == [119, 104, 105, 108, 101]) = d2 := by have h9 := word_at (x := ⟨#[119, 104, 105, 108, 101]⟩) (by decide) he9 ht9 (by rw [show lowWR ⟨#[119, 104, 105, 108, 101]⟩ = true by decide]; exact hf9); rw [hd2, ByteArray.toList_eq ⟨#[119, 104, 105, 108, 101]⟩] at h9; exact h9.symm
   obtain ⟨d3, hd3⟩ : ∃ b, cdR l s ⟨#[102, 111, 114]⟩ = b := ⟨_, rfl⟩
   have g3 : (t.f1.toList == [102, 111, 114]) = d3 := by have h9 := word_at (x := ⟨#[102, 111, 114]⟩) (by decide) he9 ht9 (by rw [show lowWR ⟨#[102, 111, 114]⟩ = true by decide]; exact hf9); rw [hd3, ByteArray.toList_eq ⟨#[102, 111, 114]⟩] at h9; exact h9.symm
   obtain ⟨d4, hd4⟩ : ∃ b, cdR l s ⟨#[114, 101, 112, 101, 97, 116]⟩ = b := ⟨_, rfl⟩
   have g4 : (t.f1.toList == [114, 101, 112, 101, 97, 116]) = d4 := by have h9 := word_at (x := ⟨#[114, 101, 112, 101, 97, 116]⟩) (by decide) he9 ht9 (by rw [show lowWR ⟨#[114, 101, 112, 101, 97, 116]⟩ = true by decide]; exact hf9); rw [hd4, ByteArray.toList_eq ⟨#[114, 101, 112, 101, 97, 116]⟩] at h9; exact h9.symm
   obtain ⟨d5, hd5⟩ : ∃ b, cdR l s ⟨#[114, 101, 116, 117, 114, 110]⟩ = b := ⟨_, rfl⟩
   have g5 : (t.f1.toList == [114, 101, 116, 117, 114, 110]) = d5 := by have h9 := word_at (x := ⟨#[114, 101, 116, 117, 114, 110]⟩) (by decide) he9 ht9 (by rw [show lowWR ⟨#[114, 101, 116, 117, 114, 110]⟩ = true by decide]; exact hf9); rw [hd5, ByteArray.toList_eq ⟨#[114, 101, 116, 117, 114, 110]⟩] at h9; exact h9.symm
   obtain ⟨d6, hd6⟩ : ∃ b, cdR l s ⟨#[98, 101, 103, 105, 110]⟩ = b := ⟨_, rfl⟩
   have g6 : (t.f1.toList == [98, 101, 103, 105, 110]) = d6 := by have h9 := word_at (x := ⟨#[98, 101, 103, 105, 110]⟩) (by decide) he9 ht9 (by rw [show lowWR ⟨#[98, 101, 103, 105, 110]⟩ = true by decide]; exact hf9); rw [hd6, ByteArray.toList_eq ⟨#[98, 101, 103, 105, 110]⟩] at h9; exact h9.symm
   obtain ⟨path0, ser0, vp0, vs0, vl0, hrel0, hps0, HA0⟩ := HM.out
   obtain ⟨ad, hAd, htc⟩ := tok_cells HA0.toks s.i hi9
   rw [rd_ofR ht9] at htc
   have hlen := HA0.len
   have HAD := zh hAd
   clear hAd
   obtain ⟨z1, z2, z3, z4⟩ := idx4R hi9 hlen
   have HTC := zh htc
   clear hrel0 hps0 HA0 htc hlen
   go_wp2_with (first
    | (go_at_call 72; (with_reducible refine cM (HC1.out _ HM.out) ?_); rintro e w1 ⟨rfl, h, -⟩; replace HM := zh h; clear h)
    | (go_at_call 72; (with_reducible refine cM (HC2.out _ HM.out) ?_); rintro e w1 ⟨rfl, h, -⟩; replace HM := zh h; obtain ⟨path1, ser1, vp1, vs1, vl1, hrel1, hps1, HA1⟩ := h; obtain ⟨q0, q1, q2, q3, q4, q5, q6, q7⟩ := HA1.cell; rw [HAD.out] at q0; have hcc := HTC.out w1 HA1.below; obtain ⟨-, c1, -, -, -, -⟩ := hcc; clear hrel1 hps1 HA1))
   go_quiet (fail)
   replace HM := zh (HM.out.moved (below_drewN (Below.refl _ _) nq))
   generalize w1.drewN nq = w2 at HM ⊢
   clear q0 q1 q2 q3 q4 q5 q6 q7 c1
   clear HTC ht9 hf9 hi9
   cases d0 with
   | true =>
    obtain ⟨-, hc200, -⟩ := cd_yes hd0
    obtain ⟨m3, s3, hm3, hfi3, h3, hfin3, hr3⟩ := run_node (k := 13) (T := [.word ⟨#[115, 107, 105, 112]⟩]) (S := []) (fun _ => by rw [hc200]; rfl) hr
    have HC3 := zh (fun (w1 : World) (h : RMem W0 A c l all w1 p s) => (show Calls Tryz.prog 52 #[.pointer (some ⟨p, 0, none⟩), .int .u8 13] w1 (RPost W0 A c l all p (opR 13 s)) from opens_any h 13 (fun he => (hfi3 he).1.1)))
    have hle3 : m3 ≤ n := by have := (Nat.le_refl n); omega
    have hlt3 : m3 + 1 ≤ n := by have := (hfi3 he9).2; have := (Nat.le_refl n); omega
    obtain ⟨s4, h4, hr4⟩ := rrun_app m3 [.word ⟨#[115, 107, 105, 112]⟩] [] (opR 13 s) s3 h3
    have HC4 := zh (fun (w1 : World) (h : RMem W0 A c l all w1 p (opR 13 s)) => (show Calls Tryz.prog 53 #[.pointer (some ⟨p, 0, none⟩), .string ⟨#[115, 107, 105, 112]⟩] w1 (RPost W0 A c l all p s4) from tw_new h4 (by decide) (by decide) w1 h))
    have hz5 : s3 = s4 := rrun_nil hr4
    have HZ5 := zh hz5
    clear hz5
    have HC5 := zh (fun (w1 : World) (h : RMem W0 A c l all w1 p s4) => (show Calls Tryz.prog 78 #[.pointer (some ⟨p, 0, none⟩)] w1 (RPost W0 A c l all p (clR s3)) from (by rw [HZ5.out]; exact closes_any h (fun he => by have h9 := hfin3 (by rw [HZ5.out]; exact he); rw [HZ5.out] at h9; exact ⟨by have := h9.1; omega, h9.2⟩))))
    have hz6 := rrun_nil hr3
    have HY6 := zh hz6
    clear hz6
    go_wp2_with (first
     | (go_at_call 52; (with_reducible refine cM (HC3.out _ HM.out) ?_); rintro e w1 ⟨rfl, h⟩; replace HM := zh h; clear h)
     | (go_at_call 53; (with_reducible refine cM (HC4.out _ HM.out) ?_); rintro e w1 ⟨rfl, h⟩; replace HM := zh h; clear h)
     | (go_at_call 78; (with_reducible refine cM (HC5.out _ HM.out) ?_); rintro e w1 ⟨rfl, h⟩; replace HM := zh h; clear h))
    go_end0
    exact ⟨rfl, by rw [HY6.out]; exact HM.out⟩
   | false =>
    cases d1 with
    | true =>
     obtain ⟨-, hc201, -⟩ := cd_yes hd1
     obtain ⟨m3, s3, hm3, hfi3, h3, hfin3, hr3⟩ := run_node (k := 15) (T := [.word ⟨#[105, 102]⟩, .rule .r_expr, .word ⟨#[116, 104, 101, 110]⟩, .rule .r_body, .rule .r_elses, .word ⟨#[101, 110, 100]⟩]) (S := []) (fun _ => by rw [hc201]; rfl) hr
     have HC3 := zh (fun (w1 : World) (h : RMem W0 A c l all w1 p s) => (show Calls Tryz.prog 128 #[.pointer (some ⟨p, 0, none⟩)] w1 (RPost W0 A c l all p (clR s3)) from N_branch (by have := (hfi3 he9).2; have := (Nat.le_refl n); omega) m3 (by have := (hfi3 he9).2; have := (Nat.le_refl n); omega) W0 A c p w1 s s3 h (fun he => (hfi3 he).1) h3 hfin3))
     have hz4 := rrun_nil hr3
     have HY4 := zh hz4
     clear hz4
     go_wp2_with (first
      | (go_at_call 128; (with_reducible refine cM (HC3.out _ HM.out) ?_); rintro e w1 ⟨rfl, h⟩; replace HM := zh h; clear h))
     go_end0
     exact ⟨rfl, by rw [HY4.out]; exact HM.out⟩
    | false =>
     cases d2 with
     | true =>
      obtain ⟨-, hc202, -⟩ := cd_yes hd2
      obtain ⟨m3, s3, hm3, hfi3, h3, hfin3, hr3⟩ := run_node (k := 16) (T := [.word ⟨#[119, 104, 105, 108, 101]⟩, .rule .r_expr, .word ⟨#[100, 111]⟩, .rule .r_body, .word ⟨#[101, 110, 100]⟩]) (S := []) (fun _ => by rw [hc202]; rfl) hr
      have HC3 := zh (fun (w1 : World) (h : RMem W0 A c l all w1 p s) => (show Calls Tryz.prog 52 #[.pointer (some ⟨p, 0, none⟩), .int .u8 16] w1 (RPost W0 A c l all p (opR 16 s)) from opens_any h 16 (fun he => (hfi3 he).1.1)))
      have hle3 : m3 ≤ n := by have := (Nat.le_refl n); omega
      have hlt3 : m3 + 1 ≤ n := by have := (hfi3 he9).2; have := (Nat.le_refl n); omega
      obtain ⟨s4, h4, hr4⟩ := rrun_app m3 [.word ⟨#[119, 104, 105, 108, 101]⟩] [.rule .r_expr, .word ⟨#[100, 111]⟩, .rule .r_body, .word ⟨#[101, 110, 100]⟩] (opR 16 s) s3 h3
      have HC4 := zh (fun (w1 : World) (h : RMem W0 A c l all w1 p (opR 16 s)) => (show Calls Tryz.prog 53 #[.pointer (some ⟨p, 0, none⟩), .string ⟨#[119, 104, 105, 108, 101]⟩] w1 (RPost W0 A c l all p s4) from tw_new h4 (by decide) (by decide) w1 h))
      obtain ⟨s5, h5, hr5⟩ := rrun_app m3 [.rule .r_expr] [.word ⟨#[100, 111]⟩, .rule .r_body, .word ⟨#[101, 110, 100]⟩] s4 s3 hr4
      have HC5 := zh (fun (w1 : World) (h : RMem W0 A c l all w1 p s4) => (show Calls Tryz.prog 103 #[.pointer (some ⟨p, 0, none⟩)] w1 (RPost W0 A c l all p s5) from C_expr (by have := hlt3; omega) m3 (by omega) W0 A c p w1 s4 s5 h h5))
      obtain ⟨s6, h6, hr6⟩ := rrun_app m3 [.word ⟨#[100, 111]⟩] [.rule .r_body, .word ⟨#[101, 110, 100]⟩] s5 s3 hr5
      have HC6 := zh (fun (w1 : World) (h : RMem W0 A c l all w1 p s5) => (show Calls Tryz.prog 53 #[.pointer (some ⟨p, 0, none⟩), .string ⟨#[100, 111]⟩] w1 (RPost W0 A c l all p s6) from tw_new h6 (by decide) (by decide) w1 h))
      obtain ⟨s7, h7, hr7⟩ := rrun_app m3 [.rule .r_body] [.word ⟨#[101, 110, 100]⟩] s6 s3 hr6
      have HC7 := zh (fun (w1 : World) (h : RMem W0 A c l all w1 p s6) => (show Calls Tryz.prog 77 #[.pointer (some ⟨p, 0, none⟩)] w1 (RPost W0 A c l all p s7) from C_body (by have := hlt3; omega) m3 (by omega) W0 A c p w1 s6 s7 h h7))
      obtain ⟨s8, h8, hr8⟩ := rrun_app m3 [.word ⟨#[101, 110, 100]⟩] [] s7 s3 hr7
      have HC8 := zh (fun (w1 : World) (h : RMem W0 A c l all w1 p s7) => (show Calls Tryz.prog 53 #[.pointer (some ⟨p, 0, none⟩), .string ⟨#[101, 110, 100]⟩] w1 (RPost W0 A c l all p s8) from tw_new h8 (by decide) (by decide) w1 h))
      have hz9 : s3 = s8 := rrun_nil hr8
      have HZ9 := zh hz9
      clear hz9
      have HC9 := zh (fun (w1 : World) (h : RMem W0 A c l all w1 p s8) => (show Calls Tryz.prog 78 #[.pointer (some ⟨p, 0, none⟩)] w1 (RPost W0 A c l all p (clR s3)) from (by rw [HZ9.out]; exact closes_any h (fun he => by have h9 := hfin3 (by rw [HZ9.out]; exact he); rw [HZ9.out] at h9; exact ⟨by have := h9.1; omega, h9.2⟩))))
      have hz10 := rrun_nil hr3
      have HY10 := zh hz10
      clear hz10
      go_wp2_with (first
       | (go_at_call 52; (with_reducible refine cM (HC3.out _ HM.out) ?_); rintro e w1 ⟨rfl, h⟩; replace HM := zh h; clear h)
       | (go_at_call 53; (with_reducible refine cM (HC4.out _ HM.out) ?_); rintro e w1 ⟨rfl, h⟩; replace HM := zh h; clear h)
       | (go_at_call 103; (with_reducible refine cM (HC5.out _ HM.out) ?_); rintro e w1 ⟨rfl, h⟩; replace HM := zh h; clear h)
       | (go_at_call 53; (with_reducible refine cM (HC6.out _ HM.out) ?_); rintro e w1 ⟨rfl, h⟩; replace HM := zh h; clear h)
       | (go_at_call 77; (with_reducible refine cM (HC7.out _ HM.out) ?_); rintro e w1 ⟨rfl, h⟩; replace HM := zh h; clear h)
       | (go_at_call 53; (with_reducible refine cM (HC8.out _ HM.out) ?_); rintro e w1 ⟨rfl, h⟩; replace HM := zh h; clear h)
       | (go_at_call 78; (with_reducible refine cM (HC9.out _ HM.out) ?_); rintro e w1 ⟨rfl, h⟩; replace HM := zh h; clear h))
      go_end0
      exact ⟨rfl, by rw [HY10.out]; exact HM.out⟩
     | false =>
      cases d3 with
      | true =>
       obtain ⟨-, hc203, -⟩ := cd_yes hd3
       obtain ⟨m3, s3, hm3, hfi3, h3, hfin3, hr3⟩ := run_node (k := 17) (T := [.word ⟨#[102, 111, 114]⟩, .word ⟨#[64, 110, 97, 109, 101]⟩, .word ⟨#[58, 61]⟩, .rule .r_expr, .word ⟨#[116, 111]⟩, .rule .r_expr, .word ⟨#[100, 111]⟩, .rule .r_body, .word ⟨#[101, 110, 100]⟩]) (S := []) (fun _ => by rw [hc203]; rfl) hr
       have HC3 := zh (fun (w1 : World) (h : RMem W0 A c l all w1 p s) => (show Calls Tryz.prog 52 #[.pointer (some ⟨p, 0, none⟩), .int .u8 17] w1 (RPost W0 A c l all p (opR 17 s)) from opens_any h 17 (fun he => (hfi3 he).1.1)))
       have hle3 : m3 ≤ n := by have := (Nat.le_refl n); omega
       have hlt3 : m3 + 1 ≤ n := by have := (hfi3 he9).2; have := (Nat.le_refl n); omega
       obtain ⟨s4, h4, hr4⟩ := rrun_app m3 [.word ⟨#[102, 111, 114]⟩] [.word ⟨#[64, 110, 97, 109, 101]⟩, .word ⟨#[58, 61]⟩, .rule .r_expr, .word ⟨#[116, 111]⟩, .rule .r_expr, .word ⟨#[100, 111]⟩, .rule .r_body, .word ⟨#[101, 110, 100]⟩] (opR 17 s) s3 h3
       have HC4 := zh (fun (w1 : World) (h : RMem W0 A c l all w1 p (opR 17 s)) => (show Calls Tryz.prog 53 #[.pointer (some ⟨p, 0, none⟩), .string ⟨#[102, 111, 114]⟩] w1 (RPost W0 A c l all p s4) from tw_new h4 (by decide) (by decide) w1 h))
       obtain ⟨s5, h5, hr5⟩ := rrun_app m3 [.word ⟨#[64, 110, 97, 109, 101]⟩] [.word ⟨#[58, 61]⟩, .rule .r_expr, .word ⟨#[116, 111]⟩, .rule .r_expr, .word ⟨#[100, 111]⟩, .rule .r_body, .word ⟨#[101, 110, 100]⟩] s4 s3 hr4
       have HC5 := zh (fun (w1 : World) (h : RMem W0 A c l all w1 p s4) => (show Calls Tryz.prog 54 #[.pointer (some ⟨p, 0, none⟩)] w1 (RPost W0 A c l all p s5) from tn_new h5 w1 h))
       obtain ⟨s6, h6, hr6⟩ := rrun_app m3 [.word ⟨#[58, 61]⟩] [.rule .r_expr, .word ⟨#[116, 111]⟩, .rule .r_expr, .word ⟨#[100, 111]⟩, .rule .r_body, .word ⟨#[101, 110, 100]⟩] s5 s3 hr5
       have HC6 := zh (fun (w1 : World) (h : RMem W0 A c l all w1 p s5) => (show Calls Tryz.prog 55 #[.pointer (some ⟨p, 0, none⟩), .string ⟨#[58, 61]⟩] w1 (RPost W0 A c l all p s6) from ts_new h6 (by decide) (by decide) w1 h))
       obtain ⟨s7, h7, hr7⟩ := rrun_app m3 [.rule .r_expr] [.word ⟨#[116, 111]⟩, .rule .r_expr, .word ⟨#[100, 111]⟩, .rule .r_body, .word ⟨#[101, 110, 100]⟩] s6 s3 hr6
       have HC7 := zh (fun (w1 : World) (h : RMem W0 A c l all w1 p s6) => (show Calls Tryz.prog 103 #[.pointer (some ⟨p, 0, none⟩)] w1 (RPost W0 A c l all p s7) from C_expr (by have := hlt3; omega) m3 (by omega) W0 A c p w1 s6 s7 h h7))
       obtain ⟨s8, h8, hr8⟩ := rrun_app m3 [.word ⟨#[116, 111]⟩] [.rule .r_expr, .word ⟨#[100, 111]⟩, .rule .r_body, .word ⟨#[101, 110, 100]⟩] s7 s3 hr7
       have HC8 := zh (fun (w1 : World) (h : RMem W0 A c l all w1 p s7) => (show Calls Tryz.prog 53 #[.pointer (some ⟨p, 0, none⟩), .string ⟨#[116, 111]⟩] w1 (RPost W0 A c l all p s8) from tw_new h8 (by decide) (by decide) w1 h))
       obtain ⟨s9, h9, hr9⟩ := rrun_app m3 [.rule .r_expr] [.word ⟨#[100, 111]⟩, .rule .r_body, .word ⟨#[101, 110, 100]⟩] s8 s3 hr8
       have HC9 := zh (fun (w1 : World) (h : RMem W0 A c l all w1 p s8) => (show Calls Tryz.prog 103 #[.pointer (some ⟨p, 0, none⟩)] w1 (RPost W0 A c l all p s9) from C_expr (by have := hlt3; omega) m3 (by omega) W0 A c p w1 s8 s9 h h9))
       obtain ⟨s10, h10, hr10⟩ := rrun_app m3 [.word ⟨#[100, 111]⟩] [.rule .r_body, .word ⟨#[101, 110, 100]⟩] s9 s3 hr9
       have HC10 := zh (fun (w1 : World) (h : RMem W0 A c l all w1 p s9) => (show Calls Tryz.prog 53 #[.pointer (some ⟨p, 0, none⟩), .string ⟨#[100, 111]⟩] w1 (RPost W0 A c l all p s10) from tw_new h10 (by decide) (by decide) w1 h))
       obtain ⟨s11, h11, hr11⟩ := rrun_app m3 [.rule .r_body] [.word ⟨#[101, 110, 100]⟩] s10 s3 hr10
       have HC11 := zh (fun (w1 : World) (h : RMem W0 A c l all w1 p s10) => (show Calls Tryz.prog 77 #[.pointer (some ⟨p, 0, none⟩)] w1 (RPost W0 A c l all p s11) from C_body (by have := hlt3; omega) m3 (by omega) W0 A c p w1 s10 s11 h h11))
       obtain ⟨s12, h12, hr12⟩ := rrun_app m3 [.word ⟨#[101, 110, 100]⟩] [] s11 s3 hr11
       have HC12 := zh (fun (w1 : World) (h : RMem W0 A c l all w1 p s11) => (show Calls Tryz.prog 53 #[.pointer (some ⟨p, 0, none⟩), .string ⟨#[101, 110, 100]⟩] w1 (RPost W0 A c l all p s12) from tw_new h12 (by decide) (by decide) w1 h))
       have hz13 : s3 = s12 := rrun_nil hr12
       have HZ13 := zh hz13
       clear hz13
       have HC13 := zh (fun (w1 : World) (h : RMem W0 A c l all w1 p s12) => (show Calls Tryz.prog 78 #[.pointer (some ⟨p, 0, none⟩)] w1 (RPost W0 A c l all p (clR s3)) from (by rw [HZ13.out]; exact closes_any h (fun he => by have h9 := hfin3 (by rw [HZ13.out]; exact he); rw [HZ13.out] at h9; exact ⟨by have := h9.1; omega, h9.2⟩))))
       have hz14 := rrun_nil hr3
       have HY14 := zh hz14
       clear hz14
       go_wp2_with (first
        | (go_at_call 52; (with_reducible refine cM (HC3.out _ HM.out) ?_); rintro e w1 ⟨rfl, h⟩; replace HM := zh h; clear h)
        | (go_at_call 53; (with_reducible refine cM (HC4.out _ HM.out) ?_); rintro e w1 ⟨rfl, h⟩; replace HM := zh h; clear h)
        | (go_at_call 54; (with_reducible refine cM (HC5.out _ HM.out) ?_); rintro e w1 ⟨rfl, h⟩; replace HM := zh h; clear h)
        | (go_at_call 55; (with_reducible refine cM (HC6.out _ HM.out) ?_); rintro e w1 ⟨rfl, h⟩; replace HM := zh h; clear h)
        | (go_at_call 103; (with_reducible refine cM (HC7.out _ HM.out) ?_); rintro e w1 ⟨rfl, h⟩; replace HM := zh h; clear h)
        | (go_at_call 53; (with_reducible refine cM (HC8.out _ HM.out) ?_); rintro e w1 ⟨rfl, h⟩; replace HM := zh h; clear h)
        | (go_at_call 103; (with_reducible refine cM (HC9.out _ HM.out) ?_); rintro e w1 ⟨rfl, h⟩; replace HM := zh h; clear h)
        | (go_at_call 53; (with_reducible refine cM (HC10.out _ HM.out) ?_); rintro e w1 ⟨rfl, h⟩; replace HM := zh h; clear h)
        | (go_at_call 77; (with_reducible refine cM (HC11.out _ HM.out) ?_); rintro e w1 ⟨rfl, h⟩; replace HM := zh h; clear h)
        | (go_at_call 53; (with_reducible refine cM (HC12.out _ HM.out) ?_); rintro e w1 ⟨rfl, h⟩; replace HM := zh h; clear h)
        | (go_at_call 78; (with_reducible refine cM (HC13.out _ HM.out) ?_); rintro e w1 ⟨rfl, h⟩; replace HM := zh h; clear h))
       go_end0
       exact ⟨rfl, by rw [HY14.out]; exact HM.out⟩
      | false =>
       cases d4 with
       | true =>
        obtain ⟨-, hc204, -⟩ := cd_yes hd4
        obtain ⟨m3, s3, hm3, hfi3, h3, hfin3, hr3⟩ := run_node (k := 18) (T := [.word ⟨#[114, 101, 112, 101, 97, 116]⟩, .rule .r_body, .word ⟨#[117, 110, 116, 105, 108]⟩, .rule .r_expr]) (S := []) (fun _ => by rw [hc204]; rfl) hr
        have HC3 := zh (fun (w1 : World) (h : RMem W0 A c l all w1 p s) => (show Calls Tryz.prog 52 #[.pointer (some ⟨p, 0, none⟩), .int .u8 18] w1 (RPost W0 A c l all p (opR 18 s)) from opens_any h 18 (fun he => (hfi3 he).1.1)))
        have hle3 : m3 ≤ n := by have := (Nat.le_refl n); omega
        have hlt3 : m3 + 1 ≤ n := by have := (hfi3 he9).2; have := (Nat.le_refl n); omega
        obtain ⟨s4, h4, hr4⟩ := rrun_app m3 [.word ⟨#[114, 101, 112, 101, 97, 116]⟩] [.rule .r_body, .word ⟨#[117, 110, 116, 105, 108]⟩, .rule .r_expr] (opR 18 s) s3 h3
        have HC4 := zh (fun (w1 : World) (h : RMem W0 A c l all w1 p (opR 18 s)) => (show Calls Tryz.prog 53 #[.pointer (some ⟨p, 0, none⟩), .string ⟨#[114, 101, 112, 101, 97, 116]⟩] w1 (RPost W0 A c l all p s4) from tw_new h4 (by decide) (by decide) w1 h))
        obtain ⟨s5, h5, hr5⟩ := rrun_app m3 [.rule .r_body] [.word ⟨#[117, 110, 116, 105, 108]⟩, .rule .r_expr] s4 s3 hr4
        have HC5 := zh (fun (w1 : World) (h : RMem W0 A c l all w1 p s4) => (show Calls Tryz.prog 77 #[.pointer (some ⟨p, 0, none⟩)] w1 (RPost W0 A c l all p s5) from C_body (by have := hlt3; omega) m3 (by omega) W0 A c p w1 s4 s5 h h5))
        obtain ⟨s6, h6, hr6⟩ := rrun_app m3 [.word ⟨#[117, 110, 116, 105, 108]⟩] [.rule .r_expr] s5 s3 hr5
        have HC6 := zh (fun (w1 : World) (h : RMem W0 A c l all w1 p s5) => (show Calls Tryz.prog 53 #[.pointer (some ⟨p, 0, none⟩), .string ⟨#[117, 110, 116, 105, 108]⟩] w1 (RPost W0 A c l all p s6) from tw_new h6 (by decide) (by decide) w1 h))
        obtain ⟨s7, h7, hr7⟩ := rrun_app m3 [.rule .r_expr] [] s6 s3 hr6
        have HC7 := zh (fun (w1 : World) (h : RMem W0 A c l all w1 p s6) => (show Calls Tryz.prog 103 #[.pointer (some ⟨p, 0, none⟩)] w1 (RPost W0 A c l all p s7) from C_expr (by have := hlt3; omega) m3 (by omega) W0 A c p w1 s6 s7 h h7))
        have hz8 : s3 = s7 := rrun_nil hr7
        have HZ8 := zh hz8
        clear hz8
        have HC8 := zh (fun (w1 : World) (h : RMem W0 A c l all w1 p s7) => (show Calls Tryz.prog 78 #[.pointer (some ⟨p, 0, none⟩)] w1 (RPost W0 A c l all p (clR s3)) from (by rw [HZ8.out]; exact closes_any h (fun he => by have h9 := hfin3 (by rw [HZ8.out]; exact he); rw [HZ8.out] at h9; exact ⟨by have := h9.1; omega, h9.2⟩))))
        have hz9 := rrun_nil hr3
        have HY9 := zh hz9
        clear hz9
        go_wp2_with (first
         | (go_at_call 52; (with_reducible refine cM (HC3.out _ HM.out) ?_); rintro e w1 ⟨rfl, h⟩; replace HM := zh h; clear h)
         | (go_at_call 53; (with_reducible refine cM (HC4.out _ HM.out) ?_); rintro e w1 ⟨rfl, h⟩; replace HM := zh h; clear h)
         | (go_at_call 77; (with_reducible refine cM (HC5.out _ HM.out) ?_); rintro e w1 ⟨rfl, h⟩; replace HM := zh h; clear h)
         | (go_at_call 53; (with_reducible refine cM (HC6.out _ HM.out) ?_); rintro e w1 ⟨rfl, h⟩; replace HM := zh h; clear h)
         | (go_at_call 103; (with_reducible refine cM (HC7.out _ HM.out) ?_); rintro e w1 ⟨rfl, h⟩; replace HM := zh h; clear h)
         | (go_at_call 78; (with_reducible refine cM (HC8.out _ HM.out) ?_); rintro e w1 ⟨rfl, h⟩; replace HM := zh h; clear h))
        go_end0
        exact ⟨rfl, by rw [HY9.out]; exact HM.out⟩
       | false =>
        cases d5 with
        | true =>
         obtain ⟨-, hc205, -⟩ := cd_yes hd5
         obtain ⟨m3, s3, hm3, hfi3, h3, hfin3, hr3⟩ := run_node (k := 19) (T := [.word ⟨#[114, 101, 116, 117, 114, 110]⟩, .rule .r_maybe]) (S := []) (fun _ => by rw [hc205]; rfl) hr
         have HC3 := zh (fun (w1 : World) (h : RMem W0 A c l all w1 p s) => (show Calls Tryz.prog 52 #[.pointer (some ⟨p, 0, none⟩), .int .u8 19] w1 (RPost W0 A c l all p (opR 19 s)) from opens_any h 19 (fun he => (hfi3 he).1.1)))
         have hle3 : m3 ≤ n := by have := (Nat.le_refl n); omega
         have hlt3 : m3 + 1 ≤ n := by have := (hfi3 he9).2; have := (Nat.le_refl n); omega
         obtain ⟨s4, h4, hr4⟩ := rrun_app m3 [.word ⟨#[114, 101, 116, 117, 114, 110]⟩] [.rule .r_maybe] (opR 19 s) s3 h3
         have HC4 := zh (fun (w1 : World) (h : RMem W0 A c l all w1 p (opR 19 s)) => (show Calls Tryz.prog 53 #[.pointer (some ⟨p, 0, none⟩), .string ⟨#[114, 101, 116, 117, 114, 110]⟩] w1 (RPost W0 A c l all p s4) from tw_new h4 (by decide) (by decide) w1 h))
         obtain ⟨b5, hb5⟩ : ∃ b, begR l s4 = b := ⟨_, rfl⟩
         have HC5 := zh (fun (w1 : World) (h : RMem W0 A c l all w1 p s4) => (show Calls Tryz.prog 129 #[.pointer (some ⟨p, 0, none⟩)] w1 (BPost W0 A c l all p s4 b5 w1) from (hb5 ▸ rbegins_any h)))
         cases b5 with
         | true =>
          obtain ⟨he5, -, hx5⟩ := beg_yes hb5
          obtain ⟨m5, hkm5, hfi5, hp5⟩ := run_rule he5 hx5 hr4
          have hq5 : rrun l all m5 [.rule .r_expr] s4 = some s3 := hp5
          obtain ⟨s6, h6, hr6⟩ := rrun_app m5 [.rule .r_expr] [] s4 s3 hq5
          have HC6 := zh (fun (w1 : World) (h : RMem W0 A c l all w1 p s4) => (show Calls Tryz.prog 103 #[.pointer (some ⟨p, 0, none⟩)] w1 (RPost W0 A c l all p s6) from C_expr (by have := hlt3; omega) m5 (by omega) W0 A c p w1 s4 s6 h h6))
          have hz7 : s3 = s6 := rrun_nil hr6
          have HZ7 := zh hz7
          clear hz7
          have HC7 := zh (fun (w1 : World) (h : RMem W0 A c l all w1 p s6) => (show Calls Tryz.prog 78 #[.pointer (some ⟨p, 0, none⟩)] w1 (RPost W0 A c l all p (clR s3)) from (by rw [HZ7.out]; exact closes_any h (fun he => by have h9 := hfin3 (by rw [HZ7.out]; exact he); rw [HZ7.out] at h9; exact ⟨by have := h9.1; omega, h9.2⟩))))
          have hz8 := rrun_nil hr3
          have HY8 := zh hz8
          clear hz8
          go_wp2_with (first
           | (go_at_call 52; (with_reducible refine cM (HC3.out _ HM.out) ?_); rintro e w1 ⟨rfl, h⟩; replace HM := zh h; clear h)
           | (go_at_call 53; (with_reducible refine cM (HC4.out _ HM.out) ?_); rintro e w1 ⟨rfl, h⟩; replace HM := zh h; clear h)
           | (go_at_call 129; (with_reducible refine cM (HC5.out _ HM.out) ?_); rintro e w1 ⟨rfl, h, -⟩; replace HM := zh h; clear h)
           | (go_at_call 103; (with_reducible refine cM (HC6.out _ HM.out) ?_); rintro e w1 ⟨rfl, h⟩; replace HM := zh h; clear h)
           | (go_at_call 78; (with_reducible refine cM (HC7.out _ HM.out) ?_); rintro e w1 ⟨rfl, h⟩; replace HM := zh h; clear h))
          go_end0
          exact ⟨rfl, by rw [HY8.out]; exact HM.out⟩
         | false =>
          have hs5 := run_stay (fun he => (beg_no hb5 he).2) hr4
          have hz6 : s3 = s4 := rrun_nil hs5
          have HZ6 := zh hz6
          clear hz6
          have HC6 := zh (fun (w1 : World) (h : RMem W0 A c l all w1 p s4) => (show Calls Tryz.prog 78 #[.pointer (some ⟨p, 0, none⟩)] w1 (RPost W0 A c l all p (clR s3)) from (by rw [HZ6.out]; exact closes_any h (fun he => by have h9 := hfin3 (by rw [HZ6.out]; exact he); rw [HZ6.out] at h9; exact ⟨by have := h9.1; omega, h9.2⟩))))
          have hz7 := rrun_nil hr3
          have HY7 := zh hz7
          clear hz7
          go_wp2_with (first
           | (go_at_call 52; (with_reducible refine cM (HC3.out _ HM.out) ?_); rintro e w1 ⟨rfl, h⟩; replace HM := zh h; clear h)
           | (go_at_call 53; (with_reducible refine cM (HC4.out _ HM.out) ?_); rintro e w1 ⟨rfl, h⟩; replace HM := zh h; clear h)
           | (go_at_call 129; (with_reducible refine cM (HC5.out _ HM.out) ?_); rintro e w1 ⟨rfl, h, -⟩; replace HM := zh h; clear h)
           | (go_at_call 78; (with_reducible refine cM (HC6.out _ HM.out) ?_); rintro e w1 ⟨rfl, h⟩; replace HM := zh h; clear h))
          go_end0
          exact ⟨rfl, by rw [HY7.out]; exact HM.out⟩
        | false =>
         cases d6 with
         | true =>
          obtain ⟨-, hc206, -⟩ := cd_yes hd6
          obtain ⟨m3, s3, hm3, hfi3, h3, hfin3, hr3⟩ := run_node (k := 20) (T := [.word ⟨#[98, 101, 103, 105, 110]⟩, .rule .r_body, .word ⟨#[101, 110, 100]⟩]) (S := []) (fun _ => by rw [hc206]; rfl) hr
          have HC3 := zh (fun (w1 : World) (h : RMem W0 A c l all w1 p s) => (show Calls Tryz.prog 52 #[.pointer (some ⟨p, 0, none⟩), .int .u8 20] w1 (RPost W0 A c l all p (opR 20 s)) from opens_any h 20 (fun he => (hfi3 he).1.1)))
          have hle3 : m3 ≤ n := by have := (Nat.le_refl n); omega
          have hlt3 : m3 + 1 ≤ n := by have := (hfi3 he9).2; have := (Nat.le_refl n); omega
          obtain ⟨s4, h4, hr4⟩ := rrun_app m3 [.word ⟨#[98, 101, 103, 105, 110]⟩] [.rule .r_body, .word ⟨#[101, 110, 100]⟩] (opR 20 s) s3 h3
          have HC4 := zh (fun (w1 : World) (h : RMem W0 A c l all w1 p (opR 20 s)) => (show Calls Tryz.prog 53 #[.pointer (some ⟨p, 0, none⟩), .string ⟨#[98, 101, 103, 105, 110]⟩] w1 (RPost W0 A c l all p s4) from tw_new h4 (by decide) (by decide) w1 h))
          obtain ⟨s5, h5, hr5⟩ := rrun_app m3 [.rule .r_body] [.word ⟨#[101, 110, 100]⟩] s4 s3 hr4
          have HC5 := zh (fun (w1 : World) (h : RMem W0 A c l all w1 p s4) => (show Calls Tryz.prog 77 #[.pointer (some ⟨p, 0, none⟩)] w1 (RPost W0 A c l all p s5) from C_body (by have := hlt3; omega) m3 (by omega) W0 A c p w1 s4 s5 h h5))
          obtain ⟨s6, h6, hr6⟩ := rrun_app m3 [.word ⟨#[101, 110, 100]⟩] [] s5 s3 hr5
          have HC6 := zh (fun (w1 : World) (h : RMem W0 A c l all w1 p s5) => (show Calls Tryz.prog 53 #[.pointer (some ⟨p, 0, none⟩), .string ⟨#[101, 110, 100]⟩] w1 (RPost W0 A c l all p s6) from tw_new h6 (by decide) (by decide) w1 h))
          have hz7 : s3 = s6 := rrun_nil hr6
          have HZ7 := zh hz7
          clear hz7
          have HC7 := zh (fun (w1 : World) (h : RMem W0 A c l all w1 p s6) => (show Calls Tryz.prog 78 #[.pointer (some ⟨p, 0, none⟩)] w1 (RPost W0 A c l all p (clR s3)) from (by rw [HZ7.out]; exact closes_any h (fun he => by have h9 := hfin3 (by rw [HZ7.out]; exact he); rw [HZ7.out] at h9; exact ⟨by have := h9.1; omega, h9.2⟩))))
          have hz8 := rrun_nil hr3
          have HY8 := zh hz8
          clear hz8
          go_wp2_with (first
           | (go_at_call 52; (with_reducible refine cM (HC3.out _ HM.out) ?_); rintro e w1 ⟨rfl, h⟩; replace HM := zh h; clear h)
           | (go_at_call 53; (with_reducible refine cM (HC4.out _ HM.out) ?_); rintro e w1 ⟨rfl, h⟩; replace HM := zh h; clear h)
           | (go_at_call 77; (with_reducible refine cM (HC5.out _ HM.out) ?_); rintro e w1 ⟨rfl, h⟩; replace HM := zh h; clear h)
           | (go_at_call 53; (with_reducible refine cM (HC6.out _ HM.out) ?_); rintro e w1 ⟨rfl, h⟩; replace HM := zh h; clear h)
           | (go_at_call 78; (with_reducible refine cM (HC7.out _ HM.out) ?_); rintro e w1 ⟨rfl, h⟩; replace HM := zh h; clear h))
          go_end0
          exact ⟨rfl, by rw [HY8.out]; exact HM.out⟩
         | false =>
          have hz9 : r = wrR l s := run_none (fun he => by have e0 := cd_no (by decide) hd0 he; have e1 := cd_no (by decide) hd1 he; have e2 := cd_no (by decide) hd2 he; have e3 := cd_no (by decide) hd3 he; have e4 := cd_no (by decide) hd4 he; have e5 := cd_no (by decide) hd5 he; have e6 := cd_no (by decide) hd6 he; have e9 := cd_no (by decide) hb1 he; simp [RId.expand, e0, e1, e2, e3, e4, e5, e6, e9]) hr
          have HY9 := zh hz9
          clear hz9
          have HC91 := zh (fun (w1 : World) (h : RMem W0 A c l all w1 p s) => (show Calls Tryz.prog 101 #[.pointer (some ⟨p, 0, none⟩)] w1 (RPost W0 A c l all p (wrR l s)) from rwrong_any h))
          go_wp2_with (first
           | (go_at_call 101; (with_reducible refine cM (HC91.out _ HM.out) ?_); rintro e w1 ⟨rfl, h⟩; replace HM := zh h; clear h))
          go_end0
          exact ⟨rfl, by rw [HY9.out]; exact HM.out⟩
  | false =>
   have hz9 : r = wrR l s := run_none (fun he => by have e0 := cd_no (by decide) (word_of (x := ⟨#[115, 107, 105, 112]⟩) (by decide) (by rw [show lowWR ⟨#[115, 107, 105, 112]⟩ = true by decide]; exact hb2)) he; have e1 := cd_no (by decide) (word_of (x := ⟨#[105, 102]⟩) (by decide) (by rw [show lowWR ⟨#[105, 102]⟩ = true by decide]; exact hb2)) he; have e2 := cd_no (by decide) (word_of (x := ⟨#[119, 104, 105, 108, 101]⟩) (by decide) (by rw [show lowWR ⟨#[119, 104, 105, 108, 101]⟩ = true by decide]; exact hb2)) he; have e3 := cd_no (by decide) (word_of (x := ⟨#[102, 111, 114]⟩) (by decide) (by rw [show lowWR ⟨#[102, 111, 114]⟩ = true by decide]; exact hb2)) he; have e4 := cd_no (by decide) (word_of (x := ⟨#[114, 101, 112, 101, 97, 116]⟩) (by decide) (by rw [show lowWR ⟨#[114, 101, 112, 101, 97, 116]⟩ = true by decide]; exact hb2)) he; have e5 := cd_no (by decide) (word_of (x := ⟨#[114, 101, 116, 117, 114, 110]⟩) (by decide) (by rw [show lowWR ⟨#[114, 101, 116, 117, 114, 110]⟩ = true by decide]; exact hb2)) he; have e6 := cd_no (by decide) (word_of (x := ⟨#[98, 101, 103, 105, 110]⟩) (by decide) (by rw [show lowWR ⟨#[98, 101, 103, 105, 110]⟩ = true by decide]; exact hb2)) he; have e9 := cd_no (by decide) hb1 he; simp [RId.expand, e0, e1, e2, e3, e4, e5, e6, e9]) hr
   have HY9 := zh hz9
   clear hz9
   have HC91 := zh (fun (w1 : World) (h : RMem W0 A c l all w1 p s) => (show Calls Tryz.prog 101 #[.pointer (some ⟨p, 0, none⟩)] w1 (RPost W0 A c l all p (wrR l s)) from rwrong_any h))
   go_wp2_with (first
    | (go_at_call 72; (with_reducible refine cM (HC1.out _ HM.out) ?_); rintro e w1 ⟨rfl, h, -⟩; replace HM := zh h; clear h)
    | (go_at_call 72; (with_reducible refine cM (HC2.out _ HM.out) ?_); rintro e w1 ⟨rfl, h, -⟩; replace HM := zh h; clear h)
    | (go_at_call 101; (with_reducible refine cM (HC91.out _ HM.out) ?_); rintro e w1 ⟨rfl, h⟩; replace HM := zh h; clear h))
   refine ⟨rfl, .tuple #[], by kernel_rfl, rfl, ?_⟩
   rw [HY9.out]; exact HM.out
theorem g_programR (l : List Tk) (all : Bool) (n : Nat) (D_block : GoodR l all n 56 [.rule .r_block]) {W0 : World} {A : Option Addr} {c p : Nat} {w : World} {s r : RS} (H : RMem W0 A c l all w p s) (hf : s.e = 0 → s.ser + 1 ≤ 1099511627776) (hr : rrun l all n [.word ⟨#[112, 114, 111, 103, 114, 97, 109]⟩, .word ⟨#[64, 110, 97, 109, 101]⟩, .word ⟨#[59]⟩, .rule .r_block, .word ⟨#[46]⟩] (opR 1 s) = some r) :
  Calls Tryz.prog 40 #[.pointer (some ⟨p, 0, none⟩)] w (RPost W0 A c l all p (if r.e = 0 ∧ r.i < l.length then badR 120 r else r)) := by
 have HM := zh H
 clear H
 obtain ⟨rr, hrr⟩ : ∃ rr, (if r.e = 0 ∧ r.i < l.length then badR 120 r else r) = rr := ⟨_, rfl⟩
 rw [hrr]
 have HRR := zh hrr
 clear hrr
 go_enter Tryz.func40, Tryz.ntmps40
 have HC1 := zh (fun (w1 : World) (h : RMem W0 A c l all w1 p s) => (show Calls Tryz.prog 52 #[.pointer (some ⟨p, 0, none⟩), .int .u8 1] w1 (RPost W0 A c l all p (opR 1 s)) from opens_any h 1 (fun he => by have := hf he; omega)))
 have hr0 := hr
 obtain ⟨s2, h2, hr2⟩ := rrun_app n [.word ⟨#[112, 114, 111, 103, 114, 97, 109]⟩] [.word ⟨#[64, 110, 97, 109, 101]⟩, .word ⟨#[59]⟩, .rule .r_block, .word ⟨#[46]⟩] (opR 1 s) r hr0
 have HC2 := zh (fun (w1 : World) (h : RMem W0 A c l all w1 p (opR 1 s)) => (show Calls Tryz.prog 53 #[.pointer (some ⟨p, 0, none⟩), .string ⟨#[112, 114, 111, 103, 114, 97, 109]⟩] w1 (RPost W0 A c l all p s2) from tw_new h2 (by decide) (by decide) w1 h))
 obtain ⟨s3, h3, hr3⟩ := rrun_app n [.word ⟨#[64, 110, 97, 109, 101]⟩] [.word ⟨#[59]⟩, .rule .r_block, .word ⟨#[46]⟩] s2 r hr2
 have HC3 := zh (fun (w1 : World) (h : RMem W0 A c l all w1 p s2) => (show Calls Tryz.prog 54 #[.pointer (some ⟨p, 0, none⟩)] w1 (RPost W0 A c l all p s3) from tn_new h3 w1 h))
 obtain ⟨s4, h4, hr4⟩ := rrun_app n [.word ⟨#[59]⟩] [.rule .r_block, .word ⟨#[46]⟩] s3 r hr3
 have HC4 := zh (fun (w1 : World) (h : RMem W0 A c l all w1 p s3) => (show Calls Tryz.prog 55 #[.pointer (some ⟨p, 0, none⟩), .string ⟨#[59]⟩] w1 (RPost W0 A c l all p s4) from ts_new h4 (by decide) (by decide) w1 h))
 obtain ⟨s5, h5, hr5⟩ := rrun_app n [.rule .r_block] [.word ⟨#[46]⟩] s4 r hr4
 have HC5 := zh (fun (w1 : World) (h : RMem W0 A c l all w1 p s4) => (show Calls Tryz.prog 56 #[.pointer (some ⟨p, 0, none⟩)] w1 (RPost W0 A c l all p s5) from D_block n (Nat.le_refl n) W0 A c p w1 s4 s5 h h5))
 obtain ⟨s6, h6, hr6⟩ := rrun_app n [.word ⟨#[46]⟩] [] s5 r hr5
 have HC6 := zh (fun (w1 : World) (h : RMem W0 A c l all w1 p s5) => (show Calls Tryz.prog 55 #[.pointer (some ⟨p, 0, none⟩), .string ⟨#[46]⟩] w1 (RPost W0 A c l all p s6) from ts_new h6 (by decide) (by decide) w1 h))
 have hz7 : r = s6 := rrun_nil hr6
 have HZ := zh hz7
 clear hz7
 by_cases he : r.e = 0
 ·by_cases hi : r.i < l.length
  ·have g1 : (r.i : Int) < (l.length : Int) := by omega
   have g5 : decide ((r.i : Int) < (l.length : Int)) = true := decide_eq_true g1
   have HW : Hid (rr = badR 120 r) := zh (HRR.out.symm.trans (if_pos ⟨he, hi⟩))
   have HEE := zh he
   clear hi he
   go_wp2_with (first
    | (go_at_call 52; (with_reducible refine cM (HC1.out _ HM.out) ?_); rintro e w1 ⟨rfl, h⟩; replace HM := zh h; clear h)
    | (go_at_call 53; (with_reducible refine cM (HC2.out _ HM.out) ?_); rintro e w1 ⟨rfl, h⟩; replace HM := zh h; clear h)
    | (go_at_call 54; (with_reducible refine cM (HC3.out _ HM.out) ?_); rintro e w1 ⟨rfl, h⟩; replace HM := zh h; clear h)
    | (go_at_call 55; (with_reducible refine cM (HC4.out _ HM.out) ?_); rintro e w1 ⟨rfl, h⟩; replace HM := zh h; clear h)
    | (go_at_call 56; (with_reducible refine cM (HC5.out _ HM.out) ?_); rintro e w1 ⟨rfl, h⟩; replace HM := zh h; clear h)
    | (go_at_call 55; (with_reducible refine cM (HC6.out _ HM.out) ?_); rintro e w1 ⟨rfl, h⟩; rw [← HZ.out] at h; replace HM := zh h; obtain ⟨path, ser, vp, vs, vl, hrel, hpsl, HA⟩ := h; have HQ := zh hpsl; have HE : Hid (r.e = 0 → path = r.path ∧ ser = r.ser) := zh hrel; obtain ⟨q0, q1, q2, q3, q4, q5, q6, q7⟩ := HA.cell; have HA0 := zh HA; clear HA hpsl hrel))
   rw [HEE.out] at q7
   go_quiet (fail)
   obtain ⟨w0, hw0⟩ : ∃ V, w1.drewN nq = V := ⟨_, rfl⟩
   rw [hw0]
   replace HA0 := zh (show RAt W0 A c l all w0 p r.i path ser r.paths r.last r.e vp vs vl by rw [← hw0]; exact HA0.out.moved (below_drewN (Below.refl _ _) _))
   clear hw0 q0 q1 q2 q3 q4 q5 q6 q7
   obtain ⟨q0, q1, q2, q3, q4, q5, q6, q7⟩ := HA0.out.cell
   go_wp2_with (first
    | ((with_reducible refine gate_ (.store 33 (.tmp 33) (.const (.int .i64 120))) rfl ?_); refine wl_cells rfl rfl _ _ _ rfl (g := p) (off := 7) (.int .i64 120) [.int .i64 120] rfl rfl rfl (by kernel_rfl) (fun v hv => by rw [List.mem_singleton.1 hv]; rfl) HA0.out.box (by simp) ?_; intro V1 hV; have hA := HA0.out.upd 7 (.int .i64 120) (by decide) (i' := r.i) (ser' := ser) (e' := 120) rfl HA0.out.ile (Nat.le_refl _); rw [← hV] at hA; have HA1 := zh hA; clear hA hV))
   go_end0
   exact ⟨rfl, by rw [HW.out]; exact ⟨_, _, _, _, _, fun h => absurd h (show ¬ ((120 : Int) = 0) by decide), HQ.out, HA1.out⟩⟩
  ·have g1 : decide ((r.i : Int) < (l.length : Int)) = false := decide_eq_false (by omega)
   have g2 : ¬ (r.i : Int) < (l.length : Int) := by omega
   have g3 : decide (r.i < l.length) = false := decide_eq_false (by omega)
   have HW : Hid (rr = r) := zh (HRR.out.symm.trans (if_neg (fun h => hi h.2)))
   have HEE := zh he
   clear hi he
   go_wp2_with (first
    | (go_at_call 52; (with_reducible refine cM (HC1.out _ HM.out) ?_); rintro e w1 ⟨rfl, h⟩; replace HM := zh h; clear h)
    | (go_at_call 53; (with_reducible refine cM (HC2.out _ HM.out) ?_); rintro e w1 ⟨rfl, h⟩; replace HM := zh h; clear h)
    | (go_at_call 54; (with_reducible refine cM (HC3.out _ HM.out) ?_); rintro e w1 ⟨rfl, h⟩; replace HM := zh h; clear h)
    | (go_at_call 55; (with_reducible refine cM (HC4.out _ HM.out) ?_); rintro e w1 ⟨rfl, h⟩; replace HM := zh h; clear h)
    | (go_at_call 56; (with_reducible refine cM (HC5.out _ HM.out) ?_); rintro e w1 ⟨rfl, h⟩; replace HM := zh h; clear h)
    | (go_at_call 55; (with_reducible refine cM (HC6.out _ HM.out) ?_); rintro e w1 ⟨rfl, h⟩; rw [← HZ.out] at h; replace HM := zh h; obtain ⟨path, ser, vp, vs, vl, hrel, hpsl, HA⟩ := h; have HQ := zh hpsl; have HE : Hid (r.e = 0 → path = r.path ∧ ser = r.ser) := zh hrel; obtain ⟨q0, q1, q2, q3, q4, q5, q6, q7⟩ := HA.cell; have HA0 := zh HA; clear HA hpsl hrel))
   rw [HEE.out] at q7
   go_quiet (fail)
   go_wp2
   go_end0
   exact ⟨rfl, by rw [HW.out]; exact RMem.moved ⟨_, _, _, _, _, HE.out, HQ.out, HA0.out⟩ (below_drewN (Below.refl _ _) _)⟩
 ·have g1 : (r.e == 0) = false := by rw [beq_eq_false_iff_ne]; exact he
  have HW : Hid (rr = r) := zh (HRR.out.symm.trans (if_neg (fun h => he h.1)))
  go_wp2_with (first
   | (go_at_call 52; (with_reducible refine cM (HC1.out _ HM.out) ?_); rintro e w1 ⟨rfl, h⟩; replace HM := zh h; clear h)
   | (go_at_call 53; (with_reducible refine cM (HC2.out _ HM.out) ?_); rintro e w1 ⟨rfl, h⟩; replace HM := zh h; clear h)
   | (go_at_call 54; (with_reducible refine cM (HC3.out _ HM.out) ?_); rintro e w1 ⟨rfl, h⟩; replace HM := zh h; clear h)
   | (go_at_call 55; (with_reducible refine cM (HC4.out _ HM.out) ?_); rintro e w1 ⟨rfl, h⟩; replace HM := zh h; clear h)
   | (go_at_call 56; (with_reducible refine cM (HC5.out _ HM.out) ?_); rintro e w1 ⟨rfl, h⟩; replace HM := zh h; clear h)
   | (go_at_call 55; (with_reducible refine cM (HC6.out _ HM.out) ?_); rintro e w1 ⟨rfl, h⟩; rw [← HZ.out] at h; replace HM := zh h; obtain ⟨path, ser, vp, vs, vl, hrel, hpsl, HA⟩ := h; have HQ := zh hpsl; have HE : Hid (r.e = 0 → path = r.path ∧ ser = r.ser) := zh hrel; obtain ⟨q0, q1, q2, q3, q4, q5, q6, q7⟩ := HA.cell; have HA0 := zh HA; clear HA hpsl hrel))
  go_quiet (fail)
  go_wp2
  go_end0
  exact ⟨rfl, by rw [HW.out]; exact RMem.moved ⟨_, _, _, _, _, HE.out, HQ.out, HA0.out⟩ (below_drewN (Below.refl _ _) _)⟩
structure FunAt (l : List Tk) (all : Bool) (n : Nat) : Prop where
 object : GoodAt l all n 127 [.rule .r_object]
 factor : GoodAt l all n 153 [.rule .r_factor]
 term : GoodAt l all n 146 [.rule .r_term]
 sum : GoodAt l all n 139 [.rule .r_sum]
 relation : GoodAt l all n 126 [.rule .r_rel]
 expr : GoodAt l all n 103 [.rule .r_expr]
 kindOf : GoodAt l all n 105 [.rule .r_kind]
 statement : GoodAt l all n 106 [.rule .r_statement]
 body : GoodAt l all n 77 [.rule .r_body]
 block : GoodAt l all n 56 [.rule .r_block]
theorem rule_node {l : List Tk} {all : Bool} {n : Nat} {F : FuncId} {R : RId} {k : Nat} {T : List WT} (hx : ∀ c, R.expand c = some [.opn k T]) (hN : ∀ m, m ≤ n - 1 → NodeAt l all m F [] k T) : GoodAt l all n F [.rule R] := by
 intro W0 A c p w s r H hr
 obtain ⟨m, s1, hm, hf, h1, hfin, h2⟩ := run_node (fun _ => hx _) hr
 rw [rrun_nil h2]
 exact hN m hm W0 A c p w s s1 H (fun he => (hf he).1) h1 hfin
theorem all_fun (l : List Tk) (all : Bool) : ∀ n, FunAt l all n := by
 intro n
 induction n using Nat.strongRecOn with
 | ind n IH =>
  have Inames : ∀ m, m < n → GoodAt l all m 102 [.word ⟨#[64, 110, 97, 109, 101]⟩, .rule .r_names, .word ⟨#[58]⟩, .rule .r_kind] := fun m hm => g_names l all m (fun k hk => (IH k (by omega)).kindOf)
  have Irow1 : ∀ m, m < n → NodeAt l all m 104 [.int .u8 6, .int .u8 7, .string ⟨#[41]⟩] 6 [.word ⟨#[40]⟩, .rule .r_param, .rule .r_moreParams, .word ⟨#[41]⟩] := fun m hm => g_row1 l all m (fun k hk => Inames k (by omega))
  have Irow2 : ∀ m, m < n → NodeAt l all m 104 [.int .u8 10, .int .u8 11, .string ⟨#[101, 110, 100]⟩] 10 [.word ⟨#[114, 101, 99, 111, 114, 100]⟩, .rule .r_member, .rule .r_members, .word ⟨#[101, 110, 100]⟩] := fun m hm => g_row2 l all m (fun k hk => Inames k (by omega))
  have Ivariable : ∀ m, m < n → NodeAt l all m 74 [] 3 [.word ⟨#[118, 97, 114]⟩, .word ⟨#[64, 110, 97, 109, 101]⟩, .rule .r_names, .word ⟨#[58]⟩, .rule .r_kind, .word ⟨#[59]⟩] := fun m hm => g_variable l all m (fun k hk => Inames k (by omega))
  have Iconstant : ∀ m, m < n → NodeAt l all m 75 [] 4 [.word ⟨#[99, 111, 110, 115, 116]⟩, .word ⟨#[64, 110, 97, 109, 101]⟩, .word ⟨#[61]⟩, .rule .r_expr, .word ⟨#[59]⟩] := fun m hm => g_constant l all m (fun k hk => (IH k (by omega)).expr)
  have Iproc : ∀ m, m < n → NodeAt l all m 76 [] 5 [.word ⟨#[112, 114, 111, 99]⟩, .word ⟨#[64, 110, 97, 109, 101]⟩, .rule .r_params, .rule .r_typed, .word ⟨#[59]⟩, .rule .r_block, .word ⟨#[59]⟩] := fun m hm => g_procR l all m (fun k hk => (IH k (by omega)).kindOf) (fun k hk => (IH k (by omega)).block) (fun h k hk => Irow1 k (by omega))
  have IlistI : ∀ m, m < n → NodeAt l all m 140 [.int .u8 29, .string ⟨#[91]⟩, .string ⟨#[93]⟩] 29 [.word ⟨#[91]⟩, .rule .r_expr, .rule .r_exprs, .word ⟨#[93]⟩] := fun m hm => g_listI l all m (fun k hk => (IH k (by omega)).expr)
  have IlistA : ∀ m, m < n → NodeAt l all m 140 [.int .u8 31, .string ⟨#[40]⟩, .string ⟨#[41]⟩] 31 [.word ⟨#[40]⟩, .rule .r_args, .word ⟨#[41]⟩] := fun m hm => g_listA l all m (fun k hk => (IH k (by omega)).expr)
  have Ibranch : ∀ m, m < n → NodeAt l all m 128 [] 15 [.word ⟨#[105, 102]⟩, .rule .r_expr, .word ⟨#[116, 104, 101, 110]⟩, .rule .r_body, .rule .r_elses, .word ⟨#[101, 110, 100]⟩] := fun m hm => g_branch l all m (fun k hk => (IH k (by omega)).expr) (fun k hk => (IH k (by omega)).body)
  have c_object : GoodAt l all n 127 [.rule .r_object] := rule_node (fun _ => rfl) (fun m hm => g_objectR l all m (fun h k hk => IlistI k (by omega)) (fun h k hk => IlistA k (by omega)))
  have c_factor : GoodAt l all n 153 [.rule .r_factor] := g_factorR l all n (fun h k hk => (IH k (by omega)).factor) (fun h k hk => (IH k (by omega)).expr) (fun k hk => by rcases Nat.lt_or_ge k n with h | h; exact (IH k h).object; obtain rfl : k = n := (by omega); exact c_object)
  have c_term : GoodAt l all n 146 [.rule .r_term] := rule_node (fun _ => rfl) (fun m hm => g_termR l all m (fun k hk => by rcases Nat.lt_or_ge k n with h | h; exact (IH k h).factor; obtain rfl : k = n := (by omega); exact c_factor))
  have c_sum : GoodAt l all n 139 [.rule .r_sum] := rule_node (fun _ => rfl) (fun m hm => g_sumR l all m (fun k hk => by rcases Nat.lt_or_ge k n with h | h; exact (IH k h).term; obtain rfl : k = n := (by omega); exact c_term))
  have c_relation : GoodAt l all n 126 [.rule .r_rel] := rule_node (fun _ => rfl) (fun m hm => g_relation l all m (fun k hk => by rcases Nat.lt_or_ge k n with h | h; exact (IH k h).sum; obtain rfl : k = n := (by omega); exact c_sum))
  have c_expr : GoodAt l all n 103 [.rule .r_expr] := rule_node (fun _ => rfl) (fun m hm => g_exprR l all m (fun k hk => by rcases Nat.lt_or_ge k n with h | h; exact (IH k h).relation; obtain rfl : k = n := (by omega); exact c_relation))
  have c_kindOf : GoodAt l all n 105 [.rule .r_kind] := g_kindOf l all n (fun h k hk => (IH k (by omega)).expr) (fun h k hk => (IH k (by omega)).kindOf) (fun h k hk => Irow2 k (by omega))
  have c_statement : GoodAt l all n 106 [.rule .r_statement] := g_statementR l all n (fun h k hk => (IH k (by omega)).object) (fun h k hk => (IH k (by omega)).expr) (fun h k hk => (IH k (by omega)).body) (fun h k hk => Ibranch k (by omega))
  have c_body : GoodAt l all n 77 [.rule .r_body] := rule_node (fun _ => rfl) (fun m hm => g_bodyR l all m (fun k hk => by rcases Nat.lt_or_ge k n with h | h; exact (IH k h).statement; obtain rfl : k = n := (by omega); exact c_statement))
  have c_block : GoodAt l all n 56 [.rule .r_block] := rule_node (fun _ => rfl) (fun m hm => g_blockR l all m (fun k hk => by rcases Nat.lt_or_ge k n with h | h; exact (IH k h).body; obtain rfl : k = n := (by omega); exact c_body) (fun h k hk => Ivariable k (by omega)) (fun h k hk => Iconstant k (by omega)) (fun h k hk => Iproc k (by omega)))
  exact ⟨c_object, c_factor, c_term, c_sum, c_relation, c_expr, c_kindOf, c_statement, c_body, c_block⟩
def ReadPost (A : Option Addr) (c : Nat) (l : List Tk) (all : Bool) (w : World) (r : RS) (e : Ending) (w' : World) : Prop := e = .returned (.pointer (some ⟨w.heap.size, 0, none⟩)) ∧ RMem w A c l all w' w.heap.size r
theorem read_any (A : Option Addr) (c : Nat) (l : List Tk) (all : Bool) (w : World) (hC : Kd.C kTk w A l.length l) (hl : l.length ≤ 4194304) (n : Nat) (r : RS) (hr : rrun l all n [.word ⟨#[112, 114, 111, 103, 114, 97, 109]⟩, .word ⟨#[64, 110, 97, 109, 101]⟩, .word ⟨#[59]⟩, .rule .r_block, .word ⟨#[46]⟩] (opR 1 ⟨0, [], 0, [], [], 0⟩) = some r) (rr : RS) (hrr : (if r.e = 0 ∧ r.i < l.length then badR 120 r else r) = rr) :
  Calls Tryz.prog 21 #[.slice A l.length c, .bool all] w (ReadPost A c l all w rr) := by
 have hM : ∀ V, V = w.alloc (.cells #[.slice A l.length c, .int .i64 0, .slice none 0 0, .int .i64 0, .bool all, .slice none 0 0, .slice none 0 0, .int .i64 0] 66) → RMem w A c l all V w.heap.size ⟨0, [], 0, [], [], 0⟩ := by
  rintro _ rfl
  refine ⟨[], 0, _, _, _, fun _ => ⟨rfl, rfl⟩, Nat.le_refl _, ⟨World.alloc_heap_new _ _, own_nil _ _ _ _, ⟨⟨[], own_nil _ _ _ _, fun k v q h => by cases h⟩⟩, ⟨own_nil _ _ _ _, fun g h => by cases h⟩, (Below.refl _ w).alloc (Nat.le_refl _) _, hC, Nat.le_refl _, hl, Nat.zero_le _, Nat.le_refl _⟩⟩
 have HP := zh (fun (V : World) (h : RMem w A c l all V w.heap.size ⟨0, [], 0, [], [], 0⟩) => g_programR l all n (fun k _ => (all_fun l all k).block) h (fun _ => (by decide : (0 : Nat) + 1 ≤ 1099511627776)) hr)
 rw [hrr] at HP
 clear hrr
 have HMM := zh hM
 clear hM hr
 go_enter Tryz.func21, Tryz.ntmps21
 go_upto_region 2 with (fail)
 obtain ⟨V, hV⟩ : ∃ V, w.alloc (.cells #[.slice A l.length c, .int .i64 0, .slice none 0 0, .int .i64 0, .bool all, .slice none 0 0, .slice none 0 0, .int .i64 0] 66) = V := ⟨_, rfl⟩
 rw [hV]
 have HM := zh (HMM.out V hV.symm)
 clear hV
 go_wp2_with (first
  | (go_at_call 40; (with_reducible refine cM (HP.out _ HM.out) ?_); rintro e w1 ⟨rfl, h⟩; replace HM := zh h; clear h))
 go_ret
 exact ⟨rfl, HM.out⟩
abbrev StT := PSyntaxProgram.S68
abbrev kSt := PSyntaxProgram.k68
def toS (x : Nat × Nat) : StT := ⟨x.1, x.2⟩
def clE (x : Nat × Nat) : Ev := evOf (3, x.1)
def opE (x : Nat × Nat) : Ev := evOf (1, x.1)
theorem rd_S {a : List (Nat × Nat)} {i : Nat} {x : Nat × Nat} (h : a[i]? = some x) : PSyntaxProgram.rd_T68 (a.map toS) i = toS x := by
 simp [PSyntaxProgram.rd_T68, List.getD_eq_getElem?_getD, h]
theorem w64 {i : Nat} (h : i < 4611686018427387904) : wrap64 ((i : Int) + 1) = ((i + 1 : Nat) : Int) := by unfold wrap64; omega
theorem w64s {i : Nat} (h : i < 4611686018427387904) : wrap64 ((i : Int) - 1) = (i : Int) - 1 := by unfold wrap64; omega
theorem btw_l2 (b : List (Nat × Nat)) (hb : b.length < 1099511627776) : ∀ (n i : Nat) (acc : List Ev), i + n = b.length → acc.length + n < 2199023255552 → PSyntaxProgram.colophonref12_Between.l2 (n + 1) (b.map toS) acc i = some (acc ++ (b.drop i).map opE)
 | 0, i, acc, h, hl => by
  rw [PSyntaxProgram.colophonref12_Between.l2, if_neg (by rw [List.length_map]; omega), List.drop_of_length_le (by omega)]
  simp
 | n + 1, i, acc, h, hl => by
  obtain ⟨x, hx⟩ : ∃ x, b[i]? = some x := ⟨_, List.getElem?_eq_getElem (by omega)⟩
  rw [PSyntaxProgram.colophonref12_Between.l2, if_pos (by rw [List.length_map]; omega), if_pos (by omega), if_pos (by omega), rd_S hx, w64 (by omega)]
  rw [btw_l2 b hb n (i + 1) _ (by omega) (by rw [List.length_append, List.length_singleton]; omega)]
  have hd : b.drop i = x :: b.drop (i + 1) := by
   rw [List.drop_eq_getElem_cons (by omega)]
   have := (List.getElem?_eq_some_iff.1 hx).2
   rw [this]
  rw [hd, List.map_cons, List.append_assoc]
  rfl
theorem btw_l1 (a b : List (Nat × Nat)) (n m : Nat) (ha : a.length < 1099511627776) : ∀ (d : Nat) (acc : List Ev), n + d ≤ a.length → acc.length + d < 2199023255552 →
  PSyntaxProgram.colophonref12_Between.l1 (d + (m + 1)) (a.map toS) (b.map toS) n acc ((n + d : Nat) - 1 : Int) = PSyntaxProgram.colophonref12_Between.l2 m (b.map toS) (acc ++ (((a.drop n).take d).reverse).map clE) n
 | 0, acc, h, hl => by
  rw [Nat.zero_add, PSyntaxProgram.colophonref12_Between.l1, if_neg (by omega)]
  simp
 | d + 1, acc, h, hl => by
  obtain ⟨x, hx⟩ : ∃ x, a[n + d]? = some x := ⟨_, List.getElem?_eq_getElem (by omega)⟩
  rw [show d + 1 + (m + 1) = (d + (m + 1)) + 1 by omega, show (((n + (d + 1) : Nat) : Int) - 1) = ((n + d : Nat) : Int) by omega]
  rw [PSyntaxProgram.colophonref12_Between.l1, if_pos (by omega), if_pos (by omega), if_pos (by rw [List.length_map]; omega), if_pos (by omega), rd_S hx, w64s (by omega)]
  rw [btw_l1 a b n m ha d _ (by omega) (by rw [List.length_append, List.length_singleton]; omega)]
  have ht : (a.drop n).take (d + 1) = (a.drop n).take d ++ [x] := by
   rw [List.take_add_one, List.getElem?_drop, hx]; rfl
  rw [ht, List.reverse_append, List.reverse_singleton, List.map_append, ← List.append_assoc]
  rfl
theorem btw_l0 (a b : List (Nat × Nat)) (m : Nat) (ha : a.length < 1099511627776) : ∀ (c i : Nat), common (a.drop i) (b.drop i) = c → PSyntaxProgram.colophonref12_Between.l0 (c + (m + 1)) (a.map toS) (b.map toS) i = PSyntaxProgram.colophonref12_Between.j1 m (a.map toS) (b.map toS) ((i + c : Nat) : Int)
 | c, i, h => by
  by_cases hi : i < a.length
  ·by_cases hj : i < b.length
   ·obtain ⟨x, hx⟩ : ∃ x, a[i]? = some x := ⟨_, List.getElem?_eq_getElem hi⟩
    obtain ⟨y, hy⟩ : ∃ y, b[i]? = some y := ⟨_, List.getElem?_eq_getElem hj⟩
    have hd : a.drop i = x :: a.drop (i + 1) := by
     rw [List.drop_eq_getElem_cons hi]
     have := (List.getElem?_eq_some_iff.1 hx).2
     rw [this]
    have he : b.drop i = y :: b.drop (i + 1) := by
     rw [List.drop_eq_getElem_cons hj]
     have := (List.getElem?_eq_some_iff.1 hy).2
     rw [this]
    rw [hd, he, common] at h
    by_cases hxy : x = y
    ·rw [if_pos hxy] at h
     obtain ⟨c, rfl⟩ : ∃ c', c = c' + 1 := ⟨c - 1, by omega⟩
     rw [show c + 1 + (m + 1) = (c + (m + 1)) + 1 by omega, PSyntaxProgram.colophonref12_Between.l0, if_pos (by rw [List.length_map]; omega), if_pos (by rw [List.length_map]; omega), if_pos (by omega), rd_S hx, rd_S hy, if_pos (by rw [hxy]; simp), w64 (by omega)]
     rw [btw_l0 a b m ha c (i + 1) (by omega), show i + 1 + c = i + (c + 1) by omega]
    ·rw [if_neg hxy] at h
     subst h
     rw [Nat.zero_add, PSyntaxProgram.colophonref12_Between.l0, if_pos (by rw [List.length_map]; omega), if_pos (by rw [List.length_map]; omega), if_pos (by omega), rd_S hx, rd_S hy, if_neg]
     ·rfl
     ·intro hh
      simp only [toS, Bool.and_eq_true, beq_iff_eq] at hh
      exact hxy (Prod.ext (by omega) (by omega))
   ·rw [List.drop_of_length_le (l := b) (by omega)] at h
    have h0 : c = 0 := by
     rw [← h]; cases a.drop i <;> rfl
    subst h0
    rw [Nat.zero_add, PSyntaxProgram.colophonref12_Between.l0, if_pos (by rw [List.length_map]; omega), if_neg (by rw [List.length_map]; omega)]
    rfl
  ·rw [List.drop_of_length_le (l := a) (by omega)] at h
   have h0 : c = 0 := by rw [← h]; rfl
   subst h0
   rw [Nat.zero_add, PSyntaxProgram.colophonref12_Between.l0, if_neg (by rw [List.length_map]; omega)]
   rfl
theorem common_le : ∀ a b, common a b ≤ a.length ∧ common a b ≤ b.length
 | [], b => by simp [common]
 | x :: a, [] => by simp [common]
 | x :: a, y :: b => by
  rw [common]
  have := common_le a b
  split
  ·simp only [List.length_cons]; omega
  ·omega
theorem btw_f (a b : List (Nat × Nat)) (ha : a.length < 1099511627776) (hb : b.length < 1099511627776) : ∃ k, PSyntaxProgram.colophonref12_Between.f k (a.map toS) (b.map toS) = some (betw a b) := by
 obtain ⟨c1, c2⟩ := common_le a b
 obtain ⟨n, hn⟩ : ∃ n, common a b = n := ⟨_, rfl⟩
 rw [hn] at c1 c2
 refine ⟨n + ((a.length - n + ((b.length - n + 1) + 1) + 1) + 1), ?_⟩
 unfold PSyntaxProgram.colophonref12_Between.f
 have h0 := btw_l0 a b (a.length - n + ((b.length - n + 1) + 1) + 1) ha n 0 (by simpa using hn)
 rw [Nat.zero_add] at h0
 rw [show (0 : Int) = ((0 : Nat) : Int) from rfl, h0, PSyntaxProgram.colophonref12_Between.j1]
 have h1 := btw_l1 a b n (b.length - n + 1) ha (a.length - n) [] (by omega) (by simp; omega)
 have hw : wrap64 (((a.map toS).length : Int) - 1) = ((n + (a.length - n) : Nat) : Int) - 1 := by
  rw [List.length_map, w64s (by omega)]; omega
 rw [hw, h1, btw_l2 b hb (b.length - n) n _ (by omega) (by simp; omega)]
 unfold betw
 rw [hn, List.take_of_length_le (by rw [List.length_drop]; omega)]
 rfl
theorem reps_st (V : World) (q : List (Nat × Nat)) : Reps (kSt.K V) 2 (q.map toS) (q.flatMap stCells) := by
 induction q with
 | nil => exact Reps.none _ _
 | cons x l ih =>
  have := Kd.reps_append ((Reps.none (kSt.K V) 2).snoc (PSyntaxProgram.k68_mk V (toS x)) rfl) ih
  rw [List.nil_append, List.nil_append, List.singleton_append] at this
  exact this
theorem st_C {V : World} {base : Nat} {v : Value} {q : List (Nat × Nat)} (h : stRow V base v q) : ∃ A c, v = .slice A q.length c ∧ q.length ≤ c ∧ Kd.C kSt V A (q.map toS).length (q.map toS) := by
 obtain ⟨A, c, hv, hr⟩ := own_reads_row (size := 2) h (reps_st V q) (by rw [List.length_map])
 obtain ⟨A2, c2, hv2, hc⟩ := row_slice h
 subst hv
 injection hv2 with h1 h2 h3
 subst h3
 exact ⟨A, _, rfl, hc, by rw [List.length_map]; exact hr⟩
theorem reps_flat {α : Type} {R : α → List Value → Prop} {size : Nat} {f : α → List Value} (hR : ∀ p c, R p c → c = f p) : ∀ (ps : List α) (cs : List Value), Reps R size ps cs → cs = ps.flatMap f
 | [], cs, h => by
  have := h.1
  simpa using this
 | p :: ps, cs, h => by
  have h0 := hR _ _ (h.2 0 p rfl)
  have hl := h.1
  rw [List.length_cons, Nat.add_mul, Nat.one_mul] at hl
  have hr : Reps R size ps (cs.drop size) := by
   refine ⟨by rw [List.length_drop]; omega, fun j q hq => ?_⟩
   have := h.2 (j + 1) q hq
   rw [List.drop_drop, show size + j * size = (j + 1) * size by rw [Nat.add_mul]; omega]
   exact this
  have h1 := reps_flat hR ps _ hr
  rw [Nat.zero_mul, List.drop_zero] at h0
  rw [List.flatMap_cons, ← h0, ← h1, List.take_append_drop]
theorem R_ev {w : World} {base : Nat} {ok : Nat → Prop} {v : Value} {l : List Ev} (h : Kd.R kEv 48 w base ok v l) : w.ownsRow base 48 8 v l.length (l.flatMap evCells) := by
 obtain ⟨h0, inner, ho, hr⟩ := h
 have := reps_flat (f := evCells) (fun p c hp => PSyntaxProgram.k48_openM hp) l inner hr
 rw [this] at ho
 exact ho
theorem between_any {w : World} {b1 b2 : Nat} {va vb : Value} {a b : List (Nat × Nat)} (ha : stRow w b1 va a) (hb : stRow w b2 vb b) (hla : a.length < 1099511627776) (hlb : b.length < 1099511627776) :
  Calls Tryz.prog 22 #[va, vb] w fun e w' => ∃ v, e = .returned v ∧ w'.ownsRow w.heap.size 48 8 v (betw a b).length ((betw a b).flatMap evCells) ∧ Below w.heap.size w w' := by
 obtain ⟨A, c, rfl, hc, hC⟩ := st_C ha
 obtain ⟨A2, c2, rfl, hc2, hC2⟩ := st_C hb
 obtain ⟨k, hk⟩ := btw_f a b hla hlb
 have := PSyntaxProgram.colophonref12_Between.calls k A c (a.map toS) A2 c2 (b.map toS) _ w hC (by rw [List.length_map]; exact hc) hC2 (by rw [List.length_map]; exact hc2) hk
 rw [List.length_map, List.length_map] at this
 refine this.mono ?_
 rintro e w' ⟨v, rfl, h1, h2⟩
 exact ⟨v, rfl, R_ev h1, h2⟩
structure SAt (W0 : World) (A : Option Addr) (c : Nat) (l : List Tk) (w : World) (p : Nat) (i : Nat) (d : Int) (out : List Ev) (ve : Value) : Prop where
 box : w.heap[p]? = some (.cells #[.slice A l.length c, .int .i64 i, .int .i64 d, ve] 56 (0, 0))
 row : w.ownsRow p 48 8 ve out.length (out.flatMap evCells)
 below : Below W0.heap.size W0 w
 toks : Kd.C kTk W0 A l.length l
 hp : W0.heap.size ≤ p
 len : l.length ≤ 4194304
 ile : i ≤ l.length
abbrev MStep (p : Nat) (ve : Value) (w : World) (ve' : Value) (w' : World) : Prop := PStep p (.slice none 0 0) ve w (.slice none 0 0) ve' w'
section
variable {W0 : World} {A : Option Addr} {c : Nat} {l : List Tk} {w w' : World} {p : Nat} {i : Nat} {d : Int} {out : List Ev} {ve ve' : Value}
theorem SAt.cell (H : SAt W0 A c l w p i d out ve) : w.cell? ⟨p, 0, none⟩ = some (.slice A l.length c) ∧ w.cell? ⟨p, 1, none⟩ = some (.int .i64 i) ∧ w.cell? ⟨p, 2, none⟩ = some (.int .i64 d) ∧ w.cell? ⟨p, 3, none⟩ = some ve :=
 ⟨cR _ H.box, cR _ H.box, cR _ H.box, cR _ H.box⟩
theorem SAt.moved (H : SAt W0 A c l w p i d out ve) (h : Below w.heap.size w w') : SAt W0 A c l w' p i d out ve :=
 ⟨(h.block p (blk_lt H.box)).trans H.box, own_move H.row (fun q hq => h.block q (own_lt H.row q hq)), H.below.trans (h.mono H.below.size), H.toks, H.hp, H.len, H.ile⟩
theorem mkeep {T : TypeId} {g : Nat} {B : Array Value} (h : MStep p ve w ve' w') (H : SAt W0 A c l w p i d out ve) (hA : w.heap[g]? = some (.cells B T (0, 0))) (h1 : T ≠ 56 := by decide) (h3 : T ≠ 48 := by decide) : w'.heap[g]? = some (.cells B T (0, 0)) := by
 refine (h.block g (blk_lt hA) (fun e => ?_) (fun e => by cases e) (fun e => ?_)).trans hA
 ·rw [e, H.box] at hA; exact h1 (cells_ty hA).symm
 ·obtain ⟨cs, hc⟩ := own_typed H.row g e.symm
  rw [hA] at hc; exact h3 (cells_ty hc)
theorem mout (h : MStep p ve w ve' w') (H : SAt W0 A c l w p i d out ve) : Below W0.heap.size W0 w' := by
 refine ⟨h.os.trans H.below.os, h.tape.trans H.below.tape, h.output.trans H.below.output, Nat.le_trans H.below.size h.size, fun q hq => ?_⟩
 have := H.hp
 refine (h.block q (Nat.lt_of_lt_of_le hq H.below.size) (by omega) (fun e => by cases e) (fun e => ?_)).trans (H.below.block q hq)
 have := own_base H.row q e.symm
 omega
theorem SAt.upd (H : SAt W0 A c l w p i d out ve) (off : Nat) (v : Value) (hoff : off < 4) {i' : Nat} {d' : Int} (hc : [Value.slice A l.length c, .int .i64 i, .int .i64 d, ve].take off ++ [v] ++ [Value.slice A l.length c, .int .i64 i, .int .i64 d, ve].drop (off + 1) = [Value.slice A l.length c, .int .i64 i', .int .i64 d', ve])
  (hi : i' ≤ l.length) : SAt W0 A c l (w.setCells p off [v]) p i' d' out ve ∧ MStep p ve w ve (w.setCells p off [v]) := by
 obtain ⟨cur', k1, k2, k3⟩ := setCells_row [v] off w _ H.box (by simp; omega)
 have hfar : ∀ q, q ≠ p → (w.setCells p off [v]).heap[q]? = w.heap[q]? := fun q hq => setCells_far _ off q hq
 have hsm := setCells_same p [v] off w
 have hst : MStep p ve w ve (w.setCells p off [v]) := ⟨hsm.1, hsm.2.1, hsm.2.2.1, by rw [hsm.2.2.2]; exact Nat.le_refl _, fun q _ h0 _ _ => hfar q h0, fun g h => .inl h, fun g h => .inl h⟩
 refine ⟨⟨?_, ?_, mout hst H, H.toks, H.hp, H.len, hi⟩, hst⟩
 ·rw [k1]
  have : cur' = #[Value.slice A l.length c, .int .i64 i', .int .i64 d', ve] := by
   apply Array.toList_inj.1
   rw [k3]
   exact hc
  rw [this]
 ·refine own_move H.row (fun q hq => hfar q (fun e => ?_))
  obtain ⟨cs, hc2⟩ := own_typed H.row q hq
  rw [e, H.box] at hc2; cases hc2
theorem SAt.next {w1 : World} {g1 c1 : Nat} {e : Ev} (H : SAt W0 A c l w p i d out ve) (ho : w1.ownsRow p 48 8 (.slice (some ⟨g1, 0, none⟩) (out.length + 1) c1) (out.length + 1) (out.flatMap evCells ++ evCells e)) (hg : w.grownBy w1 ve.ownBlock) (hat : ve.ownBlock = some g1 ∨ w.heap.size < g1) :
  (∃ cur : Array Value, w1.heap[p]? = some (.cells cur 56 (0, 0)) ∧ 3 + 1 ≤ cur.size) ∧ ∀ V, V = w1.setCells p 3 [.slice (some ⟨g1, 0, none⟩) (out.length + 1) c1] →
   SAt W0 A c l V p i d (out ++ [e]) (.slice (some ⟨g1, 0, none⟩) (out.length + 1) c1) ∧ MStep p ve w (.slice (some ⟨g1, 0, none⟩) (out.length + 1) c1) V := by
 have hpe : ve.ownBlock ≠ some p := fun e => by
  obtain ⟨cs, hc⟩ := own_typed H.row p e
  rw [H.box] at hc; cases hc
 have hbp : w1.heap[p]? = _ := (hg.block p (blk_lt H.box) (fun e => hpe e.symm)).trans H.box
 refine ⟨⟨_, hbp, by simp⟩, ?_⟩
 rintro _ rfl
 obtain ⟨cur', k1, k2, k3⟩ := setCells_row [.slice (some ⟨g1, 0, none⟩) (out.length + 1) c1] 3 w1 _ hbp (by simp)
 have hfar : ∀ q, q ≠ p → (w1.setCells p 3 [.slice (some ⟨g1, 0, none⟩) (out.length + 1) c1]).heap[q]? = w1.heap[q]? := fun q hq => setCells_far _ 3 q hq
 have hsm := setCells_same p [.slice (some ⟨g1, 0, none⟩) (out.length + 1) c1] 3 w1
 have hgp : g1 ≠ p := fun e => by
  obtain ⟨cs, hc⟩ := own_typed ho g1 (by simp [Value.ownBlock])
  rw [e, hbp] at hc; cases hc
 have hst : MStep p ve w (.slice (some ⟨g1, 0, none⟩) (out.length + 1) c1) (w1.setCells p 3 [.slice (some ⟨g1, 0, none⟩) (out.length + 1) c1]) := by
  refine ⟨hsm.1.trans hg.os, hsm.2.1.trans hg.tape, hsm.2.2.1.trans hg.output, by rw [hsm.2.2.2]; exact hg.size, fun q hq h0 h1 h2 => ?_, fun g h => .inl h, fun g hg' => ?_⟩
  ·rw [hfar q h0]
   exact hg.block q hq h2
  ·have : g1 = g := by simpa [Value.ownBlock] using hg'
   subst this
   rcases hat with h | h
   ·exact .inl h
   ·exact .inr (by omega)
 refine ⟨⟨?_, ?_, mout hst H, H.toks, H.hp, H.len, H.ile⟩, hst⟩
 ·rw [k1]
  have : cur' = #[Value.slice A l.length c, .int .i64 i, .int .i64 d, .slice (some ⟨g1, 0, none⟩) (out.length + 1) c1] := by
   apply Array.toList_inj.1
   rw [k3]
   rfl
  rw [this]
 ·have h2 := own_move ho (w1 := w1.setCells p 3 [.slice (some ⟨g1, 0, none⟩) (out.length + 1) c1]) (fun q hq => hfar q (fun e => hgp ((show g1 = q by simpa [Value.ownBlock] using hq).trans e)))
  simp only [List.length_append, List.length_cons, List.length_nil, Nat.zero_add, List.flatMap_append, List.flatMap_cons, List.flatMap_nil, List.append_nil]
  exact h2
end
abbrev giveUp (e : Int) (i : Nat) : Ending := .panicked [{ v := .iface 52 (.agg #[.int .i64 e, .int .i64 i]), recovered := false }]
theorem fail_any {W0 : World} {A : Option Addr} {c : Nat} {l : List Tk} {w : World} {p : Nat} {i : Nat} {d : Int} {out : List Ev} {ve : Value} (H : SAt W0 A c l w p i d out ve) :
  Calls Tryz.prog 39 #[.pointer (some ⟨p, 0, none⟩)] w fun e w' => e = giveUp (if i = l.length then 121 else 120) i ∧ Below w.heap.size w w' := by
 obtain ⟨q0, q1, q2, q3⟩ := H.cell
 have hi := H.ile
 clear H
 go_enter Tryz.func39, Tryz.ntmps39
 by_cases h : i = l.length
 ·subst h
  go_wp2
  go_region
  go_wp2
  exact ⟨rfl, rfl, (Below.refl _ w).drew⟩
 ·have h1 : ((i : Int) == (l.length : Int)) = false := by rw [beq_eq_false_iff_ne]; omega
  have h2 : ¬ ((i : Int) = (l.length : Int)) := by omega
  rw [if_neg h]
  clear h
  go_wp2
  go_region
  go_wp2
  exact ⟨rfl, rfl, (Below.refl _ w).drew⟩
end Go.Proofs.YtmjbpgnjgblnmaaGreat
