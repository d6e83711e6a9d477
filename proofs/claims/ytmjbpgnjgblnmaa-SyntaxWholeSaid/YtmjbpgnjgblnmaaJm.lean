/- What the claim stands on: part Jm. -/
import Derived.Test.YtmjbpgnjgblnmaaJg
import Derived.Test.YtmjbpgnjgblnmaaJh
import Derived.Test.YtmjbpgnjgblnmaaJi
import Derived.Test.YtmjbpgnjgblnmaaJj
import Derived.Test.YtmjbpgnjgblnmaaJk
import Derived.Test.YtmjbpgnjgblnmaaJl
import Derived.Test.YtmjbpgnjgblnmaaJc
set_option linter.unusedVariables false
set_option linter.unusedSimpArgs false
namespace Go.Proofs.Ytmjbpgnjgblnmaa
open Go.RowKit Go.Proofs.YtmjbpgnjgblnmaaW.PrintWords Go.Proofs.YtmjbpgnjgblnmaaW.PrintLast Go.Proofs.YtmjbpgnjgblnmaaW.PrintMore
structure AllG (l : List Tk) (N : Nat) : Prop where
 expr : Good l N 93 [.rule .r_expr]
 body : Good l N 75 [.rule .r_body]
 kind : Good l N 115 [.rule .r_kind]
 block : Good l N 60 [.rule .r_block]
 statement : Good l N 97 [.rule .r_statement]
 factor : Good l N 165 [.rule .r_factor]
 object : Good l N 122 [.rule .r_object]
 rel : Good l N 117 [.rule .r_rel]
 sum : Good l N 141 [.rule .r_sum]
 term : Good l N 155 [.rule .r_term]
 declaration : ∀ n, n ≤ N → ∀ (W0 : World) (A : Option Addr) (c : Nat) (w : World) (p i : Nat) (d : Int) (out : List Ev) (ve : Value) (r : SRes), SAt W0 A c l w p i d out ve → srun l n ⟨[.rule .r_declaration], i, d, out⟩ = some r → inL (cAt l i) [⟨#[118, 97, 114]⟩, ⟨#[99, 111, 110, 115, 116]⟩, ⟨#[112, 114, 111, 99]⟩] = true → Calls Try.prog 74 #[.pointer (some ⟨p, 0, none⟩)] w (SPost W0 A c l p ve w r)
theorem good_zero (l : List Tk) (F : FuncId) (T : List WT) : Good l 0 F T := by
 intro n hn W0 A c w p i d out ve r H hr
 obtain rfl : n = 0 := by omega
 exact absurd hr (by simp [srun])
theorem goodC_zero (l : List Tk) (F : FuncId) (T : List WT) : GoodC l 0 F T := by
 intro n hn W0 A c w p g i d out ve r H hg hr
 obtain rfl : n = 0 := by omega
 exact absurd hr (by simp [srun])
theorem allG_zero (l : List Tk) : AllG l 0 :=
 ⟨good_zero l _ _, good_zero l _ _, good_zero l _ _, good_zero l _ _, good_zero l _ _, good_zero l _ _, good_zero l _ _, good_zero l _ _, good_zero l _ _, good_zero l _ _, fun n hn W0 A c w p i d out ve r H hr _ => by
  obtain rfl : n = 0 := by omega
  exact absurd hr (by simp [srun])⟩
theorem allG_succ {l : List Tk} {N : Nat} (G : AllG l N) : AllG l (N + 1) := by
 have typed := g_typed l N (name_any l N) G.kind
 have expr1 := g_expr l N (g_expr_1 l N G.rel)
 have body1 := g_body l N (g_body_1 l N G.statement)
 have kind1 := g_kind l N (name_any l N) (g_kind_1 l N G.expr G.kind) (g_kind_2 l N (by
  cases N with
  | zero => exact goodC_zero l _ _
  | succ M => exact fun n hn => g_kind_2_1 l M (fun n hn => typed n (by omega)) n hn))
 have block1 := g_block l N (g_block_1 l N G.declaration G.body)
 have choice := g_choice l N G.expr G.body
 have other1 := g_other l N (g_other_1 l N G.body G.expr) (g_other_2 l N G.expr) (g_other_3 l N G.body)
 have statement1 := g_statement l N (g_statement_1 l N) (g_statement_2 l N G.object G.expr) choice (g_statement_3 l N G.expr G.body) (g_statement_4 l N G.expr G.body) other1
 have object1 := g_object l N (g_object_1 l N (g_selected l N (g_selected_1 l N G.expr) (g_selected_2 l N) (g_selected_3 l N G.expr)))
 have factor1 := g_factor l N (g_factor_1 l N G.factor) (g_factor_2 l N G.factor) (g_factor_3 l N G.expr) object1
 have rel1 := g_rel l N (g_rel_1 l N G.sum)
 have sum1 := g_sum l N (g_sum_1 l N G.term)
 have term1 := g_term l N (g_term_1 l N G.factor)
 have proc := g_proc l N (g_proc_1 l N (by
  cases N with
  | zero => exact goodC_zero l _ _
  | succ M => exact fun n hn => g_proc_1_1 l M (fun n hn => typed n (by omega)) n hn)) G.kind G.block
 have declaration1 := g_declaration l N (g_declaration_1 l N typed) (g_declaration_2 l N G.expr) proc
 exact ⟨expr1, body1, kind1, block1, statement1, factor1, object1, rel1, sum1, term1, declaration1⟩
theorem allG (l : List Tk) : ∀ N, AllG l N
 | 0 => allG_zero l
 | N + 1 => allG_succ (allG l N)
end Go.Proofs.Ytmjbpgnjgblnmaa
namespace Go.Proofs.Ytmjbpgnjgblnmaa
open Go.RowKit Go.Proofs.YtmjbpgnjgblnmaaW.PrintWords Go.Proofs.YtmjbpgnjgblnmaaW.PrintLast Go.Proofs.YtmjbpgnjgblnmaaW.PrintMore
def nodeR (k : Nat) : SRes → SRes
 | .ok i d out => .ok i (d - 1) (out ++ [evOf (3, k)])
 | .err e i => .err e i
def endR (l : List Tk) : SRes → SRes
 | .ok i d out => if i < l.length then .err 120 i else .ok i d out
 | .err e i => .err e i
set_option maxRecDepth 100000 in
set_option maxHeartbeats 8000000 in
theorem node_gen {W0 : World} {A : Option Addr} {c : Nat} {l : List Tk} {w : World} {p : Nat} {i : Nat} {d : Int} {out : List Ev} {ve : Value} (H : SAt W0 A c l w p i d out ve) (k : Nat) (F : FuncId) (x : Value) (hen : ∀ w, (callFunc F #[x]).run Try.prog w = .ok (.enter F #[x]) w) {r : SRes} (hb : ∀ (w1 : World) (ve1 : Value), MStep p ve w ve1 w1 → SAt W0 A c l w1 p i (d + 1) (out ++ [evOf (1, k)]) ve1 → Calls Try.prog F #[x] w1 (SPost W0 A c l p ve1 w1 r)) (hf : fitS ⟨[], i, d + 1, out ++ [evOf (1, k)]⟩) (hf2 : ∀ i2 d2 out2, r = .ok i2 d2 out2 → fitS ⟨[], i2, d2, out2⟩) :
  Calls Try.prog 55 #[.pointer (some ⟨p, 0, none⟩), .int .u8 k, .func (.func F) #[] #[x]] w (SPost W0 A c l p ve w (nodeR k r)) := by
 obtain ⟨f1, f2, f3⟩ := hf
 dsimp only at f1 f2 f3
 rw [List.length_append, List.length_singleton] at f1
 have HLO := Lib.hid f1
 obtain ⟨e1, -, e3, -⟩ := d_wrap (d := d) (by omega) (by omega)
 have HSR := Lib.hid (PStep.refl p (.slice none 0 0) ve w)
 have HBO := Lib.hid hb
 have HEQ := Lib.hid hen
 have HH := Lib.hid H
 obtain ⟨q0, q1, q2, q3⟩ := H.cell
 clear f1 f2 f3 hb hen H
 cases r with
 | err er j =>
  clear hf2
  go_enter Try.func55, Try.ntmps55
  go_wp2_with (first
   | ((with_reducible refine gate_dst (N := 14) rfl ?_); refine wl_ev rfl (.tmp 10) (.tmp 13) rfl p (u := ve) (q := out.length) (kc := (out).flatMap evCells) (cs := [.int .u8 1, .int .u8 k, .int .u8 0, .string ⟨#[]⟩, .int .i64 0, .int .i64 0, .int .i64 0, .int .i64 0]) rfl rfl HH.out.row rfl (evCells_one (evOf (1, k))) (Nat.le_of_lt (blk_lt HH.out.box)) (by have := HLO.out; omega) ?_; intro G1 C1 w1 ho hg hat; obtain ⟨⟨cur, hcur, hfit⟩, hnx⟩ := HH.out.next (e := evOf (1, k)) ho hg hat; have HCU := Lib.hid (And.intro hcur hfit); have HNX := Lib.hid hnx; clear ho hg hat hcur hfit hnx)
   | ((with_reducible refine gate_ (.store 38 (.tmp 16) (.tmp 14)) rfl ?_); refine wl_cells rfl rfl _ _ _ rfl (g := p) (off := 3) (.slice (some ⟨G1, 0, none⟩) (out.length + 1) C1) [.slice (some ⟨G1, 0, none⟩) (out.length + 1) C1] rfl rfl rfl (by kernel_rfl) (fun v hv => by rw [List.mem_singleton.1 hv]; rfl) HCU.out.1 HCU.out.2 ?_; intro V1 hV; obtain ⟨hA, hS⟩ := HNX.out V1 hV; have HP1 := Lib.hid hA; have HS1 := Lib.hid (HSR.out.trans hS); clear q0 q1 q2 q3 hV HNX HCU; obtain ⟨q0, q1, q2, q3⟩ := hA.cell; clear hA hS)
   | ((with_reducible refine gate_ (.store 3 (.tmp 23) (.tmp 21)) rfl ?_); refine wl_cells rfl rfl _ _ _ rfl (g := p) (off := 2) (.int .i64 (d + 1)) [.int .i64 (d + 1)] rfl rfl rfl (by kernel_rfl) (fun v hv => by rw [List.mem_singleton.1 hv]; rfl) HP1.out.box (by simp) ?_; intro V2 hV; obtain ⟨hA, hS⟩ := HP1.out.upd 2 (.int .i64 (d + 1)) (by decide) (i' := i) (d' := d + 1) rfl HP1.out.ile; rw [← hV] at hA hS; have HP2 := Lib.hid hA; have HS2 := Lib.hid (HS1.out.trans hS); clear q0 q1 q2 q3 hV; obtain ⟨q0, q1, q2, q3⟩ := hA.cell; have HEN := HEQ.out V2; have HWI := Lib.hid (HBO.out V2 _ (HS1.out.trans hS) hA); clear hA hS)
   | ((with_reducible refine Calls.mono HWI.out ?_); rintro e w3 ⟨rfl, ve3, h3⟩; have HS3 := Lib.hid (HS2.out.trans h3); clear h3))
  exact ⟨rfl, rfl, ve3, HS3.out⟩
 | ok i2 d2 out2 =>
  obtain ⟨f1, f2, f3⟩ := hf2 i2 d2 out2 rfl
  dsimp only at f1 f2 f3
  have HLO2 := Lib.hid f1
  obtain ⟨-, e5, -, e6⟩ := d_wrap (d := d2) (by omega) (by omega)
  clear hf2 f1 f2 f3
  go_enter Try.func55, Try.ntmps55
  go_wp2_with (first
   | ((with_reducible refine gate_dst (N := 14) rfl ?_); refine wl_ev rfl (.tmp 10) (.tmp 13) rfl p (u := ve) (q := out.length) (kc := (out).flatMap evCells) (cs := [.int .u8 1, .int .u8 k, .int .u8 0, .string ⟨#[]⟩, .int .i64 0, .int .i64 0, .int .i64 0, .int .i64 0]) rfl rfl HH.out.row rfl (evCells_one (evOf (1, k))) (Nat.le_of_lt (blk_lt HH.out.box)) (by have := HLO.out; omega) ?_; intro G1 C1 w1 ho hg hat; obtain ⟨⟨cur, hcur, hfit⟩, hnx⟩ := HH.out.next (e := evOf (1, k)) ho hg hat; have HCU := Lib.hid (And.intro hcur hfit); have HNX := Lib.hid hnx; clear ho hg hat hcur hfit hnx)
   | ((with_reducible refine gate_ (.store 38 (.tmp 16) (.tmp 14)) rfl ?_); refine wl_cells rfl rfl _ _ _ rfl (g := p) (off := 3) (.slice (some ⟨G1, 0, none⟩) (out.length + 1) C1) [.slice (some ⟨G1, 0, none⟩) (out.length + 1) C1] rfl rfl rfl (by kernel_rfl) (fun v hv => by rw [List.mem_singleton.1 hv]; rfl) HCU.out.1 HCU.out.2 ?_; intro V1 hV; obtain ⟨hA, hS⟩ := HNX.out V1 hV; have HP1 := Lib.hid hA; have HS1 := Lib.hid (HSR.out.trans hS); clear q0 q1 q2 q3 hV HNX HCU; obtain ⟨q0, q1, q2, q3⟩ := hA.cell; clear hA hS)
   | ((with_reducible refine gate_ (.store 3 (.tmp 23) (.tmp 21)) rfl ?_); refine wl_cells rfl rfl _ _ _ rfl (g := p) (off := 2) (.int .i64 (d + 1)) [.int .i64 (d + 1)] rfl rfl rfl (by kernel_rfl) (fun v hv => by rw [List.mem_singleton.1 hv]; rfl) HP1.out.box (by simp) ?_; intro V2 hV; obtain ⟨hA, hS⟩ := HP1.out.upd 2 (.int .i64 (d + 1)) (by decide) (i' := i) (d' := d + 1) rfl HP1.out.ile; rw [← hV] at hA hS; have HP2 := Lib.hid hA; have HS2 := Lib.hid (HS1.out.trans hS); clear q0 q1 q2 q3 hV; obtain ⟨q0, q1, q2, q3⟩ := hA.cell; have HEN := HEQ.out V2; have HWI := Lib.hid (HBO.out V2 _ (HS1.out.trans hS) hA); clear hA hS)
   | ((with_reducible refine Calls.mono HWI.out ?_); rintro e w3 ⟨rfl, ve3, h2, h3⟩; have HP3 := Lib.hid h2; have HS3 := Lib.hid (HS2.out.trans h3); clear q0 q1 q2 q3 h3; obtain ⟨q0, q1, q2, q3⟩ := h2.cell; clear h2)
   | ((with_reducible refine gate_ (.store 3 (.tmp 32) (.tmp 30)) rfl ?_); refine wl_cells rfl rfl _ _ _ rfl (g := p) (off := 2) (.int .i64 (d2 - 1)) [.int .i64 (d2 - 1)] rfl rfl rfl (by kernel_rfl) (fun v hv => by rw [List.mem_singleton.1 hv]; rfl) HP3.out.box (by simp) ?_; intro V4 hV; obtain ⟨hA, hS⟩ := HP3.out.upd 2 (.int .i64 (d2 - 1)) (by decide) (i' := i2) (d' := d2 - 1) rfl HP3.out.ile; rw [← hV] at hA hS; have HP4 := Lib.hid hA; have HS4 := Lib.hid (HS3.out.trans hS); clear q0 q1 q2 q3 hV; obtain ⟨q0, q1, q2, q3⟩ := hA.cell; clear hA hS)
   | ((with_reducible refine gate_dst (N := 41) rfl ?_); refine wl_ev rfl (.tmp 37) (.tmp 40) rfl p (u := ve3) (q := out2.length) (kc := (out2).flatMap evCells) (cs := [.int .u8 3, .int .u8 k, .int .u8 0, .string ⟨#[]⟩, .int .i64 0, .int .i64 0, .int .i64 0, .int .i64 0]) rfl rfl HP4.out.row rfl (evCells_one (evOf (3, k))) (Nat.le_of_lt (blk_lt HP4.out.box)) (by have := HLO2.out; omega) ?_; intro G1 C1 w1 ho hg hat; obtain ⟨⟨cur, hcur, hfit⟩, hnx⟩ := HP4.out.next (e := evOf (3, k)) ho hg hat; have HCU := Lib.hid (And.intro hcur hfit); have HNX := Lib.hid hnx; clear ho hg hat hcur hfit hnx)
   | ((with_reducible refine gate_ (.store 38 (.tmp 43) (.tmp 41)) rfl ?_); refine wl_cells rfl rfl _ _ _ rfl (g := p) (off := 3) (.slice (some ⟨G1, 0, none⟩) (out2.length + 1) C1) [.slice (some ⟨G1, 0, none⟩) (out2.length + 1) C1] rfl rfl rfl (by kernel_rfl) (fun v hv => by rw [List.mem_singleton.1 hv]; rfl) HCU.out.1 HCU.out.2 ?_; intro V5 hV; obtain ⟨hA, hS⟩ := HNX.out V5 hV; have HP5 := Lib.hid hA; have HS5 := Lib.hid (HS4.out.trans hS); clear q0 q1 q2 q3 hV HNX HCU; obtain ⟨q0, q1, q2, q3⟩ := hA.cell; clear hA hS))
  go_end0
  exact ⟨rfl, _, HP5.out, HS5.out⟩
set_option maxRecDepth 100000 in
set_option maxHeartbeats 8000000 in
theorem g_program_1 {W0 : World} {A : Option Addr} {c : Nat} {l : List Tk} {w0 : World} {p g : Nat} {d1 : Int} {out out1 : List Ev} {ve : Value} {i1 : Nat} (hi1 : (nAt l 0).length = i1) (ho1 : out ++ (nAt l 0).map noteE = out1) (hout : out.length ≤ 16) (H : SAt W0 A c l w0 p 0 d1 out ve) (hg : w0.heap[g]? = some (.cells #[.pointer (some ⟨p, 0, none⟩)] 83 (0, 0))) {n : Nat} {r : SRes} (hr : srun l n ⟨[.word ⟨#[112, 114, 111, 103, 114, 97, 109]⟩, .word ⟨#[64, 110, 97, 109, 101]⟩, .word ⟨#[59]⟩, .rule .r_block, .word ⟨#[46]⟩], i1, d1, out1⟩ = some r) :
  Calls Try.prog 56 #[.pointer (some ⟨g, 0, none⟩)] w0 (SPost W0 A c l p ve w0 (endR l r)) := by
 have hcom := comments_any H (by omega)
 rw [hi1, ho1, Nat.zero_add] at hcom
 have HCOM := Lib.hid hcom
 show Calls Try.prog 56 _ w0 _
 have HP0 := Lib.hid H
 have HG0 := Lib.hid hg
 have HS0 := Lib.hid (PStep.refl p (.slice none 0 0) ve w0)
 have HT0 := HS0
 have bx := cell_of_row _ _ 0 _ _ _ hg
 have hr1 : srun l n ⟨([.word ⟨#[112, 114, 111, 103, 114, 97, 109]⟩] ++ ([.word ⟨#[64, 110, 97, 109, 101]⟩] ++ ([.word ⟨#[59]⟩] ++ ([.rule .r_block] ++ ([.word ⟨#[46]⟩] ++ []))))), i1, d1, out1⟩ = some r := hr
 clear H hg hr hi1 ho1 hout hcom
 rcases srun_app l n [.word ⟨#[112, 114, 111, 103, 114, 97, 109]⟩] ([.word ⟨#[64, 110, 97, 109, 101]⟩] ++ ([.word ⟨#[59]⟩] ++ ([.rule .r_block] ++ ([.word ⟨#[46]⟩] ++ [])))) i1 d1 out1 r hr1 with ⟨er, jj, rfl, h2⟩ | ⟨i2, d2, out2, h2, hr2⟩
 ·skip
  have HX2 := Lib.hid h2
  have HC1 := Lib.hid (HCOM.out)
  clear h2
  (try clear hr)
  go_enter Try.func56, Try.ntmps56
  go_wp2_with (first
   | (go_at_call 57; (with_reducible refine Calls.mono HC1.out ?_); rintro e w1 ⟨rfl, ve1, h2, h3⟩; have HP1 := Lib.hid h2; have HS1 := Lib.hid (HS0.out.trans h3); have HG1 := Lib.hid (mkeep (HT0.out.trans h3) HP0.out HG0.out (by decide) (by decide)); have HT1 := Lib.hid (HT0.out.trans h3); clear bx; have bx := cell_of_row _ _ 0 _ _ _ HG1.out; have HC2 := Lib.hid (words_new HP1.out [⟨#[112, 114, 111, 103, 114, 97, 109]⟩] 1 [.string ⟨#[112, 114, 111, 103, 114, 97, 109]⟩] rfl rfl (by decide) (by decide) HX2.out); clear h2 h3)
   | (go_at_call 58; (with_reducible refine Calls.mono HC2.out ?_); rintro e w2 ⟨rfl, ve2, h3⟩; have HS2 := Lib.hid (HS1.out.trans h3); clear h3))
  exact ⟨rfl, rfl, ve2, HS2.out⟩
 ·skip
  rcases srun_app l n [.word ⟨#[64, 110, 97, 109, 101]⟩] ([.word ⟨#[59]⟩] ++ ([.rule .r_block] ++ ([.word ⟨#[46]⟩] ++ []))) i2 d2 out2 r hr2 with ⟨er, jj, rfl, h3⟩ | ⟨i3, d3, out3, h3, hr3⟩
  ·skip
   have HX2 := Lib.hid h2; have HX3 := Lib.hid h3
   have HC1 := Lib.hid (HCOM.out)
   clear h2 h3
   (try clear hr)
   go_enter Try.func56, Try.ntmps56
   go_wp2_with (first
    | (go_at_call 57; (with_reducible refine Calls.mono HC1.out ?_); rintro e w1 ⟨rfl, ve1, h2, h3⟩; have HP1 := Lib.hid h2; have HS1 := Lib.hid (HS0.out.trans h3); have HG1 := Lib.hid (mkeep (HT0.out.trans h3) HP0.out HG0.out (by decide) (by decide)); have HT1 := Lib.hid (HT0.out.trans h3); clear bx; have bx := cell_of_row _ _ 0 _ _ _ HG1.out; have HC2 := Lib.hid (words_new HP1.out [⟨#[112, 114, 111, 103, 114, 97, 109]⟩] 1 [.string ⟨#[112, 114, 111, 103, 114, 97, 109]⟩] rfl rfl (by decide) (by decide) HX2.out); clear h2 h3)
    | (go_at_call 58; (with_reducible refine Calls.mono HC2.out ?_); rintro e w2 ⟨rfl, ve2, h2, h3⟩; have HP2 := Lib.hid h2; have HS2 := Lib.hid (HS1.out.trans h3); have HG2 := Lib.hid (mkeep (HT1.out.trans h3) HP0.out HG0.out (by decide) (by decide)); have HT2 := Lib.hid (HT1.out.trans h3); clear bx; have bx := cell_of_row _ _ 0 _ _ _ HG2.out; have HC3 := Lib.hid (name_any l n n (Nat.le_refl n) W0 A c w2 p i2 d2 out2 ve2 _ HP2.out HX3.out); clear h2 h3)
    | (go_at_call 59; (with_reducible refine Calls.mono HC3.out ?_); rintro e w3 ⟨rfl, ve3, h3⟩; have HS3 := Lib.hid (HS2.out.trans h3); clear h3))
   exact ⟨rfl, rfl, ve3, HS3.out⟩
  ·skip
   rcases srun_app l n [.word ⟨#[59]⟩] ([.rule .r_block] ++ ([.word ⟨#[46]⟩] ++ [])) i3 d3 out3 r hr3 with ⟨er, jj, rfl, h4⟩ | ⟨i4, d4, out4, h4, hr4⟩
   ·skip
    have HX2 := Lib.hid h2; have HX3 := Lib.hid h3; have HX4 := Lib.hid h4
    have HC1 := Lib.hid (HCOM.out)
    clear h2 h3 h4
    (try clear hr)
    go_enter Try.func56, Try.ntmps56
    go_wp2_with (first
     | (go_at_call 57; (with_reducible refine Calls.mono HC1.out ?_); rintro e w1 ⟨rfl, ve1, h2, h3⟩; have HP1 := Lib.hid h2; have HS1 := Lib.hid (HS0.out.trans h3); have HG1 := Lib.hid (mkeep (HT0.out.trans h3) HP0.out HG0.out (by decide) (by decide)); have HT1 := Lib.hid (HT0.out.trans h3); clear bx; have bx := cell_of_row _ _ 0 _ _ _ HG1.out; have HC2 := Lib.hid (words_new HP1.out [⟨#[112, 114, 111, 103, 114, 97, 109]⟩] 1 [.string ⟨#[112, 114, 111, 103, 114, 97, 109]⟩] rfl rfl (by decide) (by decide) HX2.out); clear h2 h3)
     | (go_at_call 58; (with_reducible refine Calls.mono HC2.out ?_); rintro e w2 ⟨rfl, ve2, h2, h3⟩; have HP2 := Lib.hid h2; have HS2 := Lib.hid (HS1.out.trans h3); have HG2 := Lib.hid (mkeep (HT1.out.trans h3) HP0.out HG0.out (by decide) (by decide)); have HT2 := Lib.hid (HT1.out.trans h3); clear bx; have bx := cell_of_row _ _ 0 _ _ _ HG2.out; have HC3 := Lib.hid (name_any l n n (Nat.le_refl n) W0 A c w2 p i2 d2 out2 ve2 _ HP2.out HX3.out); clear h2 h3)
     | (go_at_call 59; (with_reducible refine Calls.mono HC3.out ?_); rintro e w3 ⟨rfl, ve3, h2, h3⟩; have HP3 := Lib.hid h2; have HS3 := Lib.hid (HS2.out.trans h3); have HG3 := Lib.hid (mkeep (HT2.out.trans h3) HP0.out HG0.out (by decide) (by decide)); have HT3 := Lib.hid (HT2.out.trans h3); clear bx; have bx := cell_of_row _ _ 0 _ _ _ HG3.out; have HC4 := Lib.hid (words_new HP3.out [⟨#[59]⟩] 1 [.string ⟨#[59]⟩] rfl rfl (by decide) (by decide) HX4.out); clear h2 h3)
     | (go_at_call 58; (with_reducible refine Calls.mono HC4.out ?_); rintro e w4 ⟨rfl, ve4, h3⟩; have HS4 := Lib.hid (HS3.out.trans h3); clear h3))
    exact ⟨rfl, rfl, ve4, HS4.out⟩
   ·skip
    rcases srun_app l n [.rule .r_block] ([.word ⟨#[46]⟩] ++ []) i4 d4 out4 r hr4 with ⟨er, jj, rfl, h5⟩ | ⟨i5, d5, out5, h5, hr5⟩
    ·skip
     have HX2 := Lib.hid h2; have HX3 := Lib.hid h3; have HX4 := Lib.hid h4; have HX5 := Lib.hid h5
     have HC1 := Lib.hid (HCOM.out)
     clear h2 h3 h4 h5
     (try clear hr)
     go_enter Try.func56, Try.ntmps56
     go_wp2_with (first
      | (go_at_call 57; (with_reducible refine Calls.mono HC1.out ?_); rintro e w1 ⟨rfl, ve1, h2, h3⟩; have HP1 := Lib.hid h2; have HS1 := Lib.hid (HS0.out.trans h3); have HG1 := Lib.hid (mkeep (HT0.out.trans h3) HP0.out HG0.out (by decide) (by decide)); have HT1 := Lib.hid (HT0.out.trans h3); clear bx; have bx := cell_of_row _ _ 0 _ _ _ HG1.out; have HC2 := Lib.hid (words_new HP1.out [⟨#[112, 114, 111, 103, 114, 97, 109]⟩] 1 [.string ⟨#[112, 114, 111, 103, 114, 97, 109]⟩] rfl rfl (by decide) (by decide) HX2.out); clear h2 h3)
      | (go_at_call 58; (with_reducible refine Calls.mono HC2.out ?_); rintro e w2 ⟨rfl, ve2, h2, h3⟩; have HP2 := Lib.hid h2; have HS2 := Lib.hid (HS1.out.trans h3); have HG2 := Lib.hid (mkeep (HT1.out.trans h3) HP0.out HG0.out (by decide) (by decide)); have HT2 := Lib.hid (HT1.out.trans h3); clear bx; have bx := cell_of_row _ _ 0 _ _ _ HG2.out; have HC3 := Lib.hid (name_any l n n (Nat.le_refl n) W0 A c w2 p i2 d2 out2 ve2 _ HP2.out HX3.out); clear h2 h3)
      | (go_at_call 59; (with_reducible refine Calls.mono HC3.out ?_); rintro e w3 ⟨rfl, ve3, h2, h3⟩; have HP3 := Lib.hid h2; have HS3 := Lib.hid (HS2.out.trans h3); have HG3 := Lib.hid (mkeep (HT2.out.trans h3) HP0.out HG0.out (by decide) (by decide)); have HT3 := Lib.hid (HT2.out.trans h3); clear bx; have bx := cell_of_row _ _ 0 _ _ _ HG3.out; have HC4 := Lib.hid (words_new HP3.out [⟨#[59]⟩] 1 [.string ⟨#[59]⟩] rfl rfl (by decide) (by decide) HX4.out); clear h2 h3)
      | (go_at_call 58; (with_reducible refine Calls.mono HC4.out ?_); rintro e w4 ⟨rfl, ve4, h2, h3⟩; have HP4 := Lib.hid h2; have HS4 := Lib.hid (HS3.out.trans h3); have HG4 := Lib.hid (mkeep (HT3.out.trans h3) HP0.out HG0.out (by decide) (by decide)); have HT4 := Lib.hid (HT3.out.trans h3); clear bx; have bx := cell_of_row _ _ 0 _ _ _ HG4.out; have HC5 := Lib.hid ((allG l n).block n (Nat.le_refl n) W0 A c w4 p i4 d4 out4 ve4 _ HP4.out HX5.out); clear h2 h3)
      | (go_at_call 60; (with_reducible refine Calls.mono HC5.out ?_); rintro e w5 ⟨rfl, ve5, h3⟩; have HS5 := Lib.hid (HS4.out.trans h3); clear h3))
     exact ⟨rfl, rfl, ve5, HS5.out⟩
    ·skip
     rcases srun_app l n [.word ⟨#[46]⟩] [] i5 d5 out5 r hr5 with ⟨er, jj, rfl, h6⟩ | ⟨i6, d6, out6, h6, hr6⟩
     ·skip
      have HX2 := Lib.hid h2; have HX3 := Lib.hid h3; have HX4 := Lib.hid h4; have HX5 := Lib.hid h5; have HX6 := Lib.hid h6
      have HC1 := Lib.hid (HCOM.out)
      clear h2 h3 h4 h5 h6
      (try clear hr)
      go_enter Try.func56, Try.ntmps56
      go_wp2_with (first
       | (go_at_call 57; (with_reducible refine Calls.mono HC1.out ?_); rintro e w1 ⟨rfl, ve1, h2, h3⟩; have HP1 := Lib.hid h2; have HS1 := Lib.hid (HS0.out.trans h3); have HG1 := Lib.hid (mkeep (HT0.out.trans h3) HP0.out HG0.out (by decide) (by decide)); have HT1 := Lib.hid (HT0.out.trans h3); clear bx; have bx := cell_of_row _ _ 0 _ _ _ HG1.out; have HC2 := Lib.hid (words_new HP1.out [⟨#[112, 114, 111, 103, 114, 97, 109]⟩] 1 [.string ⟨#[112, 114, 111, 103, 114, 97, 109]⟩] rfl rfl (by decide) (by decide) HX2.out); clear h2 h3)
       | (go_at_call 58; (with_reducible refine Calls.mono HC2.out ?_); rintro e w2 ⟨rfl, ve2, h2, h3⟩; have HP2 := Lib.hid h2; have HS2 := Lib.hid (HS1.out.trans h3); have HG2 := Lib.hid (mkeep (HT1.out.trans h3) HP0.out HG0.out (by decide) (by decide)); have HT2 := Lib.hid (HT1.out.trans h3); clear bx; have bx := cell_of_row _ _ 0 _ _ _ HG2.out; have HC3 := Lib.hid (name_any l n n (Nat.le_refl n) W0 A c w2 p i2 d2 out2 ve2 _ HP2.out HX3.out); clear h2 h3)
       | (go_at_call 59; (with_reducible refine Calls.mono HC3.out ?_); rintro e w3 ⟨rfl, ve3, h2, h3⟩; have HP3 := Lib.hid h2; have HS3 := Lib.hid (HS2.out.trans h3); have HG3 := Lib.hid (mkeep (HT2.out.trans h3) HP0.out HG0.out (by decide) (by decide)); have HT3 := Lib.hid (HT2.out.trans h3); clear bx; have bx := cell_of_row _ _ 0 _ _ _ HG3.out; have HC4 := Lib.hid (words_new HP3.out [⟨#[59]⟩] 1 [.string ⟨#[59]⟩] rfl rfl (by decide) (by decide) HX4.out); clear h2 h3)
       | (go_at_call 58; (with_reducible refine Calls.mono HC4.out ?_); rintro e w4 ⟨rfl, ve4, h2, h3⟩; have HP4 := Lib.hid h2; have HS4 := Lib.hid (HS3.out.trans h3); have HG4 := Lib.hid (mkeep (HT3.out.trans h3) HP0.out HG0.out (by decide) (by decide)); have HT4 := Lib.hid (HT3.out.trans h3); clear bx; have bx := cell_of_row _ _ 0 _ _ _ HG4.out; have HC5 := Lib.hid ((allG l n).block n (Nat.le_refl n) W0 A c w4 p i4 d4 out4 ve4 _ HP4.out HX5.out); clear h2 h3)
       | (go_at_call 60; (with_reducible refine Calls.mono HC5.out ?_); rintro e w5 ⟨rfl, ve5, h2, h3⟩; have HP5 := Lib.hid h2; have HS5 := Lib.hid (HS4.out.trans h3); have HG5 := Lib.hid (mkeep (HT4.out.trans h3) HP0.out HG0.out (by decide) (by decide)); have HT5 := Lib.hid (HT4.out.trans h3); clear bx; have bx := cell_of_row _ _ 0 _ _ _ HG5.out; have HC6 := Lib.hid (words_new HP5.out [⟨#[46]⟩] 1 [.string ⟨#[46]⟩] rfl rfl (by decide) (by decide) HX6.out); clear h2 h3)
       | (go_at_call 58; (with_reducible refine Calls.mono HC6.out ?_); rintro e w6 ⟨rfl, ve6, h3⟩; have HS6 := Lib.hid (HS5.out.trans h3); clear h3))
      exact ⟨rfl, rfl, ve6, HS6.out⟩
     ·skip
      have HRJ := Lib.hid hr6
      clear hr6
      obtain ⟨_, rfl⟩ := srun_fin HRJ.out (q := .ok i6 d6 out6) rfl
      clear HRJ
      have HX2 := Lib.hid h2; have HX3 := Lib.hid h3; have HX4 := Lib.hid h4; have HX5 := Lib.hid h5; have HX6 := Lib.hid h6
      have HC1 := Lib.hid (HCOM.out)
      clear h2 h3 h4 h5 h6
      (try clear hr)
      go_enter Try.func56, Try.ntmps56
      go_wp2_with (first
       | (go_at_call 57; (with_reducible refine Calls.mono HC1.out ?_); rintro e w1 ⟨rfl, ve1, h2, h3⟩; have HP1 := Lib.hid h2; have HS1 := Lib.hid (HS0.out.trans h3); have HG1 := Lib.hid (mkeep (HT0.out.trans h3) HP0.out HG0.out (by decide) (by decide)); have HT1 := Lib.hid (HT0.out.trans h3); clear bx; have bx := cell_of_row _ _ 0 _ _ _ HG1.out; have HC2 := Lib.hid (words_new HP1.out [⟨#[112, 114, 111, 103, 114, 97, 109]⟩] 1 [.string ⟨#[112, 114, 111, 103, 114, 97, 109]⟩] rfl rfl (by decide) (by decide) HX2.out); clear h2 h3)
       | (go_at_call 58; (with_reducible refine Calls.mono HC2.out ?_); rintro e w2 ⟨rfl, ve2, h2, h3⟩; have HP2 := Lib.hid h2; have HS2 := Lib.hid (HS1.out.trans h3); have HG2 := Lib.hid (mkeep (HT1.out.trans h3) HP0.out HG0.out (by decide) (by decide)); have HT2 := Lib.hid (HT1.out.trans h3); clear bx; have bx := cell_of_row _ _ 0 _ _ _ HG2.out; have HC3 := Lib.hid (name_any l n n (Nat.le_refl n) W0 A c w2 p i2 d2 out2 ve2 _ HP2.out HX3.out); clear h2 h3)
       | (go_at_call 59; (with_reducible refine Calls.mono HC3.out ?_); rintro e w3 ⟨rfl, ve3, h2, h3⟩; have HP3 := Lib.hid h2; have HS3 := Lib.hid (HS2.out.trans h3); have HG3 := Lib.hid (mkeep (HT2.out.trans h3) HP0.out HG0.out (by decide) (by decide)); have HT3 := Lib.hid (HT2.out.trans h3); clear bx; have bx := cell_of_row _ _ 0 _ _ _ HG3.out; have HC4 := Lib.hid (words_new HP3.out [⟨#[59]⟩] 1 [.string ⟨#[59]⟩] rfl rfl (by decide) (by decide) HX4.out); clear h2 h3)
       | (go_at_call 58; (with_reducible refine Calls.mono HC4.out ?_); rintro e w4 ⟨rfl, ve4, h2, h3⟩; have HP4 := Lib.hid h2; have HS4 := Lib.hid (HS3.out.trans h3); have HG4 := Lib.hid (mkeep (HT3.out.trans h3) HP0.out HG0.out (by decide) (by decide)); have HT4 := Lib.hid (HT3.out.trans h3); clear bx; have bx := cell_of_row _ _ 0 _ _ _ HG4.out; have HC5 := Lib.hid ((allG l n).block n (Nat.le_refl n) W0 A c w4 p i4 d4 out4 ve4 _ HP4.out HX5.out); clear h2 h3)
       | (go_at_call 60; (with_reducible refine Calls.mono HC5.out ?_); rintro e w5 ⟨rfl, ve5, h2, h3⟩; have HP5 := Lib.hid h2; have HS5 := Lib.hid (HS4.out.trans h3); have HG5 := Lib.hid (mkeep (HT4.out.trans h3) HP0.out HG0.out (by decide) (by decide)); have HT5 := Lib.hid (HT4.out.trans h3); clear bx; have bx := cell_of_row _ _ 0 _ _ _ HG5.out; have HC6 := Lib.hid (words_new HP5.out [⟨#[46]⟩] 1 [.string ⟨#[46]⟩] rfl rfl (by decide) (by decide) HX6.out); clear h2 h3)
       | (go_at_call 58; (with_reducible refine Calls.mono HC6.out ?_); rintro e w6 ⟨rfl, ve6, h2, h3⟩; have HP6 := Lib.hid h2; have HS6 := Lib.hid (HS5.out.trans h3); have HG6 := Lib.hid (mkeep (HT5.out.trans h3) HP0.out HG0.out (by decide) (by decide)); have HT6 := Lib.hid (HT5.out.trans h3); clear bx; have bx := cell_of_row _ _ 0 _ _ _ HG6.out; clear h2 h3))
      obtain ⟨q0, q1, q2, q3⟩ := HP6.out.cell
      by_cases hlt : i6 < l.length
      ·have h1 : (((i6 : Nat) : Int) < ((l.length : Nat) : Int)) := by omega
       have HFA := Lib.hid (fun (w1 : World) (hb : Below w6.heap.size w6 w1) => (show Calls Try.prog 61 #[.pointer (some ⟨p, 0, none⟩)] w1 (fun e w' => e = giveUp 120 i6 ∧ Below w1.heap.size w1 w') from (by have h := fail_any (HP6.out.moved hb); rw [if_neg (show ¬ i6 = l.length by omega)] at h; exact h)))
       have HEL := Lib.hid (show endR l (.ok i6 d6 out6) = .err 120 i6 by simp only [endR]; rw [if_pos hlt])
       clear hlt
       go_region
       go_wp2_with (first | (go_at_call 61; (with_reducible refine Calls.mono (HFA.out _ (Below.refl _ _).drew) ?_); rintro e wf ⟨rfl, hbf⟩; have HBF := Lib.hid ((Below.refl w6.heap.size w6).drew.trans (hbf.mono (Below.refl w6.heap.size w6).drew.size)); clear hbf))
       rw [HEL.out]
       exact ⟨rfl, rfl, ve6, HS6.out.trans (PStep.below HBF.out)⟩
      ·have h1 : ¬ (((i6 : Nat) : Int) < ((l.length : Nat) : Int)) := by omega
       have HEL := Lib.hid (show endR l (.ok i6 d6 out6) = .ok i6 d6 out6 by simp only [endR]; rw [if_neg hlt])
       clear hlt
       go_region
       go_wp2
       go_end0
       rw [HEL.out]
       exact ⟨rfl, ve6, HP6.out.moved (by first | exact Below.refl _ _ | exact (Below.refl _ _).drew), HS6.out.trans (PStep.below (by first | exact Below.refl _ _ | exact (Below.refl _ _).drew))⟩
set_option maxRecDepth 100000 in
set_option maxHeartbeats 8000000 in
theorem g_program {W0 : World} {A : Option Addr} {c : Nat} {l : List Tk} {w : World} {p : Nat} {ve : Value} (H : SAt W0 A c l w p 0 0 [] ve) {n : Nat} {r : SRes} (hr : srun l n ⟨[.word ⟨#[112, 114, 111, 103, 114, 97, 109]⟩, .word ⟨#[64, 110, 97, 109, 101]⟩, .word ⟨#[59]⟩, .rule .r_block, .word ⟨#[46]⟩], (nAt l 0).length, 1, evOf (1, 1) :: (nAt l 0).map noteE⟩ = some r) (hf : ∀ i2 d2 out2, r = .ok i2 d2 out2 → fitS ⟨[], i2, d2, out2⟩) :
  Calls Try.prog 41 #[.pointer (some ⟨p, 0, none⟩)] w (SPost W0 A c l p ve w (nodeR 1 (endR l r))) := by
 have hf2 : ∀ i2 d2 out2, endR l r = .ok i2 d2 out2 → fitS ⟨[], i2, d2, out2⟩ := by
  intro i2 d2 out2 he
  cases r with
  | err e i => cases he
  | ok i3 d3 out3 =>
   simp only [endR] at he
   split at he
   ·cases he
   ·exact hf _ _ _ he
 obtain ⟨w0, hw0⟩ : ∃ V, w.alloc (.cells #[.pointer (some ⟨p, 0, none⟩)] 83) = V := ⟨_, rfl⟩
 have hb0 : Below w.heap.size w w0 := by rw [← hw0]; exact (Below.refl _ w).alloc (Nat.le_refl _) _
 have hg : w0.heap[w.heap.size]? = some (.cells #[.pointer (some ⟨p, 0, none⟩)] 83 (0, 0)) := by rw [← hw0]; exact World.alloc_heap_new _ _
 have HWB := Lib.hid hw0
 have HP0 := Lib.hid (H.moved hb0)
 have HS0 := Lib.hid (PStep.below hb0 : MStep p ve w ve w0)
 have HT0 := Lib.hid (PStep.refl p (.slice none 0 0) ve w0)
 obtain ⟨g, hge⟩ : ∃ g, w.heap.size = g := ⟨_, rfl⟩
 rw [hge] at hg
 have HGE := Lib.hid hge
 have HG0 := Lib.hid hg
 have bx := cell_of_row _ _ 0 _ _ _ hg
 clear hw0 hb0 hg hge H
 have HCN := Lib.hid (node_gen HP0.out 1 56 (.pointer (some ⟨g, 0, none⟩)) (fun w => enters_ Try.func56 (by kernel_rfl) rfl #[(.pointer (some ⟨g, 0, none⟩))] w) (r := endR l r) (fun w1 ve1 h1 h2 => g_program_1 rfl rfl (by simp) h2 (mkeep h1 HP0.out HG0.out (by decide) (by decide)) hr) (by simp [fitS]) hf2)
 clear hr hf hf2
 generalize endR l r = r2 at *
 cases r2 with
 | ok i2 d2 out2 =>
  go_enter Try.func41, Try.ntmps41
  go_upto_region 1 with (fail)
  rw [HWB.out, HGE.out]
  go_wp2_with (first | (go_at_call 55; (with_reducible refine Calls.mono HCN.out ?_); rintro e w2 ⟨rfl, ve2, h2, h3⟩; have HP2 := Lib.hid h2; have HS2 := Lib.hid (HS0.out.trans h3); clear h2 h3))
  go_end0
  exact ⟨rfl, ve2, HP2.out, HS2.out⟩
 | err er jj =>
  go_enter Try.func41, Try.ntmps41
  go_upto_region 1 with (fail)
  rw [HWB.out, HGE.out]
  go_wp2_with (first | (go_at_call 55; (with_reducible refine Calls.mono HCN.out ?_); rintro e w2 ⟨rfl, ve2, h3⟩; have HS2 := Lib.hid (HS0.out.trans h3); clear h3))
  exact ⟨rfl, rfl, ve2, HS2.out⟩
end Go.Proofs.Ytmjbpgnjgblnmaa
namespace Go.Proofs.Ytmjbpgnjgblnmaa
theorem all_skip {p : Par} (hb : p.begun = true) (hc : p.closed = false) (hw : p.wrong = 0) : ∀ (ns r : List Tk), (∀ t ∈ ns, isNote t = true) →
  allP p (ns ++ r) = (ns.map noteE ++ (allP p r).1, (allP p r).2.1, ns.length + (allP p r).2.2)
 | [], r, h => by simp
 | t :: ns, r, h => by
  have hp := put_note_begun hb hc hw (h t List.mem_cons_self)
  rw [List.cons_append, all_cons_ok (by rw [hp])]
  rw [hp]
  dsimp only
  rw [all_skip hb hc hw ns r (fun t ht => h t (List.mem_cons_of_mem _ ht))]
  simp only [List.map_cons, List.cons_append, List.nil_append, List.length_cons]
  congr 2
  omega
theorem nAt_all {l : List Tk} {i : Nat} : ∀ t ∈ nAt l i, isNote t = true := by
 intro t ht
 have : ∀ (q : List Tk), t ∈ q.takeWhile isNote → isNote t = true := by
  intro q
  induction q with
  | nil => intro h; cases h
  | cons a q ih =>
   rw [List.takeWhile_cons]
   intro h
   split at h
   ·rename_i ha
    rcases List.mem_cons.1 h with rfl | h
    ·exact ha
    ·exact ih h
   ·cases h
 exact this _ ht
theorem drop_notes (l : List Tk) (i : Nat) : l.drop i = nAt l i ++ l.drop (i + (nAt l i).length) := by
 unfold nAt
 have h := (List.takeWhile_append_dropWhile (p := isNote) (l := l.drop i)).symm
 have h2 : (l.drop i).dropWhile isNote = l.drop (i + ((l.drop i).takeWhile isNote).length) := by
  have h3 : ∀ q : List Tk, q.dropWhile isNote = q.drop (q.takeWhile isNote).length := by
   intro q
   induction q with
   | nil => rfl
   | cons a q ih =>
    rw [List.dropWhile_cons, List.takeWhile_cons]
    split
    ·rw [List.length_cons, List.drop_succ_cons]; exact ih
    ·rfl
  rw [h3, List.drop_drop]
 rw [h2] at h
 exact h
theorem nAt_behind (l : List Tk) (i : Nat) : nAt l (i + (nAt l i).length) = [] := by
 have h : ∀ q : List Tk, (q.drop (q.takeWhile isNote).length).takeWhile isNote = [] := by
  intro q
  induction q with
  | nil => rfl
  | cons a q ih =>
   rw [List.takeWhile_cons]
   split
   ·rw [List.length_cons, List.drop_succ_cons]; exact ih
   ·rename_i ha
    rw [List.length_nil, List.drop_zero, List.takeWhile_cons, if_neg ha]
 have h2 := h (l.drop i)
 rw [List.drop_drop] at h2
 exact h2
theorem nAt_le {l : List Tk} {i : Nat} (hi : i ≤ l.length) : i + (nAt l i).length ≤ l.length := by
 have h := congrArg List.length (drop_notes l i)
 rw [List.length_append, List.length_drop, List.length_drop] at h
 have h2 : (nAt l i).length ≤ (l.drop i).length := (List.takeWhile_sublist _).length_le
 rw [List.length_drop] at h2
 omega
structure Says (l : List Tk) (out : List Ev) (i : Nat) (q : List Ev × Int × Nat) (r : SRes) : Prop where
 good : q.2.1 = 0 → ∃ evs, q.1 = evs ++ [evOf (3, 1)] ∧ r = .ok l.length 1 (out ++ evs)
 bad : q.2.1 ≠ 0 → endR l r = .err q.2.1 (i + q.2.2)
theorem run_all (l : List Tk) (hl : l.length ≤ 4194304) : ∀ (k i : Nat) (T : List WT) (p : Par) (op : List Nat) (out : List Ev), l.length - i = k → i ≤ l.length → nAt l i = [] → p.todo = T ++ [.fin 1] → LastW T → PInv p op → p.begun = true → out.length ≤ 4000 * (i + 1) → p.todo.length ≤ 77 * (i + 1) →
  ∃ n r, srun l n ⟨T, i, p.depth, out⟩ = some r ∧ Says l out i (allP p (l.drop i)) r := by
 intro k
 induction k using Nat.strongRecOn with
 | ind k ih =>
 intro i T p op out hk hi hn hT hLW hP hb hout htl
 have hd := hP.depth
 have hmost := hP.most
 have hfins := hP.fins
 rw [if_pos hb] at hfins
 by_cases hil : i = l.length
 ·subst hil
  rw [List.drop_length]
  rcases hLW with rfl | ⟨U, x, rfl⟩
  ·have hop : op = [1] := by rw [← hfins, hT]; rfl
   subst hop
   refine ⟨1, .ok l.length p.depth out, srun_res (Room.fit (n := 1) ⟨by omega, by rw [hd]; simp, by rw [hd]; simp⟩) rfl, fun _ => ⟨[], ?_, ?_⟩, fun h => ?_⟩
   ·simp only [allP, closeP, hP.closed, hP.wrong, hT]
    rfl
   ·rw [hd]; simp
   ·exfalso
    apply h
    simp only [allP, closeP, hP.closed, hP.wrong, hT]
    rfl
  ·obtain ⟨⟨b, s⟩, -, -, -, h1, -⟩ := turns_some ⟨#[]⟩ (U ++ [WT.word x]).length ⟨U ++ [WT.word x], [], p.depth⟩ rfl
   have hlen : (U ++ [WT.word x]).length + 1 = p.todo.length := by rw [hT]; simp
   have hr := run_end (l := l) _ U x [] p.depth out b s h1 ⟨by simp only [List.length_nil]; omega, by omega, by omega⟩
   rw [List.map_nil, List.append_nil] at hr
   have hq : allP p [] = ([], 121, 0) := by
    simp only [allP, closeP, hP.closed, hP.wrong, hT]
    rw [if_neg (by decide), if_neg (by decide), if_pos (by simp)]
   rw [hq]
   exact ⟨_, _, hr, fun h => absurd h (by decide), fun _ => rfl⟩
 ·have hlt : i < l.length := by omega
  obtain ⟨t, ht⟩ : ∃ t, l[i]? = some t := ⟨_, List.getElem?_eq_getElem hlt⟩
  have hdr : l.drop i = t :: l.drop (i + 1) := by
   rw [List.drop_eq_getElem_cons hlt]
   have := (List.getElem?_eq_some_iff.1 ht).2
   rw [this]
  have hnt : isNote t = false := by
   unfold nAt at hn
   rw [hdr, List.takeWhile_cons] at hn
   by_cases h : isNote t = true
   ·rw [if_pos h] at hn; cases hn
   ·simpa using h
  rw [hdr]
  have hpre : preD p = p.depth := by unfold preD; rw [if_pos hb]
  have hpreE : preE p = [] := by unfold preE; rw [if_pos hb]
  have hput : put p t = if (token t p.todo p.depth).1 ≠ 0 then ([], (token t p.todo p.depth).1, { p with todo := (token t p.todo p.depth).2.todo, wrong := (token t p.todo p.depth).1 }) else ((token t p.todo p.depth).2.evs.map evOf ++ [leafE t], 0, { p with todo := (token t p.todo p.depth).2.todo, depth := (token t p.todo p.depth).2.depth, begun := true }) := by
   unfold put
   simp only [hP.closed, Bool.false_eq_true, if_false, hP.wrong, ne_eq, not_true_eq_false, hnt, hpre, hpreE, List.nil_append]
  rcases hLW with rfl | ⟨U, x, rfl⟩
  ·have htk : (token t p.todo p.depth).1 = 120 := by
    rw [hT]
    rfl
   have hpb : (put p t).2.1 = 120 := by rw [hput, if_pos (by rw [htk]; decide)]; exact htk
   rw [all_cons_bad (by rw [hpb]; decide), hpb]
   refine ⟨1, .ok i p.depth out, srun_res (Room.fit (n := 1) ⟨by omega, by omega, by omega⟩) rfl, fun h => absurd h (by decide), fun _ => ?_⟩
   simp only [endR]
   rw [if_pos hlt]
   rfl
  ·have hT2 : p.todo = U ++ [.word x, .fin 1] := by rw [hT, List.append_assoc]; rfl
   obtain ⟨⟨b, s⟩, -, -, -, h1, -⟩ := turns_some (codeOf t) p.todo.length ⟨p.todo, [], p.depth⟩ rfl
   have hrm : Room (p.todo.length + 7) (out.length + ([] : List (Nat × Nat)).length) p.depth := ⟨by simp only [List.length_nil]; omega, by omega, by omega⟩
   have hrw := run_word ht (p.todo.length + 7) U x [] p.depth out b s (by rw [← hT2]; exact h1) hrm
   rw [List.map_nil, List.append_nil, List.length_nil, Nat.zero_add] at hrw
   have htok : token t p.todo p.depth = match (b, s) with
    | (false, s) => (120, s)
    | (true, s) => if s.todo = [] then (120, s) else if 1000 < s.depth then (122, s) else (0, s) := by
    unfold token
    rw [h1]
    cases b <;> rfl
   rcases hrw with ⟨rfl, hr⟩ | ⟨rfl, T', g1, g2, g3, g4, g5, g6⟩
   ·have hpb : (put p t).2.1 = 120 := by rw [hput, if_pos (by rw [htok]; exact (by decide : (120 : Int) ≠ 0))]; rw [htok]
    rw [all_cons_bad (by rw [hpb]; decide), hpb]
    exact ⟨_, _, hr, fun h => absurd h (by decide), fun _ => rfl⟩
   ·have hne : ¬ s.todo = [] := by rw [g1]; simp
    have hfw : ∀ T, fitS ⟨T, i, s.depth, out ++ s.evs.map evOf⟩ := fun T => by
     refine ⟨?_, ?_, ?_⟩
     ·dsimp only; rw [evlen]; omega
     ·dsimp only; omega
     ·dsimp only; omega
    by_cases hdp : 1000 < s.depth
    ·have htk : (token t p.todo p.depth).1 = 122 := by rw [htok]; simp only; rw [if_neg hne, if_pos hdp]
     have hpb : (put p t).2.1 = 122 := by rw [hput, if_pos (by rw [htk]; decide)]; exact htk
     rw [all_cons_bad (by rw [hpb]; decide), hpb]
     refine ⟨_, _, g6 1 (.err 122 i) (srun_res (hfw _) ?_), fun h => absurd h (by decide), fun _ => rfl⟩
     simp only [sstep, ht, if_true]
     rw [if_pos hdp]
    ·have htk : token t p.todo p.depth = (0, s) := by rw [htok]; simp only; rw [if_neg hne, if_neg hdp]
     have hput2 : put p t = (s.evs.map evOf ++ [leafE t], 0, { p with todo := s.todo, depth := s.depth, begun := true }) := by rw [hput, htk]; rfl
     obtain ⟨op', hP', hb', -, -⟩ := put_nest hP t [] (by rw [hput2])
     have hpl := put_len p t
     have hev : s.evs.length ≤ 2000 := by
      obtain ⟨cl, op2, X, a1, a2, -, a4, a5, -⟩ := token_law t p.todo p.depth
      rw [htk] at a1 a2 a5
      have h9 := (a5 rfl).2
      have h8 := congrArg List.length a1
      have h7 := congrArg List.length a4
      rw [hfins] at h7
      simp only [List.length_append, List.length_map] at h8 h7
      dsimp only at a2 h9
      omega
     rw [hput2] at hP' hb' hpl
     dsimp only at hP' hb' hpl
     have hle := nAt_le (l := l) (i := i + 1) (by omega)
     have hdn := drop_notes l (i + 1)
     rw [all_cons_ok (by rw [hput2]), hput2, hdn]
     dsimp only
     rw [all_skip (p := { p with todo := s.todo, depth := s.depth, begun := true }) rfl hP'.closed hP'.wrong _ _ nAt_all]
     obtain ⟨n, r, hr, hS⟩ := ih (l.length - (i + 1 + (nAt l (i + 1)).length)) (by omega) (i + 1 + (nAt l (i + 1)).length) T' { p with todo := s.todo, depth := s.depth, begun := true } op' (out ++ s.evs.map evOf ++ [leafE t] ++ (nAt l (i + 1)).map noteE) rfl hle (nAt_behind l (i + 1)) g1 g2 hP' rfl (by simp only [List.length_append, List.length_map, List.length_singleton]; omega) (by dsimp only; omega)
     dsimp only at hr
     refine ⟨_, r, g6 (n + 1) r ?_, fun h0 => ?_, fun h0 => ?_⟩
     ·rw [srun_step (hfw _) (s' := ⟨T', i + 1 + (nAt l (i + 1)).length, s.depth, out ++ s.evs.map evOf ++ [leafE t] ++ (nAt l (i + 1)).map noteE⟩)]
      ·exact hr
      ·simp only [sstep, ht, if_true]
       rw [if_neg hdp]
     ·obtain ⟨evs, e1, e2⟩ := hS.good h0
      refine ⟨s.evs.map evOf ++ [leafE t] ++ (nAt l (i + 1)).map noteE ++ evs, ?_, ?_⟩
      ·dsimp only
       rw [e1]
       simp only [List.append_assoc]
      ·rw [e2]
       simp only [List.append_assoc]
     ·have := hS.bad h0
      rw [this]
      dsimp only
      congr 1
      omega
end Go.Proofs.Ytmjbpgnjgblnmaa
namespace Go.Proofs.Ytmjbpgnjgblnmaa
abbrev progT : List WT := [.word ⟨#[112, 114, 111, 103, 114, 97, 109]⟩, .word ⟨#[64, 110, 97, 109, 101]⟩, .word ⟨#[59]⟩, .rule .r_block, .word ⟨#[46]⟩]
theorem start_all (l : List Tk) : (allP newPar l).2.1 = (allP notedPar (l.drop (nAt l 0).length)).2.1 ∧ (allP newPar l).2.2 = (nAt l 0).length + (allP notedPar (l.drop (nAt l 0).length)).2.2 ∧
  ((allP newPar l).2.1 = 0 → (allP newPar l).1 = evOf (1, 1) :: ((nAt l 0).map noteE ++ (allP notedPar (l.drop (nAt l 0).length)).1)) := by
 have hd := drop_notes l 0
 rw [List.drop_zero, Nat.zero_add] at hd
 have hall := nAt_all (l := l) (i := 0)
 generalize hns : nAt l 0 = ns at *
 cases ns with
 | nil =>
  rw [List.length_nil, List.drop_zero, List.map_nil, List.nil_append, Nat.zero_add]
  cases l with
  | nil => exact ⟨rfl, rfl, fun h => absurd h (by decide)⟩
  | cons t r =>
   have hn : isNote t = false := by
    unfold nAt at hns
    rw [List.drop_zero, List.takeWhile_cons] at hns
    by_cases h : isNote t = true
    ·rw [if_pos h] at hns; cases hns
    ·simpa using h
   obtain ⟨h1, h2⟩ := put_cmp hn
   by_cases he : (put newPar t).2.1 = 0
   ·obtain ⟨h3, h4⟩ := h2 he
    rw [all_cons_ok he, all_cons_ok (by rw [h1]; exact he), h3, h4]
    exact ⟨rfl, rfl, fun _ => rfl⟩
   ·rw [all_cons_bad he, all_cons_bad (by rw [h1]; exact he), h1]
    exact ⟨rfl, rfl, fun h => absurd h he⟩
 | cons t ns =>
  have hp : put newPar t = ([evOf (1, 1), noteE t], 0, notedPar) := put_note rfl rfl (hall t List.mem_cons_self)
  have hk := all_skip (p := notedPar) rfl rfl rfl ns (l.drop (t :: ns).length) (fun x hx => hall x (List.mem_cons_of_mem _ hx))
  have ha : allP newPar l = allP newPar (t :: (ns ++ l.drop (t :: ns).length)) := by
   conv => lhs; rw [hd]
   rfl
  rw [ha, all_cons_ok (by rw [hp]), hp]
  dsimp only
  rw [hk]
  refine ⟨rfl, ?_, fun _ => rfl⟩
  dsimp only
  rw [List.length_cons]
  omega
def progR (l : List Tk) : SRes := if (allP newPar l).2.1 = 0 then .ok l.length 0 (allP newPar l).1 else .err (allP newPar l).2.1 (allP newPar l).2.2
theorem prog_run (l : List Tk) (hl : l.length ≤ 4194304) : ∃ n r, srun l n ⟨progT, (nAt l 0).length, 1, evOf (1, 1) :: (nAt l 0).map noteE⟩ = some r ∧ nodeR 1 (endR l r) = progR l := by
 have hle := nAt_le (l := l) (i := 0) (Nat.zero_le _)
 have hbh := nAt_behind l 0
 rw [Nat.zero_add] at hle hbh
 obtain ⟨h1, h2, h3⟩ := start_all l
 obtain ⟨n, r, hr, hS⟩ := run_all l hl _ (nAt l 0).length progT notedPar [1] (evOf (1, 1) :: (nAt l 0).map noteE) rfl hle hbh rfl (.inr ⟨progT.dropLast, ⟨#[46]⟩, rfl⟩) noted_inv rfl (by simp only [List.length_cons, List.length_map]; omega) (by simp only [notedPar, newPar, List.length_cons, List.length_nil]; omega)
 refine ⟨n, r, hr, ?_⟩
 unfold progR
 by_cases he : (allP newPar l).2.1 = 0
 ·obtain ⟨evs, e1, e2⟩ := hS.good (by rw [← h1]; exact he)
  rw [if_pos he, e2, h3 he, e1]
  simp only [endR, Nat.lt_irrefl, if_false, nodeR, List.cons_append, List.append_assoc]
  rfl
 ·have := hS.bad (by rw [← h1]; exact he)
  rw [if_neg he, this, h1, h2]
  rfl
theorem prog_len {l : List Tk} {n : Nat} {s : SSt} {r : SRes} (h : srun l n s = some r) : ∀ i2 d2 out2, r = .ok i2 d2 out2 → fitS ⟨[], i2, d2, out2⟩ := fun i2 d2 out2 he => srun_ok_fit n s i2 d2 out2 (by rw [← he]; exact h)
theorem prog_evs {l : List Tk} (hl : l.length ≤ 4194304) (he : (allP newPar l).2.1 = 0) : (allP newPar l).1.length ≤ 274877906945 := by
 obtain ⟨n, r, hr, hq⟩ := prog_run l hl
 unfold progR at hq
 rw [if_pos he] at hq
 cases r with
 | err e j => simp only [endR, nodeR] at hq; cases hq
 | ok i d out =>
  have hf := prog_len hr i d out rfl
  simp only [endR] at hq
  split at hq
  ·simp only [nodeR] at hq; cases hq
  ·simp only [nodeR, SRes.ok.injEq] at hq
   rw [← hq.2.2, List.length_append, List.length_singleton]
   have := hf.1
   dsimp only at this
   omega
end Go.Proofs.Ytmjbpgnjgblnmaa
namespace Go.Proofs.Ytmjbpgnjgblnmaa
def progE (l : List Tk) : Int := (allP newPar l).2.1
def progA (l : List Tk) : Nat := if (allP newPar l).2.1 = 0 then 0 else (allP newPar l).2.2
end Go.Proofs.Ytmjbpgnjgblnmaa
