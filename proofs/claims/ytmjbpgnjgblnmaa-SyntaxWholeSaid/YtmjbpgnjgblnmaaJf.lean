/- What the claim stands on: part Jf. -/
import Derived.Test.YtmjbpgnjgblnmaaJe
set_option linter.unusedVariables false
set_option linter.unusedSimpArgs false
namespace Go.Proofs.Ytmjbpgnjgblnmaa
open Go.RowKit Go.Proofs.YtmjbpgnjgblnmaaW.PrintWords Go.Proofs.YtmjbpgnjgblnmaaW.PrintLast Go.Proofs.YtmjbpgnjgblnmaaW.PrintMore
theorem name_of (l : List Tk) (i : Nat) : (∃ t, l[i]? = some t ∧ codeOf t = ⟨#[64, 110, 97, 109, 101]⟩) ↔ ofL l i [1] = true := by
 unfold ofL
 cases h : l[i]? with
 | none => simp
 | some t =>
  have := code_name t
  simp only [Option.some.injEq, exists_eq_left', List.any_cons, List.any_nil, Bool.or_false]
  exact this.symm
theorem word_in {l : List Tk} {i : Nat} {s : ByteArray} (hs : goodW s = true) : (∃ t, l[i]? = some t ∧ codeOf t = s) ↔ inL (cAt l i) [s] = true := by
 unfold cAt
 cases h : l[i]? with
 | none =>
  simp only [reduceCtorEq, false_and, exists_false, false_iff, Bool.not_eq_true]
  exact inL_end (fun x hx => by rw [List.mem_singleton.1 hx]; exact hs)
 | some t =>
  simp only [Option.some.injEq, exists_eq_left']
  rw [inL_iff, List.mem_singleton]
set_option maxRecDepth 100000 in
set_option maxHeartbeats 4000000 in
theorem name_any (l : List Tk) (N : Nat) : Good l N 59 [.word ⟨#[64, 110, 97, 109, 101]⟩] := by
 intro n hn W0 A c w p i d out ve r H hr
 have HOF := Lib.hid (of_new H [1] 1 [.int .u8 1] rfl rfl (by decide))
 have HTK := Lib.hid (fun (w1 : World) (hb : Below w.heap.size w w1) => take_word (H.moved hb) ⟨#[64, 110, 97, 109, 101]⟩ [] (name_of l i) hr)
 clear H hr
 show Calls Try.prog 59 _ w _
 obtain ⟨m, hm⟩ : ∃ m, ofL l i [1] = m := ⟨_, rfl⟩
 rw [hm] at HOF HTK
 clear hm
 cases r with
 | ok i2 d2 out2 =>
  go_enter Try.func59, Try.ntmps59
  go_wp2_with (first
   | (go_at_call 72; (with_reducible refine Calls.mono HOF.out ?_); rintro e w1 ⟨rfl, hb⟩; have HB1 := Lib.hid hb; clear hb)
   | (go_at_call 70; (with_reducible refine Calls.mono (HTK.out _ HB1.out) ?_); rintro e w2 ⟨rfl, ve2, h2, h3⟩; have HP2 := Lib.hid h2; have HS2 := Lib.hid ((PStep.below HB1.out : MStep p ve w ve w1).trans h3); clear h2 h3))
  go_end0
  exact ⟨rfl, ve2, HP2.out, HS2.out⟩
 | err er i2 =>
  go_enter Try.func59, Try.ntmps59
  go_wp2_with (first
   | (go_at_call 72; (with_reducible refine Calls.mono HOF.out ?_); rintro e w1 ⟨rfl, hb⟩; have HB1 := Lib.hid hb; clear hb)
   | (go_at_call 70; (with_reducible refine Calls.mono (HTK.out _ HB1.out) ?_); rintro e w2 ⟨rfl, ve2, h3⟩; have HS2 := Lib.hid ((PStep.below HB1.out : MStep p ve w ve w1).trans h3); clear h3))
  exact ⟨rfl, rfl, ve2, HS2.out⟩
def StrAt (w : World) (g : Nat) (ws : List ByteArray) : Prop := w.heap[g]? = some (.cells (ws.map Value.string).toArray 9 (0, 0))
theorem StrAt.C {w : World} {g : Nat} {ws : List ByteArray} (h : StrAt w g ws) (hl : ws.length ≤ 16) : Kd.C Kd.string w (some ⟨g, 0, none⟩) ws.length ws := by
 have hrow : w.ownsRow 0 9 1 (.slice (some ⟨g, 0, none⟩) ws.length ws.length) ws.length (ws.map Value.string) :=
  ⟨by simp, .inr ⟨g, ws.length, (ws.map Value.string).toArray, rfl, Nat.zero_le _, h, Nat.le_refl _, by simp only [maxLen]; omega, by simp, by simp [List.take_of_length_le]⟩⟩
 obtain ⟨A, c1, hv, hr⟩ := own_reads_row (size := 1) hrow (reps_str _ ws) rfl
 injection hv with h1 h2 h3
 subst h1
 exact hr
theorem StrAt.cell {w : World} {g : Nat} {ws : List ByteArray} (h : StrAt w g ws) {j : Nat} {s : ByteArray} (hj : ws[j]? = some s) : w.cell? ⟨g, j, none⟩ = some (.string s) := by
 rw [cell_of_row _ _ _ _ _ _ h]
 simp [hj]
theorem StrAt.later {W0 : World} {A : Option Addr} {c : Nat} {l : List Tk} {w w1 : World} {p : Nat} {i : Nat} {d : Int} {out : List Ev} {ve ve1 : Value} {g : Nat} {ws : List ByteArray} (h : StrAt w g ws) (H : SAt W0 A c l w p i d out ve) (hs : MStep p ve w ve1 w1) : StrAt w1 g ws := mkeep hs H h (by decide) (by decide)
set_option maxRecDepth 100000 in
set_option maxHeartbeats 8000000 in
theorem words_any {W0 : World} {A : Option Addr} {c : Nat} {l : List Tk} {w : World} {p : Nat} {i : Nat} {d : Int} {out : List Ev} {ve : Value} (H : SAt W0 A c l w p i d out ve) (g c1 : Nat) (ws : List ByteArray) (hC : StrAt w g ws) (hws : ∀ s ∈ ws, goodW s = true) (hl : ws.length ≤ 16) {n : Nat} {r : SRes} (hr : srun l n ⟨ws.map .word, i, d, out⟩ = some r) :
  Calls Try.prog 58 #[.pointer (some ⟨p, 0, none⟩), .slice (some ⟨g, 0, none⟩) ws.length c1] w (SPost W0 A c l p ve w r) := by
 have HC := Lib.hid hC
 have HWS := Lib.hid hws
 have HL := Lib.hid hl
 have HH := Lib.hid H
 have HI0 : Hid (srun l n ⟨(ws.drop 0).map .word, i, d, out⟩ = some r) := Lib.hid hr
 clear H hC hws hl hr
 go_enter Try.func58, Try.ntmps58
 go_wp2
 go_loopw [8] (fun v8 wr => ∃ j : Nat, j ≤ ws.length ∧ v8 = .int .i64 j ∧ Hid (∃ i' d' out' ve', SAt W0 A c l wr p i' d' out' ve' ∧ MStep p ve w ve' wr ∧ srun l n ⟨(ws.drop j).map .word, i', d', out'⟩ = some r)) (fun v8 _ => ws.length - (intOf v8).toNat)
 case atStart => exact ⟨0, Nat.zero_le _, rfl, Lib.hid ⟨_, _, _, _, HH.out, PStep.refl _ _ _ _, HI0.out⟩⟩
 case round =>
  obtain ⟨j, hj, rfl, H⟩ := hrel
  obtain ⟨i1, d1, out1, ve1, hA, hS, hrun⟩ := H.out
  clear HI0 H
  by_cases hlt : j < ws.length
  ·obtain ⟨k1, k2, k3, k4⟩ := wrap_one hlt HL.out
   obtain ⟨s, hs⟩ : ∃ s, ws[j]? = some s := ⟨_, List.getElem?_eq_getElem hlt⟩
   have hcell := (HC.out.later HH.out hS).cell hs
   have hgw := HWS.out s (List.mem_of_getElem? hs)
   have hdr : ws.drop j = s :: ws.drop (j + 1) := by
    rw [List.drop_eq_getElem_cons hlt]
    have := (List.getElem?_eq_some_iff.1 hs).2
    rw [this]
   rw [hdr, List.map_cons] at hrun
   have HIS := Lib.hid (is_new hA [s] 1 [.string s] rfl rfl (by decide) (by simp [hgw]))
   obtain ⟨m, hm⟩ : ∃ m, inL (cAt l i1) [s] = m := ⟨_, rfl⟩
   have hwi := word_in (l := l) (i := i1) hgw
   rw [hm] at HIS hwi
   have HA := Lib.hid hA
   have HS := Lib.hid hS
   rcases srun_app l n [.word s] ((ws.drop (j + 1)).map .word) i1 d1 out1 r hrun with ⟨er, k, rfl, h1⟩ | ⟨i2, d2, out2, h1, h2⟩
   ·have HTK := Lib.hid (fun (w1 : World) (hb : Below wr.heap.size wr w1) => take_word (hA.moved hb) s [] hwi h1)
    clear hA hS hrun hs hgw hdr hwi h1 hm
    go_wp2_with (first
     | (go_at_call 71; (with_reducible refine Calls.mono HIS.out ?_); rintro e w1 ⟨rfl, hb⟩; have HB1 := Lib.hid hb; clear hb)
     | (go_at_call 70; (with_reducible refine Calls.mono (HTK.out _ HB1.out) ?_); rintro e w2 ⟨rfl, ve2, h3⟩; have HS2 := Lib.hid ((HS.out.trans (PStep.below HB1.out : MStep p ve1 wr ve1 w1)).trans h3); clear h3))
    exact ⟨rfl, rfl, ve2, HS2.out⟩
   ·have HTK := Lib.hid (fun (w1 : World) (hb : Below wr.heap.size wr w1) => take_word (hA.moved hb) s [] hwi h1)
    have HR2 := Lib.hid h2
    clear hA hS hrun hs hgw hdr hwi h1 h2 hm
    go_wp2_with (first
     | (go_at_call 71; (with_reducible refine Calls.mono HIS.out ?_); rintro e w1 ⟨rfl, hb⟩; have HB1 := Lib.hid hb; clear hb)
     | (go_at_call 70; (with_reducible refine Calls.mono (HTK.out _ HB1.out) ?_); rintro e w2 ⟨rfl, ve2, h2, h3⟩; have HP2 := Lib.hid h2; have HS2 := Lib.hid ((HS.out.trans (PStep.below HB1.out : MStep p ve1 wr ve1 w1)).trans h3); clear h2 h3))
    go_roundw
    case rel => exact ⟨j + 1, by omega, by go_num, Lib.hid ⟨_, _, _, _, HP2.out, HS2.out, HR2.out⟩⟩
    case measure => simp [intOf] <;> omega
  ·obtain rfl : j = ws.length := by omega
   rw [List.drop_length, List.map_nil] at hrun
   obtain ⟨_, rfl⟩ := srun_fin hrun (q := .ok i1 d1 out1) rfl
   have g9 : ¬ ((ws.length : Int) < (ws.length : Int)) := by omega
   have HA := Lib.hid hA
   have HS := Lib.hid hS
   clear hA hS hrun
   go_wp2
   go_end0
   exact ⟨rfl, ve1, HA.out, HS.out⟩
theorem d_wrap {d : Int} (h1 : -1099511627777 ≤ d) (h2 : d ≤ 1099511627776) : IntKind.i64.wrap (d + 1) = d + 1 ∧ IntKind.i64.wrap (d - 1) = d - 1 ∧ wrap64 (d + 1) = d + 1 ∧ wrap64 (d - 1) = d - 1 := by
 simp only [IntKind.wrap_i64]
 unfold wrap64
 omega
set_option maxRecDepth 100000 in
set_option maxHeartbeats 8000000 in
theorem node_at {W0 : World} {A : Option Addr} {c : Nat} {l : List Tk} {w : World} {p : Nat} {i : Nat} {d : Int} {out : List Ev} {ve : Value} (H : SAt W0 A c l w p i d out ve) (k : Nat) (v : Value) (F : FuncId) (x : Value) (hv : v = .func (.func F) #[x] #[] ∨ v = .func (.func F) #[] #[x]) (hen : ∀ w, (callFunc F #[x]).run Try.prog w = .ok (.enter F #[x]) w) {T : List WT} {n : Nat} (hb : ∀ (w1 : World) (ve1 : Value) (r' : SRes), MStep p ve w ve1 w1 → SAt W0 A c l w1 p i (d + 1) (out ++ [evOf (1, k)]) ve1 → srun l n ⟨T, i, d + 1, out ++ [evOf (1, k)]⟩ = some r' → Calls Try.prog F #[x] w1 (SPost W0 A c l p ve1 w1 r')) {r : SRes} (hr : srun l n ⟨T ++ [.fin k], i, d + 1, out ++ [evOf (1, k)]⟩ = some r) :
  Calls Try.prog 55 #[.pointer (some ⟨p, 0, none⟩), .int .u8 k, v] w (SPost W0 A c l p ve w r) := by
 obtain ⟨f1, f2, f3⟩ := srun_len hr
 dsimp only at f1 f2 f3
 rw [List.length_append, List.length_singleton] at f1
 have HLO := Lib.hid f1
 obtain ⟨e1, -, e3, -⟩ := d_wrap (d := d) (by omega) (by omega)
 have HSR := Lib.hid (PStep.refl p (.slice none 0 0) ve w)
 have HBO := Lib.hid hb
 have HEQ := Lib.hid hen
 have HH := Lib.hid H
 obtain ⟨q0, q1, q2, q3⟩ := H.cell
 clear f1 f2 f3 hb hen H
 rcases srun_app l n T [.fin k] i (d + 1) (out ++ [evOf (1, k)]) r hr with ⟨er, j, rfl, h1⟩ | ⟨i2, d2, out2, h1, h2⟩
 ·have HR1 := Lib.hid h1
  clear hr h1
  rcases hv with rfl | rfl
  ·go_enter Try.func55, Try.ntmps55
   go_wp2_with (first
    | ((with_reducible refine gate_dst (N := 14) rfl ?_); refine wl_ev rfl (.tmp 10) (.tmp 13) rfl p (u := ve) (q := out.length) (kc := (out).flatMap evCells) (cs := [.int .u8 1, .int .u8 k, .int .u8 0, .string ⟨#[]⟩, .int .i64 0, .int .i64 0, .int .i64 0, .int .i64 0]) rfl rfl HH.out.row rfl (evCells_one (evOf (1, k))) (Nat.le_of_lt (blk_lt HH.out.box)) (by have := HLO.out; omega) ?_; intro G1 C1 w1 ho hg hat; obtain ⟨⟨cur, hcur, hfit⟩, hnx⟩ := HH.out.next (e := evOf (1, k)) ho hg hat; have HCU := Lib.hid (And.intro hcur hfit); have HNX := Lib.hid hnx; clear ho hg hat hcur hfit hnx)
    | ((with_reducible refine gate_ (.store 38 (.tmp 16) (.tmp 14)) rfl ?_); refine wl_cells rfl rfl _ _ _ rfl (g := p) (off := 3) (.slice (some ⟨G1, 0, none⟩) (out.length + 1) C1) [.slice (some ⟨G1, 0, none⟩) (out.length + 1) C1] rfl rfl rfl (by kernel_rfl) (fun v hv => by rw [List.mem_singleton.1 hv]; rfl) HCU.out.1 HCU.out.2 ?_; intro V1 hV; obtain ⟨hA, hS⟩ := HNX.out V1 hV; have HP1 := Lib.hid hA; have HS1 := Lib.hid (HSR.out.trans hS); clear q0 q1 q2 q3 hV HNX HCU; obtain ⟨q0, q1, q2, q3⟩ := hA.cell; clear hA hS)
    | ((with_reducible refine gate_ (.store 3 (.tmp 23) (.tmp 21)) rfl ?_); refine wl_cells rfl rfl _ _ _ rfl (g := p) (off := 2) (.int .i64 (d + 1)) [.int .i64 (d + 1)] rfl rfl rfl (by kernel_rfl) (fun v hv => by rw [List.mem_singleton.1 hv]; rfl) HP1.out.box (by simp) ?_; intro V2 hV; obtain ⟨hA, hS⟩ := HP1.out.upd 2 (.int .i64 (d + 1)) (by decide) (i' := i) (d' := d + 1) rfl HP1.out.ile; rw [← hV] at hA hS; have HP2 := Lib.hid hA; have HS2 := Lib.hid (HS1.out.trans hS); clear q0 q1 q2 q3 hV; obtain ⟨q0, q1, q2, q3⟩ := hA.cell; have HEN := HEQ.out V2; have HWI := Lib.hid (HBO.out V2 _ _ (HS1.out.trans hS) hA HR1.out); clear hA hS)
    | ((with_reducible refine Calls.mono HWI.out ?_); rintro e w3 ⟨rfl, ve3, h3⟩; have HS3 := Lib.hid (HS2.out.trans h3); clear h3))
   exact ⟨rfl, rfl, ve3, HS3.out⟩
  ·go_enter Try.func55, Try.ntmps55
   go_wp2_with (first
    | ((with_reducible refine gate_dst (N := 14) rfl ?_); refine wl_ev rfl (.tmp 10) (.tmp 13) rfl p (u := ve) (q := out.length) (kc := (out).flatMap evCells) (cs := [.int .u8 1, .int .u8 k, .int .u8 0, .string ⟨#[]⟩, .int .i64 0, .int .i64 0, .int .i64 0, .int .i64 0]) rfl rfl HH.out.row rfl (evCells_one (evOf (1, k))) (Nat.le_of_lt (blk_lt HH.out.box)) (by have := HLO.out; omega) ?_; intro G1 C1 w1 ho hg hat; obtain ⟨⟨cur, hcur, hfit⟩, hnx⟩ := HH.out.next (e := evOf (1, k)) ho hg hat; have HCU := Lib.hid (And.intro hcur hfit); have HNX := Lib.hid hnx; clear ho hg hat hcur hfit hnx)
    | ((with_reducible refine gate_ (.store 38 (.tmp 16) (.tmp 14)) rfl ?_); refine wl_cells rfl rfl _ _ _ rfl (g := p) (off := 3) (.slice (some ⟨G1, 0, none⟩) (out.length + 1) C1) [.slice (some ⟨G1, 0, none⟩) (out.length + 1) C1] rfl rfl rfl (by kernel_rfl) (fun v hv => by rw [List.mem_singleton.1 hv]; rfl) HCU.out.1 HCU.out.2 ?_; intro V1 hV; obtain ⟨hA, hS⟩ := HNX.out V1 hV; have HP1 := Lib.hid hA; have HS1 := Lib.hid (HSR.out.trans hS); clear q0 q1 q2 q3 hV HNX HCU; obtain ⟨q0, q1, q2, q3⟩ := hA.cell; clear hA hS)
    | ((with_reducible refine gate_ (.store 3 (.tmp 23) (.tmp 21)) rfl ?_); refine wl_cells rfl rfl _ _ _ rfl (g := p) (off := 2) (.int .i64 (d + 1)) [.int .i64 (d + 1)] rfl rfl rfl (by kernel_rfl) (fun v hv => by rw [List.mem_singleton.1 hv]; rfl) HP1.out.box (by simp) ?_; intro V2 hV; obtain ⟨hA, hS⟩ := HP1.out.upd 2 (.int .i64 (d + 1)) (by decide) (i' := i) (d' := d + 1) rfl HP1.out.ile; rw [← hV] at hA hS; have HP2 := Lib.hid hA; have HS2 := Lib.hid (HS1.out.trans hS); clear q0 q1 q2 q3 hV; obtain ⟨q0, q1, q2, q3⟩ := hA.cell; have HEN := HEQ.out V2; have HWI := Lib.hid (HBO.out V2 _ _ (HS1.out.trans hS) hA HR1.out); clear hA hS)
    | ((with_reducible refine Calls.mono HWI.out ?_); rintro e w3 ⟨rfl, ve3, h3⟩; have HS3 := Lib.hid (HS2.out.trans h3); clear h3))
   exact ⟨rfl, rfl, ve3, HS3.out⟩
 ·have HR1 := Lib.hid h1
  obtain ⟨⟨f1, f2, f3⟩, m, rfl, h3⟩ := srun_on h2 (s' := ⟨[], i2, d2 - 1, out2 ++ [evOf (3, k)]⟩) rfl
  obtain ⟨_, rfl⟩ := srun_fin h3 (q := .ok i2 (d2 - 1) (out2 ++ [evOf (3, k)])) rfl
  dsimp only at f1 f2 f3
  have HLO2 := Lib.hid f1
  obtain ⟨-, e5, -, e6⟩ := d_wrap (d := d2) (by omega) (by omega)
  clear hr h1 h2 h3 f1 f2 f3
  rcases hv with rfl | rfl
  ·go_enter Try.func55, Try.ntmps55
   go_wp2_with (first
    | ((with_reducible refine gate_dst (N := 14) rfl ?_); refine wl_ev rfl (.tmp 10) (.tmp 13) rfl p (u := ve) (q := out.length) (kc := (out).flatMap evCells) (cs := [.int .u8 1, .int .u8 k, .int .u8 0, .string ⟨#[]⟩, .int .i64 0, .int .i64 0, .int .i64 0, .int .i64 0]) rfl rfl HH.out.row rfl (evCells_one (evOf (1, k))) (Nat.le_of_lt (blk_lt HH.out.box)) (by have := HLO.out; omega) ?_; intro G1 C1 w1 ho hg hat; obtain ⟨⟨cur, hcur, hfit⟩, hnx⟩ := HH.out.next (e := evOf (1, k)) ho hg hat; have HCU := Lib.hid (And.intro hcur hfit); have HNX := Lib.hid hnx; clear ho hg hat hcur hfit hnx)
    | ((with_reducible refine gate_ (.store 38 (.tmp 16) (.tmp 14)) rfl ?_); refine wl_cells rfl rfl _ _ _ rfl (g := p) (off := 3) (.slice (some ⟨G1, 0, none⟩) (out.length + 1) C1) [.slice (some ⟨G1, 0, none⟩) (out.length + 1) C1] rfl rfl rfl (by kernel_rfl) (fun v hv => by rw [List.mem_singleton.1 hv]; rfl) HCU.out.1 HCU.out.2 ?_; intro V1 hV; obtain ⟨hA, hS⟩ := HNX.out V1 hV; have HP1 := Lib.hid hA; have HS1 := Lib.hid (HSR.out.trans hS); clear q0 q1 q2 q3 hV HNX HCU; obtain ⟨q0, q1, q2, q3⟩ := hA.cell; clear hA hS)
    | ((with_reducible refine gate_ (.store 3 (.tmp 23) (.tmp 21)) rfl ?_); refine wl_cells rfl rfl _ _ _ rfl (g := p) (off := 2) (.int .i64 (d + 1)) [.int .i64 (d + 1)] rfl rfl rfl (by kernel_rfl) (fun v hv => by rw [List.mem_singleton.1 hv]; rfl) HP1.out.box (by simp) ?_; intro V2 hV; obtain ⟨hA, hS⟩ := HP1.out.upd 2 (.int .i64 (d + 1)) (by decide) (i' := i) (d' := d + 1) rfl HP1.out.ile; rw [← hV] at hA hS; have HP2 := Lib.hid hA; have HS2 := Lib.hid (HS1.out.trans hS); clear q0 q1 q2 q3 hV; obtain ⟨q0, q1, q2, q3⟩ := hA.cell; have HEN := HEQ.out V2; have HWI := Lib.hid (HBO.out V2 _ _ (HS1.out.trans hS) hA HR1.out); clear hA hS)
    | ((with_reducible refine Calls.mono HWI.out ?_); rintro e w3 ⟨rfl, ve3, h2, h3⟩; have HP3 := Lib.hid h2; have HS3 := Lib.hid (HS2.out.trans h3); clear q0 q1 q2 q3 h3; obtain ⟨q0, q1, q2, q3⟩ := h2.cell; clear h2)
    | ((with_reducible refine gate_ (.store 3 (.tmp 32) (.tmp 30)) rfl ?_); refine wl_cells rfl rfl _ _ _ rfl (g := p) (off := 2) (.int .i64 (d2 - 1)) [.int .i64 (d2 - 1)] rfl rfl rfl (by kernel_rfl) (fun v hv => by rw [List.mem_singleton.1 hv]; rfl) HP3.out.box (by simp) ?_; intro V4 hV; obtain ⟨hA, hS⟩ := HP3.out.upd 2 (.int .i64 (d2 - 1)) (by decide) (i' := i2) (d' := d2 - 1) rfl HP3.out.ile; rw [← hV] at hA hS; have HP4 := Lib.hid hA; have HS4 := Lib.hid (HS3.out.trans hS); clear q0 q1 q2 q3 hV; obtain ⟨q0, q1, q2, q3⟩ := hA.cell; clear hA hS)
    | ((with_reducible refine gate_dst (N := 41) rfl ?_); refine wl_ev rfl (.tmp 37) (.tmp 40) rfl p (u := ve3) (q := out2.length) (kc := (out2).flatMap evCells) (cs := [.int .u8 3, .int .u8 k, .int .u8 0, .string ⟨#[]⟩, .int .i64 0, .int .i64 0, .int .i64 0, .int .i64 0]) rfl rfl HP4.out.row rfl (evCells_one (evOf (3, k))) (Nat.le_of_lt (blk_lt HP4.out.box)) (by have := HLO2.out; omega) ?_; intro G1 C1 w1 ho hg hat; obtain ⟨⟨cur, hcur, hfit⟩, hnx⟩ := HP4.out.next (e := evOf (3, k)) ho hg hat; have HCU := Lib.hid (And.intro hcur hfit); have HNX := Lib.hid hnx; clear ho hg hat hcur hfit hnx)
    | ((with_reducible refine gate_ (.store 38 (.tmp 43) (.tmp 41)) rfl ?_); refine wl_cells rfl rfl _ _ _ rfl (g := p) (off := 3) (.slice (some ⟨G1, 0, none⟩) (out2.length + 1) C1) [.slice (some ⟨G1, 0, none⟩) (out2.length + 1) C1] rfl rfl rfl (by kernel_rfl) (fun v hv => by rw [List.mem_singleton.1 hv]; rfl) HCU.out.1 HCU.out.2 ?_; intro V5 hV; obtain ⟨hA, hS⟩ := HNX.out V5 hV; have HP5 := Lib.hid hA; have HS5 := Lib.hid (HS4.out.trans hS); clear q0 q1 q2 q3 hV HNX HCU; obtain ⟨q0, q1, q2, q3⟩ := hA.cell; clear hA hS))
   go_end0
   exact ⟨rfl, _, HP5.out, HS5.out⟩
  ·go_enter Try.func55, Try.ntmps55
   go_wp2_with (first
    | ((with_reducible refine gate_dst (N := 14) rfl ?_); refine wl_ev rfl (.tmp 10) (.tmp 13) rfl p (u := ve) (q := out.length) (kc := (out).flatMap evCells) (cs := [.int .u8 1, .int .u8 k, .int .u8 0, .string ⟨#[]⟩, .int .i64 0, .int .i64 0, .int .i64 0, .int .i64 0]) rfl rfl HH.out.row rfl (evCells_one (evOf (1, k))) (Nat.le_of_lt (blk_lt HH.out.box)) (by have := HLO.out; omega) ?_; intro G1 C1 w1 ho hg hat; obtain ⟨⟨cur, hcur, hfit⟩, hnx⟩ := HH.out.next (e := evOf (1, k)) ho hg hat; have HCU := Lib.hid (And.intro hcur hfit); have HNX := Lib.hid hnx; clear ho hg hat hcur hfit hnx)
    | ((with_reducible refine gate_ (.store 38 (.tmp 16) (.tmp 14)) rfl ?_); refine wl_cells rfl rfl _ _ _ rfl (g := p) (off := 3) (.slice (some ⟨G1, 0, none⟩) (out.length + 1) C1) [.slice (some ⟨G1, 0, none⟩) (out.length + 1) C1] rfl rfl rfl (by kernel_rfl) (fun v hv => by rw [List.mem_singleton.1 hv]; rfl) HCU.out.1 HCU.out.2 ?_; intro V1 hV; obtain ⟨hA, hS⟩ := HNX.out V1 hV; have HP1 := Lib.hid hA; have HS1 := Lib.hid (HSR.out.trans hS); clear q0 q1 q2 q3 hV HNX HCU; obtain ⟨q0, q1, q2, q3⟩ := hA.cell; clear hA hS)
    | ((with_reducible refine gate_ (.store 3 (.tmp 23) (.tmp 21)) rfl ?_); refine wl_cells rfl rfl _ _ _ rfl (g := p) (off := 2) (.int .i64 (d + 1)) [.int .i64 (d + 1)] rfl rfl rfl (by kernel_rfl) (fun v hv => by rw [List.mem_singleton.1 hv]; rfl) HP1.out.box (by simp) ?_; intro V2 hV; obtain ⟨hA, hS⟩ := HP1.out.upd 2 (.int .i64 (d + 1)) (by decide) (i' := i) (d' := d + 1) rfl HP1.out.ile; rw [← hV] at hA hS; have HP2 := Lib.hid hA; have HS2 := Lib.hid (HS1.out.trans hS); clear q0 q1 q2 q3 hV; obtain ⟨q0, q1, q2, q3⟩ := hA.cell; have HEN := HEQ.out V2; have HWI := Lib.hid (HBO.out V2 _ _ (HS1.out.trans hS) hA HR1.out); clear hA hS)
    | ((with_reducible refine Calls.mono HWI.out ?_); rintro e w3 ⟨rfl, ve3, h2, h3⟩; have HP3 := Lib.hid h2; have HS3 := Lib.hid (HS2.out.trans h3); clear q0 q1 q2 q3 h3; obtain ⟨q0, q1, q2, q3⟩ := h2.cell; clear h2)
    | ((with_reducible refine gate_ (.store 3 (.tmp 32) (.tmp 30)) rfl ?_); refine wl_cells rfl rfl _ _ _ rfl (g := p) (off := 2) (.int .i64 (d2 - 1)) [.int .i64 (d2 - 1)] rfl rfl rfl (by kernel_rfl) (fun v hv => by rw [List.mem_singleton.1 hv]; rfl) HP3.out.box (by simp) ?_; intro V4 hV; obtain ⟨hA, hS⟩ := HP3.out.upd 2 (.int .i64 (d2 - 1)) (by decide) (i' := i2) (d' := d2 - 1) rfl HP3.out.ile; rw [← hV] at hA hS; have HP4 := Lib.hid hA; have HS4 := Lib.hid (HS3.out.trans hS); clear q0 q1 q2 q3 hV; obtain ⟨q0, q1, q2, q3⟩ := hA.cell; clear hA hS)
    | ((with_reducible refine gate_dst (N := 41) rfl ?_); refine wl_ev rfl (.tmp 37) (.tmp 40) rfl p (u := ve3) (q := out2.length) (kc := (out2).flatMap evCells) (cs := [.int .u8 3, .int .u8 k, .int .u8 0, .string ⟨#[]⟩, .int .i64 0, .int .i64 0, .int .i64 0, .int .i64 0]) rfl rfl HP4.out.row rfl (evCells_one (evOf (3, k))) (Nat.le_of_lt (blk_lt HP4.out.box)) (by have := HLO2.out; omega) ?_; intro G1 C1 w1 ho hg hat; obtain ⟨⟨cur, hcur, hfit⟩, hnx⟩ := HP4.out.next (e := evOf (3, k)) ho hg hat; have HCU := Lib.hid (And.intro hcur hfit); have HNX := Lib.hid hnx; clear ho hg hat hcur hfit hnx)
    | ((with_reducible refine gate_ (.store 38 (.tmp 43) (.tmp 41)) rfl ?_); refine wl_cells rfl rfl _ _ _ rfl (g := p) (off := 3) (.slice (some ⟨G1, 0, none⟩) (out2.length + 1) C1) [.slice (some ⟨G1, 0, none⟩) (out2.length + 1) C1] rfl rfl rfl (by kernel_rfl) (fun v hv => by rw [List.mem_singleton.1 hv]; rfl) HCU.out.1 HCU.out.2 ?_; intro V5 hV; obtain ⟨hA, hS⟩ := HNX.out V5 hV; have HP5 := Lib.hid hA; have HS5 := Lib.hid (HS4.out.trans hS); clear q0 q1 q2 q3 hV HNX HCU; obtain ⟨q0, q1, q2, q3⟩ := hA.cell; clear hA hS))
   go_end0
   exact ⟨rfl, _, HP5.out, HS5.out⟩
theorem node_any {W0 : World} {A : Option Addr} {c : Nat} {l : List Tk} {w : World} {p : Nat} {i : Nat} {d : Int} {out : List Ev} {ve : Value} (H : SAt W0 A c l w p i d out ve) (k : Nat) (v : Value) (F : FuncId) (x : Value) (hv : v = .func (.func F) #[x] #[] ∨ v = .func (.func F) #[] #[x]) (hen : ∀ w, (callFunc F #[x]).run Try.prog w = .ok (.enter F #[x]) w) {T : List WT} {N n : Nat} (hb : BodyOK W0 A c l p ve w N F #[x] T) (hn : n ≤ N) {r : SRes} (hr : srun l n ⟨T ++ [.fin k], i, d + 1, out ++ [evOf (1, k)]⟩ = some r) :
  Calls Try.prog 55 #[.pointer (some ⟨p, 0, none⟩), .int .u8 k, v] w (SPost W0 A c l p ve w r) :=
 node_at H k v F x hv hen (fun w1 ve1 r' h1 h2 h3 => hb n hn w1 i (d + 1) _ ve1 r' h1 h2 h3) hr
theorem take_in {l : List Tk} {i : Nat} {ws : List ByteArray} (hws : ∀ s ∈ ws, goodW s = true) (h : inL (cAt l i) ws = true) : (∃ t, l[i]? = some t ∧ codeOf t = cAt l i) ↔ true = true := by
 refine ⟨fun _ => rfl, fun _ => ?_⟩
 cases hg : l[i]? with
 | none =>
  rw [show cAt l i = ⟨#[]⟩ by unfold cAt; rw [hg], inL_end hws] at h
  cases h
 | some t => exact ⟨t, rfl, (cAt_some hg).symm⟩
set_option maxRecDepth 100000 in
set_option maxHeartbeats 8000000 in
theorem row_any {W0 : World} {A : Option Addr} {c : Nat} {l : List Tk} {w : World} {p : Nat} {i : Nat} {d : Int} {out : List Ev} {ve : Value} (H : SAt W0 A c l w p i d out ve) (v : Value) (F : FuncId) (x : Value) (hv : v = .func (.func F) #[x] #[] ∨ v = .func (.func F) #[] #[x]) (hen : ∀ w, (callFunc F #[x]).run Try.prog w = .ok (.enter F #[x]) w) (g c1 : Nat) (signs : List ByteArray) (hC : StrAt w g signs) (hws : ∀ s ∈ signs, goodW s = true) (hl : signs.length ≤ 16) {T : List WT} {R : RId} (hR : ∀ cc, R.expand cc = if inL cc signs then some [.push (.word cc :: T ++ [.rule R])] else some []) {N n : Nat} (hb : BodyOK W0 A c l p ve w N F #[x] T) (hn : n ≤ N) {r : SRes} (hr : srun l n ⟨T ++ [.rule R], i, d, out⟩ = some r) :
  Calls Try.prog 96 #[.pointer (some ⟨p, 0, none⟩), v, .slice (some ⟨g, 0, none⟩) signs.length c1] w (SPost W0 A c l p ve w r) := by
 have HSR := Lib.hid (PStep.refl p (.slice none 0 0) ve w)
 have HBO := Lib.hid hb
 have HEQ := Lib.hid hen
 have HNN := Lib.hid hn
 have HH := Lib.hid H
 have HC := Lib.hid hC
 have HWS := Lib.hid hws
 have HL := Lib.hid hl
 have HRX := Lib.hid hR
 have HEN := hen w
 rcases srun_app l n T [.rule R] i d out r hr with ⟨er, j, rfl, h1⟩ | ⟨i1, d1, out1, h1, h2⟩
 ·have HWI := Lib.hid (hb n hn w i d out ve _ (PStep.refl _ _ _ _) H h1)
  clear hr h1 hb hen hn H hC hws hl hR
  rcases hv with rfl | rfl
  ·skip
   go_enter Try.func96, Try.ntmps96
   go_wp2_with (first
    | ((with_reducible refine Calls.mono HWI.out ?_); rintro e w3 ⟨rfl, ve3, h3⟩; have HS3 := Lib.hid (HSR.out.trans h3); clear h3))
   exact ⟨rfl, rfl, ve3, HS3.out⟩
  ·skip
   go_enter Try.func96, Try.ntmps96
   go_wp2_with (first
    | ((with_reducible refine Calls.mono HWI.out ?_); rintro e w3 ⟨rfl, ve3, h3⟩; have HS3 := Lib.hid (HSR.out.trans h3); clear h3))
   exact ⟨rfl, rfl, ve3, HS3.out⟩
 ·have HWI := Lib.hid (hb n hn w i d out ve _ (PStep.refl _ _ _ _) H h1)
  have HR2 := Lib.hid h2
  clear hr h1 h2 hb hen hn H hC hws hl hR
  rcases hv with rfl | rfl
  ·skip
   go_enter Try.func96, Try.ntmps96
   go_wp2_with (first
    | ((with_reducible refine Calls.mono HWI.out ?_); rintro e w3 ⟨rfl, ve3, h2, h3⟩; have HP3 := Lib.hid h2; have HS3 := Lib.hid (HSR.out.trans h3); clear h2 h3))
   have HI0 : Hid (SAt W0 A c l w3 p i1 d1 out1 ve3 ∧ MStep p ve w ve3 w3 ∧ srun l n ⟨[.rule R], i1, d1, out1⟩ = some r) := Lib.hid ⟨HP3.out, HS3.out, HR2.out⟩
   clear HP3 HS3 HR2 HWI HEN
   go_loopg [10] n (fun kq v10 wr => Hid (∃ i' d' out' ve', SAt W0 A c l wr p i' d' out' ve' ∧ MStep p ve w ve' wr ∧ kq ≤ n ∧ srun l kq ⟨[.rule R], i', d', out'⟩ = some r))
   case atStart => exact Lib.hid ⟨_, _, _, _, HI0.out.1, HI0.out.2.1, Nat.le_refl _, HI0.out.2.2⟩
   case round =>
    obtain ⟨i', d', out', ve1, hA, hS, hkn, hrun⟩ := hrel.out
    clear HI0 hrel
    cases gk with
    | zero => exact absurd hrun (by simp [srun])
    | succ m =>
     have HIS := Lib.hid (is_any hA _ c1 signs ((HC.out.later HH.out hS).C HL.out) HWS.out HL.out)
     have HA := Lib.hid hA
     have HS := Lib.hid hS
     have HMN : Hid (m ≤ N) := Lib.hid (by have := HNN.out; omega)
     have HKN : Hid (m ≤ n) := Lib.hid (by omega)
     obtain ⟨cc, hcc⟩ : ∃ cc, cAt l i' = cc := ⟨_, rfl⟩
     by_cases hin : inL cc signs = true
     ·rw [hcc, hin] at HIS
      obtain ⟨_, m', hmm, h4⟩ := srun_on hrun (s' := ⟨[.word cc] ++ (T ++ [.rule R]), i', d', out'⟩) (by simp [sstep, hcc, HRX.out cc, hin, effs, Eff.act])
      obtain rfl : m = m' := by omega
      have htw := take_in (l := l) (i := i') (ws := signs) HWS.out (by rw [hcc]; exact hin)
      rw [hcc] at htw
      rcases srun_app l m [.word cc] (T ++ [.rule R]) i' d' out' r h4 with ⟨er, j, rfl, h5⟩ | ⟨i2, d2, out2, h5, h6⟩
      ·have HTK := Lib.hid (fun (w1 : World) (hb : Below wr.heap.size wr w1) => take_word (hA.moved hb) cc [] htw h5)
       clear hA hS hkn hrun hcc hin h4 h5 htw hmm
       go_wp2_with (first
        | (go_at_call 71; (with_reducible refine Calls.mono HIS.out ?_); rintro e w1 ⟨rfl, hb⟩; have HB1 := Lib.hid hb; clear hb)
        | (go_at_call 70; (with_reducible refine Calls.mono (HTK.out _ HB1.out) ?_); rintro e w2 ⟨rfl, ve2, h3⟩; have HS2 := Lib.hid ((HS.out.trans (PStep.below HB1.out : MStep p ve1 wr ve1 w1)).trans h3); clear h3))
       exact ⟨rfl, rfl, ve2, HS2.out⟩
      ·have HTK := Lib.hid (fun (w1 : World) (hb : Below wr.heap.size wr w1) => take_word (hA.moved hb) cc [] htw h5)
       rcases srun_app l m T [.rule R] i2 d2 out2 r h6 with ⟨er, j, rfl, h7⟩ | ⟨i3, d3, out3, h7, h8⟩
       ·have HRT := Lib.hid h7
        clear hA hS hkn hrun hcc hin h4 h5 h6 h7 htw hmm
        go_wp2_with (first
         | (go_at_call 71; (with_reducible refine Calls.mono HIS.out ?_); rintro e w1 ⟨rfl, hb⟩; have HB1 := Lib.hid hb; clear hb)
         | (go_at_call 70; (with_reducible refine Calls.mono (HTK.out _ HB1.out) ?_); rintro e w2 ⟨rfl, ve2, h2, h3⟩; have HS2 := Lib.hid ((HS.out.trans (PStep.below HB1.out : MStep p ve1 wr ve1 w1)).trans h3); have HP2 := Lib.hid h2; have HEN := HEQ.out w2; have HWI := Lib.hid (HBO.out m HMN.out w2 i2 d2 out2 ve2 _ HS2.out h2 HRT.out); clear h2 h3)
         | ((with_reducible refine Calls.mono HWI.out ?_); rintro e w4 ⟨rfl, ve4, h3⟩; have HS3 := Lib.hid (HS2.out.trans h3); clear h3))
        exact ⟨rfl, rfl, ve4, HS3.out⟩
       ·have HRT := Lib.hid h7
        have HR8 := Lib.hid h8
        clear hA hS hkn hrun hcc hin h4 h5 h6 h7 h8 htw hmm
        go_wp2_with (first
         | (go_at_call 71; (with_reducible refine Calls.mono HIS.out ?_); rintro e w1 ⟨rfl, hb⟩; have HB1 := Lib.hid hb; clear hb)
         | (go_at_call 70; (with_reducible refine Calls.mono (HTK.out _ HB1.out) ?_); rintro e w2 ⟨rfl, ve2, h2, h3⟩; have HS2 := Lib.hid ((HS.out.trans (PStep.below HB1.out : MStep p ve1 wr ve1 w1)).trans h3); have HP2 := Lib.hid h2; have HEN := HEQ.out w2; have HWI := Lib.hid (HBO.out m HMN.out w2 i2 d2 out2 ve2 _ HS2.out h2 HRT.out); clear h2 h3)
         | ((with_reducible refine Calls.mono HWI.out ?_); rintro e w4 ⟨rfl, ve4, h2, h3⟩; have HP3 := Lib.hid h2; have HS3 := Lib.hid (HS2.out.trans h3); clear h2 h3))
        go_roundg m
        case measure => omega
        case rel => exact Lib.hid ⟨_, _, _, _, HP3.out, HS3.out, HKN.out, HR8.out⟩
     ·have hin' : inL cc signs = false := by simpa using hin
      rw [hcc, hin'] at HIS
      obtain ⟨_, m', hmm, h4⟩ := srun_on hrun (s' := ⟨[], i', d', out'⟩) (by simp [sstep, hcc, HRX.out cc, hin', effs])
      obtain ⟨_, rfl⟩ := srun_fin h4 (q := .ok i' d' out') rfl
      clear hA hS hkn hrun hcc hin hin' h4 hmm
      go_wp2_with (first
       | (go_at_call 71; (with_reducible refine Calls.mono HIS.out ?_); rintro e w1 ⟨rfl, hb⟩; have HB1 := Lib.hid hb; clear hb))
      go_end0
      exact ⟨rfl, ve1, HA.out.moved HB1.out, HS.out.trans (PStep.below HB1.out)⟩
  ·skip
   go_enter Try.func96, Try.ntmps96
   go_wp2_with (first
    | ((with_reducible refine Calls.mono HWI.out ?_); rintro e w3 ⟨rfl, ve3, h2, h3⟩; have HP3 := Lib.hid h2; have HS3 := Lib.hid (HSR.out.trans h3); clear h2 h3))
   have HI0 : Hid (SAt W0 A c l w3 p i1 d1 out1 ve3 ∧ MStep p ve w ve3 w3 ∧ srun l n ⟨[.rule R], i1, d1, out1⟩ = some r) := Lib.hid ⟨HP3.out, HS3.out, HR2.out⟩
   clear HP3 HS3 HR2 HWI HEN
   go_loopg [10] n (fun kq v10 wr => Hid (∃ i' d' out' ve', SAt W0 A c l wr p i' d' out' ve' ∧ MStep p ve w ve' wr ∧ kq ≤ n ∧ srun l kq ⟨[.rule R], i', d', out'⟩ = some r))
   case atStart => exact Lib.hid ⟨_, _, _, _, HI0.out.1, HI0.out.2.1, Nat.le_refl _, HI0.out.2.2⟩
   case round =>
    obtain ⟨i', d', out', ve1, hA, hS, hkn, hrun⟩ := hrel.out
    clear HI0 hrel
    cases gk with
    | zero => exact absurd hrun (by simp [srun])
    | succ m =>
     have HIS := Lib.hid (is_any hA _ c1 signs ((HC.out.later HH.out hS).C HL.out) HWS.out HL.out)
     have HA := Lib.hid hA
     have HS := Lib.hid hS
     have HMN : Hid (m ≤ N) := Lib.hid (by have := HNN.out; omega)
     have HKN : Hid (m ≤ n) := Lib.hid (by omega)
     obtain ⟨cc, hcc⟩ : ∃ cc, cAt l i' = cc := ⟨_, rfl⟩
     by_cases hin : inL cc signs = true
     ·rw [hcc, hin] at HIS
      obtain ⟨_, m', hmm, h4⟩ := srun_on hrun (s' := ⟨[.word cc] ++ (T ++ [.rule R]), i', d', out'⟩) (by simp [sstep, hcc, HRX.out cc, hin, effs, Eff.act])
      obtain rfl : m = m' := by omega
      have htw := take_in (l := l) (i := i') (ws := signs) HWS.out (by rw [hcc]; exact hin)
      rw [hcc] at htw
      rcases srun_app l m [.word cc] (T ++ [.rule R]) i' d' out' r h4 with ⟨er, j, rfl, h5⟩ | ⟨i2, d2, out2, h5, h6⟩
      ·have HTK := Lib.hid (fun (w1 : World) (hb : Below wr.heap.size wr w1) => take_word (hA.moved hb) cc [] htw h5)
       clear hA hS hkn hrun hcc hin h4 h5 htw hmm
       go_wp2_with (first
        | (go_at_call 71; (with_reducible refine Calls.mono HIS.out ?_); rintro e w1 ⟨rfl, hb⟩; have HB1 := Lib.hid hb; clear hb)
        | (go_at_call 70; (with_reducible refine Calls.mono (HTK.out _ HB1.out) ?_); rintro e w2 ⟨rfl, ve2, h3⟩; have HS2 := Lib.hid ((HS.out.trans (PStep.below HB1.out : MStep p ve1 wr ve1 w1)).trans h3); clear h3))
       exact ⟨rfl, rfl, ve2, HS2.out⟩
      ·have HTK := Lib.hid (fun (w1 : World) (hb : Below wr.heap.size wr w1) => take_word (hA.moved hb) cc [] htw h5)
       rcases srun_app l m T [.rule R] i2 d2 out2 r h6 with ⟨er, j, rfl, h7⟩ | ⟨i3, d3, out3, h7, h8⟩
       ·have HRT := Lib.hid h7
        clear hA hS hkn hrun hcc hin h4 h5 h6 h7 htw hmm
        go_wp2_with (first
         | (go_at_call 71; (with_reducible refine Calls.mono HIS.out ?_); rintro e w1 ⟨rfl, hb⟩; have HB1 := Lib.hid hb; clear hb)
         | (go_at_call 70; (with_reducible refine Calls.mono (HTK.out _ HB1.out) ?_); rintro e w2 ⟨rfl, ve2, h2, h3⟩; have HS2 := Lib.hid ((HS.out.trans (PStep.below HB1.out : MStep p ve1 wr ve1 w1)).trans h3); have HP2 := Lib.hid h2; have HEN := HEQ.out w2; have HWI := Lib.hid (HBO.out m HMN.out w2 i2 d2 out2 ve2 _ HS2.out h2 HRT.out); clear h2 h3)
         | ((with_reducible refine Calls.mono HWI.out ?_); rintro e w4 ⟨rfl, ve4, h3⟩; have HS3 := Lib.hid (HS2.out.trans h3); clear h3))
        exact ⟨rfl, rfl, ve4, HS3.out⟩
       ·have HRT := Lib.hid h7
        have HR8 := Lib.hid h8
        clear hA hS hkn hrun hcc hin h4 h5 h6 h7 h8 htw hmm
        go_wp2_with (first
         | (go_at_call 71; (with_reducible refine Calls.mono HIS.out ?_); rintro e w1 ⟨rfl, hb⟩; have HB1 := Lib.hid hb; clear hb)
         | (go_at_call 70; (with_reducible refine Calls.mono (HTK.out _ HB1.out) ?_); rintro e w2 ⟨rfl, ve2, h2, h3⟩; have HS2 := Lib.hid ((HS.out.trans (PStep.below HB1.out : MStep p ve1 wr ve1 w1)).trans h3); have HP2 := Lib.hid h2; have HEN := HEQ.out w2; have HWI := Lib.hid (HBO.out m HMN.out w2 i2 d2 out2 ve2 _ HS2.out h2 HRT.out); clear h2 h3)
         | ((with_reducible refine Calls.mono HWI.out ?_); rintro e w4 ⟨rfl, ve4, h2, h3⟩; have HP3 := Lib.hid h2; have HS3 := Lib.hid (HS2.out.trans h3); clear h2 h3))
        go_roundg m
        case measure => omega
        case rel => exact Lib.hid ⟨_, _, _, _, HP3.out, HS3.out, HKN.out, HR8.out⟩
     ·have hin' : inL cc signs = false := by simpa using hin
      rw [hcc, hin'] at HIS
      obtain ⟨_, m', hmm, h4⟩ := srun_on hrun (s' := ⟨[], i', d', out'⟩) (by simp [sstep, hcc, HRX.out cc, hin', effs])
      obtain ⟨_, rfl⟩ := srun_fin h4 (q := .ok i' d' out') rfl
      clear hA hS hkn hrun hcc hin hin' h4 hmm
      go_wp2_with (first
       | (go_at_call 71; (with_reducible refine Calls.mono HIS.out ?_); rintro e w1 ⟨rfl, hb⟩; have HB1 := Lib.hid hb; clear hb))
      go_end0
      exact ⟨rfl, ve1, HA.out.moved HB1.out, HS.out.trans (PStep.below HB1.out)⟩
end Go.Proofs.Ytmjbpgnjgblnmaa
namespace Go.Proofs.Ytmjbpgnjgblnmaa
open Go.RowKit Go.Proofs.YtmjbpgnjgblnmaaW.PrintWords Go.Proofs.YtmjbpgnjgblnmaaW.PrintLast Go.Proofs.YtmjbpgnjgblnmaaW.PrintMore
section
variable {W0 : World} {A : Option Addr} {c : Nat} {l : List Tk} {w W : World} {p : Nat} {i : Nat} {d : Int} {out : List Ev} {ve : Value}
theorem words_new (H : SAt W0 A c l W p i d out ve) (ws : List ByteArray) (n : Nat) (cs : List Value) (hn : ws.length = n) (hcs : ws.map Value.string = cs) (hl : n ≤ 16) (hws : ws.all goodW = true) {m : Nat} {r : SRes} (hr : srun l m ⟨ws.map .word, i, d, out⟩ = some r) :
  Calls Try.prog 58 #[.pointer (some ⟨p, 0, none⟩), .slice (some ⟨W.heap.size, 0, none⟩) n n] (W.alloc (.cells cs.toArray 9)) (SPost W0 A c l p ve W r) := by
 have hb : Below W.heap.size W (W.alloc (.cells cs.toArray 9)) := (Below.refl _ W).alloc (Nat.le_refl _) _
 subst hn; subst hcs
 refine (words_any (H.moved hb) W.heap.size _ ws (World.alloc_heap_new _ _) (List.all_eq_true.1 hws) hl hr).mono ?_
 intro e w' h
 exact h.pre (PStep.below hb)
theorem row_new (H : SAt W0 A c l W p i d out ve) (v : Value) (F : FuncId) (x : Value) (hv : v = .func (.func F) #[x] #[] ∨ v = .func (.func F) #[] #[x]) (hen : ∀ w, (callFunc F #[x]).run Try.prog w = .ok (.enter F #[x]) w) (signs : List ByteArray) (n : Nat) (cs : List Value) (hn : signs.length = n) (hcs : signs.map Value.string = cs) (hl : n ≤ 16) (hws : signs.all goodW = true) {T : List WT} {R : RId} (hR : ∀ cc, R.expand cc = if inL cc signs then some [.push (.word cc :: T ++ [.rule R])] else some []) {N m : Nat} (hb : BodyOK W0 A c l p ve W N F #[x] T) (hm : m ≤ N) {r : SRes} (hr : srun l m ⟨T ++ [.rule R], i, d, out⟩ = some r) :
  Calls Try.prog 96 #[.pointer (some ⟨p, 0, none⟩), v, .slice (some ⟨W.heap.size, 0, none⟩) n n] (W.alloc (.cells cs.toArray 9)) (SPost W0 A c l p ve W r) := by
 have hb0 : Below W.heap.size W (W.alloc (.cells cs.toArray 9)) := (Below.refl _ W).alloc (Nat.le_refl _) _
 subst hn; subst hcs
 refine (row_any (H.moved hb0) v F x hv hen W.heap.size _ signs (World.alloc_heap_new _ _) (List.all_eq_true.1 hws) hl hR (hb.later (PStep.below hb0)) hm hr).mono ?_
 intro e w' h
 exact h.pre (PStep.below hb0)
theorem node_new (H : SAt W0 A c l w p i d out ve) (k : Nat) (ki : Int) (hk : (k : Int) = ki) (v : Value) (F : FuncId) (x : Value) (hv : v = .func (.func F) #[x] #[] ∨ v = .func (.func F) #[] #[x]) (hen : ∀ w, (callFunc F #[x]).run Try.prog w = .ok (.enter F #[x]) w) {T : List WT} {N n : Nat} (hb : BodyOK W0 A c l p ve w N F #[x] T) (hn : n ≤ N) {r : SRes} (hr : srun l n ⟨T ++ [.fin k], i, d + 1, out ++ [evOf (1, k)]⟩ = some r) :
  Calls Try.prog 55 #[.pointer (some ⟨p, 0, none⟩), .int .u8 ki, v] w (SPost W0 A c l p ve w r) := by
 subst hk
 exact node_any H k v F x hv hen hb hn hr
end
theorem row_names (cc : ByteArray) : RId.expand .r_names cc = if inL cc [⟨#[44]⟩] then some [.push (.word cc :: [.word ⟨#[64, 110, 97, 109, 101]⟩] ++ [.rule .r_names])] else some [] := by
 simp only [RId.expand]
 by_cases h : cc = ⟨#[44]⟩
 ·rw [if_pos h, if_pos ((inL_iff _ _).2 (by simpa using h))]
  rfl
 ·rw [if_neg h, if_neg (by rw [inL_no (fun hm => h (by simpa using hm))]; decide)]
theorem row_moreParams (cc : ByteArray) : RId.expand .r_moreParams cc = if inL cc [⟨#[59]⟩] then some [.push (.word cc :: [.rule .r_param] ++ [.rule .r_moreParams])] else some [] := by
 simp only [RId.expand]
 by_cases h : cc = ⟨#[59]⟩
 ·rw [if_pos h, if_pos ((inL_iff _ _).2 (by simpa using h))]
  rfl
 ·rw [if_neg h, if_neg (by rw [inL_no (fun hm => h (by simpa using hm))]; decide)]
theorem row_members (cc : ByteArray) : RId.expand .r_members cc = if inL cc [⟨#[59]⟩] then some [.push (.word cc :: [.rule .r_member] ++ [.rule .r_members])] else some [] := by
 simp only [RId.expand]
 by_cases h : cc = ⟨#[59]⟩
 ·rw [if_pos h, if_pos ((inL_iff _ _).2 (by simpa using h))]
  rfl
 ·rw [if_neg h, if_neg (by rw [inL_no (fun hm => h (by simpa using hm))]; decide)]
theorem row_statements (cc : ByteArray) : RId.expand .r_statements cc = if inL cc [⟨#[59]⟩] then some [.push (.word cc :: [.rule .r_statement] ++ [.rule .r_statements])] else some [] := by
 simp only [RId.expand]
 by_cases h : cc = ⟨#[59]⟩
 ·rw [if_pos h, if_pos ((inL_iff _ _).2 (by simpa using h))]
  rfl
 ·rw [if_neg h, if_neg (by rw [inL_no (fun hm => h (by simpa using hm))]; decide)]
theorem row_rels (cc : ByteArray) : RId.expand .r_rels cc = if inL cc [⟨#[97, 110, 100]⟩, ⟨#[111, 114]⟩] then some [.push (.word cc :: [.rule .r_rel] ++ [.rule .r_rels])] else some [] := by
 simp only [RId.expand]
 by_cases h : cc = ⟨#[97, 110, 100]⟩ ∨ cc = ⟨#[111, 114]⟩
 ·rw [if_pos h, if_pos ((inL_iff _ _).2 (by simpa using h))]
  rfl
 ·rw [if_neg h, if_neg (by rw [inL_no (fun hm => h (by simpa using hm))]; decide)]
theorem row_terms (cc : ByteArray) : RId.expand .r_terms cc = if inL cc [⟨#[43]⟩, ⟨#[45]⟩] then some [.push (.word cc :: [.rule .r_term] ++ [.rule .r_terms])] else some [] := by
 simp only [RId.expand]
 by_cases h : cc = ⟨#[43]⟩ ∨ cc = ⟨#[45]⟩
 ·rw [if_pos h, if_pos ((inL_iff _ _).2 (by simpa using h))]
  rfl
 ·rw [if_neg h, if_neg (by rw [inL_no (fun hm => h (by simpa using hm))]; decide)]
theorem row_factors (cc : ByteArray) : RId.expand .r_factors cc = if inL cc [⟨#[42]⟩, ⟨#[47]⟩, ⟨#[37]⟩] then some [.push (.word cc :: [.rule .r_factor] ++ [.rule .r_factors])] else some [] := by
 simp only [RId.expand]
 by_cases h : cc = ⟨#[42]⟩ ∨ cc = ⟨#[47]⟩ ∨ cc = ⟨#[37]⟩
 ·rw [if_pos h, if_pos ((inL_iff _ _).2 (by simpa using h))]
  rfl
 ·rw [if_neg h, if_neg (by rw [inL_no (fun hm => h (by simpa using hm))]; decide)]
theorem row_exprs (cc : ByteArray) : RId.expand .r_exprs cc = if inL cc [⟨#[44]⟩] then some [.push (.word cc :: [.rule .r_expr] ++ [.rule .r_exprs])] else some [] := by
 simp only [RId.expand]
 by_cases h : cc = ⟨#[44]⟩
 ·rw [if_pos h, if_pos ((inL_iff _ _).2 (by simpa using h))]
  rfl
 ·rw [if_neg h, if_neg (by rw [inL_no (fun hm => h (by simpa using hm))]; decide)]
end Go.Proofs.Ytmjbpgnjgblnmaa
namespace Go.Proofs.Ytmjbpgnjgblnmaa
open Go.RowKit Go.Proofs.YtmjbpgnjgblnmaaW.PrintWords Go.Proofs.YtmjbpgnjgblnmaaW.PrintLast Go.Proofs.YtmjbpgnjgblnmaaW.PrintMore
abbrev begL : List ByteArray := [⟨#[64, 110, 117, 109, 98, 101, 114]⟩, ⟨#[64, 116, 101, 120, 116]⟩, ⟨#[64, 99, 104, 97, 114]⟩, ⟨#[64, 110, 97, 109, 101]⟩, ⟨#[45]⟩, ⟨#[110, 111, 116]⟩, ⟨#[40]⟩]
theorem code_kind {t : Tk} {k : Int} {x : ByteArray} (h : (k = 1 ∧ x = ⟨#[64, 110, 97, 109, 101]⟩) ∨ (k = 3 ∧ x = ⟨#[64, 110, 117, 109, 98, 101, 114]⟩) ∨ (k = 4 ∧ x = ⟨#[64, 116, 101, 120, 116]⟩) ∨ (k = 5 ∧ x = ⟨#[64, 99, 104, 97, 114]⟩)) : (t.f0 == k) = true ↔ codeOf t = x := by
 rw [beq_iff_eq]
 have hx : bt x 0 = 64 := by rcases h with ⟨-, rfl⟩ | ⟨-, rfl⟩ | ⟨-, rfl⟩ | ⟨-, rfl⟩ <;> decide
 constructor
 ·intro h1
  unfold codeOf codeF
  rw [h1]
  rcases h with ⟨rfl, rfl⟩ | ⟨rfl, rfl⟩ | ⟨rfl, rfl⟩ | ⟨rfl, rfl⟩ <;> rfl
 ·intro h1
  have hn : ∀ y : ByteArray, ¬ bt y 0 = 64 → ¬ y = x := fun y hy e => hy (by rw [e]; exact hx)
  unfold codeOf codeF at h1
  by_cases c1 : t.f0 = 1
  ·rw [if_pos c1] at h1
   rcases h with ⟨rfl, rfl⟩ | ⟨rfl, rfl⟩ | ⟨rfl, rfl⟩ | ⟨rfl, rfl⟩
   ·exact c1
   all_goals exact absurd h1 (by decide)
  rw [if_neg c1] at h1
  by_cases c3 : t.f0 = 3
  ·rw [if_pos c3] at h1
   rcases h with ⟨rfl, rfl⟩ | ⟨rfl, rfl⟩ | ⟨rfl, rfl⟩ | ⟨rfl, rfl⟩
   ·exact absurd h1 (by decide)
   ·exact c3
   all_goals exact absurd h1 (by decide)
  rw [if_neg c3] at h1
  by_cases c4 : t.f0 = 4
  ·rw [if_pos c4] at h1
   rcases h with ⟨rfl, rfl⟩ | ⟨rfl, rfl⟩ | ⟨rfl, rfl⟩ | ⟨rfl, rfl⟩
   ·exact absurd h1 (by decide)
   ·exact absurd h1 (by decide)
   ·exact c4
   ·exact absurd h1 (by decide)
  rw [if_neg c4] at h1
  by_cases c5 : t.f0 = 5
  ·rw [if_pos c5] at h1
   rcases h with ⟨rfl, rfl⟩ | ⟨rfl, rfl⟩ | ⟨rfl, rfl⟩ | ⟨rfl, rfl⟩
   ·exact absurd h1 (by decide)
   ·exact absurd h1 (by decide)
   ·exact absurd h1 (by decide)
   ·exact c5
  rw [if_neg c5] at h1
  exfalso
  repeat' split at h1
  all_goals first
   | (simp only [Option.getD_some] at h1; exact hn _ (by omega) h1)
   | (simp only [Option.getD_some] at h1; rcases h with ⟨-, rfl⟩ | ⟨-, rfl⟩ | ⟨-, rfl⟩ | ⟨-, rfl⟩ <;> exact absurd h1 (by decide))
   | (simp only [Option.getD_none] at h1; rcases h with ⟨-, rfl⟩ | ⟨-, rfl⟩ | ⟨-, rfl⟩ | ⟨-, rfl⟩ <;> exact absurd h1 (by decide))
theorem of_in {l : List Tk} {i : Nat} {ks : List Int} {xs : List ByteArray} (h : ∀ t : Tk, (ks.any (fun k => t.f0 == k)) = inL (codeOf t) xs) (hx : inL ⟨#[]⟩ xs = false) : ofL l i ks = inL (cAt l i) xs := by
 unfold ofL cAt
 cases l[i]? with
 | none => exact hx.symm
 | some t => exact h t
theorem eqb {t : Tk} {k : Int} {x : ByteArray} (h : (t.f0 == k) = true ↔ codeOf t = x) : (t.f0 == k) = decide (x = codeOf t) := by
 by_cases hx : codeOf t = x
 ·rw [h.2 hx, decide_eq_true hx.symm]
 ·rw [decide_eq_false (fun e => hx e.symm)]
  cases hk : (t.f0 == k)
  ·rfl
  ·exact absurd (h.1 hk) hx
theorem of_begins (l : List Tk) (i : Nat) : (ofL l i [3, 4, 5, 1] || inL (cAt l i) [⟨#[45]⟩, ⟨#[110, 111, 116]⟩, ⟨#[40]⟩]) = inL (cAt l i) begL := by
 rw [of_in (xs := [⟨#[64, 110, 117, 109, 98, 101, 114]⟩, ⟨#[64, 116, 101, 120, 116]⟩, ⟨#[64, 99, 104, 97, 114]⟩, ⟨#[64, 110, 97, 109, 101]⟩]) (fun t => by
  simp only [List.any_cons, List.any_nil, Bool.or_false, inL]
  rw [eqb (code_kind (k := 3) (.inr (.inl ⟨rfl, rfl⟩))), eqb (code_kind (k := 4) (.inr (.inr (.inl ⟨rfl, rfl⟩)))), eqb (code_kind (k := 5) (.inr (.inr (.inr ⟨rfl, rfl⟩)))), eqb (code_kind (k := 1) (.inl ⟨rfl, rfl⟩))]) (by decide)]
 simp only [inL, begL, List.any_cons, List.any_nil, Bool.or_false, Bool.or_assoc]
theorem of_name (l : List Tk) (i : Nat) : ofL l i [1] = inL (cAt l i) [⟨#[64, 110, 97, 109, 101]⟩] :=
 of_in (fun t => by
  simp only [List.any_cons, List.any_nil, Bool.or_false, inL]
  rw [eqb (code_kind (k := 1) (.inl ⟨rfl, rfl⟩))]) (by decide)
theorem of_value (l : List Tk) (i : Nat) : ofL l i [3, 4, 5] = inL (cAt l i) [⟨#[64, 110, 117, 109, 98, 101, 114]⟩, ⟨#[64, 116, 101, 120, 116]⟩, ⟨#[64, 99, 104, 97, 114]⟩] :=
 of_in (fun t => by
  simp only [List.any_cons, List.any_nil, Bool.or_false, inL]
  rw [eqb (code_kind (k := 3) (.inr (.inl ⟨rfl, rfl⟩))), eqb (code_kind (k := 4) (.inr (.inr (.inl ⟨rfl, rfl⟩)))), eqb (code_kind (k := 5) (.inr (.inr (.inr ⟨rfl, rfl⟩))))]) (by decide)
set_option maxRecDepth 100000 in
set_option maxHeartbeats 4000000 in
theorem begins_new {W0 : World} {A : Option Addr} {c : Nat} {l : List Tk} {w : World} {p : Nat} {i : Nat} {d : Int} {out : List Ev} {ve : Value} (H : SAt W0 A c l w p i d out ve) :
  Calls Try.prog 146 #[.pointer (some ⟨p, 0, none⟩)] w fun e w' => e = .returned (.bool (inL (cAt l i) begL)) ∧ Below w.heap.size w w' := by
 have HOF := Lib.hid (of_new H [3, 4, 5, 1] 4 [.int .u8 3, .int .u8 4, .int .u8 5, .int .u8 1] rfl rfl (by decide))
 have HIS := Lib.hid (fun (w1 : World) (hb : Below w.heap.size w w1) => is_new (H.moved hb) [⟨#[45]⟩, ⟨#[110, 111, 116]⟩, ⟨#[40]⟩] 3 [.string ⟨#[45]⟩, .string ⟨#[110, 111, 116]⟩, .string ⟨#[40]⟩] rfl rfl (by decide) (by decide))
 rw [← of_begins]
 obtain ⟨m, hm⟩ : ∃ m, ofL l i [3, 4, 5, 1] = m := ⟨_, rfl⟩
 obtain ⟨m2, hm2⟩ : ∃ m, inL (cAt l i) [⟨#[45]⟩, ⟨#[110, 111, 116]⟩, ⟨#[40]⟩] = m := ⟨_, rfl⟩
 rw [hm] at HOF
 rw [hm2] at HIS
 rw [hm, hm2]
 clear H hm hm2
 go_enter Try.func146, Try.ntmps146
 cases m with
 | true =>
  go_wp2_with (go_at_call 72; (with_reducible refine Calls.mono HOF.out ?_); rintro e w1 ⟨rfl, hb⟩; have HB1 := Lib.hid hb; clear hb)
  go_ret
  exact ⟨rfl, HB1.out⟩
 | false =>
  go_wp2_with (first
   | (go_at_call 72; (with_reducible refine Calls.mono HOF.out ?_); rintro e w1 ⟨rfl, hb⟩; have HB1 := Lib.hid hb; clear hb)
   | (go_at_call 71; (with_reducible refine Calls.mono (HIS.out w1 HB1.out) ?_); rintro e w2 ⟨rfl, hb⟩; have HB2 := Lib.hid (HB1.out.trans (hb.mono HB1.out.size)); clear hb))
  go_ret
  exact ⟨rfl, HB2.out⟩
theorem if_yes {l : List Tk} {n : Nat} {R : RId} {T S : List WT} {i : Nat} {d : Int} {out : List Ev} {r : SRes} (he : R.expand (cAt l i) = some [.push T]) (hr : srun l n ⟨.rule R :: S, i, d, out⟩ = some r) : srun l n ⟨T ++ S, i, d, out⟩ = some r := by
 obtain ⟨_, m, rfl, h⟩ := srun_on hr (s' := ⟨T ++ S, i, d, out⟩) (by simp [sstep, he, effs, Eff.act])
 exact srun_le h (Nat.le_succ m)
theorem if_no {l : List Tk} {n : Nat} {R : RId} {S : List WT} {i : Nat} {d : Int} {out : List Ev} {r : SRes} (he : R.expand (cAt l i) = some []) (hr : srun l n ⟨.rule R :: S, i, d, out⟩ = some r) : srun l n ⟨S, i, d, out⟩ = some r := by
 obtain ⟨_, m, rfl, h⟩ := srun_on hr (s' := ⟨S, i, d, out⟩) (by simp [sstep, he, effs])
 exact srun_le h (Nat.le_succ m)
section
variable {W0 : World} {A : Option Addr} {c : Nat} {l : List Tk} {w W : World} {p : Nat} {i : Nat} {d : Int} {out : List Ev} {ve : Value}
theorem node_rule (H : SAt W0 A c l w p i d out ve) (k : Nat) (ki : Int) (hk : (k : Int) = ki) (v : Value) (F : FuncId) (x : Value) (hv : v = .func (.func F) #[x] #[] ∨ v = .func (.func F) #[] #[x]) (hen : ∀ w, (callFunc F #[x]).run Try.prog w = .ok (.enter F #[x]) w) {T : List WT} {R : RId} (he : R.expand (cAt l i) = some [.opn k T]) {N n : Nat} (hb : BodyOK W0 A c l p ve w N F #[x] T) (hn : n ≤ N + 1) {r : SRes} (hr : srun l n ⟨[.rule R], i, d, out⟩ = some r) :
  Calls Try.prog 55 #[.pointer (some ⟨p, 0, none⟩), .int .u8 ki, v] w (SPost W0 A c l p ve w r) := by
 obtain ⟨_, m, rfl, h⟩ := srun_on hr (s' := ⟨T ++ [.fin k], i, d + 1, out ++ [evOf (1, k)]⟩) (by simp [sstep, he, effs, Eff.act])
 exact node_new H k ki hk v F x hv hen hb (by omega) h
theorem node_rule_at (H : SAt W0 A c l w p i d out ve) (k : Nat) (ki : Int) (hk : (k : Int) = ki) (v : Value) (F : FuncId) (x : Value) (hv : v = .func (.func F) #[x] #[] ∨ v = .func (.func F) #[] #[x]) (hen : ∀ w, (callFunc F #[x]).run Try.prog w = .ok (.enter F #[x]) w) {T : List WT} {R : RId} (he : R.expand (cAt l i) = some [.opn k T]) {n : Nat} (hb : ∀ (m : Nat) (w1 : World) (ve1 : Value) (r' : SRes), MStep p ve w ve1 w1 → SAt W0 A c l w1 p i (d + 1) (out ++ [evOf (1, k)]) ve1 → srun l m ⟨T, i, d + 1, out ++ [evOf (1, k)]⟩ = some r' → Calls Try.prog F #[x] w1 (SPost W0 A c l p ve1 w1 r')) {r : SRes} (hr : srun l n ⟨[.rule R], i, d, out⟩ = some r) :
  Calls Try.prog 55 #[.pointer (some ⟨p, 0, none⟩), .int .u8 ki, v] w (SPost W0 A c l p ve w r) := by
 obtain ⟨_, m, rfl, h⟩ := srun_on hr (s' := ⟨T ++ [.fin k], i, d + 1, out ++ [evOf (1, k)]⟩) (by simp [sstep, he, effs, Eff.act])
 subst hk
 exact node_at H k v F x hv hen (fun w1 ve1 r' h1 h2 h3 => hb m w1 ve1 r' h1 h2 h3) h
theorem fail_post (H : SAt W0 A c l w p i d out ve) {R : RId} (he : R.expand (cAt l i) = none) {n : Nat} {r : SRes} (hr : srun l n ⟨[.rule R], i, d, out⟩ = some r) :
  Calls Try.prog 61 #[.pointer (some ⟨p, 0, none⟩)] w (SPost W0 A c l p ve w r) := by
 obtain ⟨_, rfl⟩ := srun_fin hr (q := .err (if i = l.length then 121 else 120) i) (by simp [sstep, he])
 refine (fail_any H).mono ?_
 rintro e w' ⟨h1, h2⟩
 exact ⟨h1, ve, PStep.below h2⟩
theorem srun_same {R1 R2 : RId} (he : R1.expand (cAt l i) = R2.expand (cAt l i)) {n : Nat} {r : SRes} (hr : srun l n ⟨[.rule R1], i, d, out⟩ = some r) : srun l n ⟨[.rule R2], i, d, out⟩ = some r := by
 cases n with
 | zero => simp [srun] at hr
 | succ n =>
  rw [srun] at hr ⊢
  have hs : sstep l ⟨[.rule R2], i, d, out⟩ = sstep l ⟨[.rule R1], i, d, out⟩ := by simp only [sstep, he]
  rw [hs]
  exact hr
theorem one_of {cc x : ByteArray} (h : inL cc [x] = true) : cc = x := by simpa using (inL_iff _ _).1 h
theorem none_of {cc : ByteArray} {xs : List ByteArray} (h : inL cc xs = false) : ∀ x ∈ xs, ¬ cc = x := fun x hx e => by
 rw [(inL_iff cc xs).2 (e ▸ hx)] at h
 cases h
end
end Go.Proofs.Ytmjbpgnjgblnmaa
