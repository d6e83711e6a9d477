/- What the claim stands on: part Qi. -/
import Derived.Test.YtmjbpgnjgblnmaaGreatQh
set_option linter.unusedVariables false
set_option linter.unusedSimpArgs false
namespace Go.Proofs.YtmjbpgnjgblnmaaGreat
open Go.RowKit Go.Proofs.YtmjbpgnjgblnmaaGreatW.PrintWords Go.Proofs.YtmjbpgnjgblnmaaGreatW.PrintLast Go.Proofs.YtmjbpgnjgblnmaaGreatW.PrintMore
section
variable {W0 : World} {A : Option Addr} {c : Nat} {l : List Tk} {w W : World} {p : Nat} {i : Nat} {d : Int} {out : List Ev} {ve : Value}
theorem words_new (H : SAt W0 A c l W p i d out ve) (ws : List ByteArray) (n : Nat) (cs : List Value) (hn : ws.length = n) (hcs : ws.map Value.string = cs) (hl : n ≤ 16) (hws : ws.all goodW = true) {m : Nat} {r : SRes} (hr : srun l m ⟨ws.map .word, i, d, out⟩ = some r) :
  Calls Tryz.prog 36 #[.pointer (some ⟨p, 0, none⟩), .slice (some ⟨W.heap.size, 0, none⟩) n n] (W.alloc (.cells cs.toArray 9)) (SPost W0 A c l p ve W r) := by
 have hb : Below W.heap.size W (W.alloc (.cells cs.toArray 9)) := (Below.refl _ W).alloc (Nat.le_refl _) _
 subst hn; subst hcs
 refine (words_any (H.moved hb) W.heap.size _ ws (World.alloc_heap_new _ _) (List.all_eq_true.1 hws) hl hr).mono ?_
 intro e w' h
 exact h.pre (PStep.below hb)
theorem row_new (H : SAt W0 A c l W p i d out ve) (v : Value) (F : FuncId) (x : Value) (hv : v = .func (.func F) #[x] #[] ∨ v = .func (.func F) #[] #[x]) (hen : ∀ w, (callFunc F #[x]).run Tryz.prog w = .ok (.enter F #[x]) w) (signs : List ByteArray) (n : Nat) (cs : List Value) (hn : signs.length = n) (hcs : signs.map Value.string = cs) (hl : n ≤ 16) (hws : signs.all goodW = true) {T : List WT} {R : RId} (hR : ∀ cc, R.expand cc = if inL cc signs then some [.push (.word cc :: T ++ [.rule R])] else some []) {N m : Nat} (hb : BodyOK W0 A c l p ve W N F #[x] T) (hm : m ≤ N) {r : SRes} (hr : srun l m ⟨T ++ [.rule R], i, d, out⟩ = some r) :
  Calls Tryz.prog 68 #[.pointer (some ⟨p, 0, none⟩), v, .slice (some ⟨W.heap.size, 0, none⟩) n n] (W.alloc (.cells cs.toArray 9)) (SPost W0 A c l p ve W r) := by
 have hb0 : Below W.heap.size W (W.alloc (.cells cs.toArray 9)) := (Below.refl _ W).alloc (Nat.le_refl _) _
 subst hn; subst hcs
 refine (row_any (H.moved hb0) v F x hv hen W.heap.size _ signs (World.alloc_heap_new _ _) (List.all_eq_true.1 hws) hl hR (hb.later (PStep.below hb0)) hm hr).mono ?_
 intro e w' h
 exact h.pre (PStep.below hb0)
theorem node_new (H : SAt W0 A c l w p i d out ve) (k : Nat) (ki : Int) (hk : (k : Int) = ki) (v : Value) (F : FuncId) (x : Value) (hv : v = .func (.func F) #[x] #[] ∨ v = .func (.func F) #[] #[x]) (hen : ∀ w, (callFunc F #[x]).run Tryz.prog w = .ok (.enter F #[x]) w) {T : List WT} {N n : Nat} (hb : BodyOK W0 A c l p ve w N F #[x] T) (hn : n ≤ N) {r : SRes} (hr : srun l n ⟨T ++ [.fin k], i, d + 1, out ++ [evOf (1, k)]⟩ = some r) :
  Calls Tryz.prog 33 #[.pointer (some ⟨p, 0, none⟩), .int .u8 ki, v] w (SPost W0 A c l p ve w r) := by
 subst hk
 exact node_any H k v F x hv hen hb hn hr
end
theorem row_names (cc : ByteArray) : RId.expand .r_names cc = if inL cc [⟨#[44]⟩] then some [.push (.word cc :: [.word ⟨#[64, 110, 97, 109, 101]⟩] ++ [.rule .r_names])] else some [] := by
 simp only [RId.expand]
 by_cases h : cc = ⟨#[44]⟩
 ·rw [if_pos h, if_pos ((inL_iff _ _).2 (by simpa using h))]
  rfl
 ·rw [if_neg h, if_neg (by rw [inL_no (fun hm => h (by simpa using hm))]; decide)]
theorem row_moreParams (cc : ByteArray) : RId.expand .r_moreParams cc = if inL cc [⟨#[59]⟩] then some [.push (.word cc :: [.rule .r_param] ++ [.rule .r_moreParams])] else some [] := by
 simp only [RId.expand]
 by_cases h : cc = ⟨#[59]⟩
 ·rw [if_pos h, if_pos ((inL_iff _ _).2 (by simpa using h))]
  rfl
 ·rw [if_neg h, if_neg (by rw [inL_no (fun hm => h (by simpa using hm))]; decide)]
theorem row_members (cc : ByteArray) : RId.expand .r_members cc = if inL cc [⟨#[59]⟩] then some [.push (.word cc :: [.rule .r_member] ++ [.rule .r_members])] else some [] := by
 simp only [RId.expand]
 by_cases h : cc = ⟨#[59]⟩
 ·rw [if_pos h, if_pos ((inL_iff _ _).2 (by simpa using h))]
  rfl
 ·rw [if_neg h, if_neg (by rw [inL_no (fun hm => h (by simpa using hm))]; decide)]
theorem row_statements (cc : ByteArray) : RId.expand .r_statements cc = if inL cc [⟨#[59]⟩] then some [.push (.word cc :: [.rule .r_statement] ++ [.rule .r_statements])] else some [] := by
 simp only [RId.expand]
 by_cases h : cc = ⟨#[59]⟩
 ·rw [if_pos h, if_pos ((inL_iff _ _).2 (by simpa using h))]
  rfl
 ·rw [if_neg h, if_neg (by rw [inL_no (fun hm => h (by simpa using hm))]; decide)]
theorem row_rels (cc : ByteArray) : RId.expand .r_rels cc = if inL cc [⟨#[97, 110, 100]⟩, ⟨#[111, 114]⟩] then some [.push (.word cc :: [.rule .r_rel] ++ [.rule .r_rels])] else some [] := by
 simp only [RId.expand]
 by_cases h : cc = ⟨#[97, 110, 100]⟩ ∨ cc = ⟨#[111, 114]⟩
 ·rw [if_pos h, if_pos ((inL_iff _ _).2 (by simpa using h))]
  rfl
 ·rw [if_neg h, if_neg (by rw [inL_no (fun hm => h (by simpa using hm))]; decide)]
theorem row_terms (cc : ByteArray) : RId.expand .r_terms cc = if inL cc [⟨#[43]⟩, ⟨#[45]⟩] then some [.push (.word cc :: [.rule .r_term] ++ [.rule .r_terms])] else some [] := by
 simp only [RId.expand]
 by_cases h : cc = ⟨#[43]⟩ ∨ cc = ⟨#[45]⟩
 ·rw [if_pos h, if_pos ((inL_iff _ _).2 (by simpa using h))]
  rfl
 ·rw [if_neg h, if_neg (by rw [inL_no (fun hm => h (by simpa using hm))]; decide)]
theorem row_factors (cc : ByteArray) : RId.expand .r_factors cc = if inL cc [⟨#[42]⟩, ⟨#[47]⟩, ⟨#[37]⟩] then some [.push (.word cc :: [.rule .r_factor] ++ [.rule .r_factors])] else some [] := by
 simp only [RId.expand]
 by_cases h : cc = ⟨#[42]⟩ ∨ cc = ⟨#[47]⟩ ∨ cc = ⟨#[37]⟩
 ·rw [if_pos h, if_pos ((inL_iff _ _).2 (by simpa using h))]
  rfl
 ·rw [if_neg h, if_neg (by rw [inL_no (fun hm => h (by simpa using hm))]; decide)]
theorem row_exprs (cc : ByteArray) : RId.expand .r_exprs cc = if inL cc [⟨#[44]⟩] then some [.push (.word cc :: [.rule .r_expr] ++ [.rule .r_exprs])] else some [] := by
 simp only [RId.expand]
 by_cases h : cc = ⟨#[44]⟩
 ·rw [if_pos h, if_pos ((inL_iff _ _).2 (by simpa using h))]
  rfl
 ·rw [if_neg h, if_neg (by rw [inL_no (fun hm => h (by simpa using hm))]; decide)]
end Go.Proofs.YtmjbpgnjgblnmaaGreat
namespace Go.Proofs.YtmjbpgnjgblnmaaGreat
open Go.RowKit Go.Proofs.YtmjbpgnjgblnmaaGreatW.PrintWords Go.Proofs.YtmjbpgnjgblnmaaGreatW.PrintLast Go.Proofs.YtmjbpgnjgblnmaaGreatW.PrintMore
set_option maxRecDepth 100000 in
set_option maxHeartbeats 8000000 in
theorem g_expr_1 (l : List Tk) (N : Nat) (G_rel : Good l N 91 [.rule .r_rel]) : GoodC l N 90 [.rule .r_rel, .rule .r_rels] := by
 intro n hn W0 A c w0 p g i d out ve r H hg hr
 show Calls Tryz.prog 90 _ w0 _
 have HP0 := Lib.hid H
 have HG0 := Lib.hid hg
 have HNN := Lib.hid hn
 have HS0 := Lib.hid (PStep.refl p (.slice none 0 0) ve w0)
 have HT0 := HS0
 have bx := cell_of_row _ _ 0 _ _ _ hg
 have hr0 : srun l n ⟨[.rule .r_rel, .rule .r_rels], i, d, out⟩ = some r := hr
 have HR0 := Lib.hid hr0
 clear H hg hn hr hr0
 go_enter Tryz.func90, Tryz.ntmps90
 have h1 := HR0.out
 cases r with
 | ok i1 d1 out1 =>
  have HX1 := Lib.hid h1
  have HC1 := Lib.hid (row_new HP0.out (.func (.func 91) #[.pointer (some ⟨p, 0, none⟩)] #[]) 91 (.pointer (some ⟨p, 0, none⟩)) (.inl rfl) (fun w => enters_ Tryz.func91 (by kernel_rfl) rfl #[(.pointer (some ⟨p, 0, none⟩))] w) [⟨#[97, 110, 100]⟩, ⟨#[111, 114]⟩] 2 [.string ⟨#[97, 110, 100]⟩, .string ⟨#[111, 114]⟩] rfl rfl (by decide) (by decide) (T := [.rule .r_rel]) (R := .r_rels) (fun cc => row_rels cc) (G_rel.body) HNN.out HX1.out)
  clear h1
  go_wp2_with (go_at_call 68; (with_reducible refine Calls.mono HC1.out ?_); rintro e w1 ⟨rfl, ve1, h2, h3⟩; have HP1 := Lib.hid h2; have HS1 := Lib.hid (HS0.out.trans h3); have HG1 := Lib.hid (mkeep (HT0.out.trans h3) HP0.out HG0.out (by decide) (by decide)); have HT1 := Lib.hid (HT0.out.trans h3); clear bx; have bx := cell_of_row _ _ 0 _ _ _ HG1.out; clear h2 h3)
  go_end0
  exact ⟨rfl, ve1, HP1.out, HS1.out⟩
 | err er jj =>
  have HX1 := Lib.hid h1
  have HC1 := Lib.hid (row_new HP0.out (.func (.func 91) #[.pointer (some ⟨p, 0, none⟩)] #[]) 91 (.pointer (some ⟨p, 0, none⟩)) (.inl rfl) (fun w => enters_ Tryz.func91 (by kernel_rfl) rfl #[(.pointer (some ⟨p, 0, none⟩))] w) [⟨#[97, 110, 100]⟩, ⟨#[111, 114]⟩] 2 [.string ⟨#[97, 110, 100]⟩, .string ⟨#[111, 114]⟩] rfl rfl (by decide) (by decide) (T := [.rule .r_rel]) (R := .r_rels) (fun cc => row_rels cc) (G_rel.body) HNN.out HX1.out)
  clear h1
  go_wp2_with (go_at_call 68; (with_reducible refine Calls.mono HC1.out ?_); rintro e w1 ⟨rfl, ve1, h3⟩; have HS1 := Lib.hid (HS0.out.trans h3); clear h3)
  exact ⟨rfl, rfl, ve1, HS1.out⟩
set_option maxRecDepth 100000 in
set_option maxHeartbeats 8000000 in
theorem g_expr (l : List Tk) (N : Nat) (G_expr_1 : GoodC l N 90 [.rule .r_rel, .rule .r_rels]) : Good l (N + 1) 65 [.rule .r_expr] := by
 intro n0 hn W0 A c w p i d out ve r H hr
 show Calls Tryz.prog 65 _ w _
 obtain ⟨_, n, rfl, hr0⟩ := srun_on hr (s' := ⟨[.rule .r_rel, .rule .r_rels] ++ [.fin 21], i, d + 1, out ++ [evOf (1, 21)]⟩) rfl
 have HNN : Hid (n ≤ N) := Lib.hid (by omega)
 have HR0 := Lib.hid hr0
 clear hn hr hr0
 obtain ⟨w0, hw0⟩ : ∃ V, w.alloc (.cells #[.pointer (some ⟨p, 0, none⟩)] 54) = V := ⟨_, rfl⟩
 have hb0 : Below w.heap.size w w0 := by rw [← hw0]; exact (Below.refl _ w).alloc (Nat.le_refl _) _
 have hg : w0.heap[w.heap.size]? = some (.cells #[.pointer (some ⟨p, 0, none⟩)] 54 (0, 0)) := by rw [← hw0]; exact World.alloc_heap_new _ _
 have HWB := Lib.hid hw0
 have HP0 := Lib.hid (H.moved hb0)
 have HS0 := Lib.hid (PStep.below hb0 : MStep p ve w ve w0)
 have HT0 := Lib.hid (PStep.refl p (.slice none 0 0) ve w0)
 obtain ⟨g, hge⟩ : ∃ g, w.heap.size = g := ⟨_, rfl⟩
 rw [hge] at hg
 have HGE := Lib.hid hge
 have HG0 := Lib.hid hg
 have bx := cell_of_row _ _ 0 _ _ _ hg
 clear hw0 hb0 hg hge H
 go_enter Tryz.func65, Tryz.ntmps65
 go_upto_region 1 with (fail)
 rw [HWB.out, HGE.out]
 have h1 := HR0.out
 cases r with
 | ok i1 d1 out1 =>
  have HX1 := Lib.hid h1
  have HC1 := Lib.hid (node_new HP0.out 21 21 rfl (.func (.func 90) #[] #[.pointer (some ⟨g, 0, none⟩)]) 90 (.pointer (some ⟨g, 0, none⟩)) (.inr rfl) (fun w => enters_ Tryz.func90 (by kernel_rfl) rfl #[(.pointer (some ⟨g, 0, none⟩))] w) (T := [.rule .r_rel, .rule .r_rels]) (G_expr_1.body HP0.out HG0.out) HNN.out HX1.out)
  clear h1
  go_wp2_with (go_at_call 33; (with_reducible refine Calls.mono HC1.out ?_); rintro e w1 ⟨rfl, ve1, h2, h3⟩; have HP1 := Lib.hid h2; have HS1 := Lib.hid (HS0.out.trans h3); have HG1 := Lib.hid (mkeep (HT0.out.trans h3) HP0.out HG0.out (by decide) (by decide)); have HT1 := Lib.hid (HT0.out.trans h3); clear bx; have bx := cell_of_row _ _ 0 _ _ _ HG1.out; clear h2 h3)
  go_end0
  exact ⟨rfl, ve1, HP1.out, HS1.out⟩
 | err er jj =>
  have HX1 := Lib.hid h1
  have HC1 := Lib.hid (node_new HP0.out 21 21 rfl (.func (.func 90) #[] #[.pointer (some ⟨g, 0, none⟩)]) 90 (.pointer (some ⟨g, 0, none⟩)) (.inr rfl) (fun w => enters_ Tryz.func90 (by kernel_rfl) rfl #[(.pointer (some ⟨g, 0, none⟩))] w) (T := [.rule .r_rel, .rule .r_rels]) (G_expr_1.body HP0.out HG0.out) HNN.out HX1.out)
  clear h1
  go_wp2_with (go_at_call 33; (with_reducible refine Calls.mono HC1.out ?_); rintro e w1 ⟨rfl, ve1, h3⟩; have HS1 := Lib.hid (HS0.out.trans h3); clear h3)
  exact ⟨rfl, rfl, ve1, HS1.out⟩
set_option maxRecDepth 100000 in
set_option maxHeartbeats 8000000 in
theorem g_statement_3 (l : List Tk) (N : Nat) (G_expr : Good l N 65 [.rule .r_expr]) (G_body : Good l N 51 [.rule .r_body]) : GoodC l N 98 [.word ⟨#[119, 104, 105, 108, 101]⟩, .rule .r_expr, .word ⟨#[100, 111]⟩, .rule .r_body, .word ⟨#[101, 110, 100]⟩] := by
 intro n hn W0 A c w0 p g i d out ve r H hg hr
 show Calls Tryz.prog 98 _ w0 _
 have HP0 := Lib.hid H
 have HG0 := Lib.hid hg
 have HNN := Lib.hid hn
 have HS0 := Lib.hid (PStep.refl p (.slice none 0 0) ve w0)
 have HT0 := HS0
 have bx := cell_of_row _ _ 0 _ _ _ hg
 have hr0 : srun l n ⟨([.word ⟨#[119, 104, 105, 108, 101]⟩] ++ ([.rule .r_expr] ++ ([.word ⟨#[100, 111]⟩] ++ ([.rule .r_body] ++ [.word ⟨#[101, 110, 100]⟩])))), i, d, out⟩ = some r := hr
 have HR0 := Lib.hid hr0
 clear H hg hn hr hr0
 go_enter Tryz.func98, Tryz.ntmps98
 rcases srun_app l n [.word ⟨#[119, 104, 105, 108, 101]⟩] ([.rule .r_expr] ++ ([.word ⟨#[100, 111]⟩] ++ ([.rule .r_body] ++ [.word ⟨#[101, 110, 100]⟩]))) i d out r HR0.out with ⟨er, jj, rfl, h1⟩ | ⟨i1, d1, out1, h1, hr1⟩
 ·skip
  have HX1 := Lib.hid h1
  have HC1 := Lib.hid (words_new HP0.out [⟨#[119, 104, 105, 108, 101]⟩] 1 [.string ⟨#[119, 104, 105, 108, 101]⟩] rfl rfl (by decide) (by decide) HX1.out)
  clear h1
  go_wp2_with (go_at_call 36; (with_reducible refine Calls.mono HC1.out ?_); rintro e w1 ⟨rfl, ve1, h3⟩; have HS1 := Lib.hid (HS0.out.trans h3); clear h3)
  exact ⟨rfl, rfl, ve1, HS1.out⟩
 have HR1 := Lib.hid hr1
 clear hr1
 have HX1 := Lib.hid h1
 have HC1 := Lib.hid (words_new HP0.out [⟨#[119, 104, 105, 108, 101]⟩] 1 [.string ⟨#[119, 104, 105, 108, 101]⟩] rfl rfl (by decide) (by decide) HX1.out)
 clear h1
 go_wp2_with (go_at_call 36; (with_reducible refine Calls.mono HC1.out ?_); rintro e w1 ⟨rfl, ve1, h2, h3⟩; have HP1 := Lib.hid h2; have HS1 := Lib.hid (HS0.out.trans h3); have HG1 := Lib.hid (mkeep (HT0.out.trans h3) HP0.out HG0.out (by decide) (by decide)); have HT1 := Lib.hid (HT0.out.trans h3); clear bx; have bx := cell_of_row _ _ 0 _ _ _ HG1.out; clear h2 h3)
 rcases srun_app l n [.rule .r_expr] ([.word ⟨#[100, 111]⟩] ++ ([.rule .r_body] ++ [.word ⟨#[101, 110, 100]⟩])) i1 d1 out1 r HR1.out with ⟨er, jj, rfl, h2⟩ | ⟨i2, d2, out2, h2, hr2⟩
 ·skip
  have HX2 := Lib.hid h2
  have HC2 := Lib.hid (G_expr n HNN.out W0 A c w1 p i1 d1 out1 ve1 _ HP1.out HX2.out)
  clear h2
  go_wp2_with (go_at_call 65; (with_reducible refine Calls.mono HC2.out ?_); rintro e w2 ⟨rfl, ve2, h3⟩; have HS2 := Lib.hid (HS1.out.trans h3); clear h3)
  exact ⟨rfl, rfl, ve2, HS2.out⟩
 have HR2 := Lib.hid hr2
 clear hr2
 have HX2 := Lib.hid h2
 have HC2 := Lib.hid (G_expr n HNN.out W0 A c w1 p i1 d1 out1 ve1 _ HP1.out HX2.out)
 clear h2
 go_wp2_with (go_at_call 65; (with_reducible refine Calls.mono HC2.out ?_); rintro e w2 ⟨rfl, ve2, h2, h3⟩; have HP2 := Lib.hid h2; have HS2 := Lib.hid (HS1.out.trans h3); have HG2 := Lib.hid (mkeep (HT1.out.trans h3) HP0.out HG0.out (by decide) (by decide)); have HT2 := Lib.hid (HT1.out.trans h3); clear bx; have bx := cell_of_row _ _ 0 _ _ _ HG2.out; clear h2 h3)
 rcases srun_app l n [.word ⟨#[100, 111]⟩] ([.rule .r_body] ++ [.word ⟨#[101, 110, 100]⟩]) i2 d2 out2 r HR2.out with ⟨er, jj, rfl, h3⟩ | ⟨i3, d3, out3, h3, hr3⟩
 ·skip
  have HX3 := Lib.hid h3
  have HC3 := Lib.hid (words_new HP2.out [⟨#[100, 111]⟩] 1 [.string ⟨#[100, 111]⟩] rfl rfl (by decide) (by decide) HX3.out)
  clear h3
  go_wp2_with (go_at_call 36; (with_reducible refine Calls.mono HC3.out ?_); rintro e w3 ⟨rfl, ve3, h3⟩; have HS3 := Lib.hid (HS2.out.trans h3); clear h3)
  exact ⟨rfl, rfl, ve3, HS3.out⟩
 have HR3 := Lib.hid hr3
 clear hr3
 have HX3 := Lib.hid h3
 have HC3 := Lib.hid (words_new HP2.out [⟨#[100, 111]⟩] 1 [.string ⟨#[100, 111]⟩] rfl rfl (by decide) (by decide) HX3.out)
 clear h3
 go_wp2_with (go_at_call 36; (with_reducible refine Calls.mono HC3.out ?_); rintro e w3 ⟨rfl, ve3, h2, h3⟩; have HP3 := Lib.hid h2; have HS3 := Lib.hid (HS2.out.trans h3); have HG3 := Lib.hid (mkeep (HT2.out.trans h3) HP0.out HG0.out (by decide) (by decide)); have HT3 := Lib.hid (HT2.out.trans h3); clear bx; have bx := cell_of_row _ _ 0 _ _ _ HG3.out; clear h2 h3)
 rcases srun_app l n [.rule .r_body] [.word ⟨#[101, 110, 100]⟩] i3 d3 out3 r HR3.out with ⟨er, jj, rfl, h4⟩ | ⟨i4, d4, out4, h4, hr4⟩
 ·skip
  have HX4 := Lib.hid h4
  have HC4 := Lib.hid (G_body n HNN.out W0 A c w3 p i3 d3 out3 ve3 _ HP3.out HX4.out)
  clear h4
  go_wp2_with (go_at_call 51; (with_reducible refine Calls.mono HC4.out ?_); rintro e w4 ⟨rfl, ve4, h3⟩; have HS4 := Lib.hid (HS3.out.trans h3); clear h3)
  exact ⟨rfl, rfl, ve4, HS4.out⟩
 have HR4 := Lib.hid hr4
 clear hr4
 have HX4 := Lib.hid h4
 have HC4 := Lib.hid (G_body n HNN.out W0 A c w3 p i3 d3 out3 ve3 _ HP3.out HX4.out)
 clear h4
 go_wp2_with (go_at_call 51; (with_reducible refine Calls.mono HC4.out ?_); rintro e w4 ⟨rfl, ve4, h2, h3⟩; have HP4 := Lib.hid h2; have HS4 := Lib.hid (HS3.out.trans h3); have HG4 := Lib.hid (mkeep (HT3.out.trans h3) HP0.out HG0.out (by decide) (by decide)); have HT4 := Lib.hid (HT3.out.trans h3); clear bx; have bx := cell_of_row _ _ 0 _ _ _ HG4.out; clear h2 h3)
 have h5 := HR4.out
 cases r with
 | ok i5 d5 out5 =>
  have HX5 := Lib.hid h5
  have HC5 := Lib.hid (words_new HP4.out [⟨#[101, 110, 100]⟩] 1 [.string ⟨#[101, 110, 100]⟩] rfl rfl (by decide) (by decide) HX5.out)
  clear h5
  go_wp2_with (go_at_call 36; (with_reducible refine Calls.mono HC5.out ?_); rintro e w5 ⟨rfl, ve5, h2, h3⟩; have HP5 := Lib.hid h2; have HS5 := Lib.hid (HS4.out.trans h3); have HG5 := Lib.hid (mkeep (HT4.out.trans h3) HP0.out HG0.out (by decide) (by decide)); have HT5 := Lib.hid (HT4.out.trans h3); clear bx; have bx := cell_of_row _ _ 0 _ _ _ HG5.out; clear h2 h3)
  go_end0
  exact ⟨rfl, ve5, HP5.out, HS5.out⟩
 | err er jj =>
  have HX5 := Lib.hid h5
  have HC5 := Lib.hid (words_new HP4.out [⟨#[101, 110, 100]⟩] 1 [.string ⟨#[101, 110, 100]⟩] rfl rfl (by decide) (by decide) HX5.out)
  clear h5
  go_wp2_with (go_at_call 36; (with_reducible refine Calls.mono HC5.out ?_); rintro e w5 ⟨rfl, ve5, h3⟩; have HS5 := Lib.hid (HS4.out.trans h3); clear h3)
  exact ⟨rfl, rfl, ve5, HS5.out⟩
set_option maxRecDepth 100000 in
set_option maxHeartbeats 8000000 in
theorem g_sum_1 (l : List Tk) (N : Nat) (G_term : Good l N 135 [.rule .r_term]) : GoodC l N 134 [.rule .r_term, .rule .r_terms] := by
 intro n hn W0 A c w0 p g i d out ve r H hg hr
 show Calls Tryz.prog 134 _ w0 _
 have HP0 := Lib.hid H
 have HG0 := Lib.hid hg
 have HNN := Lib.hid hn
 have HS0 := Lib.hid (PStep.refl p (.slice none 0 0) ve w0)
 have HT0 := HS0
 have bx := cell_of_row _ _ 0 _ _ _ hg
 have hr0 : srun l n ⟨[.rule .r_term, .rule .r_terms], i, d, out⟩ = some r := hr
 have HR0 := Lib.hid hr0
 clear H hg hn hr hr0
 go_enter Tryz.func134, Tryz.ntmps134
 have h1 := HR0.out
 cases r with
 | ok i1 d1 out1 =>
  have HX1 := Lib.hid h1
  have HC1 := Lib.hid (row_new HP0.out (.func (.func 135) #[.pointer (some ⟨p, 0, none⟩)] #[]) 135 (.pointer (some ⟨p, 0, none⟩)) (.inl rfl) (fun w => enters_ Tryz.func135 (by kernel_rfl) rfl #[(.pointer (some ⟨p, 0, none⟩))] w) [⟨#[43]⟩, ⟨#[45]⟩] 2 [.string ⟨#[43]⟩, .string ⟨#[45]⟩] rfl rfl (by decide) (by decide) (T := [.rule .r_term]) (R := .r_terms) (fun cc => row_terms cc) (G_term.body) HNN.out HX1.out)
  clear h1
  go_wp2_with (go_at_call 68; (with_reducible refine Calls.mono HC1.out ?_); rintro e w1 ⟨rfl, ve1, h2, h3⟩; have HP1 := Lib.hid h2; have HS1 := Lib.hid (HS0.out.trans h3); have HG1 := Lib.hid (mkeep (HT0.out.trans h3) HP0.out HG0.out (by decide) (by decide)); have HT1 := Lib.hid (HT0.out.trans h3); clear bx; have bx := cell_of_row _ _ 0 _ _ _ HG1.out; clear h2 h3)
  go_end0
  exact ⟨rfl, ve1, HP1.out, HS1.out⟩
 | err er jj =>
  have HX1 := Lib.hid h1
  have HC1 := Lib.hid (row_new HP0.out (.func (.func 135) #[.pointer (some ⟨p, 0, none⟩)] #[]) 135 (.pointer (some ⟨p, 0, none⟩)) (.inl rfl) (fun w => enters_ Tryz.func135 (by kernel_rfl) rfl #[(.pointer (some ⟨p, 0, none⟩))] w) [⟨#[43]⟩, ⟨#[45]⟩] 2 [.string ⟨#[43]⟩, .string ⟨#[45]⟩] rfl rfl (by decide) (by decide) (T := [.rule .r_term]) (R := .r_terms) (fun cc => row_terms cc) (G_term.body) HNN.out HX1.out)
  clear h1
  go_wp2_with (go_at_call 68; (with_reducible refine Calls.mono HC1.out ?_); rintro e w1 ⟨rfl, ve1, h3⟩; have HS1 := Lib.hid (HS0.out.trans h3); clear h3)
  exact ⟨rfl, rfl, ve1, HS1.out⟩
set_option maxRecDepth 100000 in
set_option maxHeartbeats 8000000 in
theorem g_sum (l : List Tk) (N : Nat) (G_sum_1 : GoodC l N 134 [.rule .r_term, .rule .r_terms]) : Good l (N + 1) 119 [.rule .r_sum] := by
 intro n0 hn W0 A c w p i d out ve r H hr
 show Calls Tryz.prog 119 _ w _
 obtain ⟨_, n, rfl, hr0⟩ := srun_on hr (s' := ⟨[.rule .r_term, .rule .r_terms] ++ [.fin 23], i, d + 1, out ++ [evOf (1, 23)]⟩) rfl
 have HNN : Hid (n ≤ N) := Lib.hid (by omega)
 have HR0 := Lib.hid hr0
 clear hn hr hr0
 obtain ⟨w0, hw0⟩ : ∃ V, w.alloc (.cells #[.pointer (some ⟨p, 0, none⟩)] 54) = V := ⟨_, rfl⟩
 have hb0 : Below w.heap.size w w0 := by rw [← hw0]; exact (Below.refl _ w).alloc (Nat.le_refl _) _
 have hg : w0.heap[w.heap.size]? = some (.cells #[.pointer (some ⟨p, 0, none⟩)] 54 (0, 0)) := by rw [← hw0]; exact World.alloc_heap_new _ _
 have HWB := Lib.hid hw0
 have HP0 := Lib.hid (H.moved hb0)
 have HS0 := Lib.hid (PStep.below hb0 : MStep p ve w ve w0)
 have HT0 := Lib.hid (PStep.refl p (.slice none 0 0) ve w0)
 obtain ⟨g, hge⟩ : ∃ g, w.heap.size = g := ⟨_, rfl⟩
 rw [hge] at hg
 have HGE := Lib.hid hge
 have HG0 := Lib.hid hg
 have bx := cell_of_row _ _ 0 _ _ _ hg
 clear hw0 hb0 hg hge H
 go_enter Tryz.func119, Tryz.ntmps119
 go_upto_region 1 with (fail)
 rw [HWB.out, HGE.out]
 have h1 := HR0.out
 cases r with
 | ok i1 d1 out1 =>
  have HX1 := Lib.hid h1
  have HC1 := Lib.hid (node_new HP0.out 23 23 rfl (.func (.func 134) #[] #[.pointer (some ⟨g, 0, none⟩)]) 134 (.pointer (some ⟨g, 0, none⟩)) (.inr rfl) (fun w => enters_ Tryz.func134 (by kernel_rfl) rfl #[(.pointer (some ⟨g, 0, none⟩))] w) (T := [.rule .r_term, .rule .r_terms]) (G_sum_1.body HP0.out HG0.out) HNN.out HX1.out)
  clear h1
  go_wp2_with (go_at_call 33; (with_reducible refine Calls.mono HC1.out ?_); rintro e w1 ⟨rfl, ve1, h2, h3⟩; have HP1 := Lib.hid h2; have HS1 := Lib.hid (HS0.out.trans h3); have HG1 := Lib.hid (mkeep (HT0.out.trans h3) HP0.out HG0.out (by decide) (by decide)); have HT1 := Lib.hid (HT0.out.trans h3); clear bx; have bx := cell_of_row _ _ 0 _ _ _ HG1.out; clear h2 h3)
  go_end0
  exact ⟨rfl, ve1, HP1.out, HS1.out⟩
 | err er jj =>
  have HX1 := Lib.hid h1
  have HC1 := Lib.hid (node_new HP0.out 23 23 rfl (.func (.func 134) #[] #[.pointer (some ⟨g, 0, none⟩)]) 134 (.pointer (some ⟨g, 0, none⟩)) (.inr rfl) (fun w => enters_ Tryz.func134 (by kernel_rfl) rfl #[(.pointer (some ⟨g, 0, none⟩))] w) (T := [.rule .r_term, .rule .r_terms]) (G_sum_1.body HP0.out HG0.out) HNN.out HX1.out)
  clear h1
  go_wp2_with (go_at_call 33; (with_reducible refine Calls.mono HC1.out ?_); rintro e w1 ⟨rfl, ve1, h3⟩; have HS1 := Lib.hid (HS0.out.trans h3); clear h3)
  exact ⟨rfl, rfl, ve1, HS1.out⟩
set_option maxRecDepth 100000 in
set_option maxHeartbeats 8000000 in
theorem g_term_1 (l : List Tk) (N : Nat) (G_factor : Good l N 145 [.rule .r_factor]) : GoodC l N 144 [.rule .r_factor, .rule .r_factors] := by
 intro n hn W0 A c w0 p g i d out ve r H hg hr
 show Calls Tryz.prog 144 _ w0 _
 have HP0 := Lib.hid H
 have HG0 := Lib.hid hg
 have HNN := Lib.hid hn
 have HS0 := Lib.hid (PStep.refl p (.slice none 0 0) ve w0)
 have HT0 := HS0
 have bx := cell_of_row _ _ 0 _ _ _ hg
 have hr0 : srun l n ⟨[.rule .r_factor, .rule .r_factors], i, d, out⟩ = some r := hr
 have HR0 := Lib.hid hr0
 clear H hg hn hr hr0
 go_enter Tryz.func144, Tryz.ntmps144
 have h1 := HR0.out
 cases r with
 | ok i1 d1 out1 =>
  have HX1 := Lib.hid h1
  have HC1 := Lib.hid (row_new HP0.out (.func (.func 145) #[.pointer (some ⟨p, 0, none⟩)] #[]) 145 (.pointer (some ⟨p, 0, none⟩)) (.inl rfl) (fun w => enters_ Tryz.func145 (by kernel_rfl) rfl #[(.pointer (some ⟨p, 0, none⟩))] w) [⟨#[42]⟩, ⟨#[47]⟩, ⟨#[37]⟩] 3 [.string ⟨#[42]⟩, .string ⟨#[47]⟩, .string ⟨#[37]⟩] rfl rfl (by decide) (by decide) (T := [.rule .r_factor]) (R := .r_factors) (fun cc => row_factors cc) (G_factor.body) HNN.out HX1.out)
  clear h1
  go_wp2_with (go_at_call 68; (with_reducible refine Calls.mono HC1.out ?_); rintro e w1 ⟨rfl, ve1, h2, h3⟩; have HP1 := Lib.hid h2; have HS1 := Lib.hid (HS0.out.trans h3); have HG1 := Lib.hid (mkeep (HT0.out.trans h3) HP0.out HG0.out (by decide) (by decide)); have HT1 := Lib.hid (HT0.out.trans h3); clear bx; have bx := cell_of_row _ _ 0 _ _ _ HG1.out; clear h2 h3)
  go_end0
  exact ⟨rfl, ve1, HP1.out, HS1.out⟩
 | err er jj =>
  have HX1 := Lib.hid h1
  have HC1 := Lib.hid (row_new HP0.out (.func (.func 145) #[.pointer (some ⟨p, 0, none⟩)] #[]) 145 (.pointer (some ⟨p, 0, none⟩)) (.inl rfl) (fun w => enters_ Tryz.func145 (by kernel_rfl) rfl #[(.pointer (some ⟨p, 0, none⟩))] w) [⟨#[42]⟩, ⟨#[47]⟩, ⟨#[37]⟩] 3 [.string ⟨#[42]⟩, .string ⟨#[47]⟩, .string ⟨#[37]⟩] rfl rfl (by decide) (by decide) (T := [.rule .r_factor]) (R := .r_factors) (fun cc => row_factors cc) (G_factor.body) HNN.out HX1.out)
  clear h1
  go_wp2_with (go_at_call 68; (with_reducible refine Calls.mono HC1.out ?_); rintro e w1 ⟨rfl, ve1, h3⟩; have HS1 := Lib.hid (HS0.out.trans h3); clear h3)
  exact ⟨rfl, rfl, ve1, HS1.out⟩
set_option maxRecDepth 100000 in
set_option maxHeartbeats 8000000 in
theorem g_term (l : List Tk) (N : Nat) (G_term_1 : GoodC l N 144 [.rule .r_factor, .rule .r_factors]) : Good l (N + 1) 135 [.rule .r_term] := by
 intro n0 hn W0 A c w p i d out ve r H hr
 show Calls Tryz.prog 135 _ w _
 obtain ⟨_, n, rfl, hr0⟩ := srun_on hr (s' := ⟨[.rule .r_factor, .rule .r_factors] ++ [.fin 24], i, d + 1, out ++ [evOf (1, 24)]⟩) rfl
 have HNN : Hid (n ≤ N) := Lib.hid (by omega)
 have HR0 := Lib.hid hr0
 clear hn hr hr0
 obtain ⟨w0, hw0⟩ : ∃ V, w.alloc (.cells #[.pointer (some ⟨p, 0, none⟩)] 54) = V := ⟨_, rfl⟩
 have hb0 : Below w.heap.size w w0 := by rw [← hw0]; exact (Below.refl _ w).alloc (Nat.le_refl _) _
 have hg : w0.heap[w.heap.size]? = some (.cells #[.pointer (some ⟨p, 0, none⟩)] 54 (0, 0)) := by rw [← hw0]; exact World.alloc_heap_new _ _
 have HWB := Lib.hid hw0
 have HP0 := Lib.hid (H.moved hb0)
 have HS0 := Lib.hid (PStep.below hb0 : MStep p ve w ve w0)
 have HT0 := Lib.hid (PStep.refl p (.slice none 0 0) ve w0)
 obtain ⟨g, hge⟩ : ∃ g, w.heap.size = g := ⟨_, rfl⟩
 rw [hge] at hg
 have HGE := Lib.hid hge
 have HG0 := Lib.hid hg
 have bx := cell_of_row _ _ 0 _ _ _ hg
 clear hw0 hb0 hg hge H
 go_enter Tryz.func135, Tryz.ntmps135
 go_upto_region 1 with (fail)
 rw [HWB.out, HGE.out]
 have h1 := HR0.out
 cases r with
 | ok i1 d1 out1 =>
  have HX1 := Lib.hid h1
  have HC1 := Lib.hid (node_new HP0.out 24 24 rfl (.func (.func 144) #[] #[.pointer (some ⟨g, 0, none⟩)]) 144 (.pointer (some ⟨g, 0, none⟩)) (.inr rfl) (fun w => enters_ Tryz.func144 (by kernel_rfl) rfl #[(.pointer (some ⟨g, 0, none⟩))] w) (T := [.rule .r_factor, .rule .r_factors]) (G_term_1.body HP0.out HG0.out) HNN.out HX1.out)
  clear h1
  go_wp2_with (go_at_call 33; (with_reducible refine Calls.mono HC1.out ?_); rintro e w1 ⟨rfl, ve1, h2, h3⟩; have HP1 := Lib.hid h2; have HS1 := Lib.hid (HS0.out.trans h3); have HG1 := Lib.hid (mkeep (HT0.out.trans h3) HP0.out HG0.out (by decide) (by decide)); have HT1 := Lib.hid (HT0.out.trans h3); clear bx; have bx := cell_of_row _ _ 0 _ _ _ HG1.out; clear h2 h3)
  go_end0
  exact ⟨rfl, ve1, HP1.out, HS1.out⟩
 | err er jj =>
  have HX1 := Lib.hid h1
  have HC1 := Lib.hid (node_new HP0.out 24 24 rfl (.func (.func 144) #[] #[.pointer (some ⟨g, 0, none⟩)]) 144 (.pointer (some ⟨g, 0, none⟩)) (.inr rfl) (fun w => enters_ Tryz.func144 (by kernel_rfl) rfl #[(.pointer (some ⟨g, 0, none⟩))] w) (T := [.rule .r_factor, .rule .r_factors]) (G_term_1.body HP0.out HG0.out) HNN.out HX1.out)
  clear h1
  go_wp2_with (go_at_call 33; (with_reducible refine Calls.mono HC1.out ?_); rintro e w1 ⟨rfl, ve1, h3⟩; have HS1 := Lib.hid (HS0.out.trans h3); clear h3)
  exact ⟨rfl, rfl, ve1, HS1.out⟩
set_option maxRecDepth 100000 in
set_option maxHeartbeats 8000000 in
theorem g_body_1 (l : List Tk) (N : Nat) (G_statement : Good l N 69 [.rule .r_statement]) : GoodC l N 67 [.rule .r_statement, .rule .r_statements] := by
 intro n hn W0 A c w0 p g i d out ve r H hg hr
 show Calls Tryz.prog 67 _ w0 _
 have HP0 := Lib.hid H
 have HG0 := Lib.hid hg
 have HNN := Lib.hid hn
 have HS0 := Lib.hid (PStep.refl p (.slice none 0 0) ve w0)
 have HT0 := HS0
 have bx := cell_of_row _ _ 0 _ _ _ hg
 have hr0 : srun l n ⟨[.rule .r_statement, .rule .r_statements], i, d, out⟩ = some r := hr
 have HR0 := Lib.hid hr0
 clear H hg hn hr hr0
 go_enter Tryz.func67, Tryz.ntmps67
 have h1 := HR0.out
 cases r with
 | ok i1 d1 out1 =>
  have HX1 := Lib.hid h1
  have HC1 := Lib.hid (row_new HP0.out (.func (.func 69) #[.pointer (some ⟨p, 0, none⟩)] #[]) 69 (.pointer (some ⟨p, 0, none⟩)) (.inl rfl) (fun w => enters_ Tryz.func69 (by kernel_rfl) rfl #[(.pointer (some ⟨p, 0, none⟩))] w) [⟨#[59]⟩] 1 [.string ⟨#[59]⟩] rfl rfl (by decide) (by decide) (T := [.rule .r_statement]) (R := .r_statements) (fun cc => row_statements cc) (G_statement.body) HNN.out HX1.out)
  clear h1
  go_wp2_with (go_at_call 68; (with_reducible refine Calls.mono HC1.out ?_); rintro e w1 ⟨rfl, ve1, h2, h3⟩; have HP1 := Lib.hid h2; have HS1 := Lib.hid (HS0.out.trans h3); have HG1 := Lib.hid (mkeep (HT0.out.trans h3) HP0.out HG0.out (by decide) (by decide)); have HT1 := Lib.hid (HT0.out.trans h3); clear bx; have bx := cell_of_row _ _ 0 _ _ _ HG1.out; clear h2 h3)
  go_end0
  exact ⟨rfl, ve1, HP1.out, HS1.out⟩
 | err er jj =>
  have HX1 := Lib.hid h1
  have HC1 := Lib.hid (row_new HP0.out (.func (.func 69) #[.pointer (some ⟨p, 0, none⟩)] #[]) 69 (.pointer (some ⟨p, 0, none⟩)) (.inl rfl) (fun w => enters_ Tryz.func69 (by kernel_rfl) rfl #[(.pointer (some ⟨p, 0, none⟩))] w) [⟨#[59]⟩] 1 [.string ⟨#[59]⟩] rfl rfl (by decide) (by decide) (T := [.rule .r_statement]) (R := .r_statements) (fun cc => row_statements cc) (G_statement.body) HNN.out HX1.out)
  clear h1
  go_wp2_with (go_at_call 68; (with_reducible refine Calls.mono HC1.out ?_); rintro e w1 ⟨rfl, ve1, h3⟩; have HS1 := Lib.hid (HS0.out.trans h3); clear h3)
  exact ⟨rfl, rfl, ve1, HS1.out⟩
set_option maxRecDepth 100000 in
set_option maxHeartbeats 8000000 in
theorem g_body (l : List Tk) (N : Nat) (G_body_1 : GoodC l N 67 [.rule .r_statement, .rule .r_statements]) : Good l (N + 1) 51 [.rule .r_body] := by
 intro n0 hn W0 A c w p i d out ve r H hr
 show Calls Tryz.prog 51 _ w _
 obtain ⟨_, n, rfl, hr0⟩ := srun_on hr (s' := ⟨[.rule .r_statement, .rule .r_statements] ++ [.fin 12], i, d + 1, out ++ [evOf (1, 12)]⟩) rfl
 have HNN : Hid (n ≤ N) := Lib.hid (by omega)
 have HR0 := Lib.hid hr0
 clear hn hr hr0
 obtain ⟨w0, hw0⟩ : ∃ V, w.alloc (.cells #[.pointer (some ⟨p, 0, none⟩)] 54) = V := ⟨_, rfl⟩
 have hb0 : Below w.heap.size w w0 := by rw [← hw0]; exact (Below.refl _ w).alloc (Nat.le_refl _) _
 have hg : w0.heap[w.heap.size]? = some (.cells #[.pointer (some ⟨p, 0, none⟩)] 54 (0, 0)) := by rw [← hw0]; exact World.alloc_heap_new _ _
 have HWB := Lib.hid hw0
 have HP0 := Lib.hid (H.moved hb0)
 have HS0 := Lib.hid (PStep.below hb0 : MStep p ve w ve w0)
 have HT0 := Lib.hid (PStep.refl p (.slice none 0 0) ve w0)
 obtain ⟨g, hge⟩ : ∃ g, w.heap.size = g := ⟨_, rfl⟩
 rw [hge] at hg
 have HGE := Lib.hid hge
 have HG0 := Lib.hid hg
 have bx := cell_of_row _ _ 0 _ _ _ hg
 clear hw0 hb0 hg hge H
 go_enter Tryz.func51, Tryz.ntmps51
 go_upto_region 1 with (fail)
 rw [HWB.out, HGE.out]
 have h1 := HR0.out
 cases r with
 | ok i1 d1 out1 =>
  have HX1 := Lib.hid h1
  have HC1 := Lib.hid (node_new HP0.out 12 12 rfl (.func (.func 67) #[] #[.pointer (some ⟨g, 0, none⟩)]) 67 (.pointer (some ⟨g, 0, none⟩)) (.inr rfl) (fun w => enters_ Tryz.func67 (by kernel_rfl) rfl #[(.pointer (some ⟨g, 0, none⟩))] w) (T := [.rule .r_statement, .rule .r_statements]) (G_body_1.body HP0.out HG0.out) HNN.out HX1.out)
  clear h1
  go_wp2_with (go_at_call 33; (with_reducible refine Calls.mono HC1.out ?_); rintro e w1 ⟨rfl, ve1, h2, h3⟩; have HP1 := Lib.hid h2; have HS1 := Lib.hid (HS0.out.trans h3); have HG1 := Lib.hid (mkeep (HT0.out.trans h3) HP0.out HG0.out (by decide) (by decide)); have HT1 := Lib.hid (HT0.out.trans h3); clear bx; have bx := cell_of_row _ _ 0 _ _ _ HG1.out; clear h2 h3)
  go_end0
  exact ⟨rfl, ve1, HP1.out, HS1.out⟩
 | err er jj =>
  have HX1 := Lib.hid h1
  have HC1 := Lib.hid (node_new HP0.out 12 12 rfl (.func (.func 67) #[] #[.pointer (some ⟨g, 0, none⟩)]) 67 (.pointer (some ⟨g, 0, none⟩)) (.inr rfl) (fun w => enters_ Tryz.func67 (by kernel_rfl) rfl #[(.pointer (some ⟨g, 0, none⟩))] w) (T := [.rule .r_statement, .rule .r_statements]) (G_body_1.body HP0.out HG0.out) HNN.out HX1.out)
  clear h1
  go_wp2_with (go_at_call 33; (with_reducible refine Calls.mono HC1.out ?_); rintro e w1 ⟨rfl, ve1, h3⟩; have HS1 := Lib.hid (HS0.out.trans h3); clear h3)
  exact ⟨rfl, rfl, ve1, HS1.out⟩
set_option maxRecDepth 100000 in
set_option maxHeartbeats 8000000 in
theorem g_rel (l : List Tk) (N : Nat) (G_rel_1 : GoodC l N 118 [.rule .r_sum, .rule .r_compared]) : Good l (N + 1) 91 [.rule .r_rel] := by
 intro n0 hn W0 A c w p i d out ve r H hr
 show Calls Tryz.prog 91 _ w _
 obtain ⟨_, n, rfl, hr0⟩ := srun_on hr (s' := ⟨[.rule .r_sum, .rule .r_compared] ++ [.fin 22], i, d + 1, out ++ [evOf (1, 22)]⟩) rfl
 have HNN : Hid (n ≤ N) := Lib.hid (by omega)
 have HR0 := Lib.hid hr0
 clear hn hr hr0
 obtain ⟨w0, hw0⟩ : ∃ V, w.alloc (.cells #[.pointer (some ⟨p, 0, none⟩)] 54) = V := ⟨_, rfl⟩
 have hb0 : Below w.heap.size w w0 := by rw [← hw0]; exact (Below.refl _ w).alloc (Nat.le_refl _) _
 have hg : w0.heap[w.heap.size]? = some (.cells #[.pointer (some ⟨p, 0, none⟩)] 54 (0, 0)) := by rw [← hw0]; exact World.alloc_heap_new _ _
 have HWB := Lib.hid hw0
 have HP0 := Lib.hid (H.moved hb0)
 have HS0 := Lib.hid (PStep.below hb0 : MStep p ve w ve w0)
 have HT0 := Lib.hid (PStep.refl p (.slice none 0 0) ve w0)
 obtain ⟨g, hge⟩ : ∃ g, w.heap.size = g := ⟨_, rfl⟩
 rw [hge] at hg
 have HGE := Lib.hid hge
 have HG0 := Lib.hid hg
 have bx := cell_of_row _ _ 0 _ _ _ hg
 clear hw0 hb0 hg hge H
 go_enter Tryz.func91, Tryz.ntmps91
 go_upto_region 1 with (fail)
 rw [HWB.out, HGE.out]
 have h1 := HR0.out
 cases r with
 | ok i1 d1 out1 =>
  have HX1 := Lib.hid h1
  have HC1 := Lib.hid (node_new HP0.out 22 22 rfl (.func (.func 118) #[] #[.pointer (some ⟨g, 0, none⟩)]) 118 (.pointer (some ⟨g, 0, none⟩)) (.inr rfl) (fun w => enters_ Tryz.func118 (by kernel_rfl) rfl #[(.pointer (some ⟨g, 0, none⟩))] w) (T := [.rule .r_sum, .rule .r_compared]) (G_rel_1.body HP0.out HG0.out) HNN.out HX1.out)
  clear h1
  go_wp2_with (go_at_call 33; (with_reducible refine Calls.mono HC1.out ?_); rintro e w1 ⟨rfl, ve1, h2, h3⟩; have HP1 := Lib.hid h2; have HS1 := Lib.hid (HS0.out.trans h3); have HG1 := Lib.hid (mkeep (HT0.out.trans h3) HP0.out HG0.out (by decide) (by decide)); have HT1 := Lib.hid (HT0.out.trans h3); clear bx; have bx := cell_of_row _ _ 0 _ _ _ HG1.out; clear h2 h3)
  go_end0
  exact ⟨rfl, ve1, HP1.out, HS1.out⟩
 | err er jj =>
  have HX1 := Lib.hid h1
  have HC1 := Lib.hid (node_new HP0.out 22 22 rfl (.func (.func 118) #[] #[.pointer (some ⟨g, 0, none⟩)]) 118 (.pointer (some ⟨g, 0, none⟩)) (.inr rfl) (fun w => enters_ Tryz.func118 (by kernel_rfl) rfl #[(.pointer (some ⟨g, 0, none⟩))] w) (T := [.rule .r_sum, .rule .r_compared]) (G_rel_1.body HP0.out HG0.out) HNN.out HX1.out)
  clear h1
  go_wp2_with (go_at_call 33; (with_reducible refine Calls.mono HC1.out ?_); rintro e w1 ⟨rfl, ve1, h3⟩; have HS1 := Lib.hid (HS0.out.trans h3); clear h3)
  exact ⟨rfl, rfl, ve1, HS1.out⟩
set_option maxRecDepth 100000 in
set_option maxHeartbeats 8000000 in
theorem g_object (l : List Tk) (N : Nat) (G_object_1 : GoodC l N 120 [.word ⟨#[64, 110, 97, 109, 101]⟩, .rule .r_selected]) : Good l (N + 1) 96 [.rule .r_object] := by
 intro n0 hn W0 A c w p i d out ve r H hr
 show Calls Tryz.prog 96 _ w _
 obtain ⟨_, n, rfl, hr0⟩ := srun_on hr (s' := ⟨[.word ⟨#[64, 110, 97, 109, 101]⟩, .rule .r_selected] ++ [.fin 28], i, d + 1, out ++ [evOf (1, 28)]⟩) rfl
 have HNN : Hid (n ≤ N) := Lib.hid (by omega)
 have HR0 := Lib.hid hr0
 clear hn hr hr0
 obtain ⟨w0, hw0⟩ : ∃ V, w.alloc (.cells #[.pointer (some ⟨p, 0, none⟩)] 54) = V := ⟨_, rfl⟩
 have hb0 : Below w.heap.size w w0 := by rw [← hw0]; exact (Below.refl _ w).alloc (Nat.le_refl _) _
 have hg : w0.heap[w.heap.size]? = some (.cells #[.pointer (some ⟨p, 0, none⟩)] 54 (0, 0)) := by rw [← hw0]; exact World.alloc_heap_new _ _
 have HWB := Lib.hid hw0
 have HP0 := Lib.hid (H.moved hb0)
 have HS0 := Lib.hid (PStep.below hb0 : MStep p ve w ve w0)
 have HT0 := Lib.hid (PStep.refl p (.slice none 0 0) ve w0)
 obtain ⟨g, hge⟩ : ∃ g, w.heap.size = g := ⟨_, rfl⟩
 rw [hge] at hg
 have HGE := Lib.hid hge
 have HG0 := Lib.hid hg
 have bx := cell_of_row _ _ 0 _ _ _ hg
 clear hw0 hb0 hg hge H
 go_enter Tryz.func96, Tryz.ntmps96
 go_upto_region 1 with (fail)
 rw [HWB.out, HGE.out]
 have h1 := HR0.out
 cases r with
 | ok i1 d1 out1 =>
  have HX1 := Lib.hid h1
  have HC1 := Lib.hid (node_new HP0.out 28 28 rfl (.func (.func 120) #[] #[.pointer (some ⟨g, 0, none⟩)]) 120 (.pointer (some ⟨g, 0, none⟩)) (.inr rfl) (fun w => enters_ Tryz.func120 (by kernel_rfl) rfl #[(.pointer (some ⟨g, 0, none⟩))] w) (T := [.word ⟨#[64, 110, 97, 109, 101]⟩, .rule .r_selected]) (G_object_1.body HP0.out HG0.out) HNN.out HX1.out)
  clear h1
  go_wp2_with (go_at_call 33; (with_reducible refine Calls.mono HC1.out ?_); rintro e w1 ⟨rfl, ve1, h2, h3⟩; have HP1 := Lib.hid h2; have HS1 := Lib.hid (HS0.out.trans h3); have HG1 := Lib.hid (mkeep (HT0.out.trans h3) HP0.out HG0.out (by decide) (by decide)); have HT1 := Lib.hid (HT0.out.trans h3); clear bx; have bx := cell_of_row _ _ 0 _ _ _ HG1.out; clear h2 h3)
  go_end0
  exact ⟨rfl, ve1, HP1.out, HS1.out⟩
 | err er jj =>
  have HX1 := Lib.hid h1
  have HC1 := Lib.hid (node_new HP0.out 28 28 rfl (.func (.func 120) #[] #[.pointer (some ⟨g, 0, none⟩)]) 120 (.pointer (some ⟨g, 0, none⟩)) (.inr rfl) (fun w => enters_ Tryz.func120 (by kernel_rfl) rfl #[(.pointer (some ⟨g, 0, none⟩))] w) (T := [.word ⟨#[64, 110, 97, 109, 101]⟩, .rule .r_selected]) (G_object_1.body HP0.out HG0.out) HNN.out HX1.out)
  clear h1
  go_wp2_with (go_at_call 33; (with_reducible refine Calls.mono HC1.out ?_); rintro e w1 ⟨rfl, ve1, h3⟩; have HS1 := Lib.hid (HS0.out.trans h3); clear h3)
  exact ⟨rfl, rfl, ve1, HS1.out⟩
set_option maxRecDepth 100000 in
set_option maxHeartbeats 8000000 in
theorem g_block (l : List Tk) (N : Nat) (G_block_1 : GoodC l N 49 [.rule .r_declarations, .word ⟨#[98, 101, 103, 105, 110]⟩, .rule .r_body, .word ⟨#[101, 110, 100]⟩]) : Good l (N + 1) 38 [.rule .r_block] := by
 intro n0 hn W0 A c w p i d out ve r H hr
 show Calls Tryz.prog 38 _ w _
 obtain ⟨_, n, rfl, hr0⟩ := srun_on hr (s' := ⟨[.rule .r_declarations, .word ⟨#[98, 101, 103, 105, 110]⟩, .rule .r_body, .word ⟨#[101, 110, 100]⟩] ++ [.fin 2], i, d + 1, out ++ [evOf (1, 2)]⟩) rfl
 have HNN : Hid (n ≤ N) := Lib.hid (by omega)
 have HR0 := Lib.hid hr0
 clear hn hr hr0
 obtain ⟨w0, hw0⟩ : ∃ V, w.alloc (.cells #[.pointer (some ⟨p, 0, none⟩)] 54) = V := ⟨_, rfl⟩
 have hb0 : Below w.heap.size w w0 := by rw [← hw0]; exact (Below.refl _ w).alloc (Nat.le_refl _) _
 have hg : w0.heap[w.heap.size]? = some (.cells #[.pointer (some ⟨p, 0, none⟩)] 54 (0, 0)) := by rw [← hw0]; exact World.alloc_heap_new _ _
 have HWB := Lib.hid hw0
 have HP0 := Lib.hid (H.moved hb0)
 have HS0 := Lib.hid (PStep.below hb0 : MStep p ve w ve w0)
 have HT0 := Lib.hid (PStep.refl p (.slice none 0 0) ve w0)
 obtain ⟨g, hge⟩ : ∃ g, w.heap.size = g := ⟨_, rfl⟩
 rw [hge] at hg
 have HGE := Lib.hid hge
 have HG0 := Lib.hid hg
 have bx := cell_of_row _ _ 0 _ _ _ hg
 clear hw0 hb0 hg hge H
 go_enter Tryz.func38, Tryz.ntmps38
 go_upto_region 1 with (fail)
 rw [HWB.out, HGE.out]
 have h1 := HR0.out
 cases r with
 | ok i1 d1 out1 =>
  have HX1 := Lib.hid h1
  have HC1 := Lib.hid (node_new HP0.out 2 2 rfl (.func (.func 49) #[] #[.pointer (some ⟨g, 0, none⟩)]) 49 (.pointer (some ⟨g, 0, none⟩)) (.inr rfl) (fun w => enters_ Tryz.func49 (by kernel_rfl) rfl #[(.pointer (some ⟨g, 0, none⟩))] w) (T := [.rule .r_declarations, .word ⟨#[98, 101, 103, 105, 110]⟩, .rule .r_body, .word ⟨#[101, 110, 100]⟩]) (G_block_1.body HP0.out HG0.out) HNN.out HX1.out)
  clear h1
  go_wp2_with (go_at_call 33; (with_reducible refine Calls.mono HC1.out ?_); rintro e w1 ⟨rfl, ve1, h2, h3⟩; have HP1 := Lib.hid h2; have HS1 := Lib.hid (HS0.out.trans h3); have HG1 := Lib.hid (mkeep (HT0.out.trans h3) HP0.out HG0.out (by decide) (by decide)); have HT1 := Lib.hid (HT0.out.trans h3); clear bx; have bx := cell_of_row _ _ 0 _ _ _ HG1.out; clear h2 h3)
  go_end0
  exact ⟨rfl, ve1, HP1.out, HS1.out⟩
 | err er jj =>
  have HX1 := Lib.hid h1
  have HC1 := Lib.hid (node_new HP0.out 2 2 rfl (.func (.func 49) #[] #[.pointer (some ⟨g, 0, none⟩)]) 49 (.pointer (some ⟨g, 0, none⟩)) (.inr rfl) (fun w => enters_ Tryz.func49 (by kernel_rfl) rfl #[(.pointer (some ⟨g, 0, none⟩))] w) (T := [.rule .r_declarations, .word ⟨#[98, 101, 103, 105, 110]⟩, .rule .r_body, .word ⟨#[101, 110, 100]⟩]) (G_block_1.body HP0.out HG0.out) HNN.out HX1.out)
  clear h1
  go_wp2_with (go_at_call 33; (with_reducible refine Calls.mono HC1.out ?_); rintro e w1 ⟨rfl, ve1, h3⟩; have HS1 := Lib.hid (HS0.out.trans h3); clear h3)
  exact ⟨rfl, rfl, ve1, HS1.out⟩
end Go.Proofs.YtmjbpgnjgblnmaaGreat
namespace Go.Proofs.YtmjbpgnjgblnmaaGreat
open Go.RowKit Go.Proofs.YtmjbpgnjgblnmaaGreatW.PrintWords Go.Proofs.YtmjbpgnjgblnmaaGreatW.PrintLast Go.Proofs.YtmjbpgnjgblnmaaGreatW.PrintMore
set_option maxRecDepth 100000 in
set_option maxHeartbeats 8000000 in
theorem g_declaration_1 (l : List Tk) (N : Nat) (G_typed : Good l N 63 [.word ⟨#[64, 110, 97, 109, 101]⟩, .rule .r_names, .word ⟨#[58]⟩, .rule .r_kind]) : GoodC l N 62 [.word ⟨#[118, 97, 114]⟩, .word ⟨#[64, 110, 97, 109, 101]⟩, .rule .r_names, .word ⟨#[58]⟩, .rule .r_kind, .word ⟨#[59]⟩] := by
 intro n hn W0 A c w0 p g i d out ve r H hg hr
 show Calls Tryz.prog 62 _ w0 _
 have HP0 := Lib.hid H
 have HG0 := Lib.hid hg
 have HNN := Lib.hid hn
 have HS0 := Lib.hid (PStep.refl p (.slice none 0 0) ve w0)
 have HT0 := HS0
 have bx := cell_of_row _ _ 0 _ _ _ hg
 have hr0 : srun l n ⟨([.word ⟨#[118, 97, 114]⟩] ++ ([.word ⟨#[64, 110, 97, 109, 101]⟩, .rule .r_names, .word ⟨#[58]⟩, .rule .r_kind] ++ [.word ⟨#[59]⟩])), i, d, out⟩ = some r := hr
 have HR0 := Lib.hid hr0
 clear H hg hn hr hr0
 go_enter Tryz.func62, Tryz.ntmps62
 rcases srun_app l n [.word ⟨#[118, 97, 114]⟩] ([.word ⟨#[64, 110, 97, 109, 101]⟩, .rule .r_names, .word ⟨#[58]⟩, .rule .r_kind] ++ [.word ⟨#[59]⟩]) i d out r HR0.out with ⟨er, jj, rfl, h1⟩ | ⟨i1, d1, out1, h1, hr1⟩
 ·skip
  have HX1 := Lib.hid h1
  have HC1 := Lib.hid (words_new HP0.out [⟨#[118, 97, 114]⟩] 1 [.string ⟨#[118, 97, 114]⟩] rfl rfl (by decide) (by decide) HX1.out)
  clear h1
  go_wp2_with (go_at_call 36; (with_reducible refine Calls.mono HC1.out ?_); rintro e w1 ⟨rfl, ve1, h3⟩; have HS1 := Lib.hid (HS0.out.trans h3); clear h3)
  exact ⟨rfl, rfl, ve1, HS1.out⟩
 have HR1 := Lib.hid hr1
 clear hr1
 have HX1 := Lib.hid h1
 have HC1 := Lib.hid (words_new HP0.out [⟨#[118, 97, 114]⟩] 1 [.string ⟨#[118, 97, 114]⟩] rfl rfl (by decide) (by decide) HX1.out)
 clear h1
 go_wp2_with (go_at_call 36; (with_reducible refine Calls.mono HC1.out ?_); rintro e w1 ⟨rfl, ve1, h2, h3⟩; have HP1 := Lib.hid h2; have HS1 := Lib.hid (HS0.out.trans h3); have HG1 := Lib.hid (mkeep (HT0.out.trans h3) HP0.out HG0.out (by decide) (by decide)); have HT1 := Lib.hid (HT0.out.trans h3); clear bx; have bx := cell_of_row _ _ 0 _ _ _ HG1.out; clear h2 h3)
 rcases srun_app l n [.word ⟨#[64, 110, 97, 109, 101]⟩, .rule .r_names, .word ⟨#[58]⟩, .rule .r_kind] [.word ⟨#[59]⟩] i1 d1 out1 r HR1.out with ⟨er, jj, rfl, h2⟩ | ⟨i2, d2, out2, h2, hr2⟩
 ·skip
  have HX2 := Lib.hid h2
  have HC2 := Lib.hid (G_typed n HNN.out W0 A c w1 p i1 d1 out1 ve1 _ HP1.out HX2.out)
  clear h2
  go_wp2_with (go_at_call 63; (with_reducible refine Calls.mono HC2.out ?_); rintro e w2 ⟨rfl, ve2, h3⟩; have HS2 := Lib.hid (HS1.out.trans h3); clear h3)
  exact ⟨rfl, rfl, ve2, HS2.out⟩
 have HR2 := Lib.hid hr2
 clear hr2
 have HX2 := Lib.hid h2
 have HC2 := Lib.hid (G_typed n HNN.out W0 A c w1 p i1 d1 out1 ve1 _ HP1.out HX2.out)
 clear h2
 go_wp2_with (go_at_call 63; (with_reducible refine Calls.mono HC2.out ?_); rintro e w2 ⟨rfl, ve2, h2, h3⟩; have HP2 := Lib.hid h2; have HS2 := Lib.hid (HS1.out.trans h3); have HG2 := Lib.hid (mkeep (HT1.out.trans h3) HP0.out HG0.out (by decide) (by decide)); have HT2 := Lib.hid (HT1.out.trans h3); clear bx; have bx := cell_of_row _ _ 0 _ _ _ HG2.out; clear h2 h3)
 have h3 := HR2.out
 cases r with
 | ok i3 d3 out3 =>
  have HX3 := Lib.hid h3
  have HC3 := Lib.hid (words_new HP2.out [⟨#[59]⟩] 1 [.string ⟨#[59]⟩] rfl rfl (by decide) (by decide) HX3.out)
  clear h3
  go_wp2_with (go_at_call 36; (with_reducible refine Calls.mono HC3.out ?_); rintro e w3 ⟨rfl, ve3, h2, h3⟩; have HP3 := Lib.hid h2; have HS3 := Lib.hid (HS2.out.trans h3); have HG3 := Lib.hid (mkeep (HT2.out.trans h3) HP0.out HG0.out (by decide) (by decide)); have HT3 := Lib.hid (HT2.out.trans h3); clear bx; have bx := cell_of_row _ _ 0 _ _ _ HG3.out; clear h2 h3)
  go_end0
  exact ⟨rfl, ve3, HP3.out, HS3.out⟩
 | err er jj =>
  have HX3 := Lib.hid h3
  have HC3 := Lib.hid (words_new HP2.out [⟨#[59]⟩] 1 [.string ⟨#[59]⟩] rfl rfl (by decide) (by decide) HX3.out)
  clear h3
  go_wp2_with (go_at_call 36; (with_reducible refine Calls.mono HC3.out ?_); rintro e w3 ⟨rfl, ve3, h3⟩; have HS3 := Lib.hid (HS2.out.trans h3); clear h3)
  exact ⟨rfl, rfl, ve3, HS3.out⟩
set_option maxRecDepth 100000 in
set_option maxHeartbeats 8000000 in
theorem g_declaration_2 (l : List Tk) (N : Nat) (G_expr : Good l N 65 [.rule .r_expr]) : GoodC l N 64 [.word ⟨#[99, 111, 110, 115, 116]⟩, .word ⟨#[64, 110, 97, 109, 101]⟩, .word ⟨#[61]⟩, .rule .r_expr, .word ⟨#[59]⟩] := by
 intro n hn W0 A c w0 p g i d out ve r H hg hr
 show Calls Tryz.prog 64 _ w0 _
 have HP0 := Lib.hid H
 have HG0 := Lib.hid hg
 have HNN := Lib.hid hn
 have HS0 := Lib.hid (PStep.refl p (.slice none 0 0) ve w0)
 have HT0 := HS0
 have bx := cell_of_row _ _ 0 _ _ _ hg
 have hr0 : srun l n ⟨([.word ⟨#[99, 111, 110, 115, 116]⟩] ++ ([.word ⟨#[64, 110, 97, 109, 101]⟩] ++ ([.word ⟨#[61]⟩] ++ ([.rule .r_expr] ++ [.word ⟨#[59]⟩])))), i, d, out⟩ = some r := hr
 have HR0 := Lib.hid hr0
 clear H hg hn hr hr0
 go_enter Tryz.func64, Tryz.ntmps64
 rcases srun_app l n [.word ⟨#[99, 111, 110, 115, 116]⟩] ([.word ⟨#[64, 110, 97, 109, 101]⟩] ++ ([.word ⟨#[61]⟩] ++ ([.rule .r_expr] ++ [.word ⟨#[59]⟩]))) i d out r HR0.out with ⟨er, jj, rfl, h1⟩ | ⟨i1, d1, out1, h1, hr1⟩
 ·skip
  have HX1 := Lib.hid h1
  have HC1 := Lib.hid (words_new HP0.out [⟨#[99, 111, 110, 115, 116]⟩] 1 [.string ⟨#[99, 111, 110, 115, 116]⟩] rfl rfl (by decide) (by decide) HX1.out)
  clear h1
  go_wp2_with (go_at_call 36; (with_reducible refine Calls.mono HC1.out ?_); rintro e w1 ⟨rfl, ve1, h3⟩; have HS1 := Lib.hid (HS0.out.trans h3); clear h3)
  exact ⟨rfl, rfl, ve1, HS1.out⟩
 have HR1 := Lib.hid hr1
 clear hr1
 have HX1 := Lib.hid h1
 have HC1 := Lib.hid (words_new HP0.out [⟨#[99, 111, 110, 115, 116]⟩] 1 [.string ⟨#[99, 111, 110, 115, 116]⟩] rfl rfl (by decide) (by decide) HX1.out)
 clear h1
 go_wp2_with (go_at_call 36; (with_reducible refine Calls.mono HC1.out ?_); rintro e w1 ⟨rfl, ve1, h2, h3⟩; have HP1 := Lib.hid h2; have HS1 := Lib.hid (HS0.out.trans h3); have HG1 := Lib.hid (mkeep (HT0.out.trans h3) HP0.out HG0.out (by decide) (by decide)); have HT1 := Lib.hid (HT0.out.trans h3); clear bx; have bx := cell_of_row _ _ 0 _ _ _ HG1.out; clear h2 h3)
 rcases srun_app l n [.word ⟨#[64, 110, 97, 109, 101]⟩] ([.word ⟨#[61]⟩] ++ ([.rule .r_expr] ++ [.word ⟨#[59]⟩])) i1 d1 out1 r HR1.out with ⟨er, jj, rfl, h2⟩ | ⟨i2, d2, out2, h2, hr2⟩
 ·skip
  have HX2 := Lib.hid h2
  have HC2 := Lib.hid (name_any l N n HNN.out W0 A c w1 p i1 d1 out1 ve1 _ HP1.out HX2.out)
  clear h2
  go_wp2_with (go_at_call 37; (with_reducible refine Calls.mono HC2.out ?_); rintro e w2 ⟨rfl, ve2, h3⟩; have HS2 := Lib.hid (HS1.out.trans h3); clear h3)
  exact ⟨rfl, rfl, ve2, HS2.out⟩
 have HR2 := Lib.hid hr2
 clear hr2
 have HX2 := Lib.hid h2
 have HC2 := Lib.hid (name_any l N n HNN.out W0 A c w1 p i1 d1 out1 ve1 _ HP1.out HX2.out)
 clear h2
 go_wp2_with (go_at_call 37; (with_reducible refine Calls.mono HC2.out ?_); rintro e w2 ⟨rfl, ve2, h2, h3⟩; have HP2 := Lib.hid h2; have HS2 := Lib.hid (HS1.out.trans h3); have HG2 := Lib.hid (mkeep (HT1.out.trans h3) HP0.out HG0.out (by decide) (by decide)); have HT2 := Lib.hid (HT1.out.trans h3); clear bx; have bx := cell_of_row _ _ 0 _ _ _ HG2.out; clear h2 h3)
 rcases srun_app l n [.word ⟨#[61]⟩] ([.rule .r_expr] ++ [.word ⟨#[59]⟩]) i2 d2 out2 r HR2.out with ⟨er, jj, rfl, h3⟩ | ⟨i3, d3, out3, h3, hr3⟩
 ·skip
  have HX3 := Lib.hid h3
  have HC3 := Lib.hid (words_new HP2.out [⟨#[61]⟩] 1 [.string ⟨#[61]⟩] rfl rfl (by decide) (by decide) HX3.out)
  clear h3
  go_wp2_with (go_at_call 36; (with_reducible refine Calls.mono HC3.out ?_); rintro e w3 ⟨rfl, ve3, h3⟩; have HS3 := Lib.hid (HS2.out.trans h3); clear h3)
  exact ⟨rfl, rfl, ve3, HS3.out⟩
 have HR3 := Lib.hid hr3
 clear hr3
 have HX3 := Lib.hid h3
 have HC3 := Lib.hid (words_new HP2.out [⟨#[61]⟩] 1 [.string ⟨#[61]⟩] rfl rfl (by decide) (by decide) HX3.out)
 clear h3
 go_wp2_with (go_at_call 36; (with_reducible refine Calls.mono HC3.out ?_); rintro e w3 ⟨rfl, ve3, h2, h3⟩; have HP3 := Lib.hid h2; have HS3 := Lib.hid (HS2.out.trans h3); have HG3 := Lib.hid (mkeep (HT2.out.trans h3) HP0.out HG0.out (by decide) (by decide)); have HT3 := Lib.hid (HT2.out.trans h3); clear bx; have bx := cell_of_row _ _ 0 _ _ _ HG3.out; clear h2 h3)
 rcases srun_app l n [.rule .r_expr] [.word ⟨#[59]⟩] i3 d3 out3 r HR3.out with ⟨er, jj, rfl, h4⟩ | ⟨i4, d4, out4, h4, hr4⟩
 ·skip
  have HX4 := Lib.hid h4
  have HC4 := Lib.hid (G_expr n HNN.out W0 A c w3 p i3 d3 out3 ve3 _ HP3.out HX4.out)
  clear h4
  go_wp2_with (go_at_call 65; (with_reducible refine Calls.mono HC4.out ?_); rintro e w4 ⟨rfl, ve4, h3⟩; have HS4 := Lib.hid (HS3.out.trans h3); clear h3)
  exact ⟨rfl, rfl, ve4, HS4.out⟩
 have HR4 := Lib.hid hr4
 clear hr4
 have HX4 := Lib.hid h4
 have HC4 := Lib.hid (G_expr n HNN.out W0 A c w3 p i3 d3 out3 ve3 _ HP3.out HX4.out)
 clear h4
 go_wp2_with (go_at_call 65; (with_reducible refine Calls.mono HC4.out ?_); rintro e w4 ⟨rfl, ve4, h2, h3⟩; have HP4 := Lib.hid h2; have HS4 := Lib.hid (HS3.out.trans h3); have HG4 := Lib.hid (mkeep (HT3.out.trans h3) HP0.out HG0.out (by decide) (by decide)); have HT4 := Lib.hid (HT3.out.trans h3); clear bx; have bx := cell_of_row _ _ 0 _ _ _ HG4.out; clear h2 h3)
 have h5 := HR4.out
 cases r with
 | ok i5 d5 out5 =>
  have HX5 := Lib.hid h5
  have HC5 := Lib.hid (words_new HP4.out [⟨#[59]⟩] 1 [.string ⟨#[59]⟩] rfl rfl (by decide) (by decide) HX5.out)
  clear h5
  go_wp2_with (go_at_call 36; (with_reducible refine Calls.mono HC5.out ?_); rintro e w5 ⟨rfl, ve5, h2, h3⟩; have HP5 := Lib.hid h2; have HS5 := Lib.hid (HS4.out.trans h3); have HG5 := Lib.hid (mkeep (HT4.out.trans h3) HP0.out HG0.out (by decide) (by decide)); have HT5 := Lib.hid (HT4.out.trans h3); clear bx; have bx := cell_of_row _ _ 0 _ _ _ HG5.out; clear h2 h3)
  go_end0
  exact ⟨rfl, ve5, HP5.out, HS5.out⟩
 | err er jj =>
  have HX5 := Lib.hid h5
  have HC5 := Lib.hid (words_new HP4.out [⟨#[59]⟩] 1 [.string ⟨#[59]⟩] rfl rfl (by decide) (by decide) HX5.out)
  clear h5
  go_wp2_with (go_at_call 36; (with_reducible refine Calls.mono HC5.out ?_); rintro e w5 ⟨rfl, ve5, h3⟩; have HS5 := Lib.hid (HS4.out.trans h3); clear h3)
  exact ⟨rfl, rfl, ve5, HS5.out⟩
set_option maxRecDepth 100000 in
set_option maxHeartbeats 8000000 in
theorem g_proc_1 (l : List Tk) (N : Nat) (G_proc_1_1 : GoodC l N 93 [.rule .r_param]) : GoodC l N 92 [.word ⟨#[40]⟩, .rule .r_param, .rule .r_moreParams, .word ⟨#[41]⟩] := by
 intro n hn W0 A c w0 p g i d out ve r H hg hr
 show Calls Tryz.prog 92 _ w0 _
 have HP0 := Lib.hid H
 have HG0 := Lib.hid hg
 have HNN := Lib.hid hn
 have HS0 := Lib.hid (PStep.refl p (.slice none 0 0) ve w0)
 have HT0 := HS0
 have bx := cell_of_row _ _ 0 _ _ _ hg
 have hr0 : srun l n ⟨([.word ⟨#[40]⟩] ++ ([.rule .r_param, .rule .r_moreParams] ++ [.word ⟨#[41]⟩])), i, d, out⟩ = some r := hr
 have HR0 := Lib.hid hr0
 clear H hg hn hr hr0
 go_enter Tryz.func92, Tryz.ntmps92
 rcases srun_app l n [.word ⟨#[40]⟩] ([.rule .r_param, .rule .r_moreParams] ++ [.word ⟨#[41]⟩]) i d out r HR0.out with ⟨er, jj, rfl, h1⟩ | ⟨i1, d1, out1, h1, hr1⟩
 ·skip
  have HX1 := Lib.hid h1
  have HC1 := Lib.hid (words_new HP0.out [⟨#[40]⟩] 1 [.string ⟨#[40]⟩] rfl rfl (by decide) (by decide) HX1.out)
  clear h1
  go_wp2_with (go_at_call 36; (with_reducible refine Calls.mono HC1.out ?_); rintro e w1 ⟨rfl, ve1, h3⟩; have HS1 := Lib.hid (HS0.out.trans h3); clear h3)
  exact ⟨rfl, rfl, ve1, HS1.out⟩
 have HR1 := Lib.hid hr1
 clear hr1
 have HX1 := Lib.hid h1
 have HC1 := Lib.hid (words_new HP0.out [⟨#[40]⟩] 1 [.string ⟨#[40]⟩] rfl rfl (by decide) (by decide) HX1.out)
 clear h1
 go_wp2_with (go_at_call 36; (with_reducible refine Calls.mono HC1.out ?_); rintro e w1 ⟨rfl, ve1, h2, h3⟩; have HP1 := Lib.hid h2; have HS1 := Lib.hid (HS0.out.trans h3); have HG1 := Lib.hid (mkeep (HT0.out.trans h3) HP0.out HG0.out (by decide) (by decide)); have HT1 := Lib.hid (HT0.out.trans h3); clear bx; have bx := cell_of_row _ _ 0 _ _ _ HG1.out; clear h2 h3)
 rcases srun_app l n [.rule .r_param, .rule .r_moreParams] [.word ⟨#[41]⟩] i1 d1 out1 r HR1.out with ⟨er, jj, rfl, h2⟩ | ⟨i2, d2, out2, h2, hr2⟩
 ·skip
  have HX2 := Lib.hid h2
  have HC2 := Lib.hid (row_new HP1.out (.func (.func 93) #[] #[.pointer (some ⟨g, 0, none⟩)]) 93 (.pointer (some ⟨g, 0, none⟩)) (.inr rfl) (fun w => enters_ Tryz.func93 (by kernel_rfl) rfl #[(.pointer (some ⟨g, 0, none⟩))] w) [⟨#[59]⟩] 1 [.string ⟨#[59]⟩] rfl rfl (by decide) (by decide) (T := [.rule .r_param]) (R := .r_moreParams) (fun cc => row_moreParams cc) (G_proc_1_1.body HP1.out HG1.out) HNN.out HX2.out)
  clear h2
  go_wp2_with (go_at_call 68; (with_reducible refine Calls.mono HC2.out ?_); rintro e w2 ⟨rfl, ve2, h3⟩; have HS2 := Lib.hid (HS1.out.trans h3); clear h3)
  exact ⟨rfl, rfl, ve2, HS2.out⟩
 have HR2 := Lib.hid hr2
 clear hr2
 have HX2 := Lib.hid h2
 have HC2 := Lib.hid (row_new HP1.out (.func (.func 93) #[] #[.pointer (some ⟨g, 0, none⟩)]) 93 (.pointer (some ⟨g, 0, none⟩)) (.inr rfl) (fun w => enters_ Tryz.func93 (by kernel_rfl) rfl #[(.pointer (some ⟨g, 0, none⟩))] w) [⟨#[59]⟩] 1 [.string ⟨#[59]⟩] rfl rfl (by decide) (by decide) (T := [.rule .r_param]) (R := .r_moreParams) (fun cc => row_moreParams cc) (G_proc_1_1.body HP1.out HG1.out) HNN.out HX2.out)
 clear h2
 go_wp2_with (go_at_call 68; (with_reducible refine Calls.mono HC2.out ?_); rintro e w2 ⟨rfl, ve2, h2, h3⟩; have HP2 := Lib.hid h2; have HS2 := Lib.hid (HS1.out.trans h3); have HG2 := Lib.hid (mkeep (HT1.out.trans h3) HP0.out HG0.out (by decide) (by decide)); have HT2 := Lib.hid (HT1.out.trans h3); clear bx; have bx := cell_of_row _ _ 0 _ _ _ HG2.out; clear h2 h3)
 have h3 := HR2.out
 cases r with
 | ok i3 d3 out3 =>
  have HX3 := Lib.hid h3
  have HC3 := Lib.hid (words_new HP2.out [⟨#[41]⟩] 1 [.string ⟨#[41]⟩] rfl rfl (by decide) (by decide) HX3.out)
  clear h3
  go_wp2_with (go_at_call 36; (with_reducible refine Calls.mono HC3.out ?_); rintro e w3 ⟨rfl, ve3, h2, h3⟩; have HP3 := Lib.hid h2; have HS3 := Lib.hid (HS2.out.trans h3); have HG3 := Lib.hid (mkeep (HT2.out.trans h3) HP0.out HG0.out (by decide) (by decide)); have HT3 := Lib.hid (HT2.out.trans h3); clear bx; have bx := cell_of_row _ _ 0 _ _ _ HG3.out; clear h2 h3)
  go_end0
  exact ⟨rfl, ve3, HP3.out, HS3.out⟩
 | err er jj =>
  have HX3 := Lib.hid h3
  have HC3 := Lib.hid (words_new HP2.out [⟨#[41]⟩] 1 [.string ⟨#[41]⟩] rfl rfl (by decide) (by decide) HX3.out)
  clear h3
  go_wp2_with (go_at_call 36; (with_reducible refine Calls.mono HC3.out ?_); rintro e w3 ⟨rfl, ve3, h3⟩; have HS3 := Lib.hid (HS2.out.trans h3); clear h3)
  exact ⟨rfl, rfl, ve3, HS3.out⟩
set_option maxRecDepth 100000 in
set_option maxHeartbeats 8000000 in
theorem g_proc_1_1 (l : List Tk) (N : Nat) (G_typed : Good l N 63 [.word ⟨#[64, 110, 97, 109, 101]⟩, .rule .r_names, .word ⟨#[58]⟩, .rule .r_kind]) : GoodC l (N + 1) 93 [.rule .r_param] := by
 intro n0 hn W0 A c w0 p g i d out ve r H hg hr
 show Calls Tryz.prog 93 _ w0 _
 obtain ⟨_, n, rfl, hr0⟩ := srun_on hr (s' := ⟨[.word ⟨#[64, 110, 97, 109, 101]⟩, .rule .r_names, .word ⟨#[58]⟩, .rule .r_kind] ++ [.fin 7], i, d + 1, out ++ [evOf (1, 7)]⟩) rfl
 have HP0 := Lib.hid H
 have HG0 := Lib.hid hg
 have HNN : Hid (n ≤ N) := Lib.hid (by omega)
 have HS0 := Lib.hid (PStep.refl p (.slice none 0 0) ve w0)
 have HT0 := HS0
 have bx := cell_of_row _ _ 0 _ _ _ hg
 have HR0 := Lib.hid hr0
 clear H hg hn hr hr0
 go_enter Tryz.func93, Tryz.ntmps93
 have h1 := HR0.out
 cases r with
 | ok i1 d1 out1 =>
  have HX1 := Lib.hid h1
  have HC1 := Lib.hid (node_new HP0.out 7 7 rfl (.func (.func 63) #[.pointer (some ⟨p, 0, none⟩)] #[]) 63 (.pointer (some ⟨p, 0, none⟩)) (.inl rfl) (fun w => enters_ Tryz.func63 (by kernel_rfl) rfl #[(.pointer (some ⟨p, 0, none⟩))] w) (T := [.word ⟨#[64, 110, 97, 109, 101]⟩, .rule .r_names, .word ⟨#[58]⟩, .rule .r_kind]) (G_typed.body) HNN.out HX1.out)
  clear h1
  go_wp2_with (go_at_call 33; (with_reducible refine Calls.mono HC1.out ?_); rintro e w1 ⟨rfl, ve1, h2, h3⟩; have HP1 := Lib.hid h2; have HS1 := Lib.hid (HS0.out.trans h3); have HG1 := Lib.hid (mkeep (HT0.out.trans h3) HP0.out HG0.out (by decide) (by decide)); have HT1 := Lib.hid (HT0.out.trans h3); clear bx; have bx := cell_of_row _ _ 0 _ _ _ HG1.out; clear h2 h3)
  go_end0
  exact ⟨rfl, ve1, HP1.out, HS1.out⟩
 | err er jj =>
  have HX1 := Lib.hid h1
  have HC1 := Lib.hid (node_new HP0.out 7 7 rfl (.func (.func 63) #[.pointer (some ⟨p, 0, none⟩)] #[]) 63 (.pointer (some ⟨p, 0, none⟩)) (.inl rfl) (fun w => enters_ Tryz.func63 (by kernel_rfl) rfl #[(.pointer (some ⟨p, 0, none⟩))] w) (T := [.word ⟨#[64, 110, 97, 109, 101]⟩, .rule .r_names, .word ⟨#[58]⟩, .rule .r_kind]) (G_typed.body) HNN.out HX1.out)
  clear h1
  go_wp2_with (go_at_call 33; (with_reducible refine Calls.mono HC1.out ?_); rintro e w1 ⟨rfl, ve1, h3⟩; have HS1 := Lib.hid (HS0.out.trans h3); clear h3)
  exact ⟨rfl, rfl, ve1, HS1.out⟩
set_option maxRecDepth 100000 in
set_option maxHeartbeats 8000000 in
theorem g_kind_2_1 (l : List Tk) (N : Nat) (G_typed : Good l N 63 [.word ⟨#[64, 110, 97, 109, 101]⟩, .rule .r_names, .word ⟨#[58]⟩, .rule .r_kind]) : GoodC l (N + 1) 117 [.rule .r_member] := by
 intro n0 hn W0 A c w0 p g i d out ve r H hg hr
 show Calls Tryz.prog 117 _ w0 _
 obtain ⟨_, n, rfl, hr0⟩ := srun_on hr (s' := ⟨[.word ⟨#[64, 110, 97, 109, 101]⟩, .rule .r_names, .word ⟨#[58]⟩, .rule .r_kind] ++ [.fin 11], i, d + 1, out ++ [evOf (1, 11)]⟩) rfl
 have HP0 := Lib.hid H
 have HG0 := Lib.hid hg
 have HNN : Hid (n ≤ N) := Lib.hid (by omega)
 have HS0 := Lib.hid (PStep.refl p (.slice none 0 0) ve w0)
 have HT0 := HS0
 have bx := cell_of_row _ _ 0 _ _ _ hg
 have HR0 := Lib.hid hr0
 clear H hg hn hr hr0
 go_enter Tryz.func117, Tryz.ntmps117
 have h1 := HR0.out
 cases r with
 | ok i1 d1 out1 =>
  have HX1 := Lib.hid h1
  have HC1 := Lib.hid (node_new HP0.out 11 11 rfl (.func (.func 63) #[.pointer (some ⟨p, 0, none⟩)] #[]) 63 (.pointer (some ⟨p, 0, none⟩)) (.inl rfl) (fun w => enters_ Tryz.func63 (by kernel_rfl) rfl #[(.pointer (some ⟨p, 0, none⟩))] w) (T := [.word ⟨#[64, 110, 97, 109, 101]⟩, .rule .r_names, .word ⟨#[58]⟩, .rule .r_kind]) (G_typed.body) HNN.out HX1.out)
  clear h1
  go_wp2_with (go_at_call 33; (with_reducible refine Calls.mono HC1.out ?_); rintro e w1 ⟨rfl, ve1, h2, h3⟩; have HP1 := Lib.hid h2; have HS1 := Lib.hid (HS0.out.trans h3); have HG1 := Lib.hid (mkeep (HT0.out.trans h3) HP0.out HG0.out (by decide) (by decide)); have HT1 := Lib.hid (HT0.out.trans h3); clear bx; have bx := cell_of_row _ _ 0 _ _ _ HG1.out; clear h2 h3)
  go_end0
  exact ⟨rfl, ve1, HP1.out, HS1.out⟩
 | err er jj =>
  have HX1 := Lib.hid h1
  have HC1 := Lib.hid (node_new HP0.out 11 11 rfl (.func (.func 63) #[.pointer (some ⟨p, 0, none⟩)] #[]) 63 (.pointer (some ⟨p, 0, none⟩)) (.inl rfl) (fun w => enters_ Tryz.func63 (by kernel_rfl) rfl #[(.pointer (some ⟨p, 0, none⟩))] w) (T := [.word ⟨#[64, 110, 97, 109, 101]⟩, .rule .r_names, .word ⟨#[58]⟩, .rule .r_kind]) (G_typed.body) HNN.out HX1.out)
  clear h1
  go_wp2_with (go_at_call 33; (with_reducible refine Calls.mono HC1.out ?_); rintro e w1 ⟨rfl, ve1, h3⟩; have HS1 := Lib.hid (HS0.out.trans h3); clear h3)
  exact ⟨rfl, rfl, ve1, HS1.out⟩
set_option maxRecDepth 100000 in
set_option maxHeartbeats 8000000 in
theorem g_kind_2 (l : List Tk) (N : Nat) (G_kind_2_1 : GoodC l N 117 [.rule .r_member]) : GoodC l N 116 [.word ⟨#[114, 101, 99, 111, 114, 100]⟩, .rule .r_member, .rule .r_members, .word ⟨#[101, 110, 100]⟩] := by
 intro n hn W0 A c w0 p g i d out ve r H hg hr
 show Calls Tryz.prog 116 _ w0 _
 have HP0 := Lib.hid H
 have HG0 := Lib.hid hg
 have HNN := Lib.hid hn
 have HS0 := Lib.hid (PStep.refl p (.slice none 0 0) ve w0)
 have HT0 := HS0
 have bx := cell_of_row _ _ 0 _ _ _ hg
 have hr0 : srun l n ⟨([.word ⟨#[114, 101, 99, 111, 114, 100]⟩] ++ ([.rule .r_member, .rule .r_members] ++ [.word ⟨#[101, 110, 100]⟩])), i, d, out⟩ = some r := hr
 have HR0 := Lib.hid hr0
 clear H hg hn hr hr0
 go_enter Tryz.func116, Tryz.ntmps116
 rcases srun_app l n [.word ⟨#[114, 101, 99, 111, 114, 100]⟩] ([.rule .r_member, .rule .r_members] ++ [.word ⟨#[101, 110, 100]⟩]) i d out r HR0.out with ⟨er, jj, rfl, h1⟩ | ⟨i1, d1, out1, h1, hr1⟩
 ·skip
  have HX1 := Lib.hid h1
  have HC1 := Lib.hid (words_new HP0.out [⟨#[114, 101, 99, 111, 114, 100]⟩] 1 [.string ⟨#[114, 101, 99, 111, 114, 100]⟩] rfl rfl (by decide) (by decide) HX1.out)
  clear h1
  go_wp2_with (go_at_call 36; (with_reducible refine Calls.mono HC1.out ?_); rintro e w1 ⟨rfl, ve1, h3⟩; have HS1 := Lib.hid (HS0.out.trans h3); clear h3)
  exact ⟨rfl, rfl, ve1, HS1.out⟩
 have HR1 := Lib.hid hr1
 clear hr1
 have HX1 := Lib.hid h1
 have HC1 := Lib.hid (words_new HP0.out [⟨#[114, 101, 99, 111, 114, 100]⟩] 1 [.string ⟨#[114, 101, 99, 111, 114, 100]⟩] rfl rfl (by decide) (by decide) HX1.out)
 clear h1
 go_wp2_with (go_at_call 36; (with_reducible refine Calls.mono HC1.out ?_); rintro e w1 ⟨rfl, ve1, h2, h3⟩; have HP1 := Lib.hid h2; have HS1 := Lib.hid (HS0.out.trans h3); have HG1 := Lib.hid (mkeep (HT0.out.trans h3) HP0.out HG0.out (by decide) (by decide)); have HT1 := Lib.hid (HT0.out.trans h3); clear bx; have bx := cell_of_row _ _ 0 _ _ _ HG1.out; clear h2 h3)
 rcases srun_app l n [.rule .r_member, .rule .r_members] [.word ⟨#[101, 110, 100]⟩] i1 d1 out1 r HR1.out with ⟨er, jj, rfl, h2⟩ | ⟨i2, d2, out2, h2, hr2⟩
 ·skip
  have HX2 := Lib.hid h2
  have HC2 := Lib.hid (row_new HP1.out (.func (.func 117) #[] #[.pointer (some ⟨g, 0, none⟩)]) 117 (.pointer (some ⟨g, 0, none⟩)) (.inr rfl) (fun w => enters_ Tryz.func117 (by kernel_rfl) rfl #[(.pointer (some ⟨g, 0, none⟩))] w) [⟨#[59]⟩] 1 [.string ⟨#[59]⟩] rfl rfl (by decide) (by decide) (T := [.rule .r_member]) (R := .r_members) (fun cc => row_members cc) (G_kind_2_1.body HP1.out HG1.out) HNN.out HX2.out)
  clear h2
  go_wp2_with (go_at_call 68; (with_reducible refine Calls.mono HC2.out ?_); rintro e w2 ⟨rfl, ve2, h3⟩; have HS2 := Lib.hid (HS1.out.trans h3); clear h3)
  exact ⟨rfl, rfl, ve2, HS2.out⟩
 have HR2 := Lib.hid hr2
 clear hr2
 have HX2 := Lib.hid h2
 have HC2 := Lib.hid (row_new HP1.out (.func (.func 117) #[] #[.pointer (some ⟨g, 0, none⟩)]) 117 (.pointer (some ⟨g, 0, none⟩)) (.inr rfl) (fun w => enters_ Tryz.func117 (by kernel_rfl) rfl #[(.pointer (some ⟨g, 0, none⟩))] w) [⟨#[59]⟩] 1 [.string ⟨#[59]⟩] rfl rfl (by decide) (by decide) (T := [.rule .r_member]) (R := .r_members) (fun cc => row_members cc) (G_kind_2_1.body HP1.out HG1.out) HNN.out HX2.out)
 clear h2
 go_wp2_with (go_at_call 68; (with_reducible refine Calls.mono HC2.out ?_); rintro e w2 ⟨rfl, ve2, h2, h3⟩; have HP2 := Lib.hid h2; have HS2 := Lib.hid (HS1.out.trans h3); have HG2 := Lib.hid (mkeep (HT1.out.trans h3) HP0.out HG0.out (by decide) (by decide)); have HT2 := Lib.hid (HT1.out.trans h3); clear bx; have bx := cell_of_row _ _ 0 _ _ _ HG2.out; clear h2 h3)
 have h3 := HR2.out
 cases r with
 | ok i3 d3 out3 =>
  have HX3 := Lib.hid h3
  have HC3 := Lib.hid (words_new HP2.out [⟨#[101, 110, 100]⟩] 1 [.string ⟨#[101, 110, 100]⟩] rfl rfl (by decide) (by decide) HX3.out)
  clear h3
  go_wp2_with (go_at_call 36; (with_reducible refine Calls.mono HC3.out ?_); rintro e w3 ⟨rfl, ve3, h2, h3⟩; have HP3 := Lib.hid h2; have HS3 := Lib.hid (HS2.out.trans h3); have HG3 := Lib.hid (mkeep (HT2.out.trans h3) HP0.out HG0.out (by decide) (by decide)); have HT3 := Lib.hid (HT2.out.trans h3); clear bx; have bx := cell_of_row _ _ 0 _ _ _ HG3.out; clear h2 h3)
  go_end0
  exact ⟨rfl, ve3, HP3.out, HS3.out⟩
 | err er jj =>
  have HX3 := Lib.hid h3
  have HC3 := Lib.hid (words_new HP2.out [⟨#[101, 110, 100]⟩] 1 [.string ⟨#[101, 110, 100]⟩] rfl rfl (by decide) (by decide) HX3.out)
  clear h3
  go_wp2_with (go_at_call 36; (with_reducible refine Calls.mono HC3.out ?_); rintro e w3 ⟨rfl, ve3, h3⟩; have HS3 := Lib.hid (HS2.out.trans h3); clear h3)
  exact ⟨rfl, rfl, ve3, HS3.out⟩
set_option maxRecDepth 100000 in
set_option maxHeartbeats 8000000 in
theorem g_typed (l : List Tk) (N : Nat) (G_name : Good l N 37 [.word ⟨#[64, 110, 97, 109, 101]⟩]) (G_kind : Good l N 89 [.rule .r_kind]) : Good l N 63 [.word ⟨#[64, 110, 97, 109, 101]⟩, .rule .r_names, .word ⟨#[58]⟩, .rule .r_kind] := by
 intro n hn W0 A c w0 p i d out ve r H hr
 show Calls Tryz.prog 63 _ w0 _
 have HP0 := Lib.hid H
 have HNN := Lib.hid hn
 have HS0 := Lib.hid (PStep.refl p (.slice none 0 0) ve w0)
 have hr0 : srun l n ⟨([.word ⟨#[64, 110, 97, 109, 101]⟩, .rule .r_names] ++ ([.word ⟨#[58]⟩] ++ [.rule .r_kind])), i, d, out⟩ = some r := hr
 have HR0 := Lib.hid hr0
 clear H hn hr hr0
 go_enter Tryz.func63, Tryz.ntmps63
 rcases srun_app l n [.word ⟨#[64, 110, 97, 109, 101]⟩, .rule .r_names] ([.word ⟨#[58]⟩] ++ [.rule .r_kind]) i d out r HR0.out with ⟨er, jj, rfl, h1⟩ | ⟨i1, d1, out1, h1, hr1⟩
 ·skip
  have HX1 := Lib.hid h1
  have HC1 := Lib.hid (row_new HP0.out (.func (.func 37) #[.pointer (some ⟨p, 0, none⟩)] #[]) 37 (.pointer (some ⟨p, 0, none⟩)) (.inl rfl) (fun w => enters_ Tryz.func37 (by kernel_rfl) rfl #[(.pointer (some ⟨p, 0, none⟩))] w) [⟨#[44]⟩] 1 [.string ⟨#[44]⟩] rfl rfl (by decide) (by decide) (T := [.word ⟨#[64, 110, 97, 109, 101]⟩]) (R := .r_names) (fun cc => row_names cc) (G_name.body) HNN.out HX1.out)
  clear h1
  go_wp2_with (go_at_call 68; (with_reducible refine Calls.mono HC1.out ?_); rintro e w1 ⟨rfl, ve1, h3⟩; have HS1 := Lib.hid (HS0.out.trans h3); clear h3)
  exact ⟨rfl, rfl, ve1, HS1.out⟩
 have HR1 := Lib.hid hr1
 clear hr1
 have HX1 := Lib.hid h1
 have HC1 := Lib.hid (row_new HP0.out (.func (.func 37) #[.pointer (some ⟨p, 0, none⟩)] #[]) 37 (.pointer (some ⟨p, 0, none⟩)) (.inl rfl) (fun w => enters_ Tryz.func37 (by kernel_rfl) rfl #[(.pointer (some ⟨p, 0, none⟩))] w) [⟨#[44]⟩] 1 [.string ⟨#[44]⟩] rfl rfl (by decide) (by decide) (T := [.word ⟨#[64, 110, 97, 109, 101]⟩]) (R := .r_names) (fun cc => row_names cc) (G_name.body) HNN.out HX1.out)
 clear h1
 go_wp2_with (go_at_call 68; (with_reducible refine Calls.mono HC1.out ?_); rintro e w1 ⟨rfl, ve1, h2, h3⟩; have HP1 := Lib.hid h2; have HS1 := Lib.hid (HS0.out.trans h3); clear h2 h3)
 rcases srun_app l n [.word ⟨#[58]⟩] [.rule .r_kind] i1 d1 out1 r HR1.out with ⟨er, jj, rfl, h2⟩ | ⟨i2, d2, out2, h2, hr2⟩
 ·skip
  have HX2 := Lib.hid h2
  have HC2 := Lib.hid (words_new HP1.out [⟨#[58]⟩] 1 [.string ⟨#[58]⟩] rfl rfl (by decide) (by decide) HX2.out)
  clear h2
  go_wp2_with (go_at_call 36; (with_reducible refine Calls.mono HC2.out ?_); rintro e w2 ⟨rfl, ve2, h3⟩; have HS2 := Lib.hid (HS1.out.trans h3); clear h3)
  exact ⟨rfl, rfl, ve2, HS2.out⟩
 have HR2 := Lib.hid hr2
 clear hr2
 have HX2 := Lib.hid h2
 have HC2 := Lib.hid (words_new HP1.out [⟨#[58]⟩] 1 [.string ⟨#[58]⟩] rfl rfl (by decide) (by decide) HX2.out)
 clear h2
 go_wp2_with (go_at_call 36; (with_reducible refine Calls.mono HC2.out ?_); rintro e w2 ⟨rfl, ve2, h2, h3⟩; have HP2 := Lib.hid h2; have HS2 := Lib.hid (HS1.out.trans h3); clear h2 h3)
 have h3 := HR2.out
 cases r with
 | ok i3 d3 out3 =>
  have HX3 := Lib.hid h3
  have HC3 := Lib.hid (G_kind n HNN.out W0 A c w2 p i2 d2 out2 ve2 _ HP2.out HX3.out)
  clear h3
  go_wp2_with (go_at_call 89; (with_reducible refine Calls.mono HC3.out ?_); rintro e w3 ⟨rfl, ve3, h2, h3⟩; have HP3 := Lib.hid h2; have HS3 := Lib.hid (HS2.out.trans h3); clear h2 h3)
  go_end0
  exact ⟨rfl, ve3, HP3.out, HS3.out⟩
 | err er jj =>
  have HX3 := Lib.hid h3
  have HC3 := Lib.hid (G_kind n HNN.out W0 A c w2 p i2 d2 out2 ve2 _ HP2.out HX3.out)
  clear h3
  go_wp2_with (go_at_call 89; (with_reducible refine Calls.mono HC3.out ?_); rintro e w3 ⟨rfl, ve3, h3⟩; have HS3 := Lib.hid (HS2.out.trans h3); clear h3)
  exact ⟨rfl, rfl, ve3, HS3.out⟩
end Go.Proofs.YtmjbpgnjgblnmaaGreat
namespace Go.Proofs.YtmjbpgnjgblnmaaGreat
open Go.RowKit Go.Proofs.YtmjbpgnjgblnmaaGreatW.PrintWords Go.Proofs.YtmjbpgnjgblnmaaGreatW.PrintLast Go.Proofs.YtmjbpgnjgblnmaaGreatW.PrintMore
set_option maxRecDepth 100000 in
set_option maxHeartbeats 8000000 in
theorem g_kind_1 (l : List Tk) (N : Nat) (G_expr : Good l N 65 [.rule .r_expr]) (G_kind : Good l N 89 [.rule .r_kind]) : GoodC l N 115 [.word ⟨#[97, 114, 114, 97, 121]⟩, .word ⟨#[91]⟩, .rule .r_expr, .word ⟨#[46, 46]⟩, .rule .r_expr, .word ⟨#[93]⟩, .word ⟨#[111, 102]⟩, .rule .r_kind] := by
 intro n hn W0 A c w0 p g i d out ve r H hg hr
 show Calls Tryz.prog 115 _ w0 _
 have HP0 := Lib.hid H
 have HG0 := Lib.hid hg
 have HNN := Lib.hid hn
 have HS0 := Lib.hid (PStep.refl p (.slice none 0 0) ve w0)
 have HT0 := HS0
 have bx := cell_of_row _ _ 0 _ _ _ hg
 have hr0 : srun l n ⟨([.word ⟨#[97, 114, 114, 97, 121]⟩, .word ⟨#[91]⟩] ++ ([.rule .r_expr] ++ ([.word ⟨#[46, 46]⟩] ++ ([.rule .r_expr] ++ ([.word ⟨#[93]⟩, .word ⟨#[111, 102]⟩] ++ [.rule .r_kind]))))), i, d, out⟩ = some r := hr
 have HR0 := Lib.hid hr0
 clear H hg hn hr hr0
 go_enter Tryz.func115, Tryz.ntmps115
 rcases srun_app l n [.word ⟨#[97, 114, 114, 97, 121]⟩, .word ⟨#[91]⟩] ([.rule .r_expr] ++ ([.word ⟨#[46, 46]⟩] ++ ([.rule .r_expr] ++ ([.word ⟨#[93]⟩, .word ⟨#[111, 102]⟩] ++ [.rule .r_kind])))) i d out r HR0.out with ⟨er, jj, rfl, h1⟩ | ⟨i1, d1, out1, h1, hr1⟩
 ·skip
  have HX1 := Lib.hid h1
  have HC1 := Lib.hid (words_new HP0.out [⟨#[97, 114, 114, 97, 121]⟩, ⟨#[91]⟩] 2 [.string ⟨#[97, 114, 114, 97, 121]⟩, .string ⟨#[91]⟩] rfl rfl (by decide) (by decide) HX1.out)
  clear h1
  go_wp2_with (go_at_call 36; (with_reducible refine Calls.mono HC1.out ?_); rintro e w1 ⟨rfl, ve1, h3⟩; have HS1 := Lib.hid (HS0.out.trans h3); clear h3)
  exact ⟨rfl, rfl, ve1, HS1.out⟩
 have HR1 := Lib.hid hr1
 clear hr1
 have HX1 := Lib.hid h1
 have HC1 := Lib.hid (words_new HP0.out [⟨#[97, 114, 114, 97, 121]⟩, ⟨#[91]⟩] 2 [.string ⟨#[97, 114, 114, 97, 121]⟩, .string ⟨#[91]⟩] rfl rfl (by decide) (by decide) HX1.out)
 clear h1
 go_wp2_with (go_at_call 36; (with_reducible refine Calls.mono HC1.out ?_); rintro e w1 ⟨rfl, ve1, h2, h3⟩; have HP1 := Lib.hid h2; have HS1 := Lib.hid (HS0.out.trans h3); have HG1 := Lib.hid (mkeep (HT0.out.trans h3) HP0.out HG0.out (by decide) (by decide)); have HT1 := Lib.hid (HT0.out.trans h3); clear bx; have bx := cell_of_row _ _ 0 _ _ _ HG1.out; clear h2 h3)
 rcases srun_app l n [.rule .r_expr] ([.word ⟨#[46, 46]⟩] ++ ([.rule .r_expr] ++ ([.word ⟨#[93]⟩, .word ⟨#[111, 102]⟩] ++ [.rule .r_kind]))) i1 d1 out1 r HR1.out with ⟨er, jj, rfl, h2⟩ | ⟨i2, d2, out2, h2, hr2⟩
 ·skip
  have HX2 := Lib.hid h2
  have HC2 := Lib.hid (G_expr n HNN.out W0 A c w1 p i1 d1 out1 ve1 _ HP1.out HX2.out)
  clear h2
  go_wp2_with (go_at_call 65; (with_reducible refine Calls.mono HC2.out ?_); rintro e w2 ⟨rfl, ve2, h3⟩; have HS2 := Lib.hid (HS1.out.trans h3); clear h3)
  exact ⟨rfl, rfl, ve2, HS2.out⟩
 have HR2 := Lib.hid hr2
 clear hr2
 have HX2 := Lib.hid h2
 have HC2 := Lib.hid (G_expr n HNN.out W0 A c w1 p i1 d1 out1 ve1 _ HP1.out HX2.out)
 clear h2
 go_wp2_with (go_at_call 65; (with_reducible refine Calls.mono HC2.out ?_); rintro e w2 ⟨rfl, ve2, h2, h3⟩; have HP2 := Lib.hid h2; have HS2 := Lib.hid (HS1.out.trans h3); have HG2 := Lib.hid (mkeep (HT1.out.trans h3) HP0.out HG0.out (by decide) (by decide)); have HT2 := Lib.hid (HT1.out.trans h3); clear bx; have bx := cell_of_row _ _ 0 _ _ _ HG2.out; clear h2 h3)
 rcases srun_app l n [.word ⟨#[46, 46]⟩] ([.rule .r_expr] ++ ([.word ⟨#[93]⟩, .word ⟨#[111, 102]⟩] ++ [.rule .r_kind])) i2 d2 out2 r HR2.out with ⟨er, jj, rfl, h3⟩ | ⟨i3, d3, out3, h3, hr3⟩
 ·skip
  have HX3 := Lib.hid h3
  have HC3 := Lib.hid (words_new HP2.out [⟨#[46, 46]⟩] 1 [.string ⟨#[46, 46]⟩] rfl rfl (by decide) (by decide) HX3.out)
  clear h3
  go_wp2_with (go_at_call 36; (with_reducible refine Calls.mono HC3.out ?_); rintro e w3 ⟨rfl, ve3, h3⟩; have HS3 := Lib.hid (HS2.out.trans h3); clear h3)
  exact ⟨rfl, rfl, ve3, HS3.out⟩
 have HR3 := Lib.hid hr3
 clear hr3
 have HX3 := Lib.hid h3
 have HC3 := Lib.hid (words_new HP2.out [⟨#[46, 46]⟩] 1 [.string ⟨#[46, 46]⟩] rfl rfl (by decide) (by decide) HX3.out)
 clear h3
 go_wp2_with (go_at_call 36; (with_reducible refine Calls.mono HC3.out ?_); rintro e w3 ⟨rfl, ve3, h2, h3⟩; have HP3 := Lib.hid h2; have HS3 := Lib.hid (HS2.out.trans h3); have HG3 := Lib.hid (mkeep (HT2.out.trans h3) HP0.out HG0.out (by decide) (by decide)); have HT3 := Lib.hid (HT2.out.trans h3); clear bx; have bx := cell_of_row _ _ 0 _ _ _ HG3.out; clear h2 h3)
 rcases srun_app l n [.rule .r_expr] ([.word ⟨#[93]⟩, .word ⟨#[111, 102]⟩] ++ [.rule .r_kind]) i3 d3 out3 r HR3.out with ⟨er, jj, rfl, h4⟩ | ⟨i4, d4, out4, h4, hr4⟩
 ·skip
  have HX4 := Lib.hid h4
  have HC4 := Lib.hid (G_expr n HNN.out W0 A c w3 p i3 d3 out3 ve3 _ HP3.out HX4.out)
  clear h4
  go_wp2_with (go_at_call 65; (with_reducible refine Calls.mono HC4.out ?_); rintro e w4 ⟨rfl, ve4, h3⟩; have HS4 := Lib.hid (HS3.out.trans h3); clear h3)
  exact ⟨rfl, rfl, ve4, HS4.out⟩
 have HR4 := Lib.hid hr4
 clear hr4
 have HX4 := Lib.hid h4
 have HC4 := Lib.hid (G_expr n HNN.out W0 A c w3 p i3 d3 out3 ve3 _ HP3.out HX4.out)
 clear h4
 go_wp2_with (go_at_call 65; (with_reducible refine Calls.mono HC4.out ?_); rintro e w4 ⟨rfl, ve4, h2, h3⟩; have HP4 := Lib.hid h2; have HS4 := Lib.hid (HS3.out.trans h3); have HG4 := Lib.hid (mkeep (HT3.out.trans h3) HP0.out HG0.out (by decide) (by decide)); have HT4 := Lib.hid (HT3.out.trans h3); clear bx; have bx := cell_of_row _ _ 0 _ _ _ HG4.out; clear h2 h3)
 rcases srun_app l n [.word ⟨#[93]⟩, .word ⟨#[111, 102]⟩] [.rule .r_kind] i4 d4 out4 r HR4.out with ⟨er, jj, rfl, h5⟩ | ⟨i5, d5, out5, h5, hr5⟩
 ·skip
  have HX5 := Lib.hid h5
  have HC5 := Lib.hid (words_new HP4.out [⟨#[93]⟩, ⟨#[111, 102]⟩] 2 [.string ⟨#[93]⟩, .string ⟨#[111, 102]⟩] rfl rfl (by decide) (by decide) HX5.out)
  clear h5
  go_wp2_with (go_at_call 36; (with_reducible refine Calls.mono HC5.out ?_); rintro e w5 ⟨rfl, ve5, h3⟩; have HS5 := Lib.hid (HS4.out.trans h3); clear h3)
  exact ⟨rfl, rfl, ve5, HS5.out⟩
 have HR5 := Lib.hid hr5
 clear hr5
 have HX5 := Lib.hid h5
 have HC5 := Lib.hid (words_new HP4.out [⟨#[93]⟩, ⟨#[111, 102]⟩] 2 [.string ⟨#[93]⟩, .string ⟨#[111, 102]⟩] rfl rfl (by decide) (by decide) HX5.out)
 clear h5
 go_wp2_with (go_at_call 36; (with_reducible refine Calls.mono HC5.out ?_); rintro e w5 ⟨rfl, ve5, h2, h3⟩; have HP5 := Lib.hid h2; have HS5 := Lib.hid (HS4.out.trans h3); have HG5 := Lib.hid (mkeep (HT4.out.trans h3) HP0.out HG0.out (by decide) (by decide)); have HT5 := Lib.hid (HT4.out.trans h3); clear bx; have bx := cell_of_row _ _ 0 _ _ _ HG5.out; clear h2 h3)
 have h6 := HR5.out
 cases r with
 | ok i6 d6 out6 =>
  have HX6 := Lib.hid h6
  have HC6 := Lib.hid (G_kind n HNN.out W0 A c w5 p i5 d5 out5 ve5 _ HP5.out HX6.out)
  clear h6
  go_wp2_with (go_at_call 89; (with_reducible refine Calls.mono HC6.out ?_); rintro e w6 ⟨rfl, ve6, h2, h3⟩; have HP6 := Lib.hid h2; have HS6 := Lib.hid (HS5.out.trans h3); have HG6 := Lib.hid (mkeep (HT5.out.trans h3) HP0.out HG0.out (by decide) (by decide)); have HT6 := Lib.hid (HT5.out.trans h3); clear bx; have bx := cell_of_row _ _ 0 _ _ _ HG6.out; clear h2 h3)
  go_end0
  exact ⟨rfl, ve6, HP6.out, HS6.out⟩
 | err er jj =>
  have HX6 := Lib.hid h6
  have HC6 := Lib.hid (G_kind n HNN.out W0 A c w5 p i5 d5 out5 ve5 _ HP5.out HX6.out)
  clear h6
  go_wp2_with (go_at_call 89; (with_reducible refine Calls.mono HC6.out ?_); rintro e w6 ⟨rfl, ve6, h3⟩; have HS6 := Lib.hid (HS5.out.trans h3); clear h3)
  exact ⟨rfl, rfl, ve6, HS6.out⟩
set_option maxRecDepth 100000 in
set_option maxHeartbeats 8000000 in
theorem g_statement_1 (l : List Tk) (N : Nat)  : GoodC l N 94 [.word ⟨#[115, 107, 105, 112]⟩] := by
 intro n hn W0 A c w0 p g i d out ve r H hg hr
 show Calls Tryz.prog 94 _ w0 _
 have HP0 := Lib.hid H
 have HG0 := Lib.hid hg
 have HNN := Lib.hid hn
 have HS0 := Lib.hid (PStep.refl p (.slice none 0 0) ve w0)
 have HT0 := HS0
 have bx := cell_of_row _ _ 0 _ _ _ hg
 have hr0 : srun l n ⟨[.word ⟨#[115, 107, 105, 112]⟩], i, d, out⟩ = some r := hr
 have HR0 := Lib.hid hr0
 clear H hg hn hr hr0
 go_enter Tryz.func94, Tryz.ntmps94
 have h1 := HR0.out
 cases r with
 | ok i1 d1 out1 =>
  have HX1 := Lib.hid h1
  have HC1 := Lib.hid (words_new HP0.out [⟨#[115, 107, 105, 112]⟩] 1 [.string ⟨#[115, 107, 105, 112]⟩] rfl rfl (by decide) (by decide) HX1.out)
  clear h1
  go_wp2_with (go_at_call 36; (with_reducible refine Calls.mono HC1.out ?_); rintro e w1 ⟨rfl, ve1, h2, h3⟩; have HP1 := Lib.hid h2; have HS1 := Lib.hid (HS0.out.trans h3); have HG1 := Lib.hid (mkeep (HT0.out.trans h3) HP0.out HG0.out (by decide) (by decide)); have HT1 := Lib.hid (HT0.out.trans h3); clear bx; have bx := cell_of_row _ _ 0 _ _ _ HG1.out; clear h2 h3)
  go_end0
  exact ⟨rfl, ve1, HP1.out, HS1.out⟩
 | err er jj =>
  have HX1 := Lib.hid h1
  have HC1 := Lib.hid (words_new HP0.out [⟨#[115, 107, 105, 112]⟩] 1 [.string ⟨#[115, 107, 105, 112]⟩] rfl rfl (by decide) (by decide) HX1.out)
  clear h1
  go_wp2_with (go_at_call 36; (with_reducible refine Calls.mono HC1.out ?_); rintro e w1 ⟨rfl, ve1, h3⟩; have HS1 := Lib.hid (HS0.out.trans h3); clear h3)
  exact ⟨rfl, rfl, ve1, HS1.out⟩
set_option maxRecDepth 100000 in
set_option maxHeartbeats 8000000 in
theorem g_other_1 (l : List Tk) (N : Nat) (G_body : Good l N 51 [.rule .r_body]) (G_expr : Good l N 65 [.rule .r_expr]) : GoodC l N 122 [.word ⟨#[114, 101, 112, 101, 97, 116]⟩, .rule .r_body, .word ⟨#[117, 110, 116, 105, 108]⟩, .rule .r_expr] := by
 intro n hn W0 A c w0 p g i d out ve r H hg hr
 show Calls Tryz.prog 122 _ w0 _
 have HP0 := Lib.hid H
 have HG0 := Lib.hid hg
 have HNN := Lib.hid hn
 have HS0 := Lib.hid (PStep.refl p (.slice none 0 0) ve w0)
 have HT0 := HS0
 have bx := cell_of_row _ _ 0 _ _ _ hg
 have hr0 : srun l n ⟨([.word ⟨#[114, 101, 112, 101, 97, 116]⟩] ++ ([.rule .r_body] ++ ([.word ⟨#[117, 110, 116, 105, 108]⟩] ++ [.rule .r_expr]))), i, d, out⟩ = some r := hr
 have HR0 := Lib.hid hr0
 clear H hg hn hr hr0
 go_enter Tryz.func122, Tryz.ntmps122
 rcases srun_app l n [.word ⟨#[114, 101, 112, 101, 97, 116]⟩] ([.rule .r_body] ++ ([.word ⟨#[117, 110, 116, 105, 108]⟩] ++ [.rule .r_expr])) i d out r HR0.out with ⟨er, jj, rfl, h1⟩ | ⟨i1, d1, out1, h1, hr1⟩
 ·skip
  have HX1 := Lib.hid h1
  have HC1 := Lib.hid (words_new HP0.out [⟨#[114, 101, 112, 101, 97, 116]⟩] 1 [.string ⟨#[114, 101, 112, 101, 97, 116]⟩] rfl rfl (by decide) (by decide) HX1.out)
  clear h1
  go_wp2_with (go_at_call 36; (with_reducible refine Calls.mono HC1.out ?_); rintro e w1 ⟨rfl, ve1, h3⟩; have HS1 := Lib.hid (HS0.out.trans h3); clear h3)
  exact ⟨rfl, rfl, ve1, HS1.out⟩
 have HR1 := Lib.hid hr1
 clear hr1
 have HX1 := Lib.hid h1
 have HC1 := Lib.hid (words_new HP0.out [⟨#[114, 101, 112, 101, 97, 116]⟩] 1 [.string ⟨#[114, 101, 112, 101, 97, 116]⟩] rfl rfl (by decide) (by decide) HX1.out)
 clear h1
 go_wp2_with (go_at_call 36; (with_reducible refine Calls.mono HC1.out ?_); rintro e w1 ⟨rfl, ve1, h2, h3⟩; have HP1 := Lib.hid h2; have HS1 := Lib.hid (HS0.out.trans h3); have HG1 := Lib.hid (mkeep (HT0.out.trans h3) HP0.out HG0.out (by decide) (by decide)); have HT1 := Lib.hid (HT0.out.trans h3); clear bx; have bx := cell_of_row _ _ 0 _ _ _ HG1.out; clear h2 h3)
 rcases srun_app l n [.rule .r_body] ([.word ⟨#[117, 110, 116, 105, 108]⟩] ++ [.rule .r_expr]) i1 d1 out1 r HR1.out with ⟨er, jj, rfl, h2⟩ | ⟨i2, d2, out2, h2, hr2⟩
 ·skip
  have HX2 := Lib.hid h2
  have HC2 := Lib.hid (G_body n HNN.out W0 A c w1 p i1 d1 out1 ve1 _ HP1.out HX2.out)
  clear h2
  go_wp2_with (go_at_call 51; (with_reducible refine Calls.mono HC2.out ?_); rintro e w2 ⟨rfl, ve2, h3⟩; have HS2 := Lib.hid (HS1.out.trans h3); clear h3)
  exact ⟨rfl, rfl, ve2, HS2.out⟩
 have HR2 := Lib.hid hr2
 clear hr2
 have HX2 := Lib.hid h2
 have HC2 := Lib.hid (G_body n HNN.out W0 A c w1 p i1 d1 out1 ve1 _ HP1.out HX2.out)
 clear h2
 go_wp2_with (go_at_call 51; (with_reducible refine Calls.mono HC2.out ?_); rintro e w2 ⟨rfl, ve2, h2, h3⟩; have HP2 := Lib.hid h2; have HS2 := Lib.hid (HS1.out.trans h3); have HG2 := Lib.hid (mkeep (HT1.out.trans h3) HP0.out HG0.out (by decide) (by decide)); have HT2 := Lib.hid (HT1.out.trans h3); clear bx; have bx := cell_of_row _ _ 0 _ _ _ HG2.out; clear h2 h3)
 rcases srun_app l n [.word ⟨#[117, 110, 116, 105, 108]⟩] [.rule .r_expr] i2 d2 out2 r HR2.out with ⟨er, jj, rfl, h3⟩ | ⟨i3, d3, out3, h3, hr3⟩
 ·skip
  have HX3 := Lib.hid h3
  have HC3 := Lib.hid (words_new HP2.out [⟨#[117, 110, 116, 105, 108]⟩] 1 [.string ⟨#[117, 110, 116, 105, 108]⟩] rfl rfl (by decide) (by decide) HX3.out)
  clear h3
  go_wp2_with (go_at_call 36; (with_reducible refine Calls.mono HC3.out ?_); rintro e w3 ⟨rfl, ve3, h3⟩; have HS3 := Lib.hid (HS2.out.trans h3); clear h3)
  exact ⟨rfl, rfl, ve3, HS3.out⟩
 have HR3 := Lib.hid hr3
 clear hr3
 have HX3 := Lib.hid h3
 have HC3 := Lib.hid (words_new HP2.out [⟨#[117, 110, 116, 105, 108]⟩] 1 [.string ⟨#[117, 110, 116, 105, 108]⟩] rfl rfl (by decide) (by decide) HX3.out)
 clear h3
 go_wp2_with (go_at_call 36; (with_reducible refine Calls.mono HC3.out ?_); rintro e w3 ⟨rfl, ve3, h2, h3⟩; have HP3 := Lib.hid h2; have HS3 := Lib.hid (HS2.out.trans h3); have HG3 := Lib.hid (mkeep (HT2.out.trans h3) HP0.out HG0.out (by decide) (by decide)); have HT3 := Lib.hid (HT2.out.trans h3); clear bx; have bx := cell_of_row _ _ 0 _ _ _ HG3.out; clear h2 h3)
 have h4 := HR3.out
 cases r with
 | ok i4 d4 out4 =>
  have HX4 := Lib.hid h4
  have HC4 := Lib.hid (G_expr n HNN.out W0 A c w3 p i3 d3 out3 ve3 _ HP3.out HX4.out)
  clear h4
  go_wp2_with (go_at_call 65; (with_reducible refine Calls.mono HC4.out ?_); rintro e w4 ⟨rfl, ve4, h2, h3⟩; have HP4 := Lib.hid h2; have HS4 := Lib.hid (HS3.out.trans h3); have HG4 := Lib.hid (mkeep (HT3.out.trans h3) HP0.out HG0.out (by decide) (by decide)); have HT4 := Lib.hid (HT3.out.trans h3); clear bx; have bx := cell_of_row _ _ 0 _ _ _ HG4.out; clear h2 h3)
  go_end0
  exact ⟨rfl, ve4, HP4.out, HS4.out⟩
 | err er jj =>
  have HX4 := Lib.hid h4
  have HC4 := Lib.hid (G_expr n HNN.out W0 A c w3 p i3 d3 out3 ve3 _ HP3.out HX4.out)
  clear h4
  go_wp2_with (go_at_call 65; (with_reducible refine Calls.mono HC4.out ?_); rintro e w4 ⟨rfl, ve4, h3⟩; have HS4 := Lib.hid (HS3.out.trans h3); clear h3)
  exact ⟨rfl, rfl, ve4, HS4.out⟩
set_option maxRecDepth 100000 in
set_option maxHeartbeats 8000000 in
theorem g_other_3 (l : List Tk) (N : Nat) (G_body : Good l N 51 [.rule .r_body]) : GoodC l N 125 [.word ⟨#[98, 101, 103, 105, 110]⟩, .rule .r_body, .word ⟨#[101, 110, 100]⟩] := by
 intro n hn W0 A c w0 p g i d out ve r H hg hr
 show Calls Tryz.prog 125 _ w0 _
 have HP0 := Lib.hid H
 have HG0 := Lib.hid hg
 have HNN := Lib.hid hn
 have HS0 := Lib.hid (PStep.refl p (.slice none 0 0) ve w0)
 have HT0 := HS0
 have bx := cell_of_row _ _ 0 _ _ _ hg
 have hr0 : srun l n ⟨([.word ⟨#[98, 101, 103, 105, 110]⟩] ++ ([.rule .r_body] ++ [.word ⟨#[101, 110, 100]⟩])), i, d, out⟩ = some r := hr
 have HR0 := Lib.hid hr0
 clear H hg hn hr hr0
 go_enter Tryz.func125, Tryz.ntmps125
 rcases srun_app l n [.word ⟨#[98, 101, 103, 105, 110]⟩] ([.rule .r_body] ++ [.word ⟨#[101, 110, 100]⟩]) i d out r HR0.out with ⟨er, jj, rfl, h1⟩ | ⟨i1, d1, out1, h1, hr1⟩
 ·skip
  have HX1 := Lib.hid h1
  have HC1 := Lib.hid (words_new HP0.out [⟨#[98, 101, 103, 105, 110]⟩] 1 [.string ⟨#[98, 101, 103, 105, 110]⟩] rfl rfl (by decide) (by decide) HX1.out)
  clear h1
  go_wp2_with (go_at_call 36; (with_reducible refine Calls.mono HC1.out ?_); rintro e w1 ⟨rfl, ve1, h3⟩; have HS1 := Lib.hid (HS0.out.trans h3); clear h3)
  exact ⟨rfl, rfl, ve1, HS1.out⟩
 have HR1 := Lib.hid hr1
 clear hr1
 have HX1 := Lib.hid h1
 have HC1 := Lib.hid (words_new HP0.out [⟨#[98, 101, 103, 105, 110]⟩] 1 [.string ⟨#[98, 101, 103, 105, 110]⟩] rfl rfl (by decide) (by decide) HX1.out)
 clear h1
 go_wp2_with (go_at_call 36; (with_reducible refine Calls.mono HC1.out ?_); rintro e w1 ⟨rfl, ve1, h2, h3⟩; have HP1 := Lib.hid h2; have HS1 := Lib.hid (HS0.out.trans h3); have HG1 := Lib.hid (mkeep (HT0.out.trans h3) HP0.out HG0.out (by decide) (by decide)); have HT1 := Lib.hid (HT0.out.trans h3); clear bx; have bx := cell_of_row _ _ 0 _ _ _ HG1.out; clear h2 h3)
 rcases srun_app l n [.rule .r_body] [.word ⟨#[101, 110, 100]⟩] i1 d1 out1 r HR1.out with ⟨er, jj, rfl, h2⟩ | ⟨i2, d2, out2, h2, hr2⟩
 ·skip
  have HX2 := Lib.hid h2
  have HC2 := Lib.hid (G_body n HNN.out W0 A c w1 p i1 d1 out1 ve1 _ HP1.out HX2.out)
  clear h2
  go_wp2_with (go_at_call 51; (with_reducible refine Calls.mono HC2.out ?_); rintro e w2 ⟨rfl, ve2, h3⟩; have HS2 := Lib.hid (HS1.out.trans h3); clear h3)
  exact ⟨rfl, rfl, ve2, HS2.out⟩
 have HR2 := Lib.hid hr2
 clear hr2
 have HX2 := Lib.hid h2
 have HC2 := Lib.hid (G_body n HNN.out W0 A c w1 p i1 d1 out1 ve1 _ HP1.out HX2.out)
 clear h2
 go_wp2_with (go_at_call 51; (with_reducible refine Calls.mono HC2.out ?_); rintro e w2 ⟨rfl, ve2, h2, h3⟩; have HP2 := Lib.hid h2; have HS2 := Lib.hid (HS1.out.trans h3); have HG2 := Lib.hid (mkeep (HT1.out.trans h3) HP0.out HG0.out (by decide) (by decide)); have HT2 := Lib.hid (HT1.out.trans h3); clear bx; have bx := cell_of_row _ _ 0 _ _ _ HG2.out; clear h2 h3)
 have h3 := HR2.out
 cases r with
 | ok i3 d3 out3 =>
  have HX3 := Lib.hid h3
  have HC3 := Lib.hid (words_new HP2.out [⟨#[101, 110, 100]⟩] 1 [.string ⟨#[101, 110, 100]⟩] rfl rfl (by decide) (by decide) HX3.out)
  clear h3
  go_wp2_with (go_at_call 36; (with_reducible refine Calls.mono HC3.out ?_); rintro e w3 ⟨rfl, ve3, h2, h3⟩; have HP3 := Lib.hid h2; have HS3 := Lib.hid (HS2.out.trans h3); have HG3 := Lib.hid (mkeep (HT2.out.trans h3) HP0.out HG0.out (by decide) (by decide)); have HT3 := Lib.hid (HT2.out.trans h3); clear bx; have bx := cell_of_row _ _ 0 _ _ _ HG3.out; clear h2 h3)
  go_end0
  exact ⟨rfl, ve3, HP3.out, HS3.out⟩
 | err er jj =>
  have HX3 := Lib.hid h3
  have HC3 := Lib.hid (words_new HP2.out [⟨#[101, 110, 100]⟩] 1 [.string ⟨#[101, 110, 100]⟩] rfl rfl (by decide) (by decide) HX3.out)
  clear h3
  go_wp2_with (go_at_call 36; (with_reducible refine Calls.mono HC3.out ?_); rintro e w3 ⟨rfl, ve3, h3⟩; have HS3 := Lib.hid (HS2.out.trans h3); clear h3)
  exact ⟨rfl, rfl, ve3, HS3.out⟩
set_option maxRecDepth 100000 in
set_option maxHeartbeats 8000000 in
theorem g_factor_1 (l : List Tk) (N : Nat) (G_factor : Good l N 145 [.rule .r_factor]) : GoodC l N 149 [.word ⟨#[45]⟩, .rule .r_factor] := by
 intro n hn W0 A c w0 p g i d out ve r H hg hr
 show Calls Tryz.prog 149 _ w0 _
 have HP0 := Lib.hid H
 have HG0 := Lib.hid hg
 have HNN := Lib.hid hn
 have HS0 := Lib.hid (PStep.refl p (.slice none 0 0) ve w0)
 have HT0 := HS0
 have bx := cell_of_row _ _ 0 _ _ _ hg
 have hr0 : srun l n ⟨([.word ⟨#[45]⟩] ++ [.rule .r_factor]), i, d, out⟩ = some r := hr
 have HR0 := Lib.hid hr0
 clear H hg hn hr hr0
 go_enter Tryz.func149, Tryz.ntmps149
 rcases srun_app l n [.word ⟨#[45]⟩] [.rule .r_factor] i d out r HR0.out with ⟨er, jj, rfl, h1⟩ | ⟨i1, d1, out1, h1, hr1⟩
 ·skip
  have HX1 := Lib.hid h1
  have HC1 := Lib.hid (words_new HP0.out [⟨#[45]⟩] 1 [.string ⟨#[45]⟩] rfl rfl (by decide) (by decide) HX1.out)
  clear h1
  go_wp2_with (go_at_call 36; (with_reducible refine Calls.mono HC1.out ?_); rintro e w1 ⟨rfl, ve1, h3⟩; have HS1 := Lib.hid (HS0.out.trans h3); clear h3)
  exact ⟨rfl, rfl, ve1, HS1.out⟩
 have HR1 := Lib.hid hr1
 clear hr1
 have HX1 := Lib.hid h1
 have HC1 := Lib.hid (words_new HP0.out [⟨#[45]⟩] 1 [.string ⟨#[45]⟩] rfl rfl (by decide) (by decide) HX1.out)
 clear h1
 go_wp2_with (go_at_call 36; (with_reducible refine Calls.mono HC1.out ?_); rintro e w1 ⟨rfl, ve1, h2, h3⟩; have HP1 := Lib.hid h2; have HS1 := Lib.hid (HS0.out.trans h3); have HG1 := Lib.hid (mkeep (HT0.out.trans h3) HP0.out HG0.out (by decide) (by decide)); have HT1 := Lib.hid (HT0.out.trans h3); clear bx; have bx := cell_of_row _ _ 0 _ _ _ HG1.out; clear h2 h3)
 have h2 := HR1.out
 cases r with
 | ok i2 d2 out2 =>
  have HX2 := Lib.hid h2
  have HC2 := Lib.hid (G_factor n HNN.out W0 A c w1 p i1 d1 out1 ve1 _ HP1.out HX2.out)
  clear h2
  go_wp2_with (go_at_call 145; (with_reducible refine Calls.mono HC2.out ?_); rintro e w2 ⟨rfl, ve2, h2, h3⟩; have HP2 := Lib.hid h2; have HS2 := Lib.hid (HS1.out.trans h3); have HG2 := Lib.hid (mkeep (HT1.out.trans h3) HP0.out HG0.out (by decide) (by decide)); have HT2 := Lib.hid (HT1.out.trans h3); clear bx; have bx := cell_of_row _ _ 0 _ _ _ HG2.out; clear h2 h3)
  go_end0
  exact ⟨rfl, ve2, HP2.out, HS2.out⟩
 | err er jj =>
  have HX2 := Lib.hid h2
  have HC2 := Lib.hid (G_factor n HNN.out W0 A c w1 p i1 d1 out1 ve1 _ HP1.out HX2.out)
  clear h2
  go_wp2_with (go_at_call 145; (with_reducible refine Calls.mono HC2.out ?_); rintro e w2 ⟨rfl, ve2, h3⟩; have HS2 := Lib.hid (HS1.out.trans h3); clear h3)
  exact ⟨rfl, rfl, ve2, HS2.out⟩
set_option maxRecDepth 100000 in
set_option maxHeartbeats 8000000 in
theorem g_factor_2 (l : List Tk) (N : Nat) (G_factor : Good l N 145 [.rule .r_factor]) : GoodC l N 150 [.word ⟨#[110, 111, 116]⟩, .rule .r_factor] := by
 intro n hn W0 A c w0 p g i d out ve r H hg hr
 show Calls Tryz.prog 150 _ w0 _
 have HP0 := Lib.hid H
 have HG0 := Lib.hid hg
 have HNN := Lib.hid hn
 have HS0 := Lib.hid (PStep.refl p (.slice none 0 0) ve w0)
 have HT0 := HS0
 have bx := cell_of_row _ _ 0 _ _ _ hg
 have hr0 : srun l n ⟨([.word ⟨#[110, 111, 116]⟩] ++ [.rule .r_factor]), i, d, out⟩ = some r := hr
 have HR0 := Lib.hid hr0
 clear H hg hn hr hr0
 go_enter Tryz.func150, Tryz.ntmps150
 rcases srun_app l n [.word ⟨#[110, 111, 116]⟩] [.rule .r_factor] i d out r HR0.out with ⟨er, jj, rfl, h1⟩ | ⟨i1, d1, out1, h1, hr1⟩
 ·skip
  have HX1 := Lib.hid h1
  have HC1 := Lib.hid (words_new HP0.out [⟨#[110, 111, 116]⟩] 1 [.string ⟨#[110, 111, 116]⟩] rfl rfl (by decide) (by decide) HX1.out)
  clear h1
  go_wp2_with (go_at_call 36; (with_reducible refine Calls.mono HC1.out ?_); rintro e w1 ⟨rfl, ve1, h3⟩; have HS1 := Lib.hid (HS0.out.trans h3); clear h3)
  exact ⟨rfl, rfl, ve1, HS1.out⟩
 have HR1 := Lib.hid hr1
 clear hr1
 have HX1 := Lib.hid h1
 have HC1 := Lib.hid (words_new HP0.out [⟨#[110, 111, 116]⟩] 1 [.string ⟨#[110, 111, 116]⟩] rfl rfl (by decide) (by decide) HX1.out)
 clear h1
 go_wp2_with (go_at_call 36; (with_reducible refine Calls.mono HC1.out ?_); rintro e w1 ⟨rfl, ve1, h2, h3⟩; have HP1 := Lib.hid h2; have HS1 := Lib.hid (HS0.out.trans h3); have HG1 := Lib.hid (mkeep (HT0.out.trans h3) HP0.out HG0.out (by decide) (by decide)); have HT1 := Lib.hid (HT0.out.trans h3); clear bx; have bx := cell_of_row _ _ 0 _ _ _ HG1.out; clear h2 h3)
 have h2 := HR1.out
 cases r with
 | ok i2 d2 out2 =>
  have HX2 := Lib.hid h2
  have HC2 := Lib.hid (G_factor n HNN.out W0 A c w1 p i1 d1 out1 ve1 _ HP1.out HX2.out)
  clear h2
  go_wp2_with (go_at_call 145; (with_reducible refine Calls.mono HC2.out ?_); rintro e w2 ⟨rfl, ve2, h2, h3⟩; have HP2 := Lib.hid h2; have HS2 := Lib.hid (HS1.out.trans h3); have HG2 := Lib.hid (mkeep (HT1.out.trans h3) HP0.out HG0.out (by decide) (by decide)); have HT2 := Lib.hid (HT1.out.trans h3); clear bx; have bx := cell_of_row _ _ 0 _ _ _ HG2.out; clear h2 h3)
  go_end0
  exact ⟨rfl, ve2, HP2.out, HS2.out⟩
 | err er jj =>
  have HX2 := Lib.hid h2
  have HC2 := Lib.hid (G_factor n HNN.out W0 A c w1 p i1 d1 out1 ve1 _ HP1.out HX2.out)
  clear h2
  go_wp2_with (go_at_call 145; (with_reducible refine Calls.mono HC2.out ?_); rintro e w2 ⟨rfl, ve2, h3⟩; have HS2 := Lib.hid (HS1.out.trans h3); clear h3)
  exact ⟨rfl, rfl, ve2, HS2.out⟩
set_option maxRecDepth 100000 in
set_option maxHeartbeats 8000000 in
theorem g_factor_3 (l : List Tk) (N : Nat) (G_expr : Good l N 65 [.rule .r_expr]) : GoodC l N 151 [.word ⟨#[40]⟩, .rule .r_expr, .word ⟨#[41]⟩] := by
 intro n hn W0 A c w0 p g i d out ve r H hg hr
 show Calls Tryz.prog 151 _ w0 _
 have HP0 := Lib.hid H
 have HG0 := Lib.hid hg
 have HNN := Lib.hid hn
 have HS0 := Lib.hid (PStep.refl p (.slice none 0 0) ve w0)
 have HT0 := HS0
 have bx := cell_of_row _ _ 0 _ _ _ hg
 have hr0 : srun l n ⟨([.word ⟨#[40]⟩] ++ ([.rule .r_expr] ++ [.word ⟨#[41]⟩])), i, d, out⟩ = some r := hr
 have HR0 := Lib.hid hr0
 clear H hg hn hr hr0
 go_enter Tryz.func151, Tryz.ntmps151
 rcases srun_app l n [.word ⟨#[40]⟩] ([.rule .r_expr] ++ [.word ⟨#[41]⟩]) i d out r HR0.out with ⟨er, jj, rfl, h1⟩ | ⟨i1, d1, out1, h1, hr1⟩
 ·skip
  have HX1 := Lib.hid h1
  have HC1 := Lib.hid (words_new HP0.out [⟨#[40]⟩] 1 [.string ⟨#[40]⟩] rfl rfl (by decide) (by decide) HX1.out)
  clear h1
  go_wp2_with (go_at_call 36; (with_reducible refine Calls.mono HC1.out ?_); rintro e w1 ⟨rfl, ve1, h3⟩; have HS1 := Lib.hid (HS0.out.trans h3); clear h3)
  exact ⟨rfl, rfl, ve1, HS1.out⟩
 have HR1 := Lib.hid hr1
 clear hr1
 have HX1 := Lib.hid h1
 have HC1 := Lib.hid (words_new HP0.out [⟨#[40]⟩] 1 [.string ⟨#[40]⟩] rfl rfl (by decide) (by decide) HX1.out)
 clear h1
 go_wp2_with (go_at_call 36; (with_reducible refine Calls.mono HC1.out ?_); rintro e w1 ⟨rfl, ve1, h2, h3⟩; have HP1 := Lib.hid h2; have HS1 := Lib.hid (HS0.out.trans h3); have HG1 := Lib.hid (mkeep (HT0.out.trans h3) HP0.out HG0.out (by decide) (by decide)); have HT1 := Lib.hid (HT0.out.trans h3); clear bx; have bx := cell_of_row _ _ 0 _ _ _ HG1.out; clear h2 h3)
 rcases srun_app l n [.rule .r_expr] [.word ⟨#[41]⟩] i1 d1 out1 r HR1.out with ⟨er, jj, rfl, h2⟩ | ⟨i2, d2, out2, h2, hr2⟩
 ·skip
  have HX2 := Lib.hid h2
  have HC2 := Lib.hid (G_expr n HNN.out W0 A c w1 p i1 d1 out1 ve1 _ HP1.out HX2.out)
  clear h2
  go_wp2_with (go_at_call 65; (with_reducible refine Calls.mono HC2.out ?_); rintro e w2 ⟨rfl, ve2, h3⟩; have HS2 := Lib.hid (HS1.out.trans h3); clear h3)
  exact ⟨rfl, rfl, ve2, HS2.out⟩
 have HR2 := Lib.hid hr2
 clear hr2
 have HX2 := Lib.hid h2
 have HC2 := Lib.hid (G_expr n HNN.out W0 A c w1 p i1 d1 out1 ve1 _ HP1.out HX2.out)
 clear h2
 go_wp2_with (go_at_call 65; (with_reducible refine Calls.mono HC2.out ?_); rintro e w2 ⟨rfl, ve2, h2, h3⟩; have HP2 := Lib.hid h2; have HS2 := Lib.hid (HS1.out.trans h3); have HG2 := Lib.hid (mkeep (HT1.out.trans h3) HP0.out HG0.out (by decide) (by decide)); have HT2 := Lib.hid (HT1.out.trans h3); clear bx; have bx := cell_of_row _ _ 0 _ _ _ HG2.out; clear h2 h3)
 have h3 := HR2.out
 cases r with
 | ok i3 d3 out3 =>
  have HX3 := Lib.hid h3
  have HC3 := Lib.hid (words_new HP2.out [⟨#[41]⟩] 1 [.string ⟨#[41]⟩] rfl rfl (by decide) (by decide) HX3.out)
  clear h3
  go_wp2_with (go_at_call 36; (with_reducible refine Calls.mono HC3.out ?_); rintro e w3 ⟨rfl, ve3, h2, h3⟩; have HP3 := Lib.hid h2; have HS3 := Lib.hid (HS2.out.trans h3); have HG3 := Lib.hid (mkeep (HT2.out.trans h3) HP0.out HG0.out (by decide) (by decide)); have HT3 := Lib.hid (HT2.out.trans h3); clear bx; have bx := cell_of_row _ _ 0 _ _ _ HG3.out; clear h2 h3)
  go_end0
  exact ⟨rfl, ve3, HP3.out, HS3.out⟩
 | err er jj =>
  have HX3 := Lib.hid h3
  have HC3 := Lib.hid (words_new HP2.out [⟨#[41]⟩] 1 [.string ⟨#[41]⟩] rfl rfl (by decide) (by decide) HX3.out)
  clear h3
  go_wp2_with (go_at_call 36; (with_reducible refine Calls.mono HC3.out ?_); rintro e w3 ⟨rfl, ve3, h3⟩; have HS3 := Lib.hid (HS2.out.trans h3); clear h3)
  exact ⟨rfl, rfl, ve3, HS3.out⟩
set_option maxRecDepth 100000 in
set_option maxHeartbeats 8000000 in
theorem g_selected_1 (l : List Tk) (N : Nat) (G_expr : Good l N 65 [.rule .r_expr]) : GoodC l N 136 [.word ⟨#[91]⟩, .rule .r_expr, .rule .r_exprs, .word ⟨#[93]⟩] := by
 intro n hn W0 A c w0 p g i d out ve r H hg hr
 show Calls Tryz.prog 136 _ w0 _
 have HP0 := Lib.hid H
 have HG0 := Lib.hid hg
 have HNN := Lib.hid hn
 have HS0 := Lib.hid (PStep.refl p (.slice none 0 0) ve w0)
 have HT0 := HS0
 have bx := cell_of_row _ _ 0 _ _ _ hg
 have hr0 : srun l n ⟨([.word ⟨#[91]⟩] ++ ([.rule .r_expr, .rule .r_exprs] ++ [.word ⟨#[93]⟩])), i, d, out⟩ = some r := hr
 have HR0 := Lib.hid hr0
 clear H hg hn hr hr0
 go_enter Tryz.func136, Tryz.ntmps136
 rcases srun_app l n [.word ⟨#[91]⟩] ([.rule .r_expr, .rule .r_exprs] ++ [.word ⟨#[93]⟩]) i d out r HR0.out with ⟨er, jj, rfl, h1⟩ | ⟨i1, d1, out1, h1, hr1⟩
 ·skip
  have HX1 := Lib.hid h1
  have HC1 := Lib.hid (words_new HP0.out [⟨#[91]⟩] 1 [.string ⟨#[91]⟩] rfl rfl (by decide) (by decide) HX1.out)
  clear h1
  go_wp2_with (go_at_call 36; (with_reducible refine Calls.mono HC1.out ?_); rintro e w1 ⟨rfl, ve1, h3⟩; have HS1 := Lib.hid (HS0.out.trans h3); clear h3)
  exact ⟨rfl, rfl, ve1, HS1.out⟩
 have HR1 := Lib.hid hr1
 clear hr1
 have HX1 := Lib.hid h1
 have HC1 := Lib.hid (words_new HP0.out [⟨#[91]⟩] 1 [.string ⟨#[91]⟩] rfl rfl (by decide) (by decide) HX1.out)
 clear h1
 go_wp2_with (go_at_call 36; (with_reducible refine Calls.mono HC1.out ?_); rintro e w1 ⟨rfl, ve1, h2, h3⟩; have HP1 := Lib.hid h2; have HS1 := Lib.hid (HS0.out.trans h3); have HG1 := Lib.hid (mkeep (HT0.out.trans h3) HP0.out HG0.out (by decide) (by decide)); have HT1 := Lib.hid (HT0.out.trans h3); clear bx; have bx := cell_of_row _ _ 0 _ _ _ HG1.out; clear h2 h3)
 rcases srun_app l n [.rule .r_expr, .rule .r_exprs] [.word ⟨#[93]⟩] i1 d1 out1 r HR1.out with ⟨er, jj, rfl, h2⟩ | ⟨i2, d2, out2, h2, hr2⟩
 ·skip
  have HX2 := Lib.hid h2
  have HC2 := Lib.hid (row_new HP1.out (.func (.func 65) #[.pointer (some ⟨p, 0, none⟩)] #[]) 65 (.pointer (some ⟨p, 0, none⟩)) (.inl rfl) (fun w => enters_ Tryz.func65 (by kernel_rfl) rfl #[(.pointer (some ⟨p, 0, none⟩))] w) [⟨#[44]⟩] 1 [.string ⟨#[44]⟩] rfl rfl (by decide) (by decide) (T := [.rule .r_expr]) (R := .r_exprs) (fun cc => row_exprs cc) (G_expr.body) HNN.out HX2.out)
  clear h2
  go_wp2_with (go_at_call 68; (with_reducible refine Calls.mono HC2.out ?_); rintro e w2 ⟨rfl, ve2, h3⟩; have HS2 := Lib.hid (HS1.out.trans h3); clear h3)
  exact ⟨rfl, rfl, ve2, HS2.out⟩
 have HR2 := Lib.hid hr2
 clear hr2
 have HX2 := Lib.hid h2
 have HC2 := Lib.hid (row_new HP1.out (.func (.func 65) #[.pointer (some ⟨p, 0, none⟩)] #[]) 65 (.pointer (some ⟨p, 0, none⟩)) (.inl rfl) (fun w => enters_ Tryz.func65 (by kernel_rfl) rfl #[(.pointer (some ⟨p, 0, none⟩))] w) [⟨#[44]⟩] 1 [.string ⟨#[44]⟩] rfl rfl (by decide) (by decide) (T := [.rule .r_expr]) (R := .r_exprs) (fun cc => row_exprs cc) (G_expr.body) HNN.out HX2.out)
 clear h2
 go_wp2_with (go_at_call 68; (with_reducible refine Calls.mono HC2.out ?_); rintro e w2 ⟨rfl, ve2, h2, h3⟩; have HP2 := Lib.hid h2; have HS2 := Lib.hid (HS1.out.trans h3); have HG2 := Lib.hid (mkeep (HT1.out.trans h3) HP0.out HG0.out (by decide) (by decide)); have HT2 := Lib.hid (HT1.out.trans h3); clear bx; have bx := cell_of_row _ _ 0 _ _ _ HG2.out; clear h2 h3)
 have h3 := HR2.out
 cases r with
 | ok i3 d3 out3 =>
  have HX3 := Lib.hid h3
  have HC3 := Lib.hid (words_new HP2.out [⟨#[93]⟩] 1 [.string ⟨#[93]⟩] rfl rfl (by decide) (by decide) HX3.out)
  clear h3
  go_wp2_with (go_at_call 36; (with_reducible refine Calls.mono HC3.out ?_); rintro e w3 ⟨rfl, ve3, h2, h3⟩; have HP3 := Lib.hid h2; have HS3 := Lib.hid (HS2.out.trans h3); have HG3 := Lib.hid (mkeep (HT2.out.trans h3) HP0.out HG0.out (by decide) (by decide)); have HT3 := Lib.hid (HT2.out.trans h3); clear bx; have bx := cell_of_row _ _ 0 _ _ _ HG3.out; clear h2 h3)
  go_end0
  exact ⟨rfl, ve3, HP3.out, HS3.out⟩
 | err er jj =>
  have HX3 := Lib.hid h3
  have HC3 := Lib.hid (words_new HP2.out [⟨#[93]⟩] 1 [.string ⟨#[93]⟩] rfl rfl (by decide) (by decide) HX3.out)
  clear h3
  go_wp2_with (go_at_call 36; (with_reducible refine Calls.mono HC3.out ?_); rintro e w3 ⟨rfl, ve3, h3⟩; have HS3 := Lib.hid (HS2.out.trans h3); clear h3)
  exact ⟨rfl, rfl, ve3, HS3.out⟩
set_option maxRecDepth 100000 in
set_option maxHeartbeats 8000000 in
theorem g_selected_2 (l : List Tk) (N : Nat)  : GoodC l N 137 [.word ⟨#[46]⟩, .word ⟨#[64, 110, 97, 109, 101]⟩] := by
 intro n hn W0 A c w0 p g i d out ve r H hg hr
 show Calls Tryz.prog 137 _ w0 _
 have HP0 := Lib.hid H
 have HG0 := Lib.hid hg
 have HNN := Lib.hid hn
 have HS0 := Lib.hid (PStep.refl p (.slice none 0 0) ve w0)
 have HT0 := HS0
 have bx := cell_of_row _ _ 0 _ _ _ hg
 have hr0 : srun l n ⟨([.word ⟨#[46]⟩] ++ [.word ⟨#[64, 110, 97, 109, 101]⟩]), i, d, out⟩ = some r := hr
 have HR0 := Lib.hid hr0
 clear H hg hn hr hr0
 go_enter Tryz.func137, Tryz.ntmps137
 rcases srun_app l n [.word ⟨#[46]⟩] [.word ⟨#[64, 110, 97, 109, 101]⟩] i d out r HR0.out with ⟨er, jj, rfl, h1⟩ | ⟨i1, d1, out1, h1, hr1⟩
 ·skip
  have HX1 := Lib.hid h1
  have HC1 := Lib.hid (words_new HP0.out [⟨#[46]⟩] 1 [.string ⟨#[46]⟩] rfl rfl (by decide) (by decide) HX1.out)
  clear h1
  go_wp2_with (go_at_call 36; (with_reducible refine Calls.mono HC1.out ?_); rintro e w1 ⟨rfl, ve1, h3⟩; have HS1 := Lib.hid (HS0.out.trans h3); clear h3)
  exact ⟨rfl, rfl, ve1, HS1.out⟩
 have HR1 := Lib.hid hr1
 clear hr1
 have HX1 := Lib.hid h1
 have HC1 := Lib.hid (words_new HP0.out [⟨#[46]⟩] 1 [.string ⟨#[46]⟩] rfl rfl (by decide) (by decide) HX1.out)
 clear h1
 go_wp2_with (go_at_call 36; (with_reducible refine Calls.mono HC1.out ?_); rintro e w1 ⟨rfl, ve1, h2, h3⟩; have HP1 := Lib.hid h2; have HS1 := Lib.hid (HS0.out.trans h3); have HG1 := Lib.hid (mkeep (HT0.out.trans h3) HP0.out HG0.out (by decide) (by decide)); have HT1 := Lib.hid (HT0.out.trans h3); clear bx; have bx := cell_of_row _ _ 0 _ _ _ HG1.out; clear h2 h3)
 have h2 := HR1.out
 cases r with
 | ok i2 d2 out2 =>
  have HX2 := Lib.hid h2
  have HC2 := Lib.hid (name_any l N n HNN.out W0 A c w1 p i1 d1 out1 ve1 _ HP1.out HX2.out)
  clear h2
  go_wp2_with (go_at_call 37; (with_reducible refine Calls.mono HC2.out ?_); rintro e w2 ⟨rfl, ve2, h2, h3⟩; have HP2 := Lib.hid h2; have HS2 := Lib.hid (HS1.out.trans h3); have HG2 := Lib.hid (mkeep (HT1.out.trans h3) HP0.out HG0.out (by decide) (by decide)); have HT2 := Lib.hid (HT1.out.trans h3); clear bx; have bx := cell_of_row _ _ 0 _ _ _ HG2.out; clear h2 h3)
  go_end0
  exact ⟨rfl, ve2, HP2.out, HS2.out⟩
 | err er jj =>
  have HX2 := Lib.hid h2
  have HC2 := Lib.hid (name_any l N n HNN.out W0 A c w1 p i1 d1 out1 ve1 _ HP1.out HX2.out)
  clear h2
  go_wp2_with (go_at_call 37; (with_reducible refine Calls.mono HC2.out ?_); rintro e w2 ⟨rfl, ve2, h3⟩; have HS2 := Lib.hid (HS1.out.trans h3); clear h3)
  exact ⟨rfl, rfl, ve2, HS2.out⟩
end Go.Proofs.YtmjbpgnjgblnmaaGreat
namespace Go.Proofs.YtmjbpgnjgblnmaaGreat
open Go.RowKit Go.Proofs.YtmjbpgnjgblnmaaGreatW.PrintWords Go.Proofs.YtmjbpgnjgblnmaaGreatW.PrintLast Go.Proofs.YtmjbpgnjgblnmaaGreatW.PrintMore
set_option maxRecDepth 100000 in
set_option maxHeartbeats 8000000 in
theorem g_statement_4 (l : List Tk) (N : Nat) (G_expr : Good l N 65 [.rule .r_expr]) (G_body : Good l N 51 [.rule .r_body]) : GoodC l N 99 [.word ⟨#[102, 111, 114]⟩, .word ⟨#[64, 110, 97, 109, 101]⟩, .word ⟨#[58, 61]⟩, .rule .r_expr, .word ⟨#[116, 111]⟩, .rule .r_expr, .word ⟨#[100, 111]⟩, .rule .r_body, .word ⟨#[101, 110, 100]⟩] := by
 intro n hn W0 A c w0 p g i d out ve r H hg hr
 show Calls Tryz.prog 99 _ w0 _
 have HP0 := Lib.hid H
 have HG0 := Lib.hid hg
 have HNN := Lib.hid hn
 have HS0 := Lib.hid (PStep.refl p (.slice none 0 0) ve w0)
 have HT0 := HS0
 have bx := cell_of_row _ _ 0 _ _ _ hg
 have hr0 : srun l n ⟨([.word ⟨#[102, 111, 114]⟩] ++ ([.word ⟨#[64, 110, 97, 109, 101]⟩] ++ ([.word ⟨#[58, 61]⟩] ++ ([.rule .r_expr] ++ ([.word ⟨#[116, 111]⟩] ++ ([.rule .r_expr] ++ ([.word ⟨#[100, 111]⟩] ++ ([.rule .r_body] ++ [.word ⟨#[101, 110, 100]⟩])))))))), i, d, out⟩ = some r := hr
 have HR0 := Lib.hid hr0
 clear H hg hn hr hr0
 go_enter Tryz.func99, Tryz.ntmps99
 rcases srun_app l n [.word ⟨#[102, 111, 114]⟩] ([.word ⟨#[64, 110, 97, 109, 101]⟩] ++ ([.word ⟨#[58, 61]⟩] ++ ([.rule .r_expr] ++ ([.word ⟨#[116, 111]⟩] ++ ([.rule .r_expr] ++ ([.word ⟨#[100, 111]⟩] ++ ([.rule .r_body] ++ [.word ⟨#[101, 110, 100]⟩]))))))) i d out r HR0.out with ⟨er, jj, rfl, h1⟩ | ⟨i1, d1, out1, h1, hr1⟩
 ·skip
  have HX1 := Lib.hid h1
  have HC1 := Lib.hid (words_new HP0.out [⟨#[102, 111, 114]⟩] 1 [.string ⟨#[102, 111, 114]⟩] rfl rfl (by decide) (by decide) HX1.out)
  clear h1
  go_wp2_with (go_at_call 36; (with_reducible refine Calls.mono HC1.out ?_); rintro e w1 ⟨rfl, ve1, h3⟩; have HS1 := Lib.hid (HS0.out.trans h3); clear h3)
  exact ⟨rfl, rfl, ve1, HS1.out⟩
 have HR1 := Lib.hid hr1
 clear hr1
 have HX1 := Lib.hid h1
 have HC1 := Lib.hid (words_new HP0.out [⟨#[102, 111, 114]⟩] 1 [.string ⟨#[102, 111, 114]⟩] rfl rfl (by decide) (by decide) HX1.out)
 clear h1
 go_wp2_with (go_at_call 36; (with_reducible refine Calls.mono HC1.out ?_); rintro e w1 ⟨rfl, ve1, h2, h3⟩; have HP1 := Lib.hid h2; have HS1 := Lib.hid (HS0.out.trans h3); have HG1 := Lib.hid (mkeep (HT0.out.trans h3) HP0.out HG0.out (by decide) (by decide)); have HT1 := Lib.hid (HT0.out.trans h3); clear bx; have bx := cell_of_row _ _ 0 _ _ _ HG1.out; clear h2 h3)
 rcases srun_app l n [.word ⟨#[64, 110, 97, 109, 101]⟩] ([.word ⟨#[58, 61]⟩] ++ ([.rule .r_expr] ++ ([.word ⟨#[116, 111]⟩] ++ ([.rule .r_expr] ++ ([.word ⟨#[100, 111]⟩] ++ ([.rule .r_body] ++ [.word ⟨#[101, 110, 100]⟩])))))) i1 d1 out1 r HR1.out with ⟨er, jj, rfl, h2⟩ | ⟨i2, d2, out2, h2, hr2⟩
 ·skip
  have HX2 := Lib.hid h2
  have HC2 := Lib.hid (name_any l N n HNN.out W0 A c w1 p i1 d1 out1 ve1 _ HP1.out HX2.out)
  clear h2
  go_wp2_with (go_at_call 37; (with_reducible refine Calls.mono HC2.out ?_); rintro e w2 ⟨rfl, ve2, h3⟩; have HS2 := Lib.hid (HS1.out.trans h3); clear h3)
  exact ⟨rfl, rfl, ve2, HS2.out⟩
 have HR2 := Lib.hid hr2
 clear hr2
 have HX2 := Lib.hid h2
 have HC2 := Lib.hid (name_any l N n HNN.out W0 A c w1 p i1 d1 out1 ve1 _ HP1.out HX2.out)
 clear h2
 go_wp2_with (go_at_call 37; (with_reducible refine Calls.mono HC2.out ?_); rintro e w2 ⟨rfl, ve2, h2, h3⟩; have HP2 := Lib.hid h2; have HS2 := Lib.hid (HS1.out.trans h3); have HG2 := Lib.hid (mkeep (HT1.out.trans h3) HP0.out HG0.out (by decide) (by decide)); have HT2 := Lib.hid (HT1.out.trans h3); clear bx; have bx := cell_of_row _ _ 0 _ _ _ HG2.out; clear h2 h3)
 rcases srun_app l n [.word ⟨#[58, 61]⟩] ([.rule .r_expr] ++ ([.word ⟨#[116, 111]⟩] ++ ([.rule .r_expr] ++ ([.word ⟨#[100, 111]⟩] ++ ([.rule .r_body] ++ [.word ⟨#[101, 110, 100]⟩]))))) i2 d2 out2 r HR2.out with ⟨er, jj, rfl, h3⟩ | ⟨i3, d3, out3, h3, hr3⟩
 ·skip
  have HX3 := Lib.hid h3
  have HC3 := Lib.hid (words_new HP2.out [⟨#[58, 61]⟩] 1 [.string ⟨#[58, 61]⟩] rfl rfl (by decide) (by decide) HX3.out)
  clear h3
  go_wp2_with (go_at_call 36; (with_reducible refine Calls.mono HC3.out ?_); rintro e w3 ⟨rfl, ve3, h3⟩; have HS3 := Lib.hid (HS2.out.trans h3); clear h3)
  exact ⟨rfl, rfl, ve3, HS3.out⟩
 have HR3 := Lib.hid hr3
 clear hr3
 have HX3 := Lib.hid h3
 have HC3 := Lib.hid (words_new HP2.out [⟨#[58, 61]⟩] 1 [.string ⟨#[58, 61]⟩] rfl rfl (by decide) (by decide) HX3.out)
 clear h3
 go_wp2_with (go_at_call 36; (with_reducible refine Calls.mono HC3.out ?_); rintro e w3 ⟨rfl, ve3, h2, h3⟩; have HP3 := Lib.hid h2; have HS3 := Lib.hid (HS2.out.trans h3); have HG3 := Lib.hid (mkeep (HT2.out.trans h3) HP0.out HG0.out (by decide) (by decide)); have HT3 := Lib.hid (HT2.out.trans h3); clear bx; have bx := cell_of_row _ _ 0 _ _ _ HG3.out; clear h2 h3)
 rcases srun_app l n [.rule .r_expr] ([.word ⟨#[116, 111]⟩] ++ ([.rule .r_expr] ++ ([.word ⟨#[100, 111]⟩] ++ ([.rule .r_body] ++ [.word ⟨#[101, 110, 100]⟩])))) i3 d3 out3 r HR3.out with ⟨er, jj, rfl, h4⟩ | ⟨i4, d4, out4, h4, hr4⟩
 ·skip
  have HX4 := Lib.hid h4
  have HC4 := Lib.hid (G_expr n HNN.out W0 A c w3 p i3 d3 out3 ve3 _ HP3.out HX4.out)
  clear h4
  go_wp2_with (go_at_call 65; (with_reducible refine Calls.mono HC4.out ?_); rintro e w4 ⟨rfl, ve4, h3⟩; have HS4 := Lib.hid (HS3.out.trans h3); clear h3)
  exact ⟨rfl, rfl, ve4, HS4.out⟩
 have HR4 := Lib.hid hr4
 clear hr4
 have HX4 := Lib.hid h4
 have HC4 := Lib.hid (G_expr n HNN.out W0 A c w3 p i3 d3 out3 ve3 _ HP3.out HX4.out)
 clear h4
 go_wp2_with (go_at_call 65; (with_reducible refine Calls.mono HC4.out ?_); rintro e w4 ⟨rfl, ve4, h2, h3⟩; have HP4 := Lib.hid h2; have HS4 := Lib.hid (HS3.out.trans h3); have HG4 := Lib.hid (mkeep (HT3.out.trans h3) HP0.out HG0.out (by decide) (by decide)); have HT4 := Lib.hid (HT3.out.trans h3); clear bx; have bx := cell_of_row _ _ 0 _ _ _ HG4.out; clear h2 h3)
 rcases srun_app l n [.word ⟨#[116, 111]⟩] ([.rule .r_expr] ++ ([.word ⟨#[100, 111]⟩] ++ ([.rule .r_body] ++ [.word ⟨#[101, 110, 100]⟩]))) i4 d4 out4 r HR4.out with ⟨er, jj, rfl, h5⟩ | ⟨i5, d5, out5, h5, hr5⟩
 ·skip
  have HX5 := Lib.hid h5
  have HC5 := Lib.hid (words_new HP4.out [⟨#[116, 111]⟩] 1 [.string ⟨#[116, 111]⟩] rfl rfl (by decide) (by decide) HX5.out)
  clear h5
  go_wp2_with (go_at_call 36; (with_reducible refine Calls.mono HC5.out ?_); rintro e w5 ⟨rfl, ve5, h3⟩; have HS5 := Lib.hid (HS4.out.trans h3); clear h3)
  exact ⟨rfl, rfl, ve5, HS5.out⟩
 have HR5 := Lib.hid hr5
 clear hr5
 have HX5 := Lib.hid h5
 have HC5 := Lib.hid (words_new HP4.out [⟨#[116, 111]⟩] 1 [.string ⟨#[116, 111]⟩] rfl rfl (by decide) (by decide) HX5.out)
 clear h5
 go_wp2_with (go_at_call 36; (with_reducible refine Calls.mono HC5.out ?_); rintro e w5 ⟨rfl, ve5, h2, h3⟩; have HP5 := Lib.hid h2; have HS5 := Lib.hid (HS4.out.trans h3); have HG5 := Lib.hid (mkeep (HT4.out.trans h3) HP0.out HG0.out (by decide) (by decide)); have HT5 := Lib.hid (HT4.out.trans h3); clear bx; have bx := cell_of_row _ _ 0 _ _ _ HG5.out; clear h2 h3)
 rcases srun_app l n [.rule .r_expr] ([.word ⟨#[100, 111]⟩] ++ ([.rule .r_body] ++ [.word ⟨#[101, 110, 100]⟩])) i5 d5 out5 r HR5.out with ⟨er, jj, rfl, h6⟩ | ⟨i6, d6, out6, h6, hr6⟩
 ·skip
  have HX6 := Lib.hid h6
  have HC6 := Lib.hid (G_expr n HNN.out W0 A c w5 p i5 d5 out5 ve5 _ HP5.out HX6.out)
  clear h6
  go_wp2_with (go_at_call 65; (with_reducible refine Calls.mono HC6.out ?_); rintro e w6 ⟨rfl, ve6, h3⟩; have HS6 := Lib.hid (HS5.out.trans h3); clear h3)
  exact ⟨rfl, rfl, ve6, HS6.out⟩
 have HR6 := Lib.hid hr6
 clear hr6
 have HX6 := Lib.hid h6
 have HC6 := Lib.hid (G_expr n HNN.out W0 A c w5 p i5 d5 out5 ve5 _ HP5.out HX6.out)
 clear h6
 go_wp2_with (go_at_call 65; (with_reducible refine Calls.mono HC6.out ?_); rintro e w6 ⟨rfl, ve6, h2, h3⟩; have HP6 := Lib.hid h2; have HS6 := Lib.hid (HS5.out.trans h3); have HG6 := Lib.hid (mkeep (HT5.out.trans h3) HP0.out HG0.out (by decide) (by decide)); have HT6 := Lib.hid (HT5.out.trans h3); clear bx; have bx := cell_of_row _ _ 0 _ _ _ HG6.out; clear h2 h3)
 rcases srun_app l n [.word ⟨#[100, 111]⟩] ([.rule .r_body] ++ [.word ⟨#[101, 110, 100]⟩]) i6 d6 out6 r HR6.out with ⟨er, jj, rfl, h7⟩ | ⟨i7, d7, out7, h7, hr7⟩
 ·skip
  have HX7 := Lib.hid h7
  have HC7 := Lib.hid (words_new HP6.out [⟨#[100, 111]⟩] 1 [.string ⟨#[100, 111]⟩] rfl rfl (by decide) (by decide) HX7.out)
  clear h7
  go_wp2_with (go_at_call 36; (with_reducible refine Calls.mono HC7.out ?_); rintro e w7 ⟨rfl, ve7, h3⟩; have HS7 := Lib.hid (HS6.out.trans h3); clear h3)
  exact ⟨rfl, rfl, ve7, HS7.out⟩
 have HR7 := Lib.hid hr7
 clear hr7
 have HX7 := Lib.hid h7
 have HC7 := Lib.hid (words_new HP6.out [⟨#[100, 111]⟩] 1 [.string ⟨#[100, 111]⟩] rfl rfl (by decide) (by decide) HX7.out)
 clear h7
 go_wp2_with (go_at_call 36; (with_reducible refine Calls.mono HC7.out ?_); rintro e w7 ⟨rfl, ve7, h2, h3⟩; have HP7 := Lib.hid h2; have HS7 := Lib.hid (HS6.out.trans h3); have HG7 := Lib.hid (mkeep (HT6.out.trans h3) HP0.out HG0.out (by decide) (by decide)); have HT7 := Lib.hid (HT6.out.trans h3); clear bx; have bx := cell_of_row _ _ 0 _ _ _ HG7.out; clear h2 h3)
 rcases srun_app l n [.rule .r_body] [.word ⟨#[101, 110, 100]⟩] i7 d7 out7 r HR7.out with ⟨er, jj, rfl, h8⟩ | ⟨i8, d8, out8, h8, hr8⟩
 ·skip
  have HX8 := Lib.hid h8
  have HC8 := Lib.hid (G_body n HNN.out W0 A c w7 p i7 d7 out7 ve7 _ HP7.out HX8.out)
  clear h8
  go_wp2_with (go_at_call 51; (with_reducible refine Calls.mono HC8.out ?_); rintro e w8 ⟨rfl, ve8, h3⟩; have HS8 := Lib.hid (HS7.out.trans h3); clear h3)
  exact ⟨rfl, rfl, ve8, HS8.out⟩
 have HR8 := Lib.hid hr8
 clear hr8
 have HX8 := Lib.hid h8
 have HC8 := Lib.hid (G_body n HNN.out W0 A c w7 p i7 d7 out7 ve7 _ HP7.out HX8.out)
 clear h8
 go_wp2_with (go_at_call 51; (with_reducible refine Calls.mono HC8.out ?_); rintro e w8 ⟨rfl, ve8, h2, h3⟩; have HP8 := Lib.hid h2; have HS8 := Lib.hid (HS7.out.trans h3); have HG8 := Lib.hid (mkeep (HT7.out.trans h3) HP0.out HG0.out (by decide) (by decide)); have HT8 := Lib.hid (HT7.out.trans h3); clear bx; have bx := cell_of_row _ _ 0 _ _ _ HG8.out; clear h2 h3)
 have h9 := HR8.out
 cases r with
 | ok i9 d9 out9 =>
  have HX9 := Lib.hid h9
  have HC9 := Lib.hid (words_new HP8.out [⟨#[101, 110, 100]⟩] 1 [.string ⟨#[101, 110, 100]⟩] rfl rfl (by decide) (by decide) HX9.out)
  clear h9
  go_wp2_with (go_at_call 36; (with_reducible refine Calls.mono HC9.out ?_); rintro e w9 ⟨rfl, ve9, h2, h3⟩; have HP9 := Lib.hid h2; have HS9 := Lib.hid (HS8.out.trans h3); have HG9 := Lib.hid (mkeep (HT8.out.trans h3) HP0.out HG0.out (by decide) (by decide)); have HT9 := Lib.hid (HT8.out.trans h3); clear bx; have bx := cell_of_row _ _ 0 _ _ _ HG9.out; clear h2 h3)
  go_end0
  exact ⟨rfl, ve9, HP9.out, HS9.out⟩
 | err er jj =>
  have HX9 := Lib.hid h9
  have HC9 := Lib.hid (words_new HP8.out [⟨#[101, 110, 100]⟩] 1 [.string ⟨#[101, 110, 100]⟩] rfl rfl (by decide) (by decide) HX9.out)
  clear h9
  go_wp2_with (go_at_call 36; (with_reducible refine Calls.mono HC9.out ?_); rintro e w9 ⟨rfl, ve9, h3⟩; have HS9 := Lib.hid (HS8.out.trans h3); clear h3)
  exact ⟨rfl, rfl, ve9, HS9.out⟩
end Go.Proofs.YtmjbpgnjgblnmaaGreat
namespace Go.Proofs.YtmjbpgnjgblnmaaGreat
open Go.RowKit Go.Proofs.YtmjbpgnjgblnmaaGreatW.PrintWords Go.Proofs.YtmjbpgnjgblnmaaGreatW.PrintLast Go.Proofs.YtmjbpgnjgblnmaaGreatW.PrintMore
abbrev begL : List ByteArray := [⟨#[64, 110, 117, 109, 98, 101, 114]⟩, ⟨#[64, 116, 101, 120, 116]⟩, ⟨#[64, 99, 104, 97, 114]⟩, ⟨#[64, 110, 97, 109, 101]⟩, ⟨#[45]⟩, ⟨#[110, 111, 116]⟩, ⟨#[40]⟩]
theorem code_kind {t : Tk} {k : Int} {x : ByteArray} (h : (k = 1 ∧ x = ⟨#[64, 110, 97, 109, 101]⟩) ∨ (k = 3 ∧ x = ⟨#[64, 110, 117, 109, 98, 101, 114]⟩) ∨ (k = 4 ∧ x = ⟨#[64, 116, 101, 120, 116]⟩) ∨ (k = 5 ∧ x = ⟨#[64, 99, 104, 97, 114]⟩)) : (t.f0 == k) = true ↔ codeOf t = x := by
 rw [beq_iff_eq]
 have hx : bt x 0 = 64 := by rcases h with ⟨-, rfl⟩ | ⟨-, rfl⟩ | ⟨-, rfl⟩ | ⟨-, rfl⟩ <;> decide
 constructor
 ·intro h1
  unfold codeOf PSyntaxEvents.parse_code.f
  rw [h1]
  rcases h with ⟨rfl, rfl⟩ | ⟨rfl, rfl⟩ | ⟨rfl, rfl⟩ | ⟨rfl, rfl⟩ <;> rfl
 ·intro h1
  have hn : ∀ y : ByteArray, ¬ bt y 0 = 64 → ¬ y = x := fun y hy e => hy (by rw [e]; exact hx)
  unfold codeOf PSyntaxEvents.parse_code.f at h1
  by_cases c1 : t.f0 = 1
  ·rw [if_pos c1] at h1
   rcases h with ⟨rfl, rfl⟩ | ⟨rfl, rfl⟩ | ⟨rfl, rfl⟩ | ⟨rfl, rfl⟩
   ·exact c1
   all_goals exact absurd h1 (by decide)
  rw [if_neg c1] at h1
  by_cases c3 : t.f0 = 3
  ·rw [if_pos c3] at h1
   rcases h with ⟨rfl, rfl⟩ | ⟨rfl, rfl⟩ | ⟨rfl, rfl⟩ | ⟨rfl, rfl⟩
   ·exact absurd h1 (by decide)
   ·exact c3
   all_goals exact absurd h1 (by decide)
  rw [if_neg c3] at h1
  by_cases c4 : t.f0 = 4
  ·rw [if_pos c4] at h1
   rcases h with ⟨rfl, rfl⟩ | ⟨rfl, rfl⟩ | ⟨rfl, rfl⟩ | ⟨rfl, rfl⟩
   ·exact absurd h1 (by decide)
   ·exact absurd h1 (by decide)
   ·exact c4
   ·exact absurd h1 (by decide)
  rw [if_neg c4] at h1
  by_cases c5 : t.f0 = 5
  ·rw [if_pos c5] at h1
   rcases h with ⟨rfl, rfl⟩ | ⟨rfl, rfl⟩ | ⟨rfl, rfl⟩ | ⟨rfl, rfl⟩
   ·exact absurd h1 (by decide)
   ·exact absurd h1 (by decide)
   ·exact absurd h1 (by decide)
   ·exact c5
  rw [if_neg c5] at h1
  exfalso
  repeat' split at h1
  all_goals first
   | (simp only [Option.getD_some] at h1; exact hn _ (by omega) h1)
   | (simp only [Option.getD_some] at h1; rcases h with ⟨-, rfl⟩ | ⟨-, rfl⟩ | ⟨-, rfl⟩ | ⟨-, rfl⟩ <;> exact absurd h1 (by decide))
   | (simp only [Option.getD_none] at h1; rcases h with ⟨-, rfl⟩ | ⟨-, rfl⟩ | ⟨-, rfl⟩ | ⟨-, rfl⟩ <;> exact absurd h1 (by decide))
theorem of_in {l : List Tk} {i : Nat} {ks : List Int} {xs : List ByteArray} (h : ∀ t : Tk, (ks.any (fun k => t.f0 == k)) = inL (codeOf t) xs) (hx : inL ⟨#[]⟩ xs = false) : ofL l i ks = inL (cAt l i) xs := by
 unfold ofL cAt
 cases l[i]? with
 | none => exact hx.symm
 | some t => exact h t
theorem eqb {t : Tk} {k : Int} {x : ByteArray} (h : (t.f0 == k) = true ↔ codeOf t = x) : (t.f0 == k) = decide (x = codeOf t) := by
 by_cases hx : codeOf t = x
 ·rw [h.2 hx, decide_eq_true hx.symm]
 ·rw [decide_eq_false (fun e => hx e.symm)]
  cases hk : (t.f0 == k)
  ·rfl
  ·exact absurd (h.1 hk) hx
theorem of_begins (l : List Tk) (i : Nat) : (ofL l i [3, 4, 5, 1] || inL (cAt l i) [⟨#[45]⟩, ⟨#[110, 111, 116]⟩, ⟨#[40]⟩]) = inL (cAt l i) begL := by
 rw [of_in (xs := [⟨#[64, 110, 117, 109, 98, 101, 114]⟩, ⟨#[64, 116, 101, 120, 116]⟩, ⟨#[64, 99, 104, 97, 114]⟩, ⟨#[64, 110, 97, 109, 101]⟩]) (fun t => by
  simp only [List.any_cons, List.any_nil, Bool.or_false, inL]
  rw [eqb (code_kind (k := 3) (.inr (.inl ⟨rfl, rfl⟩))), eqb (code_kind (k := 4) (.inr (.inr (.inl ⟨rfl, rfl⟩)))), eqb (code_kind (k := 5) (.inr (.inr (.inr ⟨rfl, rfl⟩)))), eqb (code_kind (k := 1) (.inl ⟨rfl, rfl⟩))]) (by decide)]
 simp only [inL, begL, List.any_cons, List.any_nil, Bool.or_false, Bool.or_assoc]
theorem of_name (l : List Tk) (i : Nat) : ofL l i [1] = inL (cAt l i) [⟨#[64, 110, 97, 109, 101]⟩] :=
 of_in (fun t => by
  simp only [List.any_cons, List.any_nil, Bool.or_false, inL]
  rw [eqb (code_kind (k := 1) (.inl ⟨rfl, rfl⟩))]) (by decide)
theorem of_value (l : List Tk) (i : Nat) : ofL l i [3, 4, 5] = inL (cAt l i) [⟨#[64, 110, 117, 109, 98, 101, 114]⟩, ⟨#[64, 116, 101, 120, 116]⟩, ⟨#[64, 99, 104, 97, 114]⟩] :=
 of_in (fun t => by
  simp only [List.any_cons, List.any_nil, Bool.or_false, inL]
  rw [eqb (code_kind (k := 3) (.inr (.inl ⟨rfl, rfl⟩))), eqb (code_kind (k := 4) (.inr (.inr (.inl ⟨rfl, rfl⟩)))), eqb (code_kind (k := 5) (.inr (.inr (.inr ⟨rfl, rfl⟩))))]) (by decide)
set_option maxRecDepth 100000 in
set_option maxHeartbeats 4000000 in
theorem begins_new {W0 : World} {A : Option Addr} {c : Nat} {l : List Tk} {w : World} {p : Nat} {i : Nat} {d : Int} {out : List Ev} {ve : Value} (H : SAt W0 A c l w p i d out ve) :
  Calls Tryz.prog 124 #[.pointer (some ⟨p, 0, none⟩)] w fun e w' => e = .returned (.bool (inL (cAt l i) begL)) ∧ Below w.heap.size w w' := by
 have HOF := Lib.hid (of_new H [3, 4, 5, 1] 4 [.int .u8 3, .int .u8 4, .int .u8 5, .int .u8 1] rfl rfl (by decide))
 have HIS := Lib.hid (fun (w1 : World) (hb : Below w.heap.size w w1) => is_new (H.moved hb) [⟨#[45]⟩, ⟨#[110, 111, 116]⟩, ⟨#[40]⟩] 3 [.string ⟨#[45]⟩, .string ⟨#[110, 111, 116]⟩, .string ⟨#[40]⟩] rfl rfl (by decide) (by decide))
 rw [← of_begins]
 obtain ⟨m, hm⟩ : ∃ m, ofL l i [3, 4, 5, 1] = m := ⟨_, rfl⟩
 obtain ⟨m2, hm2⟩ : ∃ m, inL (cAt l i) [⟨#[45]⟩, ⟨#[110, 111, 116]⟩, ⟨#[40]⟩] = m := ⟨_, rfl⟩
 rw [hm] at HOF
 rw [hm2] at HIS
 rw [hm, hm2]
 clear H hm hm2
 go_enter Tryz.func124, Tryz.ntmps124
 cases m with
 | true =>
  go_wp2_with (go_at_call 48; (with_reducible refine Calls.mono HOF.out ?_); rintro e w1 ⟨rfl, hb⟩; have HB1 := Lib.hid hb; clear hb)
  go_ret
  exact ⟨rfl, HB1.out⟩
 | false =>
  go_wp2_with (first
   | (go_at_call 48; (with_reducible refine Calls.mono HOF.out ?_); rintro e w1 ⟨rfl, hb⟩; have HB1 := Lib.hid hb; clear hb)
   | (go_at_call 47; (with_reducible refine Calls.mono (HIS.out w1 HB1.out) ?_); rintro e w2 ⟨rfl, hb⟩; have HB2 := Lib.hid (HB1.out.trans (hb.mono HB1.out.size)); clear hb))
  go_ret
  exact ⟨rfl, HB2.out⟩
theorem if_yes {l : List Tk} {n : Nat} {R : RId} {T S : List WT} {i : Nat} {d : Int} {out : List Ev} {r : SRes} (he : R.expand (cAt l i) = some [.push T]) (hr : srun l n ⟨.rule R :: S, i, d, out⟩ = some r) : srun l n ⟨T ++ S, i, d, out⟩ = some r := by
 obtain ⟨_, m, rfl, h⟩ := srun_on hr (s' := ⟨T ++ S, i, d, out⟩) (by simp [sstep, he, effs, Eff.act])
 exact srun_le h (Nat.le_succ m)
theorem if_no {l : List Tk} {n : Nat} {R : RId} {S : List WT} {i : Nat} {d : Int} {out : List Ev} {r : SRes} (he : R.expand (cAt l i) = some []) (hr : srun l n ⟨.rule R :: S, i, d, out⟩ = some r) : srun l n ⟨S, i, d, out⟩ = some r := by
 obtain ⟨_, m, rfl, h⟩ := srun_on hr (s' := ⟨S, i, d, out⟩) (by simp [sstep, he, effs])
 exact srun_le h (Nat.le_succ m)
section
variable {W0 : World} {A : Option Addr} {c : Nat} {l : List Tk} {w W : World} {p : Nat} {i : Nat} {d : Int} {out : List Ev} {ve : Value}
theorem node_rule (H : SAt W0 A c l w p i d out ve) (k : Nat) (ki : Int) (hk : (k : Int) = ki) (v : Value) (F : FuncId) (x : Value) (hv : v = .func (.func F) #[x] #[] ∨ v = .func (.func F) #[] #[x]) (hen : ∀ w, (callFunc F #[x]).run Tryz.prog w = .ok (.enter F #[x]) w) {T : List WT} {R : RId} (he : R.expand (cAt l i) = some [.opn k T]) {N n : Nat} (hb : BodyOK W0 A c l p ve w N F #[x] T) (hn : n ≤ N + 1) {r : SRes} (hr : srun l n ⟨[.rule R], i, d, out⟩ = some r) :
  Calls Tryz.prog 33 #[.pointer (some ⟨p, 0, none⟩), .int .u8 ki, v] w (SPost W0 A c l p ve w r) := by
 obtain ⟨_, m, rfl, h⟩ := srun_on hr (s' := ⟨T ++ [.fin k], i, d + 1, out ++ [evOf (1, k)]⟩) (by simp [sstep, he, effs, Eff.act])
 exact node_new H k ki hk v F x hv hen hb (by omega) h
theorem node_rule_at (H : SAt W0 A c l w p i d out ve) (k : Nat) (ki : Int) (hk : (k : Int) = ki) (v : Value) (F : FuncId) (x : Value) (hv : v = .func (.func F) #[x] #[] ∨ v = .func (.func F) #[] #[x]) (hen : ∀ w, (callFunc F #[x]).run Tryz.prog w = .ok (.enter F #[x]) w) {T : List WT} {R : RId} (he : R.expand (cAt l i) = some [.opn k T]) {n : Nat} (hb : ∀ (m : Nat) (w1 : World) (ve1 : Value) (r' : SRes), MStep p ve w ve1 w1 → SAt W0 A c l w1 p i (d + 1) (out ++ [evOf (1, k)]) ve1 → srun l m ⟨T, i, d + 1, out ++ [evOf (1, k)]⟩ = some r' → Calls Tryz.prog F #[x] w1 (SPost W0 A c l p ve1 w1 r')) {r : SRes} (hr : srun l n ⟨[.rule R], i, d, out⟩ = some r) :
  Calls Tryz.prog 33 #[.pointer (some ⟨p, 0, none⟩), .int .u8 ki, v] w (SPost W0 A c l p ve w r) := by
 obtain ⟨_, m, rfl, h⟩ := srun_on hr (s' := ⟨T ++ [.fin k], i, d + 1, out ++ [evOf (1, k)]⟩) (by simp [sstep, he, effs, Eff.act])
 subst hk
 exact node_at H k v F x hv hen (fun w1 ve1 r' h1 h2 h3 => hb m w1 ve1 r' h1 h2 h3) h
theorem fail_post (H : SAt W0 A c l w p i d out ve) {R : RId} (he : R.expand (cAt l i) = none) {n : Nat} {r : SRes} (hr : srun l n ⟨[.rule R], i, d, out⟩ = some r) :
  Calls Tryz.prog 39 #[.pointer (some ⟨p, 0, none⟩)] w (SPost W0 A c l p ve w r) := by
 obtain ⟨_, rfl⟩ := srun_fin hr (q := .err (if i = l.length then 121 else 120) i) (by simp [sstep, he])
 refine (fail_any H).mono ?_
 rintro e w' ⟨h1, h2⟩
 exact ⟨h1, ve, PStep.below h2⟩
theorem srun_same {R1 R2 : RId} (he : R1.expand (cAt l i) = R2.expand (cAt l i)) {n : Nat} {r : SRes} (hr : srun l n ⟨[.rule R1], i, d, out⟩ = some r) : srun l n ⟨[.rule R2], i, d, out⟩ = some r := by
 cases n with
 | zero => simp [srun] at hr
 | succ n =>
  rw [srun] at hr ⊢
  have hs : sstep l ⟨[.rule R2], i, d, out⟩ = sstep l ⟨[.rule R1], i, d, out⟩ := by simp only [sstep, he]
  rw [hs]
  exact hr
theorem one_of {cc x : ByteArray} (h : inL cc [x] = true) : cc = x := by simpa using (inL_iff _ _).1 h
theorem none_of {cc : ByteArray} {xs : List ByteArray} (h : inL cc xs = false) : ∀ x ∈ xs, ¬ cc = x := fun x hx e => by
 rw [(inL_iff cc xs).2 (e ▸ hx)] at h
 cases h
end
end Go.Proofs.YtmjbpgnjgblnmaaGreat
