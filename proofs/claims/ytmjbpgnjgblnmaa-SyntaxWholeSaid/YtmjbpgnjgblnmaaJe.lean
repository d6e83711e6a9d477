/- What the claim stands on: part Je. -/
import Derived.Test.YtmjbpgnjgblnmaaJd
set_option linter.unusedVariables false
set_option linter.unusedSimpArgs false
namespace Go.Proofs.Ytmjbpgnjgblnmaa
open Go.RowKit Go.Proofs.YtmjbpgnjgblnmaaW.PrintWords Go.Proofs.YtmjbpgnjgblnmaaW.PrintLast Go.Proofs.YtmjbpgnjgblnmaaW.PrintMore
def goodW (s : ByteArray) : Bool := decide (0 < s.size) && !(bt s 0 == 64)
def lowW (s : ByteArray) : Bool := decide (97 ≤ bt s 0) && decide (bt s 0 ≤ 122)
theorem code_word {s : ByteArray} (hs : goodW s = true) (t : Tk) : ((t.f0 = (if lowW s then 2 else 6)) ∧ t.f1 = s) ↔ codeOf t = s := by
 simp only [goodW, Bool.and_eq_true, decide_eq_true_eq, Bool.not_eq_true', beq_eq_false_iff_ne, ne_eq] at hs
 obtain ⟨h0, h64⟩ := hs
 have hn : ∀ x : ByteArray, bt x 0 = 64 → ¬ x = s := fun x hx e => h64 (e ▸ hx)
 have e1 : bt ⟨#[64, 110, 97, 109, 101]⟩ 0 = 64 := by decide
 have e2 : bt ⟨#[64, 110, 117, 109, 98, 101, 114]⟩ 0 = 64 := by decide
 have e3 : bt ⟨#[64, 116, 101, 120, 116]⟩ 0 = 64 := by decide
 have e4 : bt ⟨#[64, 99, 104, 97, 114]⟩ 0 = 64 := by decide
 have e5 : bt ⟨#[64]⟩ 0 = 64 := by decide
 unfold codeOf codeF
 obtain ⟨t0, t1, ⟨t2, t3, t4⟩, t5⟩ := t
 dsimp only
 by_cases c1 : t0 = 1
 ·subst c1
  simp only [if_true, Option.getD_some]
  refine ⟨fun h => ?_, fun h => absurd h (hn _ e1)⟩
  have := h.1; split at this <;> omega
 rw [if_neg c1]
 by_cases c3 : t0 = 3
 ·subst c3
  simp only [if_true, Option.getD_some]
  refine ⟨fun h => ?_, fun h => absurd h (hn _ e2)⟩
  have := h.1; split at this <;> omega
 rw [if_neg c3]
 by_cases c4 : t0 = 4
 ·subst c4
  simp only [if_true, Option.getD_some]
  refine ⟨fun h => ?_, fun h => absurd h (hn _ e3)⟩
  have := h.1; split at this <;> omega
 rw [if_neg c4]
 by_cases c5 : t0 = 5
 ·subst c5
  simp only [if_true, Option.getD_some]
  refine ⟨fun h => ?_, fun h => absurd h (hn _ e4)⟩
  have := h.1; split at this <;> omega
 rw [if_neg c5]
 by_cases c2 : t0 = 2
 ·subst c2
  simp only [if_true]
  by_cases hz : (t1.size : Int) > 0
  ·have hz' : 0 < (t1.size : Int) := hz
   rw [if_pos hz, if_pos hz']
   by_cases ha : bt t1 0 ≥ 97
   ·rw [if_pos ha]
    by_cases hb : bt t1 0 ≤ 122
    ·rw [if_pos hb]
     simp only [Option.getD_some]
     constructor
     ·exact fun h => h.2
     ·intro h
      subst h
      refine ⟨?_, rfl⟩
      rw [if_pos (by simp [lowW]; omega)]
    ·rw [if_neg hb]
     simp only [Option.getD_some]
     refine ⟨fun h => ?_, fun h => absurd h (hn _ e5)⟩
     obtain ⟨h1, h2⟩ := h
     subst h2
     rw [if_neg (by simp [lowW]; omega)] at h1
     omega
   ·rw [if_neg ha]
    simp only [Option.getD_some]
    refine ⟨fun h => ?_, fun h => absurd h (hn _ e5)⟩
    obtain ⟨h1, h2⟩ := h
    subst h2
    rw [if_neg (by simp [lowW]; omega)] at h1
    omega
  ·rw [if_neg hz]
   simp only [Option.getD_some]
   refine ⟨fun h => ?_, fun h => absurd h (hn _ e5)⟩
   obtain ⟨h1, h2⟩ := h
   subst h2
   omega
 rw [if_neg c2]
 by_cases c6 : t0 = 6
 ·subst c6
  simp only [if_true]
  by_cases hz : (t1.size : Int) > 0
  ·have hz' : 0 < (t1.size : Int) := hz
   rw [if_pos hz, if_pos hz']
   by_cases ha : bt t1 0 < 97
   ·rw [if_pos ha]
    by_cases hb : bt t1 0 = 64
    ·rw [if_pos hb]
     simp only [Option.getD_some]
     refine ⟨fun h => ?_, fun h => absurd h (hn _ e5)⟩
     obtain ⟨h1, h2⟩ := h
     subst h2
     exact absurd hb h64
    ·rw [if_neg hb]
     simp only [Option.getD_some]
     constructor
     ·exact fun h => h.2
     ·intro h
      subst h
      refine ⟨?_, rfl⟩
      rw [if_neg (by simp [lowW]; omega)]
   ·rw [if_neg ha]
    by_cases hc : bt t1 0 > 122
    ·rw [if_pos hc]
     by_cases hb : bt t1 0 = 64
     ·omega
     ·rw [if_neg hb]
      simp only [Option.getD_some]
      constructor
      ·exact fun h => h.2
      ·intro h
       subst h
       refine ⟨?_, rfl⟩
       rw [if_neg (by simp [lowW]; omega)]
    ·rw [if_neg hc]
     simp only [Option.getD_some]
     refine ⟨fun h => ?_, fun h => absurd h (hn _ e5)⟩
     obtain ⟨h1, h2⟩ := h
     subst h2
     rw [if_pos (by simp [lowW]; omega)] at h1
     omega
  ·rw [if_neg hz]
   simp only [Option.getD_some]
   refine ⟨fun h => ?_, fun h => absurd h (hn _ e5)⟩
   obtain ⟨h1, h2⟩ := h
   subst h2
   omega
 rw [if_neg c6]
 simp only [Option.getD_some]
 refine ⟨fun h => ?_, fun h => absurd h (hn _ e5)⟩
 have := h.1; split at this <;> omega
theorem cAt_some {l : List Tk} {i : Nat} {t : Tk} (h : l[i]? = some t) : cAt l i = codeOf t := by unfold cAt; rw [h]
theorem cAt_end {l : List Tk} {i : Nat} (h : l.length ≤ i) : cAt l i = ⟨#[]⟩ := by unfold cAt; rw [List.getElem?_eq_none h]
theorem inL_end {ws : List ByteArray} (h : ∀ s ∈ ws, goodW s = true) : inL ⟨#[]⟩ ws = false := by
 refine inL_no (fun hm => ?_)
 have := h _ hm
 revert this
 decide
theorem inL_split {c : ByteArray} {ws : List ByteArray} {j : Nat} {s : ByteArray} (hj : ws[j]? = some s) (h : inL c (ws.take j) = false) : inL c (ws.take (j + 1)) = decide (s = c) := by
 rw [List.take_add_one, hj]
 simp only [inL, Option.toList_some, List.any_append, List.any_cons, List.any_nil, Bool.or_false] at h ⊢
 rw [h, Bool.false_or]
theorem inL_pre {c : ByteArray} {ws : List ByteArray} {j : Nat} (h : inL c (ws.take j) = true) : inL c ws = true := by
 rw [inL_iff] at h ⊢
 exact List.mem_of_mem_take h
theorem word_facts {s : ByteArray} (h : goodW s = true) : (0 : Int) < (s.size : Int) ∧ 0 < s.size := by
 simp only [goodW, Bool.and_eq_true, decide_eq_true_eq] at h
 omega
end Go.Proofs.Ytmjbpgnjgblnmaa
namespace Go.Proofs.Ytmjbpgnjgblnmaa
open Go.RowKit Go.Proofs.YtmjbpgnjgblnmaaW.PrintWords Go.Proofs.YtmjbpgnjgblnmaaW.PrintLast Go.Proofs.YtmjbpgnjgblnmaaW.PrintMore
theorem tkCells_one2 (t : Tk) : ∀ v ∈ ([.int .u8 t.f0, .string t.f1, .int .i64 t.f2.f0, .int .i64 t.f2.f1, .int .i64 t.f2.f2, .int .i64 t.f3] : List Value), v.oneCell' = true := by
 intro v hv; simp only [List.mem_cons, List.not_mem_nil, or_false] at hv; rcases hv with rfl | rfl | rfl | rfl | rfl | rfl <;> rfl
theorem str_ne {a b : ByteArray} (h : ¬ a = b) : (a.toList == b.toList) = false := by
 rw [beq_eq_false_iff_ne]
 intro e
 apply h
 have := congrArg List.toArray e
 have h2 : a.data = b.data := by simpa [ByteArray.toList_eq] using this
 cases a; cases b
 simpa using h2
theorem wrap_one {j n : Nat} (h : j < n) (hn : n ≤ 16) : (j : Int) < (n : Int) ∧ (0 : Int) ≤ (j : Int) ∧ wrap64 ((j : Int) + 1) = (j : Int) + 1 ∧ IntKind.i64.wrap ((j : Int) + 1) = (j : Int) + 1 := idx4 h (by omega)
set_option maxRecDepth 100000 in
set_option maxHeartbeats 8000000 in
theorem is_any {W0 : World} {A : Option Addr} {c : Nat} {l : List Tk} {w : World} {p : Nat} {i : Nat} {d : Int} {out : List Ev} {ve : Value} (H : SAt W0 A c l w p i d out ve) (A1 : Option Addr) (c1 : Nat) (ws : List ByteArray) (hC : Kd.C Kd.string w A1 ws.length ws) (hws : ∀ s ∈ ws, goodW s = true) (hl : ws.length ≤ 16) :
  Calls Try.prog 71 #[.pointer (some ⟨p, 0, none⟩), .slice A1 ws.length c1] w fun e w' => e = .returned (.bool (inL (cAt l i) ws)) ∧ Below w.heap.size w w' := by
 obtain ⟨q0, q1, q2, q3⟩ := H.cell
 by_cases hj : i < l.length
 ·obtain ⟨ad, hA, htc⟩ := tok_cells H.toks i hj
  have hg := rd_get l i hj
  obtain ⟨t, ht⟩ : ∃ t, PSyntaxWhole.rd_T35 l i = t := ⟨_, rfl⟩
  rw [ht] at htc hg
  rw [cAt_some hg]
  subst hA
  obtain ⟨c0, c1, c2, c3, c4, c5⟩ := htc w H.below
  obtain ⟨g1, g2, g3, g4⟩ := idx4 hj H.len
  have e1 : ((i : Int) == (l.length : Int)) = false := by rw [beq_eq_false_iff_ne]; omega
  have e2 : ¬ ((i : Int) = (l.length : Int)) := by omega
  have HWS := Lib.hid hws
  have HC := Lib.hid hC
  have HL := Lib.hid hl
  clear H ht hg htc hj hws hC hl
  go_enter Try.func71, Try.ntmps71
  go_wp2
  obtain ⟨Wd1, hWd⟩ : ∃ V, w.drew = V := ⟨_, rfl⟩
  have hbd : Below w.heap.size w Wd1 := by rw [← hWd]; exact (Below.refl _ w).drew
  have hSall : ∀ V, Below w.heap.size w V → V.cell? ⟨p, 0, none⟩ = some (.slice (some ad) l.length c) ∧ V.cell? ⟨p, 1, none⟩ = some (.int .i64 i) := fun V hV => ⟨pw_cell_below hV q0, pw_cell_below hV q1⟩
  have HSA := Lib.hid hSall
  have HS := Lib.hid (hSall Wd1 hbd)
  have HBD := Lib.hid hbd
  have HWd := Lib.hid hWd
  clear hSall hbd hWd
  refine wp_region_R (fun w' => w'.cell? ⟨p, 0, none⟩ = some (.slice (some ad) l.length c) ∧ w'.cell? ⟨p, 1, none⟩ = some (.int .i64 i)) (fun j => true) (by kernel_rfl) ?_
  rw [HWd.out]
  refine anyR_take (i := 0) (oi := { dst := some 9, op := .move (.tmp 0), type := 83, pos := "syntax.go:67", after := #[], guard := none }) (v := ?_) rfl (by kernel_rfl) (fun _ _ _ h => h) (Or.inl ⟨by rfl, ?_⟩) HS.out ?_
  rotate_left
  ·intro x h; (try dsimp only at h); go_simp; try (with_reducible rfl)
  try simp only [Act.put, List.setIfInBounds_toArray, List.set]
  refine anyR_take (i := 1) (oi := { dst := some 10, op := .nilCheck (.tmp 9), type := 0, pos := "syntax.go:67", after := #[{ on := 0, ground := .data }], guard := none }) (v := ?_) rfl (by kernel_rfl) (fun _ _ _ h => h) (Or.inl ⟨by rfl, ?_⟩) HS.out ?_
  rotate_left
  ·intro x h; (try dsimp only at h); go_simp; try (with_reducible rfl)
  try simp only [Act.put, List.setIfInBounds_toArray, List.set]
  refine anyR_take (i := 2) (oi := { dst := some 11, op := .fieldAddr 85 (.tmp 10) 1, type := 0, pos := "syntax.go:67", after := #[{ on := 1, ground := .data }], guard := none }) (v := ?_) rfl (by kernel_rfl) (fun _ _ _ h => h) (Or.inl ⟨by rfl, ?_⟩) HS.out ?_
  rotate_left
  ·intro x h; (try dsimp only at h); go_simp; try (with_reducible rfl)
  try simp only [Act.put, List.setIfInBounds_toArray, List.set]
  refine anyR_take (i := 3) (oi := { dst := some 12, op := .load 3 (.tmp 11), type := 3, pos := "syntax.go:67", after := #[{ on := 2, ground := .data }], guard := none }) (v := ?_) rfl (by kernel_rfl) (fun _ _ _ h => h) (Or.inl ⟨by rfl, ?_⟩) HS.out ?_
  rotate_left
  ·intro x h; (try dsimp only at h); go_simp; try (with_reducible rfl)
  try simp only [Act.put, List.setIfInBounds_toArray, List.set]
  refine anyR_take (i := 4) (oi := { dst := some 13, op := .move (.tmp 0), type := 83, pos := "syntax.go:67", after := #[], guard := none }) (v := ?_) rfl (by kernel_rfl) (fun _ _ _ h => h) (Or.inl ⟨by rfl, ?_⟩) HS.out ?_
  rotate_left
  ·intro x h; (try dsimp only at h); go_simp; try (with_reducible rfl)
  try simp only [Act.put, List.setIfInBounds_toArray, List.set]
  refine anyR_take (i := 5) (oi := { dst := some 14, op := .nilCheck (.tmp 13), type := 0, pos := "syntax.go:67", after := #[{ on := 4, ground := .data }], guard := none }) (v := ?_) rfl (by kernel_rfl) (fun _ _ _ h => h) (Or.inl ⟨by rfl, ?_⟩) HS.out ?_
  rotate_left
  ·intro x h; (try dsimp only at h); go_simp; try (with_reducible rfl)
  try simp only [Act.put, List.setIfInBounds_toArray, List.set]
  refine anyR_take (i := 6) (oi := { dst := some 15, op := .fieldAddr 85 (.tmp 14) 0, type := 0, pos := "syntax.go:67", after := #[{ on := 5, ground := .data }], guard := none }) (v := ?_) rfl (by kernel_rfl) (fun _ _ _ h => h) (Or.inl ⟨by rfl, ?_⟩) HS.out ?_
  rotate_left
  ·intro x h; (try dsimp only at h); go_simp; try (with_reducible rfl)
  try simp only [Act.put, List.setIfInBounds_toArray, List.set]
  refine anyR_take (i := 7) (oi := { dst := some 16, op := .load 22 (.tmp 15), type := 22, pos := "syntax.go:67", after := #[{ on := 6, ground := .data }], guard := none }) (v := ?_) rfl (by kernel_rfl) (fun _ _ _ h => h) (Or.inl ⟨by rfl, ?_⟩) HS.out ?_
  rotate_left
  ·intro x h; (try dsimp only at h); go_simp; try (with_reducible rfl)
  try simp only [Act.put, List.setIfInBounds_toArray, List.set]
  refine anyR_take (i := 8) (oi := { dst := some 17, op := .call { callee := .builtin .len, args := #[.tmp 16], argTypes := #[22] }, type := 3, pos := "syntax.go:67", after := #[{ on := 7, ground := .data }], guard := none }) (v := ?_) rfl (by kernel_rfl) (fun _ _ _ h => h) (Or.inl ⟨by rfl, ?_⟩) HS.out ?_
  rotate_left
  ·intro x h; (try dsimp only at h); go_simp; try (with_reducible rfl)
  try simp only [Act.put, List.setIfInBounds_toArray, List.set]
  refine anyR_take (i := 9) (oi := { dst := some 18, op := .binOp .eql 3 (.tmp 12) (.tmp 17) 3, type := 4, pos := "syntax.go:67", after := #[{ on := 3, ground := .data }, { on := 8, ground := .data }], guard := none }) (v := ?_) rfl (by kernel_rfl) (fun _ _ _ h => h) (Or.inl ⟨by rfl, ?_⟩) HS.out ?_
  rotate_left
  ·intro x h; (try dsimp only at h); go_simp; try (with_reducible rfl)
  try simp only [Act.put, List.setIfInBounds_toArray, List.set]
  refine anyR_done (by kernel_rfl) ?_ _
  have HBW1 := Lib.hid HBD.out
  replace q0 := pw_cell_below HBW1.out q0
  replace q1 := pw_cell_below HBW1.out q1
  replace c0 := pw_cell_below HBW1.out c0
  replace c1 := pw_cell_below HBW1.out c1
  replace c2 := pw_cell_below HBW1.out c2
  replace c3 := pw_cell_below HBW1.out c3
  replace c4 := pw_cell_below HBW1.out c4
  replace c5 := pw_cell_below HBW1.out c5
  clear HS HSA HWd HBD
  go_upto_region 3 with (fail)
  obtain ⟨Wd2, hWd⟩ : ∃ V, Wd1.drew = V := ⟨_, rfl⟩
  have hbd : Below Wd1.heap.size Wd1 Wd2 := by rw [← hWd]; exact (Below.refl _ Wd1).drew
  have hSall : ∀ V, Below Wd1.heap.size Wd1 V → V.cell? ⟨p, 0, none⟩ = some (.slice (some ad) l.length c) ∧ V.cell? ⟨p, 1, none⟩ = some (.int .i64 i) ∧ V.cell? (ad.add (i * 6)) = some (.int .u8 t.f0) ∧ V.cell? ⟨(ad.add (i * 6)).block, (ad.add (i * 6)).off + 1, none⟩ = some (.string t.f1) ∧ V.cell? ⟨(ad.add (i * 6)).block, (ad.add (i * 6)).off + 2, none⟩ = some (.int .i64 t.f2.f0) ∧ V.cell? ⟨(ad.add (i * 6)).block, (ad.add (i * 6)).off + 3, none⟩ = some (.int .i64 t.f2.f1) ∧ V.cell? ⟨(ad.add (i * 6)).block, (ad.add (i * 6)).off + 4, none⟩ = some (.int .i64 t.f2.f2) ∧ V.cell? ⟨(ad.add (i * 6)).block, (ad.add (i * 6)).off + 5, none⟩ = some (.int .i64 t.f3) := fun V hV => ⟨pw_cell_below hV q0, pw_cell_below hV q1, pw_cell_below hV c0, pw_cell_below hV c1, pw_cell_below hV c2, pw_cell_below hV c3, pw_cell_below hV c4, pw_cell_below hV c5⟩
  have HSA := Lib.hid hSall
  have HS := Lib.hid (hSall Wd2 hbd)
  have HBD := Lib.hid hbd
  have HWd := Lib.hid hWd
  clear hSall hbd hWd
  refine wp_region_R (fun w' => w'.cell? ⟨p, 0, none⟩ = some (.slice (some ad) l.length c) ∧ w'.cell? ⟨p, 1, none⟩ = some (.int .i64 i) ∧ w'.cell? (ad.add (i * 6)) = some (.int .u8 t.f0) ∧ w'.cell? ⟨(ad.add (i * 6)).block, (ad.add (i * 6)).off + 1, none⟩ = some (.string t.f1) ∧ w'.cell? ⟨(ad.add (i * 6)).block, (ad.add (i * 6)).off + 2, none⟩ = some (.int .i64 t.f2.f0) ∧ w'.cell? ⟨(ad.add (i * 6)).block, (ad.add (i * 6)).off + 3, none⟩ = some (.int .i64 t.f2.f1) ∧ w'.cell? ⟨(ad.add (i * 6)).block, (ad.add (i * 6)).off + 4, none⟩ = some (.int .i64 t.f2.f2) ∧ w'.cell? ⟨(ad.add (i * 6)).block, (ad.add (i * 6)).off + 5, none⟩ = some (.int .i64 t.f3)) (fun j => !(Nat.beq j 11)) (by kernel_rfl) ?_
  rw [HWd.out]
  refine anyR_take (i := 0) (oi := { dst := some 19, op := .move (.tmp 0), type := 83, pos := "syntax.go:70", after := #[], guard := none }) (v := ?_) rfl (by kernel_rfl) (fun _ _ _ h => h) (Or.inl ⟨by rfl, ?_⟩) HS.out ?_
  rotate_left
  ·intro x h; (try dsimp only at h); go_simp; try (with_reducible rfl)
  try simp only [Act.put, List.setIfInBounds_toArray, List.set]
  refine anyR_take (i := 1) (oi := { dst := some 20, op := .nilCheck (.tmp 19), type := 0, pos := "syntax.go:70", after := #[{ on := 0, ground := .data }], guard := none }) (v := ?_) rfl (by kernel_rfl) (fun _ _ _ h => h) (Or.inl ⟨by rfl, ?_⟩) HS.out ?_
  rotate_left
  ·intro x h; (try dsimp only at h); go_simp; try (with_reducible rfl)
  try simp only [Act.put, List.setIfInBounds_toArray, List.set]
  refine anyR_take (i := 2) (oi := { dst := some 21, op := .fieldAddr 85 (.tmp 20) 0, type := 0, pos := "syntax.go:70", after := #[{ on := 1, ground := .data }], guard := none }) (v := ?_) rfl (by kernel_rfl) (fun _ _ _ h => h) (Or.inl ⟨by rfl, ?_⟩) HS.out ?_
  rotate_left
  ·intro x h; (try dsimp only at h); go_simp; try (with_reducible rfl)
  try simp only [Act.put, List.setIfInBounds_toArray, List.set]
  refine anyR_take (i := 3) (oi := { dst := some 22, op := .load 22 (.tmp 21), type := 22, pos := "syntax.go:70", after := #[{ on := 2, ground := .data }], guard := none }) (v := ?_) rfl (by kernel_rfl) (fun _ _ _ h => h) (Or.inl ⟨by rfl, ?_⟩) HS.out ?_
  rotate_left
  ·intro x h; (try dsimp only at h); go_simp; try (with_reducible rfl)
  try simp only [Act.put, List.setIfInBounds_toArray, List.set]
  refine anyR_take (i := 4) (oi := { dst := some 23, op := .move (.tmp 0), type := 83, pos := "syntax.go:70", after := #[], guard := none }) (v := ?_) rfl (by kernel_rfl) (fun _ _ _ h => h) (Or.inl ⟨by rfl, ?_⟩) HS.out ?_
  rotate_left
  ·intro x h; (try dsimp only at h); go_simp; try (with_reducible rfl)
  try simp only [Act.put, List.setIfInBounds_toArray, List.set]
  refine anyR_take (i := 5) (oi := { dst := some 24, op := .nilCheck (.tmp 23), type := 0, pos := "syntax.go:70", after := #[{ on := 4, ground := .data }], guard := none }) (v := ?_) rfl (by kernel_rfl) (fun _ _ _ h => h) (Or.inl ⟨by rfl, ?_⟩) HS.out ?_
  rotate_left
  ·intro x h; (try dsimp only at h); go_simp; try (with_reducible rfl)
  try simp only [Act.put, List.setIfInBounds_toArray, List.set]
  refine anyR_take (i := 6) (oi := { dst := some 25, op := .fieldAddr 85 (.tmp 24) 1, type := 0, pos := "syntax.go:70", after := #[{ on := 5, ground := .data }], guard := none }) (v := ?_) rfl (by kernel_rfl) (fun _ _ _ h => h) (Or.inl ⟨by rfl, ?_⟩) HS.out ?_
  rotate_left
  ·intro x h; (try dsimp only at h); go_simp; try (with_reducible rfl)
  try simp only [Act.put, List.setIfInBounds_toArray, List.set]
  refine anyR_take (i := 7) (oi := { dst := some 26, op := .load 3 (.tmp 25), type := 3, pos := "syntax.go:70", after := #[{ on := 6, ground := .data }], guard := none }) (v := ?_) rfl (by kernel_rfl) (fun _ _ _ h => h) (Or.inl ⟨by rfl, ?_⟩) HS.out ?_
  rotate_left
  ·intro x h; (try dsimp only at h); go_simp; try (with_reducible rfl)
  try simp only [Act.put, List.setIfInBounds_toArray, List.set]
  refine anyR_take (i := 8) (oi := { dst := some 27, op := .indexAddr 22 (.tmp 22) (.tmp 26), type := 0, pos := "syntax.go:70", after := #[{ on := 3, ground := .data }, { on := 7, ground := .data }], guard := none }) (v := ?_) rfl (by kernel_rfl) (fun _ _ _ h => h) (Or.inl ⟨by rfl, ?_⟩) HS.out ?_
  rotate_left
  ·intro x h; (try dsimp only at h); go_simp; try (with_reducible rfl)
  try simp only [Act.put, List.setIfInBounds_toArray, List.set]
  refine anyR_take (i := 9) (oi := { dst := some 28, op := .load 35 (.tmp 27), type := 35, pos := "syntax.go:70", after := #[{ on := 8, ground := .data }], guard := none }) (v := ?_) rfl (by kernel_rfl) (fun _ _ _ h => h) (Or.inl ⟨by rfl, ?_⟩) HS.out ?_
  rotate_left
  ·intro x h; (try dsimp only at h); go_simp; try (with_reducible rfl)
  try simp only [Act.put, List.setIfInBounds_toArray, List.set]
  refine anyR_ready (rs := [10]) (by kernel_rfl) (by simp) ?_
  refine ReadyR.cons (o := { dst := some 5, op := .alloc 35, type := 0, pos := "syntax.go:70", after := #[], guard := none }) rfl (fun K hK => ?_) ReadyR.nil
  go_simp
  refine hK.out _ _ (fun _ => HSA.out _ (HBD.out.alloc HBD.out.size _)) ?_
  clear hK K
  obtain ⟨⟨cur, hcur, hfit⟩, hbx⟩ := box_new HBD.out 35 [Value.int .u8 0, .string ⟨#[]⟩, .int .i64 0, .int .i64 0, .int .i64 0, .int .i64 0] [.int .u8 t.f0, .string t.f1, .int .i64 t.f2.f0, .int .i64 t.f2.f1, .int .i64 t.f2.f2, .int .i64 t.f3] rfl
  have HCU := Lib.hid (And.intro hcur hfit)
  have HBX := Lib.hid hbx
  clear hcur hfit hbx
  try simp only [Act.put, List.setIfInBounds_toArray, List.set]
  refine anyR_ready (rs := [11]) (by kernel_rfl) (by simp) ?_
  refine ReadyR.cons (o := { dst := none, op := .store 35 (.tmp 5) (.tmp 28), type := 0, pos := "syntax.go:70", after := #[{ on := 10, ground := .data }, { on := 9, ground := .data }, { on := 0, ground := .phase }, { on := 1, ground := .phase }, { on := 2, ground := .phase }, { on := 3, ground := .phase }, { on := 4, ground := .phase }, { on := 5, ground := .phase }, { on := 6, ground := .phase }, { on := 7, ground := .phase }, { on := 8, ground := .phase }, { on := 9, ground := .phase }, { on := 10, ground := .phase }], guard := none }) rfl (fun K hK => ?_) ReadyR.nil
  refine step_store rfl rfl 35 (.tmp 5) (.tmp 28) rfl (g := Wd2.heap.size) (off := 0) (.agg #[.int .u8 t.f0, .string t.f1, .int .i64 t.f2.f0, .int .i64 t.f2.f1, .int .i64 t.f2.f2, .int .i64 t.f3]) [.int .u8 t.f0, .string t.f1, .int .i64 t.f2.f0, .int .i64 t.f2.f1, .int .i64 t.f2.f2, .int .i64 t.f3] rfl rfl rfl (by kernel_rfl) (tkCells_one2 t) HCU.out.1 HCU.out.2 ?_
  have HN := Lib.hid (HBX.out _ rfl)
  refine hK.out _ _ (fun h => by cases h) ?_
  clear hK K HBX HCU HSA HS
  generalize (Wd2.alloc (.cells [Value.int .u8 0, .string ⟨#[]⟩, .int .i64 0, .int .i64 0, .int .i64 0, .int .i64 0].toArray 35)).setCells Wd2.heap.size 0 [.int .u8 t.f0, .string t.f1, .int .i64 t.f2.f0, .int .i64 t.f2.f1, .int .i64 t.f2.f2, .int .i64 t.f3] = V3 at HN ⊢
  try simp only [Act.put, List.setIfInBounds_toArray, List.set]
  refine anyR_done (by kernel_rfl) ?_ _
  have HBW := HBW1
  have hCV := Kd.C_below HC.out (HBW.out.trans (HN.out.1.mono HBW.out.size))
  have HCV := Lib.hid hCV
  have HBV := Lib.hid (HBW.out.trans (HN.out.1.mono HBW.out.size))
  obtain ⟨Bx, hBx⟩ : ∃ Bx, Wd2.heap.size = Bx := ⟨_, rfl⟩
  obtain ⟨b0, b1⟩ : V3.cell? ⟨Wd2.heap.size, 0, none⟩ = some (.int .u8 t.f0) ∧ V3.cell? ⟨Wd2.heap.size, 1, none⟩ = some (.string t.f1) := ⟨cell_of_row _ _ _ _ _ _ HN.out.2, cell_of_row _ _ _ _ _ _ HN.out.2⟩
  rw [hBx] at b0 b1 ⊢
  clear hBx hCV HN HBW HC q0 q1 q2 q3 c0 c1 c2 c3 c4 c5
  go_wp2
  go_loopw [31] (fun v31 wr => ∃ j : Nat, j ≤ ws.length ∧ v31 = .int .i64 j ∧ Hid (wr = V3 ∧ inL (codeOf t) (ws.take j) = false)) (fun v31 _ => ws.length - (intOf v31).toNat)
  case atStart => exact ⟨0, Nat.zero_le _, rfl, Lib.hid ⟨rfl, rfl⟩⟩
  case round =>
   obtain ⟨j, hjl, rfl, H⟩ := hrel
   have hwv := H.out.1
   subst hwv
   by_cases hlt : j < ws.length
   ·obtain ⟨k1, k2, k3, k4⟩ := wrap_one hlt HL.out
    obtain ⟨ad1, hA1, hs⟩ := Kd.at_string HCV.out (j : Int) k2 k1
    subst hA1
    have hsj : ws[j]? = some (rdOf ByteArray.empty ws j) := by
     have := List.getElem?_eq_getElem hlt
     rw [this]
     simp [rdOf, this]
    obtain ⟨s, hse⟩ : ∃ s, rdOf ByteArray.empty ws (j : Int) = s := ⟨_, rfl⟩
    rw [hse] at hs hsj
    simp only [Int.toNat_natCast] at hs
    have hgw := HWS.out s (List.mem_of_getElem? hsj)
    obtain ⟨z1, z2⟩ := word_facts hgw
    have hbt : ((s[0]'z2).toNat : Int) = bt s 0 := bt_at s 0 z2
    have hcw := code_word hgw t
    have hsp := inL_split hsj H.out.2
    have HSP := Lib.hid hsp
    obtain ⟨kd, hkd⟩ : ∃ kd : Int, (if lowW s then (2 : Int) else 6) = kd := ⟨_, rfl⟩
    rw [hkd] at hcw
    have HCW := Lib.hid hcw
    have HSJ := Lib.hid hsj
    clear hgw hcw hsp hsj hse H
    by_cases l1 : 97 ≤ bt s 0
    ·have l1b : decide (97 ≤ bt s 0) = true := decide_eq_true l1
     by_cases l2 : bt s 0 ≤ 122
     ·have l2b : decide (bt s 0 ≤ 122) = true := decide_eq_true l2
      obtain rfl : kd = 2 := by rw [← hkd]; simp [lowW, l1, l2]
      by_cases m1 : t.f0 = 2
      ·have n1 : (t.f0 == 2) = true := by rw [beq_iff_eq]; exact m1
       by_cases m2 : t.f1 = s
       ·have n2 : (t.f1.toList == s.toList) = true := by rw [m2]; exact beq_self_eq_true _
        have hin : inL (codeOf t) ws = true := inL_pre (j := j + 1) (by rw [HSP.out]; exact decide_eq_true (HCW.out.1 ⟨m1, m2⟩).symm)
        have HIN := Lib.hid hin
        clear hin m1 m2
        go_wp2
        go_ret
        exact ⟨by rw [HIN.out]; rfl, HBV.out⟩
       ·have n2 : (t.f1.toList == s.toList) = false := str_ne m2
        have HNO : Hid (inL (codeOf t) (ws.take (j + 1)) = false) := Lib.hid (by rw [HSP.out]; exact decide_eq_false (fun e => m2 (HCW.out.2 e.symm).2))
        clear m1 m2
        go_wp2
        go_roundw
        case rel => exact ⟨j + 1, by omega, by go_num, Lib.hid ⟨by trivial, HNO.out⟩⟩
        case measure => simp [intOf] <;> omega
      ·have n1 : (t.f0 == 2) = false := by rw [beq_eq_false_iff_ne]; exact m1
       have HNO : Hid (inL (codeOf t) (ws.take (j + 1)) = false) := Lib.hid (by rw [HSP.out]; exact decide_eq_false (fun e => m1 (HCW.out.2 e.symm).1))
       clear m1
       go_wp2
       go_roundw
       case rel => exact ⟨j + 1, by omega, by go_num, Lib.hid ⟨by trivial, HNO.out⟩⟩
       case measure => simp [intOf] <;> omega
     ·have l2b : decide (bt s 0 ≤ 122) = false := decide_eq_false l2
      obtain rfl : kd = 6 := by rw [← hkd]; simp [lowW, l1, l2]
      by_cases m1 : t.f0 = 6
      ·have n1 : (t.f0 == 6) = true := by rw [beq_iff_eq]; exact m1
       by_cases m2 : t.f1 = s
       ·have n2 : (t.f1.toList == s.toList) = true := by rw [m2]; exact beq_self_eq_true _
        have hin : inL (codeOf t) ws = true := inL_pre (j := j + 1) (by rw [HSP.out]; exact decide_eq_true (HCW.out.1 ⟨m1, m2⟩).symm)
        have HIN := Lib.hid hin
        clear hin m1 m2
        go_wp2
        go_ret
        exact ⟨by rw [HIN.out]; rfl, HBV.out⟩
       ·have n2 : (t.f1.toList == s.toList) = false := str_ne m2
        have HNO : Hid (inL (codeOf t) (ws.take (j + 1)) = false) := Lib.hid (by rw [HSP.out]; exact decide_eq_false (fun e => m2 (HCW.out.2 e.symm).2))
        clear m1 m2
        go_wp2
        go_roundw
        case rel => exact ⟨j + 1, by omega, by go_num, Lib.hid ⟨by trivial, HNO.out⟩⟩
        case measure => simp [intOf] <;> omega
      ·have n1 : (t.f0 == 6) = false := by rw [beq_eq_false_iff_ne]; exact m1
       have HNO : Hid (inL (codeOf t) (ws.take (j + 1)) = false) := Lib.hid (by rw [HSP.out]; exact decide_eq_false (fun e => m1 (HCW.out.2 e.symm).1))
       clear m1
       go_wp2
       go_roundw
       case rel => exact ⟨j + 1, by omega, by go_num, Lib.hid ⟨by trivial, HNO.out⟩⟩
       case measure => simp [intOf] <;> omega
    ·have l1b : decide (97 ≤ bt s 0) = false := decide_eq_false l1
     obtain rfl : kd = 6 := by rw [← hkd]; simp [lowW, l1]
     by_cases m1 : t.f0 = 6
     ·have n1 : (t.f0 == 6) = true := by rw [beq_iff_eq]; exact m1
      by_cases m2 : t.f1 = s
      ·have n2 : (t.f1.toList == s.toList) = true := by rw [m2]; exact beq_self_eq_true _
       have hin : inL (codeOf t) ws = true := inL_pre (j := j + 1) (by rw [HSP.out]; exact decide_eq_true (HCW.out.1 ⟨m1, m2⟩).symm)
       have HIN := Lib.hid hin
       clear hin m1 m2
       go_wp2
       go_ret
       exact ⟨by rw [HIN.out]; rfl, HBV.out⟩
      ·have n2 : (t.f1.toList == s.toList) = false := str_ne m2
       have HNO : Hid (inL (codeOf t) (ws.take (j + 1)) = false) := Lib.hid (by rw [HSP.out]; exact decide_eq_false (fun e => m2 (HCW.out.2 e.symm).2))
       clear m1 m2
       go_wp2
       go_roundw
       case rel => exact ⟨j + 1, by omega, by go_num, Lib.hid ⟨by trivial, HNO.out⟩⟩
       case measure => simp [intOf] <;> omega
     ·have n1 : (t.f0 == 6) = false := by rw [beq_eq_false_iff_ne]; exact m1
      have HNO : Hid (inL (codeOf t) (ws.take (j + 1)) = false) := Lib.hid (by rw [HSP.out]; exact decide_eq_false (fun e => m1 (HCW.out.2 e.symm).1))
      clear m1
      go_wp2
      go_roundw
      case rel => exact ⟨j + 1, by omega, by go_num, Lib.hid ⟨by trivial, HNO.out⟩⟩
      case measure => simp [intOf] <;> omega
   ·obtain rfl : j = ws.length := by omega
    have hfin := H.out.2
    rw [List.take_length] at hfin
    have g9 : ¬ ((ws.length : Int) < (ws.length : Int)) := by omega
    have HBB := Lib.hid HBV.out
    have HFI := Lib.hid hfin
    clear H hfin
    go_wp2
    go_ret
    exact ⟨by rw [HFI.out]; rfl, HBB.out⟩
 ·obtain rfl : i = l.length := by have := H.ile; omega
  rw [cAt_end (Nat.le_refl _), inL_end hws]
  clear H hws hC hl
  go_enter Try.func71, Try.ntmps71
  go_wp2
  obtain ⟨Wd1, hWd⟩ : ∃ V, w.drew = V := ⟨_, rfl⟩
  have hbd : Below w.heap.size w Wd1 := by rw [← hWd]; exact (Below.refl _ w).drew
  have hSall : ∀ V, Below w.heap.size w V → V.cell? ⟨p, 0, none⟩ = some (.slice (A) l.length c) ∧ V.cell? ⟨p, 1, none⟩ = some (.int .i64 l.length) := fun V hV => ⟨pw_cell_below hV q0, pw_cell_below hV q1⟩
  have HSA := Lib.hid hSall
  have HS := Lib.hid (hSall Wd1 hbd)
  have HBD := Lib.hid hbd
  have HWd := Lib.hid hWd
  clear hSall hbd hWd
  refine wp_region_R (fun w' => w'.cell? ⟨p, 0, none⟩ = some (.slice (A) l.length c) ∧ w'.cell? ⟨p, 1, none⟩ = some (.int .i64 l.length)) (fun j => true) (by kernel_rfl) ?_
  rw [HWd.out]
  refine anyR_take (i := 0) (oi := { dst := some 9, op := .move (.tmp 0), type := 83, pos := "syntax.go:67", after := #[], guard := none }) (v := ?_) rfl (by kernel_rfl) (fun _ _ _ h => h) (Or.inl ⟨by rfl, ?_⟩) HS.out ?_
  rotate_left
  ·intro x h; (try dsimp only at h); go_simp; try (with_reducible rfl)
  try simp only [Act.put, List.setIfInBounds_toArray, List.set]
  refine anyR_take (i := 1) (oi := { dst := some 10, op := .nilCheck (.tmp 9), type := 0, pos := "syntax.go:67", after := #[{ on := 0, ground := .data }], guard := none }) (v := ?_) rfl (by kernel_rfl) (fun _ _ _ h => h) (Or.inl ⟨by rfl, ?_⟩) HS.out ?_
  rotate_left
  ·intro x h; (try dsimp only at h); go_simp; try (with_reducible rfl)
  try simp only [Act.put, List.setIfInBounds_toArray, List.set]
  refine anyR_take (i := 2) (oi := { dst := some 11, op := .fieldAddr 85 (.tmp 10) 1, type := 0, pos := "syntax.go:67", after := #[{ on := 1, ground := .data }], guard := none }) (v := ?_) rfl (by kernel_rfl) (fun _ _ _ h => h) (Or.inl ⟨by rfl, ?_⟩) HS.out ?_
  rotate_left
  ·intro x h; (try dsimp only at h); go_simp; try (with_reducible rfl)
  try simp only [Act.put, List.setIfInBounds_toArray, List.set]
  refine anyR_take (i := 3) (oi := { dst := some 12, op := .load 3 (.tmp 11), type := 3, pos := "syntax.go:67", after := #[{ on := 2, ground := .data }], guard := none }) (v := ?_) rfl (by kernel_rfl) (fun _ _ _ h => h) (Or.inl ⟨by rfl, ?_⟩) HS.out ?_
  rotate_left
  ·intro x h; (try dsimp only at h); go_simp; try (with_reducible rfl)
  try simp only [Act.put, List.setIfInBounds_toArray, List.set]
  refine anyR_take (i := 4) (oi := { dst := some 13, op := .move (.tmp 0), type := 83, pos := "syntax.go:67", after := #[], guard := none }) (v := ?_) rfl (by kernel_rfl) (fun _ _ _ h => h) (Or.inl ⟨by rfl, ?_⟩) HS.out ?_
  rotate_left
  ·intro x h; (try dsimp only at h); go_simp; try (with_reducible rfl)
  try simp only [Act.put, List.setIfInBounds_toArray, List.set]
  refine anyR_take (i := 5) (oi := { dst := some 14, op := .nilCheck (.tmp 13), type := 0, pos := "syntax.go:67", after := #[{ on := 4, ground := .data }], guard := none }) (v := ?_) rfl (by kernel_rfl) (fun _ _ _ h => h) (Or.inl ⟨by rfl, ?_⟩) HS.out ?_
  rotate_left
  ·intro x h; (try dsimp only at h); go_simp; try (with_reducible rfl)
  try simp only [Act.put, List.setIfInBounds_toArray, List.set]
  refine anyR_take (i := 6) (oi := { dst := some 15, op := .fieldAddr 85 (.tmp 14) 0, type := 0, pos := "syntax.go:67", after := #[{ on := 5, ground := .data }], guard := none }) (v := ?_) rfl (by kernel_rfl) (fun _ _ _ h => h) (Or.inl ⟨by rfl, ?_⟩) HS.out ?_
  rotate_left
  ·intro x h; (try dsimp only at h); go_simp; try (with_reducible rfl)
  try simp only [Act.put, List.setIfInBounds_toArray, List.set]
  refine anyR_take (i := 7) (oi := { dst := some 16, op := .load 22 (.tmp 15), type := 22, pos := "syntax.go:67", after := #[{ on := 6, ground := .data }], guard := none }) (v := ?_) rfl (by kernel_rfl) (fun _ _ _ h => h) (Or.inl ⟨by rfl, ?_⟩) HS.out ?_
  rotate_left
  ·intro x h; (try dsimp only at h); go_simp; try (with_reducible rfl)
  try simp only [Act.put, List.setIfInBounds_toArray, List.set]
  refine anyR_take (i := 8) (oi := { dst := some 17, op := .call { callee := .builtin .len, args := #[.tmp 16], argTypes := #[22] }, type := 3, pos := "syntax.go:67", after := #[{ on := 7, ground := .data }], guard := none }) (v := ?_) rfl (by kernel_rfl) (fun _ _ _ h => h) (Or.inl ⟨by rfl, ?_⟩) HS.out ?_
  rotate_left
  ·intro x h; (try dsimp only at h); go_simp; try (with_reducible rfl)
  try simp only [Act.put, List.setIfInBounds_toArray, List.set]
  refine anyR_take (i := 9) (oi := { dst := some 18, op := .binOp .eql 3 (.tmp 12) (.tmp 17) 3, type := 4, pos := "syntax.go:67", after := #[{ on := 3, ground := .data }, { on := 8, ground := .data }], guard := none }) (v := ?_) rfl (by kernel_rfl) (fun _ _ _ h => h) (Or.inl ⟨by rfl, ?_⟩) HS.out ?_
  rotate_left
  ·intro x h; (try dsimp only at h); go_simp; try (with_reducible rfl)
  try simp only [Act.put, List.setIfInBounds_toArray, List.set]
  refine anyR_done (by kernel_rfl) ?_ _
  go_wp2
  go_ret
  exact ⟨rfl, HBD.out⟩
end Go.Proofs.Ytmjbpgnjgblnmaa
namespace Go.Proofs.Ytmjbpgnjgblnmaa
open Go.RowKit Go.Proofs.YtmjbpgnjgblnmaaW.PrintWords Go.Proofs.YtmjbpgnjgblnmaaW.PrintLast Go.Proofs.YtmjbpgnjgblnmaaW.PrintMore
def ofL (l : List Tk) (i : Nat) (ks : List Int) : Bool := match l[i]? with
 | some t => ks.any (fun k => t.f0 == k)
 | none => false
theorem any_split {ks : List Int} {f : Int → Bool} {j : Nat} {k : Int} (hj : ks[j]? = some k) (h : (ks.take j).any f = false) : (ks.take (j + 1)).any f = f k := by
 rw [List.take_add_one, hj]
 simp only [Option.toList_some, List.any_append, List.any_cons, List.any_nil, Bool.or_false]
 rw [h, Bool.false_or]
theorem any_pre {ks : List Int} {f : Int → Bool} {j : Nat} (h : (ks.take j).any f = true) : ks.any f = true := by
 rw [List.any_eq_true] at h ⊢
 obtain ⟨x, h1, h2⟩ := h
 exact ⟨x, List.mem_of_mem_take h1, h2⟩
set_option maxRecDepth 100000 in
set_option maxHeartbeats 8000000 in
theorem of_any {W0 : World} {A : Option Addr} {c : Nat} {l : List Tk} {w : World} {p : Nat} {i : Nat} {d : Int} {out : List Ev} {ve : Value} (H : SAt W0 A c l w p i d out ve) (A1 : Option Addr) (c1 : Nat) (ks : List Int) (hC : Kd.C (Kd.int .u8) w A1 ks.length ks) (hl : ks.length ≤ 16) :
  Calls Try.prog 72 #[.pointer (some ⟨p, 0, none⟩), .slice A1 ks.length c1] w fun e w' => e = .returned (.bool (ofL l i ks)) ∧ Below w.heap.size w w' := by
 have HH := Lib.hid H
 have HC := Lib.hid hC
 have HL := Lib.hid hl
 clear H hC hl
 go_enter Try.func72, Try.ntmps72
 go_wp2
 by_cases hj : i < l.length
 ·obtain ⟨ad, hA, htc⟩ := tok_cells HH.out.toks i hj
  have hg := rd_get l i hj
  obtain ⟨t, ht⟩ : ∃ t, PSyntaxWhole.rd_T35 l i = t := ⟨_, rfl⟩
  rw [ht] at htc hg
  subst hA
  obtain ⟨g1, g2, g3, g4⟩ := idx4 hj HH.out.len
  have hof : ofL l i ks = ks.any (fun k => t.f0 == k) := by unfold ofL; rw [hg]
  have HOF := Lib.hid hof
  have HTC := Lib.hid htc
  clear ht hg htc hof
  go_loopw [9] (fun v9 wr => ∃ j : Nat, j ≤ ks.length ∧ v9 = .int .i64 j ∧ Hid (Below w.heap.size w wr ∧ (ks.take j).any (fun k => t.f0 == k) = false)) (fun v9 _ => ks.length - (intOf v9).toNat)
  case atStart => exact ⟨0, Nat.zero_le _, rfl, Lib.hid ⟨Below.refl _ _, rfl⟩⟩
  case round =>
   obtain ⟨j, hjl, rfl, H⟩ := hrel
   by_cases hlt : j < ks.length
   ·obtain ⟨k1, k2, k3, k4⟩ := wrap_one hlt HL.out
    obtain ⟨ad1, hA1, hs⟩ := Kd.at_int (Kd.C_below HC.out H.out.1) (j : Int) k2 k1
    subst hA1
    have hsj : ks[j]? = some (rd ks j) := by
     have := List.getElem?_eq_getElem hlt
     rw [this]
     simp [rd, this]
    obtain ⟨s, hse⟩ : ∃ s, rd ks (j : Int) = s := ⟨_, rfl⟩
    rw [hse] at hs hsj
    simp only [Int.toNat_natCast] at hs
    have hsp := any_split hsj H.out.2
    obtain ⟨q0, q1, q2, q3⟩ := (HH.out.moved H.out.1).cell
    obtain ⟨c0, c1', c2, c3, c4, c5⟩ := HTC.out wr (HH.out.below.trans (H.out.1.mono HH.out.below.size))
    clear c1' c2 c3 c4 c5 hse
    have HSP := Lib.hid hsp
    have HBW := Lib.hid H.out.1
    clear hsp H
    obtain ⟨m, hm⟩ : ∃ m, (t.f0 == s) = m := ⟨_, rfl⟩
    rw [hm] at HSP
    go_wp2
    obtain ⟨Wd1, hWd⟩ : ∃ V, wr.drew = V := ⟨_, rfl⟩
    have hbd : Below wr.heap.size wr Wd1 := by rw [← hWd]; exact (Below.refl _ wr).drew
    have hSall : ∀ V, Below wr.heap.size wr V → V.cell? ⟨p, 0, none⟩ = some (.slice (some ad) l.length c) ∧ V.cell? ⟨p, 1, none⟩ = some (.int .i64 i) ∧ V.cell? (ad.add (i * 6)) = some (.int .u8 t.f0) := fun V hV => ⟨pw_cell_below hV q0, pw_cell_below hV q1, pw_cell_below hV c0⟩
    have HSA := Lib.hid hSall
    have HS := Lib.hid (hSall Wd1 hbd)
    have HBD := Lib.hid hbd
    have HWd := Lib.hid hWd
    clear hSall hbd hWd
    refine wp_region_R (fun w' => w'.cell? ⟨p, 0, none⟩ = some (.slice (some ad) l.length c) ∧ w'.cell? ⟨p, 1, none⟩ = some (.int .i64 i) ∧ w'.cell? (ad.add (i * 6)) = some (.int .u8 t.f0)) (fun j => true) (by kernel_rfl) ?_
    rw [HWd.out]
    refine anyR_take (i := 0) (oi := { dst := some 13, op := .move (.tmp 0), type := 83, pos := "syntax.go:86", after := #[], guard := none }) (v := ?_) rfl (by kernel_rfl) (fun _ _ _ h => h) (Or.inl ⟨by rfl, ?_⟩) HS.out ?_
    rotate_left
    ·intro x h; (try dsimp only at h); go_simp; try (with_reducible rfl)
    try simp only [Act.put, List.setIfInBounds_toArray, List.set]
    refine anyR_take (i := 1) (oi := { dst := some 14, op := .nilCheck (.tmp 13), type := 0, pos := "syntax.go:86", after := #[{ on := 0, ground := .data }], guard := none }) (v := ?_) rfl (by kernel_rfl) (fun _ _ _ h => h) (Or.inl ⟨by rfl, ?_⟩) HS.out ?_
    rotate_left
    ·intro x h; (try dsimp only at h); go_simp; try (with_reducible rfl)
    try simp only [Act.put, List.setIfInBounds_toArray, List.set]
    refine anyR_take (i := 2) (oi := { dst := some 15, op := .fieldAddr 85 (.tmp 14) 1, type := 0, pos := "syntax.go:86", after := #[{ on := 1, ground := .data }], guard := none }) (v := ?_) rfl (by kernel_rfl) (fun _ _ _ h => h) (Or.inl ⟨by rfl, ?_⟩) HS.out ?_
    rotate_left
    ·intro x h; (try dsimp only at h); go_simp; try (with_reducible rfl)
    try simp only [Act.put, List.setIfInBounds_toArray, List.set]
    refine anyR_take (i := 3) (oi := { dst := some 16, op := .load 3 (.tmp 15), type := 3, pos := "syntax.go:86", after := #[{ on := 2, ground := .data }], guard := none }) (v := ?_) rfl (by kernel_rfl) (fun _ _ _ h => h) (Or.inl ⟨by rfl, ?_⟩) HS.out ?_
    rotate_left
    ·intro x h; (try dsimp only at h); go_simp; try (with_reducible rfl)
    try simp only [Act.put, List.setIfInBounds_toArray, List.set]
    refine anyR_take (i := 4) (oi := { dst := some 17, op := .move (.tmp 0), type := 83, pos := "syntax.go:86", after := #[], guard := none }) (v := ?_) rfl (by kernel_rfl) (fun _ _ _ h => h) (Or.inl ⟨by rfl, ?_⟩) HS.out ?_
    rotate_left
    ·intro x h; (try dsimp only at h); go_simp; try (with_reducible rfl)
    try simp only [Act.put, List.setIfInBounds_toArray, List.set]
    refine anyR_take (i := 5) (oi := { dst := some 18, op := .nilCheck (.tmp 17), type := 0, pos := "syntax.go:86", after := #[{ on := 4, ground := .data }], guard := none }) (v := ?_) rfl (by kernel_rfl) (fun _ _ _ h => h) (Or.inl ⟨by rfl, ?_⟩) HS.out ?_
    rotate_left
    ·intro x h; (try dsimp only at h); go_simp; try (with_reducible rfl)
    try simp only [Act.put, List.setIfInBounds_toArray, List.set]
    refine anyR_take (i := 6) (oi := { dst := some 19, op := .fieldAddr 85 (.tmp 18) 0, type := 0, pos := "syntax.go:86", after := #[{ on := 5, ground := .data }], guard := none }) (v := ?_) rfl (by kernel_rfl) (fun _ _ _ h => h) (Or.inl ⟨by rfl, ?_⟩) HS.out ?_
    rotate_left
    ·intro x h; (try dsimp only at h); go_simp; try (with_reducible rfl)
    try simp only [Act.put, List.setIfInBounds_toArray, List.set]
    refine anyR_take (i := 7) (oi := { dst := some 20, op := .load 22 (.tmp 19), type := 22, pos := "syntax.go:86", after := #[{ on := 6, ground := .data }], guard := none }) (v := ?_) rfl (by kernel_rfl) (fun _ _ _ h => h) (Or.inl ⟨by rfl, ?_⟩) HS.out ?_
    rotate_left
    ·intro x h; (try dsimp only at h); go_simp; try (with_reducible rfl)
    try simp only [Act.put, List.setIfInBounds_toArray, List.set]
    refine anyR_take (i := 8) (oi := { dst := some 21, op := .call { callee := .builtin .len, args := #[.tmp 20], argTypes := #[22] }, type := 3, pos := "syntax.go:86", after := #[{ on := 7, ground := .data }], guard := none }) (v := ?_) rfl (by kernel_rfl) (fun _ _ _ h => h) (Or.inl ⟨by rfl, ?_⟩) HS.out ?_
    rotate_left
    ·intro x h; (try dsimp only at h); go_simp; try (with_reducible rfl)
    try simp only [Act.put, List.setIfInBounds_toArray, List.set]
    refine anyR_take (i := 9) (oi := { dst := some 22, op := .binOp .lss 3 (.tmp 16) (.tmp 21) 3, type := 4, pos := "syntax.go:86", after := #[{ on := 3, ground := .data }, { on := 8, ground := .data }], guard := none }) (v := ?_) rfl (by kernel_rfl) (fun _ _ _ h => h) (Or.inl ⟨by rfl, ?_⟩) HS.out ?_
    rotate_left
    ·intro x h; (try dsimp only at h); go_simp; try (with_reducible rfl)
    try simp only [Act.put, List.setIfInBounds_toArray, List.set]
    refine anyR_take (i := 10) (oi := { dst := some 23, op := .move (.tmp 22), type := 4, pos := "syntax.go:86", after := #[{ on := 9, ground := .data }], guard := none }) (v := ?_) rfl (by kernel_rfl) (fun _ _ _ h => h) (Or.inl ⟨by rfl, ?_⟩) HS.out ?_
    rotate_left
    ·intro x h; (try dsimp only at h); go_simp; try (with_reducible rfl)
    try simp only [Act.put, List.setIfInBounds_toArray, List.set]
    refine anyR_take (i := 11) (oi := { dst := some 24, op := .move (.tmp 0), type := 83, pos := "syntax.go:86", after := #[{ on := 10, ground := .guard }], guard := some (10, true) }) (v := ?_) rfl (by kernel_rfl) (fun _ _ _ h => h) (Or.inl ⟨by rfl, ?_⟩) HS.out ?_
    rotate_left
    ·intro x h; (try dsimp only at h); go_simp; try (with_reducible rfl)
    try simp only [Act.put, List.setIfInBounds_toArray, List.set]
    refine anyR_take (i := 12) (oi := { dst := some 25, op := .nilCheck (.tmp 24), type := 0, pos := "syntax.go:86", after := #[{ on := 11, ground := .data }, { on := 10, ground := .guard }], guard := some (10, true) }) (v := ?_) rfl (by kernel_rfl) (fun _ _ _ h => h) (Or.inl ⟨by rfl, ?_⟩) HS.out ?_
    rotate_left
    ·intro x h; (try dsimp only at h); go_simp; try (with_reducible rfl)
    try simp only [Act.put, List.setIfInBounds_toArray, List.set]
    refine anyR_take (i := 13) (oi := { dst := some 26, op := .fieldAddr 85 (.tmp 25) 0, type := 0, pos := "syntax.go:86", after := #[{ on := 12, ground := .data }, { on := 10, ground := .guard }], guard := some (10, true) }) (v := ?_) rfl (by kernel_rfl) (fun _ _ _ h => h) (Or.inl ⟨by rfl, ?_⟩) HS.out ?_
    rotate_left
    ·intro x h; (try dsimp only at h); go_simp; try (with_reducible rfl)
    try simp only [Act.put, List.setIfInBounds_toArray, List.set]
    refine anyR_take (i := 14) (oi := { dst := some 27, op := .load 22 (.tmp 26), type := 22, pos := "syntax.go:86", after := #[{ on := 13, ground := .data }, { on := 10, ground := .guard }], guard := some (10, true) }) (v := ?_) rfl (by kernel_rfl) (fun _ _ _ h => h) (Or.inl ⟨by rfl, ?_⟩) HS.out ?_
    rotate_left
    ·intro x h; (try dsimp only at h); go_simp; try (with_reducible rfl)
    try simp only [Act.put, List.setIfInBounds_toArray, List.set]
    refine anyR_take (i := 15) (oi := { dst := some 28, op := .move (.tmp 0), type := 83, pos := "syntax.go:86", after := #[{ on := 10, ground := .guard }], guard := some (10, true) }) (v := ?_) rfl (by kernel_rfl) (fun _ _ _ h => h) (Or.inl ⟨by rfl, ?_⟩) HS.out ?_
    rotate_left
    ·intro x h; (try dsimp only at h); go_simp; try (with_reducible rfl)
    try simp only [Act.put, List.setIfInBounds_toArray, List.set]
    refine anyR_take (i := 16) (oi := { dst := some 29, op := .nilCheck (.tmp 28), type := 0, pos := "syntax.go:86", after := #[{ on := 15, ground := .data }, { on := 10, ground := .guard }], guard := some (10, true) }) (v := ?_) rfl (by kernel_rfl) (fun _ _ _ h => h) (Or.inl ⟨by rfl, ?_⟩) HS.out ?_
    rotate_left
    ·intro x h; (try dsimp only at h); go_simp; try (with_reducible rfl)
    try simp only [Act.put, List.setIfInBounds_toArray, List.set]
    refine anyR_take (i := 17) (oi := { dst := some 30, op := .fieldAddr 85 (.tmp 29) 1, type := 0, pos := "syntax.go:86", after := #[{ on := 16, ground := .data }, { on := 10, ground := .guard }], guard := some (10, true) }) (v := ?_) rfl (by kernel_rfl) (fun _ _ _ h => h) (Or.inl ⟨by rfl, ?_⟩) HS.out ?_
    rotate_left
    ·intro x h; (try dsimp only at h); go_simp; try (with_reducible rfl)
    try simp only [Act.put, List.setIfInBounds_toArray, List.set]
    refine anyR_take (i := 18) (oi := { dst := some 31, op := .load 3 (.tmp 30), type := 3, pos := "syntax.go:86", after := #[{ on := 17, ground := .data }, { on := 10, ground := .guard }], guard := some (10, true) }) (v := ?_) rfl (by kernel_rfl) (fun _ _ _ h => h) (Or.inl ⟨by rfl, ?_⟩) HS.out ?_
    rotate_left
    ·intro x h; (try dsimp only at h); go_simp; try (with_reducible rfl)
    try simp only [Act.put, List.setIfInBounds_toArray, List.set]
    refine anyR_take (i := 19) (oi := { dst := some 32, op := .indexAddr 22 (.tmp 27) (.tmp 31), type := 0, pos := "syntax.go:86", after := #[{ on := 14, ground := .data }, { on := 18, ground := .data }, { on := 10, ground := .guard }], guard := some (10, true) }) (v := ?_) rfl (by kernel_rfl) (fun _ _ _ h => h) (Or.inl ⟨by rfl, ?_⟩) HS.out ?_
    rotate_left
    ·intro x h; (try dsimp only at h); go_simp; try (with_reducible rfl)
    try simp only [Act.put, List.setIfInBounds_toArray, List.set]
    refine anyR_take (i := 20) (oi := { dst := some 33, op := .fieldAddr 35 (.tmp 32) 0, type := 0, pos := "syntax.go:86", after := #[{ on := 19, ground := .data }, { on := 10, ground := .guard }], guard := some (10, true) }) (v := ?_) rfl (by kernel_rfl) (fun _ _ _ h => h) (Or.inl ⟨by rfl, ?_⟩) HS.out ?_
    rotate_left
    ·intro x h; (try dsimp only at h); go_simp; try (with_reducible rfl)
    try simp only [Act.put, List.setIfInBounds_toArray, List.set]
    refine anyR_take (i := 21) (oi := { dst := some 34, op := .load 31 (.tmp 33), type := 31, pos := "syntax.go:86", after := #[{ on := 20, ground := .data }, { on := 10, ground := .guard }], guard := some (10, true) }) (v := ?_) rfl (by kernel_rfl) (fun _ _ _ h => h) (Or.inl ⟨by rfl, ?_⟩) HS.out ?_
    rotate_left
    ·intro x h; (try dsimp only at h); go_simp; try (with_reducible rfl)
    try simp only [Act.put, List.setIfInBounds_toArray, List.set]
    refine anyR_take (i := 22) (oi := { dst := some 35, op := .move (.tmp 6), type := 31, pos := "syntax.go:86", after := #[{ on := 10, ground := .guard }], guard := some (10, true) }) (v := ?_) rfl (by kernel_rfl) (fun _ _ _ h => h) (Or.inl ⟨by rfl, ?_⟩) HS.out ?_
    rotate_left
    ·intro x h; (try dsimp only at h); go_simp; try (with_reducible rfl)
    try simp only [Act.put, List.setIfInBounds_toArray, List.set]
    refine anyR_take (i := 23) (oi := { dst := some 36, op := .binOp .eql 31 (.tmp 34) (.tmp 35) 31, type := 4, pos := "syntax.go:86", after := #[{ on := 21, ground := .data }, { on := 22, ground := .data }, { on := 10, ground := .guard }], guard := some (10, true) }) (v := ?_) rfl (by kernel_rfl) (fun _ _ _ h => h) (Or.inl ⟨by rfl, ?_⟩) HS.out ?_
    rotate_left
    ·intro x h; (try dsimp only at h); go_simp; try (with_reducible rfl)
    try simp only [Act.put, List.setIfInBounds_toArray, List.set]
    refine anyR_take (i := 24) (oi := { dst := some 37, op := .pick (.tmp 23) (.tmp 36) (.const (.bool false)), type := 4, pos := "syntax.go:86", after := #[{ on := 10, ground := .data }, { on := 23, ground := .data }], guard := none }) (v := ?_) rfl (by kernel_rfl) (fun _ _ _ h => h) (Or.inl ⟨by rfl, ?_⟩) HS.out ?_
    rotate_left
    ·intro x h; (try dsimp only at h); go_simp; try (with_reducible rfl)
    try simp only [Act.put, List.setIfInBounds_toArray, List.set]
    refine anyR_done (by kernel_rfl) ?_ _
    cases m with
    | true =>
     have HIN : Hid (ks.any (fun k => t.f0 == k) = true) := Lib.hid (any_pre (j := j + 1) HSP.out)
     go_wp2
     go_ret
     exact ⟨by rw [HOF.out, HIN.out]; rfl, HBW.out.trans (HBD.out.mono HBW.out.size)⟩
    | false =>
     go_wp2
     go_roundw
     case rel => exact ⟨j + 1, by omega, by go_num, Lib.hid ⟨HBW.out.trans (HBD.out.mono HBW.out.size), HSP.out⟩⟩
     case measure => simp [intOf] <;> omega
   ·obtain rfl : j = ks.length := by omega
    have hfin := H.out.2
    rw [List.take_length] at hfin
    have g9 : ¬ ((ks.length : Int) < (ks.length : Int)) := by omega
    have HBB := Lib.hid H.out.1
    have HFI := Lib.hid hfin
    clear H hfin
    go_wp2
    go_ret
    exact ⟨by rw [HOF.out, HFI.out]; rfl, HBB.out⟩
 ·obtain rfl : i = l.length := by have := HH.out.ile; omega
  have hof : ofL l l.length ks = false := by unfold ofL; rw [List.getElem?_eq_none (Nat.le_refl _)]
  have HOF := Lib.hid hof
  have g9 : ¬ ((l.length : Int) < (l.length : Int)) := by omega
  clear hof
  go_loopw [9] (fun v9 wr => ∃ j : Nat, j ≤ ks.length ∧ v9 = .int .i64 j ∧ Hid (Below w.heap.size w wr)) (fun v9 _ => ks.length - (intOf v9).toNat)
  case atStart => exact ⟨0, Nat.zero_le _, rfl, Lib.hid (Below.refl _ _)⟩
  case round =>
   obtain ⟨j, hjl, rfl, H⟩ := hrel
   by_cases hlt : j < ks.length
   ·obtain ⟨k1, k2, k3, k4⟩ := wrap_one hlt HL.out
    obtain ⟨ad1, hA1, hs⟩ := Kd.at_int (Kd.C_below HC.out H.out) (j : Int) k2 k1
    subst hA1
    obtain ⟨s, hse⟩ : ∃ s, rd ks (j : Int) = s := ⟨_, rfl⟩
    rw [hse] at hs
    simp only [Int.toNat_natCast] at hs
    obtain ⟨q0, q1, q2, q3⟩ := (HH.out.moved H.out).cell
    have HBW := H
    clear H hse
    go_wp2
    obtain ⟨Wd1, hWd⟩ : ∃ V, wr.drew = V := ⟨_, rfl⟩
    have hbd : Below wr.heap.size wr Wd1 := by rw [← hWd]; exact (Below.refl _ wr).drew
    have hSall : ∀ V, Below wr.heap.size wr V → V.cell? ⟨p, 0, none⟩ = some (.slice (A) l.length c) ∧ V.cell? ⟨p, 1, none⟩ = some (.int .i64 l.length) := fun V hV => ⟨pw_cell_below hV q0, pw_cell_below hV q1⟩
    have HSA := Lib.hid hSall
    have HS := Lib.hid (hSall Wd1 hbd)
    have HBD := Lib.hid hbd
    have HWd := Lib.hid hWd
    clear hSall hbd hWd
    refine wp_region_R (fun w' => w'.cell? ⟨p, 0, none⟩ = some (.slice (A) l.length c) ∧ w'.cell? ⟨p, 1, none⟩ = some (.int .i64 l.length)) (fun j => true) (by kernel_rfl) ?_
    rw [HWd.out]
    refine anyR_take (i := 0) (oi := { dst := some 13, op := .move (.tmp 0), type := 83, pos := "syntax.go:86", after := #[], guard := none }) (v := ?_) rfl (by kernel_rfl) (fun _ _ _ h => h) (Or.inl ⟨by rfl, ?_⟩) HS.out ?_
    rotate_left
    ·intro x h; (try dsimp only at h); go_simp; try (with_reducible rfl)
    try simp only [Act.put, List.setIfInBounds_toArray, List.set]
    refine anyR_take (i := 1) (oi := { dst := some 14, op := .nilCheck (.tmp 13), type := 0, pos := "syntax.go:86", after := #[{ on := 0, ground := .data }], guard := none }) (v := ?_) rfl (by kernel_rfl) (fun _ _ _ h => h) (Or.inl ⟨by rfl, ?_⟩) HS.out ?_
    rotate_left
    ·intro x h; (try dsimp only at h); go_simp; try (with_reducible rfl)
    try simp only [Act.put, List.setIfInBounds_toArray, List.set]
    refine anyR_take (i := 2) (oi := { dst := some 15, op := .fieldAddr 85 (.tmp 14) 1, type := 0, pos := "syntax.go:86", after := #[{ on := 1, ground := .data }], guard := none }) (v := ?_) rfl (by kernel_rfl) (fun _ _ _ h => h) (Or.inl ⟨by rfl, ?_⟩) HS.out ?_
    rotate_left
    ·intro x h; (try dsimp only at h); go_simp; try (with_reducible rfl)
    try simp only [Act.put, List.setIfInBounds_toArray, List.set]
    refine anyR_take (i := 3) (oi := { dst := some 16, op := .load 3 (.tmp 15), type := 3, pos := "syntax.go:86", after := #[{ on := 2, ground := .data }], guard := none }) (v := ?_) rfl (by kernel_rfl) (fun _ _ _ h => h) (Or.inl ⟨by rfl, ?_⟩) HS.out ?_
    rotate_left
    ·intro x h; (try dsimp only at h); go_simp; try (with_reducible rfl)
    try simp only [Act.put, List.setIfInBounds_toArray, List.set]
    refine anyR_take (i := 4) (oi := { dst := some 17, op := .move (.tmp 0), type := 83, pos := "syntax.go:86", after := #[], guard := none }) (v := ?_) rfl (by kernel_rfl) (fun _ _ _ h => h) (Or.inl ⟨by rfl, ?_⟩) HS.out ?_
    rotate_left
    ·intro x h; (try dsimp only at h); go_simp; try (with_reducible rfl)
    try simp only [Act.put, List.setIfInBounds_toArray, List.set]
    refine anyR_take (i := 5) (oi := { dst := some 18, op := .nilCheck (.tmp 17), type := 0, pos := "syntax.go:86", after := #[{ on := 4, ground := .data }], guard := none }) (v := ?_) rfl (by kernel_rfl) (fun _ _ _ h => h) (Or.inl ⟨by rfl, ?_⟩) HS.out ?_
    rotate_left
    ·intro x h; (try dsimp only at h); go_simp; try (with_reducible rfl)
    try simp only [Act.put, List.setIfInBounds_toArray, List.set]
    refine anyR_take (i := 6) (oi := { dst := some 19, op := .fieldAddr 85 (.tmp 18) 0, type := 0, pos := "syntax.go:86", after := #[{ on := 5, ground := .data }], guard := none }) (v := ?_) rfl (by kernel_rfl) (fun _ _ _ h => h) (Or.inl ⟨by rfl, ?_⟩) HS.out ?_
    rotate_left
    ·intro x h; (try dsimp only at h); go_simp; try (with_reducible rfl)
    try simp only [Act.put, List.setIfInBounds_toArray, List.set]
    refine anyR_take (i := 7) (oi := { dst := some 20, op := .load 22 (.tmp 19), type := 22, pos := "syntax.go:86", after := #[{ on := 6, ground := .data }], guard := none }) (v := ?_) rfl (by kernel_rfl) (fun _ _ _ h => h) (Or.inl ⟨by rfl, ?_⟩) HS.out ?_
    rotate_left
    ·intro x h; (try dsimp only at h); go_simp; try (with_reducible rfl)
    try simp only [Act.put, List.setIfInBounds_toArray, List.set]
    refine anyR_take (i := 8) (oi := { dst := some 21, op := .call { callee := .builtin .len, args := #[.tmp 20], argTypes := #[22] }, type := 3, pos := "syntax.go:86", after := #[{ on := 7, ground := .data }], guard := none }) (v := ?_) rfl (by kernel_rfl) (fun _ _ _ h => h) (Or.inl ⟨by rfl, ?_⟩) HS.out ?_
    rotate_left
    ·intro x h; (try dsimp only at h); go_simp; try (with_reducible rfl)
    try simp only [Act.put, List.setIfInBounds_toArray, List.set]
    refine anyR_take (i := 9) (oi := { dst := some 22, op := .binOp .lss 3 (.tmp 16) (.tmp 21) 3, type := 4, pos := "syntax.go:86", after := #[{ on := 3, ground := .data }, { on := 8, ground := .data }], guard := none }) (v := ?_) rfl (by kernel_rfl) (fun _ _ _ h => h) (Or.inl ⟨by rfl, ?_⟩) HS.out ?_
    rotate_left
    ·intro x h; (try dsimp only at h); go_simp; try (with_reducible rfl)
    try simp only [Act.put, List.setIfInBounds_toArray, List.set]
    refine anyR_take (i := 10) (oi := { dst := some 23, op := .move (.tmp 22), type := 4, pos := "syntax.go:86", after := #[{ on := 9, ground := .data }], guard := none }) (v := ?_) rfl (by kernel_rfl) (fun _ _ _ h => h) (Or.inl ⟨by rfl, ?_⟩) HS.out ?_
    rotate_left
    ·intro x h; (try dsimp only at h); go_simp; try (with_reducible rfl)
    try simp only [Act.put, List.setIfInBounds_toArray, List.set]
    refine anyR_take (i := 11) (oi := { dst := some 24, op := .move (.tmp 0), type := 83, pos := "syntax.go:86", after := #[{ on := 10, ground := .guard }], guard := some (10, true) }) (v := _) rfl (by kernel_rfl) (fun _ _ _ h => h) (Or.inr ⟨by rfl, rfl⟩) HS.out ?_
    try simp only [Act.put, List.setIfInBounds_toArray, List.set]
    refine anyR_take (i := 12) (oi := { dst := some 25, op := .nilCheck (.tmp 24), type := 0, pos := "syntax.go:86", after := #[{ on := 11, ground := .data }, { on := 10, ground := .guard }], guard := some (10, true) }) (v := _) rfl (by kernel_rfl) (fun _ _ _ h => h) (Or.inr ⟨by rfl, rfl⟩) HS.out ?_
    try simp only [Act.put, List.setIfInBounds_toArray, List.set]
    refine anyR_take (i := 13) (oi := { dst := some 26, op := .fieldAddr 85 (.tmp 25) 0, type := 0, pos := "syntax.go:86", after := #[{ on := 12, ground := .data }, { on := 10, ground := .guard }], guard := some (10, true) }) (v := _) rfl (by kernel_rfl) (fun _ _ _ h => h) (Or.inr ⟨by rfl, rfl⟩) HS.out ?_
    try simp only [Act.put, List.setIfInBounds_toArray, List.set]
    refine anyR_take (i := 14) (oi := { dst := some 27, op := .load 22 (.tmp 26), type := 22, pos := "syntax.go:86", after := #[{ on := 13, ground := .data }, { on := 10, ground := .guard }], guard := some (10, true) }) (v := _) rfl (by kernel_rfl) (fun _ _ _ h => h) (Or.inr ⟨by rfl, rfl⟩) HS.out ?_
    try simp only [Act.put, List.setIfInBounds_toArray, List.set]
    refine anyR_take (i := 15) (oi := { dst := some 28, op := .move (.tmp 0), type := 83, pos := "syntax.go:86", after := #[{ on := 10, ground := .guard }], guard := some (10, true) }) (v := _) rfl (by kernel_rfl) (fun _ _ _ h => h) (Or.inr ⟨by rfl, rfl⟩) HS.out ?_
    try simp only [Act.put, List.setIfInBounds_toArray, List.set]
    refine anyR_take (i := 16) (oi := { dst := some 29, op := .nilCheck (.tmp 28), type := 0, pos := "syntax.go:86", after := #[{ on := 15, ground := .data }, { on := 10, ground := .guard }], guard := some (10, true) }) (v := _) rfl (by kernel_rfl) (fun _ _ _ h => h) (Or.inr ⟨by rfl, rfl⟩) HS.out ?_
    try simp only [Act.put, List.setIfInBounds_toArray, List.set]
    refine anyR_take (i := 17) (oi := { dst := some 30, op := .fieldAddr 85 (.tmp 29) 1, type := 0, pos := "syntax.go:86", after := #[{ on := 16, ground := .data }, { on := 10, ground := .guard }], guard := some (10, true) }) (v := _) rfl (by kernel_rfl) (fun _ _ _ h => h) (Or.inr ⟨by rfl, rfl⟩) HS.out ?_
    try simp only [Act.put, List.setIfInBounds_toArray, List.set]
    refine anyR_take (i := 18) (oi := { dst := some 31, op := .load 3 (.tmp 30), type := 3, pos := "syntax.go:86", after := #[{ on := 17, ground := .data }, { on := 10, ground := .guard }], guard := some (10, true) }) (v := _) rfl (by kernel_rfl) (fun _ _ _ h => h) (Or.inr ⟨by rfl, rfl⟩) HS.out ?_
    try simp only [Act.put, List.setIfInBounds_toArray, List.set]
    refine anyR_take (i := 19) (oi := { dst := some 32, op := .indexAddr 22 (.tmp 27) (.tmp 31), type := 0, pos := "syntax.go:86", after := #[{ on := 14, ground := .data }, { on := 18, ground := .data }, { on := 10, ground := .guard }], guard := some (10, true) }) (v := _) rfl (by kernel_rfl) (fun _ _ _ h => h) (Or.inr ⟨by rfl, rfl⟩) HS.out ?_
    try simp only [Act.put, List.setIfInBounds_toArray, List.set]
    refine anyR_take (i := 20) (oi := { dst := some 33, op := .fieldAddr 35 (.tmp 32) 0, type := 0, pos := "syntax.go:86", after := #[{ on := 19, ground := .data }, { on := 10, ground := .guard }], guard := some (10, true) }) (v := _) rfl (by kernel_rfl) (fun _ _ _ h => h) (Or.inr ⟨by rfl, rfl⟩) HS.out ?_
    try simp only [Act.put, List.setIfInBounds_toArray, List.set]
    refine anyR_take (i := 21) (oi := { dst := some 34, op := .load 31 (.tmp 33), type := 31, pos := "syntax.go:86", after := #[{ on := 20, ground := .data }, { on := 10, ground := .guard }], guard := some (10, true) }) (v := _) rfl (by kernel_rfl) (fun _ _ _ h => h) (Or.inr ⟨by rfl, rfl⟩) HS.out ?_
    try simp only [Act.put, List.setIfInBounds_toArray, List.set]
    refine anyR_take (i := 22) (oi := { dst := some 35, op := .move (.tmp 6), type := 31, pos := "syntax.go:86", after := #[{ on := 10, ground := .guard }], guard := some (10, true) }) (v := _) rfl (by kernel_rfl) (fun _ _ _ h => h) (Or.inr ⟨by rfl, rfl⟩) HS.out ?_
    try simp only [Act.put, List.setIfInBounds_toArray, List.set]
    refine anyR_take (i := 23) (oi := { dst := some 36, op := .binOp .eql 31 (.tmp 34) (.tmp 35) 31, type := 4, pos := "syntax.go:86", after := #[{ on := 21, ground := .data }, { on := 22, ground := .data }, { on := 10, ground := .guard }], guard := some (10, true) }) (v := _) rfl (by kernel_rfl) (fun _ _ _ h => h) (Or.inr ⟨by rfl, rfl⟩) HS.out ?_
    try simp only [Act.put, List.setIfInBounds_toArray, List.set]
    refine anyR_take (i := 24) (oi := { dst := some 37, op := .pick (.tmp 23) (.tmp 36) (.const (.bool false)), type := 4, pos := "syntax.go:86", after := #[{ on := 10, ground := .data }, { on := 23, ground := .data }], guard := none }) (v := ?_) rfl (by kernel_rfl) (fun _ _ _ h => h) (Or.inl ⟨by rfl, ?_⟩) HS.out ?_
    rotate_left
    ·intro x h; (try dsimp only at h); go_simp; try (with_reducible rfl)
    try simp only [Act.put, List.setIfInBounds_toArray, List.set]
    refine anyR_done (by kernel_rfl) ?_ _
    go_wp2
    go_roundw
    case rel => exact ⟨j + 1, by omega, by go_num, Lib.hid (HBW.out.trans (HBD.out.mono HBW.out.size))⟩
    case measure => simp [intOf] <;> omega
   ·obtain rfl : j = ks.length := by omega
    have g8 : ¬ ((ks.length : Int) < (ks.length : Int)) := by omega
    have HBB := H
    clear H
    go_wp2
    go_ret
    exact ⟨by rw [HOF.out]; rfl, HBB.out⟩
end Go.Proofs.Ytmjbpgnjgblnmaa
namespace Go.Proofs.Ytmjbpgnjgblnmaa
open Go.RowKit Go.Proofs.YtmjbpgnjgblnmaaW.PrintWords Go.Proofs.YtmjbpgnjgblnmaaW.PrintLast Go.Proofs.YtmjbpgnjgblnmaaW.PrintMore
def SPost (W0 : World) (A : Option Addr) (c : Nat) (l : List Tk) (p : Nat) (ve : Value) (w : World) (r : SRes) (e : Ending) (w' : World) : Prop :=
 match r with
 | .ok i' d' out' => e = .returned (.tuple #[]) ∧ ∃ ve', SAt W0 A c l w' p i' d' out' ve' ∧ MStep p ve w ve' w'
 | .err er i' => e = giveUp er i' ∧ ∃ ve', MStep p ve w ve' w'
theorem SPost.pre {W0 : World} {A : Option Addr} {c : Nat} {l : List Tk} {p : Nat} {ve ve1 : Value} {w w1 w' : World} {r : SRes} {e : Ending} (h : SPost W0 A c l p ve1 w1 r e w') (hs : MStep p ve w ve1 w1) : SPost W0 A c l p ve w r e w' := by
 cases r with
 | ok i' d' out' =>
  obtain ⟨h1, ve', h2, h3⟩ := h
  exact ⟨h1, ve', h2, hs.trans h3⟩
 | err er i' =>
  obtain ⟨h1, ve', h3⟩ := h
  exact ⟨h1, ve', hs.trans h3⟩
def BodyOK (W0 : World) (A : Option Addr) (c : Nat) (l : List Tk) (p : Nat) (ve : Value) (w : World) (N : Nat) (F : FuncId) (av : Array Value) (T : List WT) : Prop :=
 ∀ n, n ≤ N → ∀ (w1 : World) (i1 : Nat) (d1 : Int) (out1 : List Ev) (ve1 : Value) (r : SRes), MStep p ve w ve1 w1 → SAt W0 A c l w1 p i1 d1 out1 ve1 → srun l n ⟨T, i1, d1, out1⟩ = some r → Calls Try.prog F av w1 (SPost W0 A c l p ve1 w1 r)
theorem BodyOK.later {W0 : World} {A : Option Addr} {c : Nat} {l : List Tk} {p : Nat} {ve ve1 : Value} {w w1 : World} {N : Nat} {F : FuncId} {av : Array Value} {T : List WT} (h : BodyOK W0 A c l p ve w N F av T) (hs : MStep p ve w ve1 w1) : BodyOK W0 A c l p ve1 w1 N F av T :=
 fun n hn w2 i2 d2 out2 ve2 r h2 => h n hn w2 i2 d2 out2 ve2 r (hs.trans h2)
def Good (l : List Tk) (N : Nat) (F : FuncId) (T : List WT) : Prop :=
 ∀ n, n ≤ N → ∀ (W0 : World) (A : Option Addr) (c : Nat) (w : World) (p i : Nat) (d : Int) (out : List Ev) (ve : Value) (r : SRes), SAt W0 A c l w p i d out ve → srun l n ⟨T, i, d, out⟩ = some r → Calls Try.prog F #[.pointer (some ⟨p, 0, none⟩)] w (SPost W0 A c l p ve w r)
def GoodC (l : List Tk) (N : Nat) (F : FuncId) (T : List WT) : Prop :=
 ∀ n, n ≤ N → ∀ (W0 : World) (A : Option Addr) (c : Nat) (w : World) (p g i : Nat) (d : Int) (out : List Ev) (ve : Value) (r : SRes), SAt W0 A c l w p i d out ve → w.heap[g]? = some (.cells #[.pointer (some ⟨p, 0, none⟩)] 83 (0, 0)) → srun l n ⟨T, i, d, out⟩ = some r → Calls Try.prog F #[.pointer (some ⟨g, 0, none⟩)] w (SPost W0 A c l p ve w r)
theorem Good.body {W0 : World} {A : Option Addr} {c : Nat} {l : List Tk} {p : Nat} {ve : Value} {w : World} {N : Nat} {F : FuncId} {T : List WT} (h : Good l N F T) : BodyOK W0 A c l p ve w N F #[.pointer (some ⟨p, 0, none⟩)] T :=
 fun n hn w1 i1 d1 out1 ve1 r _ h2 h3 => h n hn W0 A c w1 p i1 d1 out1 ve1 r h2 h3
theorem GoodC.body {W0 : World} {A : Option Addr} {c : Nat} {l : List Tk} {p g i : Nat} {d : Int} {out : List Ev} {ve : Value} {w : World} {N : Nat} {F : FuncId} {T : List WT} (h : GoodC l N F T) (H : SAt W0 A c l w p i d out ve) (hg : w.heap[g]? = some (.cells #[.pointer (some ⟨p, 0, none⟩)] 83 (0, 0))) : BodyOK W0 A c l p ve w N F #[.pointer (some ⟨g, 0, none⟩)] T :=
 fun n hn w1 i1 d1 out1 ve1 r hs h2 h3 => h n hn W0 A c w1 p g i1 d1 out1 ve1 r h2 (mkeep hs H hg (by decide) (by decide)) h3
theorem strs_C (W : World) (l : List ByteArray) (n : Nat) (cs : List Value) (hn : l.length = n) (hcs : l.map Value.string = cs) (hl : n ≤ 16) : Kd.C Kd.string (W.alloc (.cells cs.toArray 9)) (some ⟨W.heap.size, 0, none⟩) l.length l := by
 subst hn; subst hcs
 have hrow : (W.alloc (.cells (l.map Value.string).toArray 9)).ownsRow 0 9 1 (.slice (some ⟨W.heap.size, 0, none⟩) l.length l.length) l.length (l.map Value.string) :=
  ⟨by simp, .inr ⟨W.heap.size, l.length, (l.map Value.string).toArray, rfl, Nat.zero_le _, World.alloc_heap_new _ _, Nat.le_refl _, by simp only [maxLen]; omega, by simp, by simp [List.take_of_length_le]⟩⟩
 obtain ⟨A, c1, hv, hr⟩ := own_reads_row (size := 1) hrow (reps_str _ l) rfl
 injection hv with h1 h2 h3
 subst h1
 exact hr
theorem reps_u8 (w : World) : ∀ l : List Int, Reps ((Kd.int .u8).K w) 1 l (l.map (Value.int .u8))
 | [] => Reps.none _ _
 | x :: l => by
  have := Reps.one (show (Kd.int .u8).K w x [.int .u8 x] from rfl) (reps_u8 w l)
  simpa using this
theorem kinds_C (W : World) (l : List Int) (n : Nat) (cs : List Value) (hn : l.length = n) (hcs : l.map (Value.int .u8) = cs) (hl : n ≤ 16) : Kd.C (Kd.int .u8) (W.alloc (.cells cs.toArray 31)) (some ⟨W.heap.size, 0, none⟩) l.length l := by
 subst hn; subst hcs
 have hrow : (W.alloc (.cells (l.map (Value.int .u8)).toArray 31)).ownsRow 0 31 1 (.slice (some ⟨W.heap.size, 0, none⟩) l.length l.length) l.length (l.map (Value.int .u8)) :=
  ⟨by simp, .inr ⟨W.heap.size, l.length, (l.map (Value.int .u8)).toArray, rfl, Nat.zero_le _, World.alloc_heap_new _ _, Nat.le_refl _, by simp only [maxLen]; omega, by simp, by simp [List.take_of_length_le]⟩⟩
 obtain ⟨A, c1, hv, hr⟩ := own_reads_row (size := 1) hrow (reps_u8 _ l) rfl
 injection hv with h1 h2 h3
 subst h1
 exact hr
section
variable {W0 : World} {A : Option Addr} {c : Nat} {l : List Tk} {w W : World} {p : Nat} {i : Nat} {d : Int} {out : List Ev} {ve : Value}
theorem is_new (H : SAt W0 A c l W p i d out ve) (ws : List ByteArray) (n : Nat) (cs : List Value) (hn : ws.length = n) (hcs : ws.map Value.string = cs) (hl : n ≤ 16) (hws : ws.all goodW = true) :
  Calls Try.prog 71 #[.pointer (some ⟨p, 0, none⟩), .slice (some ⟨W.heap.size, 0, none⟩) n n] (W.alloc (.cells cs.toArray 9)) fun e w' => e = .returned (.bool (inL (cAt l i) ws)) ∧ Below W.heap.size W w' := by
 have hb : Below W.heap.size W (W.alloc (.cells cs.toArray 9)) := (Below.refl _ W).alloc (Nat.le_refl _) _
 have hC := strs_C W ws n cs hn hcs hl
 subst hn
 refine (is_any (H.moved hb) _ _ ws hC (List.all_eq_true.1 hws) hl).mono ?_
 rintro e w' ⟨he, h2⟩
 exact ⟨he, hb.trans (h2.mono hb.size)⟩
theorem of_new (H : SAt W0 A c l W p i d out ve) (ks : List Int) (n : Nat) (cs : List Value) (hn : ks.length = n) (hcs : ks.map (Value.int .u8) = cs) (hl : n ≤ 16) :
  Calls Try.prog 72 #[.pointer (some ⟨p, 0, none⟩), .slice (some ⟨W.heap.size, 0, none⟩) n n] (W.alloc (.cells cs.toArray 31)) fun e w' => e = .returned (.bool (ofL l i ks)) ∧ Below W.heap.size W w' := by
 have hb : Below W.heap.size W (W.alloc (.cells cs.toArray 31)) := (Below.refl _ W).alloc (Nat.le_refl _) _
 have hC := kinds_C W ks n cs hn hcs hl
 subst hn
 refine (of_any (H.moved hb) _ _ ks hC hl).mono ?_
 rintro e w' ⟨he, h2⟩
 exact ⟨he, hb.trans (h2.mono hb.size)⟩
theorem take_word (H : SAt W0 A c l w p i d out ve) (x : ByteArray) (S : List WT) {m : Bool} (hm : (∃ t, l[i]? = some t ∧ codeOf t = x) ↔ m = true) {n : Nat} {r : SRes} (hr : srun l n ⟨[.word x], i, d, out⟩ = some r) :
  Calls Try.prog 70 #[.pointer (some ⟨p, 0, none⟩), .bool m] w (SPost W0 A c l p ve w r) := by
 have hlen := (srun_len hr).1
 cases hg : l[i]? with
 | none =>
  obtain ⟨_, rfl⟩ := srun_fin hr (q := .err 121 i) (by simp [sstep, hg])
  have hm0 : m = false := by
   cases m
   ·rfl
   ·obtain ⟨t, h1, _⟩ := hm.2 rfl
    rw [hg] at h1; cases h1
  subst hm0
  have hi : i = l.length := by
   have h1 := H.ile
   have h2 := List.getElem?_eq_none_iff.1 hg
   omega
  have h := take_no H
  rw [if_pos hi] at h
  refine h.mono ?_
  rintro e w' ⟨he, hb⟩
  exact ⟨he, ve, PStep.below hb⟩
 | some t =>
  have hi : i < l.length := (List.getElem?_eq_some_iff.1 hg).1
  by_cases hx : codeOf t = x
  ·have hm1 : m = true := hm.1 ⟨t, hg, hx⟩
   subst hm1
   by_cases hd : 1000 < d
   ·obtain ⟨_, rfl⟩ := srun_fin hr (q := .err 122 i) (by simp [sstep, hg, hx, hd])
    refine (take_deep H hd).mono ?_
    rintro e w' ⟨he, hb⟩
    exact ⟨he, ve, PStep.below hb⟩
   ·obtain ⟨_, n', rfl, hr2⟩ := srun_on hr (s' := ⟨[], i + 1 + (nAt l (i + 1)).length, d, out ++ [leafE t] ++ (nAt l (i + 1)).map noteE⟩) (by simp [sstep, hg, hx, hd])
    obtain ⟨_, rfl⟩ := srun_fin hr2 (q := .ok (i + 1 + (nAt l (i + 1)).length) d (out ++ [leafE t] ++ (nAt l (i + 1)).map noteE)) rfl
    exact take_yes H hg hd hlen
  ·obtain ⟨_, rfl⟩ := srun_fin hr (q := .err 120 i) (by simp [sstep, hg, hx])
   have hm0 : m = false := by
    cases m
    ·rfl
    ·obtain ⟨t2, h1, h2⟩ := hm.2 rfl
     rw [hg] at h1; cases h1
     exact absurd h2 hx
   subst hm0
   have h := take_no H
   rw [if_neg (by omega)] at h
   refine h.mono ?_
   rintro e w' ⟨he, hb⟩
   exact ⟨he, ve, PStep.below hb⟩
theorem code_name (t : Tk) : (t.f0 == 1) = true ↔ codeOf t = ⟨#[64, 110, 97, 109, 101]⟩ := by
 rw [beq_iff_eq]
 constructor
 ·intro h
  unfold codeOf codeF
  rw [if_pos h]
  rfl
 ·intro h
  have hn : ∀ x : ByteArray, ¬ bt x 0 = 64 → ¬ x = ⟨#[64, 110, 97, 109, 101]⟩ := fun x hx e => hx (by rw [e]; decide)
  rcases Decidable.em (t.f0 = 1) with h1 | h1
  ·exact h1
  ·exfalso
   unfold codeOf codeF at h
   rw [if_neg h1] at h
   repeat' split at h
   all_goals first
    | (simp only [Option.getD_some] at h; exact absurd h (by decide))
    | (simp only [Option.getD_some] at h; exact hn _ (by omega) h)
    | (simp only [Option.getD_none] at h; exact absurd h (by decide))
end
end Go.Proofs.Ytmjbpgnjgblnmaa
