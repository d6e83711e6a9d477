/- What the claim stands on: part Ug. -/
import Derived.Test.YtmjbpgnjgblnmaaGreatUf
set_option maxRecDepth 100000
set_option maxHeartbeats 8000000
set_option linter.unusedVariables false
set_option linter.unusedSimpArgs false
namespace Go.Proofs.YtmjbpgnjgblnmaaGreat
open Go.RowKit Go.Proofs.YtmjbpgnjgblnmaaGreatW.PrintWords Go.Proofs.YtmjbpgnjgblnmaaGreatW.PrintLast Go.Proofs.YtmjbpgnjgblnmaaGreatW.PrintMore
def ofL (l : List Tk) (i : Nat) (ks : List Int) : Bool := match l[i]? with
 | some t => ks.any (fun k => t.f0 == k)
 | none => false
theorem any_split {ks : List Int} {f : Int → Bool} {j : Nat} {k : Int} (hj : ks[j]? = some k) (h : (ks.take j).any f = false) : (ks.take (j + 1)).any f = f k := by
 rw [List.take_add_one, hj]
 simp only [Option.toList_some, List.any_append, List.any_cons, List.any_nil, Bool.or_false]
 rw [h, Bool.false_or]
theorem any_pre {ks : List Int} {f : Int → Bool} {j : Nat} (h : (ks.take j).any f = true) : ks.any f = true := by
 rw [List.any_eq_true] at h ⊢
 obtain ⟨x, h1, h2⟩ := h
 exact ⟨x, List.mem_of_mem_take h1, h2⟩
theorem of_any {W0 : World} {A : Option Addr} {c : Nat} {l : List Tk} {w : World} {p : Nat} {i : Nat} {d : Int} {out : List Ev} {ve : Value} (H : SAt W0 A c l w p i d out ve) (A1 : Option Addr) (c1 : Nat) (ks : List Int) (hC : Kd.C (Kd.int .u8) w A1 ks.length ks) (hl : ks.length ≤ 16) :
  Calls Tryz.prog 48 #[.pointer (some ⟨p, 0, none⟩), .slice A1 ks.length c1] w fun e w' => e = .returned (.bool (ofL l i ks)) ∧ Below w.heap.size w w' := by
 have HH := zh H
 have HC := zh hC
 have HL := zh hl
 clear H hC hl
 go_enter Tryz.func48, Tryz.ntmps48
 go_wp2
 by_cases hj : i < l.length
 ·obtain ⟨ad, hA, htc⟩ := tok_cells HH.out.toks i hj
  have hg := rd_get l i hj
  obtain ⟨t, ht⟩ : ∃ t, PSyntaxProgram.rd_T28 l i = t := ⟨_, rfl⟩
  rw [ht] at htc hg
  subst hA
  obtain ⟨g1, g2, g3, g4⟩ := idx4 hj HH.out.len
  have hof : ofL l i ks = ks.any (fun k => t.f0 == k) := by unfold ofL; rw [hg]
  have HOF := zh hof
  have HTC := zh htc
  clear ht hg htc hof
  go_loopw [9] (fun v9 wr => ∃ j : Nat, j ≤ ks.length ∧ v9 = .int .i64 j ∧ Hid (Below w.heap.size w wr ∧ (ks.take j).any (fun k => t.f0 == k) = false)) (fun v9 _ => ks.length - (intOf v9).toNat)
  case atStart => exact ⟨0, Nat.zero_le _, rfl, zh ⟨Below.refl _ _, rfl⟩⟩
  case round =>
   obtain ⟨j, hjl, rfl, H⟩ := hrel
   by_cases hlt : j < ks.length
   ·obtain ⟨k1, k2, k3, k4⟩ := wrap_one hlt HL.out
    obtain ⟨ad1, hA1, hs⟩ := Kd.at_int (Kd.C_below HC.out H.out.1) (j : Int) k2 k1
    subst hA1
    have hsj : ks[j]? = some (rd ks j) := by
     have := List.getElem?_eq_getElem hlt
     rw [this]
     simp [rd, this]
    obtain ⟨s, hse⟩ : ∃ s, rd ks (j : Int) = s := ⟨_, rfl⟩
    rw [hse] at hs hsj
    simp only [Int.toNat_natCast] at hs
    have hsp := any_split hsj H.out.2
    obtain ⟨q0, q1, q2, q3⟩ := (HH.out.moved H.out.1).cell
    obtain ⟨c0, c1', c2, c3, c4, c5⟩ := HTC.out wr (HH.out.below.trans (H.out.1.mono HH.out.below.size))
    clear c1' c2 c3 c4 c5 hse
    have HSP := zh hsp
    have HBW := zh H.out.1
    clear hsp H
    obtain ⟨m, hm⟩ : ∃ m, (t.f0 == s) = m := ⟨_, rfl⟩
    rw [hm] at HSP
    go_wp2
    obtain ⟨Wd1, hWd⟩ : ∃ V, wr.drew = V := ⟨_, rfl⟩
    have hbd : Below wr.heap.size wr Wd1 := by rw [← hWd]; exact (Below.refl _ wr).drew
    have hSall : ∀ V, Below wr.heap.size wr V → V.cell? ⟨p, 0, none⟩ = some (.slice (some ad) l.length c) ∧ V.cell? ⟨p, 1, none⟩ = some (.int .i64 i) ∧ V.cell? (ad.add (i * 6)) = some (.int .u8 t.f0) := fun V hV => ⟨pw_cell_below hV q0, pw_cell_below hV q1, pw_cell_below hV c0⟩
    have HSA := zh hSall
    have HS := zh (hSall Wd1 hbd)
    have HBD := zh hbd
    have HWd := zh hWd
    clear hSall hbd hWd
    refine wp_region_R (fun w' => w'.cell? ⟨p, 0, none⟩ = some (.slice (some ad) l.length c) ∧ w'.cell? ⟨p, 1, none⟩ = some (.int .i64 i) ∧ w'.cell? (ad.add (i * 6)) = some (.int .u8 t.f0)) (fun j => true) (by kernel_rfl) ?_
    rw [HWd.out]
    refine anyR_take (i := 0) (oi := ⟨some 13, .move (.tmp 0), 54, "syntax.go:86", #[], none⟩) (v := ?_) rfl (by kernel_rfl) (fun _ _ _ h => h) (Or.inl ⟨by rfl, ?_⟩) HS.out ?_
    rotate_left
    ·intro x h; go_simp; try (with_reducible rfl)
    try simp only [Act.put,sA,List.set]
    refine anyR_take (i := 1) (oi := ⟨some 14, .nilCheck (.tmp 13), 0, "syntax.go:86", #[⟨0, .data⟩], none⟩) (v := ?_) rfl (by kernel_rfl) (fun _ _ _ h => h) (Or.inl ⟨by rfl, ?_⟩) HS.out ?_
    rotate_left
    ·intro x h; go_simp; try (with_reducible rfl)
    try simp only [Act.put,sA,List.set]
    refine anyR_take (i := 2) (oi := ⟨some 15, .fieldAddr 56 (.tmp 14) 1, 0, "syntax.go:86", #[⟨1, .data⟩], none⟩) (v := ?_) rfl (by kernel_rfl) (fun _ _ _ h => h) (Or.inl ⟨by rfl, ?_⟩) HS.out ?_
    rotate_left
    ·intro x h; go_simp; try (with_reducible rfl)
    try simp only [Act.put,sA,List.set]
    refine anyR_take (i := 3) (oi := ⟨some 16, .load 3 (.tmp 15), 3, "syntax.go:86", #[⟨2, .data⟩], none⟩) (v := ?_) rfl (by kernel_rfl) (fun _ _ _ h => h) (Or.inl ⟨by rfl, ?_⟩) HS.out ?_
    rotate_left
    ·intro x h; go_simp; try (with_reducible rfl)
    try simp only [Act.put,sA,List.set]
    refine anyR_take (i := 4) (oi := ⟨some 17, .move (.tmp 0), 54, "syntax.go:86", #[], none⟩) (v := ?_) rfl (by kernel_rfl) (fun _ _ _ h => h) (Or.inl ⟨by rfl, ?_⟩) HS.out ?_
    rotate_left
    ·intro x h; go_simp; try (with_reducible rfl)
    try simp only [Act.put,sA,List.set]
    refine anyR_take (i := 5) (oi := ⟨some 18, .nilCheck (.tmp 17), 0, "syntax.go:86", #[⟨4, .data⟩], none⟩) (v := ?_) rfl (by kernel_rfl) (fun _ _ _ h => h) (Or.inl ⟨by rfl, ?_⟩) HS.out ?_
    rotate_left
    ·intro x h; go_simp; try (with_reducible rfl)
    try simp only [Act.put,sA,List.set]
    refine anyR_take (i := 6) (oi := ⟨some 19, .fieldAddr 56 (.tmp 18) 0, 0, "syntax.go:86", #[⟨5, .data⟩], none⟩) (v := ?_) rfl (by kernel_rfl) (fun _ _ _ h => h) (Or.inl ⟨by rfl, ?_⟩) HS.out ?_
    rotate_left
    ·intro x h; go_simp; try (with_reducible rfl)
    try simp only [Act.put,sA,List.set]
    refine anyR_take (i := 7) (oi := ⟨some 20, .load 22 (.tmp 19), 22, "syntax.go:86", #[⟨6, .data⟩], none⟩) (v := ?_) rfl (by kernel_rfl) (fun _ _ _ h => h) (Or.inl ⟨by rfl, ?_⟩) HS.out ?_
    rotate_left
    ·intro x h; go_simp; try (with_reducible rfl)
    try simp only [Act.put,sA,List.set]
    refine anyR_take (i := 8) (oi := ⟨some 21, .call { callee := .builtin .len, args := #[.tmp 20], argTypes := #[22] }, 3, "syntax.go:86", #[⟨7, .data⟩], none⟩) (v := ?_) rfl (by kernel_rfl) (fun _ _ _ h => h) (Or.inl ⟨by rfl, ?_⟩) HS.out ?_
    rotate_left
    ·intro x h; go_simp; try (with_reducible rfl)
    try simp only [Act.put,sA,List.set]
    refine anyR_take (i := 9) (oi := ⟨some 22, .binOp .lss 3 (.tmp 16) (.tmp 21) 3, 4, "syntax.go:86", #[⟨3, .data⟩, ⟨8, .data⟩], none⟩) (v := ?_) rfl (by kernel_rfl) (fun _ _ _ h => h) (Or.inl ⟨by rfl, ?_⟩) HS.out ?_
    rotate_left
    ·intro x h; go_simp; try (with_reducible rfl)
    try simp only [Act.put,sA,List.set]
    refine anyR_take (i := 10) (oi := ⟨some 23, .move (.tmp 22), 4, "syntax.go:86", #[⟨9, .data⟩], none⟩) (v := ?_) rfl (by kernel_rfl) (fun _ _ _ h => h) (Or.inl ⟨by rfl, ?_⟩) HS.out ?_
    rotate_left
    ·intro x h; go_simp; try (with_reducible rfl)
    try simp only [Act.put,sA,List.set]
    refine anyR_take (i := 11) (oi := ⟨some 24, .move (.tmp 0), 54, "syntax.go:86", #[⟨10, .guard⟩], some (10, true)⟩) (v := ?_) rfl (by kernel_rfl) (fun _ _ _ h => h) (Or.inl ⟨by rfl, ?_⟩) HS.out ?_
    rotate_left
    ·intro x h; go_simp; try (with_reducible rfl)
    try simp only [Act.put,sA,List.set]
    refine anyR_take (i := 12) (oi := ⟨some 25, .nilCheck (.tmp 24), 0, "syntax.go:86", #[⟨11, .data⟩, ⟨10, .guard⟩], some (10, true)⟩) (v := ?_) rfl (by kernel_rfl) (fun _ _ _ h => h) (Or.inl ⟨by rfl, ?_⟩) HS.out ?_
    rotate_left
    ·intro x h; go_simp; try (with_reducible rfl)
    try simp only [Act.put,sA,List.set]
    refine anyR_take (i := 13) (oi := ⟨some 26, .fieldAddr 56 (.tmp 25) 0, 0, "syntax.go:86", #[⟨12, .data⟩, ⟨10, .guard⟩], some (10, true)⟩) (v := ?_) rfl (by kernel_rfl) (fun _ _ _ h => h) (Or.inl ⟨by rfl, ?_⟩) HS.out ?_
    rotate_left
    ·intro x h; go_simp; try (with_reducible rfl)
    try simp only [Act.put,sA,List.set]
    refine anyR_take (i := 14) (oi := ⟨some 27, .load 22 (.tmp 26), 22, "syntax.go:86", #[⟨13, .data⟩, ⟨10, .guard⟩], some (10, true)⟩) (v := ?_) rfl (by kernel_rfl) (fun _ _ _ h => h) (Or.inl ⟨by rfl, ?_⟩) HS.out ?_
    rotate_left
    ·intro x h; go_simp; try (with_reducible rfl)
    try simp only [Act.put,sA,List.set]
    refine anyR_take (i := 15) (oi := ⟨some 28, .move (.tmp 0), 54, "syntax.go:86", #[⟨10, .guard⟩], some (10, true)⟩) (v := ?_) rfl (by kernel_rfl) (fun _ _ _ h => h) (Or.inl ⟨by rfl, ?_⟩) HS.out ?_
    rotate_left
    ·intro x h; go_simp; try (with_reducible rfl)
    try simp only [Act.put,sA,List.set]
    refine anyR_take (i := 16) (oi := ⟨some 29, .nilCheck (.tmp 28), 0, "syntax.go:86", #[⟨15, .data⟩, ⟨10, .guard⟩], some (10, true)⟩) (v := ?_) rfl (by kernel_rfl) (fun _ _ _ h => h) (Or.inl ⟨by rfl, ?_⟩) HS.out ?_
    rotate_left
    ·intro x h; go_simp; try (with_reducible rfl)
    try simp only [Act.put,sA,List.set]
    refine anyR_take (i := 17) (oi := ⟨some 30, .fieldAddr 56 (.tmp 29) 1, 0, "syntax.go:86", #[⟨16, .data⟩, ⟨10, .guard⟩], some (10, true)⟩) (v := ?_) rfl (by kernel_rfl) (fun _ _ _ h => h) (Or.inl ⟨by rfl, ?_⟩) HS.out ?_
    rotate_left
    ·intro x h; go_simp; try (with_reducible rfl)
    try simp only [Act.put,sA,List.set]
    refine anyR_take (i := 18) (oi := ⟨some 31, .load 3 (.tmp 30), 3, "syntax.go:86", #[⟨17, .data⟩, ⟨10, .guard⟩], some (10, true)⟩) (v := ?_) rfl (by kernel_rfl) (fun _ _ _ h => h) (Or.inl ⟨by rfl, ?_⟩) HS.out ?_
    rotate_left
    ·intro x h; go_simp; try (with_reducible rfl)
    try simp only [Act.put,sA,List.set]
    refine anyR_take (i := 19) (oi := ⟨some 32, .indexAddr 22 (.tmp 27) (.tmp 31), 0, "syntax.go:86", #[⟨14, .data⟩, ⟨18, .data⟩, ⟨10, .guard⟩], some (10, true)⟩) (v := ?_) rfl (by kernel_rfl) (fun _ _ _ h => h) (Or.inl ⟨by rfl, ?_⟩) HS.out ?_
    rotate_left
    ·intro x h; go_simp; try (with_reducible rfl)
    try simp only [Act.put,sA,List.set]
    refine anyR_take (i := 20) (oi := ⟨some 33, .fieldAddr 28 (.tmp 32) 0, 0, "syntax.go:86", #[⟨19, .data⟩, ⟨10, .guard⟩], some (10, true)⟩) (v := ?_) rfl (by kernel_rfl) (fun _ _ _ h => h) (Or.inl ⟨by rfl, ?_⟩) HS.out ?_
    rotate_left
    ·intro x h; go_simp; try (with_reducible rfl)
    try simp only [Act.put,sA,List.set]
    refine anyR_take (i := 21) (oi := ⟨some 34, .load 24 (.tmp 33), 24, "syntax.go:86", #[⟨20, .data⟩, ⟨10, .guard⟩], some (10, true)⟩) (v := ?_) rfl (by kernel_rfl) (fun _ _ _ h => h) (Or.inl ⟨by rfl, ?_⟩) HS.out ?_
    rotate_left
    ·intro x h; go_simp; try (with_reducible rfl)
    try simp only [Act.put,sA,List.set]
    refine anyR_take (i := 22) (oi := ⟨some 35, .move (.tmp 6), 24, "syntax.go:86", #[⟨10, .guard⟩], some (10, true)⟩) (v := ?_) rfl (by kernel_rfl) (fun _ _ _ h => h) (Or.inl ⟨by rfl, ?_⟩) HS.out ?_
    rotate_left
    ·intro x h; go_simp; try (with_reducible rfl)
    try simp only [Act.put,sA,List.set]
    refine anyR_take (i := 23) (oi := ⟨some 36, .binOp .eql 24 (.tmp 34) (.tmp 35) 24, 4, "syntax.go:86", #[⟨21, .data⟩, ⟨22, .data⟩, ⟨10, .guard⟩], some (10, true)⟩) (v := ?_) rfl (by kernel_rfl) (fun _ _ _ h => h) (Or.inl ⟨by rfl, ?_⟩) HS.out ?_
    rotate_left
    ·intro x h; go_simp; try (with_reducible rfl)
    try simp only [Act.put,sA,List.set]
    refine anyR_take (i := 24) (oi := ⟨some 37, .pick (.tmp 23) (.tmp 36) (.const (.bool false)), 4, "syntax.go:86", #[⟨10, .data⟩, ⟨23, .data⟩], none⟩) (v := ?_) rfl (by kernel_rfl) (fun _ _ _ h => h) (Or.inl ⟨by rfl, ?_⟩) HS.out ?_
    rotate_left
    ·intro x h; go_simp; try (with_reducible rfl)
    try simp only [Act.put,sA,List.set]
    refine anyR_done (by kernel_rfl) ?_ _
    cases m with
    | true =>
     have HIN : Hid (ks.any (fun k => t.f0 == k) = true) := zh (any_pre (j := j + 1) HSP.out)
     go_wp2
     go_ret
     exact ⟨by rw [HOF.out, HIN.out]; rfl, HBW.out.trans (HBD.out.mono HBW.out.size)⟩
    | false =>
     go_wp2
     go_roundw
     case rel => exact ⟨j + 1, by omega, by go_num, zh ⟨HBW.out.trans (HBD.out.mono HBW.out.size), HSP.out⟩⟩
     case measure => simp [intOf] <;> omega
   ·obtain rfl : j = ks.length := by omega
    have hfin := H.out.2
    rw [List.take_length] at hfin
    have g9 : ¬ ((ks.length : Int) < (ks.length : Int)) := by omega
    have HBB := zh H.out.1
    have HFI := zh hfin
    clear H hfin
    go_wp2
    go_ret
    exact ⟨by rw [HOF.out, HFI.out]; rfl, HBB.out⟩
 ·obtain rfl : i = l.length := by have := HH.out.ile; omega
  have hof : ofL l l.length ks = false := by unfold ofL; rw [List.getElem?_eq_none (Nat.le_refl _)]
  have HOF := zh hof
  have g9 : ¬ ((l.length : Int) < (l.length : Int)) := by omega
  clear hof
  go_loopw [9] (fun v9 wr => ∃ j : Nat, j ≤ ks.length ∧ v9 = .int .i64 j ∧ Hid (Below w.heap.size w wr)) (fun v9 _ => ks.length - (intOf v9).toNat)
  case atStart => exact ⟨0, Nat.zero_le _, rfl, zh (Below.refl _ _)⟩
  case round =>
   obtain ⟨j, hjl, rfl, H⟩ := hrel
   by_cases hlt : j < ks.length
   ·obtain ⟨k1, k2, k3, k4⟩ := wrap_one hlt HL.out
    obtain ⟨ad1, hA1, hs⟩ := Kd.at_int (Kd.C_below HC.out H.out) (j : Int) k2 k1
    subst hA1
    obtain ⟨s, hse⟩ : ∃ s, rd ks (j : Int) = s := ⟨_, rfl⟩
    rw [hse] at hs
    simp only [Int.toNat_natCast] at hs
    obtain ⟨q0, q1, q2, q3⟩ := (HH.out.moved H.out).cell
    have HBW := H
    clear H hse
    go_wp2
    obtain ⟨Wd1, hWd⟩ : ∃ V, wr.drew = V := ⟨_, rfl⟩
    have hbd : Below wr.heap.size wr Wd1 := by rw [← hWd]; exact (Below.refl _ wr).drew
    have hSall : ∀ V, Below wr.heap.size wr V → V.cell? ⟨p, 0, none⟩ = some (.slice (A) l.length c) ∧ V.cell? ⟨p, 1, none⟩ = some (.int .i64 l.length) := fun V hV => ⟨pw_cell_below hV q0, pw_cell_below hV q1⟩
    have HSA := zh hSall
    have HS := zh (hSall Wd1 hbd)
    have HBD := zh hbd
    have HWd := zh hWd
    clear hSall hbd hWd
    refine wp_region_R (fun w' => w'.cell? ⟨p, 0, none⟩ = some (.slice (A) l.length c) ∧ w'.cell? ⟨p, 1, none⟩ = some (.int .i64 l.length)) (fun j => true) (by kernel_rfl) ?_
    rw [HWd.out]
    refine anyR_take (i := 0) (oi := ⟨some 13, .move (.tmp 0), 54, "syntax.go:86", #[], none⟩) (v := ?_) rfl (by kernel_rfl) (fun _ _ _ h => h) (Or.inl ⟨by rfl, ?_⟩) HS.out ?_
    rotate_left
    ·intro x h; go_simp; try (with_reducible rfl)
    try simp only [Act.put,sA,List.set]
    refine anyR_take (i := 1) (oi := ⟨some 14, .nilCheck (.tmp 13), 0, "syntax.go:86", #[⟨0, .data⟩], none⟩) (v := ?_) rfl (by kernel_rfl) (fun _ _ _ h => h) (Or.inl ⟨by rfl, ?_⟩) HS.out ?_
    rotate_left
    ·intro x h; go_simp; try (with_reducible rfl)
    try simp only [Act.put,sA,List.set]
    refine anyR_take (i := 2) (oi := ⟨some 15, .fieldAddr 56 (.tmp 14) 1, 0, "syntax.go:86", #[⟨1, .data⟩], none⟩) (v := ?_) rfl (by kernel_rfl) (fun _ _ _ h => h) (Or.inl ⟨by rfl, ?_⟩) HS.out ?_
    rotate_left
    ·intro x h; go_simp; try (with_reducible rfl)
    try simp only [Act.put,sA,List.set]
    refine anyR_take (i := 3) (oi := ⟨some 16, .load 3 (.tmp 15), 3, "syntax.go:86", #[⟨2, .data⟩], none⟩) (v := ?_) rfl (by kernel_rfl) (fun _ _ _ h => h) (Or.inl ⟨by rfl, ?_⟩) HS.out ?_
    rotate_left
    ·intro x h; go_simp; try (with_reducible rfl)
    try simp only [Act.put,sA,List.set]
    refine anyR_take (i := 4) (oi := ⟨some 17, .move (.tmp 0), 54, "syntax.go:86", #[], none⟩) (v := ?_) rfl (by kernel_rfl) (fun _ _ _ h => h) (Or.inl ⟨by rfl, ?_⟩) HS.out ?_
    rotate_left
    ·intro x h; go_simp; try (with_reducible rfl)
    try simp only [Act.put,sA,List.set]
    refine anyR_take (i := 5) (oi := ⟨some 18, .nilCheck (.tmp 17), 0, "syntax.go:86", #[⟨4, .data⟩], none⟩) (v := ?_) rfl (by kernel_rfl) (fun _ _ _ h => h) (Or.inl ⟨by rfl, ?_⟩) HS.out ?_
    rotate_left
    ·intro x h; go_simp; try (with_reducible rfl)
    try simp only [Act.put,sA,List.set]
    refine anyR_take (i := 6) (oi := ⟨some 19, .fieldAddr 56 (.tmp 18) 0, 0, "syntax.go:86", #[⟨5, .data⟩], none⟩) (v := ?_) rfl (by kernel_rfl) (fun _ _ _ h => h) (Or.inl ⟨by rfl, ?_⟩) HS.out ?_
    rotate_left
    ·intro x h; go_simp; try (with_reducible rfl)
    try simp only [Act.put,sA,List.set]
    refine anyR_take (i := 7) (oi := ⟨some 20, .load 22 (.tmp 19), 22, "syntax.go:86", #[⟨6, .data⟩], none⟩) (v := ?_) rfl (by kernel_rfl) (fun _ _ _ h => h) (Or.inl ⟨by rfl, ?_⟩) HS.out ?_
    rotate_left
    ·intro x h; go_simp; try (with_reducible rfl)
    try simp only [Act.put,sA,List.set]
    refine anyR_take (i := 8) (oi := ⟨some 21, .call { callee := .builtin .len, args := #[.tmp 20], argTypes := #[22] }, 3, "syntax.go:86", #[⟨7, .data⟩], none⟩) (v := ?_) rfl (by kernel_rfl) (fun _ _ _ h => h) (Or.inl ⟨by rfl, ?_⟩) HS.out ?_
    rotate_left
    ·intro x h; go_simp; try (with_reducible rfl)
    try simp only [Act.put,sA,List.set]
    refine anyR_take (i := 9) (oi := ⟨some 22, .binOp .lss 3 (.tmp 16) (.tmp 21) 3, 4, "syntax.go:86", #[⟨3, .data⟩, ⟨8, .data⟩], none⟩) (v := ?_) rfl (by kernel_rfl) (fun _ _ _ h => h) (Or.inl ⟨by rfl, ?_⟩) HS.out ?_
    rotate_left
    ·intro x h; go_simp; try (with_reducible rfl)
    try simp only [Act.put,sA,List.set]
    refine anyR_take (i := 10) (oi := ⟨some 23, .move (.tmp 22), 4, "syntax.go:86", #[⟨9, .data⟩], none⟩) (v := ?_) rfl (by kernel_rfl) (fun _ _ _ h => h) (Or.inl ⟨by rfl, ?_⟩) HS.out ?_
    rotate_left
    ·intro x h; go_simp; try (with_reducible rfl)
    try simp only [Act.put,sA,List.set]
    refine anyR_take (i := 11) (oi := ⟨some 24, .move (.tmp 0), 54, "syntax.go:86", #[⟨10, .guard⟩], some (10, true)⟩) (v := _) rfl (by kernel_rfl) (fun _ _ _ h => h) (Or.inr ⟨by rfl, rfl⟩) HS.out ?_
    try simp only [Act.put,sA,List.set]
    refine anyR_take (i := 12) (oi := ⟨some 25, .nilCheck (.tmp 24), 0, "syntax.go:86", #[⟨11, .data⟩, ⟨10, .guard⟩], some (10, true)⟩) (v := _) rfl (by kernel_rfl) (fun _ _ _ h => h) (Or.inr ⟨by rfl, rfl⟩) HS.out ?_
    try simp only [Act.put,sA,List.set]
    refine anyR_take (i := 13) (oi := ⟨some 26, .fieldAddr 56 (.tmp 25) 0, 0, "syntax.go:86", #[⟨12, .data⟩, ⟨10, .guard⟩], some (10, true)⟩) (v := _) rfl (by kernel_rfl) (fun _ _ _ h => h) (Or.inr ⟨by rfl, rfl⟩) HS.out ?_
    try simp only [Act.put,sA,List.set]
    refine anyR_take (i := 14) (oi := ⟨some 27, .load 22 (.tmp 26), 22, "syntax.go:86", #[⟨13, .data⟩, ⟨10, .guard⟩], some (10, true)⟩) (v := _) rfl (by kernel_rfl) (fun _ _ _ h => h) (Or.inr ⟨by rfl, rfl⟩) HS.out ?_
    try simp only [Act.put,sA,List.set]
    refine anyR_take (i := 15) (oi := ⟨some 28, .move (.tmp 0), 54, "syntax.go:86", #[⟨10, .guard⟩], some (10, true)⟩) (v := _) rfl (by kernel_rfl) (fun _ _ _ h => h) (Or.inr ⟨by rfl, rfl⟩) HS.out ?_
    try simp only [Act.put,sA,List.set]
    refine anyR_take (i := 16) (oi := ⟨some 29, .nilCheck (.tmp 28), 0, "syntax.go:86", #[⟨15, .data⟩, ⟨10, .guard⟩], some (10, true)⟩) (v := _) rfl (by kernel_rfl) (fun _ _ _ h => h) (Or.inr ⟨by rfl, rfl⟩) HS.out ?_
    try simp only [Act.put,sA,List.set]
    refine anyR_take (i := 17) (oi := ⟨some 30, .fieldAddr 56 (.tmp 29) 1, 0, "syntax.go:86", #[⟨16, .data⟩, ⟨10, .guard⟩], some (10, true)⟩) (v := _) rfl (by kernel_rfl) (fun _ _ _ h => h) (Or.inr ⟨by rfl, rfl⟩) HS.out ?_
    try simp only [Act.put,sA,List.set]
    refine anyR_take (i := 18) (oi := ⟨some 31, .load 3 (.tmp 30), 3, "syntax.go:86", #[⟨17, .data⟩, ⟨10, .guard⟩], some (10, true)⟩) (v := _) rfl (by kernel_rfl) (fun _ _ _ h => h) (Or.inr ⟨by rfl, rfl⟩) HS.out ?_
    try simp only [Act.put,sA,List.set]
    refine anyR_take (i := 19) (oi := ⟨some 32, .indexAddr 22 (.tmp 27) (.tmp 31), 0, "syntax.go:86", #[⟨14, .data⟩, ⟨18, .data⟩, ⟨10, .guard⟩], some (10, true)⟩) (v := _) rfl (by kernel_rfl) (fun _ _ _ h => h) (Or.inr ⟨by rfl, rfl⟩) HS.out ?_
    try simp only [Act.put,sA,List.set]
    refine anyR_take (i := 20) (oi := ⟨some 33, .fieldAddr 28 (.tmp 32) 0, 0, "syntax.go:86", #[⟨19, .data⟩, ⟨10, .guard⟩], some (10, true)⟩) (v := _) rfl (by kernel_rfl) (fun _ _ _ h => h) (Or.inr ⟨by rfl, rfl⟩) HS.out ?_
    try simp only [Act.put,sA,List.set]
    refine anyR_take (i := 21) (oi := ⟨some 34, .load 24 (.tmp 33), 24, "syntax.go:86", #[⟨20, .data⟩, ⟨10, .guard⟩], some (10, true)⟩) (v := _) rfl (by kernel_rfl) (fun _ _ _ h => h) (Or.inr ⟨by rfl, rfl⟩) HS.out ?_
    try simp only [Act.put,sA,List.set]
    refine anyR_take (i := 22) (oi := ⟨some 35, .move (.tmp 6), 24, "syntax.go:86", #[⟨10, .guard⟩], some (10, true)⟩) (v := _) rfl (by kernel_rfl) (fun _ _ _ h => h) (Or.inr ⟨by rfl, rfl⟩) HS.out ?_
    try simp only [Act.put,sA,List.set]
    refine anyR_take (i := 23) (oi := ⟨some 36, .binOp .eql 24 (.tmp 34) (.tmp 35) 24, 4, "syntax.go:86", #[⟨21, .data⟩, ⟨22, .data⟩, ⟨10, .guard⟩], some (10, true)⟩) (v := _) rfl (by kernel_rfl) (fun _ _ _ h => h) (Or.inr ⟨by rfl, rfl⟩) HS.out ?_
    try simp only [Act.put,sA,List.set]
    refine anyR_take (i := 24) (oi := ⟨some 37, .pick (.tmp 23) (.tmp 36) (.const (.bool false)), 4, "syntax.go:86", #[⟨10, .data⟩, ⟨23, .data⟩], none⟩) (v := ?_) rfl (by kernel_rfl) (fun _ _ _ h => h) (Or.inl ⟨by rfl, ?_⟩) HS.out ?_
    rotate_left
    ·intro x h; go_simp; try (with_reducible rfl)
    try simp only [Act.put,sA,List.set]
    refine anyR_done (by kernel_rfl) ?_ _
    go_wp2
    go_roundw
    case rel => exact ⟨j + 1, by omega, by go_num, zh (HBW.out.trans (HBD.out.mono HBW.out.size))⟩
    case measure => simp [intOf] <;> omega
   ·obtain rfl : j = ks.length := by omega
    have g8 : ¬ ((ks.length : Int) < (ks.length : Int)) := by omega
    have HBB := H
    clear H
    go_wp2
    go_ret
    exact ⟨by rw [HOF.out]; rfl, HBB.out⟩
def SPost (W0 : World) (A : Option Addr) (c : Nat) (l : List Tk) (p : Nat) (ve : Value) (w : World) (r : SRes) (e : Ending) (w' : World) : Prop :=
 match r with
 | .ok i' d' out' => e = .returned (.tuple #[]) ∧ ∃ ve', SAt W0 A c l w' p i' d' out' ve' ∧ MStep p ve w ve' w'
 | .err er i' => e = giveUp er i' ∧ ∃ ve', MStep p ve w ve' w'
theorem SPost.pre {W0 : World} {A : Option Addr} {c : Nat} {l : List Tk} {p : Nat} {ve ve1 : Value} {w w1 w' : World} {r : SRes} {e : Ending} (h : SPost W0 A c l p ve1 w1 r e w') (hs : MStep p ve w ve1 w1) : SPost W0 A c l p ve w r e w' := by
 cases r with
 | ok i' d' out' =>
  obtain ⟨h1, ve', h2, h3⟩ := h
  exact ⟨h1, ve', h2, hs.trans h3⟩
 | err er i' =>
  obtain ⟨h1, ve', h3⟩ := h
  exact ⟨h1, ve', hs.trans h3⟩
def BodyOK (W0 : World) (A : Option Addr) (c : Nat) (l : List Tk) (p : Nat) (ve : Value) (w : World) (N : Nat) (F : FuncId) (av : Array Value) (T : List WT) : Prop :=
 ∀ n, n ≤ N → ∀ (w1 : World) (i1 : Nat) (d1 : Int) (out1 : List Ev) (ve1 : Value) (r : SRes), MStep p ve w ve1 w1 → SAt W0 A c l w1 p i1 d1 out1 ve1 → srun l n ⟨T, i1, d1, out1⟩ = some r → Calls Tryz.prog F av w1 (SPost W0 A c l p ve1 w1 r)
theorem BodyOK.later {W0 : World} {A : Option Addr} {c : Nat} {l : List Tk} {p : Nat} {ve ve1 : Value} {w w1 : World} {N : Nat} {F : FuncId} {av : Array Value} {T : List WT} (h : BodyOK W0 A c l p ve w N F av T) (hs : MStep p ve w ve1 w1) : BodyOK W0 A c l p ve1 w1 N F av T :=
 fun n hn w2 i2 d2 out2 ve2 r h2 => h n hn w2 i2 d2 out2 ve2 r (hs.trans h2)
def Good (l : List Tk) (N : Nat) (F : FuncId) (T : List WT) : Prop :=
 ∀ n, n ≤ N → ∀ (W0 : World) (A : Option Addr) (c : Nat) (w : World) (p i : Nat) (d : Int) (out : List Ev) (ve : Value) (r : SRes), SAt W0 A c l w p i d out ve → srun l n ⟨T, i, d, out⟩ = some r → Calls Tryz.prog F #[.pointer (some ⟨p, 0, none⟩)] w (SPost W0 A c l p ve w r)
def GoodC (l : List Tk) (N : Nat) (F : FuncId) (T : List WT) : Prop :=
 ∀ n, n ≤ N → ∀ (W0 : World) (A : Option Addr) (c : Nat) (w : World) (p g i : Nat) (d : Int) (out : List Ev) (ve : Value) (r : SRes), SAt W0 A c l w p i d out ve → w.heap[g]? = some (.cells #[.pointer (some ⟨p, 0, none⟩)] 54 (0, 0)) → srun l n ⟨T, i, d, out⟩ = some r → Calls Tryz.prog F #[.pointer (some ⟨g, 0, none⟩)] w (SPost W0 A c l p ve w r)
theorem Good.body {W0 : World} {A : Option Addr} {c : Nat} {l : List Tk} {p : Nat} {ve : Value} {w : World} {N : Nat} {F : FuncId} {T : List WT} (h : Good l N F T) : BodyOK W0 A c l p ve w N F #[.pointer (some ⟨p, 0, none⟩)] T :=
 fun n hn w1 i1 d1 out1 ve1 r _ h2 h3 => h n hn W0 A c w1 p i1 d1 out1 ve1 r h2 h3
theorem GoodC.body {W0 : World} {A : Option Addr} {c : Nat} {l : List Tk} {p g i : Nat} {d : Int} {out : List Ev} {ve : Value} {w : World} {N : Nat} {F : FuncId} {T : List WT} (h : GoodC l N F T) (H : SAt W0 A c l w p i d out ve) (hg : w.heap[g]? = some (.cells #[.pointer (some ⟨p, 0, none⟩)] 54 (0, 0))) : BodyOK W0 A c l p ve w N F #[.pointer (some ⟨g, 0, none⟩)] T :=
 fun n hn w1 i1 d1 out1 ve1 r hs h2 h3 => h n hn W0 A c w1 p g i1 d1 out1 ve1 r h2 (mkeep hs H hg) h3
theorem strs_C (W : World) (l : List ByteArray) (n : Nat) (cs : List Value) (hn : l.length = n) (hcs : l.map Value.string = cs) (hl : n ≤ 16) : Kd.C Kd.string (W.alloc (.cells cs.toArray 9)) (some ⟨W.heap.size, 0, none⟩) l.length l := by
 subst hn; subst hcs
 have hrow : (W.alloc (.cells (l.map Value.string).toArray 9)).ownsRow 0 9 1 (.slice (some ⟨W.heap.size, 0, none⟩) l.length l.length) l.length (l.map Value.string) :=
  ⟨by simp, .inr ⟨W.heap.size, l.length, (l.map Value.string).toArray, rfl, Nat.zero_le _, World.alloc_heap_new _ _, Nat.le_refl _, by simp only [maxLen]; omega, by simp, by simp [List.take_of_length_le]⟩⟩
 obtain ⟨A, c1, hv, hr⟩ := own_reads_row (size := 1) hrow (reps_str _ l) rfl
 injection hv with h1 h2 h3
 subst h1
 exact hr
theorem reps_u8 (w : World) : ∀ l : List Int, Reps ((Kd.int .u8).K w) 1 l (l.map (Value.int .u8))
 | [] => Reps.none _ _
 | x :: l => by
  have := Reps.one (show (Kd.int .u8).K w x [.int .u8 x] from rfl) (reps_u8 w l)
  simpa using this
theorem kinds_C (W : World) (l : List Int) (n : Nat) (cs : List Value) (hn : l.length = n) (hcs : l.map (Value.int .u8) = cs) (hl : n ≤ 16) : Kd.C (Kd.int .u8) (W.alloc (.cells cs.toArray 24)) (some ⟨W.heap.size, 0, none⟩) l.length l := by
 subst hn; subst hcs
 have hrow : (W.alloc (.cells (l.map (Value.int .u8)).toArray 24)).ownsRow 0 24 1 (.slice (some ⟨W.heap.size, 0, none⟩) l.length l.length) l.length (l.map (Value.int .u8)) :=
  ⟨by simp, .inr ⟨W.heap.size, l.length, (l.map (Value.int .u8)).toArray, rfl, Nat.zero_le _, World.alloc_heap_new _ _, Nat.le_refl _, by simp only [maxLen]; omega, by simp, by simp [List.take_of_length_le]⟩⟩
 obtain ⟨A, c1, hv, hr⟩ := own_reads_row (size := 1) hrow (reps_u8 _ l) rfl
 injection hv with h1 h2 h3
 subst h1
 exact hr
section
variable {W0 : World} {A : Option Addr} {c : Nat} {l : List Tk} {w W : World} {p : Nat} {i : Nat} {d : Int} {out : List Ev} {ve : Value}
theorem is_new (H : SAt W0 A c l W p i d out ve) (ws : List ByteArray) (n : Nat) (cs : List Value) (hn : ws.length = n) (hcs : ws.map Value.string = cs) (hl : n ≤ 16) (hws : ws.all goodW = true) :
  Calls Tryz.prog 47 #[.pointer (some ⟨p, 0, none⟩), .slice (some ⟨W.heap.size, 0, none⟩) n n] (W.alloc (.cells cs.toArray 9)) fun e w' => e = .returned (.bool (inL (cAt l i) ws)) ∧ Below W.heap.size W w' := by
 have hb : Below W.heap.size W (W.alloc (.cells cs.toArray 9)) := (Below.refl _ W).alloc (Nat.le_refl _) _
 have hC := strs_C W ws n cs hn hcs hl
 subst hn
 refine (is_any (H.moved hb) _ _ ws hC (List.all_eq_true.1 hws) hl).mono ?_
 rintro e w' ⟨he, h2⟩
 exact ⟨he, hb.trans (h2.mono hb.size)⟩
theorem of_new (H : SAt W0 A c l W p i d out ve) (ks : List Int) (n : Nat) (cs : List Value) (hn : ks.length = n) (hcs : ks.map (Value.int .u8) = cs) (hl : n ≤ 16) :
  Calls Tryz.prog 48 #[.pointer (some ⟨p, 0, none⟩), .slice (some ⟨W.heap.size, 0, none⟩) n n] (W.alloc (.cells cs.toArray 24)) fun e w' => e = .returned (.bool (ofL l i ks)) ∧ Below W.heap.size W w' := by
 have hb : Below W.heap.size W (W.alloc (.cells cs.toArray 24)) := (Below.refl _ W).alloc (Nat.le_refl _) _
 have hC := kinds_C W ks n cs hn hcs hl
 subst hn
 refine (of_any (H.moved hb) _ _ ks hC hl).mono ?_
 rintro e w' ⟨he, h2⟩
 exact ⟨he, hb.trans (h2.mono hb.size)⟩
theorem take_word (H : SAt W0 A c l w p i d out ve) (x : ByteArray) (S : List WT) {m : Bool} (hm : (∃ t, l[i]? = some t ∧ codeOf t = x) ↔ m = true) {n : Nat} {r : SRes} (hr : srun l n ⟨[.word x], i, d, out⟩ = some r) :
  Calls Tryz.prog 46 #[.pointer (some ⟨p, 0, none⟩), .bool m] w (SPost W0 A c l p ve w r) := by
 have hlen := (srun_len hr).1
 cases hg : l[i]? with
 | none =>
  obtain ⟨_, rfl⟩ := srun_fin hr (q := .err 121 i) (by simp [sstep, hg])
  have hm0 : m = false := by
   cases m
   ·rfl
   ·obtain ⟨t, h1, _⟩ := hm.2 rfl
    rw [hg] at h1; cases h1
  subst hm0
  have hi : i = l.length := by
   have h1 := H.ile
   have h2 := List.getElem?_eq_none_iff.1 hg
   omega
  have h := take_no H
  rw [if_pos hi] at h
  refine h.mono ?_
  rintro e w' ⟨he, hb⟩
  exact ⟨he, ve, PStep.below hb⟩
 | some t =>
  have hi : i < l.length := (List.getElem?_eq_some_iff.1 hg).1
  by_cases hx : codeOf t = x
  ·have hm1 : m = true := hm.1 ⟨t, hg, hx⟩
   subst hm1
   by_cases hd : 1000 < d
   ·obtain ⟨_, rfl⟩ := srun_fin hr (q := .err 122 i) (by simp [sstep, hg, hx, hd])
    refine (take_deep H hd).mono ?_
    rintro e w' ⟨he, hb⟩
    exact ⟨he, ve, PStep.below hb⟩
   ·obtain ⟨_, n', rfl, hr2⟩ := srun_on hr (s' := ⟨[], i + 1 + (nAt l (i + 1)).length, d, out ++ [leafE t] ++ (nAt l (i + 1)).map noteE⟩) (by simp [sstep, hg, hx, hd])
    obtain ⟨_, rfl⟩ := srun_fin hr2 (q := .ok (i + 1 + (nAt l (i + 1)).length) d (out ++ [leafE t] ++ (nAt l (i + 1)).map noteE)) rfl
    exact take_yes H hg hd hlen
  ·obtain ⟨_, rfl⟩ := srun_fin hr (q := .err 120 i) (by simp [sstep, hg, hx])
   have hm0 : m = false := by
    cases m
    ·rfl
    ·obtain ⟨t2, h1, h2⟩ := hm.2 rfl
     rw [hg] at h1; cases h1
     exact absurd h2 hx
   subst hm0
   have h := take_no H
   rw [if_neg (by omega)] at h
   refine h.mono ?_
   rintro e w' ⟨he, hb⟩
   exact ⟨he, ve, PStep.below hb⟩
theorem code_name (t : Tk) : (t.f0 == 1) = true ↔ codeOf t = ⟨#[64, 110, 97, 109, 101]⟩ := by
 rw [beq_iff_eq]
 constructor
 ·intro h
  unfold codeOf codeF
  rw [if_pos h]
  rfl
 ·intro h
  have hn : ∀ x : ByteArray, ¬ bt x 0 = 64 → ¬ x = ⟨#[64, 110, 97, 109, 101]⟩ := fun x hx e => hx (by rw [e]; decide)
  rcases Decidable.em (t.f0 = 1) with h1 | h1
  ·exact h1
  ·exfalso
   unfold codeOf codeF at h
   rw [if_neg h1] at h
   repeat' split at h
   all_goals first
    | (simp only [Option.getD_some] at h; exact absurd h (by decide))
    | (simp only [Option.getD_some] at h; exact hn _ (by omega) h)
    | (simp only [Option.getD_none] at h; exact absurd h (by decide))
end
theorem name_of (l : List Tk) (i : Nat) : (∃ t, l[i]? = some t ∧ codeOf t = ⟨#[64, 110, 97, 109, 101]⟩) ↔ ofL l i [1] = true := by
 unfold ofL
 cases h : l[i]? with
 | none => simp
 | some t =>
  have := code_name t
  simp only [Option.some.injEq, exists_eq_left', List.any_cons, List.any_nil, Bool.or_false]
  exact this.symm
theorem word_in {l : List Tk} {i : Nat} {s : ByteArray} (hs : goodW s = true) : (∃ t, l[i]? = some t ∧ codeOf t = s) ↔ inL (cAt l i) [s] = true := by
 unfold cAt
 cases h : l[i]? with
 | none =>
  simp only [reduceCtorEq, false_and, exists_false, false_iff, Bool.not_eq_true]
  exact inL_end (fun x hx => by rw [List.mem_singleton.1 hx]; exact hs)
 | some t =>
  simp only [Option.some.injEq, exists_eq_left']
  rw [inL_iff, List.mem_singleton]
theorem name_any (l : List Tk) (N : Nat) : Good l N 37 [.word ⟨#[64, 110, 97, 109, 101]⟩] := by
 intro n hn W0 A c w p i d out ve r H hr
 have HOF := zh (of_new H [1] 1 [.int .u8 1] rfl rfl (by decide))
 have HTK := zh (fun (w1 : World) (hb : Below w.heap.size w w1) => take_word (H.moved hb) ⟨#[64, 110, 97, 109, 101]⟩ [] (name_of l i) hr)
 clear H hr
 show Calls Tryz.prog 37 _ w _
 obtain ⟨m, hm⟩ : ∃ m, ofL l i [1] = m := ⟨_, rfl⟩
 rw [hm] at HOF HTK
 clear hm
 cases r with
 | ok i2 d2 out2 =>
  go_enter Tryz.func37, Tryz.ntmps37
  go_wp2_with (first
   | (go_at_call 48; (with_reducible refine cM HOF.out ?_); rintro e w1 ⟨rfl, hb⟩; have HB1 := zh hb; clear hb)
   | (go_at_call 46; (with_reducible refine cM (HTK.out _ HB1.out) ?_); rintro e w2 ⟨rfl, ve2, h2, h3⟩; have HP2 := zh h2; have HS2 := zh ((PStep.below HB1.out : MStep p ve w ve w1).trans h3); clear h2 h3))
  go_end0
  exact ⟨rfl, ve2, HP2.out, HS2.out⟩
 | err er i2 =>
  go_enter Tryz.func37, Tryz.ntmps37
  go_wp2_with (first
   | (go_at_call 48; (with_reducible refine cM HOF.out ?_); rintro e w1 ⟨rfl, hb⟩; have HB1 := zh hb; clear hb)
   | (go_at_call 46; (with_reducible refine cM (HTK.out _ HB1.out) ?_); rintro e w2 ⟨rfl, ve2, h3⟩; have HS2 := zh ((PStep.below HB1.out : MStep p ve w ve w1).trans h3); clear h3))
  exact ⟨rfl, rfl, ve2, HS2.out⟩
def StrAt (w : World) (g : Nat) (ws : List ByteArray) : Prop := w.heap[g]? = some (.cells (ws.map Value.string).toArray 9 (0, 0))
theorem StrAt.C {w : World} {g : Nat} {ws : List ByteArray} (h : StrAt w g ws) (hl : ws.length ≤ 16) : Kd.C Kd.string w (some ⟨g, 0, none⟩) ws.length ws := by
 have hrow : w.ownsRow 0 9 1 (.slice (some ⟨g, 0, none⟩) ws.length ws.length) ws.length (ws.map Value.string) :=
  ⟨by simp, .inr ⟨g, ws.length, (ws.map Value.string).toArray, rfl, Nat.zero_le _, h, Nat.le_refl _, by simp only [maxLen]; omega, by simp, by simp [List.take_of_length_le]⟩⟩
 obtain ⟨A, c1, hv, hr⟩ := own_reads_row (size := 1) hrow (reps_str _ ws) rfl
 injection hv with h1 h2 h3
 subst h1
 exact hr
theorem StrAt.cell {w : World} {g : Nat} {ws : List ByteArray} (h : StrAt w g ws) {j : Nat} {s : ByteArray} (hj : ws[j]? = some s) : w.cell? ⟨g, j, none⟩ = some (.string s) := by
 rw [cR _ h]
 simp [hj]
theorem StrAt.later {W0 : World} {A : Option Addr} {c : Nat} {l : List Tk} {w w1 : World} {p : Nat} {i : Nat} {d : Int} {out : List Ev} {ve ve1 : Value} {g : Nat} {ws : List ByteArray} (h : StrAt w g ws) (H : SAt W0 A c l w p i d out ve) (hs : MStep p ve w ve1 w1) : StrAt w1 g ws := mkeep hs H h
theorem words_any {W0 : World} {A : Option Addr} {c : Nat} {l : List Tk} {w : World} {p : Nat} {i : Nat} {d : Int} {out : List Ev} {ve : Value} (H : SAt W0 A c l w p i d out ve) (g c1 : Nat) (ws : List ByteArray) (hC : StrAt w g ws) (hws : ∀ s ∈ ws, goodW s = true) (hl : ws.length ≤ 16) {n : Nat} {r : SRes} (hr : srun l n ⟨ws.map .word, i, d, out⟩ = some r) :
  Calls Tryz.prog 36 #[.pointer (some ⟨p, 0, none⟩), .slice (some ⟨g, 0, none⟩) ws.length c1] w (SPost W0 A c l p ve w r) := by
 have HC := zh hC
 have HWS := zh hws
 have HL := zh hl
 have HH := zh H
 have HI0 : Hid (srun l n ⟨(ws.drop 0).map .word, i, d, out⟩ = some r) := zh hr
 clear H hC hws hl hr
 go_enter Tryz.func36, Tryz.ntmps36
 go_wp2
 go_loopw [8] (fun v8 wr => ∃ j : Nat, j ≤ ws.length ∧ v8 = .int .i64 j ∧ Hid (∃ i' d' out' ve', SAt W0 A c l wr p i' d' out' ve' ∧ MStep p ve w ve' wr ∧ srun l n ⟨(ws.drop j).map .word, i', d', out'⟩ = some r)) (fun v8 _ => ws.length - (intOf v8).toNat)
 case atStart => exact ⟨0, Nat.zero_le _, rfl, zh ⟨_, _, _, _, HH.out, PStep.refl _ _ _ _, HI0.out⟩⟩
 case round =>
  obtain ⟨j, hj, rfl, H⟩ := hrel
  obtain ⟨i1, d1, out1, ve1, hA, hS, hrun⟩ := H.out
  clear HI0 H
  by_cases hlt : j < ws.length
  ·obtain ⟨k1, k2, k3, k4⟩ := wrap_one hlt HL.out
   obtain ⟨s, hs⟩ : ∃ s, ws[j]? = some s := ⟨_, List.getElem?_eq_getElem hlt⟩
   have hcell := (HC.out.later HH.out hS).cell hs
   have hgw := HWS.out s (List.mem_of_getElem? hs)
   have hdr : ws.drop j = s :: ws.drop (j + 1) := by
    rw [List.drop_eq_getElem_cons hlt]
    have := (List.getElem?_eq_some_iff.1 hs).2
    rw [this]
   rw [hdr, List.map_cons] at hrun
   have HIS := zh (is_new hA [s] 1 [.string s] rfl rfl (by decide) (by simp [hgw]))
   obtain ⟨m, hm⟩ : ∃ m, inL (cAt l i1) [s] = m := ⟨_, rfl⟩
   have hwi := word_in (l := l) (i := i1) hgw
   rw [hm] at HIS hwi
   have HA := zh hA
   have HS := zh hS
   rcases srun_app l n [.word s] ((ws.drop (j + 1)).map .word) i1 d1 out1 r hrun with ⟨er, k, rfl, h1⟩ | ⟨i2, d2, out2, h1, h2⟩
   ·have HTK := zh (fun (w1 : World) (hb : Below wr.heap.size wr w1) => take_word (hA.moved hb) s [] hwi h1)
    clear hA hS hrun hs hgw hdr hwi h1 hm
    go_wp2_with (first
     | (go_at_call 47; (with_reducible refine cM HIS.out ?_); rintro e w1 ⟨rfl, hb⟩; have HB1 := zh hb; clear hb)
     | (go_at_call 46; (with_reducible refine cM (HTK.out _ HB1.out) ?_); rintro e w2 ⟨rfl, ve2, h3⟩; have HS2 := zh ((HS.out.trans (PStep.below HB1.out : MStep p ve1 wr ve1 w1)).trans h3); clear h3))
    exact ⟨rfl, rfl, ve2, HS2.out⟩
   ·have HTK := zh (fun (w1 : World) (hb : Below wr.heap.size wr w1) => take_word (hA.moved hb) s [] hwi h1)
    have HR2 := zh h2
    clear hA hS hrun hs hgw hdr hwi h1 h2 hm
    go_wp2_with (first
     | (go_at_call 47; (with_reducible refine cM HIS.out ?_); rintro e w1 ⟨rfl, hb⟩; have HB1 := zh hb; clear hb)
     | (go_at_call 46; (with_reducible refine cM (HTK.out _ HB1.out) ?_); rintro e w2 ⟨rfl, ve2, h2, h3⟩; have HP2 := zh h2; have HS2 := zh ((HS.out.trans (PStep.below HB1.out : MStep p ve1 wr ve1 w1)).trans h3); clear h2 h3))
    go_roundw
    case rel => exact ⟨j + 1, by omega, by go_num, zh ⟨_, _, _, _, HP2.out, HS2.out, HR2.out⟩⟩
    case measure => simp [intOf] <;> omega
  ·obtain rfl : j = ws.length := by omega
   rw [List.drop_length, List.map_nil] at hrun
   obtain ⟨_, rfl⟩ := srun_fin hrun (q := .ok i1 d1 out1) rfl
   have g9 : ¬ ((ws.length : Int) < (ws.length : Int)) := by omega
   have HA := zh hA
   have HS := zh hS
   clear hA hS hrun
   go_wp2
   go_end0
   exact ⟨rfl, ve1, HA.out, HS.out⟩
theorem d_wrap {d : Int} (h1 : -1099511627777 ≤ d) (h2 : d ≤ 1099511627776) : IntKind.i64.wrap (d + 1) = d + 1 ∧ IntKind.i64.wrap (d - 1) = d - 1 ∧ wrap64 (d + 1) = d + 1 ∧ wrap64 (d - 1) = d - 1 := by
 simp only [IntKind.wrap_i64]
 unfold wrap64
 omega
theorem node_at {W0 : World} {A : Option Addr} {c : Nat} {l : List Tk} {w : World} {p : Nat} {i : Nat} {d : Int} {out : List Ev} {ve : Value} (H : SAt W0 A c l w p i d out ve) (k : Nat) (v : Value) (F : FuncId) (x : Value) (hv : v = .func (.func F) #[x] #[] ∨ v = .func (.func F) #[] #[x]) (hen : ∀ w, (callFunc F #[x]).run Tryz.prog w = .ok (.enter F #[x]) w) {T : List WT} {n : Nat} (hb : ∀ (w1 : World) (ve1 : Value) (r' : SRes), MStep p ve w ve1 w1 → SAt W0 A c l w1 p i (d + 1) (out ++ [evOf (1, k)]) ve1 → srun l n ⟨T, i, d + 1, out ++ [evOf (1, k)]⟩ = some r' → Calls Tryz.prog F #[x] w1 (SPost W0 A c l p ve1 w1 r')) {r : SRes} (hr : srun l n ⟨T ++ [.fin k], i, d + 1, out ++ [evOf (1, k)]⟩ = some r) :
  Calls Tryz.prog 33 #[.pointer (some ⟨p, 0, none⟩), .int .u8 k, v] w (SPost W0 A c l p ve w r) := by
 obtain ⟨f1, f2, f3⟩ := srun_len hr
 dsimp only at f1 f2 f3
 rw [List.length_append, List.length_singleton] at f1
 have HLO := zh f1
 obtain ⟨e1, -, e3, -⟩ := d_wrap (d := d) (by omega) (by omega)
 have HSR := zh (PStep.refl p (.slice none 0 0) ve w)
 have HBO := zh hb
 have HEQ := zh hen
 have HH := zh H
 obtain ⟨q0, q1, q2, q3⟩ := H.cell
 clear f1 f2 f3 hb hen H
 rcases srun_app l n T [.fin k] i (d + 1) (out ++ [evOf (1, k)]) r hr with ⟨er, j, rfl, h1⟩ | ⟨i2, d2, out2, h1, h2⟩
 ·have HR1 := zh h1
  clear hr h1
  rcases hv with rfl | rfl
  ·go_enter Tryz.func33, Tryz.ntmps33
   go_wp2_with (first
    | ((with_reducible refine gate_dst (N := 14) rfl ?_); refine wl_ev rfl (.tmp 10) (.tmp 13) rfl p (u := ve) (q := out.length) (kc := (out).flatMap evCells) (cs := [.int .u8 1, .int .u8 k, .int .u8 0, .string ⟨#[]⟩, .int .i64 0, .int .i64 0, .int .i64 0, .int .i64 0]) rfl rfl HH.out.row rfl (evCells_one (evOf (1, k))) (Nat.le_of_lt (blk_lt HH.out.box)) (by have := HLO.out; omega) ?_; intro G1 C1 w1 ho hg hat; obtain ⟨⟨cur, hcur, hfit⟩, hnx⟩ := HH.out.next (e := evOf (1, k)) ho hg hat; have HCU := zh (And.intro hcur hfit); have HNX := zh hnx; clear ho hg hat hcur hfit hnx)
    | ((with_reducible refine gate_ (.store 41 (.tmp 16) (.tmp 14)) rfl ?_); refine wl_cells rfl rfl _ _ _ rfl (g := p) (off := 3) (.slice (some ⟨G1, 0, none⟩) (out.length + 1) C1) [.slice (some ⟨G1, 0, none⟩) (out.length + 1) C1] rfl rfl rfl (by kernel_rfl) (fun v hv => by rw [List.mem_singleton.1 hv]; rfl) HCU.out.1 HCU.out.2 ?_; intro V1 hV; obtain ⟨hA, hS⟩ := HNX.out V1 hV; have HP1 := zh hA; have HS1 := zh (HSR.out.trans hS); clear q0 q1 q2 q3 hV HNX HCU; obtain ⟨q0, q1, q2, q3⟩ := hA.cell; clear hA hS)
    | ((with_reducible refine gate_ (.store 3 (.tmp 23) (.tmp 21)) rfl ?_); refine wl_cells rfl rfl _ _ _ rfl (g := p) (off := 2) (.int .i64 (d + 1)) [.int .i64 (d + 1)] rfl rfl rfl (by kernel_rfl) (fun v hv => by rw [List.mem_singleton.1 hv]; rfl) HP1.out.box (by simp) ?_; intro V2 hV; obtain ⟨hA, hS⟩ := HP1.out.upd 2 (.int .i64 (d + 1)) (by decide) (i' := i) (d' := d + 1) rfl HP1.out.ile; rw [← hV] at hA hS; have HP2 := zh hA; have HS2 := zh (HS1.out.trans hS); clear q0 q1 q2 q3 hV; obtain ⟨q0, q1, q2, q3⟩ := hA.cell; have HEN := HEQ.out V2; have HWI := zh (HBO.out V2 _ _ (HS1.out.trans hS) hA HR1.out); clear hA hS)
    | ((with_reducible refine cM HWI.out ?_); rintro e w3 ⟨rfl, ve3, h3⟩; have HS3 := zh (HS2.out.trans h3); clear h3))
   exact ⟨rfl, rfl, ve3, HS3.out⟩
  ·go_enter Tryz.func33, Tryz.ntmps33
   go_wp2_with (first
    | ((with_reducible refine gate_dst (N := 14) rfl ?_); refine wl_ev rfl (.tmp 10) (.tmp 13) rfl p (u := ve) (q := out.length) (kc := (out).flatMap evCells) (cs := [.int .u8 1, .int .u8 k, .int .u8 0, .string ⟨#[]⟩, .int .i64 0, .int .i64 0, .int .i64 0, .int .i64 0]) rfl rfl HH.out.row rfl (evCells_one (evOf (1, k))) (Nat.le_of_lt (blk_lt HH.out.box)) (by have := HLO.out; omega) ?_; intro G1 C1 w1 ho hg hat; obtain ⟨⟨cur, hcur, hfit⟩, hnx⟩ := HH.out.next (e := evOf (1, k)) ho hg hat; have HCU := zh (And.intro hcur hfit); have HNX := zh hnx; clear ho hg hat hcur hfit hnx)
    | ((with_reducible refine gate_ (.store 41 (.tmp 16) (.tmp 14)) rfl ?_); refine wl_cells rfl rfl _ _ _ rfl (g := p) (off := 3) (.slice (some ⟨G1, 0, none⟩) (out.length + 1) C1) [.slice (some ⟨G1, 0, none⟩) (out.length + 1) C1] rfl rfl rfl (by kernel_rfl) (fun v hv => by rw [List.mem_singleton.1 hv]; rfl) HCU.out.1 HCU.out.2 ?_; intro V1 hV; obtain ⟨hA, hS⟩ := HNX.out V1 hV; have HP1 := zh hA; have HS1 := zh (HSR.out.trans hS); clear q0 q1 q2 q3 hV HNX HCU; obtain ⟨q0, q1, q2, q3⟩ := hA.cell; clear hA hS)
    | ((with_reducible refine gate_ (.store 3 (.tmp 23) (.tmp 21)) rfl ?_); refine wl_cells rfl rfl _ _ _ rfl (g := p) (off := 2) (.int .i64 (d + 1)) [.int .i64 (d + 1)] rfl rfl rfl (by kernel_rfl) (fun v hv => by rw [List.mem_singleton.1 hv]; rfl) HP1.out.box (by simp) ?_; intro V2 hV; obtain ⟨hA, hS⟩ := HP1.out.upd 2 (.int .i64 (d + 1)) (by decide) (i' := i) (d' := d + 1) rfl HP1.out.ile; rw [← hV] at hA hS; have HP2 := zh hA; have HS2 := zh (HS1.out.trans hS); clear q0 q1 q2 q3 hV; obtain ⟨q0, q1, q2, q3⟩ := hA.cell; have HEN := HEQ.out V2; have HWI := zh (HBO.out V2 _ _ (HS1.out.trans hS) hA HR1.out); clear hA hS)
    | ((with_reducible refine cM HWI.out ?_); rintro e w3 ⟨rfl, ve3, h3⟩; have HS3 := zh (HS2.out.trans h3); clear h3))
   exact ⟨rfl, rfl, ve3, HS3.out⟩
 ·have HR1 := zh h1
  obtain ⟨⟨f1, f2, f3⟩, m, rfl, h3⟩ := srun_on h2 (s' := ⟨[], i2, d2 - 1, out2 ++ [evOf (3, k)]⟩) rfl
  obtain ⟨_, rfl⟩ := srun_fin h3 (q := .ok i2 (d2 - 1) (out2 ++ [evOf (3, k)])) rfl
  dsimp only at f1 f2 f3
  have HLO2 := zh f1
  obtain ⟨-, e5, -, e6⟩ := d_wrap (d := d2) (by omega) (by omega)
  clear hr h1 h2 h3 f1 f2 f3
  rcases hv with rfl | rfl
  ·go_enter Tryz.func33, Tryz.ntmps33
   go_wp2_with (first
    | ((with_reducible refine gate_dst (N := 14) rfl ?_); refine wl_ev rfl (.tmp 10) (.tmp 13) rfl p (u := ve) (q := out.length) (kc := (out).flatMap evCells) (cs := [.int .u8 1, .int .u8 k, .int .u8 0, .string ⟨#[]⟩, .int .i64 0, .int .i64 0, .int .i64 0, .int .i64 0]) rfl rfl HH.out.row rfl (evCells_one (evOf (1, k))) (Nat.le_of_lt (blk_lt HH.out.box)) (by have := HLO.out; omega) ?_; intro G1 C1 w1 ho hg hat; obtain ⟨⟨cur, hcur, hfit⟩, hnx⟩ := HH.out.next (e := evOf (1, k)) ho hg hat; have HCU := zh (And.intro hcur hfit); have HNX := zh hnx; clear ho hg hat hcur hfit hnx)
    | ((with_reducible refine gate_ (.store 41 (.tmp 16) (.tmp 14)) rfl ?_); refine wl_cells rfl rfl _ _ _ rfl (g := p) (off := 3) (.slice (some ⟨G1, 0, none⟩) (out.length + 1) C1) [.slice (some ⟨G1, 0, none⟩) (out.length + 1) C1] rfl rfl rfl (by kernel_rfl) (fun v hv => by rw [List.mem_singleton.1 hv]; rfl) HCU.out.1 HCU.out.2 ?_; intro V1 hV; obtain ⟨hA, hS⟩ := HNX.out V1 hV; have HP1 := zh hA; have HS1 := zh (HSR.out.trans hS); clear q0 q1 q2 q3 hV HNX HCU; obtain ⟨q0, q1, q2, q3⟩ := hA.cell; clear hA hS)
    | ((with_reducible refine gate_ (.store 3 (.tmp 23) (.tmp 21)) rfl ?_); refine wl_cells rfl rfl _ _ _ rfl (g := p) (off := 2) (.int .i64 (d + 1)) [.int .i64 (d + 1)] rfl rfl rfl (by kernel_rfl) (fun v hv => by rw [List.mem_singleton.1 hv]; rfl) HP1.out.box (by simp) ?_; intro V2 hV; obtain ⟨hA, hS⟩ := HP1.out.upd 2 (.int .i64 (d + 1)) (by decide) (i' := i) (d' := d + 1) rfl HP1.out.ile; rw [← hV] at hA hS; have HP2 := zh hA; have HS2 := zh (HS1.out.trans hS); clear q0 q1 q2 q3 hV; obtain ⟨q0, q1, q2, q3⟩ := hA.cell; have HEN := HEQ.out V2; have HWI := zh (HBO.out V2 _ _ (HS1.out.trans hS) hA HR1.out); clear hA hS)
    | ((with_reducible refine cM HWI.out ?_); rintro e w3 ⟨rfl, ve3, h2, h3⟩; have HP3 := zh h2; have HS3 := zh (HS2.out.trans h3); clear q0 q1 q2 q3 h3; obtain ⟨q0, q1, q2, q3⟩ := h2.cell; clear h2)
    | ((with_reducible refine gate_ (.store 3 (.tmp 32) (.tmp 30)) rfl ?_); refine wl_cells rfl rfl _ _ _ rfl (g := p) (off := 2) (.int .i64 (d2 - 1)) [.int .i64 (d2 - 1)] rfl rfl rfl (by kernel_rfl) (fun v hv => by rw [List.mem_singleton.1 hv]; rfl) HP3.out.box (by simp) ?_; intro V4 hV; obtain ⟨hA, hS⟩ := HP3.out.upd 2 (.int .i64 (d2 - 1)) (by decide) (i' := i2) (d' := d2 - 1) rfl HP3.out.ile; rw [← hV] at hA hS; have HP4 := zh hA; have HS4 := zh (HS3.out.trans hS); clear q0 q1 q2 q3 hV; obtain ⟨q0, q1, q2, q3⟩ := hA.cell; clear hA hS)
    | ((with_reducible refine gate_dst (N := 41) rfl ?_); refine wl_ev rfl (.tmp 37) (.tmp 40) rfl p (u := ve3) (q := out2.length) (kc := (out2).flatMap evCells) (cs := [.int .u8 3, .int .u8 k, .int .u8 0, .string ⟨#[]⟩, .int .i64 0, .int .i64 0, .int .i64 0, .int .i64 0]) rfl rfl HP4.out.row rfl (evCells_one (evOf (3, k))) (Nat.le_of_lt (blk_lt HP4.out.box)) (by have := HLO2.out; omega) ?_; intro G1 C1 w1 ho hg hat; obtain ⟨⟨cur, hcur, hfit⟩, hnx⟩ := HP4.out.next (e := evOf (3, k)) ho hg hat; have HCU := zh (And.intro hcur hfit); have HNX := zh hnx; clear ho hg hat hcur hfit hnx)
    | ((with_reducible refine gate_ (.store 41 (.tmp 43) (.tmp 41)) rfl ?_); refine wl_cells rfl rfl _ _ _ rfl (g := p) (off := 3) (.slice (some ⟨G1, 0, none⟩) (out2.length + 1) C1) [.slice (some ⟨G1, 0, none⟩) (out2.length + 1) C1] rfl rfl rfl (by kernel_rfl) (fun v hv => by rw [List.mem_singleton.1 hv]; rfl) HCU.out.1 HCU.out.2 ?_; intro V5 hV; obtain ⟨hA, hS⟩ := HNX.out V5 hV; have HP5 := zh hA; have HS5 := zh (HS4.out.trans hS); clear q0 q1 q2 q3 hV HNX HCU; obtain ⟨q0, q1, q2, q3⟩ := hA.cell; clear hA hS))
   go_end0
   exact ⟨rfl, _, HP5.out, HS5.out⟩
  ·go_enter Tryz.func33, Tryz.ntmps33
   go_wp2_with (first
    | ((with_reducible refine gate_dst (N := 14) rfl ?_); refine wl_ev rfl (.tmp 10) (.tmp 13) rfl p (u := ve) (q := out.length) (kc := (out).flatMap evCells) (cs := [.int .u8 1, .int .u8 k, .int .u8 0, .string ⟨#[]⟩, .int .i64 0, .int .i64 0, .int .i64 0, .int .i64 0]) rfl rfl HH.out.row rfl (evCells_one (evOf (1, k))) (Nat.le_of_lt (blk_lt HH.out.box)) (by have := HLO.out; omega) ?_; intro G1 C1 w1 ho hg hat; obtain ⟨⟨cur, hcur, hfit⟩, hnx⟩ := HH.out.next (e := evOf (1, k)) ho hg hat; have HCU := zh (And.intro hcur hfit); have HNX := zh hnx; clear ho hg hat hcur hfit hnx)
    | ((with_reducible refine gate_ (.store 41 (.tmp 16) (.tmp 14)) rfl ?_); refine wl_cells rfl rfl _ _ _ rfl (g := p) (off := 3) (.slice (some ⟨G1, 0, none⟩) (out.length + 1) C1) [.slice (some ⟨G1, 0, none⟩) (out.length + 1) C1] rfl rfl rfl (by kernel_rfl) (fun v hv => by rw [List.mem_singleton.1 hv]; rfl) HCU.out.1 HCU.out.2 ?_; intro V1 hV; obtain ⟨hA, hS⟩ := HNX.out V1 hV; have HP1 := zh hA; have HS1 := zh (HSR.out.trans hS); clear q0 q1 q2 q3 hV HNX HCU; obtain ⟨q0, q1, q2, q3⟩ := hA.cell; clear hA hS)
    | ((with_reducible refine gate_ (.store 3 (.tmp 23) (.tmp 21)) rfl ?_); refine wl_cells rfl rfl _ _ _ rfl (g := p) (off := 2) (.int .i64 (d + 1)) [.int .i64 (d + 1)] rfl rfl rfl (by kernel_rfl) (fun v hv => by rw [List.mem_singleton.1 hv]; rfl) HP1.out.box (by simp) ?_; intro V2 hV; obtain ⟨hA, hS⟩ := HP1.out.upd 2 (.int .i64 (d + 1)) (by decide) (i' := i) (d' := d + 1) rfl HP1.out.ile; rw [← hV] at hA hS; have HP2 := zh hA; have HS2 := zh (HS1.out.trans hS); clear q0 q1 q2 q3 hV; obtain ⟨q0, q1, q2, q3⟩ := hA.cell; have HEN := HEQ.out V2; have HWI := zh (HBO.out V2 _ _ (HS1.out.trans hS) hA HR1.out); clear hA hS)
    | ((with_reducible refine cM HWI.out ?_); rintro e w3 ⟨rfl, ve3, h2, h3⟩; have HP3 := zh h2; have HS3 := zh (HS2.out.trans h3); clear q0 q1 q2 q3 h3; obtain ⟨q0, q1, q2, q3⟩ := h2.cell; clear h2)
    | ((with_reducible refine gate_ (.store 3 (.tmp 32) (.tmp 30)) rfl ?_); refine wl_cells rfl rfl _ _ _ rfl (g := p) (off := 2) (.int .i64 (d2 - 1)) [.int .i64 (d2 - 1)] rfl rfl rfl (by kernel_rfl) (fun v hv => by rw [List.mem_singleton.1 hv]; rfl) HP3.out.box (by simp) ?_; intro V4 hV; obtain ⟨hA, hS⟩ := HP3.out.upd 2 (.int .i64 (d2 - 1)) (by decide) (i' := i2) (d' := d2 - 1) rfl HP3.out.ile; rw [← hV] at hA hS; have HP4 := zh hA; have HS4 := zh (HS3.out.trans hS); clear q0 q1 q2 q3 hV; obtain ⟨q0, q1, q2, q3⟩ := hA.cell; clear hA hS)
    | ((with_reducible refine gate_dst (N := 41) rfl ?_); refine wl_ev rfl (.tmp 37) (.tmp 40) rfl p (u := ve3) (q := out2.length) (kc := (out2).flatMap evCells) (cs := [.int .u8 3, .int .u8 k, .int .u8 0, .string ⟨#[]⟩, .int .i64 0, .int .i64 0, .int .i64 0, .int .i64 0]) rfl rfl HP4.out.row rfl (evCells_one (evOf (3, k))) (Nat.le_of_lt (blk_lt HP4.out.box)) (by have := HLO2.out; omega) ?_; intro G1 C1 w1 ho hg hat; obtain ⟨⟨cur, hcur, hfit⟩, hnx⟩ := HP4.out.next (e := evOf (3, k)) ho hg hat; have HCU := zh (And.intro hcur hfit); have HNX := zh hnx; clear ho hg hat hcur hfit hnx)
    | ((with_reducible refine gate_ (.store 41 (.tmp 43) (.tmp 41)) rfl ?_); refine wl_cells rfl rfl _ _ _ rfl (g := p) (off := 3) (.slice (some ⟨G1, 0, none⟩) (out2.length + 1) C1) [.slice (some ⟨G1, 0, none⟩) (out2.length + 1) C1] rfl rfl rfl (by kernel_rfl) (fun v hv => by rw [List.mem_singleton.1 hv]; rfl) HCU.out.1 HCU.out.2 ?_; intro V5 hV; obtain ⟨hA, hS⟩ := HNX.out V5 hV; have HP5 := zh hA; have HS5 := zh (HS4.out.trans hS); clear q0 q1 q2 q3 hV HNX HCU; obtain ⟨q0, q1, q2, q3⟩ := hA.cell; clear hA hS))
   go_end0
   exact ⟨rfl, _, HP5.out, HS5.out⟩
theorem node_any {W0 : World} {A : Option Addr} {c : Nat} {l : List Tk} {w : World} {p : Nat} {i : Nat} {d : Int} {out : List Ev} {ve : Value} (H : SAt W0 A c l w p i d out ve) (k : Nat) (v : Value) (F : FuncId) (x : Value) (hv : v = .func (.func F) #[x] #[] ∨ v = .func (.func F) #[] #[x]) (hen : ∀ w, (callFunc F #[x]).run Tryz.prog w = .ok (.enter F #[x]) w) {T : List WT} {N n : Nat} (hb : BodyOK W0 A c l p ve w N F #[x] T) (hn : n ≤ N) {r : SRes} (hr : srun l n ⟨T ++ [.fin k], i, d + 1, out ++ [evOf (1, k)]⟩ = some r) :
  Calls Tryz.prog 33 #[.pointer (some ⟨p, 0, none⟩), .int .u8 k, v] w (SPost W0 A c l p ve w r) :=
 node_at H k v F x hv hen (fun w1 ve1 r' h1 h2 h3 => hb n hn w1 i (d + 1) _ ve1 r' h1 h2 h3) hr
theorem take_in {l : List Tk} {i : Nat} {ws : List ByteArray} (hws : ∀ s ∈ ws, goodW s = true) (h : inL (cAt l i) ws = true) : (∃ t, l[i]? = some t ∧ codeOf t = cAt l i) ↔ true = true := by
 refine ⟨fun _ => rfl, fun _ => ?_⟩
 cases hg : l[i]? with
 | none =>
  rw [show cAt l i = ⟨#[]⟩ by unfold cAt; rw [hg], inL_end hws] at h
  cases h
 | some t => exact ⟨t, rfl, (cAt_some hg).symm⟩
theorem row_any {W0 : World} {A : Option Addr} {c : Nat} {l : List Tk} {w : World} {p : Nat} {i : Nat} {d : Int} {out : List Ev} {ve : Value} (H : SAt W0 A c l w p i d out ve) (v : Value) (F : FuncId) (x : Value) (hv : v = .func (.func F) #[x] #[] ∨ v = .func (.func F) #[] #[x]) (hen : ∀ w, (callFunc F #[x]).run Tryz.prog w = .ok (.enter F #[x]) w) (g c1 : Nat) (signs : List ByteArray) (hC : StrAt w g signs) (hws : ∀ s ∈ signs, goodW s = true) (hl : signs.length ≤ 16) {T : List WT} {R : RId} (hR : ∀ cc, R.expand cc = if inL cc signs then some [.push (.word cc :: T ++ [.rule R])] else some []) {N n : Nat} (hb : BodyOK W0 A c l p ve w N F #[x] T) (hn : n ≤ N) {r : SRes} (hr : srun l n ⟨T ++ [.rule R], i, d, out⟩ = some r) :
  Calls Tryz.prog 68 #[.pointer (some ⟨p, 0, none⟩), v, .slice (some ⟨g, 0, none⟩) signs.length c1] w (SPost W0 A c l p ve w r) := by
 have HSR := zh (PStep.refl p (.slice none 0 0) ve w)
 have HBO := zh hb
 have HEQ := zh hen
 have HNN := zh hn
 have HH := zh H
 have HC := zh hC
 have HWS := zh hws
 have HL := zh hl
 have HRX := zh hR
 have HEN := hen w
 rcases srun_app l n T [.rule R] i d out r hr with ⟨er, j, rfl, h1⟩ | ⟨i1, d1, out1, h1, h2⟩
 ·have HWI := zh (hb n hn w i d out ve _ (PStep.refl _ _ _ _) H h1)
  clear hr h1 hb hen hn H hC hws hl hR
  rcases hv with rfl | rfl
  ·skip
   go_enter Tryz.func68, Tryz.ntmps68
   go_wp2_with (first
    | ((with_reducible refine cM HWI.out ?_); rintro e w3 ⟨rfl, ve3, h3⟩; have HS3 := zh (HSR.out.trans h3); clear h3))
   exact ⟨rfl, rfl, ve3, HS3.out⟩
  ·skip
   go_enter Tryz.func68, Tryz.ntmps68
   go_wp2_with (first
    | ((with_reducible refine cM HWI.out ?_); rintro e w3 ⟨rfl, ve3, h3⟩; have HS3 := zh (HSR.out.trans h3); clear h3))
   exact ⟨rfl, rfl, ve3, HS3.out⟩
 ·have HWI := zh (hb n hn w i d out ve _ (PStep.refl _ _ _ _) H h1)
  have HR2 := zh h2
  clear hr h1 h2 hb hen hn H hC hws hl hR
  rcases hv with rfl | rfl
  ·skip
   go_enter Tryz.func68, Tryz.ntmps68
   go_wp2_with (first
    | ((with_reducible refine cM HWI.out ?_); rintro e w3 ⟨rfl, ve3, h2, h3⟩; have HP3 := zh h2; have HS3 := zh (HSR.out.trans h3); clear h2 h3))
   have HI0 : Hid (SAt W0 A c l w3 p i1 d1 out1 ve3 ∧ MStep p ve w ve3 w3 ∧ srun l n ⟨[.rule R], i1, d1, out1⟩ = some r) := zh ⟨HP3.out, HS3.out, HR2.out⟩
   clear HP3 HS3 HR2 HWI HEN
   go_loopg [10] n (fun kq v10 wr => Hid (∃ i' d' out' ve', SAt W0 A c l wr p i' d' out' ve' ∧ MStep p ve w ve' wr ∧ kq ≤ n ∧ srun l kq ⟨[.rule R], i', d', out'⟩ = some r))
   case atStart => exact zh ⟨_, _, _, _, HI0.out.1, HI0.out.2.1, Nat.le_refl _, HI0.out.2.2⟩
   case round =>
    obtain ⟨i', d', out', ve1, hA, hS, hkn, hrun⟩ := hrel.out
    clear HI0 hrel
    cases gk with
    | zero => exact absurd hrun (by simp [srun])
    | succ m =>
     have HIS := zh (is_any hA _ c1 signs ((HC.out.later HH.out hS).C HL.out) HWS.out HL.out)
     have HA := zh hA
     have HS := zh hS
     have HMN : Hid (m ≤ N) := zh (by have := HNN.out; omega)
     have HKN : Hid (m ≤ n) := zh (by omega)
     obtain ⟨cc, hcc⟩ : ∃ cc, cAt l i' = cc := ⟨_, rfl⟩
     by_cases hin : inL cc signs = true
     ·rw [hcc, hin] at HIS
      obtain ⟨_, m', hmm, h4⟩ := srun_on hrun (s' := ⟨[.word cc] ++ (T ++ [.rule R]), i', d', out'⟩) (by simp [sstep, hcc, HRX.out cc, hin, effs, Eff.act])
      obtain rfl : m = m' := by omega
      have htw := take_in (l := l) (i := i') (ws := signs) HWS.out (by rw [hcc]; exact hin)
      rw [hcc] at htw
      rcases srun_app l m [.word cc] (T ++ [.rule R]) i' d' out' r h4 with ⟨er, j, rfl, h5⟩ | ⟨i2, d2, out2, h5, h6⟩
      ·have HTK := zh (fun (w1 : World) (hb : Below wr.heap.size wr w1) => take_word (hA.moved hb) cc [] htw h5)
       clear hA hS hkn hrun hcc hin h4 h5 htw hmm
       go_wp2_with (first
        | (go_at_call 47; (with_reducible refine cM HIS.out ?_); rintro e w1 ⟨rfl, hb⟩; have HB1 := zh hb; clear hb)
        | (go_at_call 46; (with_reducible refine cM (HTK.out _ HB1.out) ?_); rintro e w2 ⟨rfl, ve2, h3⟩; have HS2 := zh ((HS.out.trans (PStep.below HB1.out : MStep p ve1 wr ve1 w1)).trans h3); clear h3))
       exact ⟨rfl, rfl, ve2, HS2.out⟩
      ·have HTK := zh (fun (w1 : World) (hb : Below wr.heap.size wr w1) => take_word (hA.moved hb) cc [] htw h5)
       rcases srun_app l m T [.rule R] i2 d2 out2 r h6 with ⟨er, j, rfl, h7⟩ | ⟨i3, d3, out3, h7, h8⟩
       ·have HRT := zh h7
        clear hA hS hkn hrun hcc hin h4 h5 h6 h7 htw hmm
        go_wp2_with (first
         | (go_at_call 47; (with_reducible refine cM HIS.out ?_); rintro e w1 ⟨rfl, hb⟩; have HB1 := zh hb; clear hb)
         | (go_at_call 46; (with_reducible refine cM (HTK.out _ HB1.out) ?_); rintro e w2 ⟨rfl, ve2, h2, h3⟩; have HS2 := zh ((HS.out.trans (PStep.below HB1.out : MStep p ve1 wr ve1 w1)).trans h3); have HP2 := zh h2; have HEN := HEQ.out w2; have HWI := zh (HBO.out m HMN.out w2 i2 d2 out2 ve2 _ HS2.out h2 HRT.out); clear h2 h3)
         | ((with_reducible refine cM HWI.out ?_); rintro e w4 ⟨rfl, ve4, h3⟩; have HS3 := zh (HS2.out.trans h3); clear h3))
        exact ⟨rfl, rfl, ve4, HS3.out⟩
       ·have HRT := zh h7
        have HR8 := zh h8
        clear hA hS hkn hrun hcc hin h4 h5 h6 h7 h8 htw hmm
        go_wp2_with (first
         | (go_at_call 47; (with_reducible refine cM HIS.out ?_); rintro e w1 ⟨rfl, hb⟩; have HB1 := zh hb; clear hb)
         | (go_at_call 46; (with_reducible refine cM (HTK.out _ HB1.out) ?_); rintro e w2 ⟨rfl, ve2, h2, h3⟩; have HS2 := zh ((HS.out.trans (PStep.below HB1.out : MStep p ve1 wr ve1 w1)).trans h3); have HP2 := zh h2; have HEN := HEQ.out w2; have HWI := zh (HBO.out m HMN.out w2 i2 d2 out2 ve2 _ HS2.out h2 HRT.out); clear h2 h3)
         | ((with_reducible refine cM HWI.out ?_); rintro e w4 ⟨rfl, ve4, h2, h3⟩; have HP3 := zh h2; have HS3 := zh (HS2.out.trans h3); clear h2 h3))
        go_roundg m
        case measure => omega
        case rel => exact zh ⟨_, _, _, _, HP3.out, HS3.out, HKN.out, HR8.out⟩
     ·have hin' : inL cc signs = false := by simpa using hin
      rw [hcc, hin'] at HIS
      obtain ⟨_, m', hmm, h4⟩ := srun_on hrun (s' := ⟨[], i', d', out'⟩) (by simp [sstep, hcc, HRX.out cc, hin', effs])
      obtain ⟨_, rfl⟩ := srun_fin h4 (q := .ok i' d' out') rfl
      clear hA hS hkn hrun hcc hin hin' h4 hmm
      go_wp2_with (first
       | (go_at_call 47; (with_reducible refine cM HIS.out ?_); rintro e w1 ⟨rfl, hb⟩; have HB1 := zh hb; clear hb))
      go_end0
      exact ⟨rfl, ve1, HA.out.moved HB1.out, HS.out.trans (PStep.below HB1.out)⟩
  ·skip
   go_enter Tryz.func68, Tryz.ntmps68
   go_wp2_with (first
    | ((with_reducible refine cM HWI.out ?_); rintro e w3 ⟨rfl, ve3, h2, h3⟩; have HP3 := zh h2; have HS3 := zh (HSR.out.trans h3); clear h2 h3))
   have HI0 : Hid (SAt W0 A c l w3 p i1 d1 out1 ve3 ∧ MStep p ve w ve3 w3 ∧ srun l n ⟨[.rule R], i1, d1, out1⟩ = some r) := zh ⟨HP3.out, HS3.out, HR2.out⟩
   clear HP3 HS3 HR2 HWI HEN
   go_loopg [10] n (fun kq v10 wr => Hid (∃ i' d' out' ve', SAt W0 A c l wr p i' d' out' ve' ∧ MStep p ve w ve' wr ∧ kq ≤ n ∧ srun l kq ⟨[.rule R], i', d', out'⟩ = some r))
   case atStart => exact zh ⟨_, _, _, _, HI0.out.1, HI0.out.2.1, Nat.le_refl _, HI0.out.2.2⟩
   case round =>
    obtain ⟨i', d', out', ve1, hA, hS, hkn, hrun⟩ := hrel.out
    clear HI0 hrel
    cases gk with
    | zero => exact absurd hrun (by simp [srun])
    | succ m =>
     have HIS := zh (is_any hA _ c1 signs ((HC.out.later HH.out hS).C HL.out) HWS.out HL.out)
     have HA := zh hA
     have HS := zh hS
     have HMN : Hid (m ≤ N) := zh (by have := HNN.out; omega)
     have HKN : Hid (m ≤ n) := zh (by omega)
     obtain ⟨cc, hcc⟩ : ∃ cc, cAt l i' = cc := ⟨_, rfl⟩
     by_cases hin : inL cc signs = true
     ·rw [hcc, hin] at HIS
      obtain ⟨_, m', hmm, h4⟩ := srun_on hrun (s' := ⟨[.word cc] ++ (T ++ [.rule R]), i', d', out'⟩) (by simp [sstep, hcc, HRX.out cc, hin, effs, Eff.act])
      obtain rfl : m = m' := by omega
      have htw := take_in (l := l) (i := i') (ws := signs) HWS.out (by rw [hcc]; exact hin)
      rw [hcc] at htw
      rcases srun_app l m [.word cc] (T ++ [.rule R]) i' d' out' r h4 with ⟨er, j, rfl, h5⟩ | ⟨i2, d2, out2, h5, h6⟩
      ·have HTK := zh (fun (w1 : World) (hb : Below wr.heap.size wr w1) => take_word (hA.moved hb) cc [] htw h5)
       clear hA hS hkn hrun hcc hin h4 h5 htw hmm
       go_wp2_with (first
        | (go_at_call 47; (with_reducible refine cM HIS.out ?_); rintro e w1 ⟨rfl, hb⟩; have HB1 := zh hb; clear hb)
        | (go_at_call 46; (with_reducible refine cM (HTK.out _ HB1.out) ?_); rintro e w2 ⟨rfl, ve2, h3⟩; have HS2 := zh ((HS.out.trans (PStep.below HB1.out : MStep p ve1 wr ve1 w1)).trans h3); clear h3))
       exact ⟨rfl, rfl, ve2, HS2.out⟩
      ·have HTK := zh (fun (w1 : World) (hb : Below wr.heap.size wr w1) => take_word (hA.moved hb) cc [] htw h5)
       rcases srun_app l m T [.rule R] i2 d2 out2 r h6 with ⟨er, j, rfl, h7⟩ | ⟨i3, d3, out3, h7, h8⟩
       ·have HRT := zh h7
        clear hA hS hkn hrun hcc hin h4 h5 h6 h7 htw hmm
        go_wp2_with (first
         | (go_at_call 47; (with_reducible refine cM HIS.out ?_); rintro e w1 ⟨rfl, hb⟩; have HB1 := zh hb; clear hb)
         | (go_at_call 46; (with_reducible refine cM (HTK.out _ HB1.out) ?_); rintro e w2 ⟨rfl, ve2, h2, h3⟩; have HS2 := zh ((HS.out.trans (PStep.below HB1.out : MStep p ve1 wr ve1 w1)).trans h3); have HP2 := zh h2; have HEN := HEQ.out w2; have HWI := zh (HBO.out m HMN.out w2 i2 d2 out2 ve2 _ HS2.out h2 HRT.out); clear h2 h3)
         | ((with_reducible refine cM HWI.out ?_); rintro e w4 ⟨rfl, ve4, h3⟩; have HS3 := zh (HS2.out.trans h3); clear h3))
        exact ⟨rfl, rfl, ve4, HS3.out⟩
       ·have HRT := zh h7
        have HR8 := zh h8
        clear hA hS hkn hrun hcc hin h4 h5 h6 h7 h8 htw hmm
        go_wp2_with (first
         | (go_at_call 47; (with_reducible refine cM HIS.out ?_); rintro e w1 ⟨rfl, hb⟩; have HB1 := zh hb; clear hb)
         | (go_at_call 46; (with_reducible refine cM (HTK.out _ HB1.out) ?_); rintro e w2 ⟨rfl, ve2, h2, h3⟩; have HS2 := zh ((HS.out.trans (PStep.below HB1.out : MStep p ve1 wr ve1 w1)).trans h3); have HP2 := zh h2; have HEN := HEQ.out w2; have HWI := zh (HBO.out m HMN.out w2 i2 d2 out2 ve2 _ HS2.out h2 HRT.out); clear h2 h3)
         | ((with_reducible refine cM HWI.out ?_); rintro e w4 ⟨rfl, ve4, h2, h3⟩; have HP3 := zh h2; have HS3 := zh (HS2.out.trans h3); clear h2 h3))
        go_roundg m
        case measure => omega
        case rel => exact zh ⟨_, _, _, _, HP3.out, HS3.out, HKN.out, HR8.out⟩
     ·have hin' : inL cc signs = false := by simpa using hin
      rw [hcc, hin'] at HIS
      obtain ⟨_, m', hmm, h4⟩ := srun_on hrun (s' := ⟨[], i', d', out'⟩) (by simp [sstep, hcc, HRX.out cc, hin', effs])
      obtain ⟨_, rfl⟩ := srun_fin h4 (q := .ok i' d' out') rfl
      clear hA hS hkn hrun hcc hin hin' h4 hmm
      go_wp2_with (first
       | (go_at_call 47; (with_reducible refine cM HIS.out ?_); rintro e w1 ⟨rfl, hb⟩; have HB1 := zh hb; clear hb))
      go_end0
      exact ⟨rfl, ve1, HA.out.moved HB1.out, HS.out.trans (PStep.below HB1.out)⟩
section
variable {W0 : World} {A : Option Addr} {c : Nat} {l : List Tk} {w W : World} {p : Nat} {i : Nat} {d : Int} {out : List Ev} {ve : Value}
theorem words_new (H : SAt W0 A c l W p i d out ve) (ws : List ByteArray) (n : Nat) (cs : List Value) (hn : ws.length = n) (hcs : ws.map Value.string = cs) (hl : n ≤ 16) (hws : ws.all goodW = true) {m : Nat} {r : SRes} (hr : srun l m ⟨ws.map .word, i, d, out⟩ = some r) :
  Calls Tryz.prog 36 #[.pointer (some ⟨p, 0, none⟩), .slice (some ⟨W.heap.size, 0, none⟩) n n] (W.alloc (.cells cs.toArray 9)) (SPost W0 A c l p ve W r) := by
 have hb : Below W.heap.size W (W.alloc (.cells cs.toArray 9)) := (Below.refl _ W).alloc (Nat.le_refl _) _
 subst hn; subst hcs
 refine (words_any (H.moved hb) W.heap.size _ ws (World.alloc_heap_new _ _) (List.all_eq_true.1 hws) hl hr).mono ?_
 intro e w' h
 exact h.pre (PStep.below hb)
theorem row_new (H : SAt W0 A c l W p i d out ve) (v : Value) (F : FuncId) (x : Value) (hv : v = .func (.func F) #[x] #[] ∨ v = .func (.func F) #[] #[x]) (hen : ∀ w, (callFunc F #[x]).run Tryz.prog w = .ok (.enter F #[x]) w) (signs : List ByteArray) (n : Nat) (cs : List Value) (hn : signs.length = n) (hcs : signs.map Value.string = cs) (hl : n ≤ 16) (hws : signs.all goodW = true) {T : List WT} {R : RId} (hR : ∀ cc, R.expand cc = if inL cc signs then some [.push (.word cc :: T ++ [.rule R])] else some []) {N m : Nat} (hb : BodyOK W0 A c l p ve W N F #[x] T) (hm : m ≤ N) {r : SRes} (hr : srun l m ⟨T ++ [.rule R], i, d, out⟩ = some r) :
  Calls Tryz.prog 68 #[.pointer (some ⟨p, 0, none⟩), v, .slice (some ⟨W.heap.size, 0, none⟩) n n] (W.alloc (.cells cs.toArray 9)) (SPost W0 A c l p ve W r) := by
 have hb0 : Below W.heap.size W (W.alloc (.cells cs.toArray 9)) := (Below.refl _ W).alloc (Nat.le_refl _) _
 subst hn; subst hcs
 refine (row_any (H.moved hb0) v F x hv hen W.heap.size _ signs (World.alloc_heap_new _ _) (List.all_eq_true.1 hws) hl hR (hb.later (PStep.below hb0)) hm hr).mono ?_
 intro e w' h
 exact h.pre (PStep.below hb0)
theorem node_new (H : SAt W0 A c l w p i d out ve) (k : Nat) (ki : Int) (hk : (k : Int) = ki) (v : Value) (F : FuncId) (x : Value) (hv : v = .func (.func F) #[x] #[] ∨ v = .func (.func F) #[] #[x]) (hen : ∀ w, (callFunc F #[x]).run Tryz.prog w = .ok (.enter F #[x]) w) {T : List WT} {N n : Nat} (hb : BodyOK W0 A c l p ve w N F #[x] T) (hn : n ≤ N) {r : SRes} (hr : srun l n ⟨T ++ [.fin k], i, d + 1, out ++ [evOf (1, k)]⟩ = some r) :
  Calls Tryz.prog 33 #[.pointer (some ⟨p, 0, none⟩), .int .u8 ki, v] w (SPost W0 A c l p ve w r) := by
 subst hk
 exact node_any H k v F x hv hen hb hn hr
end
theorem row_names (cc : ByteArray) : RId.expand .r_names cc = if inL cc [⟨#[44]⟩] then some [.push (.word cc :: [.word ⟨#[64, 110, 97, 109, 101]⟩] ++ [.rule .r_names])] else some [] := by
 simp only [RId.expand]
 by_cases h : cc = ⟨#[44]⟩
 ·rw [if_pos h, if_pos ((inL_iff _ _).2 (by simpa using h))]
  rfl
 ·rw [if_neg h, if_neg (by rw [inL_no (fun hm => h (by simpa using hm))]; decide)]
theorem row_moreParams (cc : ByteArray) : RId.expand .r_moreParams cc = if inL cc [⟨#[59]⟩] then some [.push (.word cc :: [.rule .r_param] ++ [.rule .r_moreParams])] else some [] := by
 simp only [RId.expand]
 by_cases h : cc = ⟨#[59]⟩
 ·rw [if_pos h, if_pos ((inL_iff _ _).2 (by simpa using h))]
  rfl
 ·rw [if_neg h, if_neg (by rw [inL_no (fun hm => h (by simpa using hm))]; decide)]
theorem row_members (cc : ByteArray) : RId.expand .r_members cc = if inL cc [⟨#[59]⟩] then some [.push (.word cc :: [.rule .r_member] ++ [.rule .r_members])] else some [] := by
 simp only [RId.expand]
 by_cases h : cc = ⟨#[59]⟩
 ·rw [if_pos h, if_pos ((inL_iff _ _).2 (by simpa using h))]
  rfl
 ·rw [if_neg h, if_neg (by rw [inL_no (fun hm => h (by simpa using hm))]; decide)]
theorem row_statements (cc : ByteArray) : RId.expand .r_statements cc = if inL cc [⟨#[59]⟩] then some [.push (.word cc :: [.rule .r_statement] ++ [.rule .r_statements])] else some [] := by
 simp only [RId.expand]
 by_cases h : cc = ⟨#[59]⟩
 ·rw [if_pos h, if_pos ((inL_iff _ _).2 (by simpa using h))]
  rfl
 ·rw [if_neg h, if_neg (by rw [inL_no (fun hm => h (by simpa using hm))]; decide)]
theorem row_rels (cc : ByteArray) : RId.expand .r_rels cc = if inL cc [⟨#[97, 110, 100]⟩, ⟨#[111, 114]⟩] then some [.push (.word cc :: [.rule .r_rel] ++ [.rule .r_rels])] else some [] := by
 simp only [RId.expand]
 by_cases h : cc = ⟨#[97, 110, 100]⟩ ∨ cc = ⟨#[111, 114]⟩
 ·rw [if_pos h, if_pos ((inL_iff _ _).2 (by simpa using h))]
  rfl
 ·rw [if_neg h, if_neg (by rw [inL_no (fun hm => h (by simpa using hm))]; decide)]
theorem row_terms (cc : ByteArray) : RId.expand .r_terms cc = if inL cc [⟨#[43]⟩, ⟨#[45]⟩] then some [.push (.word cc :: [.rule .r_term] ++ [.rule .r_terms])] else some [] := by
 simp only [RId.expand]
 by_cases h : cc = ⟨#[43]⟩ ∨ cc = ⟨#[45]⟩
 ·rw [if_pos h, if_pos ((inL_iff _ _).2 (by simpa using h))]
  rfl
 ·rw [if_neg h, if_neg (by rw [inL_no (fun hm => h (by simpa using hm))]; decide)]
theorem row_factors (cc : ByteArray) : RId.expand .r_factors cc = if inL cc [⟨#[42]⟩, ⟨#[47]⟩, ⟨#[37]⟩] then some [.push (.word cc :: [.rule .r_factor] ++ [.rule .r_factors])] else some [] := by
 simp only [RId.expand]
 by_cases h : cc = ⟨#[42]⟩ ∨ cc = ⟨#[47]⟩ ∨ cc = ⟨#[37]⟩
 ·rw [if_pos h, if_pos ((inL_iff _ _).2 (by simpa using h))]
  rfl
 ·rw [if_neg h, if_neg (by rw [inL_no (fun hm => h (by simpa using hm))]; decide)]
theorem row_exprs (cc : ByteArray) : RId.expand .r_exprs cc = if inL cc [⟨#[44]⟩] then some [.push (.word cc :: [.rule .r_expr] ++ [.rule .r_exprs])] else some [] := by
 simp only [RId.expand]
 by_cases h : cc = ⟨#[44]⟩
 ·rw [if_pos h, if_pos ((inL_iff _ _).2 (by simpa using h))]
  rfl
 ·rw [if_neg h, if_neg (by rw [inL_no (fun hm => h (by simpa using hm))]; decide)]
theorem g_expr_1 (l : List Tk) (N : Nat) (G_rel : Good l N 91 [.rule .r_rel]) : GoodC l N 90 [.rule .r_rel, .rule .r_rels] := by
 intro n hn W0 A c w0 p g i d out ve r H hg hr
 show Calls Tryz.prog 90 _ w0 _
 have HP0 := zh H
 have HG0 := zh hg
 have HNN := zh hn
 have HS0 := zh (PStep.refl p (.slice none 0 0) ve w0)
 have HT0 := HS0
 have bx := cR 0 hg
 have hr0 : srun l n ⟨[.rule .r_rel, .rule .r_rels], i, d, out⟩ = some r := hr
 have HR0 := zh hr0
 clear H hg hn hr hr0
 go_enter Tryz.func90, Tryz.ntmps90
 have h1 := HR0.out
 cases r with
 | ok i1 d1 out1 =>
  have HX1 := zh h1
  have HC1 := zh (row_new HP0.out (.func (.func 91) #[.pointer (some ⟨p, 0, none⟩)] #[]) 91 (.pointer (some ⟨p, 0, none⟩)) (.inl rfl) (fun w => enters_ Tryz.func91 (by kernel_rfl) rfl #[(.pointer (some ⟨p, 0, none⟩))] w) [⟨#[97, 110, 100]⟩, ⟨#[111, 114]⟩] 2 [.string ⟨#[97, 110, 100]⟩, .string ⟨#[111, 114]⟩] rfl rfl (by decide) (by decide) (T := [.rule .r_rel]) (R := .r_rels) (fun cc => row_rels cc) (G_rel.body) HNN.out HX1.out)
  clear h1
  go_wp2_with (go_at_call 68; (with_reducible refine cM HC1.out ?_); rintro e w1 ⟨rfl, ve1, h2, h3⟩; have HP1 := zh h2; have HS1 := zh (HS0.out.trans h3); have HG1 := zh (mkeep (HT0.out.trans h3) HP0.out HG0.out); have HT1 := zh (HT0.out.trans h3); clear bx; have bx := cR 0 HG1.out; clear h2 h3)
  go_end0
  exact ⟨rfl, ve1, HP1.out, HS1.out⟩
 | err er jj =>
  have HX1 := zh h1
  have HC1 := zh (row_new HP0.out (.func (.func 91) #[.pointer (some ⟨p, 0, none⟩)] #[]) 91 (.pointer (some ⟨p, 0, none⟩)) (.inl rfl) (fun w => enters_ Tryz.func91 (by kernel_rfl) rfl #[(.pointer (some ⟨p, 0, none⟩))] w) [⟨#[97, 110, 100]⟩, ⟨#[111, 114]⟩] 2 [.string ⟨#[97, 110, 100]⟩, .string ⟨#[111, 114]⟩] rfl rfl (by decide) (by decide) (T := [.rule .r_rel]) (R := .r_rels) (fun cc => row_rels cc) (G_rel.body) HNN.out HX1.out)
  clear h1
  go_wp2_with (go_at_call 68; (with_reducible refine cM HC1.out ?_); rintro e w1 ⟨rfl, ve1, h3⟩; have HS1 := zh (HS0.out.trans h3); clear h3)
  exact ⟨rfl, rfl, ve1, HS1.out⟩
theorem g_expr (l : List Tk) (N : Nat) (G_expr_1 : GoodC l N 90 [.rule .r_rel, .rule .r_rels]) : Good l (N + 1) 65 [.rule .r_expr] := by
 intro n0 hn W0 A c w p i d out ve r H hr
 show Calls Tryz.prog 65 _ w _
 obtain ⟨_, n, rfl, hr0⟩ := srun_on hr (s' := ⟨[.rule .r_rel, .rule .r_rels] ++ [.fin 21], i, d + 1, out ++ [evOf (1, 21)]⟩) rfl
 have HNN : Hid (n ≤ N) := zh (by omega)
 have HR0 := zh hr0
 clear hn hr hr0
 obtain ⟨w0, hw0⟩ : ∃ V, w.alloc (.cells #[.pointer (some ⟨p, 0, none⟩)] 54) = V := ⟨_, rfl⟩
 have hb0 : Below w.heap.size w w0 := by rw [← hw0]; exact (Below.refl _ w).alloc (Nat.le_refl _) _
 have hg : w0.heap[w.heap.size]? = some (.cells #[.pointer (some ⟨p, 0, none⟩)] 54 (0, 0)) := by rw [← hw0]; exact World.alloc_heap_new _ _
 have HWB := zh hw0
 have HP0 := zh (H.moved hb0)
 have HS0 := zh (PStep.below hb0 : MStep p ve w ve w0)
 have HT0 := zh (PStep.refl p (.slice none 0 0) ve w0)
 obtain ⟨g, hge⟩ : ∃ g, w.heap.size = g := ⟨_, rfl⟩
 rw [hge] at hg
 have HGE := zh hge
 have HG0 := zh hg
 have bx := cR 0 hg
 clear hw0 hb0 hg hge H
 go_enter Tryz.func65, Tryz.ntmps65
 go_upto_region 1 with (fail)
 rw [HWB.out, HGE.out]
 have h1 := HR0.out
 cases r with
 | ok i1 d1 out1 =>
  have HX1 := zh h1
  have HC1 := zh (node_new HP0.out 21 21 rfl (.func (.func 90) #[] #[.pointer (some ⟨g, 0, none⟩)]) 90 (.pointer (some ⟨g, 0, none⟩)) (.inr rfl) (fun w => enters_ Tryz.func90 (by kernel_rfl) rfl #[(.pointer (some ⟨g, 0, none⟩))] w) (T := [.rule .r_rel, .rule .r_rels]) (G_expr_1.body HP0.out HG0.out) HNN.out HX1.out)
  clear h1
  go_wp2_with (go_at_call 33; (with_reducible refine cM HC1.out ?_); rintro e w1 ⟨rfl, ve1, h2, h3⟩; have HP1 := zh h2; have HS1 := zh (HS0.out.trans h3); have HG1 := zh (mkeep (HT0.out.trans h3) HP0.out HG0.out); have HT1 := zh (HT0.out.trans h3); clear bx; have bx := cR 0 HG1.out; clear h2 h3)
  go_end0
  exact ⟨rfl, ve1, HP1.out, HS1.out⟩
 | err er jj =>
  have HX1 := zh h1
  have HC1 := zh (node_new HP0.out 21 21 rfl (.func (.func 90) #[] #[.pointer (some ⟨g, 0, none⟩)]) 90 (.pointer (some ⟨g, 0, none⟩)) (.inr rfl) (fun w => enters_ Tryz.func90 (by kernel_rfl) rfl #[(.pointer (some ⟨g, 0, none⟩))] w) (T := [.rule .r_rel, .rule .r_rels]) (G_expr_1.body HP0.out HG0.out) HNN.out HX1.out)
  clear h1
  go_wp2_with (go_at_call 33; (with_reducible refine cM HC1.out ?_); rintro e w1 ⟨rfl, ve1, h3⟩; have HS1 := zh (HS0.out.trans h3); clear h3)
  exact ⟨rfl, rfl, ve1, HS1.out⟩
theorem g_statement_3 (l : List Tk) (N : Nat) (G_expr : Good l N 65 [.rule .r_expr]) (G_body : Good l N 51 [.rule .r_body]) : GoodC l N 98 [.word ⟨#[119, 104, 105, 108, 101]⟩, .rule .r_expr, .word ⟨#[100, 111]⟩, .rule .r_body, .word ⟨#[101, 110, 100]⟩] := by
 intro n hn W0 A c w0 p g i d out ve r H hg hr
 show Calls Tryz.prog 98 _ w0 _
 have HP0 := zh H
 have HG0 := zh hg
 have HNN := zh hn
 have HS0 := zh (PStep.refl p (.slice none 0 0) ve w0)
 have HT0 := HS0
 have bx := cR 0 hg
 have hr0 : srun l n ⟨([.word ⟨#[119, 104, 105, 108, 101]⟩] ++ ([.rule .r_expr] ++ ([.word ⟨#[100, 111]⟩] ++ ([.rule .r_body] ++ [.word ⟨#[101, 110, 100]⟩])))), i, d, out⟩ = some r := hr
 have HR0 := zh hr0
 clear H hg hn hr hr0
 go_enter Tryz.func98, Tryz.ntmps98
 rcases srun_app l n [.word ⟨#[119, 104, 105, 108, 101]⟩] ([.rule .r_expr] ++ ([.word ⟨#[100, 111]⟩] ++ ([.rule .r_body] ++ [.word ⟨#[101, 110, 100]⟩]))) i d out r HR0.out with ⟨er, jj, rfl, h1⟩ | ⟨i1, d1, out1, h1, hr1⟩
 ·skip
  have HX1 := zh h1
  have HC1 := zh (words_new HP0.out [⟨#[119, 104, 105, 108, 101]⟩] 1 [.string ⟨#[119, 104, 105, 108, 101]⟩] rfl rfl (by decide) (by decide) HX1.out)
  clear h1
  go_wp2_with (go_at_call 36; (with_reducible refine cM HC1.out ?_); rintro e w1 ⟨rfl, ve1, h3⟩; have HS1 := zh (HS0.out.trans h3); clear h3)
  exact ⟨rfl, rfl, ve1, HS1.out⟩
 have HR1 := zh hr1
 clear hr1
 have HX1 := zh h1
 have HC1 := zh (words_new HP0.out [⟨#[119, 104, 105, 108, 101]⟩] 1 [.string ⟨#[119, 104, 105, 108, 101]⟩] rfl rfl (by decide) (by decide) HX1.out)
 clear h1
 go_wp2_with (go_at_call 36; (with_reducible refine cM HC1.out ?_); rintro e w1 ⟨rfl, ve1, h2, h3⟩; have HP1 := zh h2; have HS1 := zh (HS0.out.trans h3); have HG1 := zh (mkeep (HT0.out.trans h3) HP0.out HG0.out); have HT1 := zh (HT0.out.trans h3); clear bx; have bx := cR 0 HG1.out; clear h2 h3)
 rcases srun_app l n [.rule .r_expr] ([.word ⟨#[100, 111]⟩] ++ ([.rule .r_body] ++ [.word ⟨#[101, 110, 100]⟩])) i1 d1 out1 r HR1.out with ⟨er, jj, rfl, h2⟩ | ⟨i2, d2, out2, h2, hr2⟩
 ·skip
  have HX2 := zh h2
  have HC2 := zh (G_expr n HNN.out W0 A c w1 p i1 d1 out1 ve1 _ HP1.out HX2.out)
  clear h2
  go_wp2_with (go_at_call 65; (with_reducible refine cM HC2.out ?_); rintro e w2 ⟨rfl, ve2, h3⟩; have HS2 := zh (HS1.out.trans h3); clear h3)
  exact ⟨rfl, rfl, ve2, HS2.out⟩
 have HR2 := zh hr2
 clear hr2
 have HX2 := zh h2
 have HC2 := zh (G_expr n HNN.out W0 A c w1 p i1 d1 out1 ve1 _ HP1.out HX2.out)
 clear h2
 go_wp2_with (go_at_call 65; (with_reducible refine cM HC2.out ?_); rintro e w2 ⟨rfl, ve2, h2, h3⟩; have HP2 := zh h2; have HS2 := zh (HS1.out.trans h3); have HG2 := zh (mkeep (HT1.out.trans h3) HP0.out HG0.out); have HT2 := zh (HT1.out.trans h3); clear bx; have bx := cR 0 HG2.out; clear h2 h3)
 rcases srun_app l n [.word ⟨#[100, 111]⟩] ([.rule .r_body] ++ [.word ⟨#[101, 110, 100]⟩]) i2 d2 out2 r HR2.out with ⟨er, jj, rfl, h3⟩ | ⟨i3, d3, out3, h3, hr3⟩
 ·skip
  have HX3 := zh h3
  have HC3 := zh (words_new HP2.out [⟨#[100, 111]⟩] 1 [.string ⟨#[100, 111]⟩] rfl rfl (by decide) (by decide) HX3.out)
  clear h3
  go_wp2_with (go_at_call 36; (with_reducible refine cM HC3.out ?_); rintro e w3 ⟨rfl, ve3, h3⟩; have HS3 := zh (HS2.out.trans h3); clear h3)
  exact ⟨rfl, rfl, ve3, HS3.out⟩
 have HR3 := zh hr3
 clear hr3
 have HX3 := zh h3
 have HC3 := zh (words_new HP2.out [⟨#[100, 111]⟩] 1 [.string ⟨#[100, 111]⟩] rfl rfl (by decide) (by decide) HX3.out)
 clear h3
 go_wp2_with (go_at_call 36; (with_reducible refine cM HC3.out ?_); rintro e w3 ⟨rfl, ve3, h2, h3⟩; have HP3 := zh h2; have HS3 := zh (HS2.out.trans h3); have HG3 := zh (mkeep (HT2.out.trans h3) HP0.out HG0.out); have HT3 := zh (HT2.out.trans h3); clear bx; have bx := cR 0 HG3.out; clear h2 h3)
 rcases srun_app l n [.rule .r_body] [.word ⟨#[101, 110, 100]⟩] i3 d3 out3 r HR3.out with ⟨er, jj, rfl, h4⟩ | ⟨i4, d4, out4, h4, hr4⟩
 ·skip
  have HX4 := zh h4
  have HC4 := zh (G_body n HNN.out W0 A c w3 p i3 d3 out3 ve3 _ HP3.out HX4.out)
  clear h4
  go_wp2_with (go_at_call 51; (with_reducible refine cM HC4.out ?_); rintro e w4 ⟨rfl, ve4, h3⟩; have HS4 := zh (HS3.out.trans h3); clear h3)
  exact ⟨rfl, rfl, ve4, HS4.out⟩
 have HR4 := zh hr4
 clear hr4
 have HX4 := zh h4
 have HC4 := zh (G_body n HNN.out W0 A c w3 p i3 d3 out3 ve3 _ HP3.out HX4.out)
 clear h4
 go_wp2_with (go_at_call 51; (with_reducible refine cM HC4.out ?_); rintro e w4 ⟨rfl, ve4, h2, h3⟩; have HP4 := zh h2; have HS4 := zh (HS3.out.trans h3); have HG4 := zh (mkeep (HT3.out.trans h3) HP0.out HG0.out); have HT4 := zh (HT3.out.trans h3); clear bx; have bx := cR 0 HG4.out; clear h2 h3)
 have h5 := HR4.out
 cases r with
 | ok i5 d5 out5 =>
  have HX5 := zh h5
  have HC5 := zh (words_new HP4.out [⟨#[101, 110, 100]⟩] 1 [.string ⟨#[101, 110, 100]⟩] rfl rfl (by decide) (by decide) HX5.out)
  clear h5
  go_wp2_with (go_at_call 36; (with_reducible refine cM HC5.out ?_); rintro e w5 ⟨rfl, ve5, h2, h3⟩; have HP5 := zh h2; have HS5 := zh (HS4.out.trans h3); have HG5 := zh (mkeep (HT4.out.trans h3) HP0.out HG0.out); have HT5 := zh (HT4.out.trans h3); clear bx; have bx := cR 0 HG5.out; clear h2 h3)
  go_end0
  exact ⟨rfl, ve5, HP5.out, HS5.out⟩
 | err er jj =>
  have HX5 := zh h5
  have HC5 := zh (words_new HP4.out [⟨#[101, 110, 100]⟩] 1 [.string ⟨#[101, 110, 100]⟩] rfl rfl (by decide) (by decide) HX5.out)
  clear h5
  go_wp2_with (go_at_call 36; (with_reducible refine cM HC5.out ?_); rintro e w5 ⟨rfl, ve5, h3⟩; have HS5 := zh (HS4.out.trans h3); clear h3)
  exact ⟨rfl, rfl, ve5, HS5.out⟩
theorem g_sum_1 (l : List Tk) (N : Nat) (G_term : Good l N 135 [.rule .r_term]) : GoodC l N 134 [.rule .r_term, .rule .r_terms] := by
 intro n hn W0 A c w0 p g i d out ve r H hg hr
 show Calls Tryz.prog 134 _ w0 _
 have HP0 := zh H
 have HG0 := zh hg
 have HNN := zh hn
 have HS0 := zh (PStep.refl p (.slice none 0 0) ve w0)
 have HT0 := HS0
 have bx := cR 0 hg
 have hr0 : srun l n ⟨[.rule .r_term, .rule .r_terms], i, d, out⟩ = some r := hr
 have HR0 := zh hr0
 clear H hg hn hr hr0
 go_enter Tryz.func134, Tryz.ntmps134
 have h1 := HR0.out
 cases r with
 | ok i1 d1 out1 =>
  have HX1 := zh h1
  have HC1 := zh (row_new HP0.out (.func (.func 135) #[.pointer (some ⟨p, 0, none⟩)] #[]) 135 (.pointer (some ⟨p, 0, none⟩)) (.inl rfl) (fun w => enters_ Tryz.func135 (by kernel_rfl) rfl #[(.pointer (some ⟨p, 0, none⟩))] w) [⟨#[43]⟩, ⟨#[45]⟩] 2 [.string ⟨#[43]⟩, .string ⟨#[45]⟩] rfl rfl (by decide) (by decide) (T := [.rule .r_term]) (R := .r_terms) (fun cc => row_terms cc) (G_term.body) HNN.out HX1.out)
  clear h1
  go_wp2_with (go_at_call 68; (with_reducible refine cM HC1.out ?_); rintro e w1 ⟨rfl, ve1, h2, h3⟩; have HP1 := zh h2; have HS1 := zh (HS0.out.trans h3); have HG1 := zh (mkeep (HT0.out.trans h3) HP0.out HG0.out); have HT1 := zh (HT0.out.trans h3); clear bx; have bx := cR 0 HG1.out; clear h2 h3)
  go_end0
  exact ⟨rfl, ve1, HP1.out, HS1.out⟩
 | err er jj =>
  have HX1 := zh h1
  have HC1 := zh (row_new HP0.out (.func (.func 135) #[.pointer (some ⟨p, 0, none⟩)] #[]) 135 (.pointer (some ⟨p, 0, none⟩)) (.inl rfl) (fun w => enters_ Tryz.func135 (by kernel_rfl) rfl #[(.pointer (some ⟨p, 0, none⟩))] w) [⟨#[43]⟩, ⟨#[45]⟩] 2 [.string ⟨#[43]⟩, .string ⟨#[45]⟩] rfl rfl (by decide) (by decide) (T := [.rule .r_term]) (R := .r_terms) (fun cc => row_terms cc) (G_term.body) HNN.out HX1.out)
  clear h1
  go_wp2_with (go_at_call 68; (with_reducible refine cM HC1.out ?_); rintro e w1 ⟨rfl, ve1, h3⟩; have HS1 := zh (HS0.out.trans h3); clear h3)
  exact ⟨rfl, rfl, ve1, HS1.out⟩
theorem g_sum (l : List Tk) (N : Nat) (G_sum_1 : GoodC l N 134 [.rule .r_term, .rule .r_terms]) : Good l (N + 1) 119 [.rule .r_sum] := by
 intro n0 hn W0 A c w p i d out ve r H hr
 show Calls Tryz.prog 119 _ w _
 obtain ⟨_, n, rfl, hr0⟩ := srun_on hr (s' := ⟨[.rule .r_term, .rule .r_terms] ++ [.fin 23], i, d + 1, out ++ [evOf (1, 23)]⟩) rfl
 have HNN : Hid (n ≤ N) := zh (by omega)
 have HR0 := zh hr0
 clear hn hr hr0
 obtain ⟨w0, hw0⟩ : ∃ V, w.alloc (.cells #[.pointer (some ⟨p, 0, none⟩)] 54) = V := ⟨_, rfl⟩
 have hb0 : Below w.heap.size w w0 := by rw [← hw0]; exact (Below.refl _ w).alloc (Nat.le_refl _) _
 have hg : w0.heap[w.heap.size]? = some (.cells #[.pointer (some ⟨p, 0, none⟩)] 54 (0, 0)) := by rw [← hw0]; exact World.alloc_heap_new _ _
 have HWB := zh hw0
 have HP0 := zh (H.moved hb0)
 have HS0 := zh (PStep.below hb0 : MStep p ve w ve w0)
 have HT0 := zh (PStep.refl p (.slice none 0 0) ve w0)
 obtain ⟨g, hge⟩ : ∃ g, w.heap.size = g := ⟨_, rfl⟩
 rw [hge] at hg
 have HGE := zh hge
 have HG0 := zh hg
 have bx := cR 0 hg
 clear hw0 hb0 hg hge H
 go_enter Tryz.func119, Tryz.ntmps119
 go_upto_region 1 with (fail)
 rw [HWB.out, HGE.out]
 have h1 := HR0.out
 cases r with
 | ok i1 d1 out1 =>
  have HX1 := zh h1
  have HC1 := zh (node_new HP0.out 23 23 rfl (.func (.func 134) #[] #[.pointer (some ⟨g, 0, none⟩)]) 134 (.pointer (some ⟨g, 0, none⟩)) (.inr rfl) (fun w => enters_ Tryz.func134 (by kernel_rfl) rfl #[(.pointer (some ⟨g, 0, none⟩))] w) (T := [.rule .r_term, .rule .r_terms]) (G_sum_1.body HP0.out HG0.out) HNN.out HX1.out)
  clear h1
  go_wp2_with (go_at_call 33; (with_reducible refine cM HC1.out ?_); rintro e w1 ⟨rfl, ve1, h2, h3⟩; have HP1 := zh h2; have HS1 := zh (HS0.out.trans h3); have HG1 := zh (mkeep (HT0.out.trans h3) HP0.out HG0.out); have HT1 := zh (HT0.out.trans h3); clear bx; have bx := cR 0 HG1.out; clear h2 h3)
  go_end0
  exact ⟨rfl, ve1, HP1.out, HS1.out⟩
 | err er jj =>
  have HX1 := zh h1
  have HC1 := zh (node_new HP0.out 23 23 rfl (.func (.func 134) #[] #[.pointer (some ⟨g, 0, none⟩)]) 134 (.pointer (some ⟨g, 0, none⟩)) (.inr rfl) (fun w => enters_ Tryz.func134 (by kernel_rfl) rfl #[(.pointer (some ⟨g, 0, none⟩))] w) (T := [.rule .r_term, .rule .r_terms]) (G_sum_1.body HP0.out HG0.out) HNN.out HX1.out)
  clear h1
  go_wp2_with (go_at_call 33; (with_reducible refine cM HC1.out ?_); rintro e w1 ⟨rfl, ve1, h3⟩; have HS1 := zh (HS0.out.trans h3); clear h3)
  exact ⟨rfl, rfl, ve1, HS1.out⟩
theorem g_term_1 (l : List Tk) (N : Nat) (G_factor : Good l N 145 [.rule .r_factor]) : GoodC l N 144 [.rule .r_factor, .rule .r_factors] := by
 intro n hn W0 A c w0 p g i d out ve r H hg hr
 show Calls Tryz.prog 144 _ w0 _
 have HP0 := zh H
 have HG0 := zh hg
 have HNN := zh hn
 have HS0 := zh (PStep.refl p (.slice none 0 0) ve w0)
 have HT0 := HS0
 have bx := cR 0 hg
 have hr0 : srun l n ⟨[.rule .r_factor, .rule .r_factors], i, d, out⟩ = some r := hr
 have HR0 := zh hr0
 clear H hg hn hr hr0
 go_enter Tryz.func144, Tryz.ntmps144
 have h1 := HR0.out
 cases r with
 | ok i1 d1 out1 =>
  have HX1 := zh h1
  have HC1 := zh (row_new HP0.out (.func (.func 145) #[.pointer (some ⟨p, 0, none⟩)] #[]) 145 (.pointer (some ⟨p, 0, none⟩)) (.inl rfl) (fun w => enters_ Tryz.func145 (by kernel_rfl) rfl #[(.pointer (some ⟨p, 0, none⟩))] w) [⟨#[42]⟩, ⟨#[47]⟩, ⟨#[37]⟩] 3 [.string ⟨#[42]⟩, .string ⟨#[47]⟩, .string ⟨#[37]⟩] rfl rfl (by decide) (by decide) (T := [.rule .r_factor]) (R := .r_factors) (fun cc => row_factors cc) (G_factor.body) HNN.out HX1.out)
  clear h1
  go_wp2_with (go_at_call 68; (with_reducible refine cM HC1.out ?_); rintro e w1 ⟨rfl, ve1, h2, h3⟩; have HP1 := zh h2; have HS1 := zh (HS0.out.trans h3); have HG1 := zh (mkeep (HT0.out.trans h3) HP0.out HG0.out); have HT1 := zh (HT0.out.trans h3); clear bx; have bx := cR 0 HG1.out; clear h2 h3)
  go_end0
  exact ⟨rfl, ve1, HP1.out, HS1.out⟩
 | err er jj =>
  have HX1 := zh h1
  have HC1 := zh (row_new HP0.out (.func (.func 145) #[.pointer (some ⟨p, 0, none⟩)] #[]) 145 (.pointer (some ⟨p, 0, none⟩)) (.inl rfl) (fun w => enters_ Tryz.func145 (by kernel_rfl) rfl #[(.pointer (some ⟨p, 0, none⟩))] w) [⟨#[42]⟩, ⟨#[47]⟩, ⟨#[37]⟩] 3 [.string ⟨#[42]⟩, .string ⟨#[47]⟩, .string ⟨#[37]⟩] rfl rfl (by decide) (by decide) (T := [.rule .r_factor]) (R := .r_factors) (fun cc => row_factors cc) (G_factor.body) HNN.out HX1.out)
  clear h1
  go_wp2_with (go_at_call 68; (with_reducible refine cM HC1.out ?_); rintro e w1 ⟨rfl, ve1, h3⟩; have HS1 := zh (HS0.out.trans h3); clear h3)
  exact ⟨rfl, rfl, ve1, HS1.out⟩
theorem g_term (l : List Tk) (N : Nat) (G_term_1 : GoodC l N 144 [.rule .r_factor, .rule .r_factors]) : Good l (N + 1) 135 [.rule .r_term] := by
 intro n0 hn W0 A c w p i d out ve r H hr
 show Calls Tryz.prog 135 _ w _
 obtain ⟨_, n, rfl, hr0⟩ := srun_on hr (s' := ⟨[.rule .r_factor, .rule .r_factors] ++ [.fin 24], i, d + 1, out ++ [evOf (1, 24)]⟩) rfl
 have HNN : Hid (n ≤ N) := zh (by omega)
 have HR0 := zh hr0
 clear hn hr hr0
 obtain ⟨w0, hw0⟩ : ∃ V, w.alloc (.cells #[.pointer (some ⟨p, 0, none⟩)] 54) = V := ⟨_, rfl⟩
 have hb0 : Below w.heap.size w w0 := by rw [← hw0]; exact (Below.refl _ w).alloc (Nat.le_refl _) _
 have hg : w0.heap[w.heap.size]? = some (.cells #[.pointer (some ⟨p, 0, none⟩)] 54 (0, 0)) := by rw [← hw0]; exact World.alloc_heap_new _ _
 have HWB := zh hw0
 have HP0 := zh (H.moved hb0)
 have HS0 := zh (PStep.below hb0 : MStep p ve w ve w0)
 have HT0 := zh (PStep.refl p (.slice none 0 0) ve w0)
 obtain ⟨g, hge⟩ : ∃ g, w.heap.size = g := ⟨_, rfl⟩
 rw [hge] at hg
 have HGE := zh hge
 have HG0 := zh hg
 have bx := cR 0 hg
 clear hw0 hb0 hg hge H
 go_enter Tryz.func135, Tryz.ntmps135
 go_upto_region 1 with (fail)
 rw [HWB.out, HGE.out]
 have h1 := HR0.out
 cases r with
 | ok i1 d1 out1 =>
  have HX1 := zh h1
  have HC1 := zh (node_new HP0.out 24 24 rfl (.func (.func 144) #[] #[.pointer (some ⟨g, 0, none⟩)]) 144 (.pointer (some ⟨g, 0, none⟩)) (.inr rfl) (fun w => enters_ Tryz.func144 (by kernel_rfl) rfl #[(.pointer (some ⟨g, 0, none⟩))] w) (T := [.rule .r_factor, .rule .r_factors]) (G_term_1.body HP0.out HG0.out) HNN.out HX1.out)
  clear h1
  go_wp2_with (go_at_call 33; (with_reducible refine cM HC1.out ?_); rintro e w1 ⟨rfl, ve1, h2, h3⟩; have HP1 := zh h2; have HS1 := zh (HS0.out.trans h3); have HG1 := zh (mkeep (HT0.out.trans h3) HP0.out HG0.out); have HT1 := zh (HT0.out.trans h3); clear bx; have bx := cR 0 HG1.out; clear h2 h3)
  go_end0
  exact ⟨rfl, ve1, HP1.out, HS1.out⟩
 | err er jj =>
  have HX1 := zh h1
  have HC1 := zh (node_new HP0.out 24 24 rfl (.func (.func 144) #[] #[.pointer (some ⟨g, 0, none⟩)]) 144 (.pointer (some ⟨g, 0, none⟩)) (.inr rfl) (fun w => enters_ Tryz.func144 (by kernel_rfl) rfl #[(.pointer (some ⟨g, 0, none⟩))] w) (T := [.rule .r_factor, .rule .r_factors]) (G_term_1.body HP0.out HG0.out) HNN.out HX1.out)
  clear h1
  go_wp2_with (go_at_call 33; (with_reducible refine cM HC1.out ?_); rintro e w1 ⟨rfl, ve1, h3⟩; have HS1 := zh (HS0.out.trans h3); clear h3)
  exact ⟨rfl, rfl, ve1, HS1.out⟩
theorem g_body_1 (l : List Tk) (N : Nat) (G_statement : Good l N 69 [.rule .r_statement]) : GoodC l N 67 [.rule .r_statement, .rule .r_statements] := by
 intro n hn W0 A c w0 p g i d out ve r H hg hr
 show Calls Tryz.prog 67 _ w0 _
 have HP0 := zh H
 have HG0 := zh hg
 have HNN := zh hn
 have HS0 := zh (PStep.refl p (.slice none 0 0) ve w0)
 have HT0 := HS0
 have bx := cR 0 hg
 have hr0 : srun l n ⟨[.rule .r_statement, .rule .r_statements], i, d, out⟩ = some r := hr
 have HR0 := zh hr0
 clear H hg hn hr hr0
 go_enter Tryz.func67, Tryz.ntmps67
 have h1 := HR0.out
 cases r with
 | ok i1 d1 out1 =>
  have HX1 := zh h1
  have HC1 := zh (row_new HP0.out (.func (.func 69) #[.pointer (some ⟨p, 0, none⟩)] #[]) 69 (.pointer (some ⟨p, 0, none⟩)) (.inl rfl) (fun w => enters_ Tryz.func69 (by kernel_rfl) rfl #[(.pointer (some ⟨p, 0, none⟩))] w) [⟨#[59]⟩] 1 [.string ⟨#[59]⟩] rfl rfl (by decide) (by decide) (T := [.rule .r_statement]) (R := .r_statements) (fun cc => row_statements cc) (G_statement.body) HNN.out HX1.out)
  clear h1
  go_wp2_with (go_at_call 68; (with_reducible refine cM HC1.out ?_); rintro e w1 ⟨rfl, ve1, h2, h3⟩; have HP1 := zh h2; have HS1 := zh (HS0.out.trans h3); have HG1 := zh (mkeep (HT0.out.trans h3) HP0.out HG0.out); have HT1 := zh (HT0.out.trans h3); clear bx; have bx := cR 0 HG1.out; clear h2 h3)
  go_end0
  exact ⟨rfl, ve1, HP1.out, HS1.out⟩
 | err er jj =>
  have HX1 := zh h1
  have HC1 := zh (row_new HP0.out (.func (.func 69) #[.pointer (some ⟨p, 0, none⟩)] #[]) 69 (.pointer (some ⟨p, 0, none⟩)) (.inl rfl) (fun w => enters_ Tryz.func69 (by kernel_rfl) rfl #[(.pointer (some ⟨p, 0, none⟩))] w) [⟨#[59]⟩] 1 [.string ⟨#[59]⟩] rfl rfl (by decide) (by decide) (T := [.rule .r_statement]) (R := .r_statements) (fun cc => row_statements cc) (G_statement.body) HNN.out HX1.out)
  clear h1
  go_wp2_with (go_at_call 68; (with_reducible refine cM HC1.out ?_); rintro e w1 ⟨rfl, ve1, h3⟩; have HS1 := zh (HS0.out.trans h3); clear h3)
  exact ⟨rfl, rfl, ve1, HS1.out⟩
theorem g_body (l : List Tk) (N : Nat) (G_body_1 : GoodC l N 67 [.rule .r_statement, .rule .r_statements]) : Good l (N + 1) 51 [.rule .r_body] := by
 intro n0 hn W0 A c w p i d out ve r H hr
 show Calls Tryz.prog 51 _ w _
 obtain ⟨_, n, rfl, hr0⟩ := srun_on hr (s' := ⟨[.rule .r_statement, .rule .r_statements] ++ [.fin 12], i, d + 1, out ++ [evOf (1, 12)]⟩) rfl
 have HNN : Hid (n ≤ N) := zh (by omega)
 have HR0 := zh hr0
 clear hn hr hr0
 obtain ⟨w0, hw0⟩ : ∃ V, w.alloc (.cells #[.pointer (some ⟨p, 0, none⟩)] 54) = V := ⟨_, rfl⟩
 have hb0 : Below w.heap.size w w0 := by rw [← hw0]; exact (Below.refl _ w).alloc (Nat.le_refl _) _
 have hg : w0.heap[w.heap.size]? = some (.cells #[.pointer (some ⟨p, 0, none⟩)] 54 (0, 0)) := by rw [← hw0]; exact World.alloc_heap_new _ _
 have HWB := zh hw0
 have HP0 := zh (H.moved hb0)
 have HS0 := zh (PStep.below hb0 : MStep p ve w ve w0)
 have HT0 := zh (PStep.refl p (.slice none 0 0) ve w0)
 obtain ⟨g, hge⟩ : ∃ g, w.heap.size = g := ⟨_, rfl⟩
 rw [hge] at hg
 have HGE := zh hge
 have HG0 := zh hg
 have bx := cR 0 hg
 clear hw0 hb0 hg hge H
 go_enter Tryz.func51, Tryz.ntmps51
 go_upto_region 1 with (fail)
 rw [HWB.out, HGE.out]
 have h1 := HR0.out
 cases r with
 | ok i1 d1 out1 =>
  have HX1 := zh h1
  have HC1 := zh (node_new HP0.out 12 12 rfl (.func (.func 67) #[] #[.pointer (some ⟨g, 0, none⟩)]) 67 (.pointer (some ⟨g, 0, none⟩)) (.inr rfl) (fun w => enters_ Tryz.func67 (by kernel_rfl) rfl #[(.pointer (some ⟨g, 0, none⟩))] w) (T := [.rule .r_statement, .rule .r_statements]) (G_body_1.body HP0.out HG0.out) HNN.out HX1.out)
  clear h1
  go_wp2_with (go_at_call 33; (with_reducible refine cM HC1.out ?_); rintro e w1 ⟨rfl, ve1, h2, h3⟩; have HP1 := zh h2; have HS1 := zh (HS0.out.trans h3); have HG1 := zh (mkeep (HT0.out.trans h3) HP0.out HG0.out); have HT1 := zh (HT0.out.trans h3); clear bx; have bx := cR 0 HG1.out; clear h2 h3)
  go_end0
  exact ⟨rfl, ve1, HP1.out, HS1.out⟩
 | err er jj =>
  have HX1 := zh h1
  have HC1 := zh (node_new HP0.out 12 12 rfl (.func (.func 67) #[] #[.pointer (some ⟨g, 0, none⟩)]) 67 (.pointer (some ⟨g, 0, none⟩)) (.inr rfl) (fun w => enters_ Tryz.func67 (by kernel_rfl) rfl #[(.pointer (some ⟨g, 0, none⟩))] w) (T := [.rule .r_statement, .rule .r_statements]) (G_body_1.body HP0.out HG0.out) HNN.out HX1.out)
  clear h1
  go_wp2_with (go_at_call 33; (with_reducible refine cM HC1.out ?_); rintro e w1 ⟨rfl, ve1, h3⟩; have HS1 := zh (HS0.out.trans h3); clear h3)
  exact ⟨rfl, rfl, ve1, HS1.out⟩
theorem g_rel (l : List Tk) (N : Nat) (G_rel_1 : GoodC l N 118 [.rule .r_sum, .rule .r_compared]) : Good l (N + 1) 91 [.rule .r_rel] := by
 intro n0 hn W0 A c w p i d out ve r H hr
 show Calls Tryz.prog 91 _ w _
 obtain ⟨_, n, rfl, hr0⟩ := srun_on hr (s' := ⟨[.rule .r_sum, .rule .r_compared] ++ [.fin 22], i, d + 1, out ++ [evOf (1, 22)]⟩) rfl
 have HNN : Hid (n ≤ N) := zh (by omega)
 have HR0 := zh hr0
 clear hn hr hr0
 obtain ⟨w0, hw0⟩ : ∃ V, w.alloc (.cells #[.pointer (some ⟨p, 0, none⟩)] 54) = V := ⟨_, rfl⟩
 have hb0 : Below w.heap.size w w0 := by rw [← hw0]; exact (Below.refl _ w).alloc (Nat.le_refl _) _
 have hg : w0.heap[w.heap.size]? = some (.cells #[.pointer (some ⟨p, 0, none⟩)] 54 (0, 0)) := by rw [← hw0]; exact World.alloc_heap_new _ _
 have HWB := zh hw0
 have HP0 := zh (H.moved hb0)
 have HS0 := zh (PStep.below hb0 : MStep p ve w ve w0)
 have HT0 := zh (PStep.refl p (.slice none 0 0) ve w0)
 obtain ⟨g, hge⟩ : ∃ g, w.heap.size = g := ⟨_, rfl⟩
 rw [hge] at hg
 have HGE := zh hge
 have HG0 := zh hg
 have bx := cR 0 hg
 clear hw0 hb0 hg hge H
 go_enter Tryz.func91, Tryz.ntmps91
 go_upto_region 1 with (fail)
 rw [HWB.out, HGE.out]
 have h1 := HR0.out
 cases r with
 | ok i1 d1 out1 =>
  have HX1 := zh h1
  have HC1 := zh (node_new HP0.out 22 22 rfl (.func (.func 118) #[] #[.pointer (some ⟨g, 0, none⟩)]) 118 (.pointer (some ⟨g, 0, none⟩)) (.inr rfl) (fun w => enters_ Tryz.func118 (by kernel_rfl) rfl #[(.pointer (some ⟨g, 0, none⟩))] w) (T := [.rule .r_sum, .rule .r_compared]) (G_rel_1.body HP0.out HG0.out) HNN.out HX1.out)
  clear h1
  go_wp2_with (go_at_call 33; (with_reducible refine cM HC1.out ?_); rintro e w1 ⟨rfl, ve1, h2, h3⟩; have HP1 := zh h2; have HS1 := zh (HS0.out.trans h3); have HG1 := zh (mkeep (HT0.out.trans h3) HP0.out HG0.out); have HT1 := zh (HT0.out.trans h3); clear bx; have bx := cR 0 HG1.out; clear h2 h3)
  go_end0
  exact ⟨rfl, ve1, HP1.out, HS1.out⟩
 | err er jj =>
  have HX1 := zh h1
  have HC1 := zh (node_new HP0.out 22 22 rfl (.func (.func 118) #[] #[.pointer (some ⟨g, 0, none⟩)]) 118 (.pointer (some ⟨g, 0, none⟩)) (.inr rfl) (fun w => enters_ Tryz.func118 (by kernel_rfl) rfl #[(.pointer (some ⟨g, 0, none⟩))] w) (T := [.rule .r_sum, .rule .r_compared]) (G_rel_1.body HP0.out HG0.out) HNN.out HX1.out)
  clear h1
  go_wp2_with (go_at_call 33; (with_reducible refine cM HC1.out ?_); rintro e w1 ⟨rfl, ve1, h3⟩; have HS1 := zh (HS0.out.trans h3); clear h3)
  exact ⟨rfl, rfl, ve1, HS1.out⟩
theorem g_object (l : List Tk) (N : Nat) (G_object_1 : GoodC l N 120 [.word ⟨#[64, 110, 97, 109, 101]⟩, .rule .r_selected]) : Good l (N + 1) 96 [.rule .r_object] := by
 intro n0 hn W0 A c w p i d out ve r H hr
 show Calls Tryz.prog 96 _ w _
 obtain ⟨_, n, rfl, hr0⟩ := srun_on hr (s' := ⟨[.word ⟨#[64, 110, 97, 109, 101]⟩, .rule .r_selected] ++ [.fin 28], i, d + 1, out ++ [evOf (1, 28)]⟩) rfl
 have HNN : Hid (n ≤ N) := zh (by omega)
 have HR0 := zh hr0
 clear hn hr hr0
 obtain ⟨w0, hw0⟩ : ∃ V, w.alloc (.cells #[.pointer (some ⟨p, 0, none⟩)] 54) = V := ⟨_, rfl⟩
 have hb0 : Below w.heap.size w w0 := by rw [← hw0]; exact (Below.refl _ w).alloc (Nat.le_refl _) _
 have hg : w0.heap[w.heap.size]? = some (.cells #[.pointer (some ⟨p, 0, none⟩)] 54 (0, 0)) := by rw [← hw0]; exact World.alloc_heap_new _ _
 have HWB := zh hw0
 have HP0 := zh (H.moved hb0)
 have HS0 := zh (PStep.below hb0 : MStep p ve w ve w0)
 have HT0 := zh (PStep.refl p (.slice none 0 0) ve w0)
 obtain ⟨g, hge⟩ : ∃ g, w.heap.size = g := ⟨_, rfl⟩
 rw [hge] at hg
 have HGE := zh hge
 have HG0 := zh hg
 have bx := cR 0 hg
 clear hw0 hb0 hg hge H
 go_enter Tryz.func96, Tryz.ntmps96
 go_upto_region 1 with (fail)
 rw [HWB.out, HGE.out]
 have h1 := HR0.out
 cases r with
 | ok i1 d1 out1 =>
  have HX1 := zh h1
  have HC1 := zh (node_new HP0.out 28 28 rfl (.func (.func 120) #[] #[.pointer (some ⟨g, 0, none⟩)]) 120 (.pointer (some ⟨g, 0, none⟩)) (.inr rfl) (fun w => enters_ Tryz.func120 (by kernel_rfl) rfl #[(.pointer (some ⟨g, 0, none⟩))] w) (T := [.word ⟨#[64, 110, 97, 109, 101]⟩, .rule .r_selected]) (G_object_1.body HP0.out HG0.out) HNN.out HX1.out)
  clear h1
  go_wp2_with (go_at_call 33; (with_reducible refine cM HC1.out ?_); rintro e w1 ⟨rfl, ve1, h2, h3⟩; have HP1 := zh h2; have HS1 := zh (HS0.out.trans h3); have HG1 := zh (mkeep (HT0.out.trans h3) HP0.out HG0.out); have HT1 := zh (HT0.out.trans h3); clear bx; have bx := cR 0 HG1.out; clear h2 h3)
  go_end0
  exact ⟨rfl, ve1, HP1.out, HS1.out⟩
 | err er jj =>
  have HX1 := zh h1
  have HC1 := zh (node_new HP0.out 28 28 rfl (.func (.func 120) #[] #[.pointer (some ⟨g, 0, none⟩)]) 120 (.pointer (some ⟨g, 0, none⟩)) (.inr rfl) (fun w => enters_ Tryz.func120 (by kernel_rfl) rfl #[(.pointer (some ⟨g, 0, none⟩))] w) (T := [.word ⟨#[64, 110, 97, 109, 101]⟩, .rule .r_selected]) (G_object_1.body HP0.out HG0.out) HNN.out HX1.out)
  clear h1
  go_wp2_with (go_at_call 33; (with_reducible refine cM HC1.out ?_); rintro e w1 ⟨rfl, ve1, h3⟩; have HS1 := zh (HS0.out.trans h3); clear h3)
  exact ⟨rfl, rfl, ve1, HS1.out⟩
theorem g_block (l : List Tk) (N : Nat) (G_block_1 : GoodC l N 49 [.rule .r_declarations, .word ⟨#[98, 101, 103, 105, 110]⟩, .rule .r_body, .word ⟨#[101, 110, 100]⟩]) : Good l (N + 1) 38 [.rule .r_block] := by
 intro n0 hn W0 A c w p i d out ve r H hr
 show Calls Tryz.prog 38 _ w _
 obtain ⟨_, n, rfl, hr0⟩ := srun_on hr (s' := ⟨[.rule .r_declarations, .word ⟨#[98, 101, 103, 105, 110]⟩, .rule .r_body, .word ⟨#[101, 110, 100]⟩] ++ [.fin 2], i, d + 1, out ++ [evOf (1, 2)]⟩) rfl
 have HNN : Hid (n ≤ N) := zh (by omega)
 have HR0 := zh hr0
 clear hn hr hr0
 obtain ⟨w0, hw0⟩ : ∃ V, w.alloc (.cells #[.pointer (some ⟨p, 0, none⟩)] 54) = V := ⟨_, rfl⟩
 have hb0 : Below w.heap.size w w0 := by rw [← hw0]; exact (Below.refl _ w).alloc (Nat.le_refl _) _
 have hg : w0.heap[w.heap.size]? = some (.cells #[.pointer (some ⟨p, 0, none⟩)] 54 (0, 0)) := by rw [← hw0]; exact World.alloc_heap_new _ _
 have HWB := zh hw0
 have HP0 := zh (H.moved hb0)
 have HS0 := zh (PStep.below hb0 : MStep p ve w ve w0)
 have HT0 := zh (PStep.refl p (.slice none 0 0) ve w0)
 obtain ⟨g, hge⟩ : ∃ g, w.heap.size = g := ⟨_, rfl⟩
 rw [hge] at hg
 have HGE := zh hge
 have HG0 := zh hg
 have bx := cR 0 hg
 clear hw0 hb0 hg hge H
 go_enter Tryz.func38, Tryz.ntmps38
 go_upto_region 1 with (fail)
 rw [HWB.out, HGE.out]
 have h1 := HR0.out
 cases r with
 | ok i1 d1 out1 =>
  have HX1 := zh h1
  have HC1 := zh (node_new HP0.out 2 2 rfl (.func (.func 49) #[] #[.pointer (some ⟨g, 0, none⟩)]) 49 (.pointer (some ⟨g, 0, none⟩)) (.inr rfl) (fun w => enters_ Tryz.func49 (by kernel_rfl) rfl #[(.pointer (some ⟨g, 0, none⟩))] w) (T := [.rule .r_declarations, .word ⟨#[98, 101, 103, 105, 110]⟩, .rule .r_body, .word ⟨#[101, 110, 100]⟩]) (G_block_1.body HP0.out HG0.out) HNN.out HX1.out)
  clear h1
  go_wp2_with (go_at_call 33; (with_reducible refine cM HC1.out ?_); rintro e w1 ⟨rfl, ve1, h2, h3⟩; have HP1 := zh h2; have HS1 := zh (HS0.out.trans h3); have HG1 := zh (mkeep (HT0.out.trans h3) HP0.out HG0.out); have HT1 := zh (HT0.out.trans h3); clear bx; have bx := cR 0 HG1.out; clear h2 h3)
  go_end0
  exact ⟨rfl, ve1, HP1.out, HS1.out⟩
 | err er jj =>
  have HX1 := zh h1
  have HC1 := zh (node_new HP0.out 2 2 rfl (.func (.func 49) #[] #[.pointer (some ⟨g, 0, none⟩)]) 49 (.pointer (some ⟨g, 0, none⟩)) (.inr rfl) (fun w => enters_ Tryz.func49 (by kernel_rfl) rfl #[(.pointer (some ⟨g, 0, none⟩))] w) (T := [.rule .r_declarations, .word ⟨#[98, 101, 103, 105, 110]⟩, .rule .r_body, .word ⟨#[101, 110, 100]⟩]) (G_block_1.body HP0.out HG0.out) HNN.out HX1.out)
  clear h1
  go_wp2_with (go_at_call 33; (with_reducible refine cM HC1.out ?_); rintro e w1 ⟨rfl, ve1, h3⟩; have HS1 := zh (HS0.out.trans h3); clear h3)
  exact ⟨rfl, rfl, ve1, HS1.out⟩
theorem g_declaration_1 (l : List Tk) (N : Nat) (G_typed : Good l N 63 [.word ⟨#[64, 110, 97, 109, 101]⟩, .rule .r_names, .word ⟨#[58]⟩, .rule .r_kind]) : GoodC l N 62 [.word ⟨#[118, 97, 114]⟩, .word ⟨#[64, 110, 97, 109, 101]⟩, .rule .r_names, .word ⟨#[58]⟩, .rule .r_kind, .word ⟨#[59]⟩] := by
 intro n hn W0 A c w0 p g i d out ve r H hg hr
 show Calls Tryz.prog 62 _ w0 _
 have HP0 := zh H
 have HG0 := zh hg
 have HNN := zh hn
 have HS0 := zh (PStep.refl p (.slice none 0 0) ve w0)
 have HT0 := HS0
 have bx := cR 0 hg
 have hr0 : srun l n ⟨([.word ⟨#[118, 97, 114]⟩] ++ ([.word ⟨#[64, 110, 97, 109, 101]⟩, .rule .r_names, .word ⟨#[58]⟩, .rule .r_kind] ++ [.word ⟨#[59]⟩])), i, d, out⟩ = some r := hr
 have HR0 := zh hr0
 clear H hg hn hr hr0
 go_enter Tryz.func62, Tryz.ntmps62
 rcases srun_app l n [.word ⟨#[118, 97, 114]⟩] ([.word ⟨#[64, 110, 97, 109, 101]⟩, .rule .r_names, .word ⟨#[58]⟩, .rule .r_kind] ++ [.word ⟨#[59]⟩]) i d out r HR0.out with ⟨er, jj, rfl, h1⟩ | ⟨i1, d1, out1, h1, hr1⟩
 ·skip
  have HX1 := zh h1
  have HC1 := zh (words_new HP0.out [⟨#[118, 97, 114]⟩] 1 [.string ⟨#[118, 97, 114]⟩] rfl rfl (by decide) (by decide) HX1.out)
  clear h1
  go_wp2_with (go_at_call 36; (with_reducible refine cM HC1.out ?_); rintro e w1 ⟨rfl, ve1, h3⟩; have HS1 := zh (HS0.out.trans h3); clear h3)
  exact ⟨rfl, rfl, ve1, HS1.out⟩
 have HR1 := zh hr1
 clear hr1
 have HX1 := zh h1
 have HC1 := zh (words_new HP0.out [⟨#[118, 97, 114]⟩] 1 [.string ⟨#[118, 97, 114]⟩] rfl rfl (by decide) (by decide) HX1.out)
 clear h1
 go_wp2_with (go_at_call 36; (with_reducible refine cM HC1.out ?_); rintro e w1 ⟨rfl, ve1, h2, h3⟩; have HP1 := zh h2; have HS1 := zh (HS0.out.trans h3); have HG1 := zh (mkeep (HT0.out.trans h3) HP0.out HG0.out); have HT1 := zh (HT0.out.trans h3); clear bx; have bx := cR 0 HG1.out; clear h2 h3)
 rcases srun_app l n [.word ⟨#[64, 110, 97, 109, 101]⟩, .rule .r_names, .word ⟨#[58]⟩, .rule .r_kind] [.word ⟨#[59]⟩] i1 d1 out1 r HR1.out with ⟨er, jj, rfl, h2⟩ | ⟨i2, d2, out2, h2, hr2⟩
 ·skip
  have HX2 := zh h2
  have HC2 := zh (G_typed n HNN.out W0 A c w1 p i1 d1 out1 ve1 _ HP1.out HX2.out)
  clear h2
  go_wp2_with (go_at_call 63; (with_reducible refine cM HC2.out ?_); rintro e w2 ⟨rfl, ve2, h3⟩; have HS2 := zh (HS1.out.trans h3); clear h3)
  exact ⟨rfl, rfl, ve2, HS2.out⟩
 have HR2 := zh hr2
 clear hr2
 have HX2 := zh h2
 have HC2 := zh (G_typed n HNN.out W0 A c w1 p i1 d1 out1 ve1 _ HP1.out HX2.out)
 clear h2
 go_wp2_with (go_at_call 63; (with_reducible refine cM HC2.out ?_); rintro e w2 ⟨rfl, ve2, h2, h3⟩; have HP2 := zh h2; have HS2 := zh (HS1.out.trans h3); have HG2 := zh (mkeep (HT1.out.trans h3) HP0.out HG0.out); have HT2 := zh (HT1.out.trans h3); clear bx; have bx := cR 0 HG2.out; clear h2 h3)
 have h3 := HR2.out
 cases r with
 | ok i3 d3 out3 =>
  have HX3 := zh h3
  have HC3 := zh (words_new HP2.out [⟨#[59]⟩] 1 [.string ⟨#[59]⟩] rfl rfl (by decide) (by decide) HX3.out)
  clear h3
  go_wp2_with (go_at_call 36; (with_reducible refine cM HC3.out ?_); rintro e w3 ⟨rfl, ve3, h2, h3⟩; have HP3 := zh h2; have HS3 := zh (HS2.out.trans h3); have HG3 := zh (mkeep (HT2.out.trans h3) HP0.out HG0.out); have HT3 := zh (HT2.out.trans h3); clear bx; have bx := cR 0 HG3.out; clear h2 h3)
  go_end0
  exact ⟨rfl, ve3, HP3.out, HS3.out⟩
 | err er jj =>
  have HX3 := zh h3
  have HC3 := zh (words_new HP2.out [⟨#[59]⟩] 1 [.string ⟨#[59]⟩] rfl rfl (by decide) (by decide) HX3.out)
  clear h3
  go_wp2_with (go_at_call 36; (with_reducible refine cM HC3.out ?_); rintro e w3 ⟨rfl, ve3, h3⟩; have HS3 := zh (HS2.out.trans h3); clear h3)
  exact ⟨rfl, rfl, ve3, HS3.out⟩
theorem g_declaration_2 (l : List Tk) (N : Nat) (G_expr : Good l N 65 [.rule .r_expr]) : GoodC l N 64 [.word ⟨#[99, 111, 110, 115, 116]⟩, .word ⟨#[64, 110, 97, 109, 101]⟩, .word ⟨#[61]⟩, .rule .r_expr, .word ⟨#[59]⟩] := by
 intro n hn W0 A c w0 p g i d out ve r H hg hr
 show Calls Tryz.prog 64 _ w0 _
 have HP0 := zh H
 have HG0 := zh hg
 have HNN := zh hn
 have HS0 := zh (PStep.refl p (.slice none 0 0) ve w0)
 have HT0 := HS0
 have bx := cR 0 hg
 have hr0 : srun l n ⟨([.word ⟨#[99, 111, 110, 115, 116]⟩] ++ ([.word ⟨#[64, 110, 97, 109, 101]⟩] ++ ([.word ⟨#[61]⟩] ++ ([.rule .r_expr] ++ [.word ⟨#[59]⟩])))), i, d, out⟩ = some r := hr
 have HR0 := zh hr0
 clear H hg hn hr hr0
 go_enter Tryz.func64, Tryz.ntmps64
 rcases srun_app l n [.word ⟨#[99, 111, 110, 115, 116]⟩] ([.word ⟨#[64, 110, 97, 109, 101]⟩] ++ ([.word ⟨#[61]⟩] ++ ([.rule .r_expr] ++ [.word ⟨#[59]⟩]))) i d out r HR0.out with ⟨er, jj, rfl, h1⟩ | ⟨i1, d1, out1, h1, hr1⟩
 ·skip
  have HX1 := zh h1
  have HC1 := zh (words_new HP0.out [⟨#[99, 111, 110, 115, 116]⟩] 1 [.string ⟨#[99, 111, 110, 115, 116]⟩] rfl rfl (by decide) (by decide) HX1.out)
  clear h1
  go_wp2_with (go_at_call 36; (with_reducible refine cM HC1.out ?_); rintro e w1 ⟨rfl, ve1, h3⟩; have HS1 := zh (HS0.out.trans h3); clear h3)
  exact ⟨rfl, rfl, ve1, HS1.out⟩
 have HR1 := zh hr1
 clear hr1
 have HX1 := zh h1
 have HC1 := zh (words_new HP0.out [⟨#[99, 111, 110, 115, 116]⟩] 1 [.string ⟨#[99, 111, 110, 115, 116]⟩] rfl rfl (by decide) (by decide) HX1.out)
 clear h1
 go_wp2_with (go_at_call 36; (with_reducible refine cM HC1.out ?_); rintro e w1 ⟨rfl, ve1, h2, h3⟩; have HP1 := zh h2; have HS1 := zh (HS0.out.trans h3); have HG1 := zh (mkeep (HT0.out.trans h3) HP0.out HG0.out); have HT1 := zh (HT0.out.trans h3); clear bx; have bx := cR 0 HG1.out; clear h2 h3)
 rcases srun_app l n [.word ⟨#[64, 110, 97, 109, 101]⟩] ([.word ⟨#[61]⟩] ++ ([.rule .r_expr] ++ [.word ⟨#[59]⟩])) i1 d1 out1 r HR1.out with ⟨er, jj, rfl, h2⟩ | ⟨i2, d2, out2, h2, hr2⟩
 ·skip
  have HX2 := zh h2
  have HC2 := zh (name_any l N n HNN.out W0 A c w1 p i1 d1 out1 ve1 _ HP1.out HX2.out)
  clear h2
  go_wp2_with (go_at_call 37; (with_reducible refine cM HC2.out ?_); rintro e w2 ⟨rfl, ve2, h3⟩; have HS2 := zh (HS1.out.trans h3); clear h3)
  exact ⟨rfl, rfl, ve2, HS2.out⟩
 have HR2 := zh hr2
 clear hr2
 have HX2 := zh h2
 have HC2 := zh (name_any l N n HNN.out W0 A c w1 p i1 d1 out1 ve1 _ HP1.out HX2.out)
 clear h2
 go_wp2_with (go_at_call 37; (with_reducible refine cM HC2.out ?_); rintro e w2 ⟨rfl, ve2, h2, h3⟩; have HP2 := zh h2; have HS2 := zh (HS1.out.trans h3); have HG2 := zh (mkeep (HT1.out.trans h3) HP0.out HG0.out); have HT2 := zh (HT1.out.trans h3); clear bx; have bx := cR 0 HG2.out; clear h2 h3)
 rcases srun_app l n [.word ⟨#[61]⟩] ([.rule .r_expr] ++ [.word ⟨#[59]⟩]) i2 d2 out2 r HR2.out with ⟨er, jj, rfl, h3⟩ | ⟨i3, d3, out3, h3, hr3⟩
 ·skip
  have HX3 := zh h3
  have HC3 := zh (words_new HP2.out [⟨#[61]⟩] 1 [.string ⟨#[61]⟩] rfl rfl (by decide) (by decide) HX3.out)
  clear h3
  go_wp2_with (go_at_call 36; (with_reducible refine cM HC3.out ?_); rintro e w3 ⟨rfl, ve3, h3⟩; have HS3 := zh (HS2.out.trans h3); clear h3)
  exact ⟨rfl, rfl, ve3, HS3.out⟩
 have HR3 := zh hr3
 clear hr3
 have HX3 := zh h3
 have HC3 := zh (words_new HP2.out [⟨#[61]⟩] 1 [.string ⟨#[61]⟩] rfl rfl (by decide) (by decide) HX3.out)
 clear h3
 go_wp2_with (go_at_call 36; (with_reducible refine cM HC3.out ?_); rintro e w3 ⟨rfl, ve3, h2, h3⟩; have HP3 := zh h2; have HS3 := zh (HS2.out.trans h3); have HG3 := zh (mkeep (HT2.out.trans h3) HP0.out HG0.out); have HT3 := zh (HT2.out.trans h3); clear bx; have bx := cR 0 HG3.out; clear h2 h3)
 rcases srun_app l n [.rule .r_expr] [.word ⟨#[59]⟩] i3 d3 out3 r HR3.out with ⟨er, jj, rfl, h4⟩ | ⟨i4, d4, out4, h4, hr4⟩
 ·skip
  have HX4 := zh h4
  have HC4 := zh (G_expr n HNN.out W0 A c w3 p i3 d3 out3 ve3 _ HP3.out HX4.out)
  clear h4
  go_wp2_with (go_at_call 65; (with_reducible refine cM HC4.out ?_); rintro e w4 ⟨rfl, ve4, h3⟩; have HS4 := zh (HS3.out.trans h3); clear h3)
  exact ⟨rfl, rfl, ve4, HS4.out⟩
 have HR4 := zh hr4
 clear hr4
 have HX4 := zh h4
 have HC4 := zh (G_expr n HNN.out W0 A c w3 p i3 d3 out3 ve3 _ HP3.out HX4.out)
 clear h4
 go_wp2_with (go_at_call 65; (with_reducible refine cM HC4.out ?_); rintro e w4 ⟨rfl, ve4, h2, h3⟩; have HP4 := zh h2; have HS4 := zh (HS3.out.trans h3); have HG4 := zh (mkeep (HT3.out.trans h3) HP0.out HG0.out); have HT4 := zh (HT3.out.trans h3); clear bx; have bx := cR 0 HG4.out; clear h2 h3)
 have h5 := HR4.out
 cases r with
 | ok i5 d5 out5 =>
  have HX5 := zh h5
  have HC5 := zh (words_new HP4.out [⟨#[59]⟩] 1 [.string ⟨#[59]⟩] rfl rfl (by decide) (by decide) HX5.out)
  clear h5
  go_wp2_with (go_at_call 36; (with_reducible refine cM HC5.out ?_); rintro e w5 ⟨rfl, ve5, h2, h3⟩; have HP5 := zh h2; have HS5 := zh (HS4.out.trans h3); have HG5 := zh (mkeep (HT4.out.trans h3) HP0.out HG0.out); have HT5 := zh (HT4.out.trans h3); clear bx; have bx := cR 0 HG5.out; clear h2 h3)
  go_end0
  exact ⟨rfl, ve5, HP5.out, HS5.out⟩
 | err er jj =>
  have HX5 := zh h5
  have HC5 := zh (words_new HP4.out [⟨#[59]⟩] 1 [.string ⟨#[59]⟩] rfl rfl (by decide) (by decide) HX5.out)
  clear h5
  go_wp2_with (go_at_call 36; (with_reducible refine cM HC5.out ?_); rintro e w5 ⟨rfl, ve5, h3⟩; have HS5 := zh (HS4.out.trans h3); clear h3)
  exact ⟨rfl, rfl, ve5, HS5.out⟩
theorem g_proc_1 (l : List Tk) (N : Nat) (G_proc_1_1 : GoodC l N 93 [.rule .r_param]) : GoodC l N 92 [.word ⟨#[40]⟩, .rule .r_param, .rule .r_moreParams, .word ⟨#[41]⟩] := by
 intro n hn W0 A c w0 p g i d out ve r H hg hr
 show Calls Tryz.prog 92 _ w0 _
 have HP0 := zh H
 have HG0 := zh hg
 have HNN := zh hn
 have HS0 := zh (PStep.refl p (.slice none 0 0) ve w0)
 have HT0 := HS0
 have bx := cR 0 hg
 have hr0 : srun l n ⟨([.word ⟨#[40]⟩] ++ ([.rule .r_param, .rule .r_moreParams] ++ [.word ⟨#[41]⟩])), i, d, out⟩ = some r := hr
 have HR0 := zh hr0
 clear H hg hn hr hr0
 go_enter Tryz.func92, Tryz.ntmps92
 rcases srun_app l n [.word ⟨#[40]⟩] ([.rule .r_param, .rule .r_moreParams] ++ [.word ⟨#[41]⟩]) i d out r HR0.out with ⟨er, jj, rfl, h1⟩ | ⟨i1, d1, out1, h1, hr1⟩
 ·skip
  have HX1 := zh h1
  have HC1 := zh (words_new HP0.out [⟨#[40]⟩] 1 [.string ⟨#[40]⟩] rfl rfl (by decide) (by decide) HX1.out)
  clear h1
  go_wp2_with (go_at_call 36; (with_reducible refine cM HC1.out ?_); rintro e w1 ⟨rfl, ve1, h3⟩; have HS1 := zh (HS0.out.trans h3); clear h3)
  exact ⟨rfl, rfl, ve1, HS1.out⟩
 have HR1 := zh hr1
 clear hr1
 have HX1 := zh h1
 have HC1 := zh (words_new HP0.out [⟨#[40]⟩] 1 [.string ⟨#[40]⟩] rfl rfl (by decide) (by decide) HX1.out)
 clear h1
 go_wp2_with (go_at_call 36; (with_reducible refine cM HC1.out ?_); rintro e w1 ⟨rfl, ve1, h2, h3⟩; have HP1 := zh h2; have HS1 := zh (HS0.out.trans h3); have HG1 := zh (mkeep (HT0.out.trans h3) HP0.out HG0.out); have HT1 := zh (HT0.out.trans h3); clear bx; have bx := cR 0 HG1.out; clear h2 h3)
 rcases srun_app l n [.rule .r_param, .rule .r_moreParams] [.word ⟨#[41]⟩] i1 d1 out1 r HR1.out with ⟨er, jj, rfl, h2⟩ | ⟨i2, d2, out2, h2, hr2⟩
 ·skip
  have HX2 := zh h2
  have HC2 := zh (row_new HP1.out (.func (.func 93) #[] #[.pointer (some ⟨g, 0, none⟩)]) 93 (.pointer (some ⟨g, 0, none⟩)) (.inr rfl) (fun w => enters_ Tryz.func93 (by kernel_rfl) rfl #[(.pointer (some ⟨g, 0, none⟩))] w) [⟨#[59]⟩] 1 [.string ⟨#[59]⟩] rfl rfl (by decide) (by decide) (T := [.rule .r_param]) (R := .r_moreParams) (fun cc => row_moreParams cc) (G_proc_1_1.body HP1.out HG1.out) HNN.out HX2.out)
  clear h2
  go_wp2_with (go_at_call 68; (with_reducible refine cM HC2.out ?_); rintro e w2 ⟨rfl, ve2, h3⟩; have HS2 := zh (HS1.out.trans h3); clear h3)
  exact ⟨rfl, rfl, ve2, HS2.out⟩
 have HR2 := zh hr2
 clear hr2
 have HX2 := zh h2
 have HC2 := zh (row_new HP1.out (.func (.func 93) #[] #[.pointer (some ⟨g, 0, none⟩)]) 93 (.pointer (some ⟨g, 0, none⟩)) (.inr rfl) (fun w => enters_ Tryz.func93 (by kernel_rfl) rfl #[(.pointer (some ⟨g, 0, none⟩))] w) [⟨#[59]⟩] 1 [.string ⟨#[59]⟩] rfl rfl (by decide) (by decide) (T := [.rule .r_param]) (R := .r_moreParams) (fun cc => row_moreParams cc) (G_proc_1_1.body HP1.out HG1.out) HNN.out HX2.out)
 clear h2
 go_wp2_with (go_at_call 68; (with_reducible refine cM HC2.out ?_); rintro e w2 ⟨rfl, ve2, h2, h3⟩; have HP2 := zh h2; have HS2 := zh (HS1.out.trans h3); have HG2 := zh (mkeep (HT1.out.trans h3) HP0.out HG0.out); have HT2 := zh (HT1.out.trans h3); clear bx; have bx := cR 0 HG2.out; clear h2 h3)
 have h3 := HR2.out
 cases r with
 | ok i3 d3 out3 =>
  have HX3 := zh h3
  have HC3 := zh (words_new HP2.out [⟨#[41]⟩] 1 [.string ⟨#[41]⟩] rfl rfl (by decide) (by decide) HX3.out)
  clear h3
  go_wp2_with (go_at_call 36; (with_reducible refine cM HC3.out ?_); rintro e w3 ⟨rfl, ve3, h2, h3⟩; have HP3 := zh h2; have HS3 := zh (HS2.out.trans h3); have HG3 := zh (mkeep (HT2.out.trans h3) HP0.out HG0.out); have HT3 := zh (HT2.out.trans h3); clear bx; have bx := cR 0 HG3.out; clear h2 h3)
  go_end0
  exact ⟨rfl, ve3, HP3.out, HS3.out⟩
 | err er jj =>
  have HX3 := zh h3
  have HC3 := zh (words_new HP2.out [⟨#[41]⟩] 1 [.string ⟨#[41]⟩] rfl rfl (by decide) (by decide) HX3.out)
  clear h3
  go_wp2_with (go_at_call 36; (with_reducible refine cM HC3.out ?_); rintro e w3 ⟨rfl, ve3, h3⟩; have HS3 := zh (HS2.out.trans h3); clear h3)
  exact ⟨rfl, rfl, ve3, HS3.out⟩
theorem g_proc_1_1 (l : List Tk) (N : Nat) (G_typed : Good l N 63 [.word ⟨#[64, 110, 97, 109, 101]⟩, .rule .r_names, .word ⟨#[58]⟩, .rule .r_kind]) : GoodC l (N + 1) 93 [.rule .r_param] := by
 intro n0 hn W0 A c w0 p g i d out ve r H hg hr
 show Calls Tryz.prog 93 _ w0 _
 obtain ⟨_, n, rfl, hr0⟩ := srun_on hr (s' := ⟨[.word ⟨#[64, 110, 97, 109, 101]⟩, .rule .r_names, .word ⟨#[58]⟩, .rule .r_kind] ++ [.fin 7], i, d + 1, out ++ [evOf (1, 7)]⟩) rfl
 have HP0 := zh H
 have HG0 := zh hg
 have HNN : Hid (n ≤ N) := zh (by omega)
 have HS0 := zh (PStep.refl p (.slice none 0 0) ve w0)
 have HT0 := HS0
 have bx := cR 0 hg
 have HR0 := zh hr0
 clear H hg hn hr hr0
 go_enter Tryz.func93, Tryz.ntmps93
 have h1 := HR0.out
 cases r with
 | ok i1 d1 out1 =>
  have HX1 := zh h1
  have HC1 := zh (node_new HP0.out 7 7 rfl (.func (.func 63) #[.pointer (some ⟨p, 0, none⟩)] #[]) 63 (.pointer (some ⟨p, 0, none⟩)) (.inl rfl) (fun w => enters_ Tryz.func63 (by kernel_rfl) rfl #[(.pointer (some ⟨p, 0, none⟩))] w) (T := [.word ⟨#[64, 110, 97, 109, 101]⟩, .rule .r_names, .word ⟨#[58]⟩, .rule .r_kind]) (G_typed.body) HNN.out HX1.out)
  clear h1
  go_wp2_with (go_at_call 33; (with_reducible refine cM HC1.out ?_); rintro e w1 ⟨rfl, ve1, h2, h3⟩; have HP1 := zh h2; have HS1 := zh (HS0.out.trans h3); have HG1 := zh (mkeep (HT0.out.trans h3) HP0.out HG0.out); have HT1 := zh (HT0.out.trans h3); clear bx; have bx := cR 0 HG1.out; clear h2 h3)
  go_end0
  exact ⟨rfl, ve1, HP1.out, HS1.out⟩
 | err er jj =>
  have HX1 := zh h1
  have HC1 := zh (node_new HP0.out 7 7 rfl (.func (.func 63) #[.pointer (some ⟨p, 0, none⟩)] #[]) 63 (.pointer (some ⟨p, 0, none⟩)) (.inl rfl) (fun w => enters_ Tryz.func63 (by kernel_rfl) rfl #[(.pointer (some ⟨p, 0, none⟩))] w) (T := [.word ⟨#[64, 110, 97, 109, 101]⟩, .rule .r_names, .word ⟨#[58]⟩, .rule .r_kind]) (G_typed.body) HNN.out HX1.out)
  clear h1
  go_wp2_with (go_at_call 33; (with_reducible refine cM HC1.out ?_); rintro e w1 ⟨rfl, ve1, h3⟩; have HS1 := zh (HS0.out.trans h3); clear h3)
  exact ⟨rfl, rfl, ve1, HS1.out⟩
theorem g_kind_2_1 (l : List Tk) (N : Nat) (G_typed : Good l N 63 [.word ⟨#[64, 110, 97, 109, 101]⟩, .rule .r_names, .word ⟨#[58]⟩, .rule .r_kind]) : GoodC l (N + 1) 117 [.rule .r_member] := by
 intro n0 hn W0 A c w0 p g i d out ve r H hg hr
 show Calls Tryz.prog 117 _ w0 _
 obtain ⟨_, n, rfl, hr0⟩ := srun_on hr (s' := ⟨[.word ⟨#[64, 110, 97, 109, 101]⟩, .rule .r_names, .word ⟨#[58]⟩, .rule .r_kind] ++ [.fin 11], i, d + 1, out ++ [evOf (1, 11)]⟩) rfl
 have HP0 := zh H
 have HG0 := zh hg
 have HNN : Hid (n ≤ N) := zh (by omega)
 have HS0 := zh (PStep.refl p (.slice none 0 0) ve w0)
 have HT0 := HS0
 have bx := cR 0 hg
 have HR0 := zh hr0
 clear H hg hn hr hr0
 go_enter Tryz.func117, Tryz.ntmps117
 have h1 := HR0.out
 cases r with
 | ok i1 d1 out1 =>
  have HX1 := zh h1
  have HC1 := zh (node_new HP0.out 11 11 rfl (.func (.func 63) #[.pointer (some ⟨p, 0, none⟩)] #[]) 63 (.pointer (some ⟨p, 0, none⟩)) (.inl rfl) (fun w => enters_ Tryz.func63 (by kernel_rfl) rfl #[(.pointer (some ⟨p, 0, none⟩))] w) (T := [.word ⟨#[64, 110, 97, 109, 101]⟩, .rule .r_names, .word ⟨#[58]⟩, .rule .r_kind]) (G_typed.body) HNN.out HX1.out)
  clear h1
  go_wp2_with (go_at_call 33; (with_reducible refine cM HC1.out ?_); rintro e w1 ⟨rfl, ve1, h2, h3⟩; have HP1 := zh h2; have HS1 := zh (HS0.out.trans h3); have HG1 := zh (mkeep (HT0.out.trans h3) HP0.out HG0.out); have HT1 := zh (HT0.out.trans h3); clear bx; have bx := cR 0 HG1.out; clear h2 h3)
  go_end0
  exact ⟨rfl, ve1, HP1.out, HS1.out⟩
 | err er jj =>
  have HX1 := zh h1
  have HC1 := zh (node_new HP0.out 11 11 rfl (.func (.func 63) #[.pointer (some ⟨p, 0, none⟩)] #[]) 63 (.pointer (some ⟨p, 0, none⟩)) (.inl rfl) (fun w => enters_ Tryz.func63 (by kernel_rfl) rfl #[(.pointer (some ⟨p, 0, none⟩))] w) (T := [.word ⟨#[64, 110, 97, 109, 101]⟩, .rule .r_names, .word ⟨#[58]⟩, .rule .r_kind]) (G_typed.body) HNN.out HX1.out)
  clear h1
  go_wp2_with (go_at_call 33; (with_reducible refine cM HC1.out ?_); rintro e w1 ⟨rfl, ve1, h3⟩; have HS1 := zh (HS0.out.trans h3); clear h3)
  exact ⟨rfl, rfl, ve1, HS1.out⟩
theorem g_kind_2 (l : List Tk) (N : Nat) (G_kind_2_1 : GoodC l N 117 [.rule .r_member]) : GoodC l N 116 [.word ⟨#[114, 101, 99, 111, 114, 100]⟩, .rule .r_member, .rule .r_members, .word ⟨#[101, 110, 100]⟩] := by
 intro n hn W0 A c w0 p g i d out ve r H hg hr
 show Calls Tryz.prog 116 _ w0 _
 have HP0 := zh H
 have HG0 := zh hg
 have HNN := zh hn
 have HS0 := zh (PStep.refl p (.slice none 0 0) ve w0)
 have HT0 := HS0
 have bx := cR 0 hg
 have hr0 : srun l n ⟨([.word ⟨#[114, 101, 99, 111, 114, 100]⟩] ++ ([.rule .r_member, .rule .r_members] ++ [.word ⟨#[101, 110, 100]⟩])), i, d, out⟩ = some r := hr
 have HR0 := zh hr0
 clear H hg hn hr hr0
 go_enter Tryz.func116, Tryz.ntmps116
 rcases srun_app l n [.word ⟨#[114, 101, 99, 111, 114, 100]⟩] ([.rule .r_member, .rule .r_members] ++ [.word ⟨#[101, 110, 100]⟩]) i d out r HR0.out with ⟨er, jj, rfl, h1⟩ | ⟨i1, d1, out1, h1, hr1⟩
 ·skip
  have HX1 := zh h1
  have HC1 := zh (words_new HP0.out [⟨#[114, 101, 99, 111, 114, 100]⟩] 1 [.string ⟨#[114, 101, 99, 111, 114, 100]⟩] rfl rfl (by decide) (by decide) HX1.out)
  clear h1
  go_wp2_with (go_at_call 36; (with_reducible refine cM HC1.out ?_); rintro e w1 ⟨rfl, ve1, h3⟩; have HS1 := zh (HS0.out.trans h3); clear h3)
  exact ⟨rfl, rfl, ve1, HS1.out⟩
 have HR1 := zh hr1
 clear hr1
 have HX1 := zh h1
 have HC1 := zh (words_new HP0.out [⟨#[114, 101, 99, 111, 114, 100]⟩] 1 [.string ⟨#[114, 101, 99, 111, 114, 100]⟩] rfl rfl (by decide) (by decide) HX1.out)
 clear h1
 go_wp2_with (go_at_call 36; (with_reducible refine cM HC1.out ?_); rintro e w1 ⟨rfl, ve1, h2, h3⟩; have HP1 := zh h2; have HS1 := zh (HS0.out.trans h3); have HG1 := zh (mkeep (HT0.out.trans h3) HP0.out HG0.out); have HT1 := zh (HT0.out.trans h3); clear bx; have bx := cR 0 HG1.out; clear h2 h3)
 rcases srun_app l n [.rule .r_member, .rule .r_members] [.word ⟨#[101, 110, 100]⟩] i1 d1 out1 r HR1.out with ⟨er, jj, rfl, h2⟩ | ⟨i2, d2, out2, h2, hr2⟩
 ·skip
  have HX2 := zh h2
  have HC2 := zh (row_new HP1.out (.func (.func 117) #[] #[.pointer (some ⟨g, 0, none⟩)]) 117 (.pointer (some ⟨g, 0, none⟩)) (.inr rfl) (fun w => enters_ Tryz.func117 (by kernel_rfl) rfl #[(.pointer (some ⟨g, 0, none⟩))] w) [⟨#[59]⟩] 1 [.string ⟨#[59]⟩] rfl rfl (by decide) (by decide) (T := [.rule .r_member]) (R := .r_members) (fun cc => row_members cc) (G_kind_2_1.body HP1.out HG1.out) HNN.out HX2.out)
  clear h2
  go_wp2_with (go_at_call 68; (with_reducible refine cM HC2.out ?_); rintro e w2 ⟨rfl, ve2, h3⟩; have HS2 := zh (HS1.out.trans h3); clear h3)
  exact ⟨rfl, rfl, ve2, HS2.out⟩
 have HR2 := zh hr2
 clear hr2
 have HX2 := zh h2
 have HC2 := zh (row_new HP1.out (.func (.func 117) #[] #[.pointer (some ⟨g, 0, none⟩)]) 117 (.pointer (some ⟨g, 0, none⟩)) (.inr rfl) (fun w => enters_ Tryz.func117 (by kernel_rfl) rfl #[(.pointer (some ⟨g, 0, none⟩))] w) [⟨#[59]⟩] 1 [.string ⟨#[59]⟩] rfl rfl (by decide) (by decide) (T := [.rule .r_member]) (R := .r_members) (fun cc => row_members cc) (G_kind_2_1.body HP1.out HG1.out) HNN.out HX2.out)
 clear h2
 go_wp2_with (go_at_call 68; (with_reducible refine cM HC2.out ?_); rintro e w2 ⟨rfl, ve2, h2, h3⟩; have HP2 := zh h2; have HS2 := zh (HS1.out.trans h3); have HG2 := zh (mkeep (HT1.out.trans h3) HP0.out HG0.out); have HT2 := zh (HT1.out.trans h3); clear bx; have bx := cR 0 HG2.out; clear h2 h3)
 have h3 := HR2.out
 cases r with
 | ok i3 d3 out3 =>
  have HX3 := zh h3
  have HC3 := zh (words_new HP2.out [⟨#[101, 110, 100]⟩] 1 [.string ⟨#[101, 110, 100]⟩] rfl rfl (by decide) (by decide) HX3.out)
  clear h3
  go_wp2_with (go_at_call 36; (with_reducible refine cM HC3.out ?_); rintro e w3 ⟨rfl, ve3, h2, h3⟩; have HP3 := zh h2; have HS3 := zh (HS2.out.trans h3); have HG3 := zh (mkeep (HT2.out.trans h3) HP0.out HG0.out); have HT3 := zh (HT2.out.trans h3); clear bx; have bx := cR 0 HG3.out; clear h2 h3)
  go_end0
  exact ⟨rfl, ve3, HP3.out, HS3.out⟩
 | err er jj =>
  have HX3 := zh h3
  have HC3 := zh (words_new HP2.out [⟨#[101, 110, 100]⟩] 1 [.string ⟨#[101, 110, 100]⟩] rfl rfl (by decide) (by decide) HX3.out)
  clear h3
  go_wp2_with (go_at_call 36; (with_reducible refine cM HC3.out ?_); rintro e w3 ⟨rfl, ve3, h3⟩; have HS3 := zh (HS2.out.trans h3); clear h3)
  exact ⟨rfl, rfl, ve3, HS3.out⟩
theorem g_typed (l : List Tk) (N : Nat) (G_name : Good l N 37 [.word ⟨#[64, 110, 97, 109, 101]⟩]) (G_kind : Good l N 89 [.rule .r_kind]) : Good l N 63 [.word ⟨#[64, 110, 97, 109, 101]⟩, .rule .r_names, .word ⟨#[58]⟩, .rule .r_kind] := by
 intro n hn W0 A c w0 p i d out ve r H hr
 show Calls Tryz.prog 63 _ w0 _
 have HP0 := zh H
 have HNN := zh hn
 have HS0 := zh (PStep.refl p (.slice none 0 0) ve w0)
 have hr0 : srun l n ⟨([.word ⟨#[64, 110, 97, 109, 101]⟩, .rule .r_names] ++ ([.word ⟨#[58]⟩] ++ [.rule .r_kind])), i, d, out⟩ = some r := hr
 have HR0 := zh hr0
 clear H hn hr hr0
 go_enter Tryz.func63, Tryz.ntmps63
 rcases srun_app l n [.word ⟨#[64, 110, 97, 109, 101]⟩, .rule .r_names] ([.word ⟨#[58]⟩] ++ [.rule .r_kind]) i d out r HR0.out with ⟨er, jj, rfl, h1⟩ | ⟨i1, d1, out1, h1, hr1⟩
 ·skip
  have HX1 := zh h1
  have HC1 := zh (row_new HP0.out (.func (.func 37) #[.pointer (some ⟨p, 0, none⟩)] #[]) 37 (.pointer (some ⟨p, 0, none⟩)) (.inl rfl) (fun w => enters_ Tryz.func37 (by kernel_rfl) rfl #[(.pointer (some ⟨p, 0, none⟩))] w) [⟨#[44]⟩] 1 [.string ⟨#[44]⟩] rfl rfl (by decide) (by decide) (T := [.word ⟨#[64, 110, 97, 109, 101]⟩]) (R := .r_names) (fun cc => row_names cc) (G_name.body) HNN.out HX1.out)
  clear h1
  go_wp2_with (go_at_call 68; (with_reducible refine cM HC1.out ?_); rintro e w1 ⟨rfl, ve1, h3⟩; have HS1 := zh (HS0.out.trans h3); clear h3)
  exact ⟨rfl, rfl, ve1, HS1.out⟩
 have HR1 := zh hr1
 clear hr1
 have HX1 := zh h1
 have HC1 := zh (row_new HP0.out (.func (.func 37) #[.pointer (some ⟨p, 0, none⟩)] #[]) 37 (.pointer (some ⟨p, 0, none⟩)) (.inl rfl) (fun w => enters_ Tryz.func37 (by kernel_rfl) rfl #[(.pointer (some ⟨p, 0, none⟩))] w) [⟨#[44]⟩] 1 [.string ⟨#[44]⟩] rfl rfl (by decide) (by decide) (T := [.word ⟨#[64, 110, 97, 109, 101]⟩]) (R := .r_names) (fun cc => row_names cc) (G_name.body) HNN.out HX1.out)
 clear h1
 go_wp2_with (go_at_call 68; (with_reducible refine cM HC1.out ?_); rintro e w1 ⟨rfl, ve1, h2, h3⟩; have HP1 := zh h2; have HS1 := zh (HS0.out.trans h3); clear h2 h3)
 rcases srun_app l n [.word ⟨#[58]⟩] [.rule .r_kind] i1 d1 out1 r HR1.out with ⟨er, jj, rfl, h2⟩ | ⟨i2, d2, out2, h2, hr2⟩
 ·skip
  have HX2 := zh h2
  have HC2 := zh (words_new HP1.out [⟨#[58]⟩] 1 [.string ⟨#[58]⟩] rfl rfl (by decide) (by decide) HX2.out)
  clear h2
  go_wp2_with (go_at_call 36; (with_reducible refine cM HC2.out ?_); rintro e w2 ⟨rfl, ve2, h3⟩; have HS2 := zh (HS1.out.trans h3); clear h3)
  exact ⟨rfl, rfl, ve2, HS2.out⟩
 have HR2 := zh hr2
 clear hr2
 have HX2 := zh h2
 have HC2 := zh (words_new HP1.out [⟨#[58]⟩] 1 [.string ⟨#[58]⟩] rfl rfl (by decide) (by decide) HX2.out)
 clear h2
 go_wp2_with (go_at_call 36; (with_reducible refine cM HC2.out ?_); rintro e w2 ⟨rfl, ve2, h2, h3⟩; have HP2 := zh h2; have HS2 := zh (HS1.out.trans h3); clear h2 h3)
 have h3 := HR2.out
 cases r with
 | ok i3 d3 out3 =>
  have HX3 := zh h3
  have HC3 := zh (G_kind n HNN.out W0 A c w2 p i2 d2 out2 ve2 _ HP2.out HX3.out)
  clear h3
  go_wp2_with (go_at_call 89; (with_reducible refine cM HC3.out ?_); rintro e w3 ⟨rfl, ve3, h2, h3⟩; have HP3 := zh h2; have HS3 := zh (HS2.out.trans h3); clear h2 h3)
  go_end0
  exact ⟨rfl, ve3, HP3.out, HS3.out⟩
 | err er jj =>
  have HX3 := zh h3
  have HC3 := zh (G_kind n HNN.out W0 A c w2 p i2 d2 out2 ve2 _ HP2.out HX3.out)
  clear h3
  go_wp2_with (go_at_call 89; (with_reducible refine cM HC3.out ?_); rintro e w3 ⟨rfl, ve3, h3⟩; have HS3 := zh (HS2.out.trans h3); clear h3)
  exact ⟨rfl, rfl, ve3, HS3.out⟩
theorem g_kind_1 (l : List Tk) (N : Nat) (G_expr : Good l N 65 [.rule .r_expr]) (G_kind : Good l N 89 [.rule .r_kind]) : GoodC l N 115 [.word ⟨#[97, 114, 114, 97, 121]⟩, .word ⟨#[91]⟩, .rule .r_expr, .word ⟨#[46, 46]⟩, .rule .r_expr, .word ⟨#[93]⟩, .word ⟨#[111, 102]⟩, .rule .r_kind] := by
 intro n hn W0 A c w0 p g i d out ve r H hg hr
 show Calls Tryz.prog 115 _ w0 _
 have HP0 := zh H
 have HG0 := zh hg
 have HNN := zh hn
 have HS0 := zh (PStep.refl p (.slice none 0 0) ve w0)
 have HT0 := HS0
 have bx := cR 0 hg
 have hr0 : srun l n ⟨([.word ⟨#[97, 114, 114, 97, 121]⟩, .word ⟨#[91]⟩] ++ ([.rule .r_expr] ++ ([.word ⟨#[46, 46]⟩] ++ ([.rule .r_expr] ++ ([.word ⟨#[93]⟩, .word ⟨#[111, 102]⟩] ++ [.rule .r_kind]))))), i, d, out⟩ = some r := hr
 have HR0 := zh hr0
 clear H hg hn hr hr0
 go_enter Tryz.func115, Tryz.ntmps115
 rcases srun_app l n [.word ⟨#[97, 114, 114, 97, 121]⟩, .word ⟨#[91]⟩] ([.rule .r_expr] ++ ([.word ⟨#[46, 46]⟩] ++ ([.rule .r_expr] ++ ([.word ⟨#[93]⟩, .word ⟨#[111, 102]⟩] ++ [.rule .r_kind])))) i d out r HR0.out with ⟨er, jj, rfl, h1⟩ | ⟨i1, d1, out1, h1, hr1⟩
 ·skip
  have HX1 := zh h1
  have HC1 := zh (words_new HP0.out [⟨#[97, 114, 114, 97, 121]⟩, ⟨#[91]⟩] 2 [.string ⟨#[97, 114, 114, 97, 121]⟩, .string ⟨#[91]⟩] rfl rfl (by decide) (by decide) HX1.out)
  clear h1
  go_wp2_with (go_at_call 36; (with_reducible refine cM HC1.out ?_); rintro e w1 ⟨rfl, ve1, h3⟩; have HS1 := zh (HS0.out.trans h3); clear h3)
  exact ⟨rfl, rfl, ve1, HS1.out⟩
 have HR1 := zh hr1
 clear hr1
 have HX1 := zh h1
 have HC1 := zh (words_new HP0.out [⟨#[97, 114, 114, 97, 121]⟩, ⟨#[91]⟩] 2 [.string ⟨#[97, 114, 114, 97, 121]⟩, .string ⟨#[91]⟩] rfl rfl (by decide) (by decide) HX1.out)
 clear h1
 go_wp2_with (go_at_call 36; (with_reducible refine cM HC1.out ?_); rintro e w1 ⟨rfl, ve1, h2, h3⟩; have HP1 := zh h2; have HS1 := zh (HS0.out.trans h3); have HG1 := zh (mkeep (HT0.out.trans h3) HP0.out HG0.out); have HT1 := zh (HT0.out.trans h3); clear bx; have bx := cR 0 HG1.out; clear h2 h3)
 rcases srun_app l n [.rule .r_expr] ([.word ⟨#[46, 46]⟩] ++ ([.rule .r_expr] ++ ([.word ⟨#[93]⟩, .word ⟨#[111, 102]⟩] ++ [.rule .r_kind]))) i1 d1 out1 r HR1.out with ⟨er, jj, rfl, h2⟩ | ⟨i2, d2, out2, h2, hr2⟩
 ·skip
  have HX2 := zh h2
  have HC2 := zh (G_expr n HNN.out W0 A c w1 p i1 d1 out1 ve1 _ HP1.out HX2.out)
  clear h2
  go_wp2_with (go_at_call 65; (with_reducible refine cM HC2.out ?_); rintro e w2 ⟨rfl, ve2, h3⟩; have HS2 := zh (HS1.out.trans h3); clear h3)
  exact ⟨rfl, rfl, ve2, HS2.out⟩
 have HR2 := zh hr2
 clear hr2
 have HX2 := zh h2
 have HC2 := zh (G_expr n HNN.out W0 A c w1 p i1 d1 out1 ve1 _ HP1.out HX2.out)
 clear h2
 go_wp2_with (go_at_call 65; (with_reducible refine cM HC2.out ?_); rintro e w2 ⟨rfl, ve2, h2, h3⟩; have HP2 := zh h2; have HS2 := zh (HS1.out.trans h3); have HG2 := zh (mkeep (HT1.out.trans h3) HP0.out HG0.out); have HT2 := zh (HT1.out.trans h3); clear bx; have bx := cR 0 HG2.out; clear h2 h3)
 rcases srun_app l n [.word ⟨#[46, 46]⟩] ([.rule .r_expr] ++ ([.word ⟨#[93]⟩, .word ⟨#[111, 102]⟩] ++ [.rule .r_kind])) i2 d2 out2 r HR2.out with ⟨er, jj, rfl, h3⟩ | ⟨i3, d3, out3, h3, hr3⟩
 ·skip
  have HX3 := zh h3
  have HC3 := zh (words_new HP2.out [⟨#[46, 46]⟩] 1 [.string ⟨#[46, 46]⟩] rfl rfl (by decide) (by decide) HX3.out)
  clear h3
  go_wp2_with (go_at_call 36; (with_reducible refine cM HC3.out ?_); rintro e w3 ⟨rfl, ve3, h3⟩; have HS3 := zh (HS2.out.trans h3); clear h3)
  exact ⟨rfl, rfl, ve3, HS3.out⟩
 have HR3 := zh hr3
 clear hr3
 have HX3 := zh h3
 have HC3 := zh (words_new HP2.out [⟨#[46, 46]⟩] 1 [.string ⟨#[46, 46]⟩] rfl rfl (by decide) (by decide) HX3.out)
 clear h3
 go_wp2_with (go_at_call 36; (with_reducible refine cM HC3.out ?_); rintro e w3 ⟨rfl, ve3, h2, h3⟩; have HP3 := zh h2; have HS3 := zh (HS2.out.trans h3); have HG3 := zh (mkeep (HT2.out.trans h3) HP0.out HG0.out); have HT3 := zh (HT2.out.trans h3); clear bx; have bx := cR 0 HG3.out; clear h2 h3)
 rcases srun_app l n [.rule .r_expr] ([.word ⟨#[93]⟩, .word ⟨#[111, 102]⟩] ++ [.rule .r_kind]) i3 d3 out3 r HR3.out with ⟨er, jj, rfl, h4⟩ | ⟨i4, d4, out4, h4, hr4⟩
 ·skip
  have HX4 := zh h4
  have HC4 := zh (G_expr n HNN.out W0 A c w3 p i3 d3 out3 ve3 _ HP3.out HX4.out)
  clear h4
  go_wp2_with (go_at_call 65; (with_reducible refine cM HC4.out ?_); rintro e w4 ⟨rfl, ve4, h3⟩; have HS4 := zh (HS3.out.trans h3); clear h3)
  exact ⟨rfl, rfl, ve4, HS4.out⟩
 have HR4 := zh hr4
 clear hr4
 have HX4 := zh h4
 have HC4 := zh (G_expr n HNN.out W0 A c w3 p i3 d3 out3 ve3 _ HP3.out HX4.out)
 clear h4
 go_wp2_with (go_at_call 65; (with_reducible refine cM HC4.out ?_); rintro e w4 ⟨rfl, ve4, h2, h3⟩; have HP4 := zh h2; have HS4 := zh (HS3.out.trans h3); have HG4 := zh (mkeep (HT3.out.trans h3) HP0.out HG0.out); have HT4 := zh (HT3.out.trans h3); clear bx; have bx := cR 0 HG4.out; clear h2 h3)
 rcases srun_app l n [.word ⟨#[93]⟩, .word ⟨#[111, 102]⟩] [.rule .r_kind] i4 d4 out4 r HR4.out with ⟨er, jj, rfl, h5⟩ | ⟨i5, d5, out5, h5, hr5⟩
 ·skip
  have HX5 := zh h5
  have HC5 := zh (words_new HP4.out [⟨#[93]⟩, ⟨#[111, 102]⟩] 2 [.string ⟨#[93]⟩, .string ⟨#[111, 102]⟩] rfl rfl (by decide) (by decide) HX5.out)
  clear h5
  go_wp2_with (go_at_call 36; (with_reducible refine cM HC5.out ?_); rintro e w5 ⟨rfl, ve5, h3⟩; have HS5 := zh (HS4.out.trans h3); clear h3)
  exact ⟨rfl, rfl, ve5, HS5.out⟩
 have HR5 := zh hr5
 clear hr5
 have HX5 := zh h5
 have HC5 := zh (words_new HP4.out [⟨#[93]⟩, ⟨#[111, 102]⟩] 2 [.string ⟨#[93]⟩, .string ⟨#[111, 102]⟩] rfl rfl (by decide) (by decide) HX5.out)
 clear h5
 go_wp2_with (go_at_call 36; (with_reducible refine cM HC5.out ?_); rintro e w5 ⟨rfl, ve5, h2, h3⟩; have HP5 := zh h2; have HS5 := zh (HS4.out.trans h3); have HG5 := zh (mkeep (HT4.out.trans h3) HP0.out HG0.out); have HT5 := zh (HT4.out.trans h3); clear bx; have bx := cR 0 HG5.out; clear h2 h3)
 have h6 := HR5.out
 cases r with
 | ok i6 d6 out6 =>
  have HX6 := zh h6
  have HC6 := zh (G_kind n HNN.out W0 A c w5 p i5 d5 out5 ve5 _ HP5.out HX6.out)
  clear h6
  go_wp2_with (go_at_call 89; (with_reducible refine cM HC6.out ?_); rintro e w6 ⟨rfl, ve6, h2, h3⟩; have HP6 := zh h2; have HS6 := zh (HS5.out.trans h3); have HG6 := zh (mkeep (HT5.out.trans h3) HP0.out HG0.out); have HT6 := zh (HT5.out.trans h3); clear bx; have bx := cR 0 HG6.out; clear h2 h3)
  go_end0
  exact ⟨rfl, ve6, HP6.out, HS6.out⟩
 | err er jj =>
  have HX6 := zh h6
  have HC6 := zh (G_kind n HNN.out W0 A c w5 p i5 d5 out5 ve5 _ HP5.out HX6.out)
  clear h6
  go_wp2_with (go_at_call 89; (with_reducible refine cM HC6.out ?_); rintro e w6 ⟨rfl, ve6, h3⟩; have HS6 := zh (HS5.out.trans h3); clear h3)
  exact ⟨rfl, rfl, ve6, HS6.out⟩
theorem g_statement_1 (l : List Tk) (N : Nat)  : GoodC l N 94 [.word ⟨#[115, 107, 105, 112]⟩] := by
 intro n hn W0 A c w0 p g i d out ve r H hg hr
 show Calls Tryz.prog 94 _ w0 _
 have HP0 := zh H
 have HG0 := zh hg
 have HNN := zh hn
 have HS0 := zh (PStep.refl p (.slice none 0 0) ve w0)
 have HT0 := HS0
 have bx := cR 0 hg
 have hr0 : srun l n ⟨[.word ⟨#[115, 107, 105, 112]⟩], i, d, out⟩ = some r := hr
 have HR0 := zh hr0
 clear H hg hn hr hr0
 go_enter Tryz.func94, Tryz.ntmps94
 have h1 := HR0.out
 cases r with
 | ok i1 d1 out1 =>
  have HX1 := zh h1
  have HC1 := zh (words_new HP0.out [⟨#[115, 107, 105, 112]⟩] 1 [.string ⟨#[115, 107, 105, 112]⟩] rfl rfl (by decide) (by decide) HX1.out)
  clear h1
  go_wp2_with (go_at_call 36; (with_reducible refine cM HC1.out ?_); rintro e w1 ⟨rfl, ve1, h2, h3⟩; have HP1 := zh h2; have HS1 := zh (HS0.out.trans h3); have HG1 := zh (mkeep (HT0.out.trans h3) HP0.out HG0.out); have HT1 := zh (HT0.out.trans h3); clear bx; have bx := cR 0 HG1.out; clear h2 h3)
  go_end0
  exact ⟨rfl, ve1, HP1.out, HS1.out⟩
 | err er jj =>
  have HX1 := zh h1
  have HC1 := zh (words_new HP0.out [⟨#[115, 107, 105, 112]⟩] 1 [.string ⟨#[115, 107, 105, 112]⟩] rfl rfl (by decide) (by decide) HX1.out)
  clear h1
  go_wp2_with (go_at_call 36; (with_reducible refine cM HC1.out ?_); rintro e w1 ⟨rfl, ve1, h3⟩; have HS1 := zh (HS0.out.trans h3); clear h3)
  exact ⟨rfl, rfl, ve1, HS1.out⟩
theorem g_other_1 (l : List Tk) (N : Nat) (G_body : Good l N 51 [.rule .r_body]) (G_expr : Good l N 65 [.rule .r_expr]) : GoodC l N 122 [.word ⟨#[114, 101, 112, 101, 97, 116]⟩, .rule .r_body, .word ⟨#[117, 110, 116, 105, 108]⟩, .rule .r_expr] := by
 intro n hn W0 A c w0 p g i d out ve r H hg hr
 show Calls Tryz.prog 122 _ w0 _
 have HP0 := zh H
 have HG0 := zh hg
 have HNN := zh hn
 have HS0 := zh (PStep.refl p (.slice none 0 0) ve w0)
 have HT0 := HS0
 have bx := cR 0 hg
 have hr0 : srun l n ⟨([.word ⟨#[114, 101, 112, 101, 97, 116]⟩] ++ ([.rule .r_body] ++ ([.word ⟨#[117, 110, 116, 105, 108]⟩] ++ [.rule .r_expr]))), i, d, out⟩ = some r := hr
 have HR0 := zh hr0
 clear H hg hn hr hr0
 go_enter Tryz.func122, Tryz.ntmps122
 rcases srun_app l n [.word ⟨#[114, 101, 112, 101, 97, 116]⟩] ([.rule .r_body] ++ ([.word ⟨#[117, 110, 116, 105, 108]⟩] ++ [.rule .r_expr])) i d out r HR0.out with ⟨er, jj, rfl, h1⟩ | ⟨i1, d1, out1, h1, hr1⟩
 ·skip
  have HX1 := zh h1
  have HC1 := zh (words_new HP0.out [⟨#[114, 101, 112, 101, 97, 116]⟩] 1 [.string ⟨#[114, 101, 112, 101, 97, 116]⟩] rfl rfl (by decide) (by decide) HX1.out)
  clear h1
  go_wp2_with (go_at_call 36; (with_reducible refine cM HC1.out ?_); rintro e w1 ⟨rfl, ve1, h3⟩; have HS1 := zh (HS0.out.trans h3); clear h3)
  exact ⟨rfl, rfl, ve1, HS1.out⟩
 have HR1 := zh hr1
 clear hr1
 have HX1 := zh h1
 have HC1 := zh (words_new HP0.out [⟨#[114, 101, 112, 101, 97, 116]⟩] 1 [.string ⟨#[114, 101, 112, 101, 97, 116]⟩] rfl rfl (by decide) (by decide) HX1.out)
 clear h1
 go_wp2_with (go_at_call 36; (with_reducible refine cM HC1.out ?_); rintro e w1 ⟨rfl, ve1, h2, h3⟩; have HP1 := zh h2; have HS1 := zh (HS0.out.trans h3); have HG1 := zh (mkeep (HT0.out.trans h3) HP0.out HG0.out); have HT1 := zh (HT0.out.trans h3); clear bx; have bx := cR 0 HG1.out; clear h2 h3)
 rcases srun_app l n [.rule .r_body] ([.word ⟨#[117, 110, 116, 105, 108]⟩] ++ [.rule .r_expr]) i1 d1 out1 r HR1.out with ⟨er, jj, rfl, h2⟩ | ⟨i2, d2, out2, h2, hr2⟩
 ·skip
  have HX2 := zh h2
  have HC2 := zh (G_body n HNN.out W0 A c w1 p i1 d1 out1 ve1 _ HP1.out HX2.out)
  clear h2
  go_wp2_with (go_at_call 51; (with_reducible refine cM HC2.out ?_); rintro e w2 ⟨rfl, ve2, h3⟩; have HS2 := zh (HS1.out.trans h3); clear h3)
  exact ⟨rfl, rfl, ve2, HS2.out⟩
 have HR2 := zh hr2
 clear hr2
 have HX2 := zh h2
 have HC2 := zh (G_body n HNN.out W0 A c w1 p i1 d1 out1 ve1 _ HP1.out HX2.out)
 clear h2
 go_wp2_with (go_at_call 51; (with_reducible refine cM HC2.out ?_); rintro e w2 ⟨rfl, ve2, h2, h3⟩; have HP2 := zh h2; have HS2 := zh (HS1.out.trans h3); have HG2 := zh (mkeep (HT1.out.trans h3) HP0.out HG0.out); have HT2 := zh (HT1.out.trans h3); clear bx; have bx := cR 0 HG2.out; clear h2 h3)
 rcases srun_app l n [.word ⟨#[117, 110, 116, 105, 108]⟩] [.rule .r_expr] i2 d2 out2 r HR2.out with ⟨er, jj, rfl, h3⟩ | ⟨i3, d3, out3, h3, hr3⟩
 ·skip
  have HX3 := zh h3
  have HC3 := zh (words_new HP2.out [⟨#[117, 110, 116, 105, 108]⟩] 1 [.string ⟨#[117, 110, 116, 105, 108]⟩] rfl rfl (by decide) (by decide) HX3.out)
  clear h3
  go_wp2_with (go_at_call 36; (with_reducible refine cM HC3.out ?_); rintro e w3 ⟨rfl, ve3, h3⟩; have HS3 := zh (HS2.out.trans h3); clear h3)
  exact ⟨rfl, rfl, ve3, HS3.out⟩
 have HR3 := zh hr3
 clear hr3
 have HX3 := zh h3
 have HC3 := zh (words_new HP2.out [⟨#[117, 110, 116, 105, 108]⟩] 1 [.string ⟨#[117, 110, 116, 105, 108]⟩] rfl rfl (by decide) (by decide) HX3.out)
 clear h3
 go_wp2_with (go_at_call 36; (with_reducible refine cM HC3.out ?_); rintro e w3 ⟨rfl, ve3, h2, h3⟩; have HP3 := zh h2; have HS3 := zh (HS2.out.trans h3); have HG3 := zh (mkeep (HT2.out.trans h3) HP0.out HG0.out); have HT3 := zh (HT2.out.trans h3); clear bx; have bx := cR 0 HG3.out; clear h2 h3)
 have h4 := HR3.out
 cases r with
 | ok i4 d4 out4 =>
  have HX4 := zh h4
  have HC4 := zh (G_expr n HNN.out W0 A c w3 p i3 d3 out3 ve3 _ HP3.out HX4.out)
  clear h4
  go_wp2_with (go_at_call 65; (with_reducible refine cM HC4.out ?_); rintro e w4 ⟨rfl, ve4, h2, h3⟩; have HP4 := zh h2; have HS4 := zh (HS3.out.trans h3); have HG4 := zh (mkeep (HT3.out.trans h3) HP0.out HG0.out); have HT4 := zh (HT3.out.trans h3); clear bx; have bx := cR 0 HG4.out; clear h2 h3)
  go_end0
  exact ⟨rfl, ve4, HP4.out, HS4.out⟩
 | err er jj =>
  have HX4 := zh h4
  have HC4 := zh (G_expr n HNN.out W0 A c w3 p i3 d3 out3 ve3 _ HP3.out HX4.out)
  clear h4
  go_wp2_with (go_at_call 65; (with_reducible refine cM HC4.out ?_); rintro e w4 ⟨rfl, ve4, h3⟩; have HS4 := zh (HS3.out.trans h3); clear h3)
  exact ⟨rfl, rfl, ve4, HS4.out⟩
theorem g_other_3 (l : List Tk) (N : Nat) (G_body : Good l N 51 [.rule .r_body]) : GoodC l N 125 [.word ⟨#[98, 101, 103, 105, 110]⟩, .rule .r_body, .word ⟨#[101, 110, 100]⟩] := by
 intro n hn W0 A c w0 p g i d out ve r H hg hr
 show Calls Tryz.prog 125 _ w0 _
 have HP0 := zh H
 have HG0 := zh hg
 have HNN := zh hn
 have HS0 := zh (PStep.refl p (.slice none 0 0) ve w0)
 have HT0 := HS0
 have bx := cR 0 hg
 have hr0 : srun l n ⟨([.word ⟨#[98, 101, 103, 105, 110]⟩] ++ ([.rule .r_body] ++ [.word ⟨#[101, 110, 100]⟩])), i, d, out⟩ = some r := hr
 have HR0 := zh hr0
 clear H hg hn hr hr0
 go_enter Tryz.func125, Tryz.ntmps125
 rcases srun_app l n [.word ⟨#[98, 101, 103, 105, 110]⟩] ([.rule .r_body] ++ [.word ⟨#[101, 110, 100]⟩]) i d out r HR0.out with ⟨er, jj, rfl, h1⟩ | ⟨i1, d1, out1, h1, hr1⟩
 ·skip
  have HX1 := zh h1
  have HC1 := zh (words_new HP0.out [⟨#[98, 101, 103, 105, 110]⟩] 1 [.string ⟨#[98, 101, 103, 105, 110]⟩] rfl rfl (by decide) (by decide) HX1.out)
  clear h1
  go_wp2_with (go_at_call 36; (with_reducible refine cM HC1.out ?_); rintro e w1 ⟨rfl, ve1, h3⟩; have HS1 := zh (HS0.out.trans h3); clear h3)
  exact ⟨rfl, rfl, ve1, HS1.out⟩
 have HR1 := zh hr1
 clear hr1
 have HX1 := zh h1
 have HC1 := zh (words_new HP0.out [⟨#[98, 101, 103, 105, 110]⟩] 1 [.string ⟨#[98, 101, 103, 105, 110]⟩] rfl rfl (by decide) (by decide) HX1.out)
 clear h1
 go_wp2_with (go_at_call 36; (with_reducible refine cM HC1.out ?_); rintro e w1 ⟨rfl, ve1, h2, h3⟩; have HP1 := zh h2; have HS1 := zh (HS0.out.trans h3); have HG1 := zh (mkeep (HT0.out.trans h3) HP0.out HG0.out); have HT1 := zh (HT0.out.trans h3); clear bx; have bx := cR 0 HG1.out; clear h2 h3)
 rcases srun_app l n [.rule .r_body] [.word ⟨#[101, 110, 100]⟩] i1 d1 out1 r HR1.out with ⟨er, jj, rfl, h2⟩ | ⟨i2, d2, out2, h2, hr2⟩
 ·skip
  have HX2 := zh h2
  have HC2 := zh (G_body n HNN.out W0 A c w1 p i1 d1 out1 ve1 _ HP1.out HX2.out)
  clear h2
  go_wp2_with (go_at_call 51; (with_reducible refine cM HC2.out ?_); rintro e w2 ⟨rfl, ve2, h3⟩; have HS2 := zh (HS1.out.trans h3); clear h3)
  exact ⟨rfl, rfl, ve2, HS2.out⟩
 have HR2 := zh hr2
 clear hr2
 have HX2 := zh h2
 have HC2 := zh (G_body n HNN.out W0 A c w1 p i1 d1 out1 ve1 _ HP1.out HX2.out)
 clear h2
 go_wp2_with (go_at_call 51; (with_reducible refine cM HC2.out ?_); rintro e w2 ⟨rfl, ve2, h2, h3⟩; have HP2 := zh h2; have HS2 := zh (HS1.out.trans h3); have HG2 := zh (mkeep (HT1.out.trans h3) HP0.out HG0.out); have HT2 := zh (HT1.out.trans h3); clear bx; have bx := cR 0 HG2.out; clear h2 h3)
 have h3 := HR2.out
 cases r with
 | ok i3 d3 out3 =>
  have HX3 := zh h3
  have HC3 := zh (words_new HP2.out [⟨#[101, 110, 100]⟩] 1 [.string ⟨#[101, 110, 100]⟩] rfl rfl (by decide) (by decide) HX3.out)
  clear h3
  go_wp2_with (go_at_call 36; (with_reducible refine cM HC3.out ?_); rintro e w3 ⟨rfl, ve3, h2, h3⟩; have HP3 := zh h2; have HS3 := zh (HS2.out.trans h3); have HG3 := zh (mkeep (HT2.out.trans h3) HP0.out HG0.out); have HT3 := zh (HT2.out.trans h3); clear bx; have bx := cR 0 HG3.out; clear h2 h3)
  go_end0
  exact ⟨rfl, ve3, HP3.out, HS3.out⟩
 | err er jj =>
  have HX3 := zh h3
  have HC3 := zh (words_new HP2.out [⟨#[101, 110, 100]⟩] 1 [.string ⟨#[101, 110, 100]⟩] rfl rfl (by decide) (by decide) HX3.out)
  clear h3
  go_wp2_with (go_at_call 36; (with_reducible refine cM HC3.out ?_); rintro e w3 ⟨rfl, ve3, h3⟩; have HS3 := zh (HS2.out.trans h3); clear h3)
  exact ⟨rfl, rfl, ve3, HS3.out⟩
theorem g_factor_1 (l : List Tk) (N : Nat) (G_factor : Good l N 145 [.rule .r_factor]) : GoodC l N 149 [.word ⟨#[45]⟩, .rule .r_factor] := by
 intro n hn W0 A c w0 p g i d out ve r H hg hr
 show Calls Tryz.prog 149 _ w0 _
 have HP0 := zh H
 have HG0 := zh hg
 have HNN := zh hn
 have HS0 := zh (PStep.refl p (.slice none 0 0) ve w0)
 have HT0 := HS0
 have bx := cR 0 hg
 have hr0 : srun l n ⟨([.word ⟨#[45]⟩] ++ [.rule .r_factor]), i, d, out⟩ = some r := hr
 have HR0 := zh hr0
 clear H hg hn hr hr0
 go_enter Tryz.func149, Tryz.ntmps149
 rcases srun_app l n [.word ⟨#[45]⟩] [.rule .r_factor] i d out r HR0.out with ⟨er, jj, rfl, h1⟩ | ⟨i1, d1, out1, h1, hr1⟩
 ·skip
  have HX1 := zh h1
  have HC1 := zh (words_new HP0.out [⟨#[45]⟩] 1 [.string ⟨#[45]⟩] rfl rfl (by decide) (by decide) HX1.out)
  clear h1
  go_wp2_with (go_at_call 36; (with_reducible refine cM HC1.out ?_); rintro e w1 ⟨rfl, ve1, h3⟩; have HS1 := zh (HS0.out.trans h3); clear h3)
  exact ⟨rfl, rfl, ve1, HS1.out⟩
 have HR1 := zh hr1
 clear hr1
 have HX1 := zh h1
 have HC1 := zh (words_new HP0.out [⟨#[45]⟩] 1 [.string ⟨#[45]⟩] rfl rfl (by decide) (by decide) HX1.out)
 clear h1
 go_wp2_with (go_at_call 36; (with_reducible refine cM HC1.out ?_); rintro e w1 ⟨rfl, ve1, h2, h3⟩; have HP1 := zh h2; have HS1 := zh (HS0.out.trans h3); have HG1 := zh (mkeep (HT0.out.trans h3) HP0.out HG0.out); have HT1 := zh (HT0.out.trans h3); clear bx; have bx := cR 0 HG1.out; clear h2 h3)
 have h2 := HR1.out
 cases r with
 | ok i2 d2 out2 =>
  have HX2 := zh h2
  have HC2 := zh (G_factor n HNN.out W0 A c w1 p i1 d1 out1 ve1 _ HP1.out HX2.out)
  clear h2
  go_wp2_with (go_at_call 145; (with_reducible refine cM HC2.out ?_); rintro e w2 ⟨rfl, ve2, h2, h3⟩; have HP2 := zh h2; have HS2 := zh (HS1.out.trans h3); have HG2 := zh (mkeep (HT1.out.trans h3) HP0.out HG0.out); have HT2 := zh (HT1.out.trans h3); clear bx; have bx := cR 0 HG2.out; clear h2 h3)
  go_end0
  exact ⟨rfl, ve2, HP2.out, HS2.out⟩
 | err er jj =>
  have HX2 := zh h2
  have HC2 := zh (G_factor n HNN.out W0 A c w1 p i1 d1 out1 ve1 _ HP1.out HX2.out)
  clear h2
  go_wp2_with (go_at_call 145; (with_reducible refine cM HC2.out ?_); rintro e w2 ⟨rfl, ve2, h3⟩; have HS2 := zh (HS1.out.trans h3); clear h3)
  exact ⟨rfl, rfl, ve2, HS2.out⟩
theorem g_factor_2 (l : List Tk) (N : Nat) (G_factor : Good l N 145 [.rule .r_factor]) : GoodC l N 150 [.word ⟨#[110, 111, 116]⟩, .rule .r_factor] := by
 intro n hn W0 A c w0 p g i d out ve r H hg hr
 show Calls Tryz.prog 150 _ w0 _
 have HP0 := zh H
 have HG0 := zh hg
 have HNN := zh hn
 have HS0 := zh (PStep.refl p (.slice none 0 0) ve w0)
 have HT0 := HS0
 have bx := cR 0 hg
 have hr0 : srun l n ⟨([.word ⟨#[110, 111, 116]⟩] ++ [.rule .r_factor]), i, d, out⟩ = some r := hr
 have HR0 := zh hr0
 clear H hg hn hr hr0
 go_enter Tryz.func150, Tryz.ntmps150
 rcases srun_app l n [.word ⟨#[110, 111, 116]⟩] [.rule .r_factor] i d out r HR0.out with ⟨er, jj, rfl, h1⟩ | ⟨i1, d1, out1, h1, hr1⟩
 ·skip
  have HX1 := zh h1
  have HC1 := zh (words_new HP0.out [⟨#[110, 111, 116]⟩] 1 [.string ⟨#[110, 111, 116]⟩] rfl rfl (by decide) (by decide) HX1.out)
  clear h1
  go_wp2_with (go_at_call 36; (with_reducible refine cM HC1.out ?_); rintro e w1 ⟨rfl, ve1, h3⟩; have HS1 := zh (HS0.out.trans h3); clear h3)
  exact ⟨rfl, rfl, ve1, HS1.out⟩
 have HR1 := zh hr1
 clear hr1
 have HX1 := zh h1
 have HC1 := zh (words_new HP0.out [⟨#[110, 111, 116]⟩] 1 [.string ⟨#[110, 111, 116]⟩] rfl rfl (by decide) (by decide) HX1.out)
 clear h1
 go_wp2_with (go_at_call 36; (with_reducible refine cM HC1.out ?_); rintro e w1 ⟨rfl, ve1, h2, h3⟩; have HP1 := zh h2; have HS1 := zh (HS0.out.trans h3); have HG1 := zh (mkeep (HT0.out.trans h3) HP0.out HG0.out); have HT1 := zh (HT0.out.trans h3); clear bx; have bx := cR 0 HG1.out; clear h2 h3)
 have h2 := HR1.out
 cases r with
 | ok i2 d2 out2 =>
  have HX2 := zh h2
  have HC2 := zh (G_factor n HNN.out W0 A c w1 p i1 d1 out1 ve1 _ HP1.out HX2.out)
  clear h2
  go_wp2_with (go_at_call 145; (with_reducible refine cM HC2.out ?_); rintro e w2 ⟨rfl, ve2, h2, h3⟩; have HP2 := zh h2; have HS2 := zh (HS1.out.trans h3); have HG2 := zh (mkeep (HT1.out.trans h3) HP0.out HG0.out); have HT2 := zh (HT1.out.trans h3); clear bx; have bx := cR 0 HG2.out; clear h2 h3)
  go_end0
  exact ⟨rfl, ve2, HP2.out, HS2.out⟩
 | err er jj =>
  have HX2 := zh h2
  have HC2 := zh (G_factor n HNN.out W0 A c w1 p i1 d1 out1 ve1 _ HP1.out HX2.out)
  clear h2
  go_wp2_with (go_at_call 145; (with_reducible refine cM HC2.out ?_); rintro e w2 ⟨rfl, ve2, h3⟩; have HS2 := zh (HS1.out.trans h3); clear h3)
  exact ⟨rfl, rfl, ve2, HS2.out⟩
theorem g_factor_3 (l : List Tk) (N : Nat) (G_expr : Good l N 65 [.rule .r_expr]) : GoodC l N 151 [.word ⟨#[40]⟩, .rule .r_expr, .word ⟨#[41]⟩] := by
 intro n hn W0 A c w0 p g i d out ve r H hg hr
 show Calls Tryz.prog 151 _ w0 _
 have HP0 := zh H
 have HG0 := zh hg
 have HNN := zh hn
 have HS0 := zh (PStep.refl p (.slice none 0 0) ve w0)
 have HT0 := HS0
 have bx := cR 0 hg
 have hr0 : srun l n ⟨([.word ⟨#[40]⟩] ++ ([.rule .r_expr] ++ [.word ⟨#[41]⟩])), i, d, out⟩ = some r := hr
 have HR0 := zh hr0
 clear H hg hn hr hr0
 go_enter Tryz.func151, Tryz.ntmps151
 rcases srun_app l n [.word ⟨#[40]⟩] ([.rule .r_expr] ++ [.word ⟨#[41]⟩]) i d out r HR0.out with ⟨er, jj, rfl, h1⟩ | ⟨i1, d1, out1, h1, hr1⟩
 ·skip
  have HX1 := zh h1
  have HC1 := zh (words_new HP0.out [⟨#[40]⟩] 1 [.string ⟨#[40]⟩] rfl rfl (by decide) (by decide) HX1.out)
  clear h1
  go_wp2_with (go_at_call 36; (with_reducible refine cM HC1.out ?_); rintro e w1 ⟨rfl, ve1, h3⟩; have HS1 := zh (HS0.out.trans h3); clear h3)
  exact ⟨rfl, rfl, ve1, HS1.out⟩
 have HR1 := zh hr1
 clear hr1
 have HX1 := zh h1
 have HC1 := zh (words_new HP0.out [⟨#[40]⟩] 1 [.string ⟨#[40]⟩] rfl rfl (by decide) (by decide) HX1.out)
 clear h1
 go_wp2_with (go_at_call 36; (with_reducible refine cM HC1.out ?_); rintro e w1 ⟨rfl, ve1, h2, h3⟩; have HP1 := zh h2; have HS1 := zh (HS0.out.trans h3); have HG1 := zh (mkeep (HT0.out.trans h3) HP0.out HG0.out); have HT1 := zh (HT0.out.trans h3); clear bx; have bx := cR 0 HG1.out; clear h2 h3)
 rcases srun_app l n [.rule .r_expr] [.word ⟨#[41]⟩] i1 d1 out1 r HR1.out with ⟨er, jj, rfl, h2⟩ | ⟨i2, d2, out2, h2, hr2⟩
 ·skip
  have HX2 := zh h2
  have HC2 := zh (G_expr n HNN.out W0 A c w1 p i1 d1 out1 ve1 _ HP1.out HX2.out)
  clear h2
  go_wp2_with (go_at_call 65; (with_reducible refine cM HC2.out ?_); rintro e w2 ⟨rfl, ve2, h3⟩; have HS2 := zh (HS1.out.trans h3); clear h3)
  exact ⟨rfl, rfl, ve2, HS2.out⟩
 have HR2 := zh hr2
 clear hr2
 have HX2 := zh h2
 have HC2 := zh (G_expr n HNN.out W0 A c w1 p i1 d1 out1 ve1 _ HP1.out HX2.out)
 clear h2
 go_wp2_with (go_at_call 65; (with_reducible refine cM HC2.out ?_); rintro e w2 ⟨rfl, ve2, h2, h3⟩; have HP2 := zh h2; have HS2 := zh (HS1.out.trans h3); have HG2 := zh (mkeep (HT1.out.trans h3) HP0.out HG0.out); have HT2 := zh (HT1.out.trans h3); clear bx; have bx := cR 0 HG2.out; clear h2 h3)
 have h3 := HR2.out
 cases r with
 | ok i3 d3 out3 =>
  have HX3 := zh h3
  have HC3 := zh (words_new HP2.out [⟨#[41]⟩] 1 [.string ⟨#[41]⟩] rfl rfl (by decide) (by decide) HX3.out)
  clear h3
  go_wp2_with (go_at_call 36; (with_reducible refine cM HC3.out ?_); rintro e w3 ⟨rfl, ve3, h2, h3⟩; have HP3 := zh h2; have HS3 := zh (HS2.out.trans h3); have HG3 := zh (mkeep (HT2.out.trans h3) HP0.out HG0.out); have HT3 := zh (HT2.out.trans h3); clear bx; have bx := cR 0 HG3.out; clear h2 h3)
  go_end0
  exact ⟨rfl, ve3, HP3.out, HS3.out⟩
 | err er jj =>
  have HX3 := zh h3
  have HC3 := zh (words_new HP2.out [⟨#[41]⟩] 1 [.string ⟨#[41]⟩] rfl rfl (by decide) (by decide) HX3.out)
  clear h3
  go_wp2_with (go_at_call 36; (with_reducible refine cM HC3.out ?_); rintro e w3 ⟨rfl, ve3, h3⟩; have HS3 := zh (HS2.out.trans h3); clear h3)
  exact ⟨rfl, rfl, ve3, HS3.out⟩
theorem g_selected_1 (l : List Tk) (N : Nat) (G_expr : Good l N 65 [.rule .r_expr]) : GoodC l N 136 [.word ⟨#[91]⟩, .rule .r_expr, .rule .r_exprs, .word ⟨#[93]⟩] := by
 intro n hn W0 A c w0 p g i d out ve r H hg hr
 show Calls Tryz.prog 136 _ w0 _
 have HP0 := zh H
 have HG0 := zh hg
 have HNN := zh hn
 have HS0 := zh (PStep.refl p (.slice none 0 0) ve w0)
 have HT0 := HS0
 have bx := cR 0 hg
 have hr0 : srun l n ⟨([.word ⟨#[91]⟩] ++ ([.rule .r_expr, .rule .r_exprs] ++ [.word ⟨#[93]⟩])), i, d, out⟩ = some r := hr
 have HR0 := zh hr0
 clear H hg hn hr hr0
 go_enter Tryz.func136, Tryz.ntmps136
 rcases srun_app l n [.word ⟨#[91]⟩] ([.rule .r_expr, .rule .r_exprs] ++ [.word ⟨#[93]⟩]) i d out r HR0.out with ⟨er, jj, rfl, h1⟩ | ⟨i1, d1, out1, h1, hr1⟩
 ·skip
  have HX1 := zh h1
  have HC1 := zh (words_new HP0.out [⟨#[91]⟩] 1 [.string ⟨#[91]⟩] rfl rfl (by decide) (by decide) HX1.out)
  clear h1
  go_wp2_with (go_at_call 36; (with_reducible refine cM HC1.out ?_); rintro e w1 ⟨rfl, ve1, h3⟩; have HS1 := zh (HS0.out.trans h3); clear h3)
  exact ⟨rfl, rfl, ve1, HS1.out⟩
 have HR1 := zh hr1
 clear hr1
 have HX1 := zh h1
 have HC1 := zh (words_new HP0.out [⟨#[91]⟩] 1 [.string ⟨#[91]⟩] rfl rfl (by decide) (by decide) HX1.out)
 clear h1
 go_wp2_with (go_at_call 36; (with_reducible refine cM HC1.out ?_); rintro e w1 ⟨rfl, ve1, h2, h3⟩; have HP1 := zh h2; have HS1 := zh (HS0.out.trans h3); have HG1 := zh (mkeep (HT0.out.trans h3) HP0.out HG0.out); have HT1 := zh (HT0.out.trans h3); clear bx; have bx := cR 0 HG1.out; clear h2 h3)
 rcases srun_app l n [.rule .r_expr, .rule .r_exprs] [.word ⟨#[93]⟩] i1 d1 out1 r HR1.out with ⟨er, jj, rfl, h2⟩ | ⟨i2, d2, out2, h2, hr2⟩
 ·skip
  have HX2 := zh h2
  have HC2 := zh (row_new HP1.out (.func (.func 65) #[.pointer (some ⟨p, 0, none⟩)] #[]) 65 (.pointer (some ⟨p, 0, none⟩)) (.inl rfl) (fun w => enters_ Tryz.func65 (by kernel_rfl) rfl #[(.pointer (some ⟨p, 0, none⟩))] w) [⟨#[44]⟩] 1 [.string ⟨#[44]⟩] rfl rfl (by decide) (by decide) (T := [.rule .r_expr]) (R := .r_exprs) (fun cc => row_exprs cc) (G_expr.body) HNN.out HX2.out)
  clear h2
  go_wp2_with (go_at_call 68; (with_reducible refine cM HC2.out ?_); rintro e w2 ⟨rfl, ve2, h3⟩; have HS2 := zh (HS1.out.trans h3); clear h3)
  exact ⟨rfl, rfl, ve2, HS2.out⟩
 have HR2 := zh hr2
 clear hr2
 have HX2 := zh h2
 have HC2 := zh (row_new HP1.out (.func (.func 65) #[.pointer (some ⟨p, 0, none⟩)] #[]) 65 (.pointer (some ⟨p, 0, none⟩)) (.inl rfl) (fun w => enters_ Tryz.func65 (by kernel_rfl) rfl #[(.pointer (some ⟨p, 0, none⟩))] w) [⟨#[44]⟩] 1 [.string ⟨#[44]⟩] rfl rfl (by decide) (by decide) (T := [.rule .r_expr]) (R := .r_exprs) (fun cc => row_exprs cc) (G_expr.body) HNN.out HX2.out)
 clear h2
 go_wp2_with (go_at_call 68; (with_reducible refine cM HC2.out ?_); rintro e w2 ⟨rfl, ve2, h2, h3⟩; have HP2 := zh h2; have HS2 := zh (HS1.out.trans h3); have HG2 := zh (mkeep (HT1.out.trans h3) HP0.out HG0.out); have HT2 := zh (HT1.out.trans h3); clear bx; have bx := cR 0 HG2.out; clear h2 h3)
 have h3 := HR2.out
 cases r with
 | ok i3 d3 out3 =>
  have HX3 := zh h3
  have HC3 := zh (words_new HP2.out [⟨#[93]⟩] 1 [.string ⟨#[93]⟩] rfl rfl (by decide) (by decide) HX3.out)
  clear h3
  go_wp2_with (go_at_call 36; (with_reducible refine cM HC3.out ?_); rintro e w3 ⟨rfl, ve3, h2, h3⟩; have HP3 := zh h2; have HS3 := zh (HS2.out.trans h3); have HG3 := zh (mkeep (HT2.out.trans h3) HP0.out HG0.out); have HT3 := zh (HT2.out.trans h3); clear bx; have bx := cR 0 HG3.out; clear h2 h3)
  go_end0
  exact ⟨rfl, ve3, HP3.out, HS3.out⟩
 | err er jj =>
  have HX3 := zh h3
  have HC3 := zh (words_new HP2.out [⟨#[93]⟩] 1 [.string ⟨#[93]⟩] rfl rfl (by decide) (by decide) HX3.out)
  clear h3
  go_wp2_with (go_at_call 36; (with_reducible refine cM HC3.out ?_); rintro e w3 ⟨rfl, ve3, h3⟩; have HS3 := zh (HS2.out.trans h3); clear h3)
  exact ⟨rfl, rfl, ve3, HS3.out⟩
theorem g_selected_2 (l : List Tk) (N : Nat)  : GoodC l N 137 [.word ⟨#[46]⟩, .word ⟨#[64, 110, 97, 109, 101]⟩] := by
 intro n hn W0 A c w0 p g i d out ve r H hg hr
 show Calls Tryz.prog 137 _ w0 _
 have HP0 := zh H
 have HG0 := zh hg
 have HNN := zh hn
 have HS0 := zh (PStep.refl p (.slice none 0 0) ve w0)
 have HT0 := HS0
 have bx := cR 0 hg
 have hr0 : srun l n ⟨([.word ⟨#[46]⟩] ++ [.word ⟨#[64, 110, 97, 109, 101]⟩]), i, d, out⟩ = some r := hr
 have HR0 := zh hr0
 clear H hg hn hr hr0
 go_enter Tryz.func137, Tryz.ntmps137
 rcases srun_app l n [.word ⟨#[46]⟩] [.word ⟨#[64, 110, 97, 109, 101]⟩] i d out r HR0.out with ⟨er, jj, rfl, h1⟩ | ⟨i1, d1, out1, h1, hr1⟩
 ·skip
  have HX1 := zh h1
  have HC1 := zh (words_new HP0.out [⟨#[46]⟩] 1 [.string ⟨#[46]⟩] rfl rfl (by decide) (by decide) HX1.out)
  clear h1
  go_wp2_with (go_at_call 36; (with_reducible refine cM HC1.out ?_); rintro e w1 ⟨rfl, ve1, h3⟩; have HS1 := zh (HS0.out.trans h3); clear h3)
  exact ⟨rfl, rfl, ve1, HS1.out⟩
 have HR1 := zh hr1
 clear hr1
 have HX1 := zh h1
 have HC1 := zh (words_new HP0.out [⟨#[46]⟩] 1 [.string ⟨#[46]⟩] rfl rfl (by decide) (by decide) HX1.out)
 clear h1
 go_wp2_with (go_at_call 36; (with_reducible refine cM HC1.out ?_); rintro e w1 ⟨rfl, ve1, h2, h3⟩; have HP1 := zh h2; have HS1 := zh (HS0.out.trans h3); have HG1 := zh (mkeep (HT0.out.trans h3) HP0.out HG0.out); have HT1 := zh (HT0.out.trans h3); clear bx; have bx := cR 0 HG1.out; clear h2 h3)
 have h2 := HR1.out
 cases r with
 | ok i2 d2 out2 =>
  have HX2 := zh h2
  have HC2 := zh (name_any l N n HNN.out W0 A c w1 p i1 d1 out1 ve1 _ HP1.out HX2.out)
  clear h2
  go_wp2_with (go_at_call 37; (with_reducible refine cM HC2.out ?_); rintro e w2 ⟨rfl, ve2, h2, h3⟩; have HP2 := zh h2; have HS2 := zh (HS1.out.trans h3); have HG2 := zh (mkeep (HT1.out.trans h3) HP0.out HG0.out); have HT2 := zh (HT1.out.trans h3); clear bx; have bx := cR 0 HG2.out; clear h2 h3)
  go_end0
  exact ⟨rfl, ve2, HP2.out, HS2.out⟩
 | err er jj =>
  have HX2 := zh h2
  have HC2 := zh (name_any l N n HNN.out W0 A c w1 p i1 d1 out1 ve1 _ HP1.out HX2.out)
  clear h2
  go_wp2_with (go_at_call 37; (with_reducible refine cM HC2.out ?_); rintro e w2 ⟨rfl, ve2, h3⟩; have HS2 := zh (HS1.out.trans h3); clear h3)
  exact ⟨rfl, rfl, ve2, HS2.out⟩
theorem g_statement_4 (l : List Tk) (N : Nat) (G_expr : Good l N 65 [.rule .r_expr]) (G_body : Good l N 51 [.rule .r_body]) : GoodC l N 99 [.word ⟨#[102, 111, 114]⟩, .word ⟨#[64, 110, 97, 109, 101]⟩, .word ⟨#[58, 61]⟩, .rule .r_expr, .word ⟨#[116, 111]⟩, .rule .r_expr, .word ⟨#[100, 111]⟩, .rule .r_body, .word ⟨#[101, 110, 100]⟩] := by
 intro n hn W0 A c w0 p g i d out ve r H hg hr
 show Calls Tryz.prog 99 _ w0 _
 have HP0 := zh H
 have HG0 := zh hg
 have HNN := zh hn
 have HS0 := zh (PStep.refl p (.slice none 0 0) ve w0)
 have HT0 := HS0
 have bx := cR 0 hg
 have hr0 : srun l n ⟨([.word ⟨#[102, 111, 114]⟩] ++ ([.word ⟨#[64, 110, 97, 109, 101]⟩] ++ ([.word ⟨#[58, 61]⟩] ++ ([.rule .r_expr] ++ ([.word ⟨#[116, 111]⟩] ++ ([.rule .r_expr] ++ ([.word ⟨#[100, 111]⟩] ++ ([.rule .r_body] ++ [.word ⟨#[101, 110, 100]⟩])))))))), i, d, out⟩ = some r := hr
 have HR0 := zh hr0
 clear H hg hn hr hr0
 go_enter Tryz.func99, Tryz.ntmps99
 rcases srun_app l n [.word ⟨#[102, 111, 114]⟩] ([.word ⟨#[64, 110, 97, 109, 101]⟩] ++ ([.word ⟨#[58, 61]⟩] ++ ([.rule .r_expr] ++ ([.word ⟨#[116, 111]⟩] ++ ([.rule .r_expr] ++ ([.word ⟨#[100, 111]⟩] ++ ([.rule .r_body] ++ [.word ⟨#[101, 110, 100]⟩]))))))) i d out r HR0.out with ⟨er, jj, rfl, h1⟩ | ⟨i1, d1, out1, h1, hr1⟩
 ·skip
  have HX1 := zh h1
  have HC1 := zh (words_new HP0.out [⟨#[102, 111, 114]⟩] 1 [.string ⟨#[102, 111, 114]⟩] rfl rfl (by decide) (by decide) HX1.out)
  clear h1
  go_wp2_with (go_at_call 36; (with_reducible refine cM HC1.out ?_); rintro e w1 ⟨rfl, ve1, h3⟩; have HS1 := zh (HS0.out.trans h3); clear h3)
  exact ⟨rfl, rfl, ve1, HS1.out⟩
 have HR1 := zh hr1
 clear hr1
 have HX1 := zh h1
 have HC1 := zh (words_new HP0.out [⟨#[102, 111, 114]⟩] 1 [.string ⟨#[102, 111, 114]⟩] rfl rfl (by decide) (by decide) HX1.out)
 clear h1
 go_wp2_with (go_at_call 36; (with_reducible refine cM HC1.out ?_); rintro e w1 ⟨rfl, ve1, h2, h3⟩; have HP1 := zh h2; have HS1 := zh (HS0.out.trans h3); have HG1 := zh (mkeep (HT0.out.trans h3) HP0.out HG0.out); have HT1 := zh (HT0.out.trans h3); clear bx; have bx := cR 0 HG1.out; clear h2 h3)
 rcases srun_app l n [.word ⟨#[64, 110, 97, 109, 101]⟩] ([.word ⟨#[58, 61]⟩] ++ ([.rule .r_expr] ++ ([.word ⟨#[116, 111]⟩] ++ ([.rule .r_expr] ++ ([.word ⟨#[100, 111]⟩] ++ ([.rule .r_body] ++ [.word ⟨#[101, 110, 100]⟩])))))) i1 d1 out1 r HR1.out with ⟨er, jj, rfl, h2⟩ | ⟨i2, d2, out2, h2, hr2⟩
 ·skip
  have HX2 := zh h2
  have HC2 := zh (name_any l N n HNN.out W0 A c w1 p i1 d1 out1 ve1 _ HP1.out HX2.out)
  clear h2
  go_wp2_with (go_at_call 37; (with_reducible refine cM HC2.out ?_); rintro e w2 ⟨rfl, ve2, h3⟩; have HS2 := zh (HS1.out.trans h3); clear h3)
  exact ⟨rfl, rfl, ve2, HS2.out⟩
 have HR2 := zh hr2
 clear hr2
 have HX2 := zh h2
 have HC2 := zh (name_any l N n HNN.out W0 A c w1 p i1 d1 out1 ve1 _ HP1.out HX2.out)
 clear h2
 go_wp2_with (go_at_call 37; (with_reducible refine cM HC2.out ?_); rintro e w2 ⟨rfl, ve2, h2, h3⟩; have HP2 := zh h2; have HS2 := zh (HS1.out.trans h3); have HG2 := zh (mkeep (HT1.out.trans h3) HP0.out HG0.out); have HT2 := zh (HT1.out.trans h3); clear bx; have bx := cR 0 HG2.out; clear h2 h3)
 rcases srun_app l n [.word ⟨#[58, 61]⟩] ([.rule .r_expr] ++ ([.word ⟨#[116, 111]⟩] ++ ([.rule .r_expr] ++ ([.word ⟨#[100, 111]⟩] ++ ([.rule .r_body] ++ [.word ⟨#[101, 110, 100]⟩]))))) i2 d2 out2 r HR2.out with ⟨er, jj, rfl, h3⟩ | ⟨i3, d3, out3, h3, hr3⟩
 ·skip
  have HX3 := zh h3
  have HC3 := zh (words_new HP2.out [⟨#[58, 61]⟩] 1 [.string ⟨#[58, 61]⟩] rfl rfl (by decide) (by decide) HX3.out)
  clear h3
  go_wp2_with (go_at_call 36; (with_reducible refine cM HC3.out ?_); rintro e w3 ⟨rfl, ve3, h3⟩; have HS3 := zh (HS2.out.trans h3); clear h3)
  exact ⟨rfl, rfl, ve3, HS3.out⟩
 have HR3 := zh hr3
 clear hr3
 have HX3 := zh h3
 have HC3 := zh (words_new HP2.out [⟨#[58, 61]⟩] 1 [.string ⟨#[58, 61]⟩] rfl rfl (by decide) (by decide) HX3.out)
 clear h3
 go_wp2_with (go_at_call 36; (with_reducible refine cM HC3.out ?_); rintro e w3 ⟨rfl, ve3, h2, h3⟩; have HP3 := zh h2; have HS3 := zh (HS2.out.trans h3); have HG3 := zh (mkeep (HT2.out.trans h3) HP0.out HG0.out); have HT3 := zh (HT2.out.trans h3); clear bx; have bx := cR 0 HG3.out; clear h2 h3)
 rcases srun_app l n [.rule .r_expr] ([.word ⟨#[116, 111]⟩] ++ ([.rule .r_expr] ++ ([.word ⟨#[100, 111]⟩] ++ ([.rule .r_body] ++ [.word ⟨#[101, 110, 100]⟩])))) i3 d3 out3 r HR3.out with ⟨er, jj, rfl, h4⟩ | ⟨i4, d4, out4, h4, hr4⟩
 ·skip
  have HX4 := zh h4
  have HC4 := zh (G_expr n HNN.out W0 A c w3 p i3 d3 out3 ve3 _ HP3.out HX4.out)
  clear h4
  go_wp2_with (go_at_call 65; (with_reducible refine cM HC4.out ?_); rintro e w4 ⟨rfl, ve4, h3⟩; have HS4 := zh (HS3.out.trans h3); clear h3)
  exact ⟨rfl, rfl, ve4, HS4.out⟩
 have HR4 := zh hr4
 clear hr4
 have HX4 := zh h4
 have HC4 := zh (G_expr n HNN.out W0 A c w3 p i3 d3 out3 ve3 _ HP3.out HX4.out)
 clear h4
 go_wp2_with (go_at_call 65; (with_reducible refine cM HC4.out ?_); rintro e w4 ⟨rfl, ve4, h2, h3⟩; have HP4 := zh h2; have HS4 := zh (HS3.out.trans h3); have HG4 := zh (mkeep (HT3.out.trans h3) HP0.out HG0.out); have HT4 := zh (HT3.out.trans h3); clear bx; have bx := cR 0 HG4.out; clear h2 h3)
 rcases srun_app l n [.word ⟨#[116, 111]⟩] ([.rule .r_expr] ++ ([.word ⟨#[100, 111]⟩] ++ ([.rule .r_body] ++ [.word ⟨#[101, 110, 100]⟩]))) i4 d4 out4 r HR4.out with ⟨er, jj, rfl, h5⟩ | ⟨i5, d5, out5, h5, hr5⟩
 ·skip
  have HX5 := zh h5
  have HC5 := zh (words_new HP4.out [⟨#[116, 111]⟩] 1 [.string ⟨#[116, 111]⟩] rfl rfl (by decide) (by decide) HX5.out)
  clear h5
  go_wp2_with (go_at_call 36; (with_reducible refine cM HC5.out ?_); rintro e w5 ⟨rfl, ve5, h3⟩; have HS5 := zh (HS4.out.trans h3); clear h3)
  exact ⟨rfl, rfl, ve5, HS5.out⟩
 have HR5 := zh hr5
 clear hr5
 have HX5 := zh h5
 have HC5 := zh (words_new HP4.out [⟨#[116, 111]⟩] 1 [.string ⟨#[116, 111]⟩] rfl rfl (by decide) (by decide) HX5.out)
 clear h5
 go_wp2_with (go_at_call 36; (with_reducible refine cM HC5.out ?_); rintro e w5 ⟨rfl, ve5, h2, h3⟩; have HP5 := zh h2; have HS5 := zh (HS4.out.trans h3); have HG5 := zh (mkeep (HT4.out.trans h3) HP0.out HG0.out); have HT5 := zh (HT4.out.trans h3); clear bx; have bx := cR 0 HG5.out; clear h2 h3)
 rcases srun_app l n [.rule .r_expr] ([.word ⟨#[100, 111]⟩] ++ ([.rule .r_body] ++ [.word ⟨#[101, 110, 100]⟩])) i5 d5 out5 r HR5.out with ⟨er, jj, rfl, h6⟩ | ⟨i6, d6, out6, h6, hr6⟩
 ·skip
  have HX6 := zh h6
  have HC6 := zh (G_expr n HNN.out W0 A c w5 p i5 d5 out5 ve5 _ HP5.out HX6.out)
  clear h6
  go_wp2_with (go_at_call 65; (with_reducible refine cM HC6.out ?_); rintro e w6 ⟨rfl, ve6, h3⟩; have HS6 := zh (HS5.out.trans h3); clear h3)
  exact ⟨rfl, rfl, ve6, HS6.out⟩
 have HR6 := zh hr6
 clear hr6
 have HX6 := zh h6
 have HC6 := zh (G_expr n HNN.out W0 A c w5 p i5 d5 out5 ve5 _ HP5.out HX6.out)
 clear h6
 go_wp2_with (go_at_call 65; (with_reducible refine cM HC6.out ?_); rintro e w6 ⟨rfl, ve6, h2, h3⟩; have HP6 := zh h2; have HS6 := zh (HS5.out.trans h3); have HG6 := zh (mkeep (HT5.out.trans h3) HP0.out HG0.out); have HT6 := zh (HT5.out.trans h3); clear bx; have bx := cR 0 HG6.out; clear h2 h3)
 rcases srun_app l n [.word ⟨#[100, 111]⟩] ([.rule .r_body] ++ [.word ⟨#[101, 110, 100]⟩]) i6 d6 out6 r HR6.out with ⟨er, jj, rfl, h7⟩ | ⟨i7, d7, out7, h7, hr7⟩
 ·skip
  have HX7 := zh h7
  have HC7 := zh (words_new HP6.out [⟨#[100, 111]⟩] 1 [.string ⟨#[100, 111]⟩] rfl rfl (by decide) (by decide) HX7.out)
  clear h7
  go_wp2_with (go_at_call 36; (with_reducible refine cM HC7.out ?_); rintro e w7 ⟨rfl, ve7, h3⟩; have HS7 := zh (HS6.out.trans h3); clear h3)
  exact ⟨rfl, rfl, ve7, HS7.out⟩
 have HR7 := zh hr7
 clear hr7
 have HX7 := zh h7
 have HC7 := zh (words_new HP6.out [⟨#[100, 111]⟩] 1 [.string ⟨#[100, 111]⟩] rfl rfl (by decide) (by decide) HX7.out)
 clear h7
 go_wp2_with (go_at_call 36; (with_reducible refine cM HC7.out ?_); rintro e w7 ⟨rfl, ve7, h2, h3⟩; have HP7 := zh h2; have HS7 := zh (HS6.out.trans h3); have HG7 := zh (mkeep (HT6.out.trans h3) HP0.out HG0.out); have HT7 := zh (HT6.out.trans h3); clear bx; have bx := cR 0 HG7.out; clear h2 h3)
 rcases srun_app l n [.rule .r_body] [.word ⟨#[101, 110, 100]⟩] i7 d7 out7 r HR7.out with ⟨er, jj, rfl, h8⟩ | ⟨i8, d8, out8, h8, hr8⟩
 ·skip
  have HX8 := zh h8
  have HC8 := zh (G_body n HNN.out W0 A c w7 p i7 d7 out7 ve7 _ HP7.out HX8.out)
  clear h8
  go_wp2_with (go_at_call 51; (with_reducible refine cM HC8.out ?_); rintro e w8 ⟨rfl, ve8, h3⟩; have HS8 := zh (HS7.out.trans h3); clear h3)
  exact ⟨rfl, rfl, ve8, HS8.out⟩
 have HR8 := zh hr8
 clear hr8
 have HX8 := zh h8
 have HC8 := zh (G_body n HNN.out W0 A c w7 p i7 d7 out7 ve7 _ HP7.out HX8.out)
 clear h8
 go_wp2_with (go_at_call 51; (with_reducible refine cM HC8.out ?_); rintro e w8 ⟨rfl, ve8, h2, h3⟩; have HP8 := zh h2; have HS8 := zh (HS7.out.trans h3); have HG8 := zh (mkeep (HT7.out.trans h3) HP0.out HG0.out); have HT8 := zh (HT7.out.trans h3); clear bx; have bx := cR 0 HG8.out; clear h2 h3)
 have h9 := HR8.out
 cases r with
 | ok i9 d9 out9 =>
  have HX9 := zh h9
  have HC9 := zh (words_new HP8.out [⟨#[101, 110, 100]⟩] 1 [.string ⟨#[101, 110, 100]⟩] rfl rfl (by decide) (by decide) HX9.out)
  clear h9
  go_wp2_with (go_at_call 36; (with_reducible refine cM HC9.out ?_); rintro e w9 ⟨rfl, ve9, h2, h3⟩; have HP9 := zh h2; have HS9 := zh (HS8.out.trans h3); have HG9 := zh (mkeep (HT8.out.trans h3) HP0.out HG0.out); have HT9 := zh (HT8.out.trans h3); clear bx; have bx := cR 0 HG9.out; clear h2 h3)
  go_end0
  exact ⟨rfl, ve9, HP9.out, HS9.out⟩
 | err er jj =>
  have HX9 := zh h9
  have HC9 := zh (words_new HP8.out [⟨#[101, 110, 100]⟩] 1 [.string ⟨#[101, 110, 100]⟩] rfl rfl (by decide) (by decide) HX9.out)
  clear h9
  go_wp2_with (go_at_call 36; (with_reducible refine cM HC9.out ?_); rintro e w9 ⟨rfl, ve9, h3⟩; have HS9 := zh (HS8.out.trans h3); clear h3)
  exact ⟨rfl, rfl, ve9, HS9.out⟩
end Go.Proofs.YtmjbpgnjgblnmaaGreat
