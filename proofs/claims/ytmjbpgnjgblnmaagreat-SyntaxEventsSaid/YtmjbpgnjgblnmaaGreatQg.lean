/- What the claim stands on: part Qg. -/
import Derived.Test.YtmjbpgnjgblnmaaGreatQf
set_option linter.unusedVariables false
set_option linter.unusedSimpArgs false
namespace Go.Proofs.YtmjbpgnjgblnmaaGreat
open Go.RowKit Go.Proofs.YtmjbpgnjgblnmaaGreatW.PrintWords Go.Proofs.YtmjbpgnjgblnmaaGreatW.PrintLast Go.Proofs.YtmjbpgnjgblnmaaGreatW.PrintMore
theorem cell_lt {w : World} {a : Addr} {v : Value} (h : w.cell? a = some v) : a.block < w.heap.size := by
 rcases Nat.lt_or_ge a.block w.heap.size with h1 | h1
 ·exact h1
 ·simp [World.cell?, Array.getElem?_eq_none h1] at h
theorem drop_at {l : List Tk} {i : Nat} {t : Tk} (h : l[i]? = some t) : l.drop i = t :: l.drop (i + 1) := by
 have hi := (List.getElem?_eq_some_iff.1 h).1
 rw [List.drop_eq_getElem_cons hi]
 have := (List.getElem?_eq_some_iff.1 h).2
 rw [this]
theorem sgrown {W0 : World} {A : Option Addr} {c : Nat} {l : List Tk} {w : World} {p : Nat} {i : Nat} {d : Int} {out : List Ev} {ve : Value} {w6 : World} {ad : Addr} {t : Tk} (H : SAt W0 A c l w p i d out ve) (HA : A = some ad ∧ i < l.length) (hg : w.grownBy w6 ve.ownBlock) (hs : w.cell? ⟨p, 0, none⟩ = some (.slice (some ad) l.length c) ∧ w.cell? ⟨p, 1, none⟩ = some (.int .i64 i) ∧ w.cell? ⟨p, 3, none⟩ = some (ve) ∧ w.cell? (ad.add (i * 6)) = some (.int .u8 t.f0) ∧ w.cell? ⟨(ad.add (i * 6)).block, (ad.add (i * 6)).off + 1, none⟩ = some (.string t.f1) ∧ w.cell? ⟨(ad.add (i * 6)).block, (ad.add (i * 6)).off + 2, none⟩ = some (.int .i64 t.f2.f0) ∧ w.cell? ⟨(ad.add (i * 6)).block, (ad.add (i * 6)).off + 3, none⟩ = some (.int .i64 t.f2.f1) ∧ w.cell? ⟨(ad.add (i * 6)).block, (ad.add (i * 6)).off + 4, none⟩ = some (.int .i64 t.f2.f2) ∧ w.cell? ⟨(ad.add (i * 6)).block, (ad.add (i * 6)).off + 5, none⟩ = some (.int .i64 t.f3)) : w6.cell? ⟨p, 0, none⟩ = some (.slice (some ad) l.length c) ∧ w6.cell? ⟨p, 1, none⟩ = some (.int .i64 i) ∧ w6.cell? ⟨p, 3, none⟩ = some (ve) ∧ w6.cell? (ad.add (i * 6)) = some (.int .u8 t.f0) ∧ w6.cell? ⟨(ad.add (i * 6)).block, (ad.add (i * 6)).off + 1, none⟩ = some (.string t.f1) ∧ w6.cell? ⟨(ad.add (i * 6)).block, (ad.add (i * 6)).off + 2, none⟩ = some (.int .i64 t.f2.f0) ∧ w6.cell? ⟨(ad.add (i * 6)).block, (ad.add (i * 6)).off + 3, none⟩ = some (.int .i64 t.f2.f1) ∧ w6.cell? ⟨(ad.add (i * 6)).block, (ad.add (i * 6)).off + 4, none⟩ = some (.int .i64 t.f2.f2) ∧ w6.cell? ⟨(ad.add (i * 6)).block, (ad.add (i * 6)).off + 5, none⟩ = some (.int .i64 t.f3) := by
 have hpe : ve.ownBlock ≠ some p := fun e => by
  obtain ⟨cs, hc⟩ := own_typed H.row p e
  rw [H.box] at hc; cases hc
 have hb := hg.block p (blk_lt H.box) (fun e => hpe e.symm)
 have hlt : (ad.add (i * 6)).block < W0.heap.size := by
  obtain ⟨ad2, hA2, hcells⟩ := tok_cells H.toks i HA.2
  rw [HA.1] at hA2
  injection hA2 with hA2
  subst hA2
  obtain ⟨h0, _⟩ := hcells W0 (Below.refl _ _)
  exact cell_lt h0
 have hbt := hg.block (ad.add (i * 6)).block (Nat.lt_of_lt_of_le hlt H.below.size) (fun e => by
  have h1 := own_base H.row _ e.symm
  have h2 := H.hp
  omega)
 obtain ⟨h0, h1, h3, t0, t1, t2, t3, t4, t5⟩ := hs
 exact ⟨(World.cell?_of_block (a := ⟨p, 0, none⟩) hb).trans h0, (World.cell?_of_block (a := ⟨p, 1, none⟩) hb).trans h1, (World.cell?_of_block (a := ⟨p, 3, none⟩) hb).trans h3, (World.cell?_of_block hbt).trans t0, (World.cell?_of_block (a := ⟨(ad.add (i * 6)).block, (ad.add (i * 6)).off + 1, none⟩) hbt).trans t1, (World.cell?_of_block (a := ⟨(ad.add (i * 6)).block, (ad.add (i * 6)).off + 2, none⟩) hbt).trans t2, (World.cell?_of_block (a := ⟨(ad.add (i * 6)).block, (ad.add (i * 6)).off + 3, none⟩) hbt).trans t3, (World.cell?_of_block (a := ⟨(ad.add (i * 6)).block, (ad.add (i * 6)).off + 4, none⟩) hbt).trans t4, (World.cell?_of_block (a := ⟨(ad.add (i * 6)).block, (ad.add (i * 6)).off + 5, none⟩) hbt).trans t5⟩
theorem nAt_note {l : List Tk} {i : Nat} {t : Tk} (h : l[i]? = some t) (hn : isNote t = true) : nAt l i = t :: nAt l (i + 1) := by
 unfold nAt
 rw [drop_at h, List.takeWhile_cons, if_pos hn]
theorem nAt_else {l : List Tk} {i : Nat} {t : Tk} (h : l[i]? = some t) (hn : isNote t = false) : nAt l i = [] := by
 unfold nAt
 rw [drop_at h, List.takeWhile_cons, if_neg (by simp [hn])]
theorem nAt_end {l : List Tk} {i : Nat} (h : l.length ≤ i) : nAt l i = [] := by
 unfold nAt
 rw [List.drop_of_length_le h]
 rfl
theorem nAt_len (l : List Tk) (i : Nat) : (nAt l i).length ≤ l.length := by
 unfold nAt
 exact Nat.le_trans (List.takeWhile_sublist _).length_le (by rw [List.length_drop]; omega)
theorem rd_of {l : List Tk} {i : Nat} {t : Tk} (h : l[i]? = some t) : PSyntaxEvents.rd_T28 l i = t := by simp [PSyntaxEvents.rd_T28, List.getD_eq_getElem?_getD, h]
theorem rd_get (l : List Tk) (i : Nat) (hi : i < l.length) : l[i]? = some (PSyntaxEvents.rd_T28 l i) := by
 rw [rd_of (List.getElem?_eq_getElem hi)]
 exact List.getElem?_eq_getElem hi
theorem idx4 {i n : Nat} (h : i < n) (hn : n ≤ 4194304) : (i : Int) < (n : Int) ∧ (0 : Int) ≤ (i : Int) ∧ wrap64 ((i : Int) + 1) = (i : Int) + 1 ∧ IntKind.i64.wrap ((i : Int) + 1) = (i : Int) + 1 := by
 simp only [IntKind.wrap_i64]
 unfold wrap64
 omega
structure ComI (W0 : World) (A : Option Addr) (c : Nat) (l : List Tk) (w : World) (p : Nat) (i : Nat) (d : Int) (out : List Ev) (ve : Value) (wr : World) (j : Nat) (out' : List Ev) (ve' : Value) : Prop where
 at_ : SAt W0 A c l wr p j d out' ve'
 step : MStep p ve w ve' wr
 i_ : j + (nAt l j).length = i + (nAt l i).length
 o_ : out' ++ (nAt l j).map noteE = out ++ (nAt l i).map noteE
theorem ComI.next {W0 : World} {A : Option Addr} {c : Nat} {l : List Tk} {w : World} {p : Nat} {i : Nat} {d : Int} {out : List Ev} {ve : Value} {wr w2 : World} {j : Nat} {out' : List Ev} {ve' ve2 : Value} {t : Tk} (H : ComI W0 A c l w p i d out ve wr j out' ve') (h : l[j]? = some t) (hn : isNote t = true)
  (h2 : SAt W0 A c l w2 p (j + 1) d (out' ++ [noteE t]) ve2) (hs : MStep p ve' wr ve2 w2) : ComI W0 A c l w p i d out ve w2 (j + 1) (out' ++ [noteE t]) ve2 := by
 have h1 := H.i_
 have h3 := H.o_
 rw [nAt_note h hn] at h1 h3
 refine ⟨h2, H.step.trans hs, ?_, ?_⟩
 ·rw [← h1, List.length_cons]; omega
 ·rw [← h3, List.map_cons, List.append_assoc]; rfl
set_option maxRecDepth 100000 in
set_option maxHeartbeats 8000000 in
theorem comments_any {W0 : World} {A : Option Addr} {c : Nat} {l : List Tk} {w : World} {p : Nat} {i : Nat} {d : Int} {out : List Ev} {ve : Value} (H : SAt W0 A c l w p i d out ve) (hout : out.length ≤ 549755813888) :
  Calls Tryz.prog 35 #[.pointer (some ⟨p, 0, none⟩)] w fun e w' => e = .returned (.tuple #[]) ∧ ∃ ve', SAt W0 A c l w' p (i + (nAt l i).length) d (out ++ (nAt l i).map noteE) ve' ∧ MStep p ve w ve' w' := by
 have HI0 : Hid (ComI W0 A c l w p i d out ve w i out ve) := Lib.hid ⟨H, PStep.refl _ _ _ _, rfl, rfl⟩
 have HLL := Lib.hid (And.intro H.len hout)
 clear H hout
 go_enter Tryz.func35, Tryz.ntmps35
 go_wp2
 go_loopg [39] (l.length + 1) (fun kq v39 wr => Hid (∃ j out' ve', j + kq = i + l.length + 1 ∧ ComI W0 A c l w p i d out ve wr j out' ve'))
 case atStart => exact Lib.hid ⟨i, out, ve, by omega, HI0.out⟩
 case round =>
  obtain ⟨i1, out1, ve1, hk, H⟩ := hrel.out
  cases gk with
  | zero => have := H.at_.ile; omega
  | succ k1 =>
   obtain ⟨q0, q1, q2, q3⟩ := H.at_.cell
   have hlo : out1.length ≤ 824633720832 := by
    have h1 := congrArg List.length H.o_
    rw [List.length_append, List.length_append, List.length_map, List.length_map] at h1
    have h2 := HLL.out
    have h3 : (nAt l i).length ≤ l.length := nAt_len l i
    omega
   by_cases hj : i1 < l.length
   ·obtain ⟨ad, hA, htc⟩ := tok_cells H.at_.toks i1 hj
    have hg := rd_get l i1 hj
    obtain ⟨t, ht⟩ : ∃ t, PSyntaxEvents.rd_T28 l i1 = t := ⟨_, rfl⟩
    rw [ht] at htc hg
    have hAd := hA
    subst hA
    obtain ⟨c0, c1, c2, c3, c4, c5⟩ := htc wr H.at_.below
    obtain ⟨g1, g2, g3, g4⟩ := idx4 hj H.at_.len
    obtain ⟨k7, hk7⟩ : ∃ k7, (t.f0 == 7) = k7 := ⟨_, rfl⟩
    obtain ⟨k8, hk8⟩ : ∃ k8, (t.f0 == 8) = k8 := ⟨_, rfl⟩
    have hnote : isNote t = (k7 || k8) := by unfold isNote; rw [hk7, hk8]
    have HH := Lib.hid H
    have HG := Lib.hid hg
    have HK := Lib.hid hk
    have HNT := Lib.hid hnote
    have HT6 := Lib.hid hj
    have HLO := Lib.hid hlo
    clear H hrel HI0 htc ht hg hk hnote hAd hlo
    cases k7 with
    | true =>
     go_wp2
     obtain ⟨Wd1, hWd⟩ : ∃ V, wr.drew = V := ⟨_, rfl⟩
     have hbd : Below wr.heap.size wr Wd1 := by rw [← hWd]; exact (Below.refl _ wr).drew
     have hSall : ∀ V, Below wr.heap.size wr V → V.cell? ⟨p, 0, none⟩ = some (.slice (some ad) l.length c) ∧ V.cell? ⟨p, 1, none⟩ = some (.int .i64 i1) ∧ V.cell? (ad.add (i1 * 6)) = some (.int .u8 t.f0) := fun V hV => ⟨pw_cell_below hV q0, pw_cell_below hV q1, pw_cell_below hV c0⟩
     have HSA := Lib.hid hSall
     have HS := Lib.hid (hSall Wd1 hbd)
     have HBD := Lib.hid hbd
     have HWd := Lib.hid hWd
     clear hSall hbd hWd
     refine wp_region_R (fun w' => w'.cell? ⟨p, 0, none⟩ = some (.slice (some ad) l.length c) ∧ w'.cell? ⟨p, 1, none⟩ = some (.int .i64 i1) ∧ w'.cell? (ad.add (i1 * 6)) = some (.int .u8 t.f0)) (fun j => true) (by kernel_rfl) ?_
     rw [HWd.out]
     refine anyR_take (i := 0) (oi := ⟨some 2, .move (.tmp 0), 54, "syntax.go:51", #[], none⟩) (v := ?_) rfl (by kernel_rfl) (fun _ _ _ h => h) (Or.inl ⟨by rfl, ?_⟩) HS.out ?_
     rotate_left
     ·intro x h; (try dsimp only at h); go_simp; try (with_reducible rfl)
     try simp only [Act.put, List.setIfInBounds_toArray, List.set]
     refine anyR_take (i := 1) (oi := ⟨some 3, .nilCheck (.tmp 2), 0, "syntax.go:51", #[⟨0, .data⟩], none⟩) (v := ?_) rfl (by kernel_rfl) (fun _ _ _ h => h) (Or.inl ⟨by rfl, ?_⟩) HS.out ?_
     rotate_left
     ·intro x h; (try dsimp only at h); go_simp; try (with_reducible rfl)
     try simp only [Act.put, List.setIfInBounds_toArray, List.set]
     refine anyR_take (i := 2) (oi := ⟨some 4, .fieldAddr 56 (.tmp 3) 1, 0, "syntax.go:51", #[⟨1, .data⟩], none⟩) (v := ?_) rfl (by kernel_rfl) (fun _ _ _ h => h) (Or.inl ⟨by rfl, ?_⟩) HS.out ?_
     rotate_left
     ·intro x h; (try dsimp only at h); go_simp; try (with_reducible rfl)
     try simp only [Act.put, List.setIfInBounds_toArray, List.set]
     refine anyR_take (i := 3) (oi := ⟨some 5, .load 3 (.tmp 4), 3, "syntax.go:51", #[⟨2, .data⟩], none⟩) (v := ?_) rfl (by kernel_rfl) (fun _ _ _ h => h) (Or.inl ⟨by rfl, ?_⟩) HS.out ?_
     rotate_left
     ·intro x h; (try dsimp only at h); go_simp; try (with_reducible rfl)
     try simp only [Act.put, List.setIfInBounds_toArray, List.set]
     refine anyR_take (i := 4) (oi := ⟨some 6, .move (.tmp 0), 54, "syntax.go:51", #[], none⟩) (v := ?_) rfl (by kernel_rfl) (fun _ _ _ h => h) (Or.inl ⟨by rfl, ?_⟩) HS.out ?_
     rotate_left
     ·intro x h; (try dsimp only at h); go_simp; try (with_reducible rfl)
     try simp only [Act.put, List.setIfInBounds_toArray, List.set]
     refine anyR_take (i := 5) (oi := ⟨some 7, .nilCheck (.tmp 6), 0, "syntax.go:51", #[⟨4, .data⟩], none⟩) (v := ?_) rfl (by kernel_rfl) (fun _ _ _ h => h) (Or.inl ⟨by rfl, ?_⟩) HS.out ?_
     rotate_left
     ·intro x h; (try dsimp only at h); go_simp; try (with_reducible rfl)
     try simp only [Act.put, List.setIfInBounds_toArray, List.set]
     refine anyR_take (i := 6) (oi := ⟨some 8, .fieldAddr 56 (.tmp 7) 0, 0, "syntax.go:51", #[⟨5, .data⟩], none⟩) (v := ?_) rfl (by kernel_rfl) (fun _ _ _ h => h) (Or.inl ⟨by rfl, ?_⟩) HS.out ?_
     rotate_left
     ·intro x h; (try dsimp only at h); go_simp; try (with_reducible rfl)
     try simp only [Act.put, List.setIfInBounds_toArray, List.set]
     refine anyR_take (i := 7) (oi := ⟨some 9, .load 22 (.tmp 8), 22, "syntax.go:51", #[⟨6, .data⟩], none⟩) (v := ?_) rfl (by kernel_rfl) (fun _ _ _ h => h) (Or.inl ⟨by rfl, ?_⟩) HS.out ?_
     rotate_left
     ·intro x h; (try dsimp only at h); go_simp; try (with_reducible rfl)
     try simp only [Act.put, List.setIfInBounds_toArray, List.set]
     refine anyR_take (i := 8) (oi := ⟨some 10, .call { callee := .builtin .len, args := #[.tmp 9], argTypes := #[22] }, 3, "syntax.go:51", #[⟨7, .data⟩], none⟩) (v := ?_) rfl (by kernel_rfl) (fun _ _ _ h => h) (Or.inl ⟨by rfl, ?_⟩) HS.out ?_
     rotate_left
     ·intro x h; (try dsimp only at h); go_simp; try (with_reducible rfl)
     try simp only [Act.put, List.setIfInBounds_toArray, List.set]
     refine anyR_take (i := 9) (oi := ⟨some 11, .binOp .lss 3 (.tmp 5) (.tmp 10) 3, 4, "syntax.go:51", #[⟨3, .data⟩, ⟨8, .data⟩], none⟩) (v := ?_) rfl (by kernel_rfl) (fun _ _ _ h => h) (Or.inl ⟨by rfl, ?_⟩) HS.out ?_
     rotate_left
     ·intro x h; (try dsimp only at h); go_simp; try (with_reducible rfl)
     try simp only [Act.put, List.setIfInBounds_toArray, List.set]
     refine anyR_take (i := 10) (oi := ⟨some 12, .move (.tmp 11), 4, "syntax.go:51", #[⟨9, .data⟩], none⟩) (v := ?_) rfl (by kernel_rfl) (fun _ _ _ h => h) (Or.inl ⟨by rfl, ?_⟩) HS.out ?_
     rotate_left
     ·intro x h; (try dsimp only at h); go_simp; try (with_reducible rfl)
     try simp only [Act.put, List.setIfInBounds_toArray, List.set]
     refine anyR_take (i := 11) (oi := ⟨some 13, .move (.tmp 0), 54, "syntax.go:51", #[⟨10, .guard⟩], some (10, true)⟩) (v := ?_) rfl (by kernel_rfl) (fun _ _ _ h => h) (Or.inl ⟨by rfl, ?_⟩) HS.out ?_
     rotate_left
     ·intro x h; (try dsimp only at h); go_simp; try (with_reducible rfl)
     try simp only [Act.put, List.setIfInBounds_toArray, List.set]
     refine anyR_take (i := 12) (oi := ⟨some 14, .nilCheck (.tmp 13), 0, "syntax.go:51", #[⟨11, .data⟩, ⟨10, .guard⟩], some (10, true)⟩) (v := ?_) rfl (by kernel_rfl) (fun _ _ _ h => h) (Or.inl ⟨by rfl, ?_⟩) HS.out ?_
     rotate_left
     ·intro x h; (try dsimp only at h); go_simp; try (with_reducible rfl)
     try simp only [Act.put, List.setIfInBounds_toArray, List.set]
     refine anyR_take (i := 13) (oi := ⟨some 15, .fieldAddr 56 (.tmp 14) 0, 0, "syntax.go:51", #[⟨12, .data⟩, ⟨10, .guard⟩], some (10, true)⟩) (v := ?_) rfl (by kernel_rfl) (fun _ _ _ h => h) (Or.inl ⟨by rfl, ?_⟩) HS.out ?_
     rotate_left
     ·intro x h; (try dsimp only at h); go_simp; try (with_reducible rfl)
     try simp only [Act.put, List.setIfInBounds_toArray, List.set]
     refine anyR_take (i := 14) (oi := ⟨some 16, .load 22 (.tmp 15), 22, "syntax.go:51", #[⟨13, .data⟩, ⟨10, .guard⟩], some (10, true)⟩) (v := ?_) rfl (by kernel_rfl) (fun _ _ _ h => h) (Or.inl ⟨by rfl, ?_⟩) HS.out ?_
     rotate_left
     ·intro x h; (try dsimp only at h); go_simp; try (with_reducible rfl)
     try simp only [Act.put, List.setIfInBounds_toArray, List.set]
     refine anyR_take (i := 15) (oi := ⟨some 17, .move (.tmp 0), 54, "syntax.go:51", #[⟨10, .guard⟩], some (10, true)⟩) (v := ?_) rfl (by kernel_rfl) (fun _ _ _ h => h) (Or.inl ⟨by rfl, ?_⟩) HS.out ?_
     rotate_left
     ·intro x h; (try dsimp only at h); go_simp; try (with_reducible rfl)
     try simp only [Act.put, List.setIfInBounds_toArray, List.set]
     refine anyR_take (i := 16) (oi := ⟨some 18, .nilCheck (.tmp 17), 0, "syntax.go:51", #[⟨15, .data⟩, ⟨10, .guard⟩], some (10, true)⟩) (v := ?_) rfl (by kernel_rfl) (fun _ _ _ h => h) (Or.inl ⟨by rfl, ?_⟩) HS.out ?_
     rotate_left
     ·intro x h; (try dsimp only at h); go_simp; try (with_reducible rfl)
     try simp only [Act.put, List.setIfInBounds_toArray, List.set]
     refine anyR_take (i := 17) (oi := ⟨some 19, .fieldAddr 56 (.tmp 18) 1, 0, "syntax.go:51", #[⟨16, .data⟩, ⟨10, .guard⟩], some (10, true)⟩) (v := ?_) rfl (by kernel_rfl) (fun _ _ _ h => h) (Or.inl ⟨by rfl, ?_⟩) HS.out ?_
     rotate_left
     ·intro x h; (try dsimp only at h); go_simp; try (with_reducible rfl)
     try simp only [Act.put, List.setIfInBounds_toArray, List.set]
     refine anyR_take (i := 18) (oi := ⟨some 20, .load 3 (.tmp 19), 3, "syntax.go:51", #[⟨17, .data⟩, ⟨10, .guard⟩], some (10, true)⟩) (v := ?_) rfl (by kernel_rfl) (fun _ _ _ h => h) (Or.inl ⟨by rfl, ?_⟩) HS.out ?_
     rotate_left
     ·intro x h; (try dsimp only at h); go_simp; try (with_reducible rfl)
     try simp only [Act.put, List.setIfInBounds_toArray, List.set]
     refine anyR_take (i := 19) (oi := ⟨some 21, .indexAddr 22 (.tmp 16) (.tmp 20), 0, "syntax.go:51", #[⟨14, .data⟩, ⟨18, .data⟩, ⟨10, .guard⟩], some (10, true)⟩) (v := ?_) rfl (by kernel_rfl) (fun _ _ _ h => h) (Or.inl ⟨by rfl, ?_⟩) HS.out ?_
     rotate_left
     ·intro x h; (try dsimp only at h); go_simp; try (with_reducible rfl)
     try simp only [Act.put, List.setIfInBounds_toArray, List.set]
     refine anyR_take (i := 20) (oi := ⟨some 22, .fieldAddr 28 (.tmp 21) 0, 0, "syntax.go:51", #[⟨19, .data⟩, ⟨10, .guard⟩], some (10, true)⟩) (v := ?_) rfl (by kernel_rfl) (fun _ _ _ h => h) (Or.inl ⟨by rfl, ?_⟩) HS.out ?_
     rotate_left
     ·intro x h; (try dsimp only at h); go_simp; try (with_reducible rfl)
     try simp only [Act.put, List.setIfInBounds_toArray, List.set]
     refine anyR_take (i := 21) (oi := ⟨some 23, .load 24 (.tmp 22), 24, "syntax.go:51", #[⟨20, .data⟩, ⟨10, .guard⟩], some (10, true)⟩) (v := ?_) rfl (by kernel_rfl) (fun _ _ _ h => h) (Or.inl ⟨by rfl, ?_⟩) HS.out ?_
     rotate_left
     ·intro x h; (try dsimp only at h); go_simp; try (with_reducible rfl)
     try simp only [Act.put, List.setIfInBounds_toArray, List.set]
     refine anyR_take (i := 22) (oi := ⟨some 24, .binOp .eql 24 (.tmp 23) (.const (.int .u8 7)) 24, 4, "syntax.go:51", #[⟨21, .data⟩, ⟨10, .guard⟩], some (10, true)⟩) (v := ?_) rfl (by kernel_rfl) (fun _ _ _ h => h) (Or.inl ⟨by rfl, ?_⟩) HS.out ?_
     rotate_left
     ·intro x h; (try dsimp only at h); go_simp; try (with_reducible rfl)
     try simp only [Act.put, List.setIfInBounds_toArray, List.set]
     refine anyR_take (i := 23) (oi := ⟨some 25, .move (.tmp 24), 4, "syntax.go:51", #[⟨22, .data⟩, ⟨10, .chain⟩, ⟨10, .guard⟩], some (10, true)⟩) (v := ?_) rfl (by kernel_rfl) (fun _ _ _ h => h) (Or.inl ⟨by rfl, ?_⟩) HS.out ?_
     rotate_left
     ·intro x h; (try dsimp only at h); go_simp; try (with_reducible rfl)
     try simp only [Act.put, List.setIfInBounds_toArray, List.set]
     refine anyR_take (i := 24) (oi := ⟨some 26, .move (.tmp 0), 54, "syntax.go:51", #[⟨23, .guard⟩], some (23, false)⟩) (v := _) rfl (by kernel_rfl) (fun _ _ _ h => h) (Or.inr ⟨by rfl, rfl⟩) HS.out ?_
     try simp only [Act.put, List.setIfInBounds_toArray, List.set]
     refine anyR_take (i := 25) (oi := ⟨some 27, .nilCheck (.tmp 26), 0, "syntax.go:51", #[⟨24, .data⟩, ⟨23, .guard⟩], some (23, false)⟩) (v := _) rfl (by kernel_rfl) (fun _ _ _ h => h) (Or.inr ⟨by rfl, rfl⟩) HS.out ?_
     try simp only [Act.put, List.setIfInBounds_toArray, List.set]
     refine anyR_take (i := 26) (oi := ⟨some 28, .fieldAddr 56 (.tmp 27) 0, 0, "syntax.go:51", #[⟨25, .data⟩, ⟨23, .guard⟩], some (23, false)⟩) (v := _) rfl (by kernel_rfl) (fun _ _ _ h => h) (Or.inr ⟨by rfl, rfl⟩) HS.out ?_
     try simp only [Act.put, List.setIfInBounds_toArray, List.set]
     refine anyR_take (i := 27) (oi := ⟨some 29, .load 22 (.tmp 28), 22, "syntax.go:51", #[⟨26, .data⟩, ⟨23, .guard⟩], some (23, false)⟩) (v := _) rfl (by kernel_rfl) (fun _ _ _ h => h) (Or.inr ⟨by rfl, rfl⟩) HS.out ?_
     try simp only [Act.put, List.setIfInBounds_toArray, List.set]
     refine anyR_take (i := 28) (oi := ⟨some 30, .move (.tmp 0), 54, "syntax.go:51", #[⟨23, .guard⟩], some (23, false)⟩) (v := _) rfl (by kernel_rfl) (fun _ _ _ h => h) (Or.inr ⟨by rfl, rfl⟩) HS.out ?_
     try simp only [Act.put, List.setIfInBounds_toArray, List.set]
     refine anyR_take (i := 29) (oi := ⟨some 31, .nilCheck (.tmp 30), 0, "syntax.go:51", #[⟨28, .data⟩, ⟨23, .guard⟩], some (23, false)⟩) (v := _) rfl (by kernel_rfl) (fun _ _ _ h => h) (Or.inr ⟨by rfl, rfl⟩) HS.out ?_
     try simp only [Act.put, List.setIfInBounds_toArray, List.set]
     refine anyR_take (i := 30) (oi := ⟨some 32, .fieldAddr 56 (.tmp 31) 1, 0, "syntax.go:51", #[⟨29, .data⟩, ⟨23, .guard⟩], some (23, false)⟩) (v := _) rfl (by kernel_rfl) (fun _ _ _ h => h) (Or.inr ⟨by rfl, rfl⟩) HS.out ?_
     try simp only [Act.put, List.setIfInBounds_toArray, List.set]
     refine anyR_take (i := 31) (oi := ⟨some 33, .load 3 (.tmp 32), 3, "syntax.go:51", #[⟨30, .data⟩, ⟨23, .guard⟩], some (23, false)⟩) (v := _) rfl (by kernel_rfl) (fun _ _ _ h => h) (Or.inr ⟨by rfl, rfl⟩) HS.out ?_
     try simp only [Act.put, List.setIfInBounds_toArray, List.set]
     refine anyR_take (i := 32) (oi := ⟨some 34, .indexAddr 22 (.tmp 29) (.tmp 33), 0, "syntax.go:51", #[⟨27, .data⟩, ⟨31, .data⟩, ⟨23, .guard⟩], some (23, false)⟩) (v := _) rfl (by kernel_rfl) (fun _ _ _ h => h) (Or.inr ⟨by rfl, rfl⟩) HS.out ?_
     try simp only [Act.put, List.setIfInBounds_toArray, List.set]
     refine anyR_take (i := 33) (oi := ⟨some 35, .fieldAddr 28 (.tmp 34) 0, 0, "syntax.go:51", #[⟨32, .data⟩, ⟨23, .guard⟩], some (23, false)⟩) (v := _) rfl (by kernel_rfl) (fun _ _ _ h => h) (Or.inr ⟨by rfl, rfl⟩) HS.out ?_
     try simp only [Act.put, List.setIfInBounds_toArray, List.set]
     refine anyR_take (i := 34) (oi := ⟨some 36, .load 24 (.tmp 35), 24, "syntax.go:51", #[⟨33, .data⟩, ⟨23, .guard⟩], some (23, false)⟩) (v := _) rfl (by kernel_rfl) (fun _ _ _ h => h) (Or.inr ⟨by rfl, rfl⟩) HS.out ?_
     try simp only [Act.put, List.setIfInBounds_toArray, List.set]
     refine anyR_take (i := 35) (oi := ⟨some 37, .binOp .eql 24 (.tmp 36) (.const (.int .u8 8)) 24, 4, "syntax.go:51", #[⟨34, .data⟩, ⟨23, .guard⟩], some (23, false)⟩) (v := _) rfl (by kernel_rfl) (fun _ _ _ h => h) (Or.inr ⟨by rfl, rfl⟩) HS.out ?_
     try simp only [Act.put, List.setIfInBounds_toArray, List.set]
     refine anyR_take (i := 36) (oi := ⟨some 38, .pick (.tmp 25) (.const (.bool true)) (.tmp 37), 4, "syntax.go:51", #[⟨23, .data⟩, ⟨35, .data⟩, ⟨10, .guard⟩], some (10, true)⟩) (v := ?_) rfl (by kernel_rfl) (fun _ _ _ h => h) (Or.inl ⟨by rfl, ?_⟩) HS.out ?_
     rotate_left
     ·intro x h; (try dsimp only at h); go_simp; try (with_reducible rfl)
     try simp only [Act.put, List.setIfInBounds_toArray, List.set]
     refine anyR_take (i := 37) (oi := ⟨some 39, .pick (.tmp 12) (.tmp 38) (.const (.bool false)), 4, "syntax.go:51", #[⟨10, .data⟩, ⟨36, .data⟩], none⟩) (v := ?_) rfl (by kernel_rfl) (fun _ _ _ h => h) (Or.inl ⟨by rfl, ?_⟩) HS.out ?_
     rotate_left
     ·intro x h; (try dsimp only at h); go_simp; try (with_reducible rfl)
     try simp only [Act.put, List.setIfInBounds_toArray, List.set]
     refine anyR_done (by kernel_rfl) ?_ _
     clear HS HSA HWd
     have HP5 := Lib.hid (HH.out.at_.moved HBD.out)
     have HQ5 := Lib.hid (PStep.below HBD.out : MStep p ve1 wr ve1 Wd1)
     clear q0 q1 q2 q3 c0 c1 c2 c3 c4 c5
     obtain ⟨q0, q1, q2, q3⟩ := HP5.out.cell
     obtain ⟨ad2, hA2, htc2⟩ := tok_cells HP5.out.toks i1 hj
     injection hA2 with hA2
     subst hA2
     rw [show PSyntaxEvents.rd_T28 l i1 = t from rd_of HG.out] at htc2
     obtain ⟨c0, c1, c2, c3, c4, c5⟩ := htc2 Wd1 HP5.out.below
     clear htc2 HBD
     go_upto_region 1 with (fail)
     obtain ⟨Wd2, hWd⟩ : ∃ V, Wd1.drew = V := ⟨_, rfl⟩
     have hbd : Below Wd1.heap.size Wd1 Wd2 := by rw [← hWd]; exact (Below.refl _ Wd1).drew
     have hSall : ∀ V, Below Wd1.heap.size Wd1 V → V.cell? ⟨p, 0, none⟩ = some (.slice (some ad) l.length c) ∧ V.cell? ⟨p, 1, none⟩ = some (.int .i64 i1) ∧ V.cell? ⟨p, 3, none⟩ = some (ve1) ∧ V.cell? (ad.add (i1 * 6)) = some (.int .u8 t.f0) ∧ V.cell? ⟨(ad.add (i1 * 6)).block, (ad.add (i1 * 6)).off + 1, none⟩ = some (.string t.f1) ∧ V.cell? ⟨(ad.add (i1 * 6)).block, (ad.add (i1 * 6)).off + 2, none⟩ = some (.int .i64 t.f2.f0) ∧ V.cell? ⟨(ad.add (i1 * 6)).block, (ad.add (i1 * 6)).off + 3, none⟩ = some (.int .i64 t.f2.f1) ∧ V.cell? ⟨(ad.add (i1 * 6)).block, (ad.add (i1 * 6)).off + 4, none⟩ = some (.int .i64 t.f2.f2) ∧ V.cell? ⟨(ad.add (i1 * 6)).block, (ad.add (i1 * 6)).off + 5, none⟩ = some (.int .i64 t.f3) := fun V hV => ⟨pw_cell_below hV q0, pw_cell_below hV q1, pw_cell_below hV q3, pw_cell_below hV c0, pw_cell_below hV c1, pw_cell_below hV c2, pw_cell_below hV c3, pw_cell_below hV c4, pw_cell_below hV c5⟩
     have HSA := Lib.hid hSall
     have HS := Lib.hid (hSall Wd2 hbd)
     have HBD := Lib.hid hbd
     have HWd := Lib.hid hWd
     clear hSall hbd hWd
     refine wp_region_R (fun w' => w'.cell? ⟨p, 0, none⟩ = some (.slice (some ad) l.length c) ∧ w'.cell? ⟨p, 1, none⟩ = some (.int .i64 i1) ∧ w'.cell? ⟨p, 3, none⟩ = some (ve1) ∧ w'.cell? (ad.add (i1 * 6)) = some (.int .u8 t.f0) ∧ w'.cell? ⟨(ad.add (i1 * 6)).block, (ad.add (i1 * 6)).off + 1, none⟩ = some (.string t.f1) ∧ w'.cell? ⟨(ad.add (i1 * 6)).block, (ad.add (i1 * 6)).off + 2, none⟩ = some (.int .i64 t.f2.f0) ∧ w'.cell? ⟨(ad.add (i1 * 6)).block, (ad.add (i1 * 6)).off + 3, none⟩ = some (.int .i64 t.f2.f1) ∧ w'.cell? ⟨(ad.add (i1 * 6)).block, (ad.add (i1 * 6)).off + 4, none⟩ = some (.int .i64 t.f2.f2) ∧ w'.cell? ⟨(ad.add (i1 * 6)).block, (ad.add (i1 * 6)).off + 5, none⟩ = some (.int .i64 t.f3)) (fun j => !(Nat.beq j 20)) (by kernel_rfl) ?_
     rw [HWd.out]
     refine anyR_take (i := 0) (oi := ⟨some 40, .move (.tmp 0), 54, "syntax.go:52", #[], none⟩) (v := ?_) rfl (by kernel_rfl) (fun _ _ _ h => h) (Or.inl ⟨by rfl, ?_⟩) HS.out ?_
     rotate_left
     ·intro x h; (try dsimp only at h); go_simp; try (with_reducible rfl)
     try simp only [Act.put, List.setIfInBounds_toArray, List.set]
     refine anyR_take (i := 1) (oi := ⟨some 41, .move (.tmp 0), 54, "syntax.go:52", #[], none⟩) (v := ?_) rfl (by kernel_rfl) (fun _ _ _ h => h) (Or.inl ⟨by rfl, ?_⟩) HS.out ?_
     rotate_left
     ·intro x h; (try dsimp only at h); go_simp; try (with_reducible rfl)
     try simp only [Act.put, List.setIfInBounds_toArray, List.set]
     refine anyR_take (i := 2) (oi := ⟨some 42, .nilCheck (.tmp 41), 0, "syntax.go:52", #[⟨1, .data⟩], none⟩) (v := ?_) rfl (by kernel_rfl) (fun _ _ _ h => h) (Or.inl ⟨by rfl, ?_⟩) HS.out ?_
     rotate_left
     ·intro x h; (try dsimp only at h); go_simp; try (with_reducible rfl)
     try simp only [Act.put, List.setIfInBounds_toArray, List.set]
     refine anyR_take (i := 3) (oi := ⟨some 43, .fieldAddr 56 (.tmp 42) 3, 0, "syntax.go:52", #[⟨2, .data⟩], none⟩) (v := ?_) rfl (by kernel_rfl) (fun _ _ _ h => h) (Or.inl ⟨by rfl, ?_⟩) HS.out ?_
     rotate_left
     ·intro x h; (try dsimp only at h); go_simp; try (with_reducible rfl)
     try simp only [Act.put, List.setIfInBounds_toArray, List.set]
     refine anyR_take (i := 4) (oi := ⟨some 44, .load 41 (.tmp 43), 41, "syntax.go:52", #[⟨3, .data⟩], none⟩) (v := ?_) rfl (by kernel_rfl) (fun _ _ _ h => h) (Or.inl ⟨by rfl, ?_⟩) HS.out ?_
     rotate_left
     ·intro x h; (try dsimp only at h); go_simp; try (with_reducible rfl)
     try simp only [Act.put, List.setIfInBounds_toArray, List.set]
     refine anyR_take (i := 5) (oi := ⟨some 45, .move (.tmp 0), 54, "syntax.go:52", #[], none⟩) (v := ?_) rfl (by kernel_rfl) (fun _ _ _ h => h) (Or.inl ⟨by rfl, ?_⟩) HS.out ?_
     rotate_left
     ·intro x h; (try dsimp only at h); go_simp; try (with_reducible rfl)
     try simp only [Act.put, List.setIfInBounds_toArray, List.set]
     refine anyR_take (i := 6) (oi := ⟨some 46, .nilCheck (.tmp 45), 0, "syntax.go:52", #[⟨5, .data⟩], none⟩) (v := ?_) rfl (by kernel_rfl) (fun _ _ _ h => h) (Or.inl ⟨by rfl, ?_⟩) HS.out ?_
     rotate_left
     ·intro x h; (try dsimp only at h); go_simp; try (with_reducible rfl)
     try simp only [Act.put, List.setIfInBounds_toArray, List.set]
     refine anyR_take (i := 7) (oi := ⟨some 47, .fieldAddr 56 (.tmp 46) 0, 0, "syntax.go:52", #[⟨6, .data⟩], none⟩) (v := ?_) rfl (by kernel_rfl) (fun _ _ _ h => h) (Or.inl ⟨by rfl, ?_⟩) HS.out ?_
     rotate_left
     ·intro x h; (try dsimp only at h); go_simp; try (with_reducible rfl)
     try simp only [Act.put, List.setIfInBounds_toArray, List.set]
     refine anyR_take (i := 8) (oi := ⟨some 48, .load 22 (.tmp 47), 22, "syntax.go:52", #[⟨7, .data⟩], none⟩) (v := ?_) rfl (by kernel_rfl) (fun _ _ _ h => h) (Or.inl ⟨by rfl, ?_⟩) HS.out ?_
     rotate_left
     ·intro x h; (try dsimp only at h); go_simp; try (with_reducible rfl)
     try simp only [Act.put, List.setIfInBounds_toArray, List.set]
     refine anyR_take (i := 9) (oi := ⟨some 49, .move (.tmp 0), 54, "syntax.go:52", #[], none⟩) (v := ?_) rfl (by kernel_rfl) (fun _ _ _ h => h) (Or.inl ⟨by rfl, ?_⟩) HS.out ?_
     rotate_left
     ·intro x h; (try dsimp only at h); go_simp; try (with_reducible rfl)
     try simp only [Act.put, List.setIfInBounds_toArray, List.set]
     refine anyR_take (i := 10) (oi := ⟨some 50, .nilCheck (.tmp 49), 0, "syntax.go:52", #[⟨9, .data⟩], none⟩) (v := ?_) rfl (by kernel_rfl) (fun _ _ _ h => h) (Or.inl ⟨by rfl, ?_⟩) HS.out ?_
     rotate_left
     ·intro x h; (try dsimp only at h); go_simp; try (with_reducible rfl)
     try simp only [Act.put, List.setIfInBounds_toArray, List.set]
     refine anyR_take (i := 11) (oi := ⟨some 51, .fieldAddr 56 (.tmp 50) 1, 0, "syntax.go:52", #[⟨10, .data⟩], none⟩) (v := ?_) rfl (by kernel_rfl) (fun _ _ _ h => h) (Or.inl ⟨by rfl, ?_⟩) HS.out ?_
     rotate_left
     ·intro x h; (try dsimp only at h); go_simp; try (with_reducible rfl)
     try simp only [Act.put, List.setIfInBounds_toArray, List.set]
     refine anyR_take (i := 12) (oi := ⟨some 52, .load 3 (.tmp 51), 3, "syntax.go:52", #[⟨11, .data⟩], none⟩) (v := ?_) rfl (by kernel_rfl) (fun _ _ _ h => h) (Or.inl ⟨by rfl, ?_⟩) HS.out ?_
     rotate_left
     ·intro x h; (try dsimp only at h); go_simp; try (with_reducible rfl)
     try simp only [Act.put, List.setIfInBounds_toArray, List.set]
     refine anyR_take (i := 13) (oi := ⟨some 53, .indexAddr 22 (.tmp 48) (.tmp 52), 0, "syntax.go:52", #[⟨8, .data⟩, ⟨12, .data⟩], none⟩) (v := ?_) rfl (by kernel_rfl) (fun _ _ _ h => h) (Or.inl ⟨by rfl, ?_⟩) HS.out ?_
     rotate_left
     ·intro x h; (try dsimp only at h); go_simp; try (with_reducible rfl)
     try simp only [Act.put, List.setIfInBounds_toArray, List.set]
     refine anyR_take (i := 14) (oi := ⟨some 54, .load 28 (.tmp 53), 28, "syntax.go:52", #[⟨13, .data⟩], none⟩) (v := ?_) rfl (by kernel_rfl) (fun _ _ _ h => h) (Or.inl ⟨by rfl, ?_⟩) HS.out ?_
     rotate_left
     ·intro x h; (try dsimp only at h); go_simp; try (with_reducible rfl)
     try simp only [Act.put, List.setIfInBounds_toArray, List.set]
     refine anyR_take (i := 15) (oi := ⟨some 55, .build 48 #[(0, .const (.int .u8 4)), (2, .tmp 54)], 48, "syntax.go:52", #[⟨14, .data⟩], none⟩) (v := ?_) rfl (by kernel_rfl) (fun _ _ _ h => h) (Or.inl ⟨by rfl, ?_⟩) HS.out ?_
     rotate_left
     ·intro x h; (try dsimp only at h); go_simp; try (with_reducible rfl)
     try simp only [Act.put, List.setIfInBounds_toArray, List.set]
     have HP6 := Lib.hid (HP5.out.moved HBD.out)
     refine anyR_ready (rs := [16]) (by kernel_rfl) (by simp) ?_
     refine ReadyR.cons (o := ⟨some 56, .buildSlice 41 1 #[(0, .tmp 55)], 41, "syntax.go:52", #[⟨15, .data⟩], none⟩) rfl (fun K hK => ?_) ReadyR.nil
     go_simp
     refine hK.out _ _ (fun _ => HSA.out _ (HBD.out.alloc HBD.out.size _)) ?_
     clear hK K
     try simp only [Act.put, List.setIfInBounds_toArray, List.set]
     refine anyR_ready (rs := [17]) (by kernel_rfl) (by simp) ?_
     refine ReadyR.cons (o := ⟨some 57, .call { callee := .builtin .append, args := #[.tmp 44, .tmp 56], argTypes := #[41, 41] }, 41, "syntax.go:52", #[⟨4, .data⟩, ⟨16, .data⟩], none⟩) rfl (fun K hK => ?_) ReadyR.nil
     refine step_ev (W := Wd2) rfl (.tmp 44) (.tmp 56) rfl p (u := ve1) (q := out1.length) (kc := out1.flatMap evCells) (cs := [.int .u8 4, .int .u8 0, .int .u8 t.f0, .string t.f1, .int .i64 t.f2.f0, .int .i64 t.f2.f1, .int .i64 t.f2.f2, .int .i64 t.f3]) rfl rfl HP6.out.row rfl (evCells_one (noteE t)) (Nat.le_of_lt (blk_lt HP6.out.box)) (by have := HLO.out; omega) ?_
     intro G9 C9 w6 ho hg hat
     obtain ⟨⟨cur6, hcur, hfit⟩, hnx⟩ := HP6.out.next (e := noteE t) ho hg hat
     have hS7 : w6.cell? ⟨p, 0, none⟩ = some (.slice (some ad) l.length c) ∧ w6.cell? ⟨p, 1, none⟩ = some (.int .i64 i1) ∧ w6.cell? ⟨p, 3, none⟩ = some (ve1) ∧ w6.cell? (ad.add (i1 * 6)) = some (.int .u8 t.f0) ∧ w6.cell? ⟨(ad.add (i1 * 6)).block, (ad.add (i1 * 6)).off + 1, none⟩ = some (.string t.f1) ∧ w6.cell? ⟨(ad.add (i1 * 6)).block, (ad.add (i1 * 6)).off + 2, none⟩ = some (.int .i64 t.f2.f0) ∧ w6.cell? ⟨(ad.add (i1 * 6)).block, (ad.add (i1 * 6)).off + 3, none⟩ = some (.int .i64 t.f2.f1) ∧ w6.cell? ⟨(ad.add (i1 * 6)).block, (ad.add (i1 * 6)).off + 4, none⟩ = some (.int .i64 t.f2.f2) ∧ w6.cell? ⟨(ad.add (i1 * 6)).block, (ad.add (i1 * 6)).off + 5, none⟩ = some (.int .i64 t.f3) := sgrown HP6.out ⟨rfl, HT6.out⟩ hg HS.out
     have HS7 := Lib.hid hS7
     have HCU := Lib.hid (And.intro hcur hfit)
     have HNX := Lib.hid hnx
     refine hK.out _ _ (fun _ => hS7) ?_
     clear hK K ho hg hat hS7 hcur hfit hnx
     try simp only [Act.put, List.setIfInBounds_toArray, List.set]
     refine anyR_ready (rs := [18]) (by kernel_rfl) (by simp) ?_
     refine ReadyR.cons (o := ⟨some 58, .nilCheck (.tmp 40), 0, "syntax.go:52", #[⟨0, .data⟩, ⟨0, .phase⟩, ⟨1, .phase⟩, ⟨2, .phase⟩, ⟨3, .phase⟩, ⟨4, .phase⟩, ⟨5, .phase⟩, ⟨6, .phase⟩, ⟨7, .phase⟩, ⟨8, .phase⟩, ⟨9, .phase⟩, ⟨10, .phase⟩, ⟨11, .phase⟩, ⟨12, .phase⟩, ⟨13, .phase⟩, ⟨14, .phase⟩, ⟨15, .phase⟩, ⟨16, .phase⟩, ⟨17, .phase⟩], none⟩) rfl (fun K hK => ?_) ReadyR.nil
     go_simp
     refine hK.out _ _ (fun _ => HS7.out) ?_
     clear hK K
     try simp only [Act.put, List.setIfInBounds_toArray, List.set]
     refine anyR_ready (rs := [19]) (by kernel_rfl) (by simp) ?_
     refine ReadyR.cons (o := ⟨some 59, .fieldAddr 56 (.tmp 58) 3, 0, "syntax.go:52", #[⟨18, .data⟩, ⟨0, .phase⟩, ⟨1, .phase⟩, ⟨2, .phase⟩, ⟨3, .phase⟩, ⟨4, .phase⟩, ⟨5, .phase⟩, ⟨6, .phase⟩, ⟨7, .phase⟩, ⟨8, .phase⟩, ⟨9, .phase⟩, ⟨10, .phase⟩, ⟨11, .phase⟩, ⟨12, .phase⟩, ⟨13, .phase⟩, ⟨14, .phase⟩, ⟨15, .phase⟩, ⟨16, .phase⟩, ⟨17, .phase⟩], none⟩) rfl (fun K hK => ?_) ReadyR.nil
     go_simp
     refine hK.out _ _ (fun _ => HS7.out) ?_
     clear hK K
     try simp only [Act.put, List.setIfInBounds_toArray, List.set]
     refine anyR_ready (rs := [20]) (by kernel_rfl) (by simp) ?_
     refine ReadyR.cons (o := ⟨none, .store 41 (.tmp 59) (.tmp 57), 0, "syntax.go:52", #[⟨19, .data⟩, ⟨17, .data⟩, ⟨17, .chain⟩, ⟨0, .phase⟩, ⟨1, .phase⟩, ⟨2, .phase⟩, ⟨3, .phase⟩, ⟨4, .phase⟩, ⟨5, .phase⟩, ⟨6, .phase⟩, ⟨7, .phase⟩, ⟨8, .phase⟩, ⟨9, .phase⟩, ⟨10, .phase⟩, ⟨11, .phase⟩, ⟨12, .phase⟩, ⟨13, .phase⟩, ⟨14, .phase⟩, ⟨15, .phase⟩, ⟨16, .phase⟩, ⟨17, .phase⟩], none⟩) rfl (fun K hK => ?_) ReadyR.nil
     refine step_store rfl rfl 41 (.tmp 59) (.tmp 57) rfl (g := p) (off := 3) (.slice (some ⟨G9, 0, none⟩) (out1.length + 1) C9) [.slice (some ⟨G9, 0, none⟩) (out1.length + 1) C9] rfl rfl rfl (by kernel_rfl) (fun v hv => by rw [List.mem_singleton.1 hv]; rfl) HCU.out.1 HCU.out.2 ?_
     have HN7 := Lib.hid (HNX.out _ rfl)
     refine hK.out _ _ (fun h => by cases h) ?_
     clear hK K HNX HCU HS7 HS HSA
     generalize w6.setCells p 3 [.slice (some ⟨G9, 0, none⟩) (out1.length + 1) C9] = V7 at HN7 ⊢
     try simp only [Act.put, List.setIfInBounds_toArray, List.set]
     refine anyR_done (by kernel_rfl) ?_ _
     have HP7 := Lib.hid HN7.out.1
     have HQ7 := Lib.hid (HQ5.out.trans ((PStep.below HBD.out).trans HN7.out.2))
     clear q0 q1 q2 q3 c0 c1 c2 c3 c4 c5 HN7
     obtain ⟨q0, q1, q2, q3⟩ := HP7.out.cell
     go_wp2_with ((with_reducible refine gate_ (.store 3 (.tmp 66) (.tmp 64)) rfl ?_); refine wl_cells rfl rfl _ _ _ rfl (g := p) (off := 1) (.int .i64 ((i1 : Int) + 1)) [.int .i64 ((i1 : Int) + 1)] rfl rfl rfl (by kernel_rfl) (fun v hv => by rw [List.mem_singleton.1 hv]; rfl) HP7.out.box (by simp) ?_; intro V8 hV; obtain ⟨hA, hS⟩ := HP7.out.upd 1 (.int .i64 ((i1 : Int) + 1)) (by decide) (i' := i1 + 1) (d' := d) rfl hj; rw [← hV] at hA hS; have HP8 := Lib.hid hA; have HQ8 := Lib.hid (HQ7.out.trans hS); clear q0 q1 q2 q3 hV hA hS)
     go_roundg k1
     case measure => omega
     case rel => exact Lib.hid ⟨i1 + 1, _, _, by have := HK.out; omega, HH.out.next HG.out HNT.out HP8.out HQ8.out⟩
    | false =>
     cases k8 with
     | true =>
      go_wp2
      obtain ⟨Wd1, hWd⟩ : ∃ V, wr.drew = V := ⟨_, rfl⟩
      have hbd : Below wr.heap.size wr Wd1 := by rw [← hWd]; exact (Below.refl _ wr).drew
      have hSall : ∀ V, Below wr.heap.size wr V → V.cell? ⟨p, 0, none⟩ = some (.slice (some ad) l.length c) ∧ V.cell? ⟨p, 1, none⟩ = some (.int .i64 i1) ∧ V.cell? (ad.add (i1 * 6)) = some (.int .u8 t.f0) := fun V hV => ⟨pw_cell_below hV q0, pw_cell_below hV q1, pw_cell_below hV c0⟩
      have HSA := Lib.hid hSall
      have HS := Lib.hid (hSall Wd1 hbd)
      have HBD := Lib.hid hbd
      have HWd := Lib.hid hWd
      clear hSall hbd hWd
      refine wp_region_R (fun w' => w'.cell? ⟨p, 0, none⟩ = some (.slice (some ad) l.length c) ∧ w'.cell? ⟨p, 1, none⟩ = some (.int .i64 i1) ∧ w'.cell? (ad.add (i1 * 6)) = some (.int .u8 t.f0)) (fun j => true) (by kernel_rfl) ?_
      rw [HWd.out]
      refine anyR_take (i := 0) (oi := ⟨some 2, .move (.tmp 0), 54, "syntax.go:51", #[], none⟩) (v := ?_) rfl (by kernel_rfl) (fun _ _ _ h => h) (Or.inl ⟨by rfl, ?_⟩) HS.out ?_
      rotate_left
      ·intro x h; (try dsimp only at h); go_simp; try (with_reducible rfl)
      try simp only [Act.put, List.setIfInBounds_toArray, List.set]
      refine anyR_take (i := 1) (oi := ⟨some 3, .nilCheck (.tmp 2), 0, "syntax.go:51", #[⟨0, .data⟩], none⟩) (v := ?_) rfl (by kernel_rfl) (fun _ _ _ h => h) (Or.inl ⟨by rfl, ?_⟩) HS.out ?_
      rotate_left
      ·intro x h; (try dsimp only at h); go_simp; try (with_reducible rfl)
      try simp only [Act.put, List.setIfInBounds_toArray, List.set]
      refine anyR_take (i := 2) (oi := ⟨some 4, .fieldAddr 56 (.tmp 3) 1, 0, "syntax.go:51", #[⟨1, .data⟩], none⟩) (v := ?_) rfl (by kernel_rfl) (fun _ _ _ h => h) (Or.inl ⟨by rfl, ?_⟩) HS.out ?_
      rotate_left
      ·intro x h; (try dsimp only at h); go_simp; try (with_reducible rfl)
      try simp only [Act.put, List.setIfInBounds_toArray, List.set]
      refine anyR_take (i := 3) (oi := ⟨some 5, .load 3 (.tmp 4), 3, "syntax.go:51", #[⟨2, .data⟩], none⟩) (v := ?_) rfl (by kernel_rfl) (fun _ _ _ h => h) (Or.inl ⟨by rfl, ?_⟩) HS.out ?_
      rotate_left
      ·intro x h; (try dsimp only at h); go_simp; try (with_reducible rfl)
      try simp only [Act.put, List.setIfInBounds_toArray, List.set]
      refine anyR_take (i := 4) (oi := ⟨some 6, .move (.tmp 0), 54, "syntax.go:51", #[], none⟩) (v := ?_) rfl (by kernel_rfl) (fun _ _ _ h => h) (Or.inl ⟨by rfl, ?_⟩) HS.out ?_
      rotate_left
      ·intro x h; (try dsimp only at h); go_simp; try (with_reducible rfl)
      try simp only [Act.put, List.setIfInBounds_toArray, List.set]
      refine anyR_take (i := 5) (oi := ⟨some 7, .nilCheck (.tmp 6), 0, "syntax.go:51", #[⟨4, .data⟩], none⟩) (v := ?_) rfl (by kernel_rfl) (fun _ _ _ h => h) (Or.inl ⟨by rfl, ?_⟩) HS.out ?_
      rotate_left
      ·intro x h; (try dsimp only at h); go_simp; try (with_reducible rfl)
      try simp only [Act.put, List.setIfInBounds_toArray, List.set]
      refine anyR_take (i := 6) (oi := ⟨some 8, .fieldAddr 56 (.tmp 7) 0, 0, "syntax.go:51", #[⟨5, .data⟩], none⟩) (v := ?_) rfl (by kernel_rfl) (fun _ _ _ h => h) (Or.inl ⟨by rfl, ?_⟩) HS.out ?_
      rotate_left
      ·intro x h; (try dsimp only at h); go_simp; try (with_reducible rfl)
      try simp only [Act.put, List.setIfInBounds_toArray, List.set]
      refine anyR_take (i := 7) (oi := ⟨some 9, .load 22 (.tmp 8), 22, "syntax.go:51", #[⟨6, .data⟩], none⟩) (v := ?_) rfl (by kernel_rfl) (fun _ _ _ h => h) (Or.inl ⟨by rfl, ?_⟩) HS.out ?_
      rotate_left
      ·intro x h; (try dsimp only at h); go_simp; try (with_reducible rfl)
      try simp only [Act.put, List.setIfInBounds_toArray, List.set]
      refine anyR_take (i := 8) (oi := ⟨some 10, .call { callee := .builtin .len, args := #[.tmp 9], argTypes := #[22] }, 3, "syntax.go:51", #[⟨7, .data⟩], none⟩) (v := ?_) rfl (by kernel_rfl) (fun _ _ _ h => h) (Or.inl ⟨by rfl, ?_⟩) HS.out ?_
      rotate_left
      ·intro x h; (try dsimp only at h); go_simp; try (with_reducible rfl)
      try simp only [Act.put, List.setIfInBounds_toArray, List.set]
      refine anyR_take (i := 9) (oi := ⟨some 11, .binOp .lss 3 (.tmp 5) (.tmp 10) 3, 4, "syntax.go:51", #[⟨3, .data⟩, ⟨8, .data⟩], none⟩) (v := ?_) rfl (by kernel_rfl) (fun _ _ _ h => h) (Or.inl ⟨by rfl, ?_⟩) HS.out ?_
      rotate_left
      ·intro x h; (try dsimp only at h); go_simp; try (with_reducible rfl)
      try simp only [Act.put, List.setIfInBounds_toArray, List.set]
      refine anyR_take (i := 10) (oi := ⟨some 12, .move (.tmp 11), 4, "syntax.go:51", #[⟨9, .data⟩], none⟩) (v := ?_) rfl (by kernel_rfl) (fun _ _ _ h => h) (Or.inl ⟨by rfl, ?_⟩) HS.out ?_
      rotate_left
      ·intro x h; (try dsimp only at h); go_simp; try (with_reducible rfl)
      try simp only [Act.put, List.setIfInBounds_toArray, List.set]
      refine anyR_take (i := 11) (oi := ⟨some 13, .move (.tmp 0), 54, "syntax.go:51", #[⟨10, .guard⟩], some (10, true)⟩) (v := ?_) rfl (by kernel_rfl) (fun _ _ _ h => h) (Or.inl ⟨by rfl, ?_⟩) HS.out ?_
      rotate_left
      ·intro x h; (try dsimp only at h); go_simp; try (with_reducible rfl)
      try simp only [Act.put, List.setIfInBounds_toArray, List.set]
      refine anyR_take (i := 12) (oi := ⟨some 14, .nilCheck (.tmp 13), 0, "syntax.go:51", #[⟨11, .data⟩, ⟨10, .guard⟩], some (10, true)⟩) (v := ?_) rfl (by kernel_rfl) (fun _ _ _ h => h) (Or.inl ⟨by rfl, ?_⟩) HS.out ?_
      rotate_left
      ·intro x h; (try dsimp only at h); go_simp; try (with_reducible rfl)
      try simp only [Act.put, List.setIfInBounds_toArray, List.set]
      refine anyR_take (i := 13) (oi := ⟨some 15, .fieldAddr 56 (.tmp 14) 0, 0, "syntax.go:51", #[⟨12, .data⟩, ⟨10, .guard⟩], some (10, true)⟩) (v := ?_) rfl (by kernel_rfl) (fun _ _ _ h => h) (Or.inl ⟨by rfl, ?_⟩) HS.out ?_
      rotate_left
      ·intro x h; (try dsimp only at h); go_simp; try (with_reducible rfl)
      try simp only [Act.put, List.setIfInBounds_toArray, List.set]
      refine anyR_take (i := 14) (oi := ⟨some 16, .load 22 (.tmp 15), 22, "syntax.go:51", #[⟨13, .data⟩, ⟨10, .guard⟩], some (10, true)⟩) (v := ?_) rfl (by kernel_rfl) (fun _ _ _ h => h) (Or.inl ⟨by rfl, ?_⟩) HS.out ?_
      rotate_left
      ·intro x h; (try dsimp only at h); go_simp; try (with_reducible rfl)
      try simp only [Act.put, List.setIfInBounds_toArray, List.set]
      refine anyR_take (i := 15) (oi := ⟨some 17, .move (.tmp 0), 54, "syntax.go:51", #[⟨10, .guard⟩], some (10, true)⟩) (v := ?_) rfl (by kernel_rfl) (fun _ _ _ h => h) (Or.inl ⟨by rfl, ?_⟩) HS.out ?_
      rotate_left
      ·intro x h; (try dsimp only at h); go_simp; try (with_reducible rfl)
      try simp only [Act.put, List.setIfInBounds_toArray, List.set]
      refine anyR_take (i := 16) (oi := ⟨some 18, .nilCheck (.tmp 17), 0, "syntax.go:51", #[⟨15, .data⟩, ⟨10, .guard⟩], some (10, true)⟩) (v := ?_) rfl (by kernel_rfl) (fun _ _ _ h => h) (Or.inl ⟨by rfl, ?_⟩) HS.out ?_
      rotate_left
      ·intro x h; (try dsimp only at h); go_simp; try (with_reducible rfl)
      try simp only [Act.put, List.setIfInBounds_toArray, List.set]
      refine anyR_take (i := 17) (oi := ⟨some 19, .fieldAddr 56 (.tmp 18) 1, 0, "syntax.go:51", #[⟨16, .data⟩, ⟨10, .guard⟩], some (10, true)⟩) (v := ?_) rfl (by kernel_rfl) (fun _ _ _ h => h) (Or.inl ⟨by rfl, ?_⟩) HS.out ?_
      rotate_left
      ·intro x h; (try dsimp only at h); go_simp; try (with_reducible rfl)
      try simp only [Act.put, List.setIfInBounds_toArray, List.set]
      refine anyR_take (i := 18) (oi := ⟨some 20, .load 3 (.tmp 19), 3, "syntax.go:51", #[⟨17, .data⟩, ⟨10, .guard⟩], some (10, true)⟩) (v := ?_) rfl (by kernel_rfl) (fun _ _ _ h => h) (Or.inl ⟨by rfl, ?_⟩) HS.out ?_
      rotate_left
      ·intro x h; (try dsimp only at h); go_simp; try (with_reducible rfl)
      try simp only [Act.put, List.setIfInBounds_toArray, List.set]
      refine anyR_take (i := 19) (oi := ⟨some 21, .indexAddr 22 (.tmp 16) (.tmp 20), 0, "syntax.go:51", #[⟨14, .data⟩, ⟨18, .data⟩, ⟨10, .guard⟩], some (10, true)⟩) (v := ?_) rfl (by kernel_rfl) (fun _ _ _ h => h) (Or.inl ⟨by rfl, ?_⟩) HS.out ?_
      rotate_left
      ·intro x h; (try dsimp only at h); go_simp; try (with_reducible rfl)
      try simp only [Act.put, List.setIfInBounds_toArray, List.set]
      refine anyR_take (i := 20) (oi := ⟨some 22, .fieldAddr 28 (.tmp 21) 0, 0, "syntax.go:51", #[⟨19, .data⟩, ⟨10, .guard⟩], some (10, true)⟩) (v := ?_) rfl (by kernel_rfl) (fun _ _ _ h => h) (Or.inl ⟨by rfl, ?_⟩) HS.out ?_
      rotate_left
      ·intro x h; (try dsimp only at h); go_simp; try (with_reducible rfl)
      try simp only [Act.put, List.setIfInBounds_toArray, List.set]
      refine anyR_take (i := 21) (oi := ⟨some 23, .load 24 (.tmp 22), 24, "syntax.go:51", #[⟨20, .data⟩, ⟨10, .guard⟩], some (10, true)⟩) (v := ?_) rfl (by kernel_rfl) (fun _ _ _ h => h) (Or.inl ⟨by rfl, ?_⟩) HS.out ?_
      rotate_left
      ·intro x h; (try dsimp only at h); go_simp; try (with_reducible rfl)
      try simp only [Act.put, List.setIfInBounds_toArray, List.set]
      refine anyR_take (i := 22) (oi := ⟨some 24, .binOp .eql 24 (.tmp 23) (.const (.int .u8 7)) 24, 4, "syntax.go:51", #[⟨21, .data⟩, ⟨10, .guard⟩], some (10, true)⟩) (v := ?_) rfl (by kernel_rfl) (fun _ _ _ h => h) (Or.inl ⟨by rfl, ?_⟩) HS.out ?_
      rotate_left
      ·intro x h; (try dsimp only at h); go_simp; try (with_reducible rfl)
      try simp only [Act.put, List.setIfInBounds_toArray, List.set]
      refine anyR_take (i := 23) (oi := ⟨some 25, .move (.tmp 24), 4, "syntax.go:51", #[⟨22, .data⟩, ⟨10, .chain⟩, ⟨10, .guard⟩], some (10, true)⟩) (v := ?_) rfl (by kernel_rfl) (fun _ _ _ h => h) (Or.inl ⟨by rfl, ?_⟩) HS.out ?_
      rotate_left
      ·intro x h; (try dsimp only at h); go_simp; try (with_reducible rfl)
      try simp only [Act.put, List.setIfInBounds_toArray, List.set]
      refine anyR_take (i := 24) (oi := ⟨some 26, .move (.tmp 0), 54, "syntax.go:51", #[⟨23, .guard⟩], some (23, false)⟩) (v := ?_) rfl (by kernel_rfl) (fun _ _ _ h => h) (Or.inl ⟨by rfl, ?_⟩) HS.out ?_
      rotate_left
      ·intro x h; (try dsimp only at h); go_simp; try (with_reducible rfl)
      try simp only [Act.put, List.setIfInBounds_toArray, List.set]
      refine anyR_take (i := 25) (oi := ⟨some 27, .nilCheck (.tmp 26), 0, "syntax.go:51", #[⟨24, .data⟩, ⟨23, .guard⟩], some (23, false)⟩) (v := ?_) rfl (by kernel_rfl) (fun _ _ _ h => h) (Or.inl ⟨by rfl, ?_⟩) HS.out ?_
      rotate_left
      ·intro x h; (try dsimp only at h); go_simp; try (with_reducible rfl)
      try simp only [Act.put, List.setIfInBounds_toArray, List.set]
      refine anyR_take (i := 26) (oi := ⟨some 28, .fieldAddr 56 (.tmp 27) 0, 0, "syntax.go:51", #[⟨25, .data⟩, ⟨23, .guard⟩], some (23, false)⟩) (v := ?_) rfl (by kernel_rfl) (fun _ _ _ h => h) (Or.inl ⟨by rfl, ?_⟩) HS.out ?_
      rotate_left
      ·intro x h; (try dsimp only at h); go_simp; try (with_reducible rfl)
      try simp only [Act.put, List.setIfInBounds_toArray, List.set]
      refine anyR_take (i := 27) (oi := ⟨some 29, .load 22 (.tmp 28), 22, "syntax.go:51", #[⟨26, .data⟩, ⟨23, .guard⟩], some (23, false)⟩) (v := ?_) rfl (by kernel_rfl) (fun _ _ _ h => h) (Or.inl ⟨by rfl, ?_⟩) HS.out ?_
      rotate_left
      ·intro x h; (try dsimp only at h); go_simp; try (with_reducible rfl)
      try simp only [Act.put, List.setIfInBounds_toArray, List.set]
      refine anyR_take (i := 28) (oi := ⟨some 30, .move (.tmp 0), 54, "syntax.go:51", #[⟨23, .guard⟩], some (23, false)⟩) (v := ?_) rfl (by kernel_rfl) (fun _ _ _ h => h) (Or.inl ⟨by rfl, ?_⟩) HS.out ?_
      rotate_left
      ·intro x h; (try dsimp only at h); go_simp; try (with_reducible rfl)
      try simp only [Act.put, List.setIfInBounds_toArray, List.set]
      refine anyR_take (i := 29) (oi := ⟨some 31, .nilCheck (.tmp 30), 0, "syntax.go:51", #[⟨28, .data⟩, ⟨23, .guard⟩], some (23, false)⟩) (v := ?_) rfl (by kernel_rfl) (fun _ _ _ h => h) (Or.inl ⟨by rfl, ?_⟩) HS.out ?_
      rotate_left
      ·intro x h; (try dsimp only at h); go_simp; try (with_reducible rfl)
      try simp only [Act.put, List.setIfInBounds_toArray, List.set]
      refine anyR_take (i := 30) (oi := ⟨some 32, .fieldAddr 56 (.tmp 31) 1, 0, "syntax.go:51", #[⟨29, .data⟩, ⟨23, .guard⟩], some (23, false)⟩) (v := ?_) rfl (by kernel_rfl) (fun _ _ _ h => h) (Or.inl ⟨by rfl, ?_⟩) HS.out ?_
      rotate_left
      ·intro x h; (try dsimp only at h); go_simp; try (with_reducible rfl)
      try simp only [Act.put, List.setIfInBounds_toArray, List.set]
      refine anyR_take (i := 31) (oi := ⟨some 33, .load 3 (.tmp 32), 3, "syntax.go:51", #[⟨30, .data⟩, ⟨23, .guard⟩], some (23, false)⟩) (v := ?_) rfl (by kernel_rfl) (fun _ _ _ h => h) (Or.inl ⟨by rfl, ?_⟩) HS.out ?_
      rotate_left
      ·intro x h; (try dsimp only at h); go_simp; try (with_reducible rfl)
      try simp only [Act.put, List.setIfInBounds_toArray, List.set]
      refine anyR_take (i := 32) (oi := ⟨some 34, .indexAddr 22 (.tmp 29) (.tmp 33), 0, "syntax.go:51", #[⟨27, .data⟩, ⟨31, .data⟩, ⟨23, .guard⟩], some (23, false)⟩) (v := ?_) rfl (by kernel_rfl) (fun _ _ _ h => h) (Or.inl ⟨by rfl, ?_⟩) HS.out ?_
      rotate_left
      ·intro x h; (try dsimp only at h); go_simp; try (with_reducible rfl)
      try simp only [Act.put, List.setIfInBounds_toArray, List.set]
      refine anyR_take (i := 33) (oi := ⟨some 35, .fieldAddr 28 (.tmp 34) 0, 0, "syntax.go:51", #[⟨32, .data⟩, ⟨23, .guard⟩], some (23, false)⟩) (v := ?_) rfl (by kernel_rfl) (fun _ _ _ h => h) (Or.inl ⟨by rfl, ?_⟩) HS.out ?_
      rotate_left
      ·intro x h; (try dsimp only at h); go_simp; try (with_reducible rfl)
      try simp only [Act.put, List.setIfInBounds_toArray, List.set]
      refine anyR_take (i := 34) (oi := ⟨some 36, .load 24 (.tmp 35), 24, "syntax.go:51", #[⟨33, .data⟩, ⟨23, .guard⟩], some (23, false)⟩) (v := ?_) rfl (by kernel_rfl) (fun _ _ _ h => h) (Or.inl ⟨by rfl, ?_⟩) HS.out ?_
      rotate_left
      ·intro x h; (try dsimp only at h); go_simp; try (with_reducible rfl)
      try simp only [Act.put, List.setIfInBounds_toArray, List.set]
      refine anyR_take (i := 35) (oi := ⟨some 37, .binOp .eql 24 (.tmp 36) (.const (.int .u8 8)) 24, 4, "syntax.go:51", #[⟨34, .data⟩, ⟨23, .guard⟩], some (23, false)⟩) (v := ?_) rfl (by kernel_rfl) (fun _ _ _ h => h) (Or.inl ⟨by rfl, ?_⟩) HS.out ?_
      rotate_left
      ·intro x h; (try dsimp only at h); go_simp; try (with_reducible rfl)
      try simp only [Act.put, List.setIfInBounds_toArray, List.set]
      refine anyR_take (i := 36) (oi := ⟨some 38, .pick (.tmp 25) (.const (.bool true)) (.tmp 37), 4, "syntax.go:51", #[⟨23, .data⟩, ⟨35, .data⟩, ⟨10, .guard⟩], some (10, true)⟩) (v := ?_) rfl (by kernel_rfl) (fun _ _ _ h => h) (Or.inl ⟨by rfl, ?_⟩) HS.out ?_
      rotate_left
      ·intro x h; (try dsimp only at h); go_simp; try (with_reducible rfl)
      try simp only [Act.put, List.setIfInBounds_toArray, List.set]
      refine anyR_take (i := 37) (oi := ⟨some 39, .pick (.tmp 12) (.tmp 38) (.const (.bool false)), 4, "syntax.go:51", #[⟨10, .data⟩, ⟨36, .data⟩], none⟩) (v := ?_) rfl (by kernel_rfl) (fun _ _ _ h => h) (Or.inl ⟨by rfl, ?_⟩) HS.out ?_
      rotate_left
      ·intro x h; (try dsimp only at h); go_simp; try (with_reducible rfl)
      try simp only [Act.put, List.setIfInBounds_toArray, List.set]
      refine anyR_done (by kernel_rfl) ?_ _
      clear HS HSA HWd
      have HP5 := Lib.hid (HH.out.at_.moved HBD.out)
      have HQ5 := Lib.hid (PStep.below HBD.out : MStep p ve1 wr ve1 Wd1)
      clear q0 q1 q2 q3 c0 c1 c2 c3 c4 c5
      obtain ⟨q0, q1, q2, q3⟩ := HP5.out.cell
      obtain ⟨ad2, hA2, htc2⟩ := tok_cells HP5.out.toks i1 hj
      injection hA2 with hA2
      subst hA2
      rw [show PSyntaxEvents.rd_T28 l i1 = t from rd_of HG.out] at htc2
      obtain ⟨c0, c1, c2, c3, c4, c5⟩ := htc2 Wd1 HP5.out.below
      clear htc2 HBD
      go_upto_region 1 with (fail)
      obtain ⟨Wd2, hWd⟩ : ∃ V, Wd1.drew = V := ⟨_, rfl⟩
      have hbd : Below Wd1.heap.size Wd1 Wd2 := by rw [← hWd]; exact (Below.refl _ Wd1).drew
      have hSall : ∀ V, Below Wd1.heap.size Wd1 V → V.cell? ⟨p, 0, none⟩ = some (.slice (some ad) l.length c) ∧ V.cell? ⟨p, 1, none⟩ = some (.int .i64 i1) ∧ V.cell? ⟨p, 3, none⟩ = some (ve1) ∧ V.cell? (ad.add (i1 * 6)) = some (.int .u8 t.f0) ∧ V.cell? ⟨(ad.add (i1 * 6)).block, (ad.add (i1 * 6)).off + 1, none⟩ = some (.string t.f1) ∧ V.cell? ⟨(ad.add (i1 * 6)).block, (ad.add (i1 * 6)).off + 2, none⟩ = some (.int .i64 t.f2.f0) ∧ V.cell? ⟨(ad.add (i1 * 6)).block, (ad.add (i1 * 6)).off + 3, none⟩ = some (.int .i64 t.f2.f1) ∧ V.cell? ⟨(ad.add (i1 * 6)).block, (ad.add (i1 * 6)).off + 4, none⟩ = some (.int .i64 t.f2.f2) ∧ V.cell? ⟨(ad.add (i1 * 6)).block, (ad.add (i1 * 6)).off + 5, none⟩ = some (.int .i64 t.f3) := fun V hV => ⟨pw_cell_below hV q0, pw_cell_below hV q1, pw_cell_below hV q3, pw_cell_below hV c0, pw_cell_below hV c1, pw_cell_below hV c2, pw_cell_below hV c3, pw_cell_below hV c4, pw_cell_below hV c5⟩
      have HSA := Lib.hid hSall
      have HS := Lib.hid (hSall Wd2 hbd)
      have HBD := Lib.hid hbd
      have HWd := Lib.hid hWd
      clear hSall hbd hWd
      refine wp_region_R (fun w' => w'.cell? ⟨p, 0, none⟩ = some (.slice (some ad) l.length c) ∧ w'.cell? ⟨p, 1, none⟩ = some (.int .i64 i1) ∧ w'.cell? ⟨p, 3, none⟩ = some (ve1) ∧ w'.cell? (ad.add (i1 * 6)) = some (.int .u8 t.f0) ∧ w'.cell? ⟨(ad.add (i1 * 6)).block, (ad.add (i1 * 6)).off + 1, none⟩ = some (.string t.f1) ∧ w'.cell? ⟨(ad.add (i1 * 6)).block, (ad.add (i1 * 6)).off + 2, none⟩ = some (.int .i64 t.f2.f0) ∧ w'.cell? ⟨(ad.add (i1 * 6)).block, (ad.add (i1 * 6)).off + 3, none⟩ = some (.int .i64 t.f2.f1) ∧ w'.cell? ⟨(ad.add (i1 * 6)).block, (ad.add (i1 * 6)).off + 4, none⟩ = some (.int .i64 t.f2.f2) ∧ w'.cell? ⟨(ad.add (i1 * 6)).block, (ad.add (i1 * 6)).off + 5, none⟩ = some (.int .i64 t.f3)) (fun j => !(Nat.beq j 20)) (by kernel_rfl) ?_
      rw [HWd.out]
      refine anyR_take (i := 0) (oi := ⟨some 40, .move (.tmp 0), 54, "syntax.go:52", #[], none⟩) (v := ?_) rfl (by kernel_rfl) (fun _ _ _ h => h) (Or.inl ⟨by rfl, ?_⟩) HS.out ?_
      rotate_left
      ·intro x h; (try dsimp only at h); go_simp; try (with_reducible rfl)
      try simp only [Act.put, List.setIfInBounds_toArray, List.set]
      refine anyR_take (i := 1) (oi := ⟨some 41, .move (.tmp 0), 54, "syntax.go:52", #[], none⟩) (v := ?_) rfl (by kernel_rfl) (fun _ _ _ h => h) (Or.inl ⟨by rfl, ?_⟩) HS.out ?_
      rotate_left
      ·intro x h; (try dsimp only at h); go_simp; try (with_reducible rfl)
      try simp only [Act.put, List.setIfInBounds_toArray, List.set]
      refine anyR_take (i := 2) (oi := ⟨some 42, .nilCheck (.tmp 41), 0, "syntax.go:52", #[⟨1, .data⟩], none⟩) (v := ?_) rfl (by kernel_rfl) (fun _ _ _ h => h) (Or.inl ⟨by rfl, ?_⟩) HS.out ?_
      rotate_left
      ·intro x h; (try dsimp only at h); go_simp; try (with_reducible rfl)
      try simp only [Act.put, List.setIfInBounds_toArray, List.set]
      refine anyR_take (i := 3) (oi := ⟨some 43, .fieldAddr 56 (.tmp 42) 3, 0, "syntax.go:52", #[⟨2, .data⟩], none⟩) (v := ?_) rfl (by kernel_rfl) (fun _ _ _ h => h) (Or.inl ⟨by rfl, ?_⟩) HS.out ?_
      rotate_left
      ·intro x h; (try dsimp only at h); go_simp; try (with_reducible rfl)
      try simp only [Act.put, List.setIfInBounds_toArray, List.set]
      refine anyR_take (i := 4) (oi := ⟨some 44, .load 41 (.tmp 43), 41, "syntax.go:52", #[⟨3, .data⟩], none⟩) (v := ?_) rfl (by kernel_rfl) (fun _ _ _ h => h) (Or.inl ⟨by rfl, ?_⟩) HS.out ?_
      rotate_left
      ·intro x h; (try dsimp only at h); go_simp; try (with_reducible rfl)
      try simp only [Act.put, List.setIfInBounds_toArray, List.set]
      refine anyR_take (i := 5) (oi := ⟨some 45, .move (.tmp 0), 54, "syntax.go:52", #[], none⟩) (v := ?_) rfl (by kernel_rfl) (fun _ _ _ h => h) (Or.inl ⟨by rfl, ?_⟩) HS.out ?_
      rotate_left
      ·intro x h; (try dsimp only at h); go_simp; try (with_reducible rfl)
      try simp only [Act.put, List.setIfInBounds_toArray, List.set]
      refine anyR_take (i := 6) (oi := ⟨some 46, .nilCheck (.tmp 45), 0, "syntax.go:52", #[⟨5, .data⟩], none⟩) (v := ?_) rfl (by kernel_rfl) (fun _ _ _ h => h) (Or.inl ⟨by rfl, ?_⟩) HS.out ?_
      rotate_left
      ·intro x h; (try dsimp only at h); go_simp; try (with_reducible rfl)
      try simp only [Act.put, List.setIfInBounds_toArray, List.set]
      refine anyR_take (i := 7) (oi := ⟨some 47, .fieldAddr 56 (.tmp 46) 0, 0, "syntax.go:52", #[⟨6, .data⟩], none⟩) (v := ?_) rfl (by kernel_rfl) (fun _ _ _ h => h) (Or.inl ⟨by rfl, ?_⟩) HS.out ?_
      rotate_left
      ·intro x h; (try dsimp only at h); go_simp; try (with_reducible rfl)
      try simp only [Act.put, List.setIfInBounds_toArray, List.set]
      refine anyR_take (i := 8) (oi := ⟨some 48, .load 22 (.tmp 47), 22, "syntax.go:52", #[⟨7, .data⟩], none⟩) (v := ?_) rfl (by kernel_rfl) (fun _ _ _ h => h) (Or.inl ⟨by rfl, ?_⟩) HS.out ?_
      rotate_left
      ·intro x h; (try dsimp only at h); go_simp; try (with_reducible rfl)
      try simp only [Act.put, List.setIfInBounds_toArray, List.set]
      refine anyR_take (i := 9) (oi := ⟨some 49, .move (.tmp 0), 54, "syntax.go:52", #[], none⟩) (v := ?_) rfl (by kernel_rfl) (fun _ _ _ h => h) (Or.inl ⟨by rfl, ?_⟩) HS.out ?_
      rotate_left
      ·intro x h; (try dsimp only at h); go_simp; try (with_reducible rfl)
      try simp only [Act.put, List.setIfInBounds_toArray, List.set]
      refine anyR_take (i := 10) (oi := ⟨some 50, .nilCheck (.tmp 49), 0, "syntax.go:52", #[⟨9, .data⟩], none⟩) (v := ?_) rfl (by kernel_rfl) (fun _ _ _ h => h) (Or.inl ⟨by rfl, ?_⟩) HS.out ?_
      rotate_left
      ·intro x h; (try dsimp only at h); go_simp; try (with_reducible rfl)
      try simp only [Act.put, List.setIfInBounds_toArray, List.set]
      refine anyR_take (i := 11) (oi := ⟨some 51, .fieldAddr 56 (.tmp 50) 1, 0, "syntax.go:52", #[⟨10, .data⟩], none⟩) (v := ?_) rfl (by kernel_rfl) (fun _ _ _ h => h) (Or.inl ⟨by rfl, ?_⟩) HS.out ?_
      rotate_left
      ·intro x h; (try dsimp only at h); go_simp; try (with_reducible rfl)
      try simp only [Act.put, List.setIfInBounds_toArray, List.set]
      refine anyR_take (i := 12) (oi := ⟨some 52, .load 3 (.tmp 51), 3, "syntax.go:52", #[⟨11, .data⟩], none⟩) (v := ?_) rfl (by kernel_rfl) (fun _ _ _ h => h) (Or.inl ⟨by rfl, ?_⟩) HS.out ?_
      rotate_left
      ·intro x h; (try dsimp only at h); go_simp; try (with_reducible rfl)
      try simp only [Act.put, List.setIfInBounds_toArray, List.set]
      refine anyR_take (i := 13) (oi := ⟨some 53, .indexAddr 22 (.tmp 48) (.tmp 52), 0, "syntax.go:52", #[⟨8, .data⟩, ⟨12, .data⟩], none⟩) (v := ?_) rfl (by kernel_rfl) (fun _ _ _ h => h) (Or.inl ⟨by rfl, ?_⟩) HS.out ?_
      rotate_left
      ·intro x h; (try dsimp only at h); go_simp; try (with_reducible rfl)
      try simp only [Act.put, List.setIfInBounds_toArray, List.set]
      refine anyR_take (i := 14) (oi := ⟨some 54, .load 28 (.tmp 53), 28, "syntax.go:52", #[⟨13, .data⟩], none⟩) (v := ?_) rfl (by kernel_rfl) (fun _ _ _ h => h) (Or.inl ⟨by rfl, ?_⟩) HS.out ?_
      rotate_left
      ·intro x h; (try dsimp only at h); go_simp; try (with_reducible rfl)
      try simp only [Act.put, List.setIfInBounds_toArray, List.set]
      refine anyR_take (i := 15) (oi := ⟨some 55, .build 48 #[(0, .const (.int .u8 4)), (2, .tmp 54)], 48, "syntax.go:52", #[⟨14, .data⟩], none⟩) (v := ?_) rfl (by kernel_rfl) (fun _ _ _ h => h) (Or.inl ⟨by rfl, ?_⟩) HS.out ?_
      rotate_left
      ·intro x h; (try dsimp only at h); go_simp; try (with_reducible rfl)
      try simp only [Act.put, List.setIfInBounds_toArray, List.set]
      have HP6 := Lib.hid (HP5.out.moved HBD.out)
      refine anyR_ready (rs := [16]) (by kernel_rfl) (by simp) ?_
      refine ReadyR.cons (o := ⟨some 56, .buildSlice 41 1 #[(0, .tmp 55)], 41, "syntax.go:52", #[⟨15, .data⟩], none⟩) rfl (fun K hK => ?_) ReadyR.nil
      go_simp
      refine hK.out _ _ (fun _ => HSA.out _ (HBD.out.alloc HBD.out.size _)) ?_
      clear hK K
      try simp only [Act.put, List.setIfInBounds_toArray, List.set]
      refine anyR_ready (rs := [17]) (by kernel_rfl) (by simp) ?_
      refine ReadyR.cons (o := ⟨some 57, .call { callee := .builtin .append, args := #[.tmp 44, .tmp 56], argTypes := #[41, 41] }, 41, "syntax.go:52", #[⟨4, .data⟩, ⟨16, .data⟩], none⟩) rfl (fun K hK => ?_) ReadyR.nil
      refine step_ev (W := Wd2) rfl (.tmp 44) (.tmp 56) rfl p (u := ve1) (q := out1.length) (kc := out1.flatMap evCells) (cs := [.int .u8 4, .int .u8 0, .int .u8 t.f0, .string t.f1, .int .i64 t.f2.f0, .int .i64 t.f2.f1, .int .i64 t.f2.f2, .int .i64 t.f3]) rfl rfl HP6.out.row rfl (evCells_one (noteE t)) (Nat.le_of_lt (blk_lt HP6.out.box)) (by have := HLO.out; omega) ?_
      intro G9 C9 w6 ho hg hat
      obtain ⟨⟨cur6, hcur, hfit⟩, hnx⟩ := HP6.out.next (e := noteE t) ho hg hat
      have hS7 : w6.cell? ⟨p, 0, none⟩ = some (.slice (some ad) l.length c) ∧ w6.cell? ⟨p, 1, none⟩ = some (.int .i64 i1) ∧ w6.cell? ⟨p, 3, none⟩ = some (ve1) ∧ w6.cell? (ad.add (i1 * 6)) = some (.int .u8 t.f0) ∧ w6.cell? ⟨(ad.add (i1 * 6)).block, (ad.add (i1 * 6)).off + 1, none⟩ = some (.string t.f1) ∧ w6.cell? ⟨(ad.add (i1 * 6)).block, (ad.add (i1 * 6)).off + 2, none⟩ = some (.int .i64 t.f2.f0) ∧ w6.cell? ⟨(ad.add (i1 * 6)).block, (ad.add (i1 * 6)).off + 3, none⟩ = some (.int .i64 t.f2.f1) ∧ w6.cell? ⟨(ad.add (i1 * 6)).block, (ad.add (i1 * 6)).off + 4, none⟩ = some (.int .i64 t.f2.f2) ∧ w6.cell? ⟨(ad.add (i1 * 6)).block, (ad.add (i1 * 6)).off + 5, none⟩ = some (.int .i64 t.f3) := sgrown HP6.out ⟨rfl, HT6.out⟩ hg HS.out
      have HS7 := Lib.hid hS7
      have HCU := Lib.hid (And.intro hcur hfit)
      have HNX := Lib.hid hnx
      refine hK.out _ _ (fun _ => hS7) ?_
      clear hK K ho hg hat hS7 hcur hfit hnx
      try simp only [Act.put, List.setIfInBounds_toArray, List.set]
      refine anyR_ready (rs := [18]) (by kernel_rfl) (by simp) ?_
      refine ReadyR.cons (o := ⟨some 58, .nilCheck (.tmp 40), 0, "syntax.go:52", #[⟨0, .data⟩, ⟨0, .phase⟩, ⟨1, .phase⟩, ⟨2, .phase⟩, ⟨3, .phase⟩, ⟨4, .phase⟩, ⟨5, .phase⟩, ⟨6, .phase⟩, ⟨7, .phase⟩, ⟨8, .phase⟩, ⟨9, .phase⟩, ⟨10, .phase⟩, ⟨11, .phase⟩, ⟨12, .phase⟩, ⟨13, .phase⟩, ⟨14, .phase⟩, ⟨15, .phase⟩, ⟨16, .phase⟩, ⟨17, .phase⟩], none⟩) rfl (fun K hK => ?_) ReadyR.nil
      go_simp
      refine hK.out _ _ (fun _ => HS7.out) ?_
      clear hK K
      try simp only [Act.put, List.setIfInBounds_toArray, List.set]
      refine anyR_ready (rs := [19]) (by kernel_rfl) (by simp) ?_
      refine ReadyR.cons (o := ⟨some 59, .fieldAddr 56 (.tmp 58) 3, 0, "syntax.go:52", #[⟨18, .data⟩, ⟨0, .phase⟩, ⟨1, .phase⟩, ⟨2, .phase⟩, ⟨3, .phase⟩, ⟨4, .phase⟩, ⟨5, .phase⟩, ⟨6, .phase⟩, ⟨7, .phase⟩, ⟨8, .phase⟩, ⟨9, .phase⟩, ⟨10, .phase⟩, ⟨11, .phase⟩, ⟨12, .phase⟩, ⟨13, .phase⟩, ⟨14, .phase⟩, ⟨15, .phase⟩, ⟨16, .phase⟩, ⟨17, .phase⟩], none⟩) rfl (fun K hK => ?_) ReadyR.nil
      go_simp
      refine hK.out _ _ (fun _ => HS7.out) ?_
      clear hK K
      try simp only [Act.put, List.setIfInBounds_toArray, List.set]
      refine anyR_ready (rs := [20]) (by kernel_rfl) (by simp) ?_
      refine ReadyR.cons (o := ⟨none, .store 41 (.tmp 59) (.tmp 57), 0, "syntax.go:52", #[⟨19, .data⟩, ⟨17, .data⟩, ⟨17, .chain⟩, ⟨0, .phase⟩, ⟨1, .phase⟩, ⟨2, .phase⟩, ⟨3, .phase⟩, ⟨4, .phase⟩, ⟨5, .phase⟩, ⟨6, .phase⟩, ⟨7, .phase⟩, ⟨8, .phase⟩, ⟨9, .phase⟩, ⟨10, .phase⟩, ⟨11, .phase⟩, ⟨12, .phase⟩, ⟨13, .phase⟩, ⟨14, .phase⟩, ⟨15, .phase⟩, ⟨16, .phase⟩, ⟨17, .phase⟩], none⟩) rfl (fun K hK => ?_) ReadyR.nil
      refine step_store rfl rfl 41 (.tmp 59) (.tmp 57) rfl (g := p) (off := 3) (.slice (some ⟨G9, 0, none⟩) (out1.length + 1) C9) [.slice (some ⟨G9, 0, none⟩) (out1.length + 1) C9] rfl rfl rfl (by kernel_rfl) (fun v hv => by rw [List.mem_singleton.1 hv]; rfl) HCU.out.1 HCU.out.2 ?_
      have HN7 := Lib.hid (HNX.out _ rfl)
      refine hK.out _ _ (fun h => by cases h) ?_
      clear hK K HNX HCU HS7 HS HSA
      generalize w6.setCells p 3 [.slice (some ⟨G9, 0, none⟩) (out1.length + 1) C9] = V7 at HN7 ⊢
      try simp only [Act.put, List.setIfInBounds_toArray, List.set]
      refine anyR_done (by kernel_rfl) ?_ _
      have HP7 := Lib.hid HN7.out.1
      have HQ7 := Lib.hid (HQ5.out.trans ((PStep.below HBD.out).trans HN7.out.2))
      clear q0 q1 q2 q3 c0 c1 c2 c3 c4 c5 HN7
      obtain ⟨q0, q1, q2, q3⟩ := HP7.out.cell
      go_wp2_with ((with_reducible refine gate_ (.store 3 (.tmp 66) (.tmp 64)) rfl ?_); refine wl_cells rfl rfl _ _ _ rfl (g := p) (off := 1) (.int .i64 ((i1 : Int) + 1)) [.int .i64 ((i1 : Int) + 1)] rfl rfl rfl (by kernel_rfl) (fun v hv => by rw [List.mem_singleton.1 hv]; rfl) HP7.out.box (by simp) ?_; intro V8 hV; obtain ⟨hA, hS⟩ := HP7.out.upd 1 (.int .i64 ((i1 : Int) + 1)) (by decide) (i' := i1 + 1) (d' := d) rfl hj; rw [← hV] at hA hS; have HP8 := Lib.hid hA; have HQ8 := Lib.hid (HQ7.out.trans hS); clear q0 q1 q2 q3 hV hA hS)
      go_roundg k1
      case measure => omega
      case rel => exact Lib.hid ⟨i1 + 1, _, _, by have := HK.out; omega, HH.out.next HG.out HNT.out HP8.out HQ8.out⟩
     | false =>
      have hn0 := nAt_else HG.out HNT.out
      have h1 := HH.out.i_
      have h2 := HH.out.o_
      rw [hn0] at h1 h2
      have HF := Lib.hid (And.intro h1 h2)
      clear hn0 h1 h2
      go_wp2
      obtain ⟨Wd1, hWd⟩ : ∃ V, wr.drew = V := ⟨_, rfl⟩
      have hbd : Below wr.heap.size wr Wd1 := by rw [← hWd]; exact (Below.refl _ wr).drew
      have hSall : ∀ V, Below wr.heap.size wr V → V.cell? ⟨p, 0, none⟩ = some (.slice (some ad) l.length c) ∧ V.cell? ⟨p, 1, none⟩ = some (.int .i64 i1) ∧ V.cell? (ad.add (i1 * 6)) = some (.int .u8 t.f0) := fun V hV => ⟨pw_cell_below hV q0, pw_cell_below hV q1, pw_cell_below hV c0⟩
      have HSA := Lib.hid hSall
      have HS := Lib.hid (hSall Wd1 hbd)
      have HBD := Lib.hid hbd
      have HWd := Lib.hid hWd
      clear hSall hbd hWd
      refine wp_region_R (fun w' => w'.cell? ⟨p, 0, none⟩ = some (.slice (some ad) l.length c) ∧ w'.cell? ⟨p, 1, none⟩ = some (.int .i64 i1) ∧ w'.cell? (ad.add (i1 * 6)) = some (.int .u8 t.f0)) (fun j => true) (by kernel_rfl) ?_
      rw [HWd.out]
      refine anyR_take (i := 0) (oi := ⟨some 2, .move (.tmp 0), 54, "syntax.go:51", #[], none⟩) (v := ?_) rfl (by kernel_rfl) (fun _ _ _ h => h) (Or.inl ⟨by rfl, ?_⟩) HS.out ?_
      rotate_left
      ·intro x h; (try dsimp only at h); go_simp; try (with_reducible rfl)
      try simp only [Act.put, List.setIfInBounds_toArray, List.set]
      refine anyR_take (i := 1) (oi := ⟨some 3, .nilCheck (.tmp 2), 0, "syntax.go:51", #[⟨0, .data⟩], none⟩) (v := ?_) rfl (by kernel_rfl) (fun _ _ _ h => h) (Or.inl ⟨by rfl, ?_⟩) HS.out ?_
      rotate_left
      ·intro x h; (try dsimp only at h); go_simp; try (with_reducible rfl)
      try simp only [Act.put, List.setIfInBounds_toArray, List.set]
      refine anyR_take (i := 2) (oi := ⟨some 4, .fieldAddr 56 (.tmp 3) 1, 0, "syntax.go:51", #[⟨1, .data⟩], none⟩) (v := ?_) rfl (by kernel_rfl) (fun _ _ _ h => h) (Or.inl ⟨by rfl, ?_⟩) HS.out ?_
      rotate_left
      ·intro x h; (try dsimp only at h); go_simp; try (with_reducible rfl)
      try simp only [Act.put, List.setIfInBounds_toArray, List.set]
      refine anyR_take (i := 3) (oi := ⟨some 5, .load 3 (.tmp 4), 3, "syntax.go:51", #[⟨2, .data⟩], none⟩) (v := ?_) rfl (by kernel_rfl) (fun _ _ _ h => h) (Or.inl ⟨by rfl, ?_⟩) HS.out ?_
      rotate_left
      ·intro x h; (try dsimp only at h); go_simp; try (with_reducible rfl)
      try simp only [Act.put, List.setIfInBounds_toArray, List.set]
      refine anyR_take (i := 4) (oi := ⟨some 6, .move (.tmp 0), 54, "syntax.go:51", #[], none⟩) (v := ?_) rfl (by kernel_rfl) (fun _ _ _ h => h) (Or.inl ⟨by rfl, ?_⟩) HS.out ?_
      rotate_left
      ·intro x h; (try dsimp only at h); go_simp; try (with_reducible rfl)
      try simp only [Act.put, List.setIfInBounds_toArray, List.set]
      refine anyR_take (i := 5) (oi := ⟨some 7, .nilCheck (.tmp 6), 0, "syntax.go:51", #[⟨4, .data⟩], none⟩) (v := ?_) rfl (by kernel_rfl) (fun _ _ _ h => h) (Or.inl ⟨by rfl, ?_⟩) HS.out ?_
      rotate_left
      ·intro x h; (try dsimp only at h); go_simp; try (with_reducible rfl)
      try simp only [Act.put, List.setIfInBounds_toArray, List.set]
      refine anyR_take (i := 6) (oi := ⟨some 8, .fieldAddr 56 (.tmp 7) 0, 0, "syntax.go:51", #[⟨5, .data⟩], none⟩) (v := ?_) rfl (by kernel_rfl) (fun _ _ _ h => h) (Or.inl ⟨by rfl, ?_⟩) HS.out ?_
      rotate_left
      ·intro x h; (try dsimp only at h); go_simp; try (with_reducible rfl)
      try simp only [Act.put, List.setIfInBounds_toArray, List.set]
      refine anyR_take (i := 7) (oi := ⟨some 9, .load 22 (.tmp 8), 22, "syntax.go:51", #[⟨6, .data⟩], none⟩) (v := ?_) rfl (by kernel_rfl) (fun _ _ _ h => h) (Or.inl ⟨by rfl, ?_⟩) HS.out ?_
      rotate_left
      ·intro x h; (try dsimp only at h); go_simp; try (with_reducible rfl)
      try simp only [Act.put, List.setIfInBounds_toArray, List.set]
      refine anyR_take (i := 8) (oi := ⟨some 10, .call { callee := .builtin .len, args := #[.tmp 9], argTypes := #[22] }, 3, "syntax.go:51", #[⟨7, .data⟩], none⟩) (v := ?_) rfl (by kernel_rfl) (fun _ _ _ h => h) (Or.inl ⟨by rfl, ?_⟩) HS.out ?_
      rotate_left
      ·intro x h; (try dsimp only at h); go_simp; try (with_reducible rfl)
      try simp only [Act.put, List.setIfInBounds_toArray, List.set]
      refine anyR_take (i := 9) (oi := ⟨some 11, .binOp .lss 3 (.tmp 5) (.tmp 10) 3, 4, "syntax.go:51", #[⟨3, .data⟩, ⟨8, .data⟩], none⟩) (v := ?_) rfl (by kernel_rfl) (fun _ _ _ h => h) (Or.inl ⟨by rfl, ?_⟩) HS.out ?_
      rotate_left
      ·intro x h; (try dsimp only at h); go_simp; try (with_reducible rfl)
      try simp only [Act.put, List.setIfInBounds_toArray, List.set]
      refine anyR_take (i := 10) (oi := ⟨some 12, .move (.tmp 11), 4, "syntax.go:51", #[⟨9, .data⟩], none⟩) (v := ?_) rfl (by kernel_rfl) (fun _ _ _ h => h) (Or.inl ⟨by rfl, ?_⟩) HS.out ?_
      rotate_left
      ·intro x h; (try dsimp only at h); go_simp; try (with_reducible rfl)
      try simp only [Act.put, List.setIfInBounds_toArray, List.set]
      refine anyR_take (i := 11) (oi := ⟨some 13, .move (.tmp 0), 54, "syntax.go:51", #[⟨10, .guard⟩], some (10, true)⟩) (v := ?_) rfl (by kernel_rfl) (fun _ _ _ h => h) (Or.inl ⟨by rfl, ?_⟩) HS.out ?_
      rotate_left
      ·intro x h; (try dsimp only at h); go_simp; try (with_reducible rfl)
      try simp only [Act.put, List.setIfInBounds_toArray, List.set]
      refine anyR_take (i := 12) (oi := ⟨some 14, .nilCheck (.tmp 13), 0, "syntax.go:51", #[⟨11, .data⟩, ⟨10, .guard⟩], some (10, true)⟩) (v := ?_) rfl (by kernel_rfl) (fun _ _ _ h => h) (Or.inl ⟨by rfl, ?_⟩) HS.out ?_
      rotate_left
      ·intro x h; (try dsimp only at h); go_simp; try (with_reducible rfl)
      try simp only [Act.put, List.setIfInBounds_toArray, List.set]
      refine anyR_take (i := 13) (oi := ⟨some 15, .fieldAddr 56 (.tmp 14) 0, 0, "syntax.go:51", #[⟨12, .data⟩, ⟨10, .guard⟩], some (10, true)⟩) (v := ?_) rfl (by kernel_rfl) (fun _ _ _ h => h) (Or.inl ⟨by rfl, ?_⟩) HS.out ?_
      rotate_left
      ·intro x h; (try dsimp only at h); go_simp; try (with_reducible rfl)
      try simp only [Act.put, List.setIfInBounds_toArray, List.set]
      refine anyR_take (i := 14) (oi := ⟨some 16, .load 22 (.tmp 15), 22, "syntax.go:51", #[⟨13, .data⟩, ⟨10, .guard⟩], some (10, true)⟩) (v := ?_) rfl (by kernel_rfl) (fun _ _ _ h => h) (Or.inl ⟨by rfl, ?_⟩) HS.out ?_
      rotate_left
      ·intro x h; (try dsimp only at h); go_simp; try (with_reducible rfl)
      try simp only [Act.put, List.setIfInBounds_toArray, List.set]
      refine anyR_take (i := 15) (oi := ⟨some 17, .move (.tmp 0), 54, "syntax.go:51", #[⟨10, .guard⟩], some (10, true)⟩) (v := ?_) rfl (by kernel_rfl) (fun _ _ _ h => h) (Or.inl ⟨by rfl, ?_⟩) HS.out ?_
      rotate_left
      ·intro x h; (try dsimp only at h); go_simp; try (with_reducible rfl)
      try simp only [Act.put, List.setIfInBounds_toArray, List.set]
      refine anyR_take (i := 16) (oi := ⟨some 18, .nilCheck (.tmp 17), 0, "syntax.go:51", #[⟨15, .data⟩, ⟨10, .guard⟩], some (10, true)⟩) (v := ?_) rfl (by kernel_rfl) (fun _ _ _ h => h) (Or.inl ⟨by rfl, ?_⟩) HS.out ?_
      rotate_left
      ·intro x h; (try dsimp only at h); go_simp; try (with_reducible rfl)
      try simp only [Act.put, List.setIfInBounds_toArray, List.set]
      refine anyR_take (i := 17) (oi := ⟨some 19, .fieldAddr 56 (.tmp 18) 1, 0, "syntax.go:51", #[⟨16, .data⟩, ⟨10, .guard⟩], some (10, true)⟩) (v := ?_) rfl (by kernel_rfl) (fun _ _ _ h => h) (Or.inl ⟨by rfl, ?_⟩) HS.out ?_
      rotate_left
      ·intro x h; (try dsimp only at h); go_simp; try (with_reducible rfl)
      try simp only [Act.put, List.setIfInBounds_toArray, List.set]
      refine anyR_take (i := 18) (oi := ⟨some 20, .load 3 (.tmp 19), 3, "syntax.go:51", #[⟨17, .data⟩, ⟨10, .guard⟩], some (10, true)⟩) (v := ?_) rfl (by kernel_rfl) (fun _ _ _ h => h) (Or.inl ⟨by rfl, ?_⟩) HS.out ?_
      rotate_left
      ·intro x h; (try dsimp only at h); go_simp; try (with_reducible rfl)
      try simp only [Act.put, List.setIfInBounds_toArray, List.set]
      refine anyR_take (i := 19) (oi := ⟨some 21, .indexAddr 22 (.tmp 16) (.tmp 20), 0, "syntax.go:51", #[⟨14, .data⟩, ⟨18, .data⟩, ⟨10, .guard⟩], some (10, true)⟩) (v := ?_) rfl (by kernel_rfl) (fun _ _ _ h => h) (Or.inl ⟨by rfl, ?_⟩) HS.out ?_
      rotate_left
      ·intro x h; (try dsimp only at h); go_simp; try (with_reducible rfl)
      try simp only [Act.put, List.setIfInBounds_toArray, List.set]
      refine anyR_take (i := 20) (oi := ⟨some 22, .fieldAddr 28 (.tmp 21) 0, 0, "syntax.go:51", #[⟨19, .data⟩, ⟨10, .guard⟩], some (10, true)⟩) (v := ?_) rfl (by kernel_rfl) (fun _ _ _ h => h) (Or.inl ⟨by rfl, ?_⟩) HS.out ?_
      rotate_left
      ·intro x h; (try dsimp only at h); go_simp; try (with_reducible rfl)
      try simp only [Act.put, List.setIfInBounds_toArray, List.set]
      refine anyR_take (i := 21) (oi := ⟨some 23, .load 24 (.tmp 22), 24, "syntax.go:51", #[⟨20, .data⟩, ⟨10, .guard⟩], some (10, true)⟩) (v := ?_) rfl (by kernel_rfl) (fun _ _ _ h => h) (Or.inl ⟨by rfl, ?_⟩) HS.out ?_
      rotate_left
      ·intro x h; (try dsimp only at h); go_simp; try (with_reducible rfl)
      try simp only [Act.put, List.setIfInBounds_toArray, List.set]
      refine anyR_take (i := 22) (oi := ⟨some 24, .binOp .eql 24 (.tmp 23) (.const (.int .u8 7)) 24, 4, "syntax.go:51", #[⟨21, .data⟩, ⟨10, .guard⟩], some (10, true)⟩) (v := ?_) rfl (by kernel_rfl) (fun _ _ _ h => h) (Or.inl ⟨by rfl, ?_⟩) HS.out ?_
      rotate_left
      ·intro x h; (try dsimp only at h); go_simp; try (with_reducible rfl)
      try simp only [Act.put, List.setIfInBounds_toArray, List.set]
      refine anyR_take (i := 23) (oi := ⟨some 25, .move (.tmp 24), 4, "syntax.go:51", #[⟨22, .data⟩, ⟨10, .chain⟩, ⟨10, .guard⟩], some (10, true)⟩) (v := ?_) rfl (by kernel_rfl) (fun _ _ _ h => h) (Or.inl ⟨by rfl, ?_⟩) HS.out ?_
      rotate_left
      ·intro x h; (try dsimp only at h); go_simp; try (with_reducible rfl)
      try simp only [Act.put, List.setIfInBounds_toArray, List.set]
      refine anyR_take (i := 24) (oi := ⟨some 26, .move (.tmp 0), 54, "syntax.go:51", #[⟨23, .guard⟩], some (23, false)⟩) (v := ?_) rfl (by kernel_rfl) (fun _ _ _ h => h) (Or.inl ⟨by rfl, ?_⟩) HS.out ?_
      rotate_left
      ·intro x h; (try dsimp only at h); go_simp; try (with_reducible rfl)
      try simp only [Act.put, List.setIfInBounds_toArray, List.set]
      refine anyR_take (i := 25) (oi := ⟨some 27, .nilCheck (.tmp 26), 0, "syntax.go:51", #[⟨24, .data⟩, ⟨23, .guard⟩], some (23, false)⟩) (v := ?_) rfl (by kernel_rfl) (fun _ _ _ h => h) (Or.inl ⟨by rfl, ?_⟩) HS.out ?_
      rotate_left
      ·intro x h; (try dsimp only at h); go_simp; try (with_reducible rfl)
      try simp only [Act.put, List.setIfInBounds_toArray, List.set]
      refine anyR_take (i := 26) (oi := ⟨some 28, .fieldAddr 56 (.tmp 27) 0, 0, "syntax.go:51", #[⟨25, .data⟩, ⟨23, .guard⟩], some (23, false)⟩) (v := ?_) rfl (by kernel_rfl) (fun _ _ _ h => h) (Or.inl ⟨by rfl, ?_⟩) HS.out ?_
      rotate_left
      ·intro x h; (try dsimp only at h); go_simp; try (with_reducible rfl)
      try simp only [Act.put, List.setIfInBounds_toArray, List.set]
      refine anyR_take (i := 27) (oi := ⟨some 29, .load 22 (.tmp 28), 22, "syntax.go:51", #[⟨26, .data⟩, ⟨23, .guard⟩], some (23, false)⟩) (v := ?_) rfl (by kernel_rfl) (fun _ _ _ h => h) (Or.inl ⟨by rfl, ?_⟩) HS.out ?_
      rotate_left
      ·intro x h; (try dsimp only at h); go_simp; try (with_reducible rfl)
      try simp only [Act.put, List.setIfInBounds_toArray, List.set]
      refine anyR_take (i := 28) (oi := ⟨some 30, .move (.tmp 0), 54, "syntax.go:51", #[⟨23, .guard⟩], some (23, false)⟩) (v := ?_) rfl (by kernel_rfl) (fun _ _ _ h => h) (Or.inl ⟨by rfl, ?_⟩) HS.out ?_
      rotate_left
      ·intro x h; (try dsimp only at h); go_simp; try (with_reducible rfl)
      try simp only [Act.put, List.setIfInBounds_toArray, List.set]
      refine anyR_take (i := 29) (oi := ⟨some 31, .nilCheck (.tmp 30), 0, "syntax.go:51", #[⟨28, .data⟩, ⟨23, .guard⟩], some (23, false)⟩) (v := ?_) rfl (by kernel_rfl) (fun _ _ _ h => h) (Or.inl ⟨by rfl, ?_⟩) HS.out ?_
      rotate_left
      ·intro x h; (try dsimp only at h); go_simp; try (with_reducible rfl)
      try simp only [Act.put, List.setIfInBounds_toArray, List.set]
      refine anyR_take (i := 30) (oi := ⟨some 32, .fieldAddr 56 (.tmp 31) 1, 0, "syntax.go:51", #[⟨29, .data⟩, ⟨23, .guard⟩], some (23, false)⟩) (v := ?_) rfl (by kernel_rfl) (fun _ _ _ h => h) (Or.inl ⟨by rfl, ?_⟩) HS.out ?_
      rotate_left
      ·intro x h; (try dsimp only at h); go_simp; try (with_reducible rfl)
      try simp only [Act.put, List.setIfInBounds_toArray, List.set]
      refine anyR_take (i := 31) (oi := ⟨some 33, .load 3 (.tmp 32), 3, "syntax.go:51", #[⟨30, .data⟩, ⟨23, .guard⟩], some (23, false)⟩) (v := ?_) rfl (by kernel_rfl) (fun _ _ _ h => h) (Or.inl ⟨by rfl, ?_⟩) HS.out ?_
      rotate_left
      ·intro x h; (try dsimp only at h); go_simp; try (with_reducible rfl)
      try simp only [Act.put, List.setIfInBounds_toArray, List.set]
      refine anyR_take (i := 32) (oi := ⟨some 34, .indexAddr 22 (.tmp 29) (.tmp 33), 0, "syntax.go:51", #[⟨27, .data⟩, ⟨31, .data⟩, ⟨23, .guard⟩], some (23, false)⟩) (v := ?_) rfl (by kernel_rfl) (fun _ _ _ h => h) (Or.inl ⟨by rfl, ?_⟩) HS.out ?_
      rotate_left
      ·intro x h; (try dsimp only at h); go_simp; try (with_reducible rfl)
      try simp only [Act.put, List.setIfInBounds_toArray, List.set]
      refine anyR_take (i := 33) (oi := ⟨some 35, .fieldAddr 28 (.tmp 34) 0, 0, "syntax.go:51", #[⟨32, .data⟩, ⟨23, .guard⟩], some (23, false)⟩) (v := ?_) rfl (by kernel_rfl) (fun _ _ _ h => h) (Or.inl ⟨by rfl, ?_⟩) HS.out ?_
      rotate_left
      ·intro x h; (try dsimp only at h); go_simp; try (with_reducible rfl)
      try simp only [Act.put, List.setIfInBounds_toArray, List.set]
      refine anyR_take (i := 34) (oi := ⟨some 36, .load 24 (.tmp 35), 24, "syntax.go:51", #[⟨33, .data⟩, ⟨23, .guard⟩], some (23, false)⟩) (v := ?_) rfl (by kernel_rfl) (fun _ _ _ h => h) (Or.inl ⟨by rfl, ?_⟩) HS.out ?_
      rotate_left
      ·intro x h; (try dsimp only at h); go_simp; try (with_reducible rfl)
      try simp only [Act.put, List.setIfInBounds_toArray, List.set]
      refine anyR_take (i := 35) (oi := ⟨some 37, .binOp .eql 24 (.tmp 36) (.const (.int .u8 8)) 24, 4, "syntax.go:51", #[⟨34, .data⟩, ⟨23, .guard⟩], some (23, false)⟩) (v := ?_) rfl (by kernel_rfl) (fun _ _ _ h => h) (Or.inl ⟨by rfl, ?_⟩) HS.out ?_
      rotate_left
      ·intro x h; (try dsimp only at h); go_simp; try (with_reducible rfl)
      try simp only [Act.put, List.setIfInBounds_toArray, List.set]
      refine anyR_take (i := 36) (oi := ⟨some 38, .pick (.tmp 25) (.const (.bool true)) (.tmp 37), 4, "syntax.go:51", #[⟨23, .data⟩, ⟨35, .data⟩, ⟨10, .guard⟩], some (10, true)⟩) (v := ?_) rfl (by kernel_rfl) (fun _ _ _ h => h) (Or.inl ⟨by rfl, ?_⟩) HS.out ?_
      rotate_left
      ·intro x h; (try dsimp only at h); go_simp; try (with_reducible rfl)
      try simp only [Act.put, List.setIfInBounds_toArray, List.set]
      refine anyR_take (i := 37) (oi := ⟨some 39, .pick (.tmp 12) (.tmp 38) (.const (.bool false)), 4, "syntax.go:51", #[⟨10, .data⟩, ⟨36, .data⟩], none⟩) (v := ?_) rfl (by kernel_rfl) (fun _ _ _ h => h) (Or.inl ⟨by rfl, ?_⟩) HS.out ?_
      rotate_left
      ·intro x h; (try dsimp only at h); go_simp; try (with_reducible rfl)
      try simp only [Act.put, List.setIfInBounds_toArray, List.set]
      refine anyR_done (by kernel_rfl) ?_ _
      go_wp2
      go_end0
      obtain ⟨h1, h2⟩ := HF.out
      refine ⟨rfl, ve1, ?_, HH.out.step.trans (PStep.below HBD.out)⟩
      rw [← h1, ← h2]
      simpa using HH.out.at_.moved HBD.out
   ·obtain rfl : i1 = l.length := by have := H.at_.ile; omega
    have hn0 : nAt l l.length = [] := nAt_end (Nat.le_refl _)
    have h1 := H.i_
    have h2 := H.o_
    rw [hn0] at h1 h2
    have HH := Lib.hid H
    have HF := Lib.hid (And.intro h1 h2)
    have g1 : ¬ ((l.length : Int) < (l.length : Int)) := by omega
    clear H hrel HI0 hn0 h1 h2 hk hlo
    go_wp2
    obtain ⟨Wd1, hWd⟩ : ∃ V, wr.drew = V := ⟨_, rfl⟩
    have hbd : Below wr.heap.size wr Wd1 := by rw [← hWd]; exact (Below.refl _ wr).drew
    have hSall : ∀ V, Below wr.heap.size wr V → V.cell? ⟨p, 0, none⟩ = some (.slice (A) l.length c) ∧ V.cell? ⟨p, 1, none⟩ = some (.int .i64 l.length) := fun V hV => ⟨pw_cell_below hV q0, pw_cell_below hV q1⟩
    have HSA := Lib.hid hSall
    have HS := Lib.hid (hSall Wd1 hbd)
    have HBD := Lib.hid hbd
    have HWd := Lib.hid hWd
    clear hSall hbd hWd
    refine wp_region_R (fun w' => w'.cell? ⟨p, 0, none⟩ = some (.slice (A) l.length c) ∧ w'.cell? ⟨p, 1, none⟩ = some (.int .i64 l.length)) (fun j => true) (by kernel_rfl) ?_
    rw [HWd.out]
    refine anyR_take (i := 0) (oi := ⟨some 2, .move (.tmp 0), 54, "syntax.go:51", #[], none⟩) (v := ?_) rfl (by kernel_rfl) (fun _ _ _ h => h) (Or.inl ⟨by rfl, ?_⟩) HS.out ?_
    rotate_left
    ·intro x h; (try dsimp only at h); go_simp; try (with_reducible rfl)
    try simp only [Act.put, List.setIfInBounds_toArray, List.set]
    refine anyR_take (i := 1) (oi := ⟨some 3, .nilCheck (.tmp 2), 0, "syntax.go:51", #[⟨0, .data⟩], none⟩) (v := ?_) rfl (by kernel_rfl) (fun _ _ _ h => h) (Or.inl ⟨by rfl, ?_⟩) HS.out ?_
    rotate_left
    ·intro x h; (try dsimp only at h); go_simp; try (with_reducible rfl)
    try simp only [Act.put, List.setIfInBounds_toArray, List.set]
    refine anyR_take (i := 2) (oi := ⟨some 4, .fieldAddr 56 (.tmp 3) 1, 0, "syntax.go:51", #[⟨1, .data⟩], none⟩) (v := ?_) rfl (by kernel_rfl) (fun _ _ _ h => h) (Or.inl ⟨by rfl, ?_⟩) HS.out ?_
    rotate_left
    ·intro x h; (try dsimp only at h); go_simp; try (with_reducible rfl)
    try simp only [Act.put, List.setIfInBounds_toArray, List.set]
    refine anyR_take (i := 3) (oi := ⟨some 5, .load 3 (.tmp 4), 3, "syntax.go:51", #[⟨2, .data⟩], none⟩) (v := ?_) rfl (by kernel_rfl) (fun _ _ _ h => h) (Or.inl ⟨by rfl, ?_⟩) HS.out ?_
    rotate_left
    ·intro x h; (try dsimp only at h); go_simp; try (with_reducible rfl)
    try simp only [Act.put, List.setIfInBounds_toArray, List.set]
    refine anyR_take (i := 4) (oi := ⟨some 6, .move (.tmp 0), 54, "syntax.go:51", #[], none⟩) (v := ?_) rfl (by kernel_rfl) (fun _ _ _ h => h) (Or.inl ⟨by rfl, ?_⟩) HS.out ?_
    rotate_left
    ·intro x h; (try dsimp only at h); go_simp; try (with_reducible rfl)
    try simp only [Act.put, List.setIfInBounds_toArray, List.set]
    refine anyR_take (i := 5) (oi := ⟨some 7, .nilCheck (.tmp 6), 0, "syntax.go:51", #[⟨4, .data⟩], none⟩) (v := ?_) rfl (by kernel_rfl) (fun _ _ _ h => h) (Or.inl ⟨by rfl, ?_⟩) HS.out ?_
    rotate_left
    ·intro x h; (try dsimp only at h); go_simp; try (with_reducible rfl)
    try simp only [Act.put, List.setIfInBounds_toArray, List.set]
    refine anyR_take (i := 6) (oi := ⟨some 8, .fieldAddr 56 (.tmp 7) 0, 0, "syntax.go:51", #[⟨5, .data⟩], none⟩) (v := ?_) rfl (by kernel_rfl) (fun _ _ _ h => h) (Or.inl ⟨by rfl, ?_⟩) HS.out ?_
    rotate_left
    ·intro x h; (try dsimp only at h); go_simp; try (with_reducible rfl)
    try simp only [Act.put, List.setIfInBounds_toArray, List.set]
    refine anyR_take (i := 7) (oi := ⟨some 9, .load 22 (.tmp 8), 22, "syntax.go:51", #[⟨6, .data⟩], none⟩) (v := ?_) rfl (by kernel_rfl) (fun _ _ _ h => h) (Or.inl ⟨by rfl, ?_⟩) HS.out ?_
    rotate_left
    ·intro x h; (try dsimp only at h); go_simp; try (with_reducible rfl)
    try simp only [Act.put, List.setIfInBounds_toArray, List.set]
    refine anyR_take (i := 8) (oi := ⟨some 10, .call { callee := .builtin .len, args := #[.tmp 9], argTypes := #[22] }, 3, "syntax.go:51", #[⟨7, .data⟩], none⟩) (v := ?_) rfl (by kernel_rfl) (fun _ _ _ h => h) (Or.inl ⟨by rfl, ?_⟩) HS.out ?_
    rotate_left
    ·intro x h; (try dsimp only at h); go_simp; try (with_reducible rfl)
    try simp only [Act.put, List.setIfInBounds_toArray, List.set]
    refine anyR_take (i := 9) (oi := ⟨some 11, .binOp .lss 3 (.tmp 5) (.tmp 10) 3, 4, "syntax.go:51", #[⟨3, .data⟩, ⟨8, .data⟩], none⟩) (v := ?_) rfl (by kernel_rfl) (fun _ _ _ h => h) (Or.inl ⟨by rfl, ?_⟩) HS.out ?_
    rotate_left
    ·intro x h; (try dsimp only at h); go_simp; try (with_reducible rfl)
    try simp only [Act.put, List.setIfInBounds_toArray, List.set]
    refine anyR_take (i := 10) (oi := ⟨some 12, .move (.tmp 11), 4, "syntax.go:51", #[⟨9, .data⟩], none⟩) (v := ?_) rfl (by kernel_rfl) (fun _ _ _ h => h) (Or.inl ⟨by rfl, ?_⟩) HS.out ?_
    rotate_left
    ·intro x h; (try dsimp only at h); go_simp; try (with_reducible rfl)
    try simp only [Act.put, List.setIfInBounds_toArray, List.set]
    refine anyR_take (i := 11) (oi := ⟨some 13, .move (.tmp 0), 54, "syntax.go:51", #[⟨10, .guard⟩], some (10, true)⟩) (v := _) rfl (by kernel_rfl) (fun _ _ _ h => h) (Or.inr ⟨by rfl, rfl⟩) HS.out ?_
    try simp only [Act.put, List.setIfInBounds_toArray, List.set]
    refine anyR_take (i := 12) (oi := ⟨some 14, .nilCheck (.tmp 13), 0, "syntax.go:51", #[⟨11, .data⟩, ⟨10, .guard⟩], some (10, true)⟩) (v := _) rfl (by kernel_rfl) (fun _ _ _ h => h) (Or.inr ⟨by rfl, rfl⟩) HS.out ?_
    try simp only [Act.put, List.setIfInBounds_toArray, List.set]
    refine anyR_take (i := 13) (oi := ⟨some 15, .fieldAddr 56 (.tmp 14) 0, 0, "syntax.go:51", #[⟨12, .data⟩, ⟨10, .guard⟩], some (10, true)⟩) (v := _) rfl (by kernel_rfl) (fun _ _ _ h => h) (Or.inr ⟨by rfl, rfl⟩) HS.out ?_
    try simp only [Act.put, List.setIfInBounds_toArray, List.set]
    refine anyR_take (i := 14) (oi := ⟨some 16, .load 22 (.tmp 15), 22, "syntax.go:51", #[⟨13, .data⟩, ⟨10, .guard⟩], some (10, true)⟩) (v := _) rfl (by kernel_rfl) (fun _ _ _ h => h) (Or.inr ⟨by rfl, rfl⟩) HS.out ?_
    try simp only [Act.put, List.setIfInBounds_toArray, List.set]
    refine anyR_take (i := 15) (oi := ⟨some 17, .move (.tmp 0), 54, "syntax.go:51", #[⟨10, .guard⟩], some (10, true)⟩) (v := _) rfl (by kernel_rfl) (fun _ _ _ h => h) (Or.inr ⟨by rfl, rfl⟩) HS.out ?_
    try simp only [Act.put, List.setIfInBounds_toArray, List.set]
    refine anyR_take (i := 16) (oi := ⟨some 18, .nilCheck (.tmp 17), 0, "syntax.go:51", #[⟨15, .data⟩, ⟨10, .guard⟩], some (10, true)⟩) (v := _) rfl (by kernel_rfl) (fun _ _ _ h => h) (Or.inr ⟨by rfl, rfl⟩) HS.out ?_
    try simp only [Act.put, List.setIfInBounds_toArray, List.set]
    refine anyR_take (i := 17) (oi := ⟨some 19, .fieldAddr 56 (.tmp 18) 1, 0, "syntax.go:51", #[⟨16, .data⟩, ⟨10, .guard⟩], some (10, true)⟩) (v := _) rfl (by kernel_rfl) (fun _ _ _ h => h) (Or.inr ⟨by rfl, rfl⟩) HS.out ?_
    try simp only [Act.put, List.setIfInBounds_toArray, List.set]
    refine anyR_take (i := 18) (oi := ⟨some 20, .load 3 (.tmp 19), 3, "syntax.go:51", #[⟨17, .data⟩, ⟨10, .guard⟩], some (10, true)⟩) (v := _) rfl (by kernel_rfl) (fun _ _ _ h => h) (Or.inr ⟨by rfl, rfl⟩) HS.out ?_
    try simp only [Act.put, List.setIfInBounds_toArray, List.set]
    refine anyR_take (i := 19) (oi := ⟨some 21, .indexAddr 22 (.tmp 16) (.tmp 20), 0, "syntax.go:51", #[⟨14, .data⟩, ⟨18, .data⟩, ⟨10, .guard⟩], some (10, true)⟩) (v := _) rfl (by kernel_rfl) (fun _ _ _ h => h) (Or.inr ⟨by rfl, rfl⟩) HS.out ?_
    try simp only [Act.put, List.setIfInBounds_toArray, List.set]
    refine anyR_take (i := 20) (oi := ⟨some 22, .fieldAddr 28 (.tmp 21) 0, 0, "syntax.go:51", #[⟨19, .data⟩, ⟨10, .guard⟩], some (10, true)⟩) (v := _) rfl (by kernel_rfl) (fun _ _ _ h => h) (Or.inr ⟨by rfl, rfl⟩) HS.out ?_
    try simp only [Act.put, List.setIfInBounds_toArray, List.set]
    refine anyR_take (i := 21) (oi := ⟨some 23, .load 24 (.tmp 22), 24, "syntax.go:51", #[⟨20, .data⟩, ⟨10, .guard⟩], some (10, true)⟩) (v := _) rfl (by kernel_rfl) (fun _ _ _ h => h) (Or.inr ⟨by rfl, rfl⟩) HS.out ?_
    try simp only [Act.put, List.setIfInBounds_toArray, List.set]
    refine anyR_take (i := 22) (oi := ⟨some 24, .binOp .eql 24 (.tmp 23) (.const (.int .u8 7)) 24, 4, "syntax.go:51", #[⟨21, .data⟩, ⟨10, .guard⟩], some (10, true)⟩) (v := _) rfl (by kernel_rfl) (fun _ _ _ h => h) (Or.inr ⟨by rfl, rfl⟩) HS.out ?_
    try simp only [Act.put, List.setIfInBounds_toArray, List.set]
    refine anyR_take (i := 23) (oi := ⟨some 25, .move (.tmp 24), 4, "syntax.go:51", #[⟨22, .data⟩, ⟨10, .chain⟩, ⟨10, .guard⟩], some (10, true)⟩) (v := _) rfl (by kernel_rfl) (fun _ _ _ h => h) (Or.inr ⟨by rfl, rfl⟩) HS.out ?_
    try simp only [Act.put, List.setIfInBounds_toArray, List.set]
    refine anyR_take (i := 24) (oi := ⟨some 26, .move (.tmp 0), 54, "syntax.go:51", #[⟨23, .guard⟩], some (23, false)⟩) (v := _) rfl (by kernel_rfl) (fun _ _ _ h => h) (Or.inr ⟨by rfl, rfl⟩) HS.out ?_
    try simp only [Act.put, List.setIfInBounds_toArray, List.set]
    refine anyR_take (i := 25) (oi := ⟨some 27, .nilCheck (.tmp 26), 0, "syntax.go:51", #[⟨24, .data⟩, ⟨23, .guard⟩], some (23, false)⟩) (v := _) rfl (by kernel_rfl) (fun _ _ _ h => h) (Or.inr ⟨by rfl, rfl⟩) HS.out ?_
    try simp only [Act.put, List.setIfInBounds_toArray, List.set]
    refine anyR_take (i := 26) (oi := ⟨some 28, .fieldAddr 56 (.tmp 27) 0, 0, "syntax.go:51", #[⟨25, .data⟩, ⟨23, .guard⟩], some (23, false)⟩) (v := _) rfl (by kernel_rfl) (fun _ _ _ h => h) (Or.inr ⟨by rfl, rfl⟩) HS.out ?_
    try simp only [Act.put, List.setIfInBounds_toArray, List.set]
    refine anyR_take (i := 27) (oi := ⟨some 29, .load 22 (.tmp 28), 22, "syntax.go:51", #[⟨26, .data⟩, ⟨23, .guard⟩], some (23, false)⟩) (v := _) rfl (by kernel_rfl) (fun _ _ _ h => h) (Or.inr ⟨by rfl, rfl⟩) HS.out ?_
    try simp only [Act.put, List.setIfInBounds_toArray, List.set]
    refine anyR_take (i := 28) (oi := ⟨some 30, .move (.tmp 0), 54, "syntax.go:51", #[⟨23, .guard⟩], some (23, false)⟩) (v := _) rfl (by kernel_rfl) (fun _ _ _ h => h) (Or.inr ⟨by rfl, rfl⟩) HS.out ?_
    try simp only [Act.put, List.setIfInBounds_toArray, List.set]
    refine anyR_take (i := 29) (oi := ⟨some 31, .nilCheck (.tmp 30), 0, "syntax.go:51", #[⟨28, .data⟩, ⟨23, .guard⟩], some (23, false)⟩) (v := _) rfl (by kernel_rfl) (fun _ _ _ h => h) (Or.inr ⟨by rfl, rfl⟩) HS.out ?_
    try simp only [Act.put, List.setIfInBounds_toArray, List.set]
    refine anyR_take (i := 30) (oi := ⟨some 32, .fieldAddr 56 (.tmp 31) 1, 0, "syntax.go:51", #[⟨29, .data⟩, ⟨23, .guard⟩], some (23, false)⟩) (v := _) rfl (by kernel_rfl) (fun _ _ _ h => h) (Or.inr ⟨by rfl, rfl⟩) HS.out ?_
    try simp only [Act.put, List.setIfInBounds_toArray, List.set]
    refine anyR_take (i := 31) (oi := ⟨some 33, .load 3 (.tmp 32), 3, "syntax.go:51", #[⟨30, .data⟩, ⟨23, .guard⟩], some (23, false)⟩) (v := _) rfl (by kernel_rfl) (fun _ _ _ h => h) (Or.inr ⟨by rfl, rfl⟩) HS.out ?_
    try simp only [Act.put, List.setIfInBounds_toArray, List.set]
    refine anyR_take (i := 32) (oi := ⟨some 34, .indexAddr 22 (.tmp 29) (.tmp 33), 0, "syntax.go:51", #[⟨27, .data⟩, ⟨31, .data⟩, ⟨23, .guard⟩], some (23, false)⟩) (v := _) rfl (by kernel_rfl) (fun _ _ _ h => h) (Or.inr ⟨by rfl, rfl⟩) HS.out ?_
    try simp only [Act.put, List.setIfInBounds_toArray, List.set]
    refine anyR_take (i := 33) (oi := ⟨some 35, .fieldAddr 28 (.tmp 34) 0, 0, "syntax.go:51", #[⟨32, .data⟩, ⟨23, .guard⟩], some (23, false)⟩) (v := _) rfl (by kernel_rfl) (fun _ _ _ h => h) (Or.inr ⟨by rfl, rfl⟩) HS.out ?_
    try simp only [Act.put, List.setIfInBounds_toArray, List.set]
    refine anyR_take (i := 34) (oi := ⟨some 36, .load 24 (.tmp 35), 24, "syntax.go:51", #[⟨33, .data⟩, ⟨23, .guard⟩], some (23, false)⟩) (v := _) rfl (by kernel_rfl) (fun _ _ _ h => h) (Or.inr ⟨by rfl, rfl⟩) HS.out ?_
    try simp only [Act.put, List.setIfInBounds_toArray, List.set]
    refine anyR_take (i := 35) (oi := ⟨some 37, .binOp .eql 24 (.tmp 36) (.const (.int .u8 8)) 24, 4, "syntax.go:51", #[⟨34, .data⟩, ⟨23, .guard⟩], some (23, false)⟩) (v := _) rfl (by kernel_rfl) (fun _ _ _ h => h) (Or.inr ⟨by rfl, rfl⟩) HS.out ?_
    try simp only [Act.put, List.setIfInBounds_toArray, List.set]
    refine anyR_take (i := 36) (oi := ⟨some 38, .pick (.tmp 25) (.const (.bool true)) (.tmp 37), 4, "syntax.go:51", #[⟨23, .data⟩, ⟨35, .data⟩, ⟨10, .guard⟩], some (10, true)⟩) (v := _) rfl (by kernel_rfl) (fun _ _ _ h => h) (Or.inr ⟨by rfl, rfl⟩) HS.out ?_
    try simp only [Act.put, List.setIfInBounds_toArray, List.set]
    refine anyR_take (i := 37) (oi := ⟨some 39, .pick (.tmp 12) (.tmp 38) (.const (.bool false)), 4, "syntax.go:51", #[⟨10, .data⟩, ⟨36, .data⟩], none⟩) (v := ?_) rfl (by kernel_rfl) (fun _ _ _ h => h) (Or.inl ⟨by rfl, ?_⟩) HS.out ?_
    rotate_left
    ·intro x h; (try dsimp only at h); go_simp; try (with_reducible rfl)
    try simp only [Act.put, List.setIfInBounds_toArray, List.set]
    refine anyR_done (by kernel_rfl) ?_ _
    go_wp2
    go_end0
    obtain ⟨h1, h2⟩ := HF.out
    refine ⟨rfl, ve1, ?_, HH.out.step.trans (PStep.below HBD.out)⟩
    rw [← h1, ← h2]
    simpa using HH.out.at_.moved HBD.out
end Go.Proofs.YtmjbpgnjgblnmaaGreat
