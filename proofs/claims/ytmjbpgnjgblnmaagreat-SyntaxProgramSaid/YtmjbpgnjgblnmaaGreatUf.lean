/- What the claim stands on: part Uf. -/
import Derived.Test.YtmjbpgnjgblnmaaGreatUe
set_option maxRecDepth 100000
set_option maxHeartbeats 8000000
set_option linter.unusedVariables false
set_option linter.unusedSimpArgs false
namespace Go.Proofs.YtmjbpgnjgblnmaaGreat
open Go.RowKit Go.Proofs.YtmjbpgnjgblnmaaGreatW.PrintWords Go.Proofs.YtmjbpgnjgblnmaaGreatW.PrintLast Go.Proofs.YtmjbpgnjgblnmaaGreatW.PrintMore
theorem cell_lt {w : World} {a : Addr} {v : Value} (h : w.cell? a = some v) : a.block < w.heap.size := by
 rcases Nat.lt_or_ge a.block w.heap.size with h1 | h1
 ·exact h1
 ·simp [World.cell?, Array.getElem?_eq_none h1] at h
theorem drop_at {l : List Tk} {i : Nat} {t : Tk} (h : l[i]? = some t) : l.drop i = t :: l.drop (i + 1) := by
 have hi := (List.getElem?_eq_some_iff.1 h).1
 rw [List.drop_eq_getElem_cons hi]
 have := (List.getElem?_eq_some_iff.1 h).2
 rw [this]
theorem sgrown {W0 : World} {A : Option Addr} {c : Nat} {l : List Tk} {w : World} {p : Nat} {i : Nat} {d : Int} {out : List Ev} {ve : Value} {w6 : World} {ad : Addr} {t : Tk} (H : SAt W0 A c l w p i d out ve) (HA : A = some ad ∧ i < l.length) (hg : w.grownBy w6 ve.ownBlock) (hs : w.cell? ⟨p, 0, none⟩ = some (.slice (some ad) l.length c) ∧ w.cell? ⟨p, 1, none⟩ = some (.int .i64 i) ∧ w.cell? ⟨p, 3, none⟩ = some (ve) ∧ w.cell? (ad.add (i * 6)) = some (.int .u8 t.f0) ∧ w.cell? ⟨(ad.add (i * 6)).block, (ad.add (i * 6)).off + 1, none⟩ = some (.string t.f1) ∧ w.cell? ⟨(ad.add (i * 6)).block, (ad.add (i * 6)).off + 2, none⟩ = some (.int .i64 t.f2.f0) ∧ w.cell? ⟨(ad.add (i * 6)).block, (ad.add (i * 6)).off + 3, none⟩ = some (.int .i64 t.f2.f1) ∧ w.cell? ⟨(ad.add (i * 6)).block, (ad.add (i * 6)).off + 4, none⟩ = some (.int .i64 t.f2.f2) ∧ w.cell? ⟨(ad.add (i * 6)).block, (ad.add (i * 6)).off + 5, none⟩ = some (.int .i64 t.f3)) : w6.cell? ⟨p, 0, none⟩ = some (.slice (some ad) l.length c) ∧ w6.cell? ⟨p, 1, none⟩ = some (.int .i64 i) ∧ w6.cell? ⟨p, 3, none⟩ = some (ve) ∧ w6.cell? (ad.add (i * 6)) = some (.int .u8 t.f0) ∧ w6.cell? ⟨(ad.add (i * 6)).block, (ad.add (i * 6)).off + 1, none⟩ = some (.string t.f1) ∧ w6.cell? ⟨(ad.add (i * 6)).block, (ad.add (i * 6)).off + 2, none⟩ = some (.int .i64 t.f2.f0) ∧ w6.cell? ⟨(ad.add (i * 6)).block, (ad.add (i * 6)).off + 3, none⟩ = some (.int .i64 t.f2.f1) ∧ w6.cell? ⟨(ad.add (i * 6)).block, (ad.add (i * 6)).off + 4, none⟩ = some (.int .i64 t.f2.f2) ∧ w6.cell? ⟨(ad.add (i * 6)).block, (ad.add (i * 6)).off + 5, none⟩ = some (.int .i64 t.f3) := by
 have hpe : ve.ownBlock ≠ some p := fun e => by
  obtain ⟨cs, hc⟩ := own_typed H.row p e
  rw [H.box] at hc; cases hc
 have hb := hg.block p (blk_lt H.box) (fun e => hpe e.symm)
 have hlt : (ad.add (i * 6)).block < W0.heap.size := by
  obtain ⟨ad2, hA2, hcells⟩ := tok_cells H.toks i HA.2
  rw [HA.1] at hA2
  injection hA2 with hA2
  subst hA2
  obtain ⟨h0, _⟩ := hcells W0 (Below.refl _ _)
  exact cell_lt h0
 have hbt := hg.block (ad.add (i * 6)).block (Nat.lt_of_lt_of_le hlt H.below.size) (fun e => by
  have h1 := own_base H.row _ e.symm
  have h2 := H.hp
  omega)
 obtain ⟨h0, h1, h3, t0, t1, t2, t3, t4, t5⟩ := hs
 exact ⟨(World.cell?_of_block (a := ⟨p, 0, none⟩) hb).trans h0, (World.cell?_of_block (a := ⟨p, 1, none⟩) hb).trans h1, (World.cell?_of_block (a := ⟨p, 3, none⟩) hb).trans h3, (World.cell?_of_block hbt).trans t0, (World.cell?_of_block (a := ⟨(ad.add (i * 6)).block, (ad.add (i * 6)).off + 1, none⟩) hbt).trans t1, (World.cell?_of_block (a := ⟨(ad.add (i * 6)).block, (ad.add (i * 6)).off + 2, none⟩) hbt).trans t2, (World.cell?_of_block (a := ⟨(ad.add (i * 6)).block, (ad.add (i * 6)).off + 3, none⟩) hbt).trans t3, (World.cell?_of_block (a := ⟨(ad.add (i * 6)).block, (ad.add (i * 6)).off + 4, none⟩) hbt).trans t4, (World.cell?_of_block (a := ⟨(ad.add (i * 6)).block, (ad.add (i * 6)).off + 5, none⟩) hbt).trans t5⟩
theorem nAt_note {l : List Tk} {i : Nat} {t : Tk} (h : l[i]? = some t) (hn : isNote t = true) : nAt l i = t :: nAt l (i + 1) := by
 unfold nAt
 rw [drop_at h, List.takeWhile_cons, if_pos hn]
theorem nAt_else {l : List Tk} {i : Nat} {t : Tk} (h : l[i]? = some t) (hn : isNote t = false) : nAt l i = [] := by
 unfold nAt
 rw [drop_at h, List.takeWhile_cons, if_neg (by simp [hn])]
theorem nAt_end {l : List Tk} {i : Nat} (h : l.length ≤ i) : nAt l i = [] := by
 unfold nAt
 rw [List.drop_of_length_le h]
 rfl
theorem nAt_len (l : List Tk) (i : Nat) : (nAt l i).length ≤ l.length := by
 unfold nAt
 exact Nat.le_trans (List.takeWhile_sublist _).length_le (by rw [List.length_drop]; omega)
theorem rd_of {l : List Tk} {i : Nat} {t : Tk} (h : l[i]? = some t) : PSyntaxProgram.rd_T28 l i = t := by simp [PSyntaxProgram.rd_T28, List.getD_eq_getElem?_getD, h]
theorem rd_get (l : List Tk) (i : Nat) (hi : i < l.length) : l[i]? = some (PSyntaxProgram.rd_T28 l i) := by
 rw [rd_of (List.getElem?_eq_getElem hi)]
 exact List.getElem?_eq_getElem hi
theorem idx4 {i n : Nat} (h : i < n) (hn : n ≤ 4194304) : (i : Int) < (n : Int) ∧ (0 : Int) ≤ (i : Int) ∧ wrap64 ((i : Int) + 1) = (i : Int) + 1 ∧ IntKind.i64.wrap ((i : Int) + 1) = (i : Int) + 1 := by
 simp only [IntKind.wrap_i64]
 unfold wrap64
 omega
structure ComI (W0 : World) (A : Option Addr) (c : Nat) (l : List Tk) (w : World) (p : Nat) (i : Nat) (d : Int) (out : List Ev) (ve : Value) (wr : World) (j : Nat) (out' : List Ev) (ve' : Value) : Prop where
 at_ : SAt W0 A c l wr p j d out' ve'
 step : MStep p ve w ve' wr
 i_ : j + (nAt l j).length = i + (nAt l i).length
 o_ : out' ++ (nAt l j).map noteE = out ++ (nAt l i).map noteE
theorem ComI.next {W0 : World} {A : Option Addr} {c : Nat} {l : List Tk} {w : World} {p : Nat} {i : Nat} {d : Int} {out : List Ev} {ve : Value} {wr w2 : World} {j : Nat} {out' : List Ev} {ve' ve2 : Value} {t : Tk} (H : ComI W0 A c l w p i d out ve wr j out' ve') (h : l[j]? = some t) (hn : isNote t = true)
  (h2 : SAt W0 A c l w2 p (j + 1) d (out' ++ [noteE t]) ve2) (hs : MStep p ve' wr ve2 w2) : ComI W0 A c l w p i d out ve w2 (j + 1) (out' ++ [noteE t]) ve2 := by
 have h1 := H.i_
 have h3 := H.o_
 rw [nAt_note h hn] at h1 h3
 refine ⟨h2, H.step.trans hs, ?_, ?_⟩
 ·rw [← h1, List.length_cons]; omega
 ·rw [← h3, List.map_cons, List.append_assoc]; rfl
theorem comments_any {W0 : World} {A : Option Addr} {c : Nat} {l : List Tk} {w : World} {p : Nat} {i : Nat} {d : Int} {out : List Ev} {ve : Value} (H : SAt W0 A c l w p i d out ve) (hout : out.length ≤ 549755813888) :
  Calls Tryz.prog 35 #[.pointer (some ⟨p, 0, none⟩)] w fun e w' => e = .returned (.tuple #[]) ∧ ∃ ve', SAt W0 A c l w' p (i + (nAt l i).length) d (out ++ (nAt l i).map noteE) ve' ∧ MStep p ve w ve' w' := by
 have HI0 : Hid (ComI W0 A c l w p i d out ve w i out ve) := zh ⟨H, PStep.refl _ _ _ _, rfl, rfl⟩
 have HLL := zh (And.intro H.len hout)
 clear H hout
 go_enter Tryz.func35, Tryz.ntmps35
 go_wp2
 go_loopg [39] (l.length + 1) (fun kq v39 wr => Hid (∃ j out' ve', j + kq = i + l.length + 1 ∧ ComI W0 A c l w p i d out ve wr j out' ve'))
 case atStart => exact zh ⟨i, out, ve, by omega, HI0.out⟩
 case round =>
  obtain ⟨i1, out1, ve1, hk, H⟩ := hrel.out
  cases gk with
  | zero => have := H.at_.ile; omega
  | succ k1 =>
   obtain ⟨q0, q1, q2, q3⟩ := H.at_.cell
   have hlo : out1.length ≤ 824633720832 := by
    have h1 := congrArg List.length H.o_
    rw [List.length_append, List.length_append, List.length_map, List.length_map] at h1
    have h2 := HLL.out
    have h3 : (nAt l i).length ≤ l.length := nAt_len l i
    omega
   by_cases hj : i1 < l.length
   ·obtain ⟨ad, hA, htc⟩ := tok_cells H.at_.toks i1 hj
    have hg := rd_get l i1 hj
    obtain ⟨t, ht⟩ : ∃ t, PSyntaxProgram.rd_T28 l i1 = t := ⟨_, rfl⟩
    rw [ht] at htc hg
    have hAd := hA
    subst hA
    obtain ⟨c0, c1, c2, c3, c4, c5⟩ := htc wr H.at_.below
    obtain ⟨g1, g2, g3, g4⟩ := idx4 hj H.at_.len
    obtain ⟨k7, hk7⟩ : ∃ k7, (t.f0 == 7) = k7 := ⟨_, rfl⟩
    obtain ⟨k8, hk8⟩ : ∃ k8, (t.f0 == 8) = k8 := ⟨_, rfl⟩
    have hnote : isNote t = (k7 || k8) := by unfold isNote; rw [hk7, hk8]
    have HH := zh H
    have HG := zh hg
    have HK := zh hk
    have HNT := zh hnote
    have HT6 := zh hj
    have HLO := zh hlo
    clear H hrel HI0 htc ht hg hk hnote hAd hlo
    cases k7 with
    | true =>
     go_wp2
     obtain ⟨Wd1, hWd⟩ : ∃ V, wr.drew = V := ⟨_, rfl⟩
     have hbd : Below wr.heap.size wr Wd1 := by rw [← hWd]; exact (Below.refl _ wr).drew
     have hSall : ∀ V, Below wr.heap.size wr V → V.cell? ⟨p, 0, none⟩ = some (.slice (some ad) l.length c) ∧ V.cell? ⟨p, 1, none⟩ = some (.int .i64 i1) ∧ V.cell? (ad.add (i1 * 6)) = some (.int .u8 t.f0) := fun V hV => ⟨pw_cell_below hV q0, pw_cell_below hV q1, pw_cell_below hV c0⟩
     have HSA := zh hSall
     have HS := zh (hSall Wd1 hbd)
     have HBD := zh hbd
     have HWd := zh hWd
     clear hSall hbd hWd
     refine wp_region_R (fun w' => w'.cell? ⟨p, 0, none⟩ = some (.slice (some ad) l.length c) ∧ w'.cell? ⟨p, 1, none⟩ = some (.int .i64 i1) ∧ w'.cell? (ad.add (i1 * 6)) = some (.int .u8 t.f0)) (fun j => true) (by kernel_rfl) ?_
     rw [HWd.out]
     refine anyR_take (i := 0) (oi := ⟨some 2, .move (.tmp 0), 54, "syntax.go:51", #[], none⟩) (v := ?_) rfl (by kernel_rfl) (fun _ _ _ h => h) (Or.inl ⟨by rfl, ?_⟩) HS.out ?_
     rotate_left
     ·intro x h; go_simp; try (with_reducible rfl)
     try simp only [Act.put,sA,List.set]
     refine anyR_take (i := 1) (oi := ⟨some 3, .nilCheck (.tmp 2), 0, "syntax.go:51", #[⟨0, .data⟩], none⟩) (v := ?_) rfl (by kernel_rfl) (fun _ _ _ h => h) (Or.inl ⟨by rfl, ?_⟩) HS.out ?_
     rotate_left
     ·intro x h; go_simp; try (with_reducible rfl)
     try simp only [Act.put,sA,List.set]
     refine anyR_take (i := 2) (oi := ⟨some 4, .fieldAddr 56 (.tmp 3) 1, 0, "syntax.go:51", #[⟨1, .data⟩], none⟩) (v := ?_) rfl (by kernel_rfl) (fun _ _ _ h => h) (Or.inl ⟨by rfl, ?_⟩) HS.out ?_
     rotate_left
     ·intro x h; go_simp; try (with_reducible rfl)
     try simp only [Act.put,sA,List.set]
     refine anyR_take (i := 3) (oi := ⟨some 5, .load 3 (.tmp 4), 3, "syntax.go:51", #[⟨2, .data⟩], none⟩) (v := ?_) rfl (by kernel_rfl) (fun _ _ _ h => h) (Or.inl ⟨by rfl, ?_⟩) HS.out ?_
     rotate_left
     ·intro x h; go_simp; try (with_reducible rfl)
     try simp only [Act.put,sA,List.set]
     refine anyR_take (i := 4) (oi := ⟨some 6, .move (.tmp 0), 54, "syntax.go:51", #[], none⟩) (v := ?_) rfl (by kernel_rfl) (fun _ _ _ h => h) (Or.inl ⟨by rfl, ?_⟩) HS.out ?_
     rotate_left
     ·intro x h; go_simp; try (with_reducible rfl)
     try simp only [Act.put,sA,List.set]
     refine anyR_take (i := 5) (oi := ⟨some 7, .nilCheck (.tmp 6), 0, "syntax.go:51", #[⟨4, .data⟩], none⟩) (v := ?_) rfl (by kernel_rfl) (fun _ _ _ h => h) (Or.inl ⟨by rfl, ?_⟩) HS.out ?_
     rotate_left
     ·intro x h; go_simp; try (with_reducible rfl)
     try simp only [Act.put,sA,List.set]
     refine anyR_take (i := 6) (oi := ⟨some 8, .fieldAddr 56 (.tmp 7) 0, 0, "syntax.go:51", #[⟨5, .data⟩], none⟩) (v := ?_) rfl (by kernel_rfl) (fun _ _ _ h => h) (Or.inl ⟨by rfl, ?_⟩) HS.out ?_
     rotate_left
     ·intro x h; go_simp; try (with_reducible rfl)
     try simp only [Act.put,sA,List.set]
     refine anyR_take (i := 7) (oi := ⟨some 9, .load 22 (.tmp 8), 22, "syntax.go:51", #[⟨6, .data⟩], none⟩) (v := ?_) rfl (by kernel_rfl) (fun _ _ _ h => h) (Or.inl ⟨by rfl, ?_⟩) HS.out ?_
     rotate_left
     ·intro x h; go_simp; try (with_reducible rfl)
     try simp only [Act.put,sA,List.set]
     refine anyR_take (i := 8) (oi := ⟨some 10, .call { callee := .builtin .len, args := #[.tmp 9], argTypes := #[22] }, 3, "syntax.go:51", #[⟨7, .data⟩], none⟩) (v := ?_) rfl (by kernel_rfl) (fun _ _ _ h => h) (Or.inl ⟨by rfl, ?_⟩) HS.out ?_
     rotate_left
     ·intro x h; go_simp; try (with_reducible rfl)
     try simp only [Act.put,sA,List.set]
     refine anyR_take (i := 9) (oi := ⟨some 11, .binOp .lss 3 (.tmp 5) (.tmp 10) 3, 4, "syntax.go:51", #[⟨3, .data⟩, ⟨8, .data⟩], none⟩) (v := ?_) rfl (by kernel_rfl) (fun _ _ _ h => h) (Or.inl ⟨by rfl, ?_⟩) HS.out ?_
     rotate_left
     ·intro x h; go_simp; try (with_reducible rfl)
     try simp only [Act.put,sA,List.set]
     refine anyR_take (i := 10) (oi := ⟨some 12, .move (.tmp 11), 4, "syntax.go:51", #[⟨9, .data⟩], none⟩) (v := ?_) rfl (by kernel_rfl) (fun _ _ _ h => h) (Or.inl ⟨by rfl, ?_⟩) HS.out ?_
     rotate_left
     ·intro x h; go_simp; try (with_reducible rfl)
     try simp only [Act.put,sA,List.set]
     refine anyR_take (i := 11) (oi := ⟨some 13, .move (.tmp 0), 54, "syntax.go:51", #[⟨10, .guard⟩], some (10, true)⟩) (v := ?_) rfl (by kernel_rfl) (fun _ _ _ h => h) (Or.inl ⟨by rfl, ?_⟩) HS.out ?_
     rotate_left
     ·intro x h; go_simp; try (with_reducible rfl)
     try simp only [Act.put,sA,List.set]
     refine anyR_take (i := 12) (oi := ⟨some 14, .nilCheck (.tmp 13), 0, "syntax.go:51", #[⟨11, .data⟩, ⟨10, .guard⟩], some (10, true)⟩) (v := ?_) rfl (by kernel_rfl) (fun _ _ _ h => h) (Or.inl ⟨by rfl, ?_⟩) HS.out ?_
     rotate_left
     ·intro x h; go_simp; try (with_reducible rfl)
     try simp only [Act.put,sA,List.set]
     refine anyR_take (i := 13) (oi := ⟨some 15, .fieldAddr 56 (.tmp 14) 0, 0, "syntax.go:51", #[⟨12, .data⟩, ⟨10, .guard⟩], some (10, true)⟩) (v := ?_) rfl (by kernel_rfl) (fun _ _ _ h => h) (Or.inl ⟨by rfl, ?_⟩) HS.out ?_
     rotate_left
     ·intro x h; go_simp; try (with_reducible rfl)
     try simp only [Act.put,sA,List.set]
     refine anyR_take (i := 14) (oi := ⟨some 16, .load 22 (.tmp 15), 22, "syntax.go:51", #[⟨13, .data⟩, ⟨10, .guard⟩], some (10, true)⟩) (v := ?_) rfl (by kernel_rfl) (fun _ _ _ h => h) (Or.inl ⟨by rfl, ?_⟩) HS.out ?_
     rotate_left
     ·intro x h; go_simp; try (with_reducible rfl)
     try simp only [Act.put,sA,List.set]
     refine anyR_take (i := 15) (oi := ⟨some 17, .move (.tmp 0), 54, "syntax.go:51", #[⟨10, .guard⟩], some (10, true)⟩) (v := ?_) rfl (by kernel_rfl) (fun _ _ _ h => h) (Or.inl ⟨by rfl, ?_⟩) HS.out ?_
     rotate_left
     ·intro x h; go_simp; try (with_reducible rfl)
     try simp only [Act.put,sA,List.set]
     refine anyR_take (i := 16) (oi := ⟨some 18, .nilCheck (.tmp 17), 0, "syntax.go:51", #[⟨15, .data⟩, ⟨10, .guard⟩], some (10, true)⟩) (v := ?_) rfl (by kernel_rfl) (fun _ _ _ h => h) (Or.inl ⟨by rfl, ?_⟩) HS.out ?_
     rotate_left
     ·intro x h; go_simp; try (with_reducible rfl)
     try simp only [Act.put,sA,List.set]
     refine anyR_take (i := 17) (oi := ⟨some 19, .fieldAddr 56 (.tmp 18) 1, 0, "syntax.go:51", #[⟨16, .data⟩, ⟨10, .guard⟩], some (10, true)⟩) (v := ?_) rfl (by kernel_rfl) (fun _ _ _ h => h) (Or.inl ⟨by rfl, ?_⟩) HS.out ?_
     rotate_left
     ·intro x h; go_simp; try (with_reducible rfl)
     try simp only [Act.put,sA,List.set]
     refine anyR_take (i := 18) (oi := ⟨some 20, .load 3 (.tmp 19), 3, "syntax.go:51", #[⟨17, .data⟩, ⟨10, .guard⟩], some (10, true)⟩) (v := ?_) rfl (by kernel_rfl) (fun _ _ _ h => h) (Or.inl ⟨by rfl, ?_⟩) HS.out ?_
     rotate_left
     ·intro x h; go_simp; try (with_reducible rfl)
     try simp only [Act.put,sA,List.set]
     refine anyR_take (i := 19) (oi := ⟨some 21, .indexAddr 22 (.tmp 16) (.tmp 20), 0, "syntax.go:51", #[⟨14, .data⟩, ⟨18, .data⟩, ⟨10, .guard⟩], some (10, true)⟩) (v := ?_) rfl (by kernel_rfl) (fun _ _ _ h => h) (Or.inl ⟨by rfl, ?_⟩) HS.out ?_
     rotate_left
     ·intro x h; go_simp; try (with_reducible rfl)
     try simp only [Act.put,sA,List.set]
     refine anyR_take (i := 20) (oi := ⟨some 22, .fieldAddr 28 (.tmp 21) 0, 0, "syntax.go:51", #[⟨19, .data⟩, ⟨10, .guard⟩], some (10, true)⟩) (v := ?_) rfl (by kernel_rfl) (fun _ _ _ h => h) (Or.inl ⟨by rfl, ?_⟩) HS.out ?_
     rotate_left
     ·intro x h; go_simp; try (with_reducible rfl)
     try simp only [Act.put,sA,List.set]
     refine anyR_take (i := 21) (oi := ⟨some 23, .load 24 (.tmp 22), 24, "syntax.go:51", #[⟨20, .data⟩, ⟨10, .guard⟩], some (10, true)⟩) (v := ?_) rfl (by kernel_rfl) (fun _ _ _ h => h) (Or.inl ⟨by rfl, ?_⟩) HS.out ?_
     rotate_left
     ·intro x h; go_simp; try (with_reducible rfl)
     try simp only [Act.put,sA,List.set]
     refine anyR_take (i := 22) (oi := ⟨some 24, .binOp .eql 24 (.tmp 23) (.const (.int .u8 7)) 24, 4, "syntax.go:51", #[⟨21, .data⟩, ⟨10, .guard⟩], some (10, true)⟩) (v := ?_) rfl (by kernel_rfl) (fun _ _ _ h => h) (Or.inl ⟨by rfl, ?_⟩) HS.out ?_
     rotate_left
     ·intro x h; go_simp; try (with_reducible rfl)
     try simp only [Act.put,sA,List.set]
     refine anyR_take (i := 23) (oi := ⟨some 25, .move (.tmp 24), 4, "syntax.go:51", #[⟨22, .data⟩, ⟨10, .chain⟩, ⟨10, .guard⟩], some (10, true)⟩) (v := ?_) rfl (by kernel_rfl) (fun _ _ _ h => h) (Or.inl ⟨by rfl, ?_⟩) HS.out ?_
     rotate_left
     ·intro x h; go_simp; try (with_reducible rfl)
     try simp only [Act.put,sA,List.set]
     refine anyR_take (i := 24) (oi := ⟨some 26, .move (.tmp 0), 54, "syntax.go:51", #[⟨23, .guard⟩], some (23, false)⟩) (v := _) rfl (by kernel_rfl) (fun _ _ _ h => h) (Or.inr ⟨by rfl, rfl⟩) HS.out ?_
     try simp only [Act.put,sA,List.set]
     refine anyR_take (i := 25) (oi := ⟨some 27, .nilCheck (.tmp 26), 0, "syntax.go:51", #[⟨24, .data⟩, ⟨23, .guard⟩], some (23, false)⟩) (v := _) rfl (by kernel_rfl) (fun _ _ _ h => h) (Or.inr ⟨by rfl, rfl⟩) HS.out ?_
     try simp only [Act.put,sA,List.set]
     refine anyR_take (i := 26) (oi := ⟨some 28, .fieldAddr 56 (.tmp 27) 0, 0, "syntax.go:51", #[⟨25, .data⟩, ⟨23, .guard⟩], some (23, false)⟩) (v := _) rfl (by kernel_rfl) (fun _ _ _ h => h) (Or.inr ⟨by rfl, rfl⟩) HS.out ?_
     try simp only [Act.put,sA,List.set]
     refine anyR_take (i := 27) (oi := ⟨some 29, .load 22 (.tmp 28), 22, "syntax.go:51", #[⟨26, .data⟩, ⟨23, .guard⟩], some (23, false)⟩) (v := _) rfl (by kernel_rfl) (fun _ _ _ h => h) (Or.inr ⟨by rfl, rfl⟩) HS.out ?_
     try simp only [Act.put,sA,List.set]
     refine anyR_take (i := 28) (oi := ⟨some 30, .move (.tmp 0), 54, "syntax.go:51", #[⟨23, .guard⟩], some (23, false)⟩) (v := _) rfl (by kernel_rfl) (fun _ _ _ h => h) (Or.inr ⟨by rfl, rfl⟩) HS.out ?_
     try simp only [Act.put,sA,List.set]
     refine anyR_take (i := 29) (oi := ⟨some 31, .nilCheck (.tmp 30), 0, "syntax.go:51", #[⟨28, .data⟩, ⟨23, .guard⟩], some (23, false)⟩) (v := _) rfl (by kernel_rfl) (fun _ _ _ h => h) (Or.inr ⟨by rfl, rfl⟩) HS.out ?_
     try simp only [Act.put,sA,List.set]
     refine anyR_take (i := 30) (oi := ⟨some 32, .fieldAddr 56 (.tmp 31) 1, 0, "syntax.go:51", #[⟨29, .data⟩, ⟨23, .guard⟩], some (23, false)⟩) (v := _) rfl (by kernel_rfl) (fun _ _ _ h => h) (Or.inr ⟨by rfl, rfl⟩) HS.out ?_
     try simp only [Act.put,sA,List.set]
     refine anyR_take (i := 31) (oi := ⟨some 33, .load 3 (.tmp 32), 3, "syntax.go:51", #[⟨30, .data⟩, ⟨23, .guard⟩], some (23, false)⟩) (v := _) rfl (by kernel_rfl) (fun _ _ _ h => h) (Or.inr ⟨by rfl, rfl⟩) HS.out ?_
     try simp only [Act.put,sA,List.set]
     refine anyR_take (i := 32) (oi := ⟨some 34, .indexAddr 22 (.tmp 29) (.tmp 33), 0, "syntax.go:51", #[⟨27, .data⟩, ⟨31, .data⟩, ⟨23, .guard⟩], some (23, false)⟩) (v := _) rfl (by kernel_rfl) (fun _ _ _ h => h) (Or.inr ⟨by rfl, rfl⟩) HS.out ?_
     try simp only [Act.put,sA,List.set]
     refine anyR_take (i := 33) (oi := ⟨some 35, .fieldAddr 28 (.tmp 34) 0, 0, "syntax.go:51", #[⟨32, .data⟩, ⟨23, .guard⟩], some (23, false)⟩) (v := _) rfl (by kernel_rfl) (fun _ _ _ h => h) (Or.inr ⟨by rfl, rfl⟩) HS.out ?_
     try simp only [Act.put,sA,List.set]
     refine anyR_take (i := 34) (oi := ⟨some 36, .load 24 (.tmp 35), 24, "syntax.go:51", #[⟨33, .data⟩, ⟨23, .guard⟩], some (23, false)⟩) (v := _) rfl (by kernel_rfl) (fun _ _ _ h => h) (Or.inr ⟨by rfl, rfl⟩) HS.out ?_
     try simp only [Act.put,sA,List.set]
     refine anyR_take (i := 35) (oi := ⟨some 37, .binOp .eql 24 (.tmp 36) (.const (.int .u8 8)) 24, 4, "syntax.go:51", #[⟨34, .data⟩, ⟨23, .guard⟩], some (23, false)⟩) (v := _) rfl (by kernel_rfl) (fun _ _ _ h => h) (Or.inr ⟨by rfl, rfl⟩) HS.out ?_
     try simp only [Act.put,sA,List.set]
     refine anyR_take (i := 36) (oi := ⟨some 38, .pick (.tmp 25) (.const (.bool true)) (.tmp 37), 4, "syntax.go:51", #[⟨23, .data⟩, ⟨35, .data⟩, ⟨10, .guard⟩], some (10, true)⟩) (v := ?_) rfl (by kernel_rfl) (fun _ _ _ h => h) (Or.inl ⟨by rfl, ?_⟩) HS.out ?_
     rotate_left
     ·intro x h; go_simp; try (with_reducible rfl)
     try simp only [Act.put,sA,List.set]
     refine anyR_take (i := 37) (oi := ⟨some 39, .pick (.tmp 12) (.tmp 38) (.const (.bool false)), 4, "syntax.go:51", #[⟨10, .data⟩, ⟨36, .data⟩], none⟩) (v := ?_) rfl (by kernel_rfl) (fun _ _ _ h => h) (Or.inl ⟨by rfl, ?_⟩) HS.out ?_
     rotate_left
     ·intro x h; go_simp; try (with_reducible rfl)
     try simp only [Act.put,sA,List.set]
     refine anyR_done (by kernel_rfl) ?_ _
     clear HS HSA HWd
     have HP5 := zh (HH.out.at_.moved HBD.out)
     have HQ5 := zh (PStep.below HBD.out : MStep p ve1 wr ve1 Wd1)
     clear q0 q1 q2 q3 c0 c1 c2 c3 c4 c5
     obtain ⟨q0, q1, q2, q3⟩ := HP5.out.cell
     obtain ⟨ad2, hA2, htc2⟩ := tok_cells HP5.out.toks i1 hj
     injection hA2 with hA2
     subst hA2
     rw [show PSyntaxProgram.rd_T28 l i1 = t from rd_of HG.out] at htc2
     obtain ⟨c0, c1, c2, c3, c4, c5⟩ := htc2 Wd1 HP5.out.below
     clear htc2 HBD
     go_upto_region 1 with (fail)
     obtain ⟨Wd2, hWd⟩ : ∃ V, Wd1.drew = V := ⟨_, rfl⟩
     have hbd : Below Wd1.heap.size Wd1 Wd2 := by rw [← hWd]; exact (Below.refl _ Wd1).drew
     have hSall : ∀ V, Below Wd1.heap.size Wd1 V → V.cell? ⟨p, 0, none⟩ = some (.slice (some ad) l.length c) ∧ V.cell? ⟨p, 1, none⟩ = some (.int .i64 i1) ∧ V.cell? ⟨p, 3, none⟩ = some (ve1) ∧ V.cell? (ad.add (i1 * 6)) = some (.int .u8 t.f0) ∧ V.cell? ⟨(ad.add (i1 * 6)).block, (ad.add (i1 * 6)).off + 1, none⟩ = some (.string t.f1) ∧ V.cell? ⟨(ad.add (i1 * 6)).block, (ad.add (i1 * 6)).off + 2, none⟩ = some (.int .i64 t.f2.f0) ∧ V.cell? ⟨(ad.add (i1 * 6)).block, (ad.add (i1 * 6)).off + 3, none⟩ = some (.int .i64 t.f2.f1) ∧ V.cell? ⟨(ad.add (i1 * 6)).block, (ad.add (i1 * 6)).off + 4, none⟩ = some (.int .i64 t.f2.f2) ∧ V.cell? ⟨(ad.add (i1 * 6)).block, (ad.add (i1 * 6)).off + 5, none⟩ = some (.int .i64 t.f3) := fun V hV => ⟨pw_cell_below hV q0, pw_cell_below hV q1, pw_cell_below hV q3, pw_cell_below hV c0, pw_cell_below hV c1, pw_cell_below hV c2, pw_cell_below hV c3, pw_cell_below hV c4, pw_cell_below hV c5⟩
     have HSA := zh hSall
     have HS := zh (hSall Wd2 hbd)
     have HBD := zh hbd
     have HWd := zh hWd
     clear hSall hbd hWd
     refine wp_region_R (fun w' => w'.cell? ⟨p, 0, none⟩ = some (.slice (some ad) l.length c) ∧ w'.cell? ⟨p, 1, none⟩ = some (.int .i64 i1) ∧ w'.cell? ⟨p, 3, none⟩ = some (ve1) ∧ w'.cell? (ad.add (i1 * 6)) = some (.int .u8 t.f0) ∧ w'.cell? ⟨(ad.add (i1 * 6)).block, (ad.add (i1 * 6)).off + 1, none⟩ = some (.string t.f1) ∧ w'.cell? ⟨(ad.add (i1 * 6)).block, (ad.add (i1 * 6)).off + 2, none⟩ = some (.int .i64 t.f2.f0) ∧ w'.cell? ⟨(ad.add (i1 * 6)).block, (ad.add (i1 * 6)).off + 3, none⟩ = some (.int .i64 t.f2.f1) ∧ w'.cell? ⟨(ad.add (i1 * 6)).block, (ad.add (i1 * 6)).off + 4, none⟩ = some (.int .i64 t.f2.f2) ∧ w'.cell? ⟨(ad.add (i1 * 6)).block, (ad.add (i1 * 6)).off + 5, none⟩ = some (.int .i64 t.f3)) (fun j => !(Nat.beq j 20)) (by kernel_rfl) ?_
     rw [HWd.out]
     refine anyR_take (i := 0) (oi := ⟨some 40, .move (.tmp 0), 54, "syntax.go:52", #[], none⟩) (v := ?_) rfl (by kernel_rfl) (fun _ _ _ h => h) (Or.inl ⟨by rfl, ?_⟩) HS.out ?_
     rotate_left
     ·intro x h; go_simp; try (with_reducible rfl)
     try simp only [Act.put,sA,List.set]
     refine anyR_take (i := 1) (oi := ⟨some 41, .move (.tmp 0), 54, "syntax.go:52", #[], none⟩) (v := ?_) rfl (by kernel_rfl) (fun _ _ _ h => h) (Or.inl ⟨by rfl, ?_⟩) HS.out ?_
     rotate_left
     ·intro x h; go_simp; try (with_reducible rfl)
     try simp only [Act.put,sA,List.set]
     refine anyR_take (i := 2) (oi := ⟨some 42, .nilCheck (.tmp 41), 0, "syntax.go:52", #[⟨1, .data⟩], none⟩) (v := ?_) rfl (by kernel_rfl) (fun _ _ _ h => h) (Or.inl ⟨by rfl, ?_⟩) HS.out ?_
     rotate_left
     ·intro x h; go_simp; try (with_reducible rfl)
     try simp only [Act.put,sA,List.set]
     refine anyR_take (i := 3) (oi := ⟨some 43, .fieldAddr 56 (.tmp 42) 3, 0, "syntax.go:52", #[⟨2, .data⟩], none⟩) (v := ?_) rfl (by kernel_rfl) (fun _ _ _ h => h) (Or.inl ⟨by rfl, ?_⟩) HS.out ?_
     rotate_left
     ·intro x h; go_simp; try (with_reducible rfl)
     try simp only [Act.put,sA,List.set]
     refine anyR_take (i := 4) (oi := ⟨some 44, .load 41 (.tmp 43), 41, "syntax.go:52", #[⟨3, .data⟩], none⟩) (v := ?_) rfl (by kernel_rfl) (fun _ _ _ h => h) (Or.inl ⟨by rfl, ?_⟩) HS.out ?_
     rotate_left
     ·intro x h; go_simp; try (with_reducible rfl)
     try simp only [Act.put,sA,List.set]
     refine anyR_take (i := 5) (oi := ⟨some 45, .move (.tmp 0), 54, "syntax.go:52", #[], none⟩) (v := ?_) rfl (by kernel_rfl) (fun _ _ _ h => h) (Or.inl ⟨by rfl, ?_⟩) HS.out ?_
     rotate_left
     ·intro x h; go_simp; try (with_reducible rfl)
     try simp only [Act.put,sA,List.set]
     refine anyR_take (i := 6) (oi := ⟨some 46, .nilCheck (.tmp 45), 0, "syntax.go:52", #[⟨5, .data⟩], none⟩) (v := ?_) rfl (by kernel_rfl) (fun _ _ _ h => h) (Or.inl ⟨by rfl, ?_⟩) HS.out ?_
     rotate_left
     ·intro x h; go_simp; try (with_reducible rfl)
     try simp only [Act.put,sA,List.set]
     refine anyR_take (i := 7) (oi := ⟨some 47, .fieldAddr 56 (.tmp 46) 0, 0, "syntax.go:52", #[⟨6, .data⟩], none⟩) (v := ?_) rfl (by kernel_rfl) (fun _ _ _ h => h) (Or.inl ⟨by rfl, ?_⟩) HS.out ?_
     rotate_left
     ·intro x h; go_simp; try (with_reducible rfl)
     try simp only [Act.put,sA,List.set]
     refine anyR_take (i := 8) (oi := ⟨some 48, .load 22 (.tmp 47), 22, "syntax.go:52", #[⟨7, .data⟩], none⟩) (v := ?_) rfl (by kernel_rfl) (fun _ _ _ h => h) (Or.inl ⟨by rfl, ?_⟩) HS.out ?_
     rotate_left
     ·intro x h; go_simp; try (with_reducible rfl)
     try simp only [Act.put,sA,List.set]
     refine anyR_take (i := 9) (oi := ⟨some 49, .move (.tmp 0), 54, "syntax.go:52", #[], none⟩) (v := ?_) rfl (by kernel_rfl) (fun _ _ _ h => h) (Or.inl ⟨by rfl, ?_⟩) HS.out ?_
     rotate_left
     ·intro x h; go_simp; try (with_reducible rfl)
     try simp only [Act.put,sA,List.set]
     refine anyR_take (i := 10) (oi := ⟨some 50, .nilCheck (.tmp 49), 0, "syntax.go:52", #[⟨9, .data⟩], none⟩) (v := ?_) rfl (by kernel_rfl) (fun _ _ _ h => h) (Or.inl ⟨by rfl, ?_⟩) HS.out ?_
     rotate_left
     ·intro x h; go_simp; try (with_reducible rfl)
     try simp only [Act.put,sA,List.set]
     refine anyR_take (i := 11) (oi := ⟨some 51, .fieldAddr 56 (.tmp 50) 1, 0, "syntax.go:52", #[⟨10, .data⟩], none⟩) (v := ?_) rfl (by kernel_rfl) (fun _ _ _ h => h) (Or.inl ⟨by rfl, ?_⟩) HS.out ?_
     rotate_left
     ·intro x h; go_simp; try (with_reducible rfl)
     try simp only [Act.put,sA,List.set]
     refine anyR_take (i := 12) (oi := ⟨some 52, .load 3 (.tmp 51), 3, "syntax.go:52", #[⟨11, .data⟩], none⟩) (v := ?_) rfl (by kernel_rfl) (fun _ _ _ h => h) (Or.inl ⟨by rfl, ?_⟩) HS.out ?_
     rotate_left
     ·intro x h; go_simp; try (with_reducible rfl)
     try simp only [Act.put,sA,List.set]
     refine anyR_take (i := 13) (oi := ⟨some 53, .indexAddr 22 (.tmp 48) (.tmp 52), 0, "syntax.go:52", #[⟨8, .data⟩, ⟨12, .data⟩], none⟩) (v := ?_) rfl (by kernel_rfl) (fun _ _ _ h => h) (Or.inl ⟨by rfl, ?_⟩) HS.out ?_
     rotate_left
     ·intro x h; go_simp; try (with_reducible rfl)
     try simp only [Act.put,sA,List.set]
     refine anyR_take (i := 14) (oi := ⟨some 54, .load 28 (.tmp 53), 28, "syntax.go:52", #[⟨13, .data⟩], none⟩) (v := ?_) rfl (by kernel_rfl) (fun _ _ _ h => h) (Or.inl ⟨by rfl, ?_⟩) HS.out ?_
     rotate_left
     ·intro x h; go_simp; try (with_reducible rfl)
     try simp only [Act.put,sA,List.set]
     refine anyR_take (i := 15) (oi := ⟨some 55, .build 48 #[(0, .const (.int .u8 4)), (2, .tmp 54)], 48, "syntax.go:52", #[⟨14, .data⟩], none⟩) (v := ?_) rfl (by kernel_rfl) (fun _ _ _ h => h) (Or.inl ⟨by rfl, ?_⟩) HS.out ?_
     rotate_left
     ·intro x h; go_simp; try (with_reducible rfl)
     try simp only [Act.put,sA,List.set]
     have HP6 := zh (HP5.out.moved HBD.out)
     refine anyR_ready (rs := [16]) (by kernel_rfl) (by simp) ?_
     refine ReadyR.cons (o := ⟨some 56, .buildSlice 41 1 #[(0, .tmp 55)], 41, "syntax.go:52", #[⟨15, .data⟩], none⟩) rfl (fun K hK => ?_) ReadyR.nil
     go_simp
     refine hK.out _ _ (fun _ => HSA.out _ (HBD.out.alloc HBD.out.size _)) ?_
     clear hK K
     try simp only [Act.put,sA,List.set]
     refine anyR_ready (rs := [17]) (by kernel_rfl) (by simp) ?_
     refine ReadyR.cons (o := ⟨some 57, .call { callee := .builtin .append, args := #[.tmp 44, .tmp 56], argTypes := #[41, 41] }, 41, "syntax.go:52", #[⟨4, .data⟩, ⟨16, .data⟩], none⟩) rfl (fun K hK => ?_) ReadyR.nil
     refine step_ev (W := Wd2) rfl (.tmp 44) (.tmp 56) rfl p (u := ve1) (q := out1.length) (kc := out1.flatMap evCells) (cs := [.int .u8 4, .int .u8 0, .int .u8 t.f0, .string t.f1, .int .i64 t.f2.f0, .int .i64 t.f2.f1, .int .i64 t.f2.f2, .int .i64 t.f3]) rfl rfl HP6.out.row rfl (evCells_one (noteE t)) (Nat.le_of_lt (blk_lt HP6.out.box)) (by have := HLO.out; omega) ?_
     intro G9 C9 w6 ho hg hat
     obtain ⟨⟨cur6, hcur, hfit⟩, hnx⟩ := HP6.out.next (e := noteE t) ho hg hat
     have hS7 : w6.cell? ⟨p, 0, none⟩ = some (.slice (some ad) l.length c) ∧ w6.cell? ⟨p, 1, none⟩ = some (.int .i64 i1) ∧ w6.cell? ⟨p, 3, none⟩ = some (ve1) ∧ w6.cell? (ad.add (i1 * 6)) = some (.int .u8 t.f0) ∧ w6.cell? ⟨(ad.add (i1 * 6)).block, (ad.add (i1 * 6)).off + 1, none⟩ = some (.string t.f1) ∧ w6.cell? ⟨(ad.add (i1 * 6)).block, (ad.add (i1 * 6)).off + 2, none⟩ = some (.int .i64 t.f2.f0) ∧ w6.cell? ⟨(ad.add (i1 * 6)).block, (ad.add (i1 * 6)).off + 3, none⟩ = some (.int .i64 t.f2.f1) ∧ w6.cell? ⟨(ad.add (i1 * 6)).block, (ad.add (i1 * 6)).off + 4, none⟩ = some (.int .i64 t.f2.f2) ∧ w6.cell? ⟨(ad.add (i1 * 6)).block, (ad.add (i1 * 6)).off + 5, none⟩ = some (.int .i64 t.f3) := sgrown HP6.out ⟨rfl, HT6.out⟩ hg HS.out
     have HS7 := zh hS7
     have HCU := zh (And.intro hcur hfit)
     have HNX := zh hnx
     refine hK.out _ _ (fun _ => hS7) ?_
     clear hK K ho hg hat hS7 hcur hfit hnx
     try simp only [Act.put,sA,List.set]
     refine anyR_ready (rs := [18]) (by kernel_rfl) (by simp) ?_
     refine ReadyR.cons (o := ⟨some 58, .nilCheck (.tmp 40), 0, "syntax.go:52", #[⟨0, .data⟩, ⟨0, .phase⟩, ⟨1, .phase⟩, ⟨2, .phase⟩, ⟨3, .phase⟩, ⟨4, .phase⟩, ⟨5, .phase⟩, ⟨6, .phase⟩, ⟨7, .phase⟩, ⟨8, .phase⟩, ⟨9, .phase⟩, ⟨10, .phase⟩, ⟨11, .phase⟩, ⟨12, .phase⟩, ⟨13, .phase⟩, ⟨14, .phase⟩, ⟨15, .phase⟩, ⟨16, .phase⟩, ⟨17, .phase⟩], none⟩) rfl (fun K hK => ?_) ReadyR.nil
     go_simp
     refine hK.out _ _ (fun _ => HS7.out) ?_
     clear hK K
     try simp only [Act.put,sA,List.set]
     refine anyR_ready (rs := [19]) (by kernel_rfl) (by simp) ?_
     refine ReadyR.cons (o := ⟨some 59, .fieldAddr 56 (.tmp 58) 3, 0, "syntax.go:52", #[⟨18, .data⟩, ⟨0, .phase⟩, ⟨1, .phase⟩, ⟨2, .phase⟩, ⟨3, .phase⟩, ⟨4, .phase⟩, ⟨5, .phase⟩, ⟨6, .phase⟩, ⟨7, .phase⟩, ⟨8, .phase⟩, ⟨9, .phase⟩, ⟨10, .phase⟩, ⟨11, .phase⟩, ⟨12, .phase⟩, ⟨13, .phase⟩, ⟨14, .phase⟩, ⟨15, .phase⟩, ⟨16, .phase⟩, ⟨17, .phase⟩], none⟩) rfl (fun K hK => ?_) ReadyR.nil
     go_simp
     refine hK.out _ _ (fun _ => HS7.out) ?_
     clear hK K
     try simp only [Act.put,sA,List.set]
     refine anyR_ready (rs := [20]) (by kernel_rfl) (by simp) ?_
     refine ReadyR.cons (o := ⟨none, .store 41 (.tmp 59) (.tmp 57), 0, "syntax.go:52", #[⟨19, .data⟩, ⟨17, .data⟩, ⟨17, .chain⟩, ⟨0, .phase⟩, ⟨1, .phase⟩, ⟨2, .phase⟩, ⟨3, .phase⟩, ⟨4, .phase⟩, ⟨5, .phase⟩, ⟨6, .phase⟩, ⟨7, .phase⟩, ⟨8, .phase⟩, ⟨9, .phase⟩, ⟨10, .phase⟩, ⟨11, .phase⟩, ⟨12, .phase⟩, ⟨13, .phase⟩, ⟨14, .phase⟩, ⟨15, .phase⟩, ⟨16, .phase⟩, ⟨17, .phase⟩], none⟩) rfl (fun K hK => ?_) ReadyR.nil
     refine step_store rfl rfl 41 (.tmp 59) (.tmp 57) rfl (g := p) (off := 3) (.slice (some ⟨G9, 0, none⟩) (out1.length + 1) C9) [.slice (some ⟨G9, 0, none⟩) (out1.length + 1) C9] rfl rfl rfl (by kernel_rfl) (fun v hv => by rw [List.mem_singleton.1 hv]; rfl) HCU.out.1 HCU.out.2 ?_
     have HN7 := zh (HNX.out _ rfl)
     refine hK.out _ _ (fun h => by cases h) ?_
     clear hK K HNX HCU HS7 HS HSA
     generalize w6.setCells p 3 [.slice (some ⟨G9, 0, none⟩) (out1.length + 1) C9] = V7 at HN7 ⊢
     try simp only [Act.put,sA,List.set]
     refine anyR_done (by kernel_rfl) ?_ _
     have HP7 := zh HN7.out.1
     have HQ7 := zh (HQ5.out.trans ((PStep.below HBD.out).trans HN7.out.2))
     clear q0 q1 q2 q3 c0 c1 c2 c3 c4 c5 HN7
     obtain ⟨q0, q1, q2, q3⟩ := HP7.out.cell
     go_wp2_with ((with_reducible refine gate_ (.store 3 (.tmp 66) (.tmp 64)) rfl ?_); refine wl_cells rfl rfl _ _ _ rfl (g := p) (off := 1) (.int .i64 ((i1 : Int) + 1)) [.int .i64 ((i1 : Int) + 1)] rfl rfl rfl (by kernel_rfl) (fun v hv => by rw [List.mem_singleton.1 hv]; rfl) HP7.out.box (by simp) ?_; intro V8 hV; obtain ⟨hA, hS⟩ := HP7.out.upd 1 (.int .i64 ((i1 : Int) + 1)) (by decide) (i' := i1 + 1) (d' := d) rfl hj; rw [← hV] at hA hS; have HP8 := zh hA; have HQ8 := zh (HQ7.out.trans hS); clear q0 q1 q2 q3 hV hA hS)
     go_roundg k1
     case measure => omega
     case rel => exact zh ⟨i1 + 1, _, _, by have := HK.out; omega, HH.out.next HG.out HNT.out HP8.out HQ8.out⟩
    | false =>
     cases k8 with
     | true =>
      go_wp2
      obtain ⟨Wd1, hWd⟩ : ∃ V, wr.drew = V := ⟨_, rfl⟩
      have hbd : Below wr.heap.size wr Wd1 := by rw [← hWd]; exact (Below.refl _ wr).drew
      have hSall : ∀ V, Below wr.heap.size wr V → V.cell? ⟨p, 0, none⟩ = some (.slice (some ad) l.length c) ∧ V.cell? ⟨p, 1, none⟩ = some (.int .i64 i1) ∧ V.cell? (ad.add (i1 * 6)) = some (.int .u8 t.f0) := fun V hV => ⟨pw_cell_below hV q0, pw_cell_below hV q1, pw_cell_below hV c0⟩
      have HSA := zh hSall
      have HS := zh (hSall Wd1 hbd)
      have HBD := zh hbd
      have HWd := zh hWd
      clear hSall hbd hWd
      refine wp_region_R (fun w' => w'.cell? ⟨p, 0, none⟩ = some (.slice (some ad) l.length c) ∧ w'.cell? ⟨p, 1, none⟩ = some (.int .i64 i1) ∧ w'.cell? (ad.add (i1 * 6)) = some (.int .u8 t.f0)) (fun j => true) (by kernel_rfl) ?_
      rw [HWd.out]
      refine anyR_take (i := 0) (oi := ⟨some 2, .move (.tmp 0), 54, "syntax.go:51", #[], none⟩) (v := ?_) rfl (by kernel_rfl) (fun _ _ _ h => h) (Or.inl ⟨by rfl, ?_⟩) HS.out ?_
      rotate_left
      ·intro x h; go_simp; try (with_reducible rfl)
      try simp only [Act.put,sA,List.set]
      refine anyR_take (i := 1) (oi := ⟨some 3, .nilCheck (.tmp 2), 0, "syntax.go:51", #[⟨0, .data⟩], none⟩) (v := ?_) rfl (by kernel_rfl) (fun _ _ _ h => h) (Or.inl ⟨by rfl, ?_⟩) HS.out ?_
      rotate_left
      ·intro x h; go_simp; try (with_reducible rfl)
      try simp only [Act.put,sA,List.set]
      refine anyR_take (i := 2) (oi := ⟨some 4, .fieldAddr 56 (.tmp 3) 1, 0, "syntax.go:51", #[⟨1, .data⟩], none⟩) (v := ?_) rfl (by kernel_rfl) (fun _ _ _ h => h) (Or.inl ⟨by rfl, ?_⟩) HS.out ?_
      rotate_left
      ·intro x h; go_simp; try (with_reducible rfl)
      try simp only [Act.put,sA,List.set]
      refine anyR_take (i := 3) (oi := ⟨some 5, .load 3 (.tmp 4), 3, "syntax.go:51", #[⟨2, .data⟩], none⟩) (v := ?_) rfl (by kernel_rfl) (fun _ _ _ h => h) (Or.inl ⟨by rfl, ?_⟩) HS.out ?_
      rotate_left
      ·intro x h; go_simp; try (with_reducible rfl)
      try simp only [Act.put,sA,List.set]
      refine anyR_take (i := 4) (oi := ⟨some 6, .move (.tmp 0), 54, "syntax.go:51", #[], none⟩) (v := ?_) rfl (by kernel_rfl) (fun _ _ _ h => h) (Or.inl ⟨by rfl, ?_⟩) HS.out ?_
      rotate_left
      ·intro x h; go_simp; try (with_reducible rfl)
      try simp only [Act.put,sA,List.set]
      refine anyR_take (i := 5) (oi := ⟨some 7, .nilCheck (.tmp 6), 0, "syntax.go:51", #[⟨4, .data⟩], none⟩) (v := ?_) rfl (by kernel_rfl) (fun _ _ _ h => h) (Or.inl ⟨by rfl, ?_⟩) HS.out ?_
      rotate_left
      ·intro x h; go_simp; try (with_reducible rfl)
      try simp only [Act.put,sA,List.set]
      refine anyR_take (i := 6) (oi := ⟨some 8, .fieldAddr 56 (.tmp 7) 0, 0, "syntax.go:51", #[⟨5, .data⟩], none⟩) (v := ?_) rfl (by kernel_rfl) (fun _ _ _ h => h) (Or.inl ⟨by rfl, ?_⟩) HS.out ?_
      rotate_left
      ·intro x h; go_simp; try (with_reducible rfl)
      try simp only [Act.put,sA,List.set]
      refine anyR_take (i := 7) (oi := ⟨some 9, .load 22 (.tmp 8), 22, "syntax.go:51", #[⟨6, .data⟩], none⟩) (v := ?_) rfl (by kernel_rfl) (fun _ _ _ h => h) (Or.inl ⟨by rfl, ?_⟩) HS.out ?_
      rotate_left
      ·intro x h; go_simp; try (with_reducible rfl)
      try simp only [Act.put,sA,List.set]
      refine anyR_take (i := 8) (oi := ⟨some 10, .call { callee := .builtin .len, args := #[.tmp 9], argTypes := #[22] }, 3, "syntax.go:51", #[⟨7, .data⟩], none⟩) (v := ?_) rfl (by kernel_rfl) (fun _ _ _ h => h) (Or.inl ⟨by rfl, ?_⟩) HS.out ?_
      rotate_left
      ·intro x h; go_simp; try (with_reducible rfl)
      try simp only [Act.put,sA,List.set]
      refine anyR_take (i := 9) (oi := ⟨some 11, .binOp .lss 3 (.tmp 5) (.tmp 10) 3, 4, "syntax.go:51", #[⟨3, .data⟩, ⟨8, .data⟩], none⟩) (v := ?_) rfl (by kernel_rfl) (fun _ _ _ h => h) (Or.inl ⟨by rfl, ?_⟩) HS.out ?_
      rotate_left
      ·intro x h; go_simp; try (with_reducible rfl)
      try simp only [Act.put,sA,List.set]
      refine anyR_take (i := 10) (oi := ⟨some 12, .move (.tmp 11), 4, "syntax.go:51", #[⟨9, .data⟩], none⟩) (v := ?_) rfl (by kernel_rfl) (fun _ _ _ h => h) (Or.inl ⟨by rfl, ?_⟩) HS.out ?_
      rotate_left
      ·intro x h; go_simp; try (with_reducible rfl)
      try simp only [Act.put,sA,List.set]
      refine anyR_take (i := 11) (oi := ⟨some 13, .move (.tmp 0), 54, "syntax.go:51", #[⟨10, .guard⟩], some (10, true)⟩) (v := ?_) rfl (by kernel_rfl) (fun _ _ _ h => h) (Or.inl ⟨by rfl, ?_⟩) HS.out ?_
      rotate_left
      ·intro x h; go_simp; try (with_reducible rfl)
      try simp only [Act.put,sA,List.set]
      refine anyR_take (i := 12) (oi := ⟨some 14, .nilCheck (.tmp 13), 0, "syntax.go:51", #[⟨11, .data⟩, ⟨10, .guard⟩], some (10, true)⟩) (v := ?_) rfl (by kernel_rfl) (fun _ _ _ h => h) (Or.inl ⟨by rfl, ?_⟩) HS.out ?_
      rotate_left
      ·intro x h; go_simp; try (with_reducible rfl)
      try simp only [Act.put,sA,List.set]
      refine anyR_take (i := 13) (oi := ⟨some 15, .fieldAddr 56 (.tmp 14) 0, 0, "syntax.go:51", #[⟨12, .data⟩, ⟨10, .guard⟩], some (10, true)⟩) (v := ?_) rfl (by kernel_rfl) (fun _ _ _ h => h) (Or.inl ⟨by rfl, ?_⟩) HS.out ?_
      rotate_left
      ·intro x h; go_simp; try (with_reducible rfl)
      try simp only [Act.put,sA,List.set]
      refine anyR_take (i := 14) (oi := ⟨some 16, .load 22 (.tmp 15), 22, "syntax.go:51", #[⟨13, .data⟩, ⟨10, .guard⟩], some (10, true)⟩) (v := ?_) rfl (by kernel_rfl) (fun _ _ _ h => h) (Or.inl ⟨by rfl, ?_⟩) HS.out ?_
      rotate_left
      ·intro x h; go_simp; try (with_reducible rfl)
      try simp only [Act.put,sA,List.set]
      refine anyR_take (i := 15) (oi := ⟨some 17, .move (.tmp 0), 54, "syntax.go:51", #[⟨10, .guard⟩], some (10, true)⟩) (v := ?_) rfl (by kernel_rfl) (fun _ _ _ h => h) (Or.inl ⟨by rfl, ?_⟩) HS.out ?_
      rotate_left
      ·intro x h; go_simp; try (with_reducible rfl)
      try simp only [Act.put,sA,List.set]
      refine anyR_take (i := 16) (oi := ⟨some 18, .nilCheck (.tmp 17), 0, "syntax.go:51", #[⟨15, .data⟩, ⟨10, .guard⟩], some (10, true)⟩) (v := ?_) rfl (by kernel_rfl) (fun _ _ _ h => h) (Or.inl ⟨by rfl, ?_⟩) HS.out ?_
      rotate_left
      ·intro x h; go_simp; try (with_reducible rfl)
      try simp only [Act.put,sA,List.set]
      refine anyR_take (i := 17) (oi := ⟨some 19, .fieldAddr 56 (.tmp 18) 1, 0, "syntax.go:51", #[⟨16, .data⟩, ⟨10, .guard⟩], some (10, true)⟩) (v := ?_) rfl (by kernel_rfl) (fun _ _ _ h => h) (Or.inl ⟨by rfl, ?_⟩) HS.out ?_
      rotate_left
      ·intro x h; go_simp; try (with_reducible rfl)
      try simp only [Act.put,sA,List.set]
      refine anyR_take (i := 18) (oi := ⟨some 20, .load 3 (.tmp 19), 3, "syntax.go:51", #[⟨17, .data⟩, ⟨10, .guard⟩], some (10, true)⟩) (v := ?_) rfl (by kernel_rfl) (fun _ _ _ h => h) (Or.inl ⟨by rfl, ?_⟩) HS.out ?_
      rotate_left
      ·intro x h; go_simp; try (with_reducible rfl)
      try simp only [Act.put,sA,List.set]
      refine anyR_take (i := 19) (oi := ⟨some 21, .indexAddr 22 (.tmp 16) (.tmp 20), 0, "syntax.go:51", #[⟨14, .data⟩, ⟨18, .data⟩, ⟨10, .guard⟩], some (10, true)⟩) (v := ?_) rfl (by kernel_rfl) (fun _ _ _ h => h) (Or.inl ⟨by rfl, ?_⟩) HS.out ?_
      rotate_left
      ·intro x h; go_simp; try (with_reducible rfl)
      try simp only [Act.put,sA,List.set]
      refine anyR_take (i := 20) (oi := ⟨some 22, .fieldAddr 28 (.tmp 21) 0, 0, "syntax.go:51", #[⟨19, .data⟩, ⟨10, .guard⟩], some (10, true)⟩) (v := ?_) rfl (by kernel_rfl) (fun _ _ _ h => h) (Or.inl ⟨by rfl, ?_⟩) HS.out ?_
      rotate_left
      ·intro x h; go_simp; try (with_reducible rfl)
      try simp only [Act.put,sA,List.set]
      refine anyR_take (i := 21) (oi := ⟨some 23, .load 24 (.tmp 22), 24, "syntax.go:51", #[⟨20, .data⟩, ⟨10, .guard⟩], some (10, true)⟩) (v := ?_) rfl (by kernel_rfl) (fun _ _ _ h => h) (Or.inl ⟨by rfl, ?_⟩) HS.out ?_
      rotate_left
      ·intro x h; go_simp; try (with_reducible rfl)
      try simp only [Act.put,sA,List.set]
      refine anyR_take (i := 22) (oi := ⟨some 24, .binOp .eql 24 (.tmp 23) (.const (.int .u8 7)) 24, 4, "syntax.go:51", #[⟨21, .data⟩, ⟨10, .guard⟩], some (10, true)⟩) (v := ?_) rfl (by kernel_rfl) (fun _ _ _ h => h) (Or.inl ⟨by rfl, ?_⟩) HS.out ?_
      rotate_left
      ·intro x h; go_simp; try (with_reducible rfl)
      try simp only [Act.put,sA,List.set]
      refine anyR_take (i := 23) (oi := ⟨some 25, .move (.tmp 24), 4, "syntax.go:51", #[⟨22, .data⟩, ⟨10, .chain⟩, ⟨10, .guard⟩], some (10, true)⟩) (v := ?_) rfl (by kernel_rfl) (fun _ _ _ h => h) (Or.inl ⟨by rfl, ?_⟩) HS.out ?_
      rotate_left
      ·intro x h; go_simp; try (with_reducible rfl)
      try simp only [Act.put,sA,List.set]
      refine anyR_take (i := 24) (oi := ⟨some 26, .move (.tmp 0), 54, "syntax.go:51", #[⟨23, .guard⟩], some (23, false)⟩) (v := ?_) rfl (by kernel_rfl) (fun _ _ _ h => h) (Or.inl ⟨by rfl, ?_⟩) HS.out ?_
      rotate_left
      ·intro x h; go_simp; try (with_reducible rfl)
      try simp only [Act.put,sA,List.set]
      refine anyR_take (i := 25) (oi := ⟨some 27, .nilCheck (.tmp 26), 0, "syntax.go:51", #[⟨24, .data⟩, ⟨23, .guard⟩], some (23, false)⟩) (v := ?_) rfl (by kernel_rfl) (fun _ _ _ h => h) (Or.inl ⟨by rfl, ?_⟩) HS.out ?_
      rotate_left
      ·intro x h; go_simp; try (with_reducible rfl)
      try simp only [Act.put,sA,List.set]
      refine anyR_take (i := 26) (oi := ⟨some 28, .fieldAddr 56 (.tmp 27) 0, 0, "syntax.go:51", #[⟨25, .data⟩, ⟨23, .guard⟩], some (23, false)⟩) (v := ?_) rfl (by kernel_rfl) (fun _ _ _ h => h) (Or.inl ⟨by rfl, ?_⟩) HS.out ?_
      rotate_left
      ·intro x h; go_simp; try (with_reducible rfl)
      try simp only [Act.put,sA,List.set]
      refine anyR_take (i := 27) (oi := ⟨some 29, .load 22 (.tmp 28), 22, "syntax.go:51", #[⟨26, .data⟩, ⟨23, .guard⟩], some (23, false)⟩) (v := ?_) rfl (by kernel_rfl) (fun _ _ _ h => h) (Or.inl ⟨by rfl, ?_⟩) HS.out ?_
      rotate_left
      ·intro x h; go_simp; try (with_reducible rfl)
      try simp only [Act.put,sA,List.set]
      refine anyR_take (i := 28) (oi := ⟨some 30, .move (.tmp 0), 54, "syntax.go:51", #[⟨23, .guard⟩], some (23, false)⟩) (v := ?_) rfl (by kernel_rfl) (fun _ _ _ h => h) (Or.inl ⟨by rfl, ?_⟩) HS.out ?_
      rotate_left
      ·intro x h; go_simp; try (with_reducible rfl)
      try simp only [Act.put,sA,List.set]
      refine anyR_take (i := 29) (oi := ⟨some 31, .nilCheck (.tmp 30), 0, "syntax.go:51", #[⟨28, .data⟩, ⟨23, .guard⟩], some (23, false)⟩) (v := ?_) rfl (by kernel_rfl) (fun _ _ _ h => h) (Or.inl ⟨by rfl, ?_⟩) HS.out ?_
      rotate_left
      ·intro x h; go_simp; try (with_reducible rfl)
      try simp only [Act.put,sA,List.set]
      refine anyR_take (i := 30) (oi := ⟨some 32, .fieldAddr 56 (.tmp 31) 1, 0, "syntax.go:51", #[⟨29, .data⟩, ⟨23, .guard⟩], some (23, false)⟩) (v := ?_) rfl (by kernel_rfl) (fun _ _ _ h => h) (Or.inl ⟨by rfl, ?_⟩) HS.out ?_
      rotate_left
      ·intro x h; go_simp; try (with_reducible rfl)
      try simp only [Act.put,sA,List.set]
      refine anyR_take (i := 31) (oi := ⟨some 33, .load 3 (.tmp 32), 3, "syntax.go:51", #[⟨30, .data⟩, ⟨23, .guard⟩], some (23, false)⟩) (v := ?_) rfl (by kernel_rfl) (fun _ _ _ h => h) (Or.inl ⟨by rfl, ?_⟩) HS.out ?_
      rotate_left
      ·intro x h; go_simp; try (with_reducible rfl)
      try simp only [Act.put,sA,List.set]
      refine anyR_take (i := 32) (oi := ⟨some 34, .indexAddr 22 (.tmp 29) (.tmp 33), 0, "syntax.go:51", #[⟨27, .data⟩, ⟨31, .data⟩, ⟨23, .guard⟩], some (23, false)⟩) (v := ?_) rfl (by kernel_rfl) (fun _ _ _ h => h) (Or.inl ⟨by rfl, ?_⟩) HS.out ?_
      rotate_left
      ·intro x h; go_simp; try (with_reducible rfl)
      try simp only [Act.put,sA,List.set]
      refine anyR_take (i := 33) (oi := ⟨some 35, .fieldAddr 28 (.tmp 34) 0, 0, "syntax.go:51", #[⟨32, .data⟩, ⟨23, .guard⟩], some (23, false)⟩) (v := ?_) rfl (by kernel_rfl) (fun _ _ _ h => h) (Or.inl ⟨by rfl, ?_⟩) HS.out ?_
      rotate_left
      ·intro x h; go_simp; try (with_reducible rfl)
      try simp only [Act.put,sA,List.set]
      refine anyR_take (i := 34) (oi := ⟨some 36, .load 24 (.tmp 35), 24, "syntax.go:51", #[⟨33, .data⟩, ⟨23, .guard⟩], some (23, false)⟩) (v := ?_) rfl (by kernel_rfl) (fun _ _ _ h => h) (Or.inl ⟨by rfl, ?_⟩) HS.out ?_
      rotate_left
      ·intro x h; go_simp; try (with_reducible rfl)
      try simp only [Act.put,sA,List.set]
      refine anyR_take (i := 35) (oi := ⟨some 37, .binOp .eql 24 (.tmp 36) (.const (.int .u8 8)) 24, 4, "syntax.go:51", #[⟨34, .data⟩, ⟨23, .guard⟩], some (23, false)⟩) (v := ?_) rfl (by kernel_rfl) (fun _ _ _ h => h) (Or.inl ⟨by rfl, ?_⟩) HS.out ?_
      rotate_left
      ·intro x h; go_simp; try (with_reducible rfl)
      try simp only [Act.put,sA,List.set]
      refine anyR_take (i := 36) (oi := ⟨some 38, .pick (.tmp 25) (.const (.bool true)) (.tmp 37), 4, "syntax.go:51", #[⟨23, .data⟩, ⟨35, .data⟩, ⟨10, .guard⟩], some (10, true)⟩) (v := ?_) rfl (by kernel_rfl) (fun _ _ _ h => h) (Or.inl ⟨by rfl, ?_⟩) HS.out ?_
      rotate_left
      ·intro x h; go_simp; try (with_reducible rfl)
      try simp only [Act.put,sA,List.set]
      refine anyR_take (i := 37) (oi := ⟨some 39, .pick (.tmp 12) (.tmp 38) (.const (.bool false)), 4, "syntax.go:51", #[⟨10, .data⟩, ⟨36, .data⟩], none⟩) (v := ?_) rfl (by kernel_rfl) (fun _ _ _ h => h) (Or.inl ⟨by rfl, ?_⟩) HS.out ?_
      rotate_left
      ·intro x h; go_simp; try (with_reducible rfl)
      try simp only [Act.put,sA,List.set]
      refine anyR_done (by kernel_rfl) ?_ _
      clear HS HSA HWd
      have HP5 := zh (HH.out.at_.moved HBD.out)
      have HQ5 := zh (PStep.below HBD.out : MStep p ve1 wr ve1 Wd1)
      clear q0 q1 q2 q3 c0 c1 c2 c3 c4 c5
      obtain ⟨q0, q1, q2, q3⟩ := HP5.out.cell
      obtain ⟨ad2, hA2, htc2⟩ := tok_cells HP5.out.toks i1 hj
      injection hA2 with hA2
      subst hA2
      rw [show PSyntaxProgram.rd_T28 l i1 = t from rd_of HG.out] at htc2
      obtain ⟨c0, c1, c2, c3, c4, c5⟩ := htc2 Wd1 HP5.out.below
      clear htc2 HBD
      go_upto_region 1 with (fail)
      obtain ⟨Wd2, hWd⟩ : ∃ V, Wd1.drew = V := ⟨_, rfl⟩
      have hbd : Below Wd1.heap.size Wd1 Wd2 := by rw [← hWd]; exact (Below.refl _ Wd1).drew
      have hSall : ∀ V, Below Wd1.heap.size Wd1 V → V.cell? ⟨p, 0, none⟩ = some (.slice (some ad) l.length c) ∧ V.cell? ⟨p, 1, none⟩ = some (.int .i64 i1) ∧ V.cell? ⟨p, 3, none⟩ = some (ve1) ∧ V.cell? (ad.add (i1 * 6)) = some (.int .u8 t.f0) ∧ V.cell? ⟨(ad.add (i1 * 6)).block, (ad.add (i1 * 6)).off + 1, none⟩ = some (.string t.f1) ∧ V.cell? ⟨(ad.add (i1 * 6)).block, (ad.add (i1 * 6)).off + 2, none⟩ = some (.int .i64 t.f2.f0) ∧ V.cell? ⟨(ad.add (i1 * 6)).block, (ad.add (i1 * 6)).off + 3, none⟩ = some (.int .i64 t.f2.f1) ∧ V.cell? ⟨(ad.add (i1 * 6)).block, (ad.add (i1 * 6)).off + 4, none⟩ = some (.int .i64 t.f2.f2) ∧ V.cell? ⟨(ad.add (i1 * 6)).block, (ad.add (i1 * 6)).off + 5, none⟩ = some (.int .i64 t.f3) := fun V hV => ⟨pw_cell_below hV q0, pw_cell_below hV q1, pw_cell_below hV q3, pw_cell_below hV c0, pw_cell_below hV c1, pw_cell_below hV c2, pw_cell_below hV c3, pw_cell_below hV c4, pw_cell_below hV c5⟩
      have HSA := zh hSall
      have HS := zh (hSall Wd2 hbd)
      have HBD := zh hbd
      have HWd := zh hWd
      clear hSall hbd hWd
      refine wp_region_R (fun w' => w'.cell? ⟨p, 0, none⟩ = some (.slice (some ad) l.length c) ∧ w'.cell? ⟨p, 1, none⟩ = some (.int .i64 i1) ∧ w'.cell? ⟨p, 3, none⟩ = some (ve1) ∧ w'.cell? (ad.add (i1 * 6)) = some (.int .u8 t.f0) ∧ w'.cell? ⟨(ad.add (i1 * 6)).block, (ad.add (i1 * 6)).off + 1, none⟩ = some (.string t.f1) ∧ w'.cell? ⟨(ad.add (i1 * 6)).block, (ad.add (i1 * 6)).off + 2, none⟩ = some (.int .i64 t.f2.f0) ∧ w'.cell? ⟨(ad.add (i1 * 6)).block, (ad.add (i1 * 6)).off + 3, none⟩ = some (.int .i64 t.f2.f1) ∧ w'.cell? ⟨(ad.add (i1 * 6)).block, (ad.add (i1 * 6)).off + 4, none⟩ = some (.int .i64 t.f2.f2) ∧ w'.cell? ⟨(ad.add (i1 * 6)).block, (ad.add (i1 * 6)).off + 5, none⟩ = some (.int .i64 t.f3)) (fun j => !(Nat.beq j 20)) (by kernel_rfl) ?_
      rw [HWd.out]
      refine anyR_take (i := 0) (oi := ⟨some 40, .move (.tmp 0), 54, "syntax.go:52", #[], none⟩) (v := ?_) rfl (by kernel_rfl) (fun _ _ _ h => h) (Or.inl ⟨by rfl, ?_⟩) HS.out ?_
      rotate_left
      ·intro x h; go_simp; try (with_reducible rfl)
      try simp only [Act.put,sA,List.set]
      refine anyR_take (i := 1) (oi := ⟨some 41, .move (.tmp 0), 54, "syntax.go:52", #[], none⟩) (v := ?_) rfl (by kernel_rfl) (fun _ _ _ h => h) (Or.inl ⟨by rfl, ?_⟩) HS.out ?_
      rotate_left
      ·intro x h; go_simp; try (with_reducible rfl)
      try simp only [Act.put,sA,List.set]
      refine anyR_take (i := 2) (oi := ⟨some 42, .nilCheck (.tmp 41), 0, "syntax.go:52", #[⟨1, .data⟩], none⟩) (v := ?_) rfl (by kernel_rfl) (fun _ _ _ h => h) (Or.inl ⟨by rfl, ?_⟩) HS.out ?_
      rotate_left
      ·intro x h; go_simp; try (with_reducible rfl)
      try simp only [Act.put,sA,List.set]
      refine anyR_take (i := 3) (oi := ⟨some 43, .fieldAddr 56 (.tmp 42) 3, 0, "syntax.go:52", #[⟨2, .data⟩], none⟩) (v := ?_) rfl (by kernel_rfl) (fun _ _ _ h => h) (Or.inl ⟨by rfl, ?_⟩) HS.out ?_
      rotate_left
      ·intro x h; go_simp; try (with_reducible rfl)
      try simp only [Act.put,sA,List.set]
      refine anyR_take (i := 4) (oi := ⟨some 44, .load 41 (.tmp 43), 41, "syntax.go:52", #[⟨3, .data⟩], none⟩) (v := ?_) rfl (by kernel_rfl) (fun _ _ _ h => h) (Or.inl ⟨by rfl, ?_⟩) HS.out ?_
      rotate_left
      ·intro x h; go_simp; try (with_reducible rfl)
      try simp only [Act.put,sA,List.set]
      refine anyR_take (i := 5) (oi := ⟨some 45, .move (.tmp 0), 54, "syntax.go:52", #[], none⟩) (v := ?_) rfl (by kernel_rfl) (fun _ _ _ h => h) (Or.inl ⟨by rfl, ?_⟩) HS.out ?_
      rotate_left
      ·intro x h; go_simp; try (with_reducible rfl)
      try simp only [Act.put,sA,List.set]
      refine anyR_take (i := 6) (oi := ⟨some 46, .nilCheck (.tmp 45), 0, "syntax.go:52", #[⟨5, .data⟩], none⟩) (v := ?_) rfl (by kernel_rfl) (fun _ _ _ h => h) (Or.inl ⟨by rfl, ?_⟩) HS.out ?_
      rotate_left
      ·intro x h; go_simp; try (with_reducible rfl)
      try simp only [Act.put,sA,List.set]
      refine anyR_take (i := 7) (oi := ⟨some 47, .fieldAddr 56 (.tmp 46) 0, 0, "syntax.go:52", #[⟨6, .data⟩], none⟩) (v := ?_) rfl (by kernel_rfl) (fun _ _ _ h => h) (Or.inl ⟨by rfl, ?_⟩) HS.out ?_
      rotate_left
      ·intro x h; go_simp; try (with_reducible rfl)
      try simp only [Act.put,sA,List.set]
      refine anyR_take (i := 8) (oi := ⟨some 48, .load 22 (.tmp 47), 22, "syntax.go:52", #[⟨7, .data⟩], none⟩) (v := ?_) rfl (by kernel_rfl) (fun _ _ _ h => h) (Or.inl ⟨by rfl, ?_⟩) HS.out ?_
      rotate_left
      ·intro x h; go_simp; try (with_reducible rfl)
      try simp only [Act.put,sA,List.set]
      refine anyR_take (i := 9) (oi := ⟨some 49, .move (.tmp 0), 54, "syntax.go:52", #[], none⟩) (v := ?_) rfl (by kernel_rfl) (fun _ _ _ h => h) (Or.inl ⟨by rfl, ?_⟩) HS.out ?_
      rotate_left
      ·intro x h; go_simp; try (with_reducible rfl)
      try simp only [Act.put,sA,List.set]
      refine anyR_take (i := 10) (oi := ⟨some 50, .nilCheck (.tmp 49), 0, "syntax.go:52", #[⟨9, .data⟩], none⟩) (v := ?_) rfl (by kernel_rfl) (fun _ _ _ h => h) (Or.inl ⟨by rfl, ?_⟩) HS.out ?_
      rotate_left
      ·intro x h; go_simp; try (with_reducible rfl)
      try simp only [Act.put,sA,List.set]
      refine anyR_take (i := 11) (oi := ⟨some 51, .fieldAddr 56 (.tmp 50) 1, 0, "syntax.go:52", #[⟨10, .data⟩], none⟩) (v := ?_) rfl (by kernel_rfl) (fun _ _ _ h => h) (Or.inl ⟨by rfl, ?_⟩) HS.out ?_
      rotate_left
      ·intro x h; go_simp; try (with_reducible rfl)
      try simp only [Act.put,sA,List.set]
      refine anyR_take (i := 12) (oi := ⟨some 52, .load 3 (.tmp 51), 3, "syntax.go:52", #[⟨11, .data⟩], none⟩) (v := ?_) rfl (by kernel_rfl) (fun _ _ _ h => h) (Or.inl ⟨by rfl, ?_⟩) HS.out ?_
      rotate_left
      ·intro x h; go_simp; try (with_reducible rfl)
      try simp only [Act.put,sA,List.set]
      refine anyR_take (i := 13) (oi := ⟨some 53, .indexAddr 22 (.tmp 48) (.tmp 52), 0, "syntax.go:52", #[⟨8, .data⟩, ⟨12, .data⟩], none⟩) (v := ?_) rfl (by kernel_rfl) (fun _ _ _ h => h) (Or.inl ⟨by rfl, ?_⟩) HS.out ?_
      rotate_left
      ·intro x h; go_simp; try (with_reducible rfl)
      try simp only [Act.put,sA,List.set]
      refine anyR_take (i := 14) (oi := ⟨some 54, .load 28 (.tmp 53), 28, "syntax.go:52", #[⟨13, .data⟩], none⟩) (v := ?_) rfl (by kernel_rfl) (fun _ _ _ h => h) (Or.inl ⟨by rfl, ?_⟩) HS.out ?_
      rotate_left
      ·intro x h; go_simp; try (with_reducible rfl)
      try simp only [Act.put,sA,List.set]
      refine anyR_take (i := 15) (oi := ⟨some 55, .build 48 #[(0, .const (.int .u8 4)), (2, .tmp 54)], 48, "syntax.go:52", #[⟨14, .data⟩], none⟩) (v := ?_) rfl (by kernel_rfl) (fun _ _ _ h => h) (Or.inl ⟨by rfl, ?_⟩) HS.out ?_
      rotate_left
      ·intro x h; go_simp; try (with_reducible rfl)
      try simp only [Act.put,sA,List.set]
      have HP6 := zh (HP5.out.moved HBD.out)
      refine anyR_ready (rs := [16]) (by kernel_rfl) (by simp) ?_
      refine ReadyR.cons (o := ⟨some 56, .buildSlice 41 1 #[(0, .tmp 55)], 41, "syntax.go:52", #[⟨15, .data⟩], none⟩) rfl (fun K hK => ?_) ReadyR.nil
      go_simp
      refine hK.out _ _ (fun _ => HSA.out _ (HBD.out.alloc HBD.out.size _)) ?_
      clear hK K
      try simp only [Act.put,sA,List.set]
      refine anyR_ready (rs := [17]) (by kernel_rfl) (by simp) ?_
      refine ReadyR.cons (o := ⟨some 57, .call { callee := .builtin .append, args := #[.tmp 44, .tmp 56], argTypes := #[41, 41] }, 41, "syntax.go:52", #[⟨4, .data⟩, ⟨16, .data⟩], none⟩) rfl (fun K hK => ?_) ReadyR.nil
      refine step_ev (W := Wd2) rfl (.tmp 44) (.tmp 56) rfl p (u := ve1) (q := out1.length) (kc := out1.flatMap evCells) (cs := [.int .u8 4, .int .u8 0, .int .u8 t.f0, .string t.f1, .int .i64 t.f2.f0, .int .i64 t.f2.f1, .int .i64 t.f2.f2, .int .i64 t.f3]) rfl rfl HP6.out.row rfl (evCells_one (noteE t)) (Nat.le_of_lt (blk_lt HP6.out.box)) (by have := HLO.out; omega) ?_
      intro G9 C9 w6 ho hg hat
      obtain ⟨⟨cur6, hcur, hfit⟩, hnx⟩ := HP6.out.next (e := noteE t) ho hg hat
      have hS7 : w6.cell? ⟨p, 0, none⟩ = some (.slice (some ad) l.length c) ∧ w6.cell? ⟨p, 1, none⟩ = some (.int .i64 i1) ∧ w6.cell? ⟨p, 3, none⟩ = some (ve1) ∧ w6.cell? (ad.add (i1 * 6)) = some (.int .u8 t.f0) ∧ w6.cell? ⟨(ad.add (i1 * 6)).block, (ad.add (i1 * 6)).off + 1, none⟩ = some (.string t.f1) ∧ w6.cell? ⟨(ad.add (i1 * 6)).block, (ad.add (i1 * 6)).off + 2, none⟩ = some (.int .i64 t.f2.f0) ∧ w6.cell? ⟨(ad.add (i1 * 6)).block, (ad.add (i1 * 6)).off + 3, none⟩ = some (.int .i64 t.f2.f1) ∧ w6.cell? ⟨(ad.add (i1 * 6)).block, (ad.add (i1 * 6)).off + 4, none⟩ = some (.int .i64 t.f2.f2) ∧ w6.cell? ⟨(ad.add (i1 * 6)).block, (ad.add (i1 * 6)).off + 5, none⟩ = some (.int .i64 t.f3) := sgrown HP6.out ⟨rfl, HT6.out⟩ hg HS.out
      have HS7 := zh hS7
      have HCU := zh (And.intro hcur hfit)
      have HNX := zh hnx
      refine hK.out _ _ (fun _ => hS7) ?_
      clear hK K ho hg hat hS7 hcur hfit hnx
      try simp only [Act.put,sA,List.set]
      refine anyR_ready (rs := [18]) (by kernel_rfl) (by simp) ?_
      refine ReadyR.cons (o := ⟨some 58, .nilCheck (.tmp 40), 0, "syntax.go:52", #[⟨0, .data⟩, ⟨0, .phase⟩, ⟨1, .phase⟩, ⟨2, .phase⟩, ⟨3, .phase⟩, ⟨4, .phase⟩, ⟨5, .phase⟩, ⟨6, .phase⟩, ⟨7, .phase⟩, ⟨8, .phase⟩, ⟨9, .phase⟩, ⟨10, .phase⟩, ⟨11, .phase⟩, ⟨12, .phase⟩, ⟨13, .phase⟩, ⟨14, .phase⟩, ⟨15, .phase⟩, ⟨16, .phase⟩, ⟨17, .phase⟩], none⟩) rfl (fun K hK => ?_) ReadyR.nil
      go_simp
      refine hK.out _ _ (fun _ => HS7.out) ?_
      clear hK K
      try simp only [Act.put,sA,List.set]
      refine anyR_ready (rs := [19]) (by kernel_rfl) (by simp) ?_
      refine ReadyR.cons (o := ⟨some 59, .fieldAddr 56 (.tmp 58) 3, 0, "syntax.go:52", #[⟨18, .data⟩, ⟨0, .phase⟩, ⟨1, .phase⟩, ⟨2, .phase⟩, ⟨3, .phase⟩, ⟨4, .phase⟩, ⟨5, .phase⟩, ⟨6, .phase⟩, ⟨7, .phase⟩, ⟨8, .phase⟩, ⟨9, .phase⟩, ⟨10, .phase⟩, ⟨11, .phase⟩, ⟨12, .phase⟩, ⟨13, .phase⟩, ⟨14, .phase⟩, ⟨15, .phase⟩, ⟨16, .phase⟩, ⟨17, .phase⟩], none⟩) rfl (fun K hK => ?_) ReadyR.nil
      go_simp
      refine hK.out _ _ (fun _ => HS7.out) ?_
      clear hK K
      try simp only [Act.put,sA,List.set]
      refine anyR_ready (rs := [20]) (by kernel_rfl) (by simp) ?_
      refine ReadyR.cons (o := ⟨none, .store 41 (.tmp 59) (.tmp 57), 0, "syntax.go:52", #[⟨19, .data⟩, ⟨17, .data⟩, ⟨17, .chain⟩, ⟨0, .phase⟩, ⟨1, .phase⟩, ⟨2, .phase⟩, ⟨3, .phase⟩, ⟨4, .phase⟩, ⟨5, .phase⟩, ⟨6, .phase⟩, ⟨7, .phase⟩, ⟨8, .phase⟩, ⟨9, .phase⟩, ⟨10, .phase⟩, ⟨11, .phase⟩, ⟨12, .phase⟩, ⟨13, .phase⟩, ⟨14, .phase⟩, ⟨15, .phase⟩, ⟨16, .phase⟩, ⟨17, .phase⟩], none⟩) rfl (fun K hK => ?_) ReadyR.nil
      refine step_store rfl rfl 41 (.tmp 59) (.tmp 57) rfl (g := p) (off := 3) (.slice (some ⟨G9, 0, none⟩) (out1.length + 1) C9) [.slice (some ⟨G9, 0, none⟩) (out1.length + 1) C9] rfl rfl rfl (by kernel_rfl) (fun v hv => by rw [List.mem_singleton.1 hv]; rfl) HCU.out.1 HCU.out.2 ?_
      have HN7 := zh (HNX.out _ rfl)
      refine hK.out _ _ (fun h => by cases h) ?_
      clear hK K HNX HCU HS7 HS HSA
      generalize w6.setCells p 3 [.slice (some ⟨G9, 0, none⟩) (out1.length + 1) C9] = V7 at HN7 ⊢
      try simp only [Act.put,sA,List.set]
      refine anyR_done (by kernel_rfl) ?_ _
      have HP7 := zh HN7.out.1
      have HQ7 := zh (HQ5.out.trans ((PStep.below HBD.out).trans HN7.out.2))
      clear q0 q1 q2 q3 c0 c1 c2 c3 c4 c5 HN7
      obtain ⟨q0, q1, q2, q3⟩ := HP7.out.cell
      go_wp2_with ((with_reducible refine gate_ (.store 3 (.tmp 66) (.tmp 64)) rfl ?_); refine wl_cells rfl rfl _ _ _ rfl (g := p) (off := 1) (.int .i64 ((i1 : Int) + 1)) [.int .i64 ((i1 : Int) + 1)] rfl rfl rfl (by kernel_rfl) (fun v hv => by rw [List.mem_singleton.1 hv]; rfl) HP7.out.box (by simp) ?_; intro V8 hV; obtain ⟨hA, hS⟩ := HP7.out.upd 1 (.int .i64 ((i1 : Int) + 1)) (by decide) (i' := i1 + 1) (d' := d) rfl hj; rw [← hV] at hA hS; have HP8 := zh hA; have HQ8 := zh (HQ7.out.trans hS); clear q0 q1 q2 q3 hV hA hS)
      go_roundg k1
      case measure => omega
      case rel => exact zh ⟨i1 + 1, _, _, by have := HK.out; omega, HH.out.next HG.out HNT.out HP8.out HQ8.out⟩
     | false =>
      have hn0 := nAt_else HG.out HNT.out
      have h1 := HH.out.i_
      have h2 := HH.out.o_
      rw [hn0] at h1 h2
      have HF := zh (And.intro h1 h2)
      clear hn0 h1 h2
      go_wp2
      obtain ⟨Wd1, hWd⟩ : ∃ V, wr.drew = V := ⟨_, rfl⟩
      have hbd : Below wr.heap.size wr Wd1 := by rw [← hWd]; exact (Below.refl _ wr).drew
      have hSall : ∀ V, Below wr.heap.size wr V → V.cell? ⟨p, 0, none⟩ = some (.slice (some ad) l.length c) ∧ V.cell? ⟨p, 1, none⟩ = some (.int .i64 i1) ∧ V.cell? (ad.add (i1 * 6)) = some (.int .u8 t.f0) := fun V hV => ⟨pw_cell_below hV q0, pw_cell_below hV q1, pw_cell_below hV c0⟩
      have HSA := zh hSall
      have HS := zh (hSall Wd1 hbd)
      have HBD := zh hbd
      have HWd := zh hWd
      clear hSall hbd hWd
      refine wp_region_R (fun w' => w'.cell? ⟨p, 0, none⟩ = some (.slice (some ad) l.length c) ∧ w'.cell? ⟨p, 1, none⟩ = some (.int .i64 i1) ∧ w'.cell? (ad.add (i1 * 6)) = some (.int .u8 t.f0)) (fun j => true) (by kernel_rfl) ?_
      rw [HWd.out]
      refine anyR_take (i := 0) (oi := ⟨some 2, .move (.tmp 0), 54, "syntax.go:51", #[], none⟩) (v := ?_) rfl (by kernel_rfl) (fun _ _ _ h => h) (Or.inl ⟨by rfl, ?_⟩) HS.out ?_
      rotate_left
      ·intro x h; go_simp; try (with_reducible rfl)
      try simp only [Act.put,sA,List.set]
      refine anyR_take (i := 1) (oi := ⟨some 3, .nilCheck (.tmp 2), 0, "syntax.go:51", #[⟨0, .data⟩], none⟩) (v := ?_) rfl (by kernel_rfl) (fun _ _ _ h => h) (Or.inl ⟨by rfl, ?_⟩) HS.out ?_
      rotate_left
      ·intro x h; go_simp; try (with_reducible rfl)
      try simp only [Act.put,sA,List.set]
      refine anyR_take (i := 2) (oi := ⟨some 4, .fieldAddr 56 (.tmp 3) 1, 0, "syntax.go:51", #[⟨1, .data⟩], none⟩) (v := ?_) rfl (by kernel_rfl) (fun _ _ _ h => h) (Or.inl ⟨by rfl, ?_⟩) HS.out ?_
      rotate_left
      ·intro x h; go_simp; try (with_reducible rfl)
      try simp only [Act.put,sA,List.set]
      refine anyR_take (i := 3) (oi := ⟨some 5, .load 3 (.tmp 4), 3, "syntax.go:51", #[⟨2, .data⟩], none⟩) (v := ?_) rfl (by kernel_rfl) (fun _ _ _ h => h) (Or.inl ⟨by rfl, ?_⟩) HS.out ?_
      rotate_left
      ·intro x h; go_simp; try (with_reducible rfl)
      try simp only [Act.put,sA,List.set]
      refine anyR_take (i := 4) (oi := ⟨some 6, .move (.tmp 0), 54, "syntax.go:51", #[], none⟩) (v := ?_) rfl (by kernel_rfl) (fun _ _ _ h => h) (Or.inl ⟨by rfl, ?_⟩) HS.out ?_
      rotate_left
      ·intro x h; go_simp; try (with_reducible rfl)
      try simp only [Act.put,sA,List.set]
      refine anyR_take (i := 5) (oi := ⟨some 7, .nilCheck (.tmp 6), 0, "syntax.go:51", #[⟨4, .data⟩], none⟩) (v := ?_) rfl (by kernel_rfl) (fun _ _ _ h => h) (Or.inl ⟨by rfl, ?_⟩) HS.out ?_
      rotate_left
      ·intro x h; go_simp; try (with_reducible rfl)
      try simp only [Act.put,sA,List.set]
      refine anyR_take (i := 6) (oi := ⟨some 8, .fieldAddr 56 (.tmp 7) 0, 0, "syntax.go:51", #[⟨5, .data⟩], none⟩) (v := ?_) rfl (by kernel_rfl) (fun _ _ _ h => h) (Or.inl ⟨by rfl, ?_⟩) HS.out ?_
      rotate_left
      ·intro x h; go_simp; try (with_reducible rfl)
      try simp only [Act.put,sA,List.set]
      refine anyR_take (i := 7) (oi := ⟨some 9, .load 22 (.tmp 8), 22, "syntax.go:51", #[⟨6, .data⟩], none⟩) (v := ?_) rfl (by kernel_rfl) (fun _ _ _ h => h) (Or.inl ⟨by rfl, ?_⟩) HS.out ?_
      rotate_left
      ·intro x h; go_simp; try (with_reducible rfl)
      try simp only [Act.put,sA,List.set]
      refine anyR_take (i := 8) (oi := ⟨some 10, .call { callee := .builtin .len, args := #[.tmp 9], argTypes := #[22] }, 3, "syntax.go:51", #[⟨7, .data⟩], none⟩) (v := ?_) rfl (by kernel_rfl) (fun _ _ _ h => h) (Or.inl ⟨by rfl, ?_⟩) HS.out ?_
      rotate_left
      ·intro x h; go_simp; try (with_reducible rfl)
      try simp only [Act.put,sA,List.set]
      refine anyR_take (i := 9) (oi := ⟨some 11, .binOp .lss 3 (.tmp 5) (.tmp 10) 3, 4, "syntax.go:51", #[⟨3, .data⟩, ⟨8, .data⟩], none⟩) (v := ?_) rfl (by kernel_rfl) (fun _ _ _ h => h) (Or.inl ⟨by rfl, ?_⟩) HS.out ?_
      rotate_left
      ·intro x h; go_simp; try (with_reducible rfl)
      try simp only [Act.put,sA,List.set]
      refine anyR_take (i := 10) (oi := ⟨some 12, .move (.tmp 11), 4, "syntax.go:51", #[⟨9, .data⟩], none⟩) (v := ?_) rfl (by kernel_rfl) (fun _ _ _ h => h) (Or.inl ⟨by rfl, ?_⟩) HS.out ?_
      rotate_left
      ·intro x h; go_simp; try (with_reducible rfl)
      try simp only [Act.put,sA,List.set]
      refine anyR_take (i := 11) (oi := ⟨some 13, .move (.tmp 0), 54, "syntax.go:51", #[⟨10, .guard⟩], some (10, true)⟩) (v := ?_) rfl (by kernel_rfl) (fun _ _ _ h => h) (Or.inl ⟨by rfl, ?_⟩) HS.out ?_
      rotate_left
      ·intro x h; go_simp; try (with_reducible rfl)
      try simp only [Act.put,sA,List.set]
      refine anyR_take (i := 12) (oi := ⟨some 14, .nilCheck (.tmp 13), 0, "syntax.go:51", #[⟨11, .data⟩, ⟨10, .guard⟩], some (10, true)⟩) (v := ?_) rfl (by kernel_rfl) (fun _ _ _ h => h) (Or.inl ⟨by rfl, ?_⟩) HS.out ?_
      rotate_left
      ·intro x h; go_simp; try (with_reducible rfl)
      try simp only [Act.put,sA,List.set]
      refine anyR_take (i := 13) (oi := ⟨some 15, .fieldAddr 56 (.tmp 14) 0, 0, "syntax.go:51", #[⟨12, .data⟩, ⟨10, .guard⟩], some (10, true)⟩) (v := ?_) rfl (by kernel_rfl) (fun _ _ _ h => h) (Or.inl ⟨by rfl, ?_⟩) HS.out ?_
      rotate_left
      ·intro x h; go_simp; try (with_reducible rfl)
      try simp only [Act.put,sA,List.set]
      refine anyR_take (i := 14) (oi := ⟨some 16, .load 22 (.tmp 15), 22, "syntax.go:51", #[⟨13, .data⟩, ⟨10, .guard⟩], some (10, true)⟩) (v := ?_) rfl (by kernel_rfl) (fun _ _ _ h => h) (Or.inl ⟨by rfl, ?_⟩) HS.out ?_
      rotate_left
      ·intro x h; go_simp; try (with_reducible rfl)
      try simp only [Act.put,sA,List.set]
      refine anyR_take (i := 15) (oi := ⟨some 17, .move (.tmp 0), 54, "syntax.go:51", #[⟨10, .guard⟩], some (10, true)⟩) (v := ?_) rfl (by kernel_rfl) (fun _ _ _ h => h) (Or.inl ⟨by rfl, ?_⟩) HS.out ?_
      rotate_left
      ·intro x h; go_simp; try (with_reducible rfl)
      try simp only [Act.put,sA,List.set]
      refine anyR_take (i := 16) (oi := ⟨some 18, .nilCheck (.tmp 17), 0, "syntax.go:51", #[⟨15, .data⟩, ⟨10, .guard⟩], some (10, true)⟩) (v := ?_) rfl (by kernel_rfl) (fun _ _ _ h => h) (Or.inl ⟨by rfl, ?_⟩) HS.out ?_
      rotate_left
      ·intro x h; go_simp; try (with_reducible rfl)
      try simp only [Act.put,sA,List.set]
      refine anyR_take (i := 17) (oi := ⟨some 19, .fieldAddr 56 (.tmp 18) 1, 0, "syntax.go:51", #[⟨16, .data⟩, ⟨10, .guard⟩], some (10, true)⟩) (v := ?_) rfl (by kernel_rfl) (fun _ _ _ h => h) (Or.inl ⟨by rfl, ?_⟩) HS.out ?_
      rotate_left
      ·intro x h; go_simp; try (with_reducible rfl)
      try simp only [Act.put,sA,List.set]
      refine anyR_take (i := 18) (oi := ⟨some 20, .load 3 (.tmp 19), 3, "syntax.go:51", #[⟨17, .data⟩, ⟨10, .guard⟩], some (10, true)⟩) (v := ?_) rfl (by kernel_rfl) (fun _ _ _ h => h) (Or.inl ⟨by rfl, ?_⟩) HS.out ?_
      rotate_left
      ·intro x h; go_simp; try (with_reducible rfl)
      try simp only [Act.put,sA,List.set]
      refine anyR_take (i := 19) (oi := ⟨some 21, .indexAddr 22 (.tmp 16) (.tmp 20), 0, "syntax.go:51", #[⟨14, .data⟩, ⟨18, .data⟩, ⟨10, .guard⟩], some (10, true)⟩) (v := ?_) rfl (by kernel_rfl) (fun _ _ _ h => h) (Or.inl ⟨by rfl, ?_⟩) HS.out ?_
      rotate_left
      ·intro x h; go_simp; try (with_reducible rfl)
      try simp only [Act.put,sA,List.set]
      refine anyR_take (i := 20) (oi := ⟨some 22, .fieldAddr 28 (.tmp 21) 0, 0, "syntax.go:51", #[⟨19, .data⟩, ⟨10, .guard⟩], some (10, true)⟩) (v := ?_) rfl (by kernel_rfl) (fun _ _ _ h => h) (Or.inl ⟨by rfl, ?_⟩) HS.out ?_
      rotate_left
      ·intro x h; go_simp; try (with_reducible rfl)
      try simp only [Act.put,sA,List.set]
      refine anyR_take (i := 21) (oi := ⟨some 23, .load 24 (.tmp 22), 24, "syntax.go:51", #[⟨20, .data⟩, ⟨10, .guard⟩], some (10, true)⟩) (v := ?_) rfl (by kernel_rfl) (fun _ _ _ h => h) (Or.inl ⟨by rfl, ?_⟩) HS.out ?_
      rotate_left
      ·intro x h; go_simp; try (with_reducible rfl)
      try simp only [Act.put,sA,List.set]
      refine anyR_take (i := 22) (oi := ⟨some 24, .binOp .eql 24 (.tmp 23) (.const (.int .u8 7)) 24, 4, "syntax.go:51", #[⟨21, .data⟩, ⟨10, .guard⟩], some (10, true)⟩) (v := ?_) rfl (by kernel_rfl) (fun _ _ _ h => h) (Or.inl ⟨by rfl, ?_⟩) HS.out ?_
      rotate_left
      ·intro x h; go_simp; try (with_reducible rfl)
      try simp only [Act.put,sA,List.set]
      refine anyR_take (i := 23) (oi := ⟨some 25, .move (.tmp 24), 4, "syntax.go:51", #[⟨22, .data⟩, ⟨10, .chain⟩, ⟨10, .guard⟩], some (10, true)⟩) (v := ?_) rfl (by kernel_rfl) (fun _ _ _ h => h) (Or.inl ⟨by rfl, ?_⟩) HS.out ?_
      rotate_left
      ·intro x h; go_simp; try (with_reducible rfl)
      try simp only [Act.put,sA,List.set]
      refine anyR_take (i := 24) (oi := ⟨some 26, .move (.tmp 0), 54, "syntax.go:51", #[⟨23, .guard⟩], some (23, false)⟩) (v := ?_) rfl (by kernel_rfl) (fun _ _ _ h => h) (Or.inl ⟨by rfl, ?_⟩) HS.out ?_
      rotate_left
      ·intro x h; go_simp; try (with_reducible rfl)
      try simp only [Act.put,sA,List.set]
      refine anyR_take (i := 25) (oi := ⟨some 27, .nilCheck (.tmp 26), 0, "syntax.go:51", #[⟨24, .data⟩, ⟨23, .guard⟩], some (23, false)⟩) (v := ?_) rfl (by kernel_rfl) (fun _ _ _ h => h) (Or.inl ⟨by rfl, ?_⟩) HS.out ?_
      rotate_left
      ·intro x h; go_simp; try (with_reducible rfl)
      try simp only [Act.put,sA,List.set]
      refine anyR_take (i := 26) (oi := ⟨some 28, .fieldAddr 56 (.tmp 27) 0, 0, "syntax.go:51", #[⟨25, .data⟩, ⟨23, .guard⟩], some (23, false)⟩) (v := ?_) rfl (by kernel_rfl) (fun _ _ _ h => h) (Or.inl ⟨by rfl, ?_⟩) HS.out ?_
      rotate_left
      ·intro x h; go_simp; try (with_reducible rfl)
      try simp only [Act.put,sA,List.set]
      refine anyR_take (i := 27) (oi := ⟨some 29, .load 22 (.tmp 28), 22, "syntax.go:51", #[⟨26, .data⟩, ⟨23, .guard⟩], some (23, false)⟩) (v := ?_) rfl (by kernel_rfl) (fun _ _ _ h => h) (Or.inl ⟨by rfl, ?_⟩) HS.out ?_
      rotate_left
      ·intro x h; go_simp; try (with_reducible rfl)
      try simp only [Act.put,sA,List.set]
      refine anyR_take (i := 28) (oi := ⟨some 30, .move (.tmp 0), 54, "syntax.go:51", #[⟨23, .guard⟩], some (23, false)⟩) (v := ?_) rfl (by kernel_rfl) (fun _ _ _ h => h) (Or.inl ⟨by rfl, ?_⟩) HS.out ?_
      rotate_left
      ·intro x h; go_simp; try (with_reducible rfl)
      try simp only [Act.put,sA,List.set]
      refine anyR_take (i := 29) (oi := ⟨some 31, .nilCheck (.tmp 30), 0, "syntax.go:51", #[⟨28, .data⟩, ⟨23, .guard⟩], some (23, false)⟩) (v := ?_) rfl (by kernel_rfl) (fun _ _ _ h => h) (Or.inl ⟨by rfl, ?_⟩) HS.out ?_
      rotate_left
      ·intro x h; go_simp; try (with_reducible rfl)
      try simp only [Act.put,sA,List.set]
      refine anyR_take (i := 30) (oi := ⟨some 32, .fieldAddr 56 (.tmp 31) 1, 0, "syntax.go:51", #[⟨29, .data⟩, ⟨23, .guard⟩], some (23, false)⟩) (v := ?_) rfl (by kernel_rfl) (fun _ _ _ h => h) (Or.inl ⟨by rfl, ?_⟩) HS.out ?_
      rotate_left
      ·intro x h; go_simp; try (with_reducible rfl)
      try simp only [Act.put,sA,List.set]
      refine anyR_take (i := 31) (oi := ⟨some 33, .load 3 (.tmp 32), 3, "syntax.go:51", #[⟨30, .data⟩, ⟨23, .guard⟩], some (23, false)⟩) (v := ?_) rfl (by kernel_rfl) (fun _ _ _ h => h) (Or.inl ⟨by rfl, ?_⟩) HS.out ?_
      rotate_left
      ·intro x h; go_simp; try (with_reducible rfl)
      try simp only [Act.put,sA,List.set]
      refine anyR_take (i := 32) (oi := ⟨some 34, .indexAddr 22 (.tmp 29) (.tmp 33), 0, "syntax.go:51", #[⟨27, .data⟩, ⟨31, .data⟩, ⟨23, .guard⟩], some (23, false)⟩) (v := ?_) rfl (by kernel_rfl) (fun _ _ _ h => h) (Or.inl ⟨by rfl, ?_⟩) HS.out ?_
      rotate_left
      ·intro x h; go_simp; try (with_reducible rfl)
      try simp only [Act.put,sA,List.set]
      refine anyR_take (i := 33) (oi := ⟨some 35, .fieldAddr 28 (.tmp 34) 0, 0, "syntax.go:51", #[⟨32, .data⟩, ⟨23, .guard⟩], some (23, false)⟩) (v := ?_) rfl (by kernel_rfl) (fun _ _ _ h => h) (Or.inl ⟨by rfl, ?_⟩) HS.out ?_
      rotate_left
      ·intro x h; go_simp; try (with_reducible rfl)
      try simp only [Act.put,sA,List.set]
      refine anyR_take (i := 34) (oi := ⟨some 36, .load 24 (.tmp 35), 24, "syntax.go:51", #[⟨33, .data⟩, ⟨23, .guard⟩], some (23, false)⟩) (v := ?_) rfl (by kernel_rfl) (fun _ _ _ h => h) (Or.inl ⟨by rfl, ?_⟩) HS.out ?_
      rotate_left
      ·intro x h; go_simp; try (with_reducible rfl)
      try simp only [Act.put,sA,List.set]
      refine anyR_take (i := 35) (oi := ⟨some 37, .binOp .eql 24 (.tmp 36) (.const (.int .u8 8)) 24, 4, "syntax.go:51", #[⟨34, .data⟩, ⟨23, .guard⟩], some (23, false)⟩) (v := ?_) rfl (by kernel_rfl) (fun _ _ _ h => h) (Or.inl ⟨by rfl, ?_⟩) HS.out ?_
      rotate_left
      ·intro x h; go_simp; try (with_reducible rfl)
      try simp only [Act.put,sA,List.set]
      refine anyR_take (i := 36) (oi := ⟨some 38, .pick (.tmp 25) (.const (.bool true)) (.tmp 37), 4, "syntax.go:51", #[⟨23, .data⟩, ⟨35, .data⟩, ⟨10, .guard⟩], some (10, true)⟩) (v := ?_) rfl (by kernel_rfl) (fun _ _ _ h => h) (Or.inl ⟨by rfl, ?_⟩) HS.out ?_
      rotate_left
      ·intro x h; go_simp; try (with_reducible rfl)
      try simp only [Act.put,sA,List.set]
      refine anyR_take (i := 37) (oi := ⟨some 39, .pick (.tmp 12) (.tmp 38) (.const (.bool false)), 4, "syntax.go:51", #[⟨10, .data⟩, ⟨36, .data⟩], none⟩) (v := ?_) rfl (by kernel_rfl) (fun _ _ _ h => h) (Or.inl ⟨by rfl, ?_⟩) HS.out ?_
      rotate_left
      ·intro x h; go_simp; try (with_reducible rfl)
      try simp only [Act.put,sA,List.set]
      refine anyR_done (by kernel_rfl) ?_ _
      go_wp2
      go_end0
      obtain ⟨h1, h2⟩ := HF.out
      refine ⟨rfl, ve1, ?_, HH.out.step.trans (PStep.below HBD.out)⟩
      rw [← h1, ← h2]
      simpa using HH.out.at_.moved HBD.out
   ·obtain rfl : i1 = l.length := by have := H.at_.ile; omega
    have hn0 : nAt l l.length = [] := nAt_end (Nat.le_refl _)
    have h1 := H.i_
    have h2 := H.o_
    rw [hn0] at h1 h2
    have HH := zh H
    have HF := zh (And.intro h1 h2)
    have g1 : ¬ ((l.length : Int) < (l.length : Int)) := by omega
    clear H hrel HI0 hn0 h1 h2 hk hlo
    go_wp2
    obtain ⟨Wd1, hWd⟩ : ∃ V, wr.drew = V := ⟨_, rfl⟩
    have hbd : Below wr.heap.size wr Wd1 := by rw [← hWd]; exact (Below.refl _ wr).drew
    have hSall : ∀ V, Below wr.heap.size wr V → V.cell? ⟨p, 0, none⟩ = some (.slice (A) l.length c) ∧ V.cell? ⟨p, 1, none⟩ = some (.int .i64 l.length) := fun V hV => ⟨pw_cell_below hV q0, pw_cell_below hV q1⟩
    have HSA := zh hSall
    have HS := zh (hSall Wd1 hbd)
    have HBD := zh hbd
    have HWd := zh hWd
    clear hSall hbd hWd
    refine wp_region_R (fun w' => w'.cell? ⟨p, 0, none⟩ = some (.slice (A) l.length c) ∧ w'.cell? ⟨p, 1, none⟩ = some (.int .i64 l.length)) (fun j => true) (by kernel_rfl) ?_
    rw [HWd.out]
    refine anyR_take (i := 0) (oi := ⟨some 2, .move (.tmp 0), 54, "syntax.go:51", #[], none⟩) (v := ?_) rfl (by kernel_rfl) (fun _ _ _ h => h) (Or.inl ⟨by rfl, ?_⟩) HS.out ?_
    rotate_left
    ·intro x h; go_simp; try (with_reducible rfl)
    try simp only [Act.put,sA,List.set]
    refine anyR_take (i := 1) (oi := ⟨some 3, .nilCheck (.tmp 2), 0, "syntax.go:51", #[⟨0, .data⟩], none⟩) (v := ?_) rfl (by kernel_rfl) (fun _ _ _ h => h) (Or.inl ⟨by rfl, ?_⟩) HS.out ?_
    rotate_left
    ·intro x h; go_simp; try (with_reducible rfl)
    try simp only [Act.put,sA,List.set]
    refine anyR_take (i := 2) (oi := ⟨some 4, .fieldAddr 56 (.tmp 3) 1, 0, "syntax.go:51", #[⟨1, .data⟩], none⟩) (v := ?_) rfl (by kernel_rfl) (fun _ _ _ h => h) (Or.inl ⟨by rfl, ?_⟩) HS.out ?_
    rotate_left
    ·intro x h; go_simp; try (with_reducible rfl)
    try simp only [Act.put,sA,List.set]
    refine anyR_take (i := 3) (oi := ⟨some 5, .load 3 (.tmp 4), 3, "syntax.go:51", #[⟨2, .data⟩], none⟩) (v := ?_) rfl (by kernel_rfl) (fun _ _ _ h => h) (Or.inl ⟨by rfl, ?_⟩) HS.out ?_
    rotate_left
    ·intro x h; go_simp; try (with_reducible rfl)
    try simp only [Act.put,sA,List.set]
    refine anyR_take (i := 4) (oi := ⟨some 6, .move (.tmp 0), 54, "syntax.go:51", #[], none⟩) (v := ?_) rfl (by kernel_rfl) (fun _ _ _ h => h) (Or.inl ⟨by rfl, ?_⟩) HS.out ?_
    rotate_left
    ·intro x h; go_simp; try (with_reducible rfl)
    try simp only [Act.put,sA,List.set]
    refine anyR_take (i := 5) (oi := ⟨some 7, .nilCheck (.tmp 6), 0, "syntax.go:51", #[⟨4, .data⟩], none⟩) (v := ?_) rfl (by kernel_rfl) (fun _ _ _ h => h) (Or.inl ⟨by rfl, ?_⟩) HS.out ?_
    rotate_left
    ·intro x h; go_simp; try (with_reducible rfl)
    try simp only [Act.put,sA,List.set]
    refine anyR_take (i := 6) (oi := ⟨some 8, .fieldAddr 56 (.tmp 7) 0, 0, "syntax.go:51", #[⟨5, .data⟩], none⟩) (v := ?_) rfl (by kernel_rfl) (fun _ _ _ h => h) (Or.inl ⟨by rfl, ?_⟩) HS.out ?_
    rotate_left
    ·intro x h; go_simp; try (with_reducible rfl)
    try simp only [Act.put,sA,List.set]
    refine anyR_take (i := 7) (oi := ⟨some 9, .load 22 (.tmp 8), 22, "syntax.go:51", #[⟨6, .data⟩], none⟩) (v := ?_) rfl (by kernel_rfl) (fun _ _ _ h => h) (Or.inl ⟨by rfl, ?_⟩) HS.out ?_
    rotate_left
    ·intro x h; go_simp; try (with_reducible rfl)
    try simp only [Act.put,sA,List.set]
    refine anyR_take (i := 8) (oi := ⟨some 10, .call { callee := .builtin .len, args := #[.tmp 9], argTypes := #[22] }, 3, "syntax.go:51", #[⟨7, .data⟩], none⟩) (v := ?_) rfl (by kernel_rfl) (fun _ _ _ h => h) (Or.inl ⟨by rfl, ?_⟩) HS.out ?_
    rotate_left
    ·intro x h; go_simp; try (with_reducible rfl)
    try simp only [Act.put,sA,List.set]
    refine anyR_take (i := 9) (oi := ⟨some 11, .binOp .lss 3 (.tmp 5) (.tmp 10) 3, 4, "syntax.go:51", #[⟨3, .data⟩, ⟨8, .data⟩], none⟩) (v := ?_) rfl (by kernel_rfl) (fun _ _ _ h => h) (Or.inl ⟨by rfl, ?_⟩) HS.out ?_
    rotate_left
    ·intro x h; go_simp; try (with_reducible rfl)
    try simp only [Act.put,sA,List.set]
    refine anyR_take (i := 10) (oi := ⟨some 12, .move (.tmp 11), 4, "syntax.go:51", #[⟨9, .data⟩], none⟩) (v := ?_) rfl (by kernel_rfl) (fun _ _ _ h => h) (Or.inl ⟨by rfl, ?_⟩) HS.out ?_
    rotate_left
    ·intro x h; go_simp; try (with_reducible rfl)
    try simp only [Act.put,sA,List.set]
    refine anyR_take (i := 11) (oi := ⟨some 13, .move (.tmp 0), 54, "syntax.go:51", #[⟨10, .guard⟩], some (10, true)⟩) (v := _) rfl (by kernel_rfl) (fun _ _ _ h => h) (Or.inr ⟨by rfl, rfl⟩) HS.out ?_
    try simp only [Act.put,sA,List.set]
    refine anyR_take (i := 12) (oi := ⟨some 14, .nilCheck (.tmp 13), 0, "syntax.go:51", #[⟨11, .data⟩, ⟨10, .guard⟩], some (10, true)⟩) (v := _) rfl (by kernel_rfl) (fun _ _ _ h => h) (Or.inr ⟨by rfl, rfl⟩) HS.out ?_
    try simp only [Act.put,sA,List.set]
    refine anyR_take (i := 13) (oi := ⟨some 15, .fieldAddr 56 (.tmp 14) 0, 0, "syntax.go:51", #[⟨12, .data⟩, ⟨10, .guard⟩], some (10, true)⟩) (v := _) rfl (by kernel_rfl) (fun _ _ _ h => h) (Or.inr ⟨by rfl, rfl⟩) HS.out ?_
    try simp only [Act.put,sA,List.set]
    refine anyR_take (i := 14) (oi := ⟨some 16, .load 22 (.tmp 15), 22, "syntax.go:51", #[⟨13, .data⟩, ⟨10, .guard⟩], some (10, true)⟩) (v := _) rfl (by kernel_rfl) (fun _ _ _ h => h) (Or.inr ⟨by rfl, rfl⟩) HS.out ?_
    try simp only [Act.put,sA,List.set]
    refine anyR_take (i := 15) (oi := ⟨some 17, .move (.tmp 0), 54, "syntax.go:51", #[⟨10, .guard⟩], some (10, true)⟩) (v := _) rfl (by kernel_rfl) (fun _ _ _ h => h) (Or.inr ⟨by rfl, rfl⟩) HS.out ?_
    try simp only [Act.put,sA,List.set]
    refine anyR_take (i := 16) (oi := ⟨some 18, .nilCheck (.tmp 17), 0, "syntax.go:51", #[⟨15, .data⟩, ⟨10, .guard⟩], some (10, true)⟩) (v := _) rfl (by kernel_rfl) (fun _ _ _ h => h) (Or.inr ⟨by rfl, rfl⟩) HS.out ?_
    try simp only [Act.put,sA,List.set]
    refine anyR_take (i := 17) (oi := ⟨some 19, .fieldAddr 56 (.tmp 18) 1, 0, "syntax.go:51", #[⟨16, .data⟩, ⟨10, .guard⟩], some (10, true)⟩) (v := _) rfl (by kernel_rfl) (fun _ _ _ h => h) (Or.inr ⟨by rfl, rfl⟩) HS.out ?_
    try simp only [Act.put,sA,List.set]
    refine anyR_take (i := 18) (oi := ⟨some 20, .load 3 (.tmp 19), 3, "syntax.go:51", #[⟨17, .data⟩, ⟨10, .guard⟩], some (10, true)⟩) (v := _) rfl (by kernel_rfl) (fun _ _ _ h => h) (Or.inr ⟨by rfl, rfl⟩) HS.out ?_
    try simp only [Act.put,sA,List.set]
    refine anyR_take (i := 19) (oi := ⟨some 21, .indexAddr 22 (.tmp 16) (.tmp 20), 0, "syntax.go:51", #[⟨14, .data⟩, ⟨18, .data⟩, ⟨10, .guard⟩], some (10, true)⟩) (v := _) rfl (by kernel_rfl) (fun _ _ _ h => h) (Or.inr ⟨by rfl, rfl⟩) HS.out ?_
    try simp only [Act.put,sA,List.set]
    refine anyR_take (i := 20) (oi := ⟨some 22, .fieldAddr 28 (.tmp 21) 0, 0, "syntax.go:51", #[⟨19, .data⟩, ⟨10, .guard⟩], some (10, true)⟩) (v := _) rfl (by kernel_rfl) (fun _ _ _ h => h) (Or.inr ⟨by rfl, rfl⟩) HS.out ?_
    try simp only [Act.put,sA,List.set]
    refine anyR_take (i := 21) (oi := ⟨some 23, .load 24 (.tmp 22), 24, "syntax.go:51", #[⟨20, .data⟩, ⟨10, .guard⟩], some (10, true)⟩) (v := _) rfl (by kernel_rfl) (fun _ _ _ h => h) (Or.inr ⟨by rfl, rfl⟩) HS.out ?_
    try simp only [Act.put,sA,List.set]
    refine anyR_take (i := 22) (oi := ⟨some 24, .binOp .eql 24 (.tmp 23) (.const (.int .u8 7)) 24, 4, "syntax.go:51", #[⟨21, .data⟩, ⟨10, .guard⟩], some (10, true)⟩) (v := _) rfl (by kernel_rfl) (fun _ _ _ h => h) (Or.inr ⟨by rfl, rfl⟩) HS.out ?_
    try simp only [Act.put,sA,List.set]
    refine anyR_take (i := 23) (oi := ⟨some 25, .move (.tmp 24), 4, "syntax.go:51", #[⟨22, .data⟩, ⟨10, .chain⟩, ⟨10, .guard⟩], some (10, true)⟩) (v := _) rfl (by kernel_rfl) (fun _ _ _ h => h) (Or.inr ⟨by rfl, rfl⟩) HS.out ?_
    try simp only [Act.put,sA,List.set]
    refine anyR_take (i := 24) (oi := ⟨some 26, .move (.tmp 0), 54, "syntax.go:51", #[⟨23, .guard⟩], some (23, false)⟩) (v := _) rfl (by kernel_rfl) (fun _ _ _ h => h) (Or.inr ⟨by rfl, rfl⟩) HS.out ?_
    try simp only [Act.put,sA,List.set]
    refine anyR_take (i := 25) (oi := ⟨some 27, .nilCheck (.tmp 26), 0, "syntax.go:51", #[⟨24, .data⟩, ⟨23, .guard⟩], some (23, false)⟩) (v := _) rfl (by kernel_rfl) (fun _ _ _ h => h) (Or.inr ⟨by rfl, rfl⟩) HS.out ?_
    try simp only [Act.put,sA,List.set]
    refine anyR_take (i := 26) (oi := ⟨some 28, .fieldAddr 56 (.tmp 27) 0, 0, "syntax.go:51", #[⟨25, .data⟩, ⟨23, .guard⟩], some (23, false)⟩) (v := _) rfl (by kernel_rfl) (fun _ _ _ h => h) (Or.inr ⟨by rfl, rfl⟩) HS.out ?_
    try simp only [Act.put,sA,List.set]
    refine anyR_take (i := 27) (oi := ⟨some 29, .load 22 (.tmp 28), 22, "syntax.go:51", #[⟨26, .data⟩, ⟨23, .guard⟩], some (23, false)⟩) (v := _) rfl (by kernel_rfl) (fun _ _ _ h => h) (Or.inr ⟨by rfl, rfl⟩) HS.out ?_
    try simp only [Act.put,sA,List.set]
    refine anyR_take (i := 28) (oi := ⟨some 30, .move (.tmp 0), 54, "syntax.go:51", #[⟨23, .guard⟩], some (23, false)⟩) (v := _) rfl (by kernel_rfl) (fun _ _ _ h => h) (Or.inr ⟨by rfl, rfl⟩) HS.out ?_
    try simp only [Act.put,sA,List.set]
    refine anyR_take (i := 29) (oi := ⟨some 31, .nilCheck (.tmp 30), 0, "syntax.go:51", #[⟨28, .data⟩, ⟨23, .guard⟩], some (23, false)⟩) (v := _) rfl (by kernel_rfl) (fun _ _ _ h => h) (Or.inr ⟨by rfl, rfl⟩) HS.out ?_
    try simp only [Act.put,sA,List.set]
    refine anyR_take (i := 30) (oi := ⟨some 32, .fieldAddr 56 (.tmp 31) 1, 0, "syntax.go:51", #[⟨29, .data⟩, ⟨23, .guard⟩], some (23, false)⟩) (v := _) rfl (by kernel_rfl) (fun _ _ _ h => h) (Or.inr ⟨by rfl, rfl⟩) HS.out ?_
    try simp only [Act.put,sA,List.set]
    refine anyR_take (i := 31) (oi := ⟨some 33, .load 3 (.tmp 32), 3, "syntax.go:51", #[⟨30, .data⟩, ⟨23, .guard⟩], some (23, false)⟩) (v := _) rfl (by kernel_rfl) (fun _ _ _ h => h) (Or.inr ⟨by rfl, rfl⟩) HS.out ?_
    try simp only [Act.put,sA,List.set]
    refine anyR_take (i := 32) (oi := ⟨some 34, .indexAddr 22 (.tmp 29) (.tmp 33), 0, "syntax.go:51", #[⟨27, .data⟩, ⟨31, .data⟩, ⟨23, .guard⟩], some (23, false)⟩) (v := _) rfl (by kernel_rfl) (fun _ _ _ h => h) (Or.inr ⟨by rfl, rfl⟩) HS.out ?_
    try simp only [Act.put,sA,List.set]
    refine anyR_take (i := 33) (oi := ⟨some 35, .fieldAddr 28 (.tmp 34) 0, 0, "syntax.go:51", #[⟨32, .data⟩, ⟨23, .guard⟩], some (23, false)⟩) (v := _) rfl (by kernel_rfl) (fun _ _ _ h => h) (Or.inr ⟨by rfl, rfl⟩) HS.out ?_
    try simp only [Act.put,sA,List.set]
    refine anyR_take (i := 34) (oi := ⟨some 36, .load 24 (.tmp 35), 24, "syntax.go:51", #[⟨33, .data⟩, ⟨23, .guard⟩], some (23, false)⟩) (v := _) rfl (by kernel_rfl) (fun _ _ _ h => h) (Or.inr ⟨by rfl, rfl⟩) HS.out ?_
    try simp only [Act.put,sA,List.set]
    refine anyR_take (i := 35) (oi := ⟨some 37, .binOp .eql 24 (.tmp 36) (.const (.int .u8 8)) 24, 4, "syntax.go:51", #[⟨34, .data⟩, ⟨23, .guard⟩], some (23, false)⟩) (v := _) rfl (by kernel_rfl) (fun _ _ _ h => h) (Or.inr ⟨by rfl, rfl⟩) HS.out ?_
    try simp only [Act.put,sA,List.set]
    refine anyR_take (i := 36) (oi := ⟨some 38, .pick (.tmp 25) (.const (.bool true)) (.tmp 37), 4, "syntax.go:51", #[⟨23, .data⟩, ⟨35, .data⟩, ⟨10, .guard⟩], some (10, true)⟩) (v := _) rfl (by kernel_rfl) (fun _ _ _ h => h) (Or.inr ⟨by rfl, rfl⟩) HS.out ?_
    try simp only [Act.put,sA,List.set]
    refine anyR_take (i := 37) (oi := ⟨some 39, .pick (.tmp 12) (.tmp 38) (.const (.bool false)), 4, "syntax.go:51", #[⟨10, .data⟩, ⟨36, .data⟩], none⟩) (v := ?_) rfl (by kernel_rfl) (fun _ _ _ h => h) (Or.inl ⟨by rfl, ?_⟩) HS.out ?_
    rotate_left
    ·intro x h; go_simp; try (with_reducible rfl)
    try simp only [Act.put,sA,List.set]
    refine anyR_done (by kernel_rfl) ?_ _
    go_wp2
    go_end0
    obtain ⟨h1, h2⟩ := HF.out
    refine ⟨rfl, ve1, ?_, HH.out.step.trans (PStep.below HBD.out)⟩
    rw [← h1, ← h2]
    simpa using HH.out.at_.moved HBD.out
theorem take_no {W0 : World} {A : Option Addr} {c : Nat} {l : List Tk} {w : World} {p : Nat} {i : Nat} {d : Int} {out : List Ev} {ve : Value} (H : SAt W0 A c l w p i d out ve) :
  Calls Tryz.prog 46 #[.pointer (some ⟨p, 0, none⟩), .bool false] w fun e w' => e = giveUp (if i = l.length then 121 else 120) i ∧ Below w.heap.size w w' := by
 have HF := zh (fail_any H)
 clear H
 obtain ⟨er, her⟩ : ∃ er, (if i = l.length then (121 : Int) else 120) = er := ⟨_, rfl⟩
 rw [her] at HF ⊢
 clear her
 go_enter Tryz.func46, Tryz.ntmps46
 go_wp2_with (go_at_call 39; (with_reducible refine cM HF.out ?_); rintro e w5 ⟨rfl, hb5⟩; have HB5 := zh hb5; clear hb5)
 exact ⟨rfl, rfl, HB5.out⟩
theorem take_deep {W0 : World} {A : Option Addr} {c : Nat} {l : List Tk} {w : World} {p : Nat} {i : Nat} {d : Int} {out : List Ev} {ve : Value} (H : SAt W0 A c l w p i d out ve) (hd : 1000 < d) :
  Calls Tryz.prog 46 #[.pointer (some ⟨p, 0, none⟩), .bool true] w fun e w' => e = giveUp 122 i ∧ Below w.heap.size w w' := by
 obtain ⟨q0, q1, q2, q3⟩ := H.cell
 clear H
 go_enter Tryz.func46, Tryz.ntmps46
 go_wp2
 exact ⟨rfl, rfl, Below.refl _ w⟩
theorem take_yes {W0 : World} {A : Option Addr} {c : Nat} {l : List Tk} {w : World} {p : Nat} {i : Nat} {d : Int} {out : List Ev} {ve : Value} (H : SAt W0 A c l w p i d out ve) {t : Tk} (hg : l[i]? = some t) (hd : ¬ 1000 < d) (hout : out.length ≤ 274877906944) :
  Calls Tryz.prog 46 #[.pointer (some ⟨p, 0, none⟩), .bool true] w fun e w' => e = .returned (.tuple #[]) ∧ ∃ ve', SAt W0 A c l w' p (i + 1 + (nAt l (i + 1)).length) d (out ++ [leafE t] ++ (nAt l (i + 1)).map noteE) ve' ∧ MStep p ve w ve' w' := by
 have hj : i < l.length := (List.getElem?_eq_some_iff.1 hg).1
 obtain ⟨ad, hA, htc⟩ := tok_cells H.toks i hj
 rw [rd_of hg] at htc
 subst hA
 obtain ⟨q0, q1, q2, q3⟩ := H.cell
 obtain ⟨c0, c1, c2, c3, c4, c5⟩ := htc w H.below
 obtain ⟨g1, g2, g3, g4⟩ := idx4 hj H.len
 have HH := zh H
 have HT6 := zh hj
 have HLO := zh hout
 have hd1 : decide (1000 < d) = false := decide_eq_false hd
 clear H hg hj htc hout
 go_enter Tryz.func46, Tryz.ntmps46
 go_upto_region 4 with (fail)
 obtain ⟨Wd2, hWd⟩ : ∃ V, w.drew = V := ⟨_, rfl⟩
 have hbd : Below w.heap.size w Wd2 := by rw [← hWd]; exact (Below.refl _ w).drew
 have hSall : ∀ V, Below w.heap.size w V → V.cell? ⟨p, 0, none⟩ = some (.slice (some ad) l.length c) ∧ V.cell? ⟨p, 1, none⟩ = some (.int .i64 i) ∧ V.cell? ⟨p, 3, none⟩ = some (ve) ∧ V.cell? (ad.add (i * 6)) = some (.int .u8 t.f0) ∧ V.cell? ⟨(ad.add (i * 6)).block, (ad.add (i * 6)).off + 1, none⟩ = some (.string t.f1) ∧ V.cell? ⟨(ad.add (i * 6)).block, (ad.add (i * 6)).off + 2, none⟩ = some (.int .i64 t.f2.f0) ∧ V.cell? ⟨(ad.add (i * 6)).block, (ad.add (i * 6)).off + 3, none⟩ = some (.int .i64 t.f2.f1) ∧ V.cell? ⟨(ad.add (i * 6)).block, (ad.add (i * 6)).off + 4, none⟩ = some (.int .i64 t.f2.f2) ∧ V.cell? ⟨(ad.add (i * 6)).block, (ad.add (i * 6)).off + 5, none⟩ = some (.int .i64 t.f3) := fun V hV => ⟨pw_cell_below hV q0, pw_cell_below hV q1, pw_cell_below hV q3, pw_cell_below hV c0, pw_cell_below hV c1, pw_cell_below hV c2, pw_cell_below hV c3, pw_cell_below hV c4, pw_cell_below hV c5⟩
 have HSA := zh hSall
 have HS := zh (hSall Wd2 hbd)
 have HBD := zh hbd
 have HWd := zh hWd
 clear hSall hbd hWd
 refine wp_region_R (fun w' => w'.cell? ⟨p, 0, none⟩ = some (.slice (some ad) l.length c) ∧ w'.cell? ⟨p, 1, none⟩ = some (.int .i64 i) ∧ w'.cell? ⟨p, 3, none⟩ = some (ve) ∧ w'.cell? (ad.add (i * 6)) = some (.int .u8 t.f0) ∧ w'.cell? ⟨(ad.add (i * 6)).block, (ad.add (i * 6)).off + 1, none⟩ = some (.string t.f1) ∧ w'.cell? ⟨(ad.add (i * 6)).block, (ad.add (i * 6)).off + 2, none⟩ = some (.int .i64 t.f2.f0) ∧ w'.cell? ⟨(ad.add (i * 6)).block, (ad.add (i * 6)).off + 3, none⟩ = some (.int .i64 t.f2.f1) ∧ w'.cell? ⟨(ad.add (i * 6)).block, (ad.add (i * 6)).off + 4, none⟩ = some (.int .i64 t.f2.f2) ∧ w'.cell? ⟨(ad.add (i * 6)).block, (ad.add (i * 6)).off + 5, none⟩ = some (.int .i64 t.f3)) (fun j => !(Nat.beq j 20)) (by kernel_rfl) ?_
 rw [HWd.out]
 refine anyR_take (i := 0) (oi := ⟨some 19, .move (.tmp 0), 54, "syntax.go:101", #[], none⟩) (v := ?_) rfl (by kernel_rfl) (fun _ _ _ h => h) (Or.inl ⟨by rfl, ?_⟩) HS.out ?_
 rotate_left
 ·intro x h; go_simp; try (with_reducible rfl)
 try simp only [Act.put,sA,List.set]
 refine anyR_take (i := 1) (oi := ⟨some 20, .move (.tmp 0), 54, "syntax.go:101", #[], none⟩) (v := ?_) rfl (by kernel_rfl) (fun _ _ _ h => h) (Or.inl ⟨by rfl, ?_⟩) HS.out ?_
 rotate_left
 ·intro x h; go_simp; try (with_reducible rfl)
 try simp only [Act.put,sA,List.set]
 refine anyR_take (i := 2) (oi := ⟨some 21, .nilCheck (.tmp 20), 0, "syntax.go:101", #[⟨1, .data⟩], none⟩) (v := ?_) rfl (by kernel_rfl) (fun _ _ _ h => h) (Or.inl ⟨by rfl, ?_⟩) HS.out ?_
 rotate_left
 ·intro x h; go_simp; try (with_reducible rfl)
 try simp only [Act.put,sA,List.set]
 refine anyR_take (i := 3) (oi := ⟨some 22, .fieldAddr 56 (.tmp 21) 3, 0, "syntax.go:101", #[⟨2, .data⟩], none⟩) (v := ?_) rfl (by kernel_rfl) (fun _ _ _ h => h) (Or.inl ⟨by rfl, ?_⟩) HS.out ?_
 rotate_left
 ·intro x h; go_simp; try (with_reducible rfl)
 try simp only [Act.put,sA,List.set]
 refine anyR_take (i := 4) (oi := ⟨some 23, .load 41 (.tmp 22), 41, "syntax.go:101", #[⟨3, .data⟩], none⟩) (v := ?_) rfl (by kernel_rfl) (fun _ _ _ h => h) (Or.inl ⟨by rfl, ?_⟩) HS.out ?_
 rotate_left
 ·intro x h; go_simp; try (with_reducible rfl)
 try simp only [Act.put,sA,List.set]
 refine anyR_take (i := 5) (oi := ⟨some 24, .move (.tmp 0), 54, "syntax.go:101", #[], none⟩) (v := ?_) rfl (by kernel_rfl) (fun _ _ _ h => h) (Or.inl ⟨by rfl, ?_⟩) HS.out ?_
 rotate_left
 ·intro x h; go_simp; try (with_reducible rfl)
 try simp only [Act.put,sA,List.set]
 refine anyR_take (i := 6) (oi := ⟨some 25, .nilCheck (.tmp 24), 0, "syntax.go:101", #[⟨5, .data⟩], none⟩) (v := ?_) rfl (by kernel_rfl) (fun _ _ _ h => h) (Or.inl ⟨by rfl, ?_⟩) HS.out ?_
 rotate_left
 ·intro x h; go_simp; try (with_reducible rfl)
 try simp only [Act.put,sA,List.set]
 refine anyR_take (i := 7) (oi := ⟨some 26, .fieldAddr 56 (.tmp 25) 0, 0, "syntax.go:101", #[⟨6, .data⟩], none⟩) (v := ?_) rfl (by kernel_rfl) (fun _ _ _ h => h) (Or.inl ⟨by rfl, ?_⟩) HS.out ?_
 rotate_left
 ·intro x h; go_simp; try (with_reducible rfl)
 try simp only [Act.put,sA,List.set]
 refine anyR_take (i := 8) (oi := ⟨some 27, .load 22 (.tmp 26), 22, "syntax.go:101", #[⟨7, .data⟩], none⟩) (v := ?_) rfl (by kernel_rfl) (fun _ _ _ h => h) (Or.inl ⟨by rfl, ?_⟩) HS.out ?_
 rotate_left
 ·intro x h; go_simp; try (with_reducible rfl)
 try simp only [Act.put,sA,List.set]
 refine anyR_take (i := 9) (oi := ⟨some 28, .move (.tmp 0), 54, "syntax.go:101", #[], none⟩) (v := ?_) rfl (by kernel_rfl) (fun _ _ _ h => h) (Or.inl ⟨by rfl, ?_⟩) HS.out ?_
 rotate_left
 ·intro x h; go_simp; try (with_reducible rfl)
 try simp only [Act.put,sA,List.set]
 refine anyR_take (i := 10) (oi := ⟨some 29, .nilCheck (.tmp 28), 0, "syntax.go:101", #[⟨9, .data⟩], none⟩) (v := ?_) rfl (by kernel_rfl) (fun _ _ _ h => h) (Or.inl ⟨by rfl, ?_⟩) HS.out ?_
 rotate_left
 ·intro x h; go_simp; try (with_reducible rfl)
 try simp only [Act.put,sA,List.set]
 refine anyR_take (i := 11) (oi := ⟨some 30, .fieldAddr 56 (.tmp 29) 1, 0, "syntax.go:101", #[⟨10, .data⟩], none⟩) (v := ?_) rfl (by kernel_rfl) (fun _ _ _ h => h) (Or.inl ⟨by rfl, ?_⟩) HS.out ?_
 rotate_left
 ·intro x h; go_simp; try (with_reducible rfl)
 try simp only [Act.put,sA,List.set]
 refine anyR_take (i := 12) (oi := ⟨some 31, .load 3 (.tmp 30), 3, "syntax.go:101", #[⟨11, .data⟩], none⟩) (v := ?_) rfl (by kernel_rfl) (fun _ _ _ h => h) (Or.inl ⟨by rfl, ?_⟩) HS.out ?_
 rotate_left
 ·intro x h; go_simp; try (with_reducible rfl)
 try simp only [Act.put,sA,List.set]
 refine anyR_take (i := 13) (oi := ⟨some 32, .indexAddr 22 (.tmp 27) (.tmp 31), 0, "syntax.go:101", #[⟨8, .data⟩, ⟨12, .data⟩], none⟩) (v := ?_) rfl (by kernel_rfl) (fun _ _ _ h => h) (Or.inl ⟨by rfl, ?_⟩) HS.out ?_
 rotate_left
 ·intro x h; go_simp; try (with_reducible rfl)
 try simp only [Act.put,sA,List.set]
 refine anyR_take (i := 14) (oi := ⟨some 33, .load 28 (.tmp 32), 28, "syntax.go:101", #[⟨13, .data⟩], none⟩) (v := ?_) rfl (by kernel_rfl) (fun _ _ _ h => h) (Or.inl ⟨by rfl, ?_⟩) HS.out ?_
 rotate_left
 ·intro x h; go_simp; try (with_reducible rfl)
 try simp only [Act.put,sA,List.set]
 refine anyR_take (i := 15) (oi := ⟨some 34, .build 48 #[(0, .const (.int .u8 2)), (2, .tmp 33)], 48, "syntax.go:101", #[⟨14, .data⟩], none⟩) (v := ?_) rfl (by kernel_rfl) (fun _ _ _ h => h) (Or.inl ⟨by rfl, ?_⟩) HS.out ?_
 rotate_left
 ·intro x h; go_simp; try (with_reducible rfl)
 try simp only [Act.put,sA,List.set]
 have HP6 := zh (HH.out.moved HBD.out)
 refine anyR_ready (rs := [16]) (by kernel_rfl) (by simp) ?_
 refine ReadyR.cons (o := ⟨some 35, .buildSlice 41 1 #[(0, .tmp 34)], 41, "syntax.go:101", #[⟨15, .data⟩], none⟩) rfl (fun K hK => ?_) ReadyR.nil
 go_simp
 refine hK.out _ _ (fun _ => HSA.out _ (HBD.out.alloc HBD.out.size _)) ?_
 clear hK K
 try simp only [Act.put,sA,List.set]
 refine anyR_ready (rs := [17]) (by kernel_rfl) (by simp) ?_
 refine ReadyR.cons (o := ⟨some 36, .call { callee := .builtin .append, args := #[.tmp 23, .tmp 35], argTypes := #[41, 41] }, 41, "syntax.go:101", #[⟨4, .data⟩, ⟨16, .data⟩], none⟩) rfl (fun K hK => ?_) ReadyR.nil
 refine step_ev (W := Wd2) rfl (.tmp 23) (.tmp 35) rfl p (u := ve) (q := out.length) (kc := out.flatMap evCells) (cs := [.int .u8 2, .int .u8 0, .int .u8 t.f0, .string t.f1, .int .i64 t.f2.f0, .int .i64 t.f2.f1, .int .i64 t.f2.f2, .int .i64 t.f3]) rfl rfl HP6.out.row rfl (evCells_one (leafE t)) (Nat.le_of_lt (blk_lt HP6.out.box)) (by have := HLO.out; omega) ?_
 intro G9 C9 w6 ho hg hat
 obtain ⟨⟨cur6, hcur, hfit⟩, hnx⟩ := HP6.out.next (e := leafE t) ho hg hat
 have hS7 : w6.cell? ⟨p, 0, none⟩ = some (.slice (some ad) l.length c) ∧ w6.cell? ⟨p, 1, none⟩ = some (.int .i64 i) ∧ w6.cell? ⟨p, 3, none⟩ = some (ve) ∧ w6.cell? (ad.add (i * 6)) = some (.int .u8 t.f0) ∧ w6.cell? ⟨(ad.add (i * 6)).block, (ad.add (i * 6)).off + 1, none⟩ = some (.string t.f1) ∧ w6.cell? ⟨(ad.add (i * 6)).block, (ad.add (i * 6)).off + 2, none⟩ = some (.int .i64 t.f2.f0) ∧ w6.cell? ⟨(ad.add (i * 6)).block, (ad.add (i * 6)).off + 3, none⟩ = some (.int .i64 t.f2.f1) ∧ w6.cell? ⟨(ad.add (i * 6)).block, (ad.add (i * 6)).off + 4, none⟩ = some (.int .i64 t.f2.f2) ∧ w6.cell? ⟨(ad.add (i * 6)).block, (ad.add (i * 6)).off + 5, none⟩ = some (.int .i64 t.f3) := sgrown HP6.out ⟨rfl, HT6.out⟩ hg HS.out
 have HS7 := zh hS7
 have HCU := zh (And.intro hcur hfit)
 have HNX := zh hnx
 refine hK.out _ _ (fun _ => hS7) ?_
 clear hK K ho hg hat hS7 hcur hfit hnx
 try simp only [Act.put,sA,List.set]
 refine anyR_ready (rs := [18]) (by kernel_rfl) (by simp) ?_
 refine ReadyR.cons (o := ⟨some 37, .nilCheck (.tmp 19), 0, "syntax.go:101", #[⟨0, .data⟩, ⟨0, .phase⟩, ⟨1, .phase⟩, ⟨2, .phase⟩, ⟨3, .phase⟩, ⟨4, .phase⟩, ⟨5, .phase⟩, ⟨6, .phase⟩, ⟨7, .phase⟩, ⟨8, .phase⟩, ⟨9, .phase⟩, ⟨10, .phase⟩, ⟨11, .phase⟩, ⟨12, .phase⟩, ⟨13, .phase⟩, ⟨14, .phase⟩, ⟨15, .phase⟩, ⟨16, .phase⟩, ⟨17, .phase⟩], none⟩) rfl (fun K hK => ?_) ReadyR.nil
 go_simp
 refine hK.out _ _ (fun _ => HS7.out) ?_
 clear hK K
 try simp only [Act.put,sA,List.set]
 refine anyR_ready (rs := [19]) (by kernel_rfl) (by simp) ?_
 refine ReadyR.cons (o := ⟨some 38, .fieldAddr 56 (.tmp 37) 3, 0, "syntax.go:101", #[⟨18, .data⟩, ⟨0, .phase⟩, ⟨1, .phase⟩, ⟨2, .phase⟩, ⟨3, .phase⟩, ⟨4, .phase⟩, ⟨5, .phase⟩, ⟨6, .phase⟩, ⟨7, .phase⟩, ⟨8, .phase⟩, ⟨9, .phase⟩, ⟨10, .phase⟩, ⟨11, .phase⟩, ⟨12, .phase⟩, ⟨13, .phase⟩, ⟨14, .phase⟩, ⟨15, .phase⟩, ⟨16, .phase⟩, ⟨17, .phase⟩], none⟩) rfl (fun K hK => ?_) ReadyR.nil
 go_simp
 refine hK.out _ _ (fun _ => HS7.out) ?_
 clear hK K
 try simp only [Act.put,sA,List.set]
 refine anyR_ready (rs := [20]) (by kernel_rfl) (by simp) ?_
 refine ReadyR.cons (o := ⟨none, .store 41 (.tmp 38) (.tmp 36), 0, "syntax.go:101", #[⟨19, .data⟩, ⟨17, .data⟩, ⟨17, .chain⟩, ⟨0, .phase⟩, ⟨1, .phase⟩, ⟨2, .phase⟩, ⟨3, .phase⟩, ⟨4, .phase⟩, ⟨5, .phase⟩, ⟨6, .phase⟩, ⟨7, .phase⟩, ⟨8, .phase⟩, ⟨9, .phase⟩, ⟨10, .phase⟩, ⟨11, .phase⟩, ⟨12, .phase⟩, ⟨13, .phase⟩, ⟨14, .phase⟩, ⟨15, .phase⟩, ⟨16, .phase⟩, ⟨17, .phase⟩], none⟩) rfl (fun K hK => ?_) ReadyR.nil
 refine step_store rfl rfl 41 (.tmp 38) (.tmp 36) rfl (g := p) (off := 3) (.slice (some ⟨G9, 0, none⟩) (out.length + 1) C9) [.slice (some ⟨G9, 0, none⟩) (out.length + 1) C9] rfl rfl rfl (by kernel_rfl) (fun v hv => by rw [List.mem_singleton.1 hv]; rfl) HCU.out.1 HCU.out.2 ?_
 have HN7 := zh (HNX.out _ rfl)
 refine hK.out _ _ (fun h => by cases h) ?_
 clear hK K HNX HCU HS7 HS HSA
 generalize w6.setCells p 3 [.slice (some ⟨G9, 0, none⟩) (out.length + 1) C9] = V7 at HN7 ⊢
 try simp only [Act.put,sA,List.set]
 refine anyR_done (by kernel_rfl) ?_ _
 have HP7 := zh HN7.out.1
 have HQ7 := zh (((PStep.below HBD.out) : MStep p ve w ve Wd2).trans HN7.out.2)
 clear q0 q1 q2 q3 c0 c1 c2 c3 c4 c5 HN7
 obtain ⟨q0, q1, q2, q3⟩ := HP7.out.cell
 go_wp2_with (first
  | ((with_reducible refine gate_ (.store 3 (.tmp 45) (.tmp 43)) rfl ?_); refine wl_cells rfl rfl _ _ _ rfl (g := p) (off := 1) (.int .i64 ((i : Int) + 1)) [.int .i64 ((i : Int) + 1)] rfl rfl rfl (by kernel_rfl) (fun v hv => by rw [List.mem_singleton.1 hv]; rfl) HP7.out.box (by simp) ?_; intro V8 hV; obtain ⟨hA, hS⟩ := HP7.out.upd 1 (.int .i64 ((i : Int) + 1)) (by decide) (i' := i + 1) (d' := d) rfl HT6.out; rw [← hV] at hA hS; have HQ8 := zh (HQ7.out.trans hS); have HCM := zh (comments_any hA (by have := HLO.out; rw [List.length_append, List.length_singleton]; omega)); clear q0 q1 q2 q3 hV hA hS)
  | (go_at_call 35; (with_reducible refine cM HCM.out ?_); rintro e w9 ⟨rfl, ve9, hP9, hs9⟩; have HP9 := zh hP9; have HQ9 := zh (HQ8.out.trans hs9); clear hP9 hs9))
 go_end0
 exact ⟨rfl, ve9, HP9.out, HQ9.out⟩
def goodW (s : ByteArray) : Bool := decide (0 < s.size) && !(bt s 0 == 64)
def lowW (s : ByteArray) : Bool := decide (97 ≤ bt s 0) && decide (bt s 0 ≤ 122)
theorem code_word {s : ByteArray} (hs : goodW s = true) (t : Tk) : ((t.f0 = (if lowW s then 2 else 6)) ∧ t.f1 = s) ↔ codeOf t = s := by
 simp only [goodW, Bool.and_eq_true, decide_eq_true_eq, Bool.not_eq_true', beq_eq_false_iff_ne, ne_eq] at hs
 obtain ⟨h0, h64⟩ := hs
 have hn : ∀ x : ByteArray, bt x 0 = 64 → ¬ x = s := fun x hx e => h64 (e ▸ hx)
 have e1 : bt ⟨#[64, 110, 97, 109, 101]⟩ 0 = 64 := by decide
 have e2 : bt ⟨#[64, 110, 117, 109, 98, 101, 114]⟩ 0 = 64 := by decide
 have e3 : bt ⟨#[64, 116, 101, 120, 116]⟩ 0 = 64 := by decide
 have e4 : bt ⟨#[64, 99, 104, 97, 114]⟩ 0 = 64 := by decide
 have e5 : bt ⟨#[64]⟩ 0 = 64 := by decide
 unfold codeOf codeF
 obtain ⟨t0, t1, ⟨t2, t3, t4⟩, t5⟩ := t
 dsimp only
 by_cases c1 : t0 = 1
 ·subst c1
  simp only [if_true, Option.getD_some]
  refine ⟨fun h => ?_, fun h => absurd h (hn _ e1)⟩
  have := h.1; split at this <;> omega
 rw [if_neg c1]
 by_cases c3 : t0 = 3
 ·subst c3
  simp only [if_true, Option.getD_some]
  refine ⟨fun h => ?_, fun h => absurd h (hn _ e2)⟩
  have := h.1; split at this <;> omega
 rw [if_neg c3]
 by_cases c4 : t0 = 4
 ·subst c4
  simp only [if_true, Option.getD_some]
  refine ⟨fun h => ?_, fun h => absurd h (hn _ e3)⟩
  have := h.1; split at this <;> omega
 rw [if_neg c4]
 by_cases c5 : t0 = 5
 ·subst c5
  simp only [if_true, Option.getD_some]
  refine ⟨fun h => ?_, fun h => absurd h (hn _ e4)⟩
  have := h.1; split at this <;> omega
 rw [if_neg c5]
 by_cases c2 : t0 = 2
 ·subst c2
  simp only [if_true]
  by_cases hz : (t1.size : Int) > 0
  ·have hz' : 0 < (t1.size : Int) := hz
   rw [if_pos hz, if_pos hz']
   by_cases ha : bt t1 0 ≥ 97
   ·rw [if_pos ha]
    by_cases hb : bt t1 0 ≤ 122
    ·rw [if_pos hb]
     simp only [Option.getD_some]
     constructor
     ·exact fun h => h.2
     ·intro h
      subst h
      refine ⟨?_, rfl⟩
      rw [if_pos (by simp [lowW]; omega)]
    ·rw [if_neg hb]
     simp only [Option.getD_some]
     refine ⟨fun h => ?_, fun h => absurd h (hn _ e5)⟩
     obtain ⟨h1, h2⟩ := h
     subst h2
     rw [if_neg (by simp [lowW]; omega)] at h1
     omega
   ·rw [if_neg ha]
    simp only [Option.getD_some]
    refine ⟨fun h => ?_, fun h => absurd h (hn _ e5)⟩
    obtain ⟨h1, h2⟩ := h
    subst h2
    rw [if_neg (by simp [lowW]; omega)] at h1
    omega
  ·rw [if_neg hz]
   simp only [Option.getD_some]
   refine ⟨fun h => ?_, fun h => absurd h (hn _ e5)⟩
   obtain ⟨h1, h2⟩ := h
   subst h2
   omega
 rw [if_neg c2]
 by_cases c6 : t0 = 6
 ·subst c6
  simp only [if_true]
  by_cases hz : (t1.size : Int) > 0
  ·have hz' : 0 < (t1.size : Int) := hz
   rw [if_pos hz, if_pos hz']
   by_cases ha : bt t1 0 < 97
   ·rw [if_pos ha]
    by_cases hb : bt t1 0 = 64
    ·rw [if_pos hb]
     simp only [Option.getD_some]
     refine ⟨fun h => ?_, fun h => absurd h (hn _ e5)⟩
     obtain ⟨h1, h2⟩ := h
     subst h2
     exact absurd hb h64
    ·rw [if_neg hb]
     simp only [Option.getD_some]
     constructor
     ·exact fun h => h.2
     ·intro h
      subst h
      refine ⟨?_, rfl⟩
      rw [if_neg (by simp [lowW]; omega)]
   ·rw [if_neg ha]
    by_cases hc : bt t1 0 > 122
    ·rw [if_pos hc]
     by_cases hb : bt t1 0 = 64
     ·omega
     ·rw [if_neg hb]
      simp only [Option.getD_some]
      constructor
      ·exact fun h => h.2
      ·intro h
       subst h
       refine ⟨?_, rfl⟩
       rw [if_neg (by simp [lowW]; omega)]
    ·rw [if_neg hc]
     simp only [Option.getD_some]
     refine ⟨fun h => ?_, fun h => absurd h (hn _ e5)⟩
     obtain ⟨h1, h2⟩ := h
     subst h2
     rw [if_pos (by simp [lowW]; omega)] at h1
     omega
  ·rw [if_neg hz]
   simp only [Option.getD_some]
   refine ⟨fun h => ?_, fun h => absurd h (hn _ e5)⟩
   obtain ⟨h1, h2⟩ := h
   subst h2
   omega
 rw [if_neg c6]
 simp only [Option.getD_some]
 refine ⟨fun h => ?_, fun h => absurd h (hn _ e5)⟩
 have := h.1; split at this <;> omega
theorem cAt_some {l : List Tk} {i : Nat} {t : Tk} (h : l[i]? = some t) : cAt l i = codeOf t := by unfold cAt; rw [h]
theorem cAt_end {l : List Tk} {i : Nat} (h : l.length ≤ i) : cAt l i = ⟨#[]⟩ := by unfold cAt; rw [List.getElem?_eq_none h]
theorem inL_end {ws : List ByteArray} (h : ∀ s ∈ ws, goodW s = true) : inL ⟨#[]⟩ ws = false := by
 refine inL_no (fun hm => ?_)
 have := h _ hm
 revert this
 decide
theorem inL_split {c : ByteArray} {ws : List ByteArray} {j : Nat} {s : ByteArray} (hj : ws[j]? = some s) (h : inL c (ws.take j) = false) : inL c (ws.take (j + 1)) = decide (s = c) := by
 rw [List.take_add_one, hj]
 simp only [inL, Option.toList_some, List.any_append, List.any_cons, List.any_nil, Bool.or_false] at h ⊢
 rw [h, Bool.false_or]
theorem inL_pre {c : ByteArray} {ws : List ByteArray} {j : Nat} (h : inL c (ws.take j) = true) : inL c ws = true := by
 rw [inL_iff] at h ⊢
 exact List.mem_of_mem_take h
theorem word_facts {s : ByteArray} (h : goodW s = true) : (0 : Int) < (s.size : Int) ∧ 0 < s.size := by
 simp only [goodW, Bool.and_eq_true, decide_eq_true_eq] at h
 omega
theorem tkCells_one2 (t : Tk) : ∀ v ∈ ([.int .u8 t.f0, .string t.f1, .int .i64 t.f2.f0, .int .i64 t.f2.f1, .int .i64 t.f2.f2, .int .i64 t.f3] : List Value), v.oneCell' = true := by
 intro v hv; simp only [List.mem_cons, List.not_mem_nil, or_false] at hv; rcases hv with rfl | rfl | rfl | rfl | rfl | rfl <;> rfl
theorem str_ne {a b : ByteArray} (h : ¬ a = b) : (a.toList == b.toList) = false := by
 rw [beq_eq_false_iff_ne]
 intro e
 apply h
 have := congrArg List.toArray e
 have h2 : a.data = b.data := by simpa [ByteArray.toList_eq] using this
 cases a; cases b
 simpa using h2
theorem wrap_one {j n : Nat} (h : j < n) (hn : n ≤ 16) : (j : Int) < (n : Int) ∧ (0 : Int) ≤ (j : Int) ∧ wrap64 ((j : Int) + 1) = (j : Int) + 1 ∧ IntKind.i64.wrap ((j : Int) + 1) = (j : Int) + 1 := idx4 h (by omega)
theorem is_any {W0 : World} {A : Option Addr} {c : Nat} {l : List Tk} {w : World} {p : Nat} {i : Nat} {d : Int} {out : List Ev} {ve : Value} (H : SAt W0 A c l w p i d out ve) (A1 : Option Addr) (c1 : Nat) (ws : List ByteArray) (hC : Kd.C Kd.string w A1 ws.length ws) (hws : ∀ s ∈ ws, goodW s = true) (hl : ws.length ≤ 16) :
  Calls Tryz.prog 47 #[.pointer (some ⟨p, 0, none⟩), .slice A1 ws.length c1] w fun e w' => e = .returned (.bool (inL (cAt l i) ws)) ∧ Below w.heap.size w w' := by
 obtain ⟨q0, q1, q2, q3⟩ := H.cell
 by_cases hj : i < l.length
 ·obtain ⟨ad, hA, htc⟩ := tok_cells H.toks i hj
  have hg := rd_get l i hj
  obtain ⟨t, ht⟩ : ∃ t, PSyntaxProgram.rd_T28 l i = t := ⟨_, rfl⟩
  rw [ht] at htc hg
  rw [cAt_some hg]
  subst hA
  obtain ⟨c0, c1, c2, c3, c4, c5⟩ := htc w H.below
  obtain ⟨g1, g2, g3, g4⟩ := idx4 hj H.len
  have e1 : ((i : Int) == (l.length : Int)) = false := by rw [beq_eq_false_iff_ne]; omega
  have e2 : ¬ ((i : Int) = (l.length : Int)) := by omega
  have HWS := zh hws
  have HC := zh hC
  have HL := zh hl
  clear H ht hg htc hj hws hC hl
  go_enter Tryz.func47, Tryz.ntmps47
  go_wp2
  obtain ⟨Wd1, hWd⟩ : ∃ V, w.drew = V := ⟨_, rfl⟩
  have hbd : Below w.heap.size w Wd1 := by rw [← hWd]; exact (Below.refl _ w).drew
  have hSall : ∀ V, Below w.heap.size w V → V.cell? ⟨p, 0, none⟩ = some (.slice (some ad) l.length c) ∧ V.cell? ⟨p, 1, none⟩ = some (.int .i64 i) := fun V hV => ⟨pw_cell_below hV q0, pw_cell_below hV q1⟩
  have HSA := zh hSall
  have HS := zh (hSall Wd1 hbd)
  have HBD := zh hbd
  have HWd := zh hWd
  clear hSall hbd hWd
  refine wp_region_R (fun w' => w'.cell? ⟨p, 0, none⟩ = some (.slice (some ad) l.length c) ∧ w'.cell? ⟨p, 1, none⟩ = some (.int .i64 i)) (fun j => true) (by kernel_rfl) ?_
  rw [HWd.out]
  refine anyR_take (i := 0) (oi := ⟨some 9, .move (.tmp 0), 54, "syntax.go:67", #[], none⟩) (v := ?_) rfl (by kernel_rfl) (fun _ _ _ h => h) (Or.inl ⟨by rfl, ?_⟩) HS.out ?_
  rotate_left
  ·intro x h; go_simp; try (with_reducible rfl)
  try simp only [Act.put,sA,List.set]
  refine anyR_take (i := 1) (oi := ⟨some 10, .nilCheck (.tmp 9), 0, "syntax.go:67", #[⟨0, .data⟩], none⟩) (v := ?_) rfl (by kernel_rfl) (fun _ _ _ h => h) (Or.inl ⟨by rfl, ?_⟩) HS.out ?_
  rotate_left
  ·intro x h; go_simp; try (with_reducible rfl)
  try simp only [Act.put,sA,List.set]
  refine anyR_take (i := 2) (oi := ⟨some 11, .fieldAddr 56 (.tmp 10) 1, 0, "syntax.go:67", #[⟨1, .data⟩], none⟩) (v := ?_) rfl (by kernel_rfl) (fun _ _ _ h => h) (Or.inl ⟨by rfl, ?_⟩) HS.out ?_
  rotate_left
  ·intro x h; go_simp; try (with_reducible rfl)
  try simp only [Act.put,sA,List.set]
  refine anyR_take (i := 3) (oi := ⟨some 12, .load 3 (.tmp 11), 3, "syntax.go:67", #[⟨2, .data⟩], none⟩) (v := ?_) rfl (by kernel_rfl) (fun _ _ _ h => h) (Or.inl ⟨by rfl, ?_⟩) HS.out ?_
  rotate_left
  ·intro x h; go_simp; try (with_reducible rfl)
  try simp only [Act.put,sA,List.set]
  refine anyR_take (i := 4) (oi := ⟨some 13, .move (.tmp 0), 54, "syntax.go:67", #[], none⟩) (v := ?_) rfl (by kernel_rfl) (fun _ _ _ h => h) (Or.inl ⟨by rfl, ?_⟩) HS.out ?_
  rotate_left
  ·intro x h; go_simp; try (with_reducible rfl)
  try simp only [Act.put,sA,List.set]
  refine anyR_take (i := 5) (oi := ⟨some 14, .nilCheck (.tmp 13), 0, "syntax.go:67", #[⟨4, .data⟩], none⟩) (v := ?_) rfl (by kernel_rfl) (fun _ _ _ h => h) (Or.inl ⟨by rfl, ?_⟩) HS.out ?_
  rotate_left
  ·intro x h; go_simp; try (with_reducible rfl)
  try simp only [Act.put,sA,List.set]
  refine anyR_take (i := 6) (oi := ⟨some 15, .fieldAddr 56 (.tmp 14) 0, 0, "syntax.go:67", #[⟨5, .data⟩], none⟩) (v := ?_) rfl (by kernel_rfl) (fun _ _ _ h => h) (Or.inl ⟨by rfl, ?_⟩) HS.out ?_
  rotate_left
  ·intro x h; go_simp; try (with_reducible rfl)
  try simp only [Act.put,sA,List.set]
  refine anyR_take (i := 7) (oi := ⟨some 16, .load 22 (.tmp 15), 22, "syntax.go:67", #[⟨6, .data⟩], none⟩) (v := ?_) rfl (by kernel_rfl) (fun _ _ _ h => h) (Or.inl ⟨by rfl, ?_⟩) HS.out ?_
  rotate_left
  ·intro x h; go_simp; try (with_reducible rfl)
  try simp only [Act.put,sA,List.set]
  refine anyR_take (i := 8) (oi := ⟨some 17, .call { callee := .builtin .len, args := #[.tmp 16], argTypes := #[22] }, 3, "syntax.go:67", #[⟨7, .data⟩], none⟩) (v := ?_) rfl (by kernel_rfl) (fun _ _ _ h => h) (Or.inl ⟨by rfl, ?_⟩) HS.out ?_
  rotate_left
  ·intro x h; go_simp; try (with_reducible rfl)
  try simp only [Act.put,sA,List.set]
  refine anyR_take (i := 9) (oi := ⟨some 18, .binOp .eql 3 (.tmp 12) (.tmp 17) 3, 4, "syntax.go:67", #[⟨3, .data⟩, ⟨8, .data⟩], none⟩) (v := ?_) rfl (by kernel_rfl) (fun _ _ _ h => h) (Or.inl ⟨by rfl, ?_⟩) HS.out ?_
  rotate_left
  ·intro x h; go_simp; try (with_reducible rfl)
  try simp only [Act.put,sA,List.set]
  refine anyR_done (by kernel_rfl) ?_ _
  have HBW1 := zh HBD.out
  replace q0 := pw_cell_below HBW1.out q0
  replace q1 := pw_cell_below HBW1.out q1
  replace c0 := pw_cell_below HBW1.out c0
  replace c1 := pw_cell_below HBW1.out c1
  replace c2 := pw_cell_below HBW1.out c2
  replace c3 := pw_cell_below HBW1.out c3
  replace c4 := pw_cell_below HBW1.out c4
  replace c5 := pw_cell_below HBW1.out c5
  clear HS HSA HWd HBD
  go_upto_region 3 with (fail)
  obtain ⟨Wd2, hWd⟩ : ∃ V, Wd1.drew = V := ⟨_, rfl⟩
  have hbd : Below Wd1.heap.size Wd1 Wd2 := by rw [← hWd]; exact (Below.refl _ Wd1).drew
  have hSall : ∀ V, Below Wd1.heap.size Wd1 V → V.cell? ⟨p, 0, none⟩ = some (.slice (some ad) l.length c) ∧ V.cell? ⟨p, 1, none⟩ = some (.int .i64 i) ∧ V.cell? (ad.add (i * 6)) = some (.int .u8 t.f0) ∧ V.cell? ⟨(ad.add (i * 6)).block, (ad.add (i * 6)).off + 1, none⟩ = some (.string t.f1) ∧ V.cell? ⟨(ad.add (i * 6)).block, (ad.add (i * 6)).off + 2, none⟩ = some (.int .i64 t.f2.f0) ∧ V.cell? ⟨(ad.add (i * 6)).block, (ad.add (i * 6)).off + 3, none⟩ = some (.int .i64 t.f2.f1) ∧ V.cell? ⟨(ad.add (i * 6)).block, (ad.add (i * 6)).off + 4, none⟩ = some (.int .i64 t.f2.f2) ∧ V.cell? ⟨(ad.add (i * 6)).block, (ad.add (i * 6)).off + 5, none⟩ = some (.int .i64 t.f3) := fun V hV => ⟨pw_cell_below hV q0, pw_cell_below hV q1, pw_cell_below hV c0, pw_cell_below hV c1, pw_cell_below hV c2, pw_cell_below hV c3, pw_cell_below hV c4, pw_cell_below hV c5⟩
  have HSA := zh hSall
  have HS := zh (hSall Wd2 hbd)
  have HBD := zh hbd
  have HWd := zh hWd
  clear hSall hbd hWd
  refine wp_region_R (fun w' => w'.cell? ⟨p, 0, none⟩ = some (.slice (some ad) l.length c) ∧ w'.cell? ⟨p, 1, none⟩ = some (.int .i64 i) ∧ w'.cell? (ad.add (i * 6)) = some (.int .u8 t.f0) ∧ w'.cell? ⟨(ad.add (i * 6)).block, (ad.add (i * 6)).off + 1, none⟩ = some (.string t.f1) ∧ w'.cell? ⟨(ad.add (i * 6)).block, (ad.add (i * 6)).off + 2, none⟩ = some (.int .i64 t.f2.f0) ∧ w'.cell? ⟨(ad.add (i * 6)).block, (ad.add (i * 6)).off + 3, none⟩ = some (.int .i64 t.f2.f1) ∧ w'.cell? ⟨(ad.add (i * 6)).block, (ad.add (i * 6)).off + 4, none⟩ = some (.int .i64 t.f2.f2) ∧ w'.cell? ⟨(ad.add (i * 6)).block, (ad.add (i * 6)).off + 5, none⟩ = some (.int .i64 t.f3)) (fun j => !(Nat.beq j 11)) (by kernel_rfl) ?_
  rw [HWd.out]
  refine anyR_take (i := 0) (oi := ⟨some 19, .move (.tmp 0), 54, "syntax.go:70", #[], none⟩) (v := ?_) rfl (by kernel_rfl) (fun _ _ _ h => h) (Or.inl ⟨by rfl, ?_⟩) HS.out ?_
  rotate_left
  ·intro x h; go_simp; try (with_reducible rfl)
  try simp only [Act.put,sA,List.set]
  refine anyR_take (i := 1) (oi := ⟨some 20, .nilCheck (.tmp 19), 0, "syntax.go:70", #[⟨0, .data⟩], none⟩) (v := ?_) rfl (by kernel_rfl) (fun _ _ _ h => h) (Or.inl ⟨by rfl, ?_⟩) HS.out ?_
  rotate_left
  ·intro x h; go_simp; try (with_reducible rfl)
  try simp only [Act.put,sA,List.set]
  refine anyR_take (i := 2) (oi := ⟨some 21, .fieldAddr 56 (.tmp 20) 0, 0, "syntax.go:70", #[⟨1, .data⟩], none⟩) (v := ?_) rfl (by kernel_rfl) (fun _ _ _ h => h) (Or.inl ⟨by rfl, ?_⟩) HS.out ?_
  rotate_left
  ·intro x h; go_simp; try (with_reducible rfl)
  try simp only [Act.put,sA,List.set]
  refine anyR_take (i := 3) (oi := ⟨some 22, .load 22 (.tmp 21), 22, "syntax.go:70", #[⟨2, .data⟩], none⟩) (v := ?_) rfl (by kernel_rfl) (fun _ _ _ h => h) (Or.inl ⟨by rfl, ?_⟩) HS.out ?_
  rotate_left
  ·intro x h; go_simp; try (with_reducible rfl)
  try simp only [Act.put,sA,List.set]
  refine anyR_take (i := 4) (oi := ⟨some 23, .move (.tmp 0), 54, "syntax.go:70", #[], none⟩) (v := ?_) rfl (by kernel_rfl) (fun _ _ _ h => h) (Or.inl ⟨by rfl, ?_⟩) HS.out ?_
  rotate_left
  ·intro x h; go_simp; try (with_reducible rfl)
  try simp only [Act.put,sA,List.set]
  refine anyR_take (i := 5) (oi := ⟨some 24, .nilCheck (.tmp 23), 0, "syntax.go:70", #[⟨4, .data⟩], none⟩) (v := ?_) rfl (by kernel_rfl) (fun _ _ _ h => h) (Or.inl ⟨by rfl, ?_⟩) HS.out ?_
  rotate_left
  ·intro x h; go_simp; try (with_reducible rfl)
  try simp only [Act.put,sA,List.set]
  refine anyR_take (i := 6) (oi := ⟨some 25, .fieldAddr 56 (.tmp 24) 1, 0, "syntax.go:70", #[⟨5, .data⟩], none⟩) (v := ?_) rfl (by kernel_rfl) (fun _ _ _ h => h) (Or.inl ⟨by rfl, ?_⟩) HS.out ?_
  rotate_left
  ·intro x h; go_simp; try (with_reducible rfl)
  try simp only [Act.put,sA,List.set]
  refine anyR_take (i := 7) (oi := ⟨some 26, .load 3 (.tmp 25), 3, "syntax.go:70", #[⟨6, .data⟩], none⟩) (v := ?_) rfl (by kernel_rfl) (fun _ _ _ h => h) (Or.inl ⟨by rfl, ?_⟩) HS.out ?_
  rotate_left
  ·intro x h; go_simp; try (with_reducible rfl)
  try simp only [Act.put,sA,List.set]
  refine anyR_take (i := 8) (oi := ⟨some 27, .indexAddr 22 (.tmp 22) (.tmp 26), 0, "syntax.go:70", #[⟨3, .data⟩, ⟨7, .data⟩], none⟩) (v := ?_) rfl (by kernel_rfl) (fun _ _ _ h => h) (Or.inl ⟨by rfl, ?_⟩) HS.out ?_
  rotate_left
  ·intro x h; go_simp; try (with_reducible rfl)
  try simp only [Act.put,sA,List.set]
  refine anyR_take (i := 9) (oi := ⟨some 28, .load 28 (.tmp 27), 28, "syntax.go:70", #[⟨8, .data⟩], none⟩) (v := ?_) rfl (by kernel_rfl) (fun _ _ _ h => h) (Or.inl ⟨by rfl, ?_⟩) HS.out ?_
  rotate_left
  ·intro x h; go_simp; try (with_reducible rfl)
  try simp only [Act.put,sA,List.set]
  refine anyR_ready (rs := [10]) (by kernel_rfl) (by simp) ?_
  refine ReadyR.cons (o := ⟨some 5, .alloc 28, 0, "syntax.go:70", #[], none⟩) rfl (fun K hK => ?_) ReadyR.nil
  go_simp
  refine hK.out _ _ (fun _ => HSA.out _ (HBD.out.alloc HBD.out.size _)) ?_
  clear hK K
  obtain ⟨⟨cur, hcur, hfit⟩, hbx⟩ := box_new HBD.out 28 [Value.int .u8 0, .string ⟨#[]⟩, .int .i64 0, .int .i64 0, .int .i64 0, .int .i64 0] [.int .u8 t.f0, .string t.f1, .int .i64 t.f2.f0, .int .i64 t.f2.f1, .int .i64 t.f2.f2, .int .i64 t.f3] rfl
  have HCU := zh (And.intro hcur hfit)
  have HBX := zh hbx
  clear hcur hfit hbx
  try simp only [Act.put,sA,List.set]
  refine anyR_ready (rs := [11]) (by kernel_rfl) (by simp) ?_
  refine ReadyR.cons (o := ⟨none, .store 28 (.tmp 5) (.tmp 28), 0, "syntax.go:70", #[⟨10, .data⟩, ⟨9, .data⟩, ⟨0, .phase⟩, ⟨1, .phase⟩, ⟨2, .phase⟩, ⟨3, .phase⟩, ⟨4, .phase⟩, ⟨5, .phase⟩, ⟨6, .phase⟩, ⟨7, .phase⟩, ⟨8, .phase⟩, ⟨9, .phase⟩, ⟨10, .phase⟩], none⟩) rfl (fun K hK => ?_) ReadyR.nil
  refine step_store rfl rfl 28 (.tmp 5) (.tmp 28) rfl (g := Wd2.heap.size) (off := 0) (.agg #[.int .u8 t.f0, .string t.f1, .int .i64 t.f2.f0, .int .i64 t.f2.f1, .int .i64 t.f2.f2, .int .i64 t.f3]) [.int .u8 t.f0, .string t.f1, .int .i64 t.f2.f0, .int .i64 t.f2.f1, .int .i64 t.f2.f2, .int .i64 t.f3] rfl rfl rfl (by kernel_rfl) (tkCells_one2 t) HCU.out.1 HCU.out.2 ?_
  have HN := zh (HBX.out _ rfl)
  refine hK.out _ _ (fun h => by cases h) ?_
  clear hK K HBX HCU HSA HS
  generalize (Wd2.alloc (.cells [Value.int .u8 0, .string ⟨#[]⟩, .int .i64 0, .int .i64 0, .int .i64 0, .int .i64 0].toArray 28)).setCells Wd2.heap.size 0 [.int .u8 t.f0, .string t.f1, .int .i64 t.f2.f0, .int .i64 t.f2.f1, .int .i64 t.f2.f2, .int .i64 t.f3] = V3 at HN ⊢
  try simp only [Act.put,sA,List.set]
  refine anyR_done (by kernel_rfl) ?_ _
  have HBW := HBW1
  have hCV := Kd.C_below HC.out (HBW.out.trans (HN.out.1.mono HBW.out.size))
  have HCV := zh hCV
  have HBV := zh (HBW.out.trans (HN.out.1.mono HBW.out.size))
  obtain ⟨Bx, hBx⟩ : ∃ Bx, Wd2.heap.size = Bx := ⟨_, rfl⟩
  obtain ⟨b0, b1⟩ : V3.cell? ⟨Wd2.heap.size, 0, none⟩ = some (.int .u8 t.f0) ∧ V3.cell? ⟨Wd2.heap.size, 1, none⟩ = some (.string t.f1) := ⟨cR _ HN.out.2, cR _ HN.out.2⟩
  rw [hBx] at b0 b1 ⊢
  clear hBx hCV HN HBW HC q0 q1 q2 q3 c0 c1 c2 c3 c4 c5
  go_wp2
  go_loopw [31] (fun v31 wr => ∃ j : Nat, j ≤ ws.length ∧ v31 = .int .i64 j ∧ Hid (wr = V3 ∧ inL (codeOf t) (ws.take j) = false)) (fun v31 _ => ws.length - (intOf v31).toNat)
  case atStart => exact ⟨0, Nat.zero_le _, rfl, zh ⟨rfl, rfl⟩⟩
  case round =>
   obtain ⟨j, hjl, rfl, H⟩ := hrel
   have hwv := H.out.1
   subst hwv
   by_cases hlt : j < ws.length
   ·obtain ⟨k1, k2, k3, k4⟩ := wrap_one hlt HL.out
    obtain ⟨ad1, hA1, hs⟩ := Kd.at_string HCV.out (j : Int) k2 k1
    subst hA1
    have hsj : ws[j]? = some (rdOf ByteArray.empty ws j) := by
     have := List.getElem?_eq_getElem hlt
     rw [this]
     simp [rdOf, this]
    obtain ⟨s, hse⟩ : ∃ s, rdOf ByteArray.empty ws (j : Int) = s := ⟨_, rfl⟩
    rw [hse] at hs hsj
    simp only [Int.toNat_natCast] at hs
    have hgw := HWS.out s (List.mem_of_getElem? hsj)
    obtain ⟨z1, z2⟩ := word_facts hgw
    have hbt : ((s[0]'z2).toNat : Int) = bt s 0 := bt_at s 0 z2
    have hcw := code_word hgw t
    have hsp := inL_split hsj H.out.2
    have HSP := zh hsp
    obtain ⟨kd, hkd⟩ : ∃ kd : Int, (if lowW s then (2 : Int) else 6) = kd := ⟨_, rfl⟩
    rw [hkd] at hcw
    have HCW := zh hcw
    have HSJ := zh hsj
    clear hgw hcw hsp hsj hse H
    by_cases l1 : 97 ≤ bt s 0
    ·have l1b : decide (97 ≤ bt s 0) = true := decide_eq_true l1
     by_cases l2 : bt s 0 ≤ 122
     ·have l2b : decide (bt s 0 ≤ 122) = true := decide_eq_true l2
      obtain rfl : kd = 2 := by rw [← hkd]; simp [lowW, l1, l2]
      by_cases m1 : t.f0 = 2
      ·have n1 : (t.f0 == 2) = true := by rw [beq_iff_eq]; exact m1
       by_cases m2 : t.f1 = s
       ·have n2 : (t.f1.toList == s.toList) = true := by rw [m2]; exact beq_self_eq_true _
        have hin : inL (codeOf t) ws = true := inL_pre (j := j + 1) (by rw [HSP.out]; exact decide_eq_true (HCW.out.1 ⟨m1, m2⟩).symm)
        have HIN := zh hin
        clear hin m1 m2
        go_wp2
        go_ret
        exact ⟨by rw [HIN.out]; rfl, HBV.out⟩
       ·have n2 : (t.f1.toList == s.toList) = false := str_ne m2
        have HNO : Hid (inL (codeOf t) (ws.take (j + 1)) = false) := zh (by rw [HSP.out]; exact decide_eq_false (fun e => m2 (HCW.out.2 e.symm).2))
        clear m1 m2
        go_wp2
        go_roundw
        case rel => exact ⟨j + 1, by omega, by go_num, zh ⟨by trivial, HNO.out⟩⟩
        case measure => simp [intOf] <;> omega
      ·have n1 : (t.f0 == 2) = false := by rw [beq_eq_false_iff_ne]; exact m1
       have HNO : Hid (inL (codeOf t) (ws.take (j + 1)) = false) := zh (by rw [HSP.out]; exact decide_eq_false (fun e => m1 (HCW.out.2 e.symm).1))
       clear m1
       go_wp2
       go_roundw
       case rel => exact ⟨j + 1, by omega, by go_num, zh ⟨by trivial, HNO.out⟩⟩
       case measure => simp [intOf] <;> omega
     ·have l2b : decide (bt s 0 ≤ 122) = false := decide_eq_false l2
      obtain rfl : kd = 6 := by rw [← hkd]; simp [lowW, l1, l2]
      by_cases m1 : t.f0 = 6
      ·have n1 : (t.f0 == 6) = true := by rw [beq_iff_eq]; exact m1
       by_cases m2 : t.f1 = s
       ·have n2 : (t.f1.toList == s.toList) = true := by rw [m2]; exact beq_self_eq_true _
        have hin : inL (codeOf t) ws = true := inL_pre (j := j + 1) (by rw [HSP.out]; exact decide_eq_true (HCW.out.1 ⟨m1, m2⟩).symm)
        have HIN := zh hin
        clear hin m1 m2
        go_wp2
        go_ret
        exact ⟨by rw [HIN.out]; rfl, HBV.out⟩
       ·have n2 : (t.f1.toList == s.toList) = false := str_ne m2
        have HNO : Hid (inL (codeOf t) (ws.take (j + 1)) = false) := zh (by rw [HSP.out]; exact decide_eq_false (fun e => m2 (HCW.out.2 e.symm).2))
        clear m1 m2
        go_wp2
        go_roundw
        case rel => exact ⟨j + 1, by omega, by go_num, zh ⟨by trivial, HNO.out⟩⟩
        case measure => simp [intOf] <;> omega
      ·have n1 : (t.f0 == 6) = false := by rw [beq_eq_false_iff_ne]; exact m1
       have HNO : Hid (inL (codeOf t) (ws.take (j + 1)) = false) := zh (by rw [HSP.out]; exact decide_eq_false (fun e => m1 (HCW.out.2 e.symm).1))
       clear m1
       go_wp2
       go_roundw
       case rel => exact ⟨j + 1, by omega, by go_num, zh ⟨by trivial, HNO.out⟩⟩
       case measure => simp [intOf] <;> omega
    ·have l1b : decide (97 ≤ bt s 0) = false := decide_eq_false l1
     obtain rfl : kd = 6 := by rw [← hkd]; simp [lowW, l1]
     by_cases m1 : t.f0 = 6
     ·have n1 : (t.f0 == 6) = true := by rw [beq_iff_eq]; exact m1
      by_cases m2 : t.f1 = s
      ·have n2 : (t.f1.toList == s.toList) = true := by rw [m2]; exact beq_self_eq_true _
       have hin : inL (codeOf t) ws = true := inL_pre (j := j + 1) (by rw [HSP.out]; exact decide_eq_true (HCW.out.1 ⟨m1, m2⟩).symm)
       have HIN := zh hin
       clear hin m1 m2
       go_wp2
       go_ret
       exact ⟨by rw [HIN.out]; rfl, HBV.out⟩
      ·have n2 : (t.f1.toList == s.toList) = false := str_ne m2
       have HNO : Hid (inL (codeOf t) (ws.take (j + 1)) = false) := zh (by rw [HSP.out]; exact decide_eq_false (fun e => m2 (HCW.out.2 e.symm).2))
       clear m1 m2
       go_wp2
       go_roundw
       case rel => exact ⟨j + 1, by omega, by go_num, zh ⟨by trivial, HNO.out⟩⟩
       case measure => simp [intOf] <;> omega
     ·have n1 : (t.f0 == 6) = false := by rw [beq_eq_false_iff_ne]; exact m1
      have HNO : Hid (inL (codeOf t) (ws.take (j + 1)) = false) := zh (by rw [HSP.out]; exact decide_eq_false (fun e => m1 (HCW.out.2 e.symm).1))
      clear m1
      go_wp2
      go_roundw
      case rel => exact ⟨j + 1, by omega, by go_num, zh ⟨by trivial, HNO.out⟩⟩
      case measure => simp [intOf] <;> omega
   ·obtain rfl : j = ws.length := by omega
    have hfin := H.out.2
    rw [List.take_length] at hfin
    have g9 : ¬ ((ws.length : Int) < (ws.length : Int)) := by omega
    have HBB := zh HBV.out
    have HFI := zh hfin
    clear H hfin
    go_wp2
    go_ret
    exact ⟨by rw [HFI.out]; rfl, HBB.out⟩
 ·obtain rfl : i = l.length := by have := H.ile; omega
  rw [cAt_end (Nat.le_refl _), inL_end hws]
  clear H hws hC hl
  go_enter Tryz.func47, Tryz.ntmps47
  go_wp2
  obtain ⟨Wd1, hWd⟩ : ∃ V, w.drew = V := ⟨_, rfl⟩
  have hbd : Below w.heap.size w Wd1 := by rw [← hWd]; exact (Below.refl _ w).drew
  have hSall : ∀ V, Below w.heap.size w V → V.cell? ⟨p, 0, none⟩ = some (.slice (A) l.length c) ∧ V.cell? ⟨p, 1, none⟩ = some (.int .i64 l.length) := fun V hV => ⟨pw_cell_below hV q0, pw_cell_below hV q1⟩
  have HSA := zh hSall
  have HS := zh (hSall Wd1 hbd)
  have HBD := zh hbd
  have HWd := zh hWd
  clear hSall hbd hWd
  refine wp_region_R (fun w' => w'.cell? ⟨p, 0, none⟩ = some (.slice (A) l.length c) ∧ w'.cell? ⟨p, 1, none⟩ = some (.int .i64 l.length)) (fun j => true) (by kernel_rfl) ?_
  rw [HWd.out]
  refine anyR_take (i := 0) (oi := ⟨some 9, .move (.tmp 0), 54, "syntax.go:67", #[], none⟩) (v := ?_) rfl (by kernel_rfl) (fun _ _ _ h => h) (Or.inl ⟨by rfl, ?_⟩) HS.out ?_
  rotate_left
  ·intro x h; go_simp; try (with_reducible rfl)
  try simp only [Act.put,sA,List.set]
  refine anyR_take (i := 1) (oi := ⟨some 10, .nilCheck (.tmp 9), 0, "syntax.go:67", #[⟨0, .data⟩], none⟩) (v := ?_) rfl (by kernel_rfl) (fun _ _ _ h => h) (Or.inl ⟨by rfl, ?_⟩) HS.out ?_
  rotate_left
  ·intro x h; go_simp; try (with_reducible rfl)
  try simp only [Act.put,sA,List.set]
  refine anyR_take (i := 2) (oi := ⟨some 11, .fieldAddr 56 (.tmp 10) 1, 0, "syntax.go:67", #[⟨1, .data⟩], none⟩) (v := ?_) rfl (by kernel_rfl) (fun _ _ _ h => h) (Or.inl ⟨by rfl, ?_⟩) HS.out ?_
  rotate_left
  ·intro x h; go_simp; try (with_reducible rfl)
  try simp only [Act.put,sA,List.set]
  refine anyR_take (i := 3) (oi := ⟨some 12, .load 3 (.tmp 11), 3, "syntax.go:67", #[⟨2, .data⟩], none⟩) (v := ?_) rfl (by kernel_rfl) (fun _ _ _ h => h) (Or.inl ⟨by rfl, ?_⟩) HS.out ?_
  rotate_left
  ·intro x h; go_simp; try (with_reducible rfl)
  try simp only [Act.put,sA,List.set]
  refine anyR_take (i := 4) (oi := ⟨some 13, .move (.tmp 0), 54, "syntax.go:67", #[], none⟩) (v := ?_) rfl (by kernel_rfl) (fun _ _ _ h => h) (Or.inl ⟨by rfl, ?_⟩) HS.out ?_
  rotate_left
  ·intro x h; go_simp; try (with_reducible rfl)
  try simp only [Act.put,sA,List.set]
  refine anyR_take (i := 5) (oi := ⟨some 14, .nilCheck (.tmp 13), 0, "syntax.go:67", #[⟨4, .data⟩], none⟩) (v := ?_) rfl (by kernel_rfl) (fun _ _ _ h => h) (Or.inl ⟨by rfl, ?_⟩) HS.out ?_
  rotate_left
  ·intro x h; go_simp; try (with_reducible rfl)
  try simp only [Act.put,sA,List.set]
  refine anyR_take (i := 6) (oi := ⟨some 15, .fieldAddr 56 (.tmp 14) 0, 0, "syntax.go:67", #[⟨5, .data⟩], none⟩) (v := ?_) rfl (by kernel_rfl) (fun _ _ _ h => h) (Or.inl ⟨by rfl, ?_⟩) HS.out ?_
  rotate_left
  ·intro x h; go_simp; try (with_reducible rfl)
  try simp only [Act.put,sA,List.set]
  refine anyR_take (i := 7) (oi := ⟨some 16, .load 22 (.tmp 15), 22, "syntax.go:67", #[⟨6, .data⟩], none⟩) (v := ?_) rfl (by kernel_rfl) (fun _ _ _ h => h) (Or.inl ⟨by rfl, ?_⟩) HS.out ?_
  rotate_left
  ·intro x h; go_simp; try (with_reducible rfl)
  try simp only [Act.put,sA,List.set]
  refine anyR_take (i := 8) (oi := ⟨some 17, .call { callee := .builtin .len, args := #[.tmp 16], argTypes := #[22] }, 3, "syntax.go:67", #[⟨7, .data⟩], none⟩) (v := ?_) rfl (by kernel_rfl) (fun _ _ _ h => h) (Or.inl ⟨by rfl, ?_⟩) HS.out ?_
  rotate_left
  ·intro x h; go_simp; try (with_reducible rfl)
  try simp only [Act.put,sA,List.set]
  refine anyR_take (i := 9) (oi := ⟨some 18, .binOp .eql 3 (.tmp 12) (.tmp 17) 3, 4, "syntax.go:67", #[⟨3, .data⟩, ⟨8, .data⟩], none⟩) (v := ?_) rfl (by kernel_rfl) (fun _ _ _ h => h) (Or.inl ⟨by rfl, ?_⟩) HS.out ?_
  rotate_left
  ·intro x h; go_simp; try (with_reducible rfl)
  try simp only [Act.put,sA,List.set]
  refine anyR_done (by kernel_rfl) ?_ _
  go_wp2
  go_ret
  exact ⟨rfl, HBD.out⟩
end Go.Proofs.YtmjbpgnjgblnmaaGreat
