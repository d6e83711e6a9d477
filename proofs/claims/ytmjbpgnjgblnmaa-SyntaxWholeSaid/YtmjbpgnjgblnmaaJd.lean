/- What the claim stands on: part Jd. -/
import Derived.Test.YtmjbpgnjgblnmaaJc
import Derived.WalkSmall
set_option linter.unusedVariables false
set_option linter.unusedSimpArgs false
namespace Go.Proofs.Ytmjbpgnjgblnmaa
open Go.RowKit Go.Proofs.YtmjbpgnjgblnmaaW.PrintWords Go.Proofs.YtmjbpgnjgblnmaaW.PrintLast Go.Proofs.YtmjbpgnjgblnmaaW.PrintMore
structure SAt (W0 : World) (A : Option Addr) (c : Nat) (l : List Tk) (w : World) (p : Nat) (i : Nat) (d : Int) (out : List Ev) (ve : Value) : Prop where
 box : w.heap[p]? = some (.cells #[.slice A l.length c, .int .i64 i, .int .i64 d, ve] 85 (0, 0))
 row : w.ownsRow p 46 8 ve out.length (out.flatMap evCells)
 below : Below W0.heap.size W0 w
 toks : Kd.C kTk W0 A l.length l
 hp : W0.heap.size ≤ p
 len : l.length ≤ 4194304
 ile : i ≤ l.length
abbrev MStep (p : Nat) (ve : Value) (w : World) (ve' : Value) (w' : World) : Prop := PStep p (.slice none 0 0) ve w (.slice none 0 0) ve' w'
section
variable {W0 : World} {A : Option Addr} {c : Nat} {l : List Tk} {w w' : World} {p : Nat} {i : Nat} {d : Int} {out : List Ev} {ve ve' : Value}
theorem SAt.cell (H : SAt W0 A c l w p i d out ve) : w.cell? ⟨p, 0, none⟩ = some (.slice A l.length c) ∧ w.cell? ⟨p, 1, none⟩ = some (.int .i64 i) ∧ w.cell? ⟨p, 2, none⟩ = some (.int .i64 d) ∧ w.cell? ⟨p, 3, none⟩ = some ve :=
 ⟨cell_of_row _ _ _ _ _ _ H.box, cell_of_row _ _ _ _ _ _ H.box, cell_of_row _ _ _ _ _ _ H.box, cell_of_row _ _ _ _ _ _ H.box⟩
theorem SAt.moved (H : SAt W0 A c l w p i d out ve) (h : Below w.heap.size w w') : SAt W0 A c l w' p i d out ve :=
 ⟨(h.block p (blk_lt H.box)).trans H.box, own_move H.row (fun q hq => h.block q (own_lt H.row q hq)), H.below.trans (h.mono H.below.size), H.toks, H.hp, H.len, H.ile⟩
theorem mkeep {T : TypeId} {g : Nat} {B : Array Value} (h : MStep p ve w ve' w') (H : SAt W0 A c l w p i d out ve) (hA : w.heap[g]? = some (.cells B T (0, 0))) (h1 : T ≠ 85) (h3 : T ≠ 46) : w'.heap[g]? = some (.cells B T (0, 0)) := by
 refine (h.block g (blk_lt hA) (fun e => ?_) (fun e => by cases e) (fun e => ?_)).trans hA
 ·rw [e, H.box] at hA; exact h1 (cells_ty hA).symm
 ·obtain ⟨cs, hc⟩ := own_typed H.row g e.symm
  rw [hA] at hc; exact h3 (cells_ty hc)
theorem mout (h : MStep p ve w ve' w') (H : SAt W0 A c l w p i d out ve) : Below W0.heap.size W0 w' := by
 refine ⟨h.os.trans H.below.os, h.tape.trans H.below.tape, h.output.trans H.below.output, Nat.le_trans H.below.size h.size, fun q hq => ?_⟩
 have := H.hp
 refine (h.block q (Nat.lt_of_lt_of_le hq H.below.size) (by omega) (fun e => by cases e) (fun e => ?_)).trans (H.below.block q hq)
 have := own_base H.row q e.symm
 omega
theorem SAt.upd (H : SAt W0 A c l w p i d out ve) (off : Nat) (v : Value) (hoff : off < 4) {i' : Nat} {d' : Int} (hc : [Value.slice A l.length c, .int .i64 i, .int .i64 d, ve].take off ++ [v] ++ [Value.slice A l.length c, .int .i64 i, .int .i64 d, ve].drop (off + 1) = [Value.slice A l.length c, .int .i64 i', .int .i64 d', ve])
  (hi : i' ≤ l.length) : SAt W0 A c l (w.setCells p off [v]) p i' d' out ve ∧ MStep p ve w ve (w.setCells p off [v]) := by
 obtain ⟨cur', k1, k2, k3⟩ := setCells_row [v] off w _ H.box (by simp; omega)
 have hfar : ∀ q, q ≠ p → (w.setCells p off [v]).heap[q]? = w.heap[q]? := fun q hq => setCells_far _ off q hq
 have hsm := setCells_same p [v] off w
 have hst : MStep p ve w ve (w.setCells p off [v]) := ⟨hsm.1, hsm.2.1, hsm.2.2.1, by rw [hsm.2.2.2]; exact Nat.le_refl _, fun q _ h0 _ _ => hfar q h0, fun g h => .inl h, fun g h => .inl h⟩
 refine ⟨⟨?_, ?_, mout hst H, H.toks, H.hp, H.len, hi⟩, hst⟩
 ·rw [k1]
  have : cur' = #[Value.slice A l.length c, .int .i64 i', .int .i64 d', ve] := by
   apply Array.toList_inj.1
   rw [k3]
   exact hc
  rw [this]
 ·refine own_move H.row (fun q hq => hfar q (fun e => ?_))
  obtain ⟨cs, hc2⟩ := own_typed H.row q hq
  rw [e, H.box] at hc2; cases hc2
theorem SAt.next {w1 : World} {g1 c1 : Nat} {e : Ev} (H : SAt W0 A c l w p i d out ve) (ho : w1.ownsRow p 46 8 (.slice (some ⟨g1, 0, none⟩) (out.length + 1) c1) (out.length + 1) (out.flatMap evCells ++ evCells e)) (hg : w.grownBy w1 ve.ownBlock) (hat : ve.ownBlock = some g1 ∨ w.heap.size < g1) :
  (∃ cur : Array Value, w1.heap[p]? = some (.cells cur 85 (0, 0)) ∧ 3 + 1 ≤ cur.size) ∧ ∀ V, V = w1.setCells p 3 [.slice (some ⟨g1, 0, none⟩) (out.length + 1) c1] →
   SAt W0 A c l V p i d (out ++ [e]) (.slice (some ⟨g1, 0, none⟩) (out.length + 1) c1) ∧ MStep p ve w (.slice (some ⟨g1, 0, none⟩) (out.length + 1) c1) V := by
 have hpe : ve.ownBlock ≠ some p := fun e => by
  obtain ⟨cs, hc⟩ := own_typed H.row p e
  rw [H.box] at hc; cases hc
 have hbp : w1.heap[p]? = _ := (hg.block p (blk_lt H.box) (fun e => hpe e.symm)).trans H.box
 refine ⟨⟨_, hbp, by simp⟩, ?_⟩
 rintro _ rfl
 obtain ⟨cur', k1, k2, k3⟩ := setCells_row [.slice (some ⟨g1, 0, none⟩) (out.length + 1) c1] 3 w1 _ hbp (by simp)
 have hfar : ∀ q, q ≠ p → (w1.setCells p 3 [.slice (some ⟨g1, 0, none⟩) (out.length + 1) c1]).heap[q]? = w1.heap[q]? := fun q hq => setCells_far _ 3 q hq
 have hsm := setCells_same p [.slice (some ⟨g1, 0, none⟩) (out.length + 1) c1] 3 w1
 have hgp : g1 ≠ p := fun e => by
  obtain ⟨cs, hc⟩ := own_typed ho g1 (by simp [Value.ownBlock])
  rw [e, hbp] at hc; cases hc
 have hst : MStep p ve w (.slice (some ⟨g1, 0, none⟩) (out.length + 1) c1) (w1.setCells p 3 [.slice (some ⟨g1, 0, none⟩) (out.length + 1) c1]) := by
  refine ⟨hsm.1.trans hg.os, hsm.2.1.trans hg.tape, hsm.2.2.1.trans hg.output, by rw [hsm.2.2.2]; exact hg.size, fun q hq h0 h1 h2 => ?_, fun g h => .inl h, fun g hg' => ?_⟩
  ·rw [hfar q h0]
   exact hg.block q hq h2
  ·have : g1 = g := by simpa [Value.ownBlock] using hg'
   subst this
   rcases hat with h | h
   ·exact .inl h
   ·exact .inr (by omega)
 refine ⟨⟨?_, ?_, mout hst H, H.toks, H.hp, H.len, H.ile⟩, hst⟩
 ·rw [k1]
  have : cur' = #[Value.slice A l.length c, .int .i64 i, .int .i64 d, .slice (some ⟨g1, 0, none⟩) (out.length + 1) c1] := by
   apply Array.toList_inj.1
   rw [k3]
   rfl
  rw [this]
 ·have h2 := own_move ho (w1 := w1.setCells p 3 [.slice (some ⟨g1, 0, none⟩) (out.length + 1) c1]) (fun q hq => hfar q (fun e => hgp ((show g1 = q by simpa [Value.ownBlock] using hq).trans e)))
  simp only [List.length_append, List.length_cons, List.length_nil, Nat.zero_add, List.flatMap_append, List.flatMap_cons, List.flatMap_nil, List.append_nil]
  exact h2
end
abbrev giveUp (e : Int) (i : Nat) : Ending := .panicked [{ v := .iface 81 (.agg #[.int .i64 e, .int .i64 i]), recovered := false }]
set_option maxRecDepth 100000 in
set_option maxHeartbeats 4000000 in
theorem fail_any {W0 : World} {A : Option Addr} {c : Nat} {l : List Tk} {w : World} {p : Nat} {i : Nat} {d : Int} {out : List Ev} {ve : Value} (H : SAt W0 A c l w p i d out ve) :
  Calls Try.prog 61 #[.pointer (some ⟨p, 0, none⟩)] w fun e w' => e = giveUp (if i = l.length then 121 else 120) i ∧ Below w.heap.size w w' := by
 obtain ⟨q0, q1, q2, q3⟩ := H.cell
 have hi := H.ile
 clear H
 go_enter Try.func61, Try.ntmps61
 by_cases h : i = l.length
 ·subst h
  go_wp2
  go_region
  go_wp2
  exact ⟨rfl, rfl, (Below.refl _ w).drew⟩
 ·have h1 : ((i : Int) == (l.length : Int)) = false := by rw [beq_eq_false_iff_ne]; omega
  have h2 : ¬ ((i : Int) = (l.length : Int)) := by omega
  rw [if_neg h]
  clear h
  go_wp2
  go_region
  go_wp2
  exact ⟨rfl, rfl, (Below.refl _ w).drew⟩
end Go.Proofs.Ytmjbpgnjgblnmaa
namespace Go.Proofs.Ytmjbpgnjgblnmaa
open Go.RowKit Go.Proofs.YtmjbpgnjgblnmaaW.PrintWords Go.Proofs.YtmjbpgnjgblnmaaW.PrintLast Go.Proofs.YtmjbpgnjgblnmaaW.PrintMore
theorem cell_lt {w : World} {a : Addr} {v : Value} (h : w.cell? a = some v) : a.block < w.heap.size := by
 rcases Nat.lt_or_ge a.block w.heap.size with h1 | h1
 ·exact h1
 ·simp [World.cell?, Array.getElem?_eq_none h1] at h
theorem drop_at {l : List Tk} {i : Nat} {t : Tk} (h : l[i]? = some t) : l.drop i = t :: l.drop (i + 1) := by
 have hi := (List.getElem?_eq_some_iff.1 h).1
 rw [List.drop_eq_getElem_cons hi]
 have := (List.getElem?_eq_some_iff.1 h).2
 rw [this]
theorem sgrown {W0 : World} {A : Option Addr} {c : Nat} {l : List Tk} {w : World} {p : Nat} {i : Nat} {d : Int} {out : List Ev} {ve : Value} {w6 : World} {ad : Addr} {t : Tk} (H : SAt W0 A c l w p i d out ve) (HA : A = some ad ∧ i < l.length) (hg : w.grownBy w6 ve.ownBlock) (hs : w.cell? ⟨p, 0, none⟩ = some (.slice (some ad) l.length c) ∧ w.cell? ⟨p, 1, none⟩ = some (.int .i64 i) ∧ w.cell? ⟨p, 3, none⟩ = some (ve) ∧ w.cell? (ad.add (i * 6)) = some (.int .u8 t.f0) ∧ w.cell? ⟨(ad.add (i * 6)).block, (ad.add (i * 6)).off + 1, none⟩ = some (.string t.f1) ∧ w.cell? ⟨(ad.add (i * 6)).block, (ad.add (i * 6)).off + 2, none⟩ = some (.int .i64 t.f2.f0) ∧ w.cell? ⟨(ad.add (i * 6)).block, (ad.add (i * 6)).off + 3, none⟩ = some (.int .i64 t.f2.f1) ∧ w.cell? ⟨(ad.add (i * 6)).block, (ad.add (i * 6)).off + 4, none⟩ = some (.int .i64 t.f2.f2) ∧ w.cell? ⟨(ad.add (i * 6)).block, (ad.add (i * 6)).off + 5, none⟩ = some (.int .i64 t.f3)) : w6.cell? ⟨p, 0, none⟩ = some (.slice (some ad) l.length c) ∧ w6.cell? ⟨p, 1, none⟩ = some (.int .i64 i) ∧ w6.cell? ⟨p, 3, none⟩ = some (ve) ∧ w6.cell? (ad.add (i * 6)) = some (.int .u8 t.f0) ∧ w6.cell? ⟨(ad.add (i * 6)).block, (ad.add (i * 6)).off + 1, none⟩ = some (.string t.f1) ∧ w6.cell? ⟨(ad.add (i * 6)).block, (ad.add (i * 6)).off + 2, none⟩ = some (.int .i64 t.f2.f0) ∧ w6.cell? ⟨(ad.add (i * 6)).block, (ad.add (i * 6)).off + 3, none⟩ = some (.int .i64 t.f2.f1) ∧ w6.cell? ⟨(ad.add (i * 6)).block, (ad.add (i * 6)).off + 4, none⟩ = some (.int .i64 t.f2.f2) ∧ w6.cell? ⟨(ad.add (i * 6)).block, (ad.add (i * 6)).off + 5, none⟩ = some (.int .i64 t.f3) := by
 have hpe : ve.ownBlock ≠ some p := fun e => by
  obtain ⟨cs, hc⟩ := own_typed H.row p e
  rw [H.box] at hc; cases hc
 have hb := hg.block p (blk_lt H.box) (fun e => hpe e.symm)
 have hlt : (ad.add (i * 6)).block < W0.heap.size := by
  obtain ⟨ad2, hA2, hcells⟩ := tok_cells H.toks i HA.2
  rw [HA.1] at hA2
  injection hA2 with hA2
  subst hA2
  obtain ⟨h0, _⟩ := hcells W0 (Below.refl _ _)
  exact cell_lt h0
 have hbt := hg.block (ad.add (i * 6)).block (Nat.lt_of_lt_of_le hlt H.below.size) (fun e => by
  have h1 := own_base H.row _ e.symm
  have h2 := H.hp
  omega)
 obtain ⟨h0, h1, h3, t0, t1, t2, t3, t4, t5⟩ := hs
 exact ⟨(World.cell?_of_block (a := ⟨p, 0, none⟩) hb).trans h0, (World.cell?_of_block (a := ⟨p, 1, none⟩) hb).trans h1, (World.cell?_of_block (a := ⟨p, 3, none⟩) hb).trans h3, (World.cell?_of_block hbt).trans t0, (World.cell?_of_block (a := ⟨(ad.add (i * 6)).block, (ad.add (i * 6)).off + 1, none⟩) hbt).trans t1, (World.cell?_of_block (a := ⟨(ad.add (i * 6)).block, (ad.add (i * 6)).off + 2, none⟩) hbt).trans t2, (World.cell?_of_block (a := ⟨(ad.add (i * 6)).block, (ad.add (i * 6)).off + 3, none⟩) hbt).trans t3, (World.cell?_of_block (a := ⟨(ad.add (i * 6)).block, (ad.add (i * 6)).off + 4, none⟩) hbt).trans t4, (World.cell?_of_block (a := ⟨(ad.add (i * 6)).block, (ad.add (i * 6)).off + 5, none⟩) hbt).trans t5⟩
theorem nAt_note {l : List Tk} {i : Nat} {t : Tk} (h : l[i]? = some t) (hn : isNote t = true) : nAt l i = t :: nAt l (i + 1) := by
 unfold nAt
 rw [drop_at h, List.takeWhile_cons, if_pos hn]
theorem nAt_else {l : List Tk} {i : Nat} {t : Tk} (h : l[i]? = some t) (hn : isNote t = false) : nAt l i = [] := by
 unfold nAt
 rw [drop_at h, List.takeWhile_cons, if_neg (by simp [hn])]
theorem nAt_end {l : List Tk} {i : Nat} (h : l.length ≤ i) : nAt l i = [] := by
 unfold nAt
 rw [List.drop_of_length_le h]
 rfl
theorem nAt_len (l : List Tk) (i : Nat) : (nAt l i).length ≤ l.length := by
 unfold nAt
 exact Nat.le_trans (List.takeWhile_sublist _).length_le (by rw [List.length_drop]; omega)
theorem rd_of {l : List Tk} {i : Nat} {t : Tk} (h : l[i]? = some t) : PSyntaxWhole.rd_T35 l i = t := by simp [PSyntaxWhole.rd_T35, List.getD_eq_getElem?_getD, h]
theorem rd_get (l : List Tk) (i : Nat) (hi : i < l.length) : l[i]? = some (PSyntaxWhole.rd_T35 l i) := by
 rw [rd_of (List.getElem?_eq_getElem hi)]
 exact List.getElem?_eq_getElem hi
theorem idx4 {i n : Nat} (h : i < n) (hn : n ≤ 4194304) : (i : Int) < (n : Int) ∧ (0 : Int) ≤ (i : Int) ∧ wrap64 ((i : Int) + 1) = (i : Int) + 1 ∧ IntKind.i64.wrap ((i : Int) + 1) = (i : Int) + 1 := by
 simp only [IntKind.wrap_i64]
 unfold wrap64
 omega
structure ComI (W0 : World) (A : Option Addr) (c : Nat) (l : List Tk) (w : World) (p : Nat) (i : Nat) (d : Int) (out : List Ev) (ve : Value) (wr : World) (j : Nat) (out' : List Ev) (ve' : Value) : Prop where
 at_ : SAt W0 A c l wr p j d out' ve'
 step : MStep p ve w ve' wr
 i_ : j + (nAt l j).length = i + (nAt l i).length
 o_ : out' ++ (nAt l j).map noteE = out ++ (nAt l i).map noteE
theorem ComI.next {W0 : World} {A : Option Addr} {c : Nat} {l : List Tk} {w : World} {p : Nat} {i : Nat} {d : Int} {out : List Ev} {ve : Value} {wr w2 : World} {j : Nat} {out' : List Ev} {ve' ve2 : Value} {t : Tk} (H : ComI W0 A c l w p i d out ve wr j out' ve') (h : l[j]? = some t) (hn : isNote t = true)
  (h2 : SAt W0 A c l w2 p (j + 1) d (out' ++ [noteE t]) ve2) (hs : MStep p ve' wr ve2 w2) : ComI W0 A c l w p i d out ve w2 (j + 1) (out' ++ [noteE t]) ve2 := by
 have h1 := H.i_
 have h3 := H.o_
 rw [nAt_note h hn] at h1 h3
 refine ⟨h2, H.step.trans hs, ?_, ?_⟩
 ·rw [← h1, List.length_cons]; omega
 ·rw [← h3, List.map_cons, List.append_assoc]; rfl
set_option maxRecDepth 100000 in
set_option maxHeartbeats 8000000 in
theorem comments_any {W0 : World} {A : Option Addr} {c : Nat} {l : List Tk} {w : World} {p : Nat} {i : Nat} {d : Int} {out : List Ev} {ve : Value} (H : SAt W0 A c l w p i d out ve) (hout : out.length ≤ 549755813888) :
  Calls Try.prog 57 #[.pointer (some ⟨p, 0, none⟩)] w fun e w' => e = .returned (.tuple #[]) ∧ ∃ ve', SAt W0 A c l w' p (i + (nAt l i).length) d (out ++ (nAt l i).map noteE) ve' ∧ MStep p ve w ve' w' := by
 have HI0 : Hid (ComI W0 A c l w p i d out ve w i out ve) := Lib.hid ⟨H, PStep.refl _ _ _ _, rfl, rfl⟩
 have HLL := Lib.hid (And.intro H.len hout)
 clear H hout
 go_enter Try.func57, Try.ntmps57
 go_wp2
 go_loopg [39] (l.length + 1) (fun kq v39 wr => Hid (∃ j out' ve', j + kq = i + l.length + 1 ∧ ComI W0 A c l w p i d out ve wr j out' ve'))
 case atStart => exact Lib.hid ⟨i, out, ve, by omega, HI0.out⟩
 case round =>
  obtain ⟨i1, out1, ve1, hk, H⟩ := hrel.out
  cases gk with
  | zero => have := H.at_.ile; omega
  | succ k1 =>
   obtain ⟨q0, q1, q2, q3⟩ := H.at_.cell
   have hlo : out1.length ≤ 824633720832 := by
    have h1 := congrArg List.length H.o_
    rw [List.length_append, List.length_append, List.length_map, List.length_map] at h1
    have h2 := HLL.out
    have h3 : (nAt l i).length ≤ l.length := nAt_len l i
    omega
   by_cases hj : i1 < l.length
   ·obtain ⟨ad, hA, htc⟩ := tok_cells H.at_.toks i1 hj
    have hg := rd_get l i1 hj
    obtain ⟨t, ht⟩ : ∃ t, PSyntaxWhole.rd_T35 l i1 = t := ⟨_, rfl⟩
    rw [ht] at htc hg
    have hAd := hA
    subst hA
    obtain ⟨c0, c1, c2, c3, c4, c5⟩ := htc wr H.at_.below
    obtain ⟨g1, g2, g3, g4⟩ := idx4 hj H.at_.len
    obtain ⟨k7, hk7⟩ : ∃ k7, (t.f0 == 7) = k7 := ⟨_, rfl⟩
    obtain ⟨k8, hk8⟩ : ∃ k8, (t.f0 == 8) = k8 := ⟨_, rfl⟩
    have hnote : isNote t = (k7 || k8) := by unfold isNote; rw [hk7, hk8]
    have HH := Lib.hid H
    have HG := Lib.hid hg
    have HK := Lib.hid hk
    have HNT := Lib.hid hnote
    have HT6 := Lib.hid hj
    have HLO := Lib.hid hlo
    clear H hrel HI0 htc ht hg hk hnote hAd hlo
    cases k7 with
    | true =>
     go_wp2
     obtain ⟨Wd1, hWd⟩ : ∃ V, wr.drew = V := ⟨_, rfl⟩
     have hbd : Below wr.heap.size wr Wd1 := by rw [← hWd]; exact (Below.refl _ wr).drew
     have hSall : ∀ V, Below wr.heap.size wr V → V.cell? ⟨p, 0, none⟩ = some (.slice (some ad) l.length c) ∧ V.cell? ⟨p, 1, none⟩ = some (.int .i64 i1) ∧ V.cell? (ad.add (i1 * 6)) = some (.int .u8 t.f0) := fun V hV => ⟨pw_cell_below hV q0, pw_cell_below hV q1, pw_cell_below hV c0⟩
     have HSA := Lib.hid hSall
     have HS := Lib.hid (hSall Wd1 hbd)
     have HBD := Lib.hid hbd
     have HWd := Lib.hid hWd
     clear hSall hbd hWd
     refine wp_region_R (fun w' => w'.cell? ⟨p, 0, none⟩ = some (.slice (some ad) l.length c) ∧ w'.cell? ⟨p, 1, none⟩ = some (.int .i64 i1) ∧ w'.cell? (ad.add (i1 * 6)) = some (.int .u8 t.f0)) (fun j => true) (by kernel_rfl) ?_
     rw [HWd.out]
     refine anyR_take (i := 0) (oi := { dst := some 2, op := .move (.tmp 0), type := 83, pos := "syntax.go:51", after := #[], guard := none }) (v := ?_) rfl (by kernel_rfl) (fun _ _ _ h => h) (Or.inl ⟨by rfl, ?_⟩) HS.out ?_
     rotate_left
     ·intro x h; (try dsimp only at h); go_simp; try (with_reducible rfl)
     try simp only [Act.put, List.setIfInBounds_toArray, List.set]
     refine anyR_take (i := 1) (oi := { dst := some 3, op := .nilCheck (.tmp 2), type := 0, pos := "syntax.go:51", after := #[{ on := 0, ground := .data }], guard := none }) (v := ?_) rfl (by kernel_rfl) (fun _ _ _ h => h) (Or.inl ⟨by rfl, ?_⟩) HS.out ?_
     rotate_left
     ·intro x h; (try dsimp only at h); go_simp; try (with_reducible rfl)
     try simp only [Act.put, List.setIfInBounds_toArray, List.set]
     refine anyR_take (i := 2) (oi := { dst := some 4, op := .fieldAddr 85 (.tmp 3) 1, type := 0, pos := "syntax.go:51", after := #[{ on := 1, ground := .data }], guard := none }) (v := ?_) rfl (by kernel_rfl) (fun _ _ _ h => h) (Or.inl ⟨by rfl, ?_⟩) HS.out ?_
     rotate_left
     ·intro x h; (try dsimp only at h); go_simp; try (with_reducible rfl)
     try simp only [Act.put, List.setIfInBounds_toArray, List.set]
     refine anyR_take (i := 3) (oi := { dst := some 5, op := .load 3 (.tmp 4), type := 3, pos := "syntax.go:51", after := #[{ on := 2, ground := .data }], guard := none }) (v := ?_) rfl (by kernel_rfl) (fun _ _ _ h => h) (Or.inl ⟨by rfl, ?_⟩) HS.out ?_
     rotate_left
     ·intro x h; (try dsimp only at h); go_simp; try (with_reducible rfl)
     try simp only [Act.put, List.setIfInBounds_toArray, List.set]
     refine anyR_take (i := 4) (oi := { dst := some 6, op := .move (.tmp 0), type := 83, pos := "syntax.go:51", after := #[], guard := none }) (v := ?_) rfl (by kernel_rfl) (fun _ _ _ h => h) (Or.inl ⟨by rfl, ?_⟩) HS.out ?_
     rotate_left
     ·intro x h; (try dsimp only at h); go_simp; try (with_reducible rfl)
     try simp only [Act.put, List.setIfInBounds_toArray, List.set]
     refine anyR_take (i := 5) (oi := { dst := some 7, op := .nilCheck (.tmp 6), type := 0, pos := "syntax.go:51", after := #[{ on := 4, ground := .data }], guard := none }) (v := ?_) rfl (by kernel_rfl) (fun _ _ _ h => h) (Or.inl ⟨by rfl, ?_⟩) HS.out ?_
     rotate_left
     ·intro x h; (try dsimp only at h); go_simp; try (with_reducible rfl)
     try simp only [Act.put, List.setIfInBounds_toArray, List.set]
     refine anyR_take (i := 6) (oi := { dst := some 8, op := .fieldAddr 85 (.tmp 7) 0, type := 0, pos := "syntax.go:51", after := #[{ on := 5, ground := .data }], guard := none }) (v := ?_) rfl (by kernel_rfl) (fun _ _ _ h => h) (Or.inl ⟨by rfl, ?_⟩) HS.out ?_
     rotate_left
     ·intro x h; (try dsimp only at h); go_simp; try (with_reducible rfl)
     try simp only [Act.put, List.setIfInBounds_toArray, List.set]
     refine anyR_take (i := 7) (oi := { dst := some 9, op := .load 22 (.tmp 8), type := 22, pos := "syntax.go:51", after := #[{ on := 6, ground := .data }], guard := none }) (v := ?_) rfl (by kernel_rfl) (fun _ _ _ h => h) (Or.inl ⟨by rfl, ?_⟩) HS.out ?_
     rotate_left
     ·intro x h; (try dsimp only at h); go_simp; try (with_reducible rfl)
     try simp only [Act.put, List.setIfInBounds_toArray, List.set]
     refine anyR_take (i := 8) (oi := { dst := some 10, op := .call { callee := .builtin .len, args := #[.tmp 9], argTypes := #[22] }, type := 3, pos := "syntax.go:51", after := #[{ on := 7, ground := .data }], guard := none }) (v := ?_) rfl (by kernel_rfl) (fun _ _ _ h => h) (Or.inl ⟨by rfl, ?_⟩) HS.out ?_
     rotate_left
     ·intro x h; (try dsimp only at h); go_simp; try (with_reducible rfl)
     try simp only [Act.put, List.setIfInBounds_toArray, List.set]
     refine anyR_take (i := 9) (oi := { dst := some 11, op := .binOp .lss 3 (.tmp 5) (.tmp 10) 3, type := 4, pos := "syntax.go:51", after := #[{ on := 3, ground := .data }, { on := 8, ground := .data }], guard := none }) (v := ?_) rfl (by kernel_rfl) (fun _ _ _ h => h) (Or.inl ⟨by rfl, ?_⟩) HS.out ?_
     rotate_left
     ·intro x h; (try dsimp only at h); go_simp; try (with_reducible rfl)
     try simp only [Act.put, List.setIfInBounds_toArray, List.set]
     refine anyR_take (i := 10) (oi := { dst := some 12, op := .move (.tmp 11), type := 4, pos := "syntax.go:51", after := #[{ on := 9, ground := .data }], guard := none }) (v := ?_) rfl (by kernel_rfl) (fun _ _ _ h => h) (Or.inl ⟨by rfl, ?_⟩) HS.out ?_
     rotate_left
     ·intro x h; (try dsimp only at h); go_simp; try (with_reducible rfl)
     try simp only [Act.put, List.setIfInBounds_toArray, List.set]
     refine anyR_take (i := 11) (oi := { dst := some 13, op := .move (.tmp 0), type := 83, pos := "syntax.go:51", after := #[{ on := 10, ground := .guard }], guard := some (10, true) }) (v := ?_) rfl (by kernel_rfl) (fun _ _ _ h => h) (Or.inl ⟨by rfl, ?_⟩) HS.out ?_
     rotate_left
     ·intro x h; (try dsimp only at h); go_simp; try (with_reducible rfl)
     try simp only [Act.put, List.setIfInBounds_toArray, List.set]
     refine anyR_take (i := 12) (oi := { dst := some 14, op := .nilCheck (.tmp 13), type := 0, pos := "syntax.go:51", after := #[{ on := 11, ground := .data }, { on := 10, ground := .guard }], guard := some (10, true) }) (v := ?_) rfl (by kernel_rfl) (fun _ _ _ h => h) (Or.inl ⟨by rfl, ?_⟩) HS.out ?_
     rotate_left
     ·intro x h; (try dsimp only at h); go_simp; try (with_reducible rfl)
     try simp only [Act.put, List.setIfInBounds_toArray, List.set]
     refine anyR_take (i := 13) (oi := { dst := some 15, op := .fieldAddr 85 (.tmp 14) 0, type := 0, pos := "syntax.go:51", after := #[{ on := 12, ground := .data }, { on := 10, ground := .guard }], guard := some (10, true) }) (v := ?_) rfl (by kernel_rfl) (fun _ _ _ h => h) (Or.inl ⟨by rfl, ?_⟩) HS.out ?_
     rotate_left
     ·intro x h; (try dsimp only at h); go_simp; try (with_reducible rfl)
     try simp only [Act.put, List.setIfInBounds_toArray, List.set]
     refine anyR_take (i := 14) (oi := { dst := some 16, op := .load 22 (.tmp 15), type := 22, pos := "syntax.go:51", after := #[{ on := 13, ground := .data }, { on := 10, ground := .guard }], guard := some (10, true) }) (v := ?_) rfl (by kernel_rfl) (fun _ _ _ h => h) (Or.inl ⟨by rfl, ?_⟩) HS.out ?_
     rotate_left
     ·intro x h; (try dsimp only at h); go_simp; try (with_reducible rfl)
     try simp only [Act.put, List.setIfInBounds_toArray, List.set]
     refine anyR_take (i := 15) (oi := { dst := some 17, op := .move (.tmp 0), type := 83, pos := "syntax.go:51", after := #[{ on := 10, ground := .guard }], guard := some (10, true) }) (v := ?_) rfl (by kernel_rfl) (fun _ _ _ h => h) (Or.inl ⟨by rfl, ?_⟩) HS.out ?_
     rotate_left
     ·intro x h; (try dsimp only at h); go_simp; try (with_reducible rfl)
     try simp only [Act.put, List.setIfInBounds_toArray, List.set]
     refine anyR_take (i := 16) (oi := { dst := some 18, op := .nilCheck (.tmp 17), type := 0, pos := "syntax.go:51", after := #[{ on := 15, ground := .data }, { on := 10, ground := .guard }], guard := some (10, true) }) (v := ?_) rfl (by kernel_rfl) (fun _ _ _ h => h) (Or.inl ⟨by rfl, ?_⟩) HS.out ?_
     rotate_left
     ·intro x h; (try dsimp only at h); go_simp; try (with_reducible rfl)
     try simp only [Act.put, List.setIfInBounds_toArray, List.set]
     refine anyR_take (i := 17) (oi := { dst := some 19, op := .fieldAddr 85 (.tmp 18) 1, type := 0, pos := "syntax.go:51", after := #[{ on := 16, ground := .data }, { on := 10, ground := .guard }], guard := some (10, true) }) (v := ?_) rfl (by kernel_rfl) (fun _ _ _ h => h) (Or.inl ⟨by rfl, ?_⟩) HS.out ?_
     rotate_left
     ·intro x h; (try dsimp only at h); go_simp; try (with_reducible rfl)
     try simp only [Act.put, List.setIfInBounds_toArray, List.set]
     refine anyR_take (i := 18) (oi := { dst := some 20, op := .load 3 (.tmp 19), type := 3, pos := "syntax.go:51", after := #[{ on := 17, ground := .data }, { on := 10, ground := .guard }], guard := some (10, true) }) (v := ?_) rfl (by kernel_rfl) (fun _ _ _ h => h) (Or.inl ⟨by rfl, ?_⟩) HS.out ?_
     rotate_left
     ·intro x h; (try dsimp only at h); go_simp; try (with_reducible rfl)
     try simp only [Act.put, List.setIfInBounds_toArray, List.set]
     refine anyR_take (i := 19) (oi := { dst := some 21, op := .indexAddr 22 (.tmp 16) (.tmp 20), type := 0, pos := "syntax.go:51", after := #[{ on := 14, ground := .data }, { on := 18, ground := .data }, { on := 10, ground := .guard }], guard := some (10, true) }) (v := ?_) rfl (by kernel_rfl) (fun _ _ _ h => h) (Or.inl ⟨by rfl, ?_⟩) HS.out ?_
     rotate_left
     ·intro x h; (try dsimp only at h); go_simp; try (with_reducible rfl)
     try simp only [Act.put, List.setIfInBounds_toArray, List.set]
     refine anyR_take (i := 20) (oi := { dst := some 22, op := .fieldAddr 35 (.tmp 21) 0, type := 0, pos := "syntax.go:51", after := #[{ on := 19, ground := .data }, { on := 10, ground := .guard }], guard := some (10, true) }) (v := ?_) rfl (by kernel_rfl) (fun _ _ _ h => h) (Or.inl ⟨by rfl, ?_⟩) HS.out ?_
     rotate_left
     ·intro x h; (try dsimp only at h); go_simp; try (with_reducible rfl)
     try simp only [Act.put, List.setIfInBounds_toArray, List.set]
     refine anyR_take (i := 21) (oi := { dst := some 23, op := .load 31 (.tmp 22), type := 31, pos := "syntax.go:51", after := #[{ on := 20, ground := .data }, { on := 10, ground := .guard }], guard := some (10, true) }) (v := ?_) rfl (by kernel_rfl) (fun _ _ _ h => h) (Or.inl ⟨by rfl, ?_⟩) HS.out ?_
     rotate_left
     ·intro x h; (try dsimp only at h); go_simp; try (with_reducible rfl)
     try simp only [Act.put, List.setIfInBounds_toArray, List.set]
     refine anyR_take (i := 22) (oi := { dst := some 24, op := .binOp .eql 31 (.tmp 23) (.const (.int .u8 7)) 31, type := 4, pos := "syntax.go:51", after := #[{ on := 21, ground := .data }, { on := 10, ground := .guard }], guard := some (10, true) }) (v := ?_) rfl (by kernel_rfl) (fun _ _ _ h => h) (Or.inl ⟨by rfl, ?_⟩) HS.out ?_
     rotate_left
     ·intro x h; (try dsimp only at h); go_simp; try (with_reducible rfl)
     try simp only [Act.put, List.setIfInBounds_toArray, List.set]
     refine anyR_take (i := 23) (oi := { dst := some 25, op := .move (.tmp 24), type := 4, pos := "syntax.go:51", after := #[{ on := 22, ground := .data }, { on := 10, ground := .chain }, { on := 10, ground := .guard }], guard := some (10, true) }) (v := ?_) rfl (by kernel_rfl) (fun _ _ _ h => h) (Or.inl ⟨by rfl, ?_⟩) HS.out ?_
     rotate_left
     ·intro x h; (try dsimp only at h); go_simp; try (with_reducible rfl)
     try simp only [Act.put, List.setIfInBounds_toArray, List.set]
     refine anyR_take (i := 24) (oi := { dst := some 26, op := .move (.tmp 0), type := 83, pos := "syntax.go:51", after := #[{ on := 23, ground := .guard }], guard := some (23, false) }) (v := _) rfl (by kernel_rfl) (fun _ _ _ h => h) (Or.inr ⟨by rfl, rfl⟩) HS.out ?_
     try simp only [Act.put, List.setIfInBounds_toArray, List.set]
     refine anyR_take (i := 25) (oi := { dst := some 27, op := .nilCheck (.tmp 26), type := 0, pos := "syntax.go:51", after := #[{ on := 24, ground := .data }, { on := 23, ground := .guard }], guard := some (23, false) }) (v := _) rfl (by kernel_rfl) (fun _ _ _ h => h) (Or.inr ⟨by rfl, rfl⟩) HS.out ?_
     try simp only [Act.put, List.setIfInBounds_toArray, List.set]
     refine anyR_take (i := 26) (oi := { dst := some 28, op := .fieldAddr 85 (.tmp 27) 0, type := 0, pos := "syntax.go:51", after := #[{ on := 25, ground := .data }, { on := 23, ground := .guard }], guard := some (23, false) }) (v := _) rfl (by kernel_rfl) (fun _ _ _ h => h) (Or.inr ⟨by rfl, rfl⟩) HS.out ?_
     try simp only [Act.put, List.setIfInBounds_toArray, List.set]
     refine anyR_take (i := 27) (oi := { dst := some 29, op := .load 22 (.tmp 28), type := 22, pos := "syntax.go:51", after := #[{ on := 26, ground := .data }, { on := 23, ground := .guard }], guard := some (23, false) }) (v := _) rfl (by kernel_rfl) (fun _ _ _ h => h) (Or.inr ⟨by rfl, rfl⟩) HS.out ?_
     try simp only [Act.put, List.setIfInBounds_toArray, List.set]
     refine anyR_take (i := 28) (oi := { dst := some 30, op := .move (.tmp 0), type := 83, pos := "syntax.go:51", after := #[{ on := 23, ground := .guard }], guard := some (23, false) }) (v := _) rfl (by kernel_rfl) (fun _ _ _ h => h) (Or.inr ⟨by rfl, rfl⟩) HS.out ?_
     try simp only [Act.put, List.setIfInBounds_toArray, List.set]
     refine anyR_take (i := 29) (oi := { dst := some 31, op := .nilCheck (.tmp 30), type := 0, pos := "syntax.go:51", after := #[{ on := 28, ground := .data }, { on := 23, ground := .guard }], guard := some (23, false) }) (v := _) rfl (by kernel_rfl) (fun _ _ _ h => h) (Or.inr ⟨by rfl, rfl⟩) HS.out ?_
     try simp only [Act.put, List.setIfInBounds_toArray, List.set]
     refine anyR_take (i := 30) (oi := { dst := some 32, op := .fieldAddr 85 (.tmp 31) 1, type := 0, pos := "syntax.go:51", after := #[{ on := 29, ground := .data }, { on := 23, ground := .guard }], guard := some (23, false) }) (v := _) rfl (by kernel_rfl) (fun _ _ _ h => h) (Or.inr ⟨by rfl, rfl⟩) HS.out ?_
     try simp only [Act.put, List.setIfInBounds_toArray, List.set]
     refine anyR_take (i := 31) (oi := { dst := some 33, op := .load 3 (.tmp 32), type := 3, pos := "syntax.go:51", after := #[{ on := 30, ground := .data }, { on := 23, ground := .guard }], guard := some (23, false) }) (v := _) rfl (by kernel_rfl) (fun _ _ _ h => h) (Or.inr ⟨by rfl, rfl⟩) HS.out ?_
     try simp only [Act.put, List.setIfInBounds_toArray, List.set]
     refine anyR_take (i := 32) (oi := { dst := some 34, op := .indexAddr 22 (.tmp 29) (.tmp 33), type := 0, pos := "syntax.go:51", after := #[{ on := 27, ground := .data }, { on := 31, ground := .data }, { on := 23, ground := .guard }], guard := some (23, false) }) (v := _) rfl (by kernel_rfl) (fun _ _ _ h => h) (Or.inr ⟨by rfl, rfl⟩) HS.out ?_
     try simp only [Act.put, List.setIfInBounds_toArray, List.set]
     refine anyR_take (i := 33) (oi := { dst := some 35, op := .fieldAddr 35 (.tmp 34) 0, type := 0, pos := "syntax.go:51", after := #[{ on := 32, ground := .data }, { on := 23, ground := .guard }], guard := some (23, false) }) (v := _) rfl (by kernel_rfl) (fun _ _ _ h => h) (Or.inr ⟨by rfl, rfl⟩) HS.out ?_
     try simp only [Act.put, List.setIfInBounds_toArray, List.set]
     refine anyR_take (i := 34) (oi := { dst := some 36, op := .load 31 (.tmp 35), type := 31, pos := "syntax.go:51", after := #[{ on := 33, ground := .data }, { on := 23, ground := .guard }], guard := some (23, false) }) (v := _) rfl (by kernel_rfl) (fun _ _ _ h => h) (Or.inr ⟨by rfl, rfl⟩) HS.out ?_
     try simp only [Act.put, List.setIfInBounds_toArray, List.set]
     refine anyR_take (i := 35) (oi := { dst := some 37, op := .binOp .eql 31 (.tmp 36) (.const (.int .u8 8)) 31, type := 4, pos := "syntax.go:51", after := #[{ on := 34, ground := .data }, { on := 23, ground := .guard }], guard := some (23, false) }) (v := _) rfl (by kernel_rfl) (fun _ _ _ h => h) (Or.inr ⟨by rfl, rfl⟩) HS.out ?_
     try simp only [Act.put, List.setIfInBounds_toArray, List.set]
     refine anyR_take (i := 36) (oi := { dst := some 38, op := .pick (.tmp 25) (.const (.bool true)) (.tmp 37), type := 4, pos := "syntax.go:51", after := #[{ on := 23, ground := .data }, { on := 35, ground := .data }, { on := 10, ground := .guard }], guard := some (10, true) }) (v := ?_) rfl (by kernel_rfl) (fun _ _ _ h => h) (Or.inl ⟨by rfl, ?_⟩) HS.out ?_
     rotate_left
     ·intro x h; (try dsimp only at h); go_simp; try (with_reducible rfl)
     try simp only [Act.put, List.setIfInBounds_toArray, List.set]
     refine anyR_take (i := 37) (oi := { dst := some 39, op := .pick (.tmp 12) (.tmp 38) (.const (.bool false)), type := 4, pos := "syntax.go:51", after := #[{ on := 10, ground := .data }, { on := 36, ground := .data }], guard := none }) (v := ?_) rfl (by kernel_rfl) (fun _ _ _ h => h) (Or.inl ⟨by rfl, ?_⟩) HS.out ?_
     rotate_left
     ·intro x h; (try dsimp only at h); go_simp; try (with_reducible rfl)
     try simp only [Act.put, List.setIfInBounds_toArray, List.set]
     refine anyR_done (by kernel_rfl) ?_ _
     clear HS HSA HWd
     have HP5 := Lib.hid (HH.out.at_.moved HBD.out)
     have HQ5 := Lib.hid (PStep.below HBD.out : MStep p ve1 wr ve1 Wd1)
     clear q0 q1 q2 q3 c0 c1 c2 c3 c4 c5
     obtain ⟨q0, q1, q2, q3⟩ := HP5.out.cell
     obtain ⟨ad2, hA2, htc2⟩ := tok_cells HP5.out.toks i1 hj
     injection hA2 with hA2
     subst hA2
     rw [show PSyntaxWhole.rd_T35 l i1 = t from rd_of HG.out] at htc2
     obtain ⟨c0, c1, c2, c3, c4, c5⟩ := htc2 Wd1 HP5.out.below
     clear htc2 HBD
     go_upto_region 1 with (fail)
     obtain ⟨Wd2, hWd⟩ : ∃ V, Wd1.drew = V := ⟨_, rfl⟩
     have hbd : Below Wd1.heap.size Wd1 Wd2 := by rw [← hWd]; exact (Below.refl _ Wd1).drew
     have hSall : ∀ V, Below Wd1.heap.size Wd1 V → V.cell? ⟨p, 0, none⟩ = some (.slice (some ad) l.length c) ∧ V.cell? ⟨p, 1, none⟩ = some (.int .i64 i1) ∧ V.cell? ⟨p, 3, none⟩ = some (ve1) ∧ V.cell? (ad.add (i1 * 6)) = some (.int .u8 t.f0) ∧ V.cell? ⟨(ad.add (i1 * 6)).block, (ad.add (i1 * 6)).off + 1, none⟩ = some (.string t.f1) ∧ V.cell? ⟨(ad.add (i1 * 6)).block, (ad.add (i1 * 6)).off + 2, none⟩ = some (.int .i64 t.f2.f0) ∧ V.cell? ⟨(ad.add (i1 * 6)).block, (ad.add (i1 * 6)).off + 3, none⟩ = some (.int .i64 t.f2.f1) ∧ V.cell? ⟨(ad.add (i1 * 6)).block, (ad.add (i1 * 6)).off + 4, none⟩ = some (.int .i64 t.f2.f2) ∧ V.cell? ⟨(ad.add (i1 * 6)).block, (ad.add (i1 * 6)).off + 5, none⟩ = some (.int .i64 t.f3) := fun V hV => ⟨pw_cell_below hV q0, pw_cell_below hV q1, pw_cell_below hV q3, pw_cell_below hV c0, pw_cell_below hV c1, pw_cell_below hV c2, pw_cell_below hV c3, pw_cell_below hV c4, pw_cell_below hV c5⟩
     have HSA := Lib.hid hSall
     have HS := Lib.hid (hSall Wd2 hbd)
     have HBD := Lib.hid hbd
     have HWd := Lib.hid hWd
     clear hSall hbd hWd
     refine wp_region_R (fun w' => w'.cell? ⟨p, 0, none⟩ = some (.slice (some ad) l.length c) ∧ w'.cell? ⟨p, 1, none⟩ = some (.int .i64 i1) ∧ w'.cell? ⟨p, 3, none⟩ = some (ve1) ∧ w'.cell? (ad.add (i1 * 6)) = some (.int .u8 t.f0) ∧ w'.cell? ⟨(ad.add (i1 * 6)).block, (ad.add (i1 * 6)).off + 1, none⟩ = some (.string t.f1) ∧ w'.cell? ⟨(ad.add (i1 * 6)).block, (ad.add (i1 * 6)).off + 2, none⟩ = some (.int .i64 t.f2.f0) ∧ w'.cell? ⟨(ad.add (i1 * 6)).block, (ad.add (i1 * 6)).off + 3, none⟩ = some (.int .i64 t.f2.f1) ∧ w'.cell? ⟨(ad.add (i1 * 6)).block, (ad.add (i1 * 6)).off + 4, none⟩ = some (.int .i64 t.f2.f2) ∧ w'.cell? ⟨(ad.add (i1 * 6)).block, (ad.add (i1 * 6)).off + 5, none⟩ = some (.int .i64 t.f3)) (fun j => !(Nat.beq j 20)) (by kernel_rfl) ?_
     rw [HWd.out]
     refine anyR_take (i := 0) (oi := { dst := some 40, op := .move (.tmp 0), type := 83, pos := "syntax.go:52", after := #[], guard := none }) (v := ?_) rfl (by kernel_rfl) (fun _ _ _ h => h) (Or.inl ⟨by rfl, ?_⟩) HS.out ?_
     rotate_left
     ·intro x h; (try dsimp only at h); go_simp; try (with_reducible rfl)
     try simp only [Act.put, List.setIfInBounds_toArray, List.set]
     refine anyR_take (i := 1) (oi := { dst := some 41, op := .move (.tmp 0), type := 83, pos := "syntax.go:52", after := #[], guard := none }) (v := ?_) rfl (by kernel_rfl) (fun _ _ _ h => h) (Or.inl ⟨by rfl, ?_⟩) HS.out ?_
     rotate_left
     ·intro x h; (try dsimp only at h); go_simp; try (with_reducible rfl)
     try simp only [Act.put, List.setIfInBounds_toArray, List.set]
     refine anyR_take (i := 2) (oi := { dst := some 42, op := .nilCheck (.tmp 41), type := 0, pos := "syntax.go:52", after := #[{ on := 1, ground := .data }], guard := none }) (v := ?_) rfl (by kernel_rfl) (fun _ _ _ h => h) (Or.inl ⟨by rfl, ?_⟩) HS.out ?_
     rotate_left
     ·intro x h; (try dsimp only at h); go_simp; try (with_reducible rfl)
     try simp only [Act.put, List.setIfInBounds_toArray, List.set]
     refine anyR_take (i := 3) (oi := { dst := some 43, op := .fieldAddr 85 (.tmp 42) 3, type := 0, pos := "syntax.go:52", after := #[{ on := 2, ground := .data }], guard := none }) (v := ?_) rfl (by kernel_rfl) (fun _ _ _ h => h) (Or.inl ⟨by rfl, ?_⟩) HS.out ?_
     rotate_left
     ·intro x h; (try dsimp only at h); go_simp; try (with_reducible rfl)
     try simp only [Act.put, List.setIfInBounds_toArray, List.set]
     refine anyR_take (i := 4) (oi := { dst := some 44, op := .load 38 (.tmp 43), type := 38, pos := "syntax.go:52", after := #[{ on := 3, ground := .data }], guard := none }) (v := ?_) rfl (by kernel_rfl) (fun _ _ _ h => h) (Or.inl ⟨by rfl, ?_⟩) HS.out ?_
     rotate_left
     ·intro x h; (try dsimp only at h); go_simp; try (with_reducible rfl)
     try simp only [Act.put, List.setIfInBounds_toArray, List.set]
     refine anyR_take (i := 5) (oi := { dst := some 45, op := .move (.tmp 0), type := 83, pos := "syntax.go:52", after := #[], guard := none }) (v := ?_) rfl (by kernel_rfl) (fun _ _ _ h => h) (Or.inl ⟨by rfl, ?_⟩) HS.out ?_
     rotate_left
     ·intro x h; (try dsimp only at h); go_simp; try (with_reducible rfl)
     try simp only [Act.put, List.setIfInBounds_toArray, List.set]
     refine anyR_take (i := 6) (oi := { dst := some 46, op := .nilCheck (.tmp 45), type := 0, pos := "syntax.go:52", after := #[{ on := 5, ground := .data }], guard := none }) (v := ?_) rfl (by kernel_rfl) (fun _ _ _ h => h) (Or.inl ⟨by rfl, ?_⟩) HS.out ?_
     rotate_left
     ·intro x h; (try dsimp only at h); go_simp; try (with_reducible rfl)
     try simp only [Act.put, List.setIfInBounds_toArray, List.set]
     refine anyR_take (i := 7) (oi := { dst := some 47, op := .fieldAddr 85 (.tmp 46) 0, type := 0, pos := "syntax.go:52", after := #[{ on := 6, ground := .data }], guard := none }) (v := ?_) rfl (by kernel_rfl) (fun _ _ _ h => h) (Or.inl ⟨by rfl, ?_⟩) HS.out ?_
     rotate_left
     ·intro x h; (try dsimp only at h); go_simp; try (with_reducible rfl)
     try simp only [Act.put, List.setIfInBounds_toArray, List.set]
     refine anyR_take (i := 8) (oi := { dst := some 48, op := .load 22 (.tmp 47), type := 22, pos := "syntax.go:52", after := #[{ on := 7, ground := .data }], guard := none }) (v := ?_) rfl (by kernel_rfl) (fun _ _ _ h => h) (Or.inl ⟨by rfl, ?_⟩) HS.out ?_
     rotate_left
     ·intro x h; (try dsimp only at h); go_simp; try (with_reducible rfl)
     try simp only [Act.put, List.setIfInBounds_toArray, List.set]
     refine anyR_take (i := 9) (oi := { dst := some 49, op := .move (.tmp 0), type := 83, pos := "syntax.go:52", after := #[], guard := none }) (v := ?_) rfl (by kernel_rfl) (fun _ _ _ h => h) (Or.inl ⟨by rfl, ?_⟩) HS.out ?_
     rotate_left
     ·intro x h; (try dsimp only at h); go_simp; try (with_reducible rfl)
     try simp only [Act.put, List.setIfInBounds_toArray, List.set]
     refine anyR_take (i := 10) (oi := { dst := some 50, op := .nilCheck (.tmp 49), type := 0, pos := "syntax.go:52", after := #[{ on := 9, ground := .data }], guard := none }) (v := ?_) rfl (by kernel_rfl) (fun _ _ _ h => h) (Or.inl ⟨by rfl, ?_⟩) HS.out ?_
     rotate_left
     ·intro x h; (try dsimp only at h); go_simp; try (with_reducible rfl)
     try simp only [Act.put, List.setIfInBounds_toArray, List.set]
     refine anyR_take (i := 11) (oi := { dst := some 51, op := .fieldAddr 85 (.tmp 50) 1, type := 0, pos := "syntax.go:52", after := #[{ on := 10, ground := .data }], guard := none }) (v := ?_) rfl (by kernel_rfl) (fun _ _ _ h => h) (Or.inl ⟨by rfl, ?_⟩) HS.out ?_
     rotate_left
     ·intro x h; (try dsimp only at h); go_simp; try (with_reducible rfl)
     try simp only [Act.put, List.setIfInBounds_toArray, List.set]
     refine anyR_take (i := 12) (oi := { dst := some 52, op := .load 3 (.tmp 51), type := 3, pos := "syntax.go:52", after := #[{ on := 11, ground := .data }], guard := none }) (v := ?_) rfl (by kernel_rfl) (fun _ _ _ h => h) (Or.inl ⟨by rfl, ?_⟩) HS.out ?_
     rotate_left
     ·intro x h; (try dsimp only at h); go_simp; try (with_reducible rfl)
     try simp only [Act.put, List.setIfInBounds_toArray, List.set]
     refine anyR_take (i := 13) (oi := { dst := some 53, op := .indexAddr 22 (.tmp 48) (.tmp 52), type := 0, pos := "syntax.go:52", after := #[{ on := 8, ground := .data }, { on := 12, ground := .data }], guard := none }) (v := ?_) rfl (by kernel_rfl) (fun _ _ _ h => h) (Or.inl ⟨by rfl, ?_⟩) HS.out ?_
     rotate_left
     ·intro x h; (try dsimp only at h); go_simp; try (with_reducible rfl)
     try simp only [Act.put, List.setIfInBounds_toArray, List.set]
     refine anyR_take (i := 14) (oi := { dst := some 54, op := .load 35 (.tmp 53), type := 35, pos := "syntax.go:52", after := #[{ on := 13, ground := .data }], guard := none }) (v := ?_) rfl (by kernel_rfl) (fun _ _ _ h => h) (Or.inl ⟨by rfl, ?_⟩) HS.out ?_
     rotate_left
     ·intro x h; (try dsimp only at h); go_simp; try (with_reducible rfl)
     try simp only [Act.put, List.setIfInBounds_toArray, List.set]
     refine anyR_take (i := 15) (oi := { dst := some 55, op := .build 46 #[(0, .const (.int .u8 4)), (2, .tmp 54)], type := 46, pos := "syntax.go:52", after := #[{ on := 14, ground := .data }], guard := none }) (v := ?_) rfl (by kernel_rfl) (fun _ _ _ h => h) (Or.inl ⟨by rfl, ?_⟩) HS.out ?_
     rotate_left
     ·intro x h; (try dsimp only at h); go_simp; try (with_reducible rfl)
     try simp only [Act.put, List.setIfInBounds_toArray, List.set]
     have HP6 := Lib.hid (HP5.out.moved HBD.out)
     refine anyR_ready (rs := [16]) (by kernel_rfl) (by simp) ?_
     refine ReadyR.cons (o := { dst := some 56, op := .buildSlice 38 1 #[(0, .tmp 55)], type := 38, pos := "syntax.go:52", after := #[{ on := 15, ground := .data }], guard := none }) rfl (fun K hK => ?_) ReadyR.nil
     go_simp
     refine hK.out _ _ (fun _ => HSA.out _ (HBD.out.alloc HBD.out.size _)) ?_
     clear hK K
     try simp only [Act.put, List.setIfInBounds_toArray, List.set]
     refine anyR_ready (rs := [17]) (by kernel_rfl) (by simp) ?_
     refine ReadyR.cons (o := { dst := some 57, op := .call { callee := .builtin .append, args := #[.tmp 44, .tmp 56], argTypes := #[38, 38] }, type := 38, pos := "syntax.go:52", after := #[{ on := 4, ground := .data }, { on := 16, ground := .data }], guard := none }) rfl (fun K hK => ?_) ReadyR.nil
     refine step_ev (W := Wd2) rfl (.tmp 44) (.tmp 56) rfl p (u := ve1) (q := out1.length) (kc := out1.flatMap evCells) (cs := [.int .u8 4, .int .u8 0, .int .u8 t.f0, .string t.f1, .int .i64 t.f2.f0, .int .i64 t.f2.f1, .int .i64 t.f2.f2, .int .i64 t.f3]) rfl rfl HP6.out.row rfl (evCells_one (noteE t)) (Nat.le_of_lt (blk_lt HP6.out.box)) (by have := HLO.out; omega) ?_
     intro G9 C9 w6 ho hg hat
     obtain ⟨⟨cur6, hcur, hfit⟩, hnx⟩ := HP6.out.next (e := noteE t) ho hg hat
     have hS7 : w6.cell? ⟨p, 0, none⟩ = some (.slice (some ad) l.length c) ∧ w6.cell? ⟨p, 1, none⟩ = some (.int .i64 i1) ∧ w6.cell? ⟨p, 3, none⟩ = some (ve1) ∧ w6.cell? (ad.add (i1 * 6)) = some (.int .u8 t.f0) ∧ w6.cell? ⟨(ad.add (i1 * 6)).block, (ad.add (i1 * 6)).off + 1, none⟩ = some (.string t.f1) ∧ w6.cell? ⟨(ad.add (i1 * 6)).block, (ad.add (i1 * 6)).off + 2, none⟩ = some (.int .i64 t.f2.f0) ∧ w6.cell? ⟨(ad.add (i1 * 6)).block, (ad.add (i1 * 6)).off + 3, none⟩ = some (.int .i64 t.f2.f1) ∧ w6.cell? ⟨(ad.add (i1 * 6)).block, (ad.add (i1 * 6)).off + 4, none⟩ = some (.int .i64 t.f2.f2) ∧ w6.cell? ⟨(ad.add (i1 * 6)).block, (ad.add (i1 * 6)).off + 5, none⟩ = some (.int .i64 t.f3) := sgrown HP6.out ⟨rfl, HT6.out⟩ hg HS.out
     have HS7 := Lib.hid hS7
     have HCU := Lib.hid (And.intro hcur hfit)
     have HNX := Lib.hid hnx
     refine hK.out _ _ (fun _ => hS7) ?_
     clear hK K ho hg hat hS7 hcur hfit hnx
     try simp only [Act.put, List.setIfInBounds_toArray, List.set]
     refine anyR_ready (rs := [18]) (by kernel_rfl) (by simp) ?_
     refine ReadyR.cons (o := { dst := some 58, op := .nilCheck (.tmp 40), type := 0, pos := "syntax.go:52", after := #[{ on := 0, ground := .data }, { on := 0, ground := .phase }, { on := 1, ground := .phase }, { on := 2, ground := .phase }, { on := 3, ground := .phase }, { on := 4, ground := .phase }, { on := 5, ground := .phase }, { on := 6, ground := .phase }, { on := 7, ground := .phase }, { on := 8, ground := .phase }, { on := 9, ground := .phase }, { on := 10, ground := .phase }, { on := 11, ground := .phase }, { on := 12, ground := .phase }, { on := 13, ground := .phase }, { on := 14, ground := .phase }, { on := 15, ground := .phase }, { on := 16, ground := .phase }, { on := 17, ground := .phase }], guard := none }) rfl (fun K hK => ?_) ReadyR.nil
     go_simp
     refine hK.out _ _ (fun _ => HS7.out) ?_
     clear hK K
     try simp only [Act.put, List.setIfInBounds_toArray, List.set]
     refine anyR_ready (rs := [19]) (by kernel_rfl) (by simp) ?_
     refine ReadyR.cons (o := { dst := some 59, op := .fieldAddr 85 (.tmp 58) 3, type := 0, pos := "syntax.go:52", after := #[{ on := 18, ground := .data }, { on := 0, ground := .phase }, { on := 1, ground := .phase }, { on := 2, ground := .phase }, { on := 3, ground := .phase }, { on := 4, ground := .phase }, { on := 5, ground := .phase }, { on := 6, ground := .phase }, { on := 7, ground := .phase }, { on := 8, ground := .phase }, { on := 9, ground := .phase }, { on := 10, ground := .phase }, { on := 11, ground := .phase }, { on := 12, ground := .phase }, { on := 13, ground := .phase }, { on := 14, ground := .phase }, { on := 15, ground := .phase }, { on := 16, ground := .phase }, { on := 17, ground := .phase }], guard := none }) rfl (fun K hK => ?_) ReadyR.nil
     go_simp
     refine hK.out _ _ (fun _ => HS7.out) ?_
     clear hK K
     try simp only [Act.put, List.setIfInBounds_toArray, List.set]
     refine anyR_ready (rs := [20]) (by kernel_rfl) (by simp) ?_
     refine ReadyR.cons (o := { dst := none, op := .store 38 (.tmp 59) (.tmp 57), type := 0, pos := "syntax.go:52", after := #[{ on := 19, ground := .data }, { on := 17, ground := .data }, { on := 17, ground := .chain }, { on := 0, ground := .phase }, { on := 1, ground := .phase }, { on := 2, ground := .phase }, { on := 3, ground := .phase }, { on := 4, ground := .phase }, { on := 5, ground := .phase }, { on := 6, ground := .phase }, { on := 7, ground := .phase }, { on := 8, ground := .phase }, { on := 9, ground := .phase }, { on := 10, ground := .phase }, { on := 11, ground := .phase }, { on := 12, ground := .phase }, { on := 13, ground := .phase }, { on := 14, ground := .phase }, { on := 15, ground := .phase }, { on := 16, ground := .phase }, { on := 17, ground := .phase }], guard := none }) rfl (fun K hK => ?_) ReadyR.nil
     refine step_store rfl rfl 38 (.tmp 59) (.tmp 57) rfl (g := p) (off := 3) (.slice (some ⟨G9, 0, none⟩) (out1.length + 1) C9) [.slice (some ⟨G9, 0, none⟩) (out1.length + 1) C9] rfl rfl rfl (by kernel_rfl) (fun v hv => by rw [List.mem_singleton.1 hv]; rfl) HCU.out.1 HCU.out.2 ?_
     have HN7 := Lib.hid (HNX.out _ rfl)
     refine hK.out _ _ (fun h => by cases h) ?_
     clear hK K HNX HCU HS7 HS HSA
     generalize w6.setCells p 3 [.slice (some ⟨G9, 0, none⟩) (out1.length + 1) C9] = V7 at HN7 ⊢
     try simp only [Act.put, List.setIfInBounds_toArray, List.set]
     refine anyR_done (by kernel_rfl) ?_ _
     have HP7 := Lib.hid HN7.out.1
     have HQ7 := Lib.hid (HQ5.out.trans ((PStep.below HBD.out).trans HN7.out.2))
     clear q0 q1 q2 q3 c0 c1 c2 c3 c4 c5 HN7
     obtain ⟨q0, q1, q2, q3⟩ := HP7.out.cell
     go_wp2_with ((with_reducible refine gate_ (.store 3 (.tmp 66) (.tmp 64)) rfl ?_); refine wl_cells rfl rfl _ _ _ rfl (g := p) (off := 1) (.int .i64 ((i1 : Int) + 1)) [.int .i64 ((i1 : Int) + 1)] rfl rfl rfl (by kernel_rfl) (fun v hv => by rw [List.mem_singleton.1 hv]; rfl) HP7.out.box (by simp) ?_; intro V8 hV; obtain ⟨hA, hS⟩ := HP7.out.upd 1 (.int .i64 ((i1 : Int) + 1)) (by decide) (i' := i1 + 1) (d' := d) rfl hj; rw [← hV] at hA hS; have HP8 := Lib.hid hA; have HQ8 := Lib.hid (HQ7.out.trans hS); clear q0 q1 q2 q3 hV hA hS)
     go_roundg k1
     case measure => omega
     case rel => exact Lib.hid ⟨i1 + 1, _, _, by have := HK.out; omega, HH.out.next HG.out HNT.out HP8.out HQ8.out⟩
    | false =>
     cases k8 with
     | true =>
      go_wp2
      obtain ⟨Wd1, hWd⟩ : ∃ V, wr.drew = V := ⟨_, rfl⟩
      have hbd : Below wr.heap.size wr Wd1 := by rw [← hWd]; exact (Below.refl _ wr).drew
      have hSall : ∀ V, Below wr.heap.size wr V → V.cell? ⟨p, 0, none⟩ = some (.slice (some ad) l.length c) ∧ V.cell? ⟨p, 1, none⟩ = some (.int .i64 i1) ∧ V.cell? (ad.add (i1 * 6)) = some (.int .u8 t.f0) := fun V hV => ⟨pw_cell_below hV q0, pw_cell_below hV q1, pw_cell_below hV c0⟩
      have HSA := Lib.hid hSall
      have HS := Lib.hid (hSall Wd1 hbd)
      have HBD := Lib.hid hbd
      have HWd := Lib.hid hWd
      clear hSall hbd hWd
      refine wp_region_R (fun w' => w'.cell? ⟨p, 0, none⟩ = some (.slice (some ad) l.length c) ∧ w'.cell? ⟨p, 1, none⟩ = some (.int .i64 i1) ∧ w'.cell? (ad.add (i1 * 6)) = some (.int .u8 t.f0)) (fun j => true) (by kernel_rfl) ?_
      rw [HWd.out]
      refine anyR_take (i := 0) (oi := { dst := some 2, op := .move (.tmp 0), type := 83, pos := "syntax.go:51", after := #[], guard := none }) (v := ?_) rfl (by kernel_rfl) (fun _ _ _ h => h) (Or.inl ⟨by rfl, ?_⟩) HS.out ?_
      rotate_left
      ·intro x h; (try dsimp only at h); go_simp; try (with_reducible rfl)
      try simp only [Act.put, List.setIfInBounds_toArray, List.set]
      refine anyR_take (i := 1) (oi := { dst := some 3, op := .nilCheck (.tmp 2), type := 0, pos := "syntax.go:51", after := #[{ on := 0, ground := .data }], guard := none }) (v := ?_) rfl (by kernel_rfl) (fun _ _ _ h => h) (Or.inl ⟨by rfl, ?_⟩) HS.out ?_
      rotate_left
      ·intro x h; (try dsimp only at h); go_simp; try (with_reducible rfl)
      try simp only [Act.put, List.setIfInBounds_toArray, List.set]
      refine anyR_take (i := 2) (oi := { dst := some 4, op := .fieldAddr 85 (.tmp 3) 1, type := 0, pos := "syntax.go:51", after := #[{ on := 1, ground := .data }], guard := none }) (v := ?_) rfl (by kernel_rfl) (fun _ _ _ h => h) (Or.inl ⟨by rfl, ?_⟩) HS.out ?_
      rotate_left
      ·intro x h; (try dsimp only at h); go_simp; try (with_reducible rfl)
      try simp only [Act.put, List.setIfInBounds_toArray, List.set]
      refine anyR_take (i := 3) (oi := { dst := some 5, op := .load 3 (.tmp 4), type := 3, pos := "syntax.go:51", after := #[{ on := 2, ground := .data }], guard := none }) (v := ?_) rfl (by kernel_rfl) (fun _ _ _ h => h) (Or.inl ⟨by rfl, ?_⟩) HS.out ?_
      rotate_left
      ·intro x h; (try dsimp only at h); go_simp; try (with_reducible rfl)
      try simp only [Act.put, List.setIfInBounds_toArray, List.set]
      refine anyR_take (i := 4) (oi := { dst := some 6, op := .move (.tmp 0), type := 83, pos := "syntax.go:51", after := #[], guard := none }) (v := ?_) rfl (by kernel_rfl) (fun _ _ _ h => h) (Or.inl ⟨by rfl, ?_⟩) HS.out ?_
      rotate_left
      ·intro x h; (try dsimp only at h); go_simp; try (with_reducible rfl)
      try simp only [Act.put, List.setIfInBounds_toArray, List.set]
      refine anyR_take (i := 5) (oi := { dst := some 7, op := .nilCheck (.tmp 6), type := 0, pos := "syntax.go:51", after := #[{ on := 4, ground := .data }], guard := none }) (v := ?_) rfl (by kernel_rfl) (fun _ _ _ h => h) (Or.inl ⟨by rfl, ?_⟩) HS.out ?_
      rotate_left
      ·intro x h; (try dsimp only at h); go_simp; try (with_reducible rfl)
      try simp only [Act.put, List.setIfInBounds_toArray, List.set]
      refine anyR_take (i := 6) (oi := { dst := some 8, op := .fieldAddr 85 (.tmp 7) 0, type := 0, pos := "syntax.go:51", after := #[{ on := 5, ground := .data }], guard := none }) (v := ?_) rfl (by kernel_rfl) (fun _ _ _ h => h) (Or.inl ⟨by rfl, ?_⟩) HS.out ?_
      rotate_left
      ·intro x h; (try dsimp only at h); go_simp; try (with_reducible rfl)
      try simp only [Act.put, List.setIfInBounds_toArray, List.set]
      refine anyR_take (i := 7) (oi := { dst := some 9, op := .load 22 (.tmp 8), type := 22, pos := "syntax.go:51", after := #[{ on := 6, ground := .data }], guard := none }) (v := ?_) rfl (by kernel_rfl) (fun _ _ _ h => h) (Or.inl ⟨by rfl, ?_⟩) HS.out ?_
      rotate_left
      ·intro x h; (try dsimp only at h); go_simp; try (with_reducible rfl)
      try simp only [Act.put, List.setIfInBounds_toArray, List.set]
      refine anyR_take (i := 8) (oi := { dst := some 10, op := .call { callee := .builtin .len, args := #[.tmp 9], argTypes := #[22] }, type := 3, pos := "syntax.go:51", after := #[{ on := 7, ground := .data }], guard := none }) (v := ?_) rfl (by kernel_rfl) (fun _ _ _ h => h) (Or.inl ⟨by rfl, ?_⟩) HS.out ?_
      rotate_left
      ·intro x h; (try dsimp only at h); go_simp; try (with_reducible rfl)
      try simp only [Act.put, List.setIfInBounds_toArray, List.set]
      refine anyR_take (i := 9) (oi := { dst := some 11, op := .binOp .lss 3 (.tmp 5) (.tmp 10) 3, type := 4, pos := "syntax.go:51", after := #[{ on := 3, ground := .data }, { on := 8, ground := .data }], guard := none }) (v := ?_) rfl (by kernel_rfl) (fun _ _ _ h => h) (Or.inl ⟨by rfl, ?_⟩) HS.out ?_
      rotate_left
      ·intro x h; (try dsimp only at h); go_simp; try (with_reducible rfl)
      try simp only [Act.put, List.setIfInBounds_toArray, List.set]
      refine anyR_take (i := 10) (oi := { dst := some 12, op := .move (.tmp 11), type := 4, pos := "syntax.go:51", after := #[{ on := 9, ground := .data }], guard := none }) (v := ?_) rfl (by kernel_rfl) (fun _ _ _ h => h) (Or.inl ⟨by rfl, ?_⟩) HS.out ?_
      rotate_left
      ·intro x h; (try dsimp only at h); go_simp; try (with_reducible rfl)
      try simp only [Act.put, List.setIfInBounds_toArray, List.set]
      refine anyR_take (i := 11) (oi := { dst := some 13, op := .move (.tmp 0), type := 83, pos := "syntax.go:51", after := #[{ on := 10, ground := .guard }], guard := some (10, true) }) (v := ?_) rfl (by kernel_rfl) (fun _ _ _ h => h) (Or.inl ⟨by rfl, ?_⟩) HS.out ?_
      rotate_left
      ·intro x h; (try dsimp only at h); go_simp; try (with_reducible rfl)
      try simp only [Act.put, List.setIfInBounds_toArray, List.set]
      refine anyR_take (i := 12) (oi := { dst := some 14, op := .nilCheck (.tmp 13), type := 0, pos := "syntax.go:51", after := #[{ on := 11, ground := .data }, { on := 10, ground := .guard }], guard := some (10, true) }) (v := ?_) rfl (by kernel_rfl) (fun _ _ _ h => h) (Or.inl ⟨by rfl, ?_⟩) HS.out ?_
      rotate_left
      ·intro x h; (try dsimp only at h); go_simp; try (with_reducible rfl)
      try simp only [Act.put, List.setIfInBounds_toArray, List.set]
      refine anyR_take (i := 13) (oi := { dst := some 15, op := .fieldAddr 85 (.tmp 14) 0, type := 0, pos := "syntax.go:51", after := #[{ on := 12, ground := .data }, { on := 10, ground := .guard }], guard := some (10, true) }) (v := ?_) rfl (by kernel_rfl) (fun _ _ _ h => h) (Or.inl ⟨by rfl, ?_⟩) HS.out ?_
      rotate_left
      ·intro x h; (try dsimp only at h); go_simp; try (with_reducible rfl)
      try simp only [Act.put, List.setIfInBounds_toArray, List.set]
      refine anyR_take (i := 14) (oi := { dst := some 16, op := .load 22 (.tmp 15), type := 22, pos := "syntax.go:51", after := #[{ on := 13, ground := .data }, { on := 10, ground := .guard }], guard := some (10, true) }) (v := ?_) rfl (by kernel_rfl) (fun _ _ _ h => h) (Or.inl ⟨by rfl, ?_⟩) HS.out ?_
      rotate_left
      ·intro x h; (try dsimp only at h); go_simp; try (with_reducible rfl)
      try simp only [Act.put, List.setIfInBounds_toArray, List.set]
      refine anyR_take (i := 15) (oi := { dst := some 17, op := .move (.tmp 0), type := 83, pos := "syntax.go:51", after := #[{ on := 10, ground := .guard }], guard := some (10, true) }) (v := ?_) rfl (by kernel_rfl) (fun _ _ _ h => h) (Or.inl ⟨by rfl, ?_⟩) HS.out ?_
      rotate_left
      ·intro x h; (try dsimp only at h); go_simp; try (with_reducible rfl)
      try simp only [Act.put, List.setIfInBounds_toArray, List.set]
      refine anyR_take (i := 16) (oi := { dst := some 18, op := .nilCheck (.tmp 17), type := 0, pos := "syntax.go:51", after := #[{ on := 15, ground := .data }, { on := 10, ground := .guard }], guard := some (10, true) }) (v := ?_) rfl (by kernel_rfl) (fun _ _ _ h => h) (Or.inl ⟨by rfl, ?_⟩) HS.out ?_
      rotate_left
      ·intro x h; (try dsimp only at h); go_simp; try (with_reducible rfl)
      try simp only [Act.put, List.setIfInBounds_toArray, List.set]
      refine anyR_take (i := 17) (oi := { dst := some 19, op := .fieldAddr 85 (.tmp 18) 1, type := 0, pos := "syntax.go:51", after := #[{ on := 16, ground := .data }, { on := 10, ground := .guard }], guard := some (10, true) }) (v := ?_) rfl (by kernel_rfl) (fun _ _ _ h => h) (Or.inl ⟨by rfl, ?_⟩) HS.out ?_
      rotate_left
      ·intro x h; (try dsimp only at h); go_simp; try (with_reducible rfl)
      try simp only [Act.put, List.setIfInBounds_toArray, List.set]
      refine anyR_take (i := 18) (oi := { dst := some 20, op := .load 3 (.tmp 19), type := 3, pos := "syntax.go:51", after := #[{ on := 17, ground := .data }, { on := 10, ground := .guard }], guard := some (10, true) }) (v := ?_) rfl (by kernel_rfl) (fun _ _ _ h => h) (Or.inl ⟨by rfl, ?_⟩) HS.out ?_
      rotate_left
      ·intro x h; (try dsimp only at h); go_simp; try (with_reducible rfl)
      try simp only [Act.put, List.setIfInBounds_toArray, List.set]
      refine anyR_take (i := 19) (oi := { dst := some 21, op := .indexAddr 22 (.tmp 16) (.tmp 20), type := 0, pos := "syntax.go:51", after := #[{ on := 14, ground := .data }, { on := 18, ground := .data }, { on := 10, ground := .guard }], guard := some (10, true) }) (v := ?_) rfl (by kernel_rfl) (fun _ _ _ h => h) (Or.inl ⟨by rfl, ?_⟩) HS.out ?_
      rotate_left
      ·intro x h; (try dsimp only at h); go_simp; try (with_reducible rfl)
      try simp only [Act.put, List.setIfInBounds_toArray, List.set]
      refine anyR_take (i := 20) (oi := { dst := some 22, op := .fieldAddr 35 (.tmp 21) 0, type := 0, pos := "syntax.go:51", after := #[{ on := 19, ground := .data }, { on := 10, ground := .guard }], guard := some (10, true) }) (v := ?_) rfl (by kernel_rfl) (fun _ _ _ h => h) (Or.inl ⟨by rfl, ?_⟩) HS.out ?_
      rotate_left
      ·intro x h; (try dsimp only at h); go_simp; try (with_reducible rfl)
      try simp only [Act.put, List.setIfInBounds_toArray, List.set]
      refine anyR_take (i := 21) (oi := { dst := some 23, op := .load 31 (.tmp 22), type := 31, pos := "syntax.go:51", after := #[{ on := 20, ground := .data }, { on := 10, ground := .guard }], guard := some (10, true) }) (v := ?_) rfl (by kernel_rfl) (fun _ _ _ h => h) (Or.inl ⟨by rfl, ?_⟩) HS.out ?_
      rotate_left
      ·intro x h; (try dsimp only at h); go_simp; try (with_reducible rfl)
      try simp only [Act.put, List.setIfInBounds_toArray, List.set]
      refine anyR_take (i := 22) (oi := { dst := some 24, op := .binOp .eql 31 (.tmp 23) (.const (.int .u8 7)) 31, type := 4, pos := "syntax.go:51", after := #[{ on := 21, ground := .data }, { on := 10, ground := .guard }], guard := some (10, true) }) (v := ?_) rfl (by kernel_rfl) (fun _ _ _ h => h) (Or.inl ⟨by rfl, ?_⟩) HS.out ?_
      rotate_left
      ·intro x h; (try dsimp only at h); go_simp; try (with_reducible rfl)
      try simp only [Act.put, List.setIfInBounds_toArray, List.set]
      refine anyR_take (i := 23) (oi := { dst := some 25, op := .move (.tmp 24), type := 4, pos := "syntax.go:51", after := #[{ on := 22, ground := .data }, { on := 10, ground := .chain }, { on := 10, ground := .guard }], guard := some (10, true) }) (v := ?_) rfl (by kernel_rfl) (fun _ _ _ h => h) (Or.inl ⟨by rfl, ?_⟩) HS.out ?_
      rotate_left
      ·intro x h; (try dsimp only at h); go_simp; try (with_reducible rfl)
      try simp only [Act.put, List.setIfInBounds_toArray, List.set]
      refine anyR_take (i := 24) (oi := { dst := some 26, op := .move (.tmp 0), type := 83, pos := "syntax.go:51", after := #[{ on := 23, ground := .guard }], guard := some (23, false) }) (v := ?_) rfl (by kernel_rfl) (fun _ _ _ h => h) (Or.inl ⟨by rfl, ?_⟩) HS.out ?_
      rotate_left
      ·intro x h; (try dsimp only at h); go_simp; try (with_reducible rfl)
      try simp only [Act.put, List.setIfInBounds_toArray, List.set]
      refine anyR_take (i := 25) (oi := { dst := some 27, op := .nilCheck (.tmp 26), type := 0, pos := "syntax.go:51", after := #[{ on := 24, ground := .data }, { on := 23, ground := .guard }], guard := some (23, false) }) (v := ?_) rfl (by kernel_rfl) (fun _ _ _ h => h) (Or.inl ⟨by rfl, ?_⟩) HS.out ?_
      rotate_left
      ·intro x h; (try dsimp only at h); go_simp; try (with_reducible rfl)
      try simp only [Act.put, List.setIfInBounds_toArray, List.set]
      refine anyR_take (i := 26) (oi := { dst := some 28, op := .fieldAddr 85 (.tmp 27) 0, type := 0, pos := "syntax.go:51", after := #[{ on := 25, ground := .data }, { on := 23, ground := .guard }], guard := some (23, false) }) (v := ?_) rfl (by kernel_rfl) (fun _ _ _ h => h) (Or.inl ⟨by rfl, ?_⟩) HS.out ?_
      rotate_left
      ·intro x h; (try dsimp only at h); go_simp; try (with_reducible rfl)
      try simp only [Act.put, List.setIfInBounds_toArray, List.set]
      refine anyR_take (i := 27) (oi := { dst := some 29, op := .load 22 (.tmp 28), type := 22, pos := "syntax.go:51", after := #[{ on := 26, ground := .data }, { on := 23, ground := .guard }], guard := some (23, false) }) (v := ?_) rfl (by kernel_rfl) (fun _ _ _ h => h) (Or.inl ⟨by rfl, ?_⟩) HS.out ?_
      rotate_left
      ·intro x h; (try dsimp only at h); go_simp; try (with_reducible rfl)
      try simp only [Act.put, List.setIfInBounds_toArray, List.set]
      refine anyR_take (i := 28) (oi := { dst := some 30, op := .move (.tmp 0), type := 83, pos := "syntax.go:51", after := #[{ on := 23, ground := .guard }], guard := some (23, false) }) (v := ?_) rfl (by kernel_rfl) (fun _ _ _ h => h) (Or.inl ⟨by rfl, ?_⟩) HS.out ?_
      rotate_left
      ·intro x h; (try dsimp only at h); go_simp; try (with_reducible rfl)
      try simp only [Act.put, List.setIfInBounds_toArray, List.set]
      refine anyR_take (i := 29) (oi := { dst := some 31, op := .nilCheck (.tmp 30), type := 0, pos := "syntax.go:51", after := #[{ on := 28, ground := .data }, { on := 23, ground := .guard }], guard := some (23, false) }) (v := ?_) rfl (by kernel_rfl) (fun _ _ _ h => h) (Or.inl ⟨by rfl, ?_⟩) HS.out ?_
      rotate_left
      ·intro x h; (try dsimp only at h); go_simp; try (with_reducible rfl)
      try simp only [Act.put, List.setIfInBounds_toArray, List.set]
      refine anyR_take (i := 30) (oi := { dst := some 32, op := .fieldAddr 85 (.tmp 31) 1, type := 0, pos := "syntax.go:51", after := #[{ on := 29, ground := .data }, { on := 23, ground := .guard }], guard := some (23, false) }) (v := ?_) rfl (by kernel_rfl) (fun _ _ _ h => h) (Or.inl ⟨by rfl, ?_⟩) HS.out ?_
      rotate_left
      ·intro x h; (try dsimp only at h); go_simp; try (with_reducible rfl)
      try simp only [Act.put, List.setIfInBounds_toArray, List.set]
      refine anyR_take (i := 31) (oi := { dst := some 33, op := .load 3 (.tmp 32), type := 3, pos := "syntax.go:51", after := #[{ on := 30, ground := .data }, { on := 23, ground := .guard }], guard := some (23, false) }) (v := ?_) rfl (by kernel_rfl) (fun _ _ _ h => h) (Or.inl ⟨by rfl, ?_⟩) HS.out ?_
      rotate_left
      ·intro x h; (try dsimp only at h); go_simp; try (with_reducible rfl)
      try simp only [Act.put, List.setIfInBounds_toArray, List.set]
      refine anyR_take (i := 32) (oi := { dst := some 34, op := .indexAddr 22 (.tmp 29) (.tmp 33), type := 0, pos := "syntax.go:51", after := #[{ on := 27, ground := .data }, { on := 31, ground := .data }, { on := 23, ground := .guard }], guard := some (23, false) }) (v := ?_) rfl (by kernel_rfl) (fun _ _ _ h => h) (Or.inl ⟨by rfl, ?_⟩) HS.out ?_
      rotate_left
      ·intro x h; (try dsimp only at h); go_simp; try (with_reducible rfl)
      try simp only [Act.put, List.setIfInBounds_toArray, List.set]
      refine anyR_take (i := 33) (oi := { dst := some 35, op := .fieldAddr 35 (.tmp 34) 0, type := 0, pos := "syntax.go:51", after := #[{ on := 32, ground := .data }, { on := 23, ground := .guard }], guard := some (23, false) }) (v := ?_) rfl (by kernel_rfl) (fun _ _ _ h => h) (Or.inl ⟨by rfl, ?_⟩) HS.out ?_
      rotate_left
      ·intro x h; (try dsimp only at h); go_simp; try (with_reducible rfl)
      try simp only [Act.put, List.setIfInBounds_toArray, List.set]
      refine anyR_take (i := 34) (oi := { dst := some 36, op := .load 31 (.tmp 35), type := 31, pos := "syntax.go:51", after := #[{ on := 33, ground := .data }, { on := 23, ground := .guard }], guard := some (23, false) }) (v := ?_) rfl (by kernel_rfl) (fun _ _ _ h => h) (Or.inl ⟨by rfl, ?_⟩) HS.out ?_
      rotate_left
      ·intro x h; (try dsimp only at h); go_simp; try (with_reducible rfl)
      try simp only [Act.put, List.setIfInBounds_toArray, List.set]
      refine anyR_take (i := 35) (oi := { dst := some 37, op := .binOp .eql 31 (.tmp 36) (.const (.int .u8 8)) 31, type := 4, pos := "syntax.go:51", after := #[{ on := 34, ground := .data }, { on := 23, ground := .guard }], guard := some (23, false) }) (v := ?_) rfl (by kernel_rfl) (fun _ _ _ h => h) (Or.inl ⟨by rfl, ?_⟩) HS.out ?_
      rotate_left
      ·intro x h; (try dsimp only at h); go_simp; try (with_reducible rfl)
      try simp only [Act.put, List.setIfInBounds_toArray, List.set]
      refine anyR_take (i := 36) (oi := { dst := some 38, op := .pick (.tmp 25) (.const (.bool true)) (.tmp 37), type := 4, pos := "syntax.go:51", after := #[{ on := 23, ground := .data }, { on := 35, ground := .data }, { on := 10, ground := .guard }], guard := some (10, true) }) (v := ?_) rfl (by kernel_rfl) (fun _ _ _ h => h) (Or.inl ⟨by rfl, ?_⟩) HS.out ?_
      rotate_left
      ·intro x h; (try dsimp only at h); go_simp; try (with_reducible rfl)
      try simp only [Act.put, List.setIfInBounds_toArray, List.set]
      refine anyR_take (i := 37) (oi := { dst := some 39, op := .pick (.tmp 12) (.tmp 38) (.const (.bool false)), type := 4, pos := "syntax.go:51", after := #[{ on := 10, ground := .data }, { on := 36, ground := .data }], guard := none }) (v := ?_) rfl (by kernel_rfl) (fun _ _ _ h => h) (Or.inl ⟨by rfl, ?_⟩) HS.out ?_
      rotate_left
      ·intro x h; (try dsimp only at h); go_simp; try (with_reducible rfl)
      try simp only [Act.put, List.setIfInBounds_toArray, List.set]
      refine anyR_done (by kernel_rfl) ?_ _
      clear HS HSA HWd
      have HP5 := Lib.hid (HH.out.at_.moved HBD.out)
      have HQ5 := Lib.hid (PStep.below HBD.out : MStep p ve1 wr ve1 Wd1)
      clear q0 q1 q2 q3 c0 c1 c2 c3 c4 c5
      obtain ⟨q0, q1, q2, q3⟩ := HP5.out.cell
      obtain ⟨ad2, hA2, htc2⟩ := tok_cells HP5.out.toks i1 hj
      injection hA2 with hA2
      subst hA2
      rw [show PSyntaxWhole.rd_T35 l i1 = t from rd_of HG.out] at htc2
      obtain ⟨c0, c1, c2, c3, c4, c5⟩ := htc2 Wd1 HP5.out.below
      clear htc2 HBD
      go_upto_region 1 with (fail)
      obtain ⟨Wd2, hWd⟩ : ∃ V, Wd1.drew = V := ⟨_, rfl⟩
      have hbd : Below Wd1.heap.size Wd1 Wd2 := by rw [← hWd]; exact (Below.refl _ Wd1).drew
      have hSall : ∀ V, Below Wd1.heap.size Wd1 V → V.cell? ⟨p, 0, none⟩ = some (.slice (some ad) l.length c) ∧ V.cell? ⟨p, 1, none⟩ = some (.int .i64 i1) ∧ V.cell? ⟨p, 3, none⟩ = some (ve1) ∧ V.cell? (ad.add (i1 * 6)) = some (.int .u8 t.f0) ∧ V.cell? ⟨(ad.add (i1 * 6)).block, (ad.add (i1 * 6)).off + 1, none⟩ = some (.string t.f1) ∧ V.cell? ⟨(ad.add (i1 * 6)).block, (ad.add (i1 * 6)).off + 2, none⟩ = some (.int .i64 t.f2.f0) ∧ V.cell? ⟨(ad.add (i1 * 6)).block, (ad.add (i1 * 6)).off + 3, none⟩ = some (.int .i64 t.f2.f1) ∧ V.cell? ⟨(ad.add (i1 * 6)).block, (ad.add (i1 * 6)).off + 4, none⟩ = some (.int .i64 t.f2.f2) ∧ V.cell? ⟨(ad.add (i1 * 6)).block, (ad.add (i1 * 6)).off + 5, none⟩ = some (.int .i64 t.f3) := fun V hV => ⟨pw_cell_below hV q0, pw_cell_below hV q1, pw_cell_below hV q3, pw_cell_below hV c0, pw_cell_below hV c1, pw_cell_below hV c2, pw_cell_below hV c3, pw_cell_below hV c4, pw_cell_below hV c5⟩
      have HSA := Lib.hid hSall
      have HS := Lib.hid (hSall Wd2 hbd)
      have HBD := Lib.hid hbd
      have HWd := Lib.hid hWd
      clear hSall hbd hWd
      refine wp_region_R (fun w' => w'.cell? ⟨p, 0, none⟩ = some (.slice (some ad) l.length c) ∧ w'.cell? ⟨p, 1, none⟩ = some (.int .i64 i1) ∧ w'.cell? ⟨p, 3, none⟩ = some (ve1) ∧ w'.cell? (ad.add (i1 * 6)) = some (.int .u8 t.f0) ∧ w'.cell? ⟨(ad.add (i1 * 6)).block, (ad.add (i1 * 6)).off + 1, none⟩ = some (.string t.f1) ∧ w'.cell? ⟨(ad.add (i1 * 6)).block, (ad.add (i1 * 6)).off + 2, none⟩ = some (.int .i64 t.f2.f0) ∧ w'.cell? ⟨(ad.add (i1 * 6)).block, (ad.add (i1 * 6)).off + 3, none⟩ = some (.int .i64 t.f2.f1) ∧ w'.cell? ⟨(ad.add (i1 * 6)).block, (ad.add (i1 * 6)).off + 4, none⟩ = some (.int .i64 t.f2.f2) ∧ w'.cell? ⟨(ad.add (i1 * 6)).block, (ad.add (i1 * 6)).off + 5, none⟩ = some (.int .i64 t.f3)) (fun j => !(Nat.beq j 20)) (by kernel_rfl) ?_
      rw [HWd.out]
      refine anyR_take (i := 0) (oi := { dst := some 40, op := .move (.tmp 0), type := 83, pos := "syntax.go:52", after := #[], guard := none }) (v := ?_) rfl (by kernel_rfl) (fun _ _ _ h => h) (Or.inl ⟨by rfl, ?_⟩) HS.out ?_
      rotate_left
      ·intro x h; (try dsimp only at h); go_simp; try (with_reducible rfl)
      try simp only [Act.put, List.setIfInBounds_toArray, List.set]
      refine anyR_take (i := 1) (oi := { dst := some 41, op := .move (.tmp 0), type := 83, pos := "syntax.go:52", after := #[], guard := none }) (v := ?_) rfl (by kernel_rfl) (fun _ _ _ h => h) (Or.inl ⟨by rfl, ?_⟩) HS.out ?_
      rotate_left
      ·intro x h; (try dsimp only at h); go_simp; try (with_reducible rfl)
      try simp only [Act.put, List.setIfInBounds_toArray, List.set]
      refine anyR_take (i := 2) (oi := { dst := some 42, op := .nilCheck (.tmp 41), type := 0, pos := "syntax.go:52", after := #[{ on := 1, ground := .data }], guard := none }) (v := ?_) rfl (by kernel_rfl) (fun _ _ _ h => h) (Or.inl ⟨by rfl, ?_⟩) HS.out ?_
      rotate_left
      ·intro x h; (try dsimp only at h); go_simp; try (with_reducible rfl)
      try simp only [Act.put, List.setIfInBounds_toArray, List.set]
      refine anyR_take (i := 3) (oi := { dst := some 43, op := .fieldAddr 85 (.tmp 42) 3, type := 0, pos := "syntax.go:52", after := #[{ on := 2, ground := .data }], guard := none }) (v := ?_) rfl (by kernel_rfl) (fun _ _ _ h => h) (Or.inl ⟨by rfl, ?_⟩) HS.out ?_
      rotate_left
      ·intro x h; (try dsimp only at h); go_simp; try (with_reducible rfl)
      try simp only [Act.put, List.setIfInBounds_toArray, List.set]
      refine anyR_take (i := 4) (oi := { dst := some 44, op := .load 38 (.tmp 43), type := 38, pos := "syntax.go:52", after := #[{ on := 3, ground := .data }], guard := none }) (v := ?_) rfl (by kernel_rfl) (fun _ _ _ h => h) (Or.inl ⟨by rfl, ?_⟩) HS.out ?_
      rotate_left
      ·intro x h; (try dsimp only at h); go_simp; try (with_reducible rfl)
      try simp only [Act.put, List.setIfInBounds_toArray, List.set]
      refine anyR_take (i := 5) (oi := { dst := some 45, op := .move (.tmp 0), type := 83, pos := "syntax.go:52", after := #[], guard := none }) (v := ?_) rfl (by kernel_rfl) (fun _ _ _ h => h) (Or.inl ⟨by rfl, ?_⟩) HS.out ?_
      rotate_left
      ·intro x h; (try dsimp only at h); go_simp; try (with_reducible rfl)
      try simp only [Act.put, List.setIfInBounds_toArray, List.set]
      refine anyR_take (i := 6) (oi := { dst := some 46, op := .nilCheck (.tmp 45), type := 0, pos := "syntax.go:52", after := #[{ on := 5, ground := .data }], guard := none }) (v := ?_) rfl (by kernel_rfl) (fun _ _ _ h => h) (Or.inl ⟨by rfl, ?_⟩) HS.out ?_
      rotate_left
      ·intro x h; (try dsimp only at h); go_simp; try (with_reducible rfl)
      try simp only [Act.put, List.setIfInBounds_toArray, List.set]
      refine anyR_take (i := 7) (oi := { dst := some 47, op := .fieldAddr 85 (.tmp 46) 0, type := 0, pos := "syntax.go:52", after := #[{ on := 6, ground := .data }], guard := none }) (v := ?_) rfl (by kernel_rfl) (fun _ _ _ h => h) (Or.inl ⟨by rfl, ?_⟩) HS.out ?_
      rotate_left
      ·intro x h; (try dsimp only at h); go_simp; try (with_reducible rfl)
      try simp only [Act.put, List.setIfInBounds_toArray, List.set]
      refine anyR_take (i := 8) (oi := { dst := some 48, op := .load 22 (.tmp 47), type := 22, pos := "syntax.go:52", after := #[{ on := 7, ground := .data }], guard := none }) (v := ?_) rfl (by kernel_rfl) (fun _ _ _ h => h) (Or.inl ⟨by rfl, ?_⟩) HS.out ?_
      rotate_left
      ·intro x h; (try dsimp only at h); go_simp; try (with_reducible rfl)
      try simp only [Act.put, List.setIfInBounds_toArray, List.set]
      refine anyR_take (i := 9) (oi := { dst := some 49, op := .move (.tmp 0), type := 83, pos := "syntax.go:52", after := #[], guard := none }) (v := ?_) rfl (by kernel_rfl) (fun _ _ _ h => h) (Or.inl ⟨by rfl, ?_⟩) HS.out ?_
      rotate_left
      ·intro x h; (try dsimp only at h); go_simp; try (with_reducible rfl)
      try simp only [Act.put, List.setIfInBounds_toArray, List.set]
      refine anyR_take (i := 10) (oi := { dst := some 50, op := .nilCheck (.tmp 49), type := 0, pos := "syntax.go:52", after := #[{ on := 9, ground := .data }], guard := none }) (v := ?_) rfl (by kernel_rfl) (fun _ _ _ h => h) (Or.inl ⟨by rfl, ?_⟩) HS.out ?_
      rotate_left
      ·intro x h; (try dsimp only at h); go_simp; try (with_reducible rfl)
      try simp only [Act.put, List.setIfInBounds_toArray, List.set]
      refine anyR_take (i := 11) (oi := { dst := some 51, op := .fieldAddr 85 (.tmp 50) 1, type := 0, pos := "syntax.go:52", after := #[{ on := 10, ground := .data }], guard := none }) (v := ?_) rfl (by kernel_rfl) (fun _ _ _ h => h) (Or.inl ⟨by rfl, ?_⟩) HS.out ?_
      rotate_left
      ·intro x h; (try dsimp only at h); go_simp; try (with_reducible rfl)
      try simp only [Act.put, List.setIfInBounds_toArray, List.set]
      refine anyR_take (i := 12) (oi := { dst := some 52, op := .load 3 (.tmp 51), type := 3, pos := "syntax.go:52", after := #[{ on := 11, ground := .data }], guard := none }) (v := ?_) rfl (by kernel_rfl) (fun _ _ _ h => h) (Or.inl ⟨by rfl, ?_⟩) HS.out ?_
      rotate_left
      ·intro x h; (try dsimp only at h); go_simp; try (with_reducible rfl)
      try simp only [Act.put, List.setIfInBounds_toArray, List.set]
      refine anyR_take (i := 13) (oi := { dst := some 53, op := .indexAddr 22 (.tmp 48) (.tmp 52), type := 0, pos := "syntax.go:52", after := #[{ on := 8, ground := .data }, { on := 12, ground := .data }], guard := none }) (v := ?_) rfl (by kernel_rfl) (fun _ _ _ h => h) (Or.inl ⟨by rfl, ?_⟩) HS.out ?_
      rotate_left
      ·intro x h; (try dsimp only at h); go_simp; try (with_reducible rfl)
      try simp only [Act.put, List.setIfInBounds_toArray, List.set]
      refine anyR_take (i := 14) (oi := { dst := some 54, op := .load 35 (.tmp 53), type := 35, pos := "syntax.go:52", after := #[{ on := 13, ground := .data }], guard := none }) (v := ?_) rfl (by kernel_rfl) (fun _ _ _ h => h) (Or.inl ⟨by rfl, ?_⟩) HS.out ?_
      rotate_left
      ·intro x h; (try dsimp only at h); go_simp; try (with_reducible rfl)
      try simp only [Act.put, List.setIfInBounds_toArray, List.set]
      refine anyR_take (i := 15) (oi := { dst := some 55, op := .build 46 #[(0, .const (.int .u8 4)), (2, .tmp 54)], type := 46, pos := "syntax.go:52", after := #[{ on := 14, ground := .data }], guard := none }) (v := ?_) rfl (by kernel_rfl) (fun _ _ _ h => h) (Or.inl ⟨by rfl, ?_⟩) HS.out ?_
      rotate_left
      ·intro x h; (try dsimp only at h); go_simp; try (with_reducible rfl)
      try simp only [Act.put, List.setIfInBounds_toArray, List.set]
      have HP6 := Lib.hid (HP5.out.moved HBD.out)
      refine anyR_ready (rs := [16]) (by kernel_rfl) (by simp) ?_
      refine ReadyR.cons (o := { dst := some 56, op := .buildSlice 38 1 #[(0, .tmp 55)], type := 38, pos := "syntax.go:52", after := #[{ on := 15, ground := .data }], guard := none }) rfl (fun K hK => ?_) ReadyR.nil
      go_simp
      refine hK.out _ _ (fun _ => HSA.out _ (HBD.out.alloc HBD.out.size _)) ?_
      clear hK K
      try simp only [Act.put, List.setIfInBounds_toArray, List.set]
      refine anyR_ready (rs := [17]) (by kernel_rfl) (by simp) ?_
      refine ReadyR.cons (o := { dst := some 57, op := .call { callee := .builtin .append, args := #[.tmp 44, .tmp 56], argTypes := #[38, 38] }, type := 38, pos := "syntax.go:52", after := #[{ on := 4, ground := .data }, { on := 16, ground := .data }], guard := none }) rfl (fun K hK => ?_) ReadyR.nil
      refine step_ev (W := Wd2) rfl (.tmp 44) (.tmp 56) rfl p (u := ve1) (q := out1.length) (kc := out1.flatMap evCells) (cs := [.int .u8 4, .int .u8 0, .int .u8 t.f0, .string t.f1, .int .i64 t.f2.f0, .int .i64 t.f2.f1, .int .i64 t.f2.f2, .int .i64 t.f3]) rfl rfl HP6.out.row rfl (evCells_one (noteE t)) (Nat.le_of_lt (blk_lt HP6.out.box)) (by have := HLO.out; omega) ?_
      intro G9 C9 w6 ho hg hat
      obtain ⟨⟨cur6, hcur, hfit⟩, hnx⟩ := HP6.out.next (e := noteE t) ho hg hat
      have hS7 : w6.cell? ⟨p, 0, none⟩ = some (.slice (some ad) l.length c) ∧ w6.cell? ⟨p, 1, none⟩ = some (.int .i64 i1) ∧ w6.cell? ⟨p, 3, none⟩ = some (ve1) ∧ w6.cell? (ad.add (i1 * 6)) = some (.int .u8 t.f0) ∧ w6.cell? ⟨(ad.add (i1 * 6)).block, (ad.add (i1 * 6)).off + 1, none⟩ = some (.string t.f1) ∧ w6.cell? ⟨(ad.add (i1 * 6)).block, (ad.add (i1 * 6)).off + 2, none⟩ = some (.int .i64 t.f2.f0) ∧ w6.cell? ⟨(ad.add (i1 * 6)).block, (ad.add (i1 * 6)).off + 3, none⟩ = some (.int .i64 t.f2.f1) ∧ w6.cell? ⟨(ad.add (i1 * 6)).block, (ad.add (i1 * 6)).off + 4, none⟩ = some (.int .i64 t.f2.f2) ∧ w6.cell? ⟨(ad.add (i1 * 6)).block, (ad.add (i1 * 6)).off + 5, none⟩ = some (.int .i64 t.f3) := sgrown HP6.out ⟨rfl, HT6.out⟩ hg HS.out
      have HS7 := Lib.hid hS7
      have HCU := Lib.hid (And.intro hcur hfit)
      have HNX := Lib.hid hnx
      refine hK.out _ _ (fun _ => hS7) ?_
      clear hK K ho hg hat hS7 hcur hfit hnx
      try simp only [Act.put, List.setIfInBounds_toArray, List.set]
      refine anyR_ready (rs := [18]) (by kernel_rfl) (by simp) ?_
      refine ReadyR.cons (o := { dst := some 58, op := .nilCheck (.tmp 40), type := 0, pos := "syntax.go:52", after := #[{ on := 0, ground := .data }, { on := 0, ground := .phase }, { on := 1, ground := .phase }, { on := 2, ground := .phase }, { on := 3, ground := .phase }, { on := 4, ground := .phase }, { on := 5, ground := .phase }, { on := 6, ground := .phase }, { on := 7, ground := .phase }, { on := 8, ground := .phase }, { on := 9, ground := .phase }, { on := 10, ground := .phase }, { on := 11, ground := .phase }, { on := 12, ground := .phase }, { on := 13, ground := .phase }, { on := 14, ground := .phase }, { on := 15, ground := .phase }, { on := 16, ground := .phase }, { on := 17, ground := .phase }], guard := none }) rfl (fun K hK => ?_) ReadyR.nil
      go_simp
      refine hK.out _ _ (fun _ => HS7.out) ?_
      clear hK K
      try simp only [Act.put, List.setIfInBounds_toArray, List.set]
      refine anyR_ready (rs := [19]) (by kernel_rfl) (by simp) ?_
      refine ReadyR.cons (o := { dst := some 59, op := .fieldAddr 85 (.tmp 58) 3, type := 0, pos := "syntax.go:52", after := #[{ on := 18, ground := .data }, { on := 0, ground := .phase }, { on := 1, ground := .phase }, { on := 2, ground := .phase }, { on := 3, ground := .phase }, { on := 4, ground := .phase }, { on := 5, ground := .phase }, { on := 6, ground := .phase }, { on := 7, ground := .phase }, { on := 8, ground := .phase }, { on := 9, ground := .phase }, { on := 10, ground := .phase }, { on := 11, ground := .phase }, { on := 12, ground := .phase }, { on := 13, ground := .phase }, { on := 14, ground := .phase }, { on := 15, ground := .phase }, { on := 16, ground := .phase }, { on := 17, ground := .phase }], guard := none }) rfl (fun K hK => ?_) ReadyR.nil
      go_simp
      refine hK.out _ _ (fun _ => HS7.out) ?_
      clear hK K
      try simp only [Act.put, List.setIfInBounds_toArray, List.set]
      refine anyR_ready (rs := [20]) (by kernel_rfl) (by simp) ?_
      refine ReadyR.cons (o := { dst := none, op := .store 38 (.tmp 59) (.tmp 57), type := 0, pos := "syntax.go:52", after := #[{ on := 19, ground := .data }, { on := 17, ground := .data }, { on := 17, ground := .chain }, { on := 0, ground := .phase }, { on := 1, ground := .phase }, { on := 2, ground := .phase }, { on := 3, ground := .phase }, { on := 4, ground := .phase }, { on := 5, ground := .phase }, { on := 6, ground := .phase }, { on := 7, ground := .phase }, { on := 8, ground := .phase }, { on := 9, ground := .phase }, { on := 10, ground := .phase }, { on := 11, ground := .phase }, { on := 12, ground := .phase }, { on := 13, ground := .phase }, { on := 14, ground := .phase }, { on := 15, ground := .phase }, { on := 16, ground := .phase }, { on := 17, ground := .phase }], guard := none }) rfl (fun K hK => ?_) ReadyR.nil
      refine step_store rfl rfl 38 (.tmp 59) (.tmp 57) rfl (g := p) (off := 3) (.slice (some ⟨G9, 0, none⟩) (out1.length + 1) C9) [.slice (some ⟨G9, 0, none⟩) (out1.length + 1) C9] rfl rfl rfl (by kernel_rfl) (fun v hv => by rw [List.mem_singleton.1 hv]; rfl) HCU.out.1 HCU.out.2 ?_
      have HN7 := Lib.hid (HNX.out _ rfl)
      refine hK.out _ _ (fun h => by cases h) ?_
      clear hK K HNX HCU HS7 HS HSA
      generalize w6.setCells p 3 [.slice (some ⟨G9, 0, none⟩) (out1.length + 1) C9] = V7 at HN7 ⊢
      try simp only [Act.put, List.setIfInBounds_toArray, List.set]
      refine anyR_done (by kernel_rfl) ?_ _
      have HP7 := Lib.hid HN7.out.1
      have HQ7 := Lib.hid (HQ5.out.trans ((PStep.below HBD.out).trans HN7.out.2))
      clear q0 q1 q2 q3 c0 c1 c2 c3 c4 c5 HN7
      obtain ⟨q0, q1, q2, q3⟩ := HP7.out.cell
      go_wp2_with ((with_reducible refine gate_ (.store 3 (.tmp 66) (.tmp 64)) rfl ?_); refine wl_cells rfl rfl _ _ _ rfl (g := p) (off := 1) (.int .i64 ((i1 : Int) + 1)) [.int .i64 ((i1 : Int) + 1)] rfl rfl rfl (by kernel_rfl) (fun v hv => by rw [List.mem_singleton.1 hv]; rfl) HP7.out.box (by simp) ?_; intro V8 hV; obtain ⟨hA, hS⟩ := HP7.out.upd 1 (.int .i64 ((i1 : Int) + 1)) (by decide) (i' := i1 + 1) (d' := d) rfl hj; rw [← hV] at hA hS; have HP8 := Lib.hid hA; have HQ8 := Lib.hid (HQ7.out.trans hS); clear q0 q1 q2 q3 hV hA hS)
      go_roundg k1
      case measure => omega
      case rel => exact Lib.hid ⟨i1 + 1, _, _, by have := HK.out; omega, HH.out.next HG.out HNT.out HP8.out HQ8.out⟩
     | false =>
      have hn0 := nAt_else HG.out HNT.out
      have h1 := HH.out.i_
      have h2 := HH.out.o_
      rw [hn0] at h1 h2
      have HF := Lib.hid (And.intro h1 h2)
      clear hn0 h1 h2
      go_wp2
      obtain ⟨Wd1, hWd⟩ : ∃ V, wr.drew = V := ⟨_, rfl⟩
      have hbd : Below wr.heap.size wr Wd1 := by rw [← hWd]; exact (Below.refl _ wr).drew
      have hSall : ∀ V, Below wr.heap.size wr V → V.cell? ⟨p, 0, none⟩ = some (.slice (some ad) l.length c) ∧ V.cell? ⟨p, 1, none⟩ = some (.int .i64 i1) ∧ V.cell? (ad.add (i1 * 6)) = some (.int .u8 t.f0) := fun V hV => ⟨pw_cell_below hV q0, pw_cell_below hV q1, pw_cell_below hV c0⟩
      have HSA := Lib.hid hSall
      have HS := Lib.hid (hSall Wd1 hbd)
      have HBD := Lib.hid hbd
      have HWd := Lib.hid hWd
      clear hSall hbd hWd
      refine wp_region_R (fun w' => w'.cell? ⟨p, 0, none⟩ = some (.slice (some ad) l.length c) ∧ w'.cell? ⟨p, 1, none⟩ = some (.int .i64 i1) ∧ w'.cell? (ad.add (i1 * 6)) = some (.int .u8 t.f0)) (fun j => true) (by kernel_rfl) ?_
      rw [HWd.out]
      refine anyR_take (i := 0) (oi := { dst := some 2, op := .move (.tmp 0), type := 83, pos := "syntax.go:51", after := #[], guard := none }) (v := ?_) rfl (by kernel_rfl) (fun _ _ _ h => h) (Or.inl ⟨by rfl, ?_⟩) HS.out ?_
      rotate_left
      ·intro x h; (try dsimp only at h); go_simp; try (with_reducible rfl)
      try simp only [Act.put, List.setIfInBounds_toArray, List.set]
      refine anyR_take (i := 1) (oi := { dst := some 3, op := .nilCheck (.tmp 2), type := 0, pos := "syntax.go:51", after := #[{ on := 0, ground := .data }], guard := none }) (v := ?_) rfl (by kernel_rfl) (fun _ _ _ h => h) (Or.inl ⟨by rfl, ?_⟩) HS.out ?_
      rotate_left
      ·intro x h; (try dsimp only at h); go_simp; try (with_reducible rfl)
      try simp only [Act.put, List.setIfInBounds_toArray, List.set]
      refine anyR_take (i := 2) (oi := { dst := some 4, op := .fieldAddr 85 (.tmp 3) 1, type := 0, pos := "syntax.go:51", after := #[{ on := 1, ground := .data }], guard := none }) (v := ?_) rfl (by kernel_rfl) (fun _ _ _ h => h) (Or.inl ⟨by rfl, ?_⟩) HS.out ?_
      rotate_left
      ·intro x h; (try dsimp only at h); go_simp; try (with_reducible rfl)
      try simp only [Act.put, List.setIfInBounds_toArray, List.set]
      refine anyR_take (i := 3) (oi := { dst := some 5, op := .load 3 (.tmp 4), type := 3, pos := "syntax.go:51", after := #[{ on := 2, ground := .data }], guard := none }) (v := ?_) rfl (by kernel_rfl) (fun _ _ _ h => h) (Or.inl ⟨by rfl, ?_⟩) HS.out ?_
      rotate_left
      ·intro x h; (try dsimp only at h); go_simp; try (with_reducible rfl)
      try simp only [Act.put, List.setIfInBounds_toArray, List.set]
      refine anyR_take (i := 4) (oi := { dst := some 6, op := .move (.tmp 0), type := 83, pos := "syntax.go:51", after := #[], guard := none }) (v := ?_) rfl (by kernel_rfl) (fun _ _ _ h => h) (Or.inl ⟨by rfl, ?_⟩) HS.out ?_
      rotate_left
      ·intro x h; (try dsimp only at h); go_simp; try (with_reducible rfl)
      try simp only [Act.put, List.setIfInBounds_toArray, List.set]
      refine anyR_take (i := 5) (oi := { dst := some 7, op := .nilCheck (.tmp 6), type := 0, pos := "syntax.go:51", after := #[{ on := 4, ground := .data }], guard := none }) (v := ?_) rfl (by kernel_rfl) (fun _ _ _ h => h) (Or.inl ⟨by rfl, ?_⟩) HS.out ?_
      rotate_left
      ·intro x h; (try dsimp only at h); go_simp; try (with_reducible rfl)
      try simp only [Act.put, List.setIfInBounds_toArray, List.set]
      refine anyR_take (i := 6) (oi := { dst := some 8, op := .fieldAddr 85 (.tmp 7) 0, type := 0, pos := "syntax.go:51", after := #[{ on := 5, ground := .data }], guard := none }) (v := ?_) rfl (by kernel_rfl) (fun _ _ _ h => h) (Or.inl ⟨by rfl, ?_⟩) HS.out ?_
      rotate_left
      ·intro x h; (try dsimp only at h); go_simp; try (with_reducible rfl)
      try simp only [Act.put, List.setIfInBounds_toArray, List.set]
      refine anyR_take (i := 7) (oi := { dst := some 9, op := .load 22 (.tmp 8), type := 22, pos := "syntax.go:51", after := #[{ on := 6, ground := .data }], guard := none }) (v := ?_) rfl (by kernel_rfl) (fun _ _ _ h => h) (Or.inl ⟨by rfl, ?_⟩) HS.out ?_
      rotate_left
      ·intro x h; (try dsimp only at h); go_simp; try (with_reducible rfl)
      try simp only [Act.put, List.setIfInBounds_toArray, List.set]
      refine anyR_take (i := 8) (oi := { dst := some 10, op := .call { callee := .builtin .len, args := #[.tmp 9], argTypes := #[22] }, type := 3, pos := "syntax.go:51", after := #[{ on := 7, ground := .data }], guard := none }) (v := ?_) rfl (by kernel_rfl) (fun _ _ _ h => h) (Or.inl ⟨by rfl, ?_⟩) HS.out ?_
      rotate_left
      ·intro x h; (try dsimp only at h); go_simp; try (with_reducible rfl)
      try simp only [Act.put, List.setIfInBounds_toArray, List.set]
      refine anyR_take (i := 9) (oi := { dst := some 11, op := .binOp .lss 3 (.tmp 5) (.tmp 10) 3, type := 4, pos := "syntax.go:51", after := #[{ on := 3, ground := .data }, { on := 8, ground := .data }], guard := none }) (v := ?_) rfl (by kernel_rfl) (fun _ _ _ h => h) (Or.inl ⟨by rfl, ?_⟩) HS.out ?_
      rotate_left
      ·intro x h; (try dsimp only at h); go_simp; try (with_reducible rfl)
      try simp only [Act.put, List.setIfInBounds_toArray, List.set]
      refine anyR_take (i := 10) (oi := { dst := some 12, op := .move (.tmp 11), type := 4, pos := "syntax.go:51", after := #[{ on := 9, ground := .data }], guard := none }) (v := ?_) rfl (by kernel_rfl) (fun _ _ _ h => h) (Or.inl ⟨by rfl, ?_⟩) HS.out ?_
      rotate_left
      ·intro x h; (try dsimp only at h); go_simp; try (with_reducible rfl)
      try simp only [Act.put, List.setIfInBounds_toArray, List.set]
      refine anyR_take (i := 11) (oi := { dst := some 13, op := .move (.tmp 0), type := 83, pos := "syntax.go:51", after := #[{ on := 10, ground := .guard }], guard := some (10, true) }) (v := ?_) rfl (by kernel_rfl) (fun _ _ _ h => h) (Or.inl ⟨by rfl, ?_⟩) HS.out ?_
      rotate_left
      ·intro x h; (try dsimp only at h); go_simp; try (with_reducible rfl)
      try simp only [Act.put, List.setIfInBounds_toArray, List.set]
      refine anyR_take (i := 12) (oi := { dst := some 14, op := .nilCheck (.tmp 13), type := 0, pos := "syntax.go:51", after := #[{ on := 11, ground := .data }, { on := 10, ground := .guard }], guard := some (10, true) }) (v := ?_) rfl (by kernel_rfl) (fun _ _ _ h => h) (Or.inl ⟨by rfl, ?_⟩) HS.out ?_
      rotate_left
      ·intro x h; (try dsimp only at h); go_simp; try (with_reducible rfl)
      try simp only [Act.put, List.setIfInBounds_toArray, List.set]
      refine anyR_take (i := 13) (oi := { dst := some 15, op := .fieldAddr 85 (.tmp 14) 0, type := 0, pos := "syntax.go:51", after := #[{ on := 12, ground := .data }, { on := 10, ground := .guard }], guard := some (10, true) }) (v := ?_) rfl (by kernel_rfl) (fun _ _ _ h => h) (Or.inl ⟨by rfl, ?_⟩) HS.out ?_
      rotate_left
      ·intro x h; (try dsimp only at h); go_simp; try (with_reducible rfl)
      try simp only [Act.put, List.setIfInBounds_toArray, List.set]
      refine anyR_take (i := 14) (oi := { dst := some 16, op := .load 22 (.tmp 15), type := 22, pos := "syntax.go:51", after := #[{ on := 13, ground := .data }, { on := 10, ground := .guard }], guard := some (10, true) }) (v := ?_) rfl (by kernel_rfl) (fun _ _ _ h => h) (Or.inl ⟨by rfl, ?_⟩) HS.out ?_
      rotate_left
      ·intro x h; (try dsimp only at h); go_simp; try (with_reducible rfl)
      try simp only [Act.put, List.setIfInBounds_toArray, List.set]
      refine anyR_take (i := 15) (oi := { dst := some 17, op := .move (.tmp 0), type := 83, pos := "syntax.go:51", after := #[{ on := 10, ground := .guard }], guard := some (10, true) }) (v := ?_) rfl (by kernel_rfl) (fun _ _ _ h => h) (Or.inl ⟨by rfl, ?_⟩) HS.out ?_
      rotate_left
      ·intro x h; (try dsimp only at h); go_simp; try (with_reducible rfl)
      try simp only [Act.put, List.setIfInBounds_toArray, List.set]
      refine anyR_take (i := 16) (oi := { dst := some 18, op := .nilCheck (.tmp 17), type := 0, pos := "syntax.go:51", after := #[{ on := 15, ground := .data }, { on := 10, ground := .guard }], guard := some (10, true) }) (v := ?_) rfl (by kernel_rfl) (fun _ _ _ h => h) (Or.inl ⟨by rfl, ?_⟩) HS.out ?_
      rotate_left
      ·intro x h; (try dsimp only at h); go_simp; try (with_reducible rfl)
      try simp only [Act.put, List.setIfInBounds_toArray, List.set]
      refine anyR_take (i := 17) (oi := { dst := some 19, op := .fieldAddr 85 (.tmp 18) 1, type := 0, pos := "syntax.go:51", after := #[{ on := 16, ground := .data }, { on := 10, ground := .guard }], guard := some (10, true) }) (v := ?_) rfl (by kernel_rfl) (fun _ _ _ h => h) (Or.inl ⟨by rfl, ?_⟩) HS.out ?_
      rotate_left
      ·intro x h; (try dsimp only at h); go_simp; try (with_reducible rfl)
      try simp only [Act.put, List.setIfInBounds_toArray, List.set]
      refine anyR_take (i := 18) (oi := { dst := some 20, op := .load 3 (.tmp 19), type := 3, pos := "syntax.go:51", after := #[{ on := 17, ground := .data }, { on := 10, ground := .guard }], guard := some (10, true) }) (v := ?_) rfl (by kernel_rfl) (fun _ _ _ h => h) (Or.inl ⟨by rfl, ?_⟩) HS.out ?_
      rotate_left
      ·intro x h; (try dsimp only at h); go_simp; try (with_reducible rfl)
      try simp only [Act.put, List.setIfInBounds_toArray, List.set]
      refine anyR_take (i := 19) (oi := { dst := some 21, op := .indexAddr 22 (.tmp 16) (.tmp 20), type := 0, pos := "syntax.go:51", after := #[{ on := 14, ground := .data }, { on := 18, ground := .data }, { on := 10, ground := .guard }], guard := some (10, true) }) (v := ?_) rfl (by kernel_rfl) (fun _ _ _ h => h) (Or.inl ⟨by rfl, ?_⟩) HS.out ?_
      rotate_left
      ·intro x h; (try dsimp only at h); go_simp; try (with_reducible rfl)
      try simp only [Act.put, List.setIfInBounds_toArray, List.set]
      refine anyR_take (i := 20) (oi := { dst := some 22, op := .fieldAddr 35 (.tmp 21) 0, type := 0, pos := "syntax.go:51", after := #[{ on := 19, ground := .data }, { on := 10, ground := .guard }], guard := some (10, true) }) (v := ?_) rfl (by kernel_rfl) (fun _ _ _ h => h) (Or.inl ⟨by rfl, ?_⟩) HS.out ?_
      rotate_left
      ·intro x h; (try dsimp only at h); go_simp; try (with_reducible rfl)
      try simp only [Act.put, List.setIfInBounds_toArray, List.set]
      refine anyR_take (i := 21) (oi := { dst := some 23, op := .load 31 (.tmp 22), type := 31, pos := "syntax.go:51", after := #[{ on := 20, ground := .data }, { on := 10, ground := .guard }], guard := some (10, true) }) (v := ?_) rfl (by kernel_rfl) (fun _ _ _ h => h) (Or.inl ⟨by rfl, ?_⟩) HS.out ?_
      rotate_left
      ·intro x h; (try dsimp only at h); go_simp; try (with_reducible rfl)
      try simp only [Act.put, List.setIfInBounds_toArray, List.set]
      refine anyR_take (i := 22) (oi := { dst := some 24, op := .binOp .eql 31 (.tmp 23) (.const (.int .u8 7)) 31, type := 4, pos := "syntax.go:51", after := #[{ on := 21, ground := .data }, { on := 10, ground := .guard }], guard := some (10, true) }) (v := ?_) rfl (by kernel_rfl) (fun _ _ _ h => h) (Or.inl ⟨by rfl, ?_⟩) HS.out ?_
      rotate_left
      ·intro x h; (try dsimp only at h); go_simp; try (with_reducible rfl)
      try simp only [Act.put, List.setIfInBounds_toArray, List.set]
      refine anyR_take (i := 23) (oi := { dst := some 25, op := .move (.tmp 24), type := 4, pos := "syntax.go:51", after := #[{ on := 22, ground := .data }, { on := 10, ground := .chain }, { on := 10, ground := .guard }], guard := some (10, true) }) (v := ?_) rfl (by kernel_rfl) (fun _ _ _ h => h) (Or.inl ⟨by rfl, ?_⟩) HS.out ?_
      rotate_left
      ·intro x h; (try dsimp only at h); go_simp; try (with_reducible rfl)
      try simp only [Act.put, List.setIfInBounds_toArray, List.set]
      refine anyR_take (i := 24) (oi := { dst := some 26, op := .move (.tmp 0), type := 83, pos := "syntax.go:51", after := #[{ on := 23, ground := .guard }], guard := some (23, false) }) (v := ?_) rfl (by kernel_rfl) (fun _ _ _ h => h) (Or.inl ⟨by rfl, ?_⟩) HS.out ?_
      rotate_left
      ·intro x h; (try dsimp only at h); go_simp; try (with_reducible rfl)
      try simp only [Act.put, List.setIfInBounds_toArray, List.set]
      refine anyR_take (i := 25) (oi := { dst := some 27, op := .nilCheck (.tmp 26), type := 0, pos := "syntax.go:51", after := #[{ on := 24, ground := .data }, { on := 23, ground := .guard }], guard := some (23, false) }) (v := ?_) rfl (by kernel_rfl) (fun _ _ _ h => h) (Or.inl ⟨by rfl, ?_⟩) HS.out ?_
      rotate_left
      ·intro x h; (try dsimp only at h); go_simp; try (with_reducible rfl)
      try simp only [Act.put, List.setIfInBounds_toArray, List.set]
      refine anyR_take (i := 26) (oi := { dst := some 28, op := .fieldAddr 85 (.tmp 27) 0, type := 0, pos := "syntax.go:51", after := #[{ on := 25, ground := .data }, { on := 23, ground := .guard }], guard := some (23, false) }) (v := ?_) rfl (by kernel_rfl) (fun _ _ _ h => h) (Or.inl ⟨by rfl, ?_⟩) HS.out ?_
      rotate_left
      ·intro x h; (try dsimp only at h); go_simp; try (with_reducible rfl)
      try simp only [Act.put, List.setIfInBounds_toArray, List.set]
      refine anyR_take (i := 27) (oi := { dst := some 29, op := .load 22 (.tmp 28), type := 22, pos := "syntax.go:51", after := #[{ on := 26, ground := .data }, { on := 23, ground := .guard }], guard := some (23, false) }) (v := ?_) rfl (by kernel_rfl) (fun _ _ _ h => h) (Or.inl ⟨by rfl, ?_⟩) HS.out ?_
      rotate_left
      ·intro x h; (try dsimp only at h); go_simp; try (with_reducible rfl)
      try simp only [Act.put, List.setIfInBounds_toArray, List.set]
      refine anyR_take (i := 28) (oi := { dst := some 30, op := .move (.tmp 0), type := 83, pos := "syntax.go:51", after := #[{ on := 23, ground := .guard }], guard := some (23, false) }) (v := ?_) rfl (by kernel_rfl) (fun _ _ _ h => h) (Or.inl ⟨by rfl, ?_⟩) HS.out ?_
      rotate_left
      ·intro x h; (try dsimp only at h); go_simp; try (with_reducible rfl)
      try simp only [Act.put, List.setIfInBounds_toArray, List.set]
      refine anyR_take (i := 29) (oi := { dst := some 31, op := .nilCheck (.tmp 30), type := 0, pos := "syntax.go:51", after := #[{ on := 28, ground := .data }, { on := 23, ground := .guard }], guard := some (23, false) }) (v := ?_) rfl (by kernel_rfl) (fun _ _ _ h => h) (Or.inl ⟨by rfl, ?_⟩) HS.out ?_
      rotate_left
      ·intro x h; (try dsimp only at h); go_simp; try (with_reducible rfl)
      try simp only [Act.put, List.setIfInBounds_toArray, List.set]
      refine anyR_take (i := 30) (oi := { dst := some 32, op := .fieldAddr 85 (.tmp 31) 1, type := 0, pos := "syntax.go:51", after := #[{ on := 29, ground := .data }, { on := 23, ground := .guard }], guard := some (23, false) }) (v := ?_) rfl (by kernel_rfl) (fun _ _ _ h => h) (Or.inl ⟨by rfl, ?_⟩) HS.out ?_
      rotate_left
      ·intro x h; (try dsimp only at h); go_simp; try (with_reducible rfl)
      try simp only [Act.put, List.setIfInBounds_toArray, List.set]
      refine anyR_take (i := 31) (oi := { dst := some 33, op := .load 3 (.tmp 32), type := 3, pos := "syntax.go:51", after := #[{ on := 30, ground := .data }, { on := 23, ground := .guard }], guard := some (23, false) }) (v := ?_) rfl (by kernel_rfl) (fun _ _ _ h => h) (Or.inl ⟨by rfl, ?_⟩) HS.out ?_
      rotate_left
      ·intro x h; (try dsimp only at h); go_simp; try (with_reducible rfl)
      try simp only [Act.put, List.setIfInBounds_toArray, List.set]
      refine anyR_take (i := 32) (oi := { dst := some 34, op := .indexAddr 22 (.tmp 29) (.tmp 33), type := 0, pos := "syntax.go:51", after := #[{ on := 27, ground := .data }, { on := 31, ground := .data }, { on := 23, ground := .guard }], guard := some (23, false) }) (v := ?_) rfl (by kernel_rfl) (fun _ _ _ h => h) (Or.inl ⟨by rfl, ?_⟩) HS.out ?_
      rotate_left
      ·intro x h; (try dsimp only at h); go_simp; try (with_reducible rfl)
      try simp only [Act.put, List.setIfInBounds_toArray, List.set]
      refine anyR_take (i := 33) (oi := { dst := some 35, op := .fieldAddr 35 (.tmp 34) 0, type := 0, pos := "syntax.go:51", after := #[{ on := 32, ground := .data }, { on := 23, ground := .guard }], guard := some (23, false) }) (v := ?_) rfl (by kernel_rfl) (fun _ _ _ h => h) (Or.inl ⟨by rfl, ?_⟩) HS.out ?_
      rotate_left
      ·intro x h; (try dsimp only at h); go_simp; try (with_reducible rfl)
      try simp only [Act.put, List.setIfInBounds_toArray, List.set]
      refine anyR_take (i := 34) (oi := { dst := some 36, op := .load 31 (.tmp 35), type := 31, pos := "syntax.go:51", after := #[{ on := 33, ground := .data }, { on := 23, ground := .guard }], guard := some (23, false) }) (v := ?_) rfl (by kernel_rfl) (fun _ _ _ h => h) (Or.inl ⟨by rfl, ?_⟩) HS.out ?_
      rotate_left
      ·intro x h; (try dsimp only at h); go_simp; try (with_reducible rfl)
      try simp only [Act.put, List.setIfInBounds_toArray, List.set]
      refine anyR_take (i := 35) (oi := { dst := some 37, op := .binOp .eql 31 (.tmp 36) (.const (.int .u8 8)) 31, type := 4, pos := "syntax.go:51", after := #[{ on := 34, ground := .data }, { on := 23, ground := .guard }], guard := some (23, false) }) (v := ?_) rfl (by kernel_rfl) (fun _ _ _ h => h) (Or.inl ⟨by rfl, ?_⟩) HS.out ?_
      rotate_left
      ·intro x h; (try dsimp only at h); go_simp; try (with_reducible rfl)
      try simp only [Act.put, List.setIfInBounds_toArray, List.set]
      refine anyR_take (i := 36) (oi := { dst := some 38, op := .pick (.tmp 25) (.const (.bool true)) (.tmp 37), type := 4, pos := "syntax.go:51", after := #[{ on := 23, ground := .data }, { on := 35, ground := .data }, { on := 10, ground := .guard }], guard := some (10, true) }) (v := ?_) rfl (by kernel_rfl) (fun _ _ _ h => h) (Or.inl ⟨by rfl, ?_⟩) HS.out ?_
      rotate_left
      ·intro x h; (try dsimp only at h); go_simp; try (with_reducible rfl)
      try simp only [Act.put, List.setIfInBounds_toArray, List.set]
      refine anyR_take (i := 37) (oi := { dst := some 39, op := .pick (.tmp 12) (.tmp 38) (.const (.bool false)), type := 4, pos := "syntax.go:51", after := #[{ on := 10, ground := .data }, { on := 36, ground := .data }], guard := none }) (v := ?_) rfl (by kernel_rfl) (fun _ _ _ h => h) (Or.inl ⟨by rfl, ?_⟩) HS.out ?_
      rotate_left
      ·intro x h; (try dsimp only at h); go_simp; try (with_reducible rfl)
      try simp only [Act.put, List.setIfInBounds_toArray, List.set]
      refine anyR_done (by kernel_rfl) ?_ _
      go_wp2
      go_end0
      obtain ⟨h1, h2⟩ := HF.out
      refine ⟨rfl, ve1, ?_, HH.out.step.trans (PStep.below HBD.out)⟩
      rw [← h1, ← h2]
      simpa using HH.out.at_.moved HBD.out
   ·obtain rfl : i1 = l.length := by have := H.at_.ile; omega
    have hn0 : nAt l l.length = [] := nAt_end (Nat.le_refl _)
    have h1 := H.i_
    have h2 := H.o_
    rw [hn0] at h1 h2
    have HH := Lib.hid H
    have HF := Lib.hid (And.intro h1 h2)
    have g1 : ¬ ((l.length : Int) < (l.length : Int)) := by omega
    clear H hrel HI0 hn0 h1 h2 hk hlo
    go_wp2
    obtain ⟨Wd1, hWd⟩ : ∃ V, wr.drew = V := ⟨_, rfl⟩
    have hbd : Below wr.heap.size wr Wd1 := by rw [← hWd]; exact (Below.refl _ wr).drew
    have hSall : ∀ V, Below wr.heap.size wr V → V.cell? ⟨p, 0, none⟩ = some (.slice (A) l.length c) ∧ V.cell? ⟨p, 1, none⟩ = some (.int .i64 l.length) := fun V hV => ⟨pw_cell_below hV q0, pw_cell_below hV q1⟩
    have HSA := Lib.hid hSall
    have HS := Lib.hid (hSall Wd1 hbd)
    have HBD := Lib.hid hbd
    have HWd := Lib.hid hWd
    clear hSall hbd hWd
    refine wp_region_R (fun w' => w'.cell? ⟨p, 0, none⟩ = some (.slice (A) l.length c) ∧ w'.cell? ⟨p, 1, none⟩ = some (.int .i64 l.length)) (fun j => true) (by kernel_rfl) ?_
    rw [HWd.out]
    refine anyR_take (i := 0) (oi := { dst := some 2, op := .move (.tmp 0), type := 83, pos := "syntax.go:51", after := #[], guard := none }) (v := ?_) rfl (by kernel_rfl) (fun _ _ _ h => h) (Or.inl ⟨by rfl, ?_⟩) HS.out ?_
    rotate_left
    ·intro x h; (try dsimp only at h); go_simp; try (with_reducible rfl)
    try simp only [Act.put, List.setIfInBounds_toArray, List.set]
    refine anyR_take (i := 1) (oi := { dst := some 3, op := .nilCheck (.tmp 2), type := 0, pos := "syntax.go:51", after := #[{ on := 0, ground := .data }], guard := none }) (v := ?_) rfl (by kernel_rfl) (fun _ _ _ h => h) (Or.inl ⟨by rfl, ?_⟩) HS.out ?_
    rotate_left
    ·intro x h; (try dsimp only at h); go_simp; try (with_reducible rfl)
    try simp only [Act.put, List.setIfInBounds_toArray, List.set]
    refine anyR_take (i := 2) (oi := { dst := some 4, op := .fieldAddr 85 (.tmp 3) 1, type := 0, pos := "syntax.go:51", after := #[{ on := 1, ground := .data }], guard := none }) (v := ?_) rfl (by kernel_rfl) (fun _ _ _ h => h) (Or.inl ⟨by rfl, ?_⟩) HS.out ?_
    rotate_left
    ·intro x h; (try dsimp only at h); go_simp; try (with_reducible rfl)
    try simp only [Act.put, List.setIfInBounds_toArray, List.set]
    refine anyR_take (i := 3) (oi := { dst := some 5, op := .load 3 (.tmp 4), type := 3, pos := "syntax.go:51", after := #[{ on := 2, ground := .data }], guard := none }) (v := ?_) rfl (by kernel_rfl) (fun _ _ _ h => h) (Or.inl ⟨by rfl, ?_⟩) HS.out ?_
    rotate_left
    ·intro x h; (try dsimp only at h); go_simp; try (with_reducible rfl)
    try simp only [Act.put, List.setIfInBounds_toArray, List.set]
    refine anyR_take (i := 4) (oi := { dst := some 6, op := .move (.tmp 0), type := 83, pos := "syntax.go:51", after := #[], guard := none }) (v := ?_) rfl (by kernel_rfl) (fun _ _ _ h => h) (Or.inl ⟨by rfl, ?_⟩) HS.out ?_
    rotate_left
    ·intro x h; (try dsimp only at h); go_simp; try (with_reducible rfl)
    try simp only [Act.put, List.setIfInBounds_toArray, List.set]
    refine anyR_take (i := 5) (oi := { dst := some 7, op := .nilCheck (.tmp 6), type := 0, pos := "syntax.go:51", after := #[{ on := 4, ground := .data }], guard := none }) (v := ?_) rfl (by kernel_rfl) (fun _ _ _ h => h) (Or.inl ⟨by rfl, ?_⟩) HS.out ?_
    rotate_left
    ·intro x h; (try dsimp only at h); go_simp; try (with_reducible rfl)
    try simp only [Act.put, List.setIfInBounds_toArray, List.set]
    refine anyR_take (i := 6) (oi := { dst := some 8, op := .fieldAddr 85 (.tmp 7) 0, type := 0, pos := "syntax.go:51", after := #[{ on := 5, ground := .data }], guard := none }) (v := ?_) rfl (by kernel_rfl) (fun _ _ _ h => h) (Or.inl ⟨by rfl, ?_⟩) HS.out ?_
    rotate_left
    ·intro x h; (try dsimp only at h); go_simp; try (with_reducible rfl)
    try simp only [Act.put, List.setIfInBounds_toArray, List.set]
    refine anyR_take (i := 7) (oi := { dst := some 9, op := .load 22 (.tmp 8), type := 22, pos := "syntax.go:51", after := #[{ on := 6, ground := .data }], guard := none }) (v := ?_) rfl (by kernel_rfl) (fun _ _ _ h => h) (Or.inl ⟨by rfl, ?_⟩) HS.out ?_
    rotate_left
    ·intro x h; (try dsimp only at h); go_simp; try (with_reducible rfl)
    try simp only [Act.put, List.setIfInBounds_toArray, List.set]
    refine anyR_take (i := 8) (oi := { dst := some 10, op := .call { callee := .builtin .len, args := #[.tmp 9], argTypes := #[22] }, type := 3, pos := "syntax.go:51", after := #[{ on := 7, ground := .data }], guard := none }) (v := ?_) rfl (by kernel_rfl) (fun _ _ _ h => h) (Or.inl ⟨by rfl, ?_⟩) HS.out ?_
    rotate_left
    ·intro x h; (try dsimp only at h); go_simp; try (with_reducible rfl)
    try simp only [Act.put, List.setIfInBounds_toArray, List.set]
    refine anyR_take (i := 9) (oi := { dst := some 11, op := .binOp .lss 3 (.tmp 5) (.tmp 10) 3, type := 4, pos := "syntax.go:51", after := #[{ on := 3, ground := .data }, { on := 8, ground := .data }], guard := none }) (v := ?_) rfl (by kernel_rfl) (fun _ _ _ h => h) (Or.inl ⟨by rfl, ?_⟩) HS.out ?_
    rotate_left
    ·intro x h; (try dsimp only at h); go_simp; try (with_reducible rfl)
    try simp only [Act.put, List.setIfInBounds_toArray, List.set]
    refine anyR_take (i := 10) (oi := { dst := some 12, op := .move (.tmp 11), type := 4, pos := "syntax.go:51", after := #[{ on := 9, ground := .data }], guard := none }) (v := ?_) rfl (by kernel_rfl) (fun _ _ _ h => h) (Or.inl ⟨by rfl, ?_⟩) HS.out ?_
    rotate_left
    ·intro x h; (try dsimp only at h); go_simp; try (with_reducible rfl)
    try simp only [Act.put, List.setIfInBounds_toArray, List.set]
    refine anyR_take (i := 11) (oi := { dst := some 13, op := .move (.tmp 0), type := 83, pos := "syntax.go:51", after := #[{ on := 10, ground := .guard }], guard := some (10, true) }) (v := _) rfl (by kernel_rfl) (fun _ _ _ h => h) (Or.inr ⟨by rfl, rfl⟩) HS.out ?_
    try simp only [Act.put, List.setIfInBounds_toArray, List.set]
    refine anyR_take (i := 12) (oi := { dst := some 14, op := .nilCheck (.tmp 13), type := 0, pos := "syntax.go:51", after := #[{ on := 11, ground := .data }, { on := 10, ground := .guard }], guard := some (10, true) }) (v := _) rfl (by kernel_rfl) (fun _ _ _ h => h) (Or.inr ⟨by rfl, rfl⟩) HS.out ?_
    try simp only [Act.put, List.setIfInBounds_toArray, List.set]
    refine anyR_take (i := 13) (oi := { dst := some 15, op := .fieldAddr 85 (.tmp 14) 0, type := 0, pos := "syntax.go:51", after := #[{ on := 12, ground := .data }, { on := 10, ground := .guard }], guard := some (10, true) }) (v := _) rfl (by kernel_rfl) (fun _ _ _ h => h) (Or.inr ⟨by rfl, rfl⟩) HS.out ?_
    try simp only [Act.put, List.setIfInBounds_toArray, List.set]
    refine anyR_take (i := 14) (oi := { dst := some 16, op := .load 22 (.tmp 15), type := 22, pos := "syntax.go:51", after := #[{ on := 13, ground := .data }, { on := 10, ground := .guard }], guard := some (10, true) }) (v := _) rfl (by kernel_rfl) (fun _ _ _ h => h) (Or.inr ⟨by rfl, rfl⟩) HS.out ?_
    try simp only [Act.put, List.setIfInBounds_toArray, List.set]
    refine anyR_take (i := 15) (oi := { dst := some 17, op := .move (.tmp 0), type := 83, pos := "syntax.go:51", after := #[{ on := 10, ground := .guard }], guard := some (10, true) }) (v := _) rfl (by kernel_rfl) (fun _ _ _ h => h) (Or.inr ⟨by rfl, rfl⟩) HS.out ?_
    try simp only [Act.put, List.setIfInBounds_toArray, List.set]
    refine anyR_take (i := 16) (oi := { dst := some 18, op := .nilCheck (.tmp 17), type := 0, pos := "syntax.go:51", after := #[{ on := 15, ground := .data }, { on := 10, ground := .guard }], guard := some (10, true) }) (v := _) rfl (by kernel_rfl) (fun _ _ _ h => h) (Or.inr ⟨by rfl, rfl⟩) HS.out ?_
    try simp only [Act.put, List.setIfInBounds_toArray, List.set]
    refine anyR_take (i := 17) (oi := { dst := some 19, op := .fieldAddr 85 (.tmp 18) 1, type := 0, pos := "syntax.go:51", after := #[{ on := 16, ground := .data }, { on := 10, ground := .guard }], guard := some (10, true) }) (v := _) rfl (by kernel_rfl) (fun _ _ _ h => h) (Or.inr ⟨by rfl, rfl⟩) HS.out ?_
    try simp only [Act.put, List.setIfInBounds_toArray, List.set]
    refine anyR_take (i := 18) (oi := { dst := some 20, op := .load 3 (.tmp 19), type := 3, pos := "syntax.go:51", after := #[{ on := 17, ground := .data }, { on := 10, ground := .guard }], guard := some (10, true) }) (v := _) rfl (by kernel_rfl) (fun _ _ _ h => h) (Or.inr ⟨by rfl, rfl⟩) HS.out ?_
    try simp only [Act.put, List.setIfInBounds_toArray, List.set]
    refine anyR_take (i := 19) (oi := { dst := some 21, op := .indexAddr 22 (.tmp 16) (.tmp 20), type := 0, pos := "syntax.go:51", after := #[{ on := 14, ground := .data }, { on := 18, ground := .data }, { on := 10, ground := .guard }], guard := some (10, true) }) (v := _) rfl (by kernel_rfl) (fun _ _ _ h => h) (Or.inr ⟨by rfl, rfl⟩) HS.out ?_
    try simp only [Act.put, List.setIfInBounds_toArray, List.set]
    refine anyR_take (i := 20) (oi := { dst := some 22, op := .fieldAddr 35 (.tmp 21) 0, type := 0, pos := "syntax.go:51", after := #[{ on := 19, ground := .data }, { on := 10, ground := .guard }], guard := some (10, true) }) (v := _) rfl (by kernel_rfl) (fun _ _ _ h => h) (Or.inr ⟨by rfl, rfl⟩) HS.out ?_
    try simp only [Act.put, List.setIfInBounds_toArray, List.set]
    refine anyR_take (i := 21) (oi := { dst := some 23, op := .load 31 (.tmp 22), type := 31, pos := "syntax.go:51", after := #[{ on := 20, ground := .data }, { on := 10, ground := .guard }], guard := some (10, true) }) (v := _) rfl (by kernel_rfl) (fun _ _ _ h => h) (Or.inr ⟨by rfl, rfl⟩) HS.out ?_
    try simp only [Act.put, List.setIfInBounds_toArray, List.set]
    refine anyR_take (i := 22) (oi := { dst := some 24, op := .binOp .eql 31 (.tmp 23) (.const (.int .u8 7)) 31, type := 4, pos := "syntax.go:51", after := #[{ on := 21, ground := .data }, { on := 10, ground := .guard }], guard := some (10, true) }) (v := _) rfl (by kernel_rfl) (fun _ _ _ h => h) (Or.inr ⟨by rfl, rfl⟩) HS.out ?_
    try simp only [Act.put, List.setIfInBounds_toArray, List.set]
    refine anyR_take (i := 23) (oi := { dst := some 25, op := .move (.tmp 24), type := 4, pos := "syntax.go:51", after := #[{ on := 22, ground := .data }, { on := 10, ground := .chain }, { on := 10, ground := .guard }], guard := some (10, true) }) (v := _) rfl (by kernel_rfl) (fun _ _ _ h => h) (Or.inr ⟨by rfl, rfl⟩) HS.out ?_
    try simp only [Act.put, List.setIfInBounds_toArray, List.set]
    refine anyR_take (i := 24) (oi := { dst := some 26, op := .move (.tmp 0), type := 83, pos := "syntax.go:51", after := #[{ on := 23, ground := .guard }], guard := some (23, false) }) (v := _) rfl (by kernel_rfl) (fun _ _ _ h => h) (Or.inr ⟨by rfl, rfl⟩) HS.out ?_
    try simp only [Act.put, List.setIfInBounds_toArray, List.set]
    refine anyR_take (i := 25) (oi := { dst := some 27, op := .nilCheck (.tmp 26), type := 0, pos := "syntax.go:51", after := #[{ on := 24, ground := .data }, { on := 23, ground := .guard }], guard := some (23, false) }) (v := _) rfl (by kernel_rfl) (fun _ _ _ h => h) (Or.inr ⟨by rfl, rfl⟩) HS.out ?_
    try simp only [Act.put, List.setIfInBounds_toArray, List.set]
    refine anyR_take (i := 26) (oi := { dst := some 28, op := .fieldAddr 85 (.tmp 27) 0, type := 0, pos := "syntax.go:51", after := #[{ on := 25, ground := .data }, { on := 23, ground := .guard }], guard := some (23, false) }) (v := _) rfl (by kernel_rfl) (fun _ _ _ h => h) (Or.inr ⟨by rfl, rfl⟩) HS.out ?_
    try simp only [Act.put, List.setIfInBounds_toArray, List.set]
    refine anyR_take (i := 27) (oi := { dst := some 29, op := .load 22 (.tmp 28), type := 22, pos := "syntax.go:51", after := #[{ on := 26, ground := .data }, { on := 23, ground := .guard }], guard := some (23, false) }) (v := _) rfl (by kernel_rfl) (fun _ _ _ h => h) (Or.inr ⟨by rfl, rfl⟩) HS.out ?_
    try simp only [Act.put, List.setIfInBounds_toArray, List.set]
    refine anyR_take (i := 28) (oi := { dst := some 30, op := .move (.tmp 0), type := 83, pos := "syntax.go:51", after := #[{ on := 23, ground := .guard }], guard := some (23, false) }) (v := _) rfl (by kernel_rfl) (fun _ _ _ h => h) (Or.inr ⟨by rfl, rfl⟩) HS.out ?_
    try simp only [Act.put, List.setIfInBounds_toArray, List.set]
    refine anyR_take (i := 29) (oi := { dst := some 31, op := .nilCheck (.tmp 30), type := 0, pos := "syntax.go:51", after := #[{ on := 28, ground := .data }, { on := 23, ground := .guard }], guard := some (23, false) }) (v := _) rfl (by kernel_rfl) (fun _ _ _ h => h) (Or.inr ⟨by rfl, rfl⟩) HS.out ?_
    try simp only [Act.put, List.setIfInBounds_toArray, List.set]
    refine anyR_take (i := 30) (oi := { dst := some 32, op := .fieldAddr 85 (.tmp 31) 1, type := 0, pos := "syntax.go:51", after := #[{ on := 29, ground := .data }, { on := 23, ground := .guard }], guard := some (23, false) }) (v := _) rfl (by kernel_rfl) (fun _ _ _ h => h) (Or.inr ⟨by rfl, rfl⟩) HS.out ?_
    try simp only [Act.put, List.setIfInBounds_toArray, List.set]
    refine anyR_take (i := 31) (oi := { dst := some 33, op := .load 3 (.tmp 32), type := 3, pos := "syntax.go:51", after := #[{ on := 30, ground := .data }, { on := 23, ground := .guard }], guard := some (23, false) }) (v := _) rfl (by kernel_rfl) (fun _ _ _ h => h) (Or.inr ⟨by rfl, rfl⟩) HS.out ?_
    try simp only [Act.put, List.setIfInBounds_toArray, List.set]
    refine anyR_take (i := 32) (oi := { dst := some 34, op := .indexAddr 22 (.tmp 29) (.tmp 33), type := 0, pos := "syntax.go:51", after := #[{ on := 27, ground := .data }, { on := 31, ground := .data }, { on := 23, ground := .guard }], guard := some (23, false) }) (v := _) rfl (by kernel_rfl) (fun _ _ _ h => h) (Or.inr ⟨by rfl, rfl⟩) HS.out ?_
    try simp only [Act.put, List.setIfInBounds_toArray, List.set]
    refine anyR_take (i := 33) (oi := { dst := some 35, op := .fieldAddr 35 (.tmp 34) 0, type := 0, pos := "syntax.go:51", after := #[{ on := 32, ground := .data }, { on := 23, ground := .guard }], guard := some (23, false) }) (v := _) rfl (by kernel_rfl) (fun _ _ _ h => h) (Or.inr ⟨by rfl, rfl⟩) HS.out ?_
    try simp only [Act.put, List.setIfInBounds_toArray, List.set]
    refine anyR_take (i := 34) (oi := { dst := some 36, op := .load 31 (.tmp 35), type := 31, pos := "syntax.go:51", after := #[{ on := 33, ground := .data }, { on := 23, ground := .guard }], guard := some (23, false) }) (v := _) rfl (by kernel_rfl) (fun _ _ _ h => h) (Or.inr ⟨by rfl, rfl⟩) HS.out ?_
    try simp only [Act.put, List.setIfInBounds_toArray, List.set]
    refine anyR_take (i := 35) (oi := { dst := some 37, op := .binOp .eql 31 (.tmp 36) (.const (.int .u8 8)) 31, type := 4, pos := "syntax.go:51", after := #[{ on := 34, ground := .data }, { on := 23, ground := .guard }], guard := some (23, false) }) (v := _) rfl (by kernel_rfl) (fun _ _ _ h => h) (Or.inr ⟨by rfl, rfl⟩) HS.out ?_
    try simp only [Act.put, List.setIfInBounds_toArray, List.set]
    refine anyR_take (i := 36) (oi := { dst := some 38, op := .pick (.tmp 25) (.const (.bool true)) (.tmp 37), type := 4, pos := "syntax.go:51", after := #[{ on := 23, ground := .data }, { on := 35, ground := .data }, { on := 10, ground := .guard }], guard := some (10, true) }) (v := _) rfl (by kernel_rfl) (fun _ _ _ h => h) (Or.inr ⟨by rfl, rfl⟩) HS.out ?_
    try simp only [Act.put, List.setIfInBounds_toArray, List.set]
    refine anyR_take (i := 37) (oi := { dst := some 39, op := .pick (.tmp 12) (.tmp 38) (.const (.bool false)), type := 4, pos := "syntax.go:51", after := #[{ on := 10, ground := .data }, { on := 36, ground := .data }], guard := none }) (v := ?_) rfl (by kernel_rfl) (fun _ _ _ h => h) (Or.inl ⟨by rfl, ?_⟩) HS.out ?_
    rotate_left
    ·intro x h; (try dsimp only at h); go_simp; try (with_reducible rfl)
    try simp only [Act.put, List.setIfInBounds_toArray, List.set]
    refine anyR_done (by kernel_rfl) ?_ _
    go_wp2
    go_end0
    obtain ⟨h1, h2⟩ := HF.out
    refine ⟨rfl, ve1, ?_, HH.out.step.trans (PStep.below HBD.out)⟩
    rw [← h1, ← h2]
    simpa using HH.out.at_.moved HBD.out
end Go.Proofs.Ytmjbpgnjgblnmaa
namespace Go.Proofs.Ytmjbpgnjgblnmaa
open Go.RowKit Go.Proofs.YtmjbpgnjgblnmaaW.PrintWords Go.Proofs.YtmjbpgnjgblnmaaW.PrintLast Go.Proofs.YtmjbpgnjgblnmaaW.PrintMore
set_option maxRecDepth 100000 in
theorem take_no {W0 : World} {A : Option Addr} {c : Nat} {l : List Tk} {w : World} {p : Nat} {i : Nat} {d : Int} {out : List Ev} {ve : Value} (H : SAt W0 A c l w p i d out ve) :
  Calls Try.prog 70 #[.pointer (some ⟨p, 0, none⟩), .bool false] w fun e w' => e = giveUp (if i = l.length then 121 else 120) i ∧ Below w.heap.size w w' := by
 have HF := Lib.hid (fail_any H)
 clear H
 obtain ⟨er, her⟩ : ∃ er, (if i = l.length then (121 : Int) else 120) = er := ⟨_, rfl⟩
 rw [her] at HF ⊢
 clear her
 go_enter Try.func70, Try.ntmps70
 go_wp2_with (go_at_call 61; (with_reducible refine Calls.mono HF.out ?_); rintro e w5 ⟨rfl, hb5⟩; have HB5 := Lib.hid hb5; clear hb5)
 exact ⟨rfl, rfl, HB5.out⟩
set_option maxRecDepth 100000 in
theorem take_deep {W0 : World} {A : Option Addr} {c : Nat} {l : List Tk} {w : World} {p : Nat} {i : Nat} {d : Int} {out : List Ev} {ve : Value} (H : SAt W0 A c l w p i d out ve) (hd : 1000 < d) :
  Calls Try.prog 70 #[.pointer (some ⟨p, 0, none⟩), .bool true] w fun e w' => e = giveUp 122 i ∧ Below w.heap.size w w' := by
 obtain ⟨q0, q1, q2, q3⟩ := H.cell
 clear H
 go_enter Try.func70, Try.ntmps70
 go_wp2
 exact ⟨rfl, rfl, Below.refl _ w⟩
set_option maxRecDepth 100000 in
set_option maxHeartbeats 8000000 in
theorem take_yes {W0 : World} {A : Option Addr} {c : Nat} {l : List Tk} {w : World} {p : Nat} {i : Nat} {d : Int} {out : List Ev} {ve : Value} (H : SAt W0 A c l w p i d out ve) {t : Tk} (hg : l[i]? = some t) (hd : ¬ 1000 < d) (hout : out.length ≤ 274877906944) :
  Calls Try.prog 70 #[.pointer (some ⟨p, 0, none⟩), .bool true] w fun e w' => e = .returned (.tuple #[]) ∧ ∃ ve', SAt W0 A c l w' p (i + 1 + (nAt l (i + 1)).length) d (out ++ [leafE t] ++ (nAt l (i + 1)).map noteE) ve' ∧ MStep p ve w ve' w' := by
 have hj : i < l.length := (List.getElem?_eq_some_iff.1 hg).1
 obtain ⟨ad, hA, htc⟩ := tok_cells H.toks i hj
 rw [rd_of hg] at htc
 subst hA
 obtain ⟨q0, q1, q2, q3⟩ := H.cell
 obtain ⟨c0, c1, c2, c3, c4, c5⟩ := htc w H.below
 obtain ⟨g1, g2, g3, g4⟩ := idx4 hj H.len
 have HH := Lib.hid H
 have HT6 := Lib.hid hj
 have HLO := Lib.hid hout
 have hd1 : decide (1000 < d) = false := decide_eq_false hd
 clear H hg hj htc hout
 go_enter Try.func70, Try.ntmps70
 go_upto_region 4 with (fail)
 obtain ⟨Wd2, hWd⟩ : ∃ V, w.drew = V := ⟨_, rfl⟩
 have hbd : Below w.heap.size w Wd2 := by rw [← hWd]; exact (Below.refl _ w).drew
 have hSall : ∀ V, Below w.heap.size w V → V.cell? ⟨p, 0, none⟩ = some (.slice (some ad) l.length c) ∧ V.cell? ⟨p, 1, none⟩ = some (.int .i64 i) ∧ V.cell? ⟨p, 3, none⟩ = some (ve) ∧ V.cell? (ad.add (i * 6)) = some (.int .u8 t.f0) ∧ V.cell? ⟨(ad.add (i * 6)).block, (ad.add (i * 6)).off + 1, none⟩ = some (.string t.f1) ∧ V.cell? ⟨(ad.add (i * 6)).block, (ad.add (i * 6)).off + 2, none⟩ = some (.int .i64 t.f2.f0) ∧ V.cell? ⟨(ad.add (i * 6)).block, (ad.add (i * 6)).off + 3, none⟩ = some (.int .i64 t.f2.f1) ∧ V.cell? ⟨(ad.add (i * 6)).block, (ad.add (i * 6)).off + 4, none⟩ = some (.int .i64 t.f2.f2) ∧ V.cell? ⟨(ad.add (i * 6)).block, (ad.add (i * 6)).off + 5, none⟩ = some (.int .i64 t.f3) := fun V hV => ⟨pw_cell_below hV q0, pw_cell_below hV q1, pw_cell_below hV q3, pw_cell_below hV c0, pw_cell_below hV c1, pw_cell_below hV c2, pw_cell_below hV c3, pw_cell_below hV c4, pw_cell_below hV c5⟩
 have HSA := Lib.hid hSall
 have HS := Lib.hid (hSall Wd2 hbd)
 have HBD := Lib.hid hbd
 have HWd := Lib.hid hWd
 clear hSall hbd hWd
 refine wp_region_R (fun w' => w'.cell? ⟨p, 0, none⟩ = some (.slice (some ad) l.length c) ∧ w'.cell? ⟨p, 1, none⟩ = some (.int .i64 i) ∧ w'.cell? ⟨p, 3, none⟩ = some (ve) ∧ w'.cell? (ad.add (i * 6)) = some (.int .u8 t.f0) ∧ w'.cell? ⟨(ad.add (i * 6)).block, (ad.add (i * 6)).off + 1, none⟩ = some (.string t.f1) ∧ w'.cell? ⟨(ad.add (i * 6)).block, (ad.add (i * 6)).off + 2, none⟩ = some (.int .i64 t.f2.f0) ∧ w'.cell? ⟨(ad.add (i * 6)).block, (ad.add (i * 6)).off + 3, none⟩ = some (.int .i64 t.f2.f1) ∧ w'.cell? ⟨(ad.add (i * 6)).block, (ad.add (i * 6)).off + 4, none⟩ = some (.int .i64 t.f2.f2) ∧ w'.cell? ⟨(ad.add (i * 6)).block, (ad.add (i * 6)).off + 5, none⟩ = some (.int .i64 t.f3)) (fun j => !(Nat.beq j 20)) (by kernel_rfl) ?_
 rw [HWd.out]
 refine anyR_take (i := 0) (oi := { dst := some 19, op := .move (.tmp 0), type := 83, pos := "syntax.go:101", after := #[], guard := none }) (v := ?_) rfl (by kernel_rfl) (fun _ _ _ h => h) (Or.inl ⟨by rfl, ?_⟩) HS.out ?_
 rotate_left
 ·intro x h; (try dsimp only at h); go_simp; try (with_reducible rfl)
 try simp only [Act.put, List.setIfInBounds_toArray, List.set]
 refine anyR_take (i := 1) (oi := { dst := some 20, op := .move (.tmp 0), type := 83, pos := "syntax.go:101", after := #[], guard := none }) (v := ?_) rfl (by kernel_rfl) (fun _ _ _ h => h) (Or.inl ⟨by rfl, ?_⟩) HS.out ?_
 rotate_left
 ·intro x h; (try dsimp only at h); go_simp; try (with_reducible rfl)
 try simp only [Act.put, List.setIfInBounds_toArray, List.set]
 refine anyR_take (i := 2) (oi := { dst := some 21, op := .nilCheck (.tmp 20), type := 0, pos := "syntax.go:101", after := #[{ on := 1, ground := .data }], guard := none }) (v := ?_) rfl (by kernel_rfl) (fun _ _ _ h => h) (Or.inl ⟨by rfl, ?_⟩) HS.out ?_
 rotate_left
 ·intro x h; (try dsimp only at h); go_simp; try (with_reducible rfl)
 try simp only [Act.put, List.setIfInBounds_toArray, List.set]
 refine anyR_take (i := 3) (oi := { dst := some 22, op := .fieldAddr 85 (.tmp 21) 3, type := 0, pos := "syntax.go:101", after := #[{ on := 2, ground := .data }], guard := none }) (v := ?_) rfl (by kernel_rfl) (fun _ _ _ h => h) (Or.inl ⟨by rfl, ?_⟩) HS.out ?_
 rotate_left
 ·intro x h; (try dsimp only at h); go_simp; try (with_reducible rfl)
 try simp only [Act.put, List.setIfInBounds_toArray, List.set]
 refine anyR_take (i := 4) (oi := { dst := some 23, op := .load 38 (.tmp 22), type := 38, pos := "syntax.go:101", after := #[{ on := 3, ground := .data }], guard := none }) (v := ?_) rfl (by kernel_rfl) (fun _ _ _ h => h) (Or.inl ⟨by rfl, ?_⟩) HS.out ?_
 rotate_left
 ·intro x h; (try dsimp only at h); go_simp; try (with_reducible rfl)
 try simp only [Act.put, List.setIfInBounds_toArray, List.set]
 refine anyR_take (i := 5) (oi := { dst := some 24, op := .move (.tmp 0), type := 83, pos := "syntax.go:101", after := #[], guard := none }) (v := ?_) rfl (by kernel_rfl) (fun _ _ _ h => h) (Or.inl ⟨by rfl, ?_⟩) HS.out ?_
 rotate_left
 ·intro x h; (try dsimp only at h); go_simp; try (with_reducible rfl)
 try simp only [Act.put, List.setIfInBounds_toArray, List.set]
 refine anyR_take (i := 6) (oi := { dst := some 25, op := .nilCheck (.tmp 24), type := 0, pos := "syntax.go:101", after := #[{ on := 5, ground := .data }], guard := none }) (v := ?_) rfl (by kernel_rfl) (fun _ _ _ h => h) (Or.inl ⟨by rfl, ?_⟩) HS.out ?_
 rotate_left
 ·intro x h; (try dsimp only at h); go_simp; try (with_reducible rfl)
 try simp only [Act.put, List.setIfInBounds_toArray, List.set]
 refine anyR_take (i := 7) (oi := { dst := some 26, op := .fieldAddr 85 (.tmp 25) 0, type := 0, pos := "syntax.go:101", after := #[{ on := 6, ground := .data }], guard := none }) (v := ?_) rfl (by kernel_rfl) (fun _ _ _ h => h) (Or.inl ⟨by rfl, ?_⟩) HS.out ?_
 rotate_left
 ·intro x h; (try dsimp only at h); go_simp; try (with_reducible rfl)
 try simp only [Act.put, List.setIfInBounds_toArray, List.set]
 refine anyR_take (i := 8) (oi := { dst := some 27, op := .load 22 (.tmp 26), type := 22, pos := "syntax.go:101", after := #[{ on := 7, ground := .data }], guard := none }) (v := ?_) rfl (by kernel_rfl) (fun _ _ _ h => h) (Or.inl ⟨by rfl, ?_⟩) HS.out ?_
 rotate_left
 ·intro x h; (try dsimp only at h); go_simp; try (with_reducible rfl)
 try simp only [Act.put, List.setIfInBounds_toArray, List.set]
 refine anyR_take (i := 9) (oi := { dst := some 28, op := .move (.tmp 0), type := 83, pos := "syntax.go:101", after := #[], guard := none }) (v := ?_) rfl (by kernel_rfl) (fun _ _ _ h => h) (Or.inl ⟨by rfl, ?_⟩) HS.out ?_
 rotate_left
 ·intro x h; (try dsimp only at h); go_simp; try (with_reducible rfl)
 try simp only [Act.put, List.setIfInBounds_toArray, List.set]
 refine anyR_take (i := 10) (oi := { dst := some 29, op := .nilCheck (.tmp 28), type := 0, pos := "syntax.go:101", after := #[{ on := 9, ground := .data }], guard := none }) (v := ?_) rfl (by kernel_rfl) (fun _ _ _ h => h) (Or.inl ⟨by rfl, ?_⟩) HS.out ?_
 rotate_left
 ·intro x h; (try dsimp only at h); go_simp; try (with_reducible rfl)
 try simp only [Act.put, List.setIfInBounds_toArray, List.set]
 refine anyR_take (i := 11) (oi := { dst := some 30, op := .fieldAddr 85 (.tmp 29) 1, type := 0, pos := "syntax.go:101", after := #[{ on := 10, ground := .data }], guard := none }) (v := ?_) rfl (by kernel_rfl) (fun _ _ _ h => h) (Or.inl ⟨by rfl, ?_⟩) HS.out ?_
 rotate_left
 ·intro x h; (try dsimp only at h); go_simp; try (with_reducible rfl)
 try simp only [Act.put, List.setIfInBounds_toArray, List.set]
 refine anyR_take (i := 12) (oi := { dst := some 31, op := .load 3 (.tmp 30), type := 3, pos := "syntax.go:101", after := #[{ on := 11, ground := .data }], guard := none }) (v := ?_) rfl (by kernel_rfl) (fun _ _ _ h => h) (Or.inl ⟨by rfl, ?_⟩) HS.out ?_
 rotate_left
 ·intro x h; (try dsimp only at h); go_simp; try (with_reducible rfl)
 try simp only [Act.put, List.setIfInBounds_toArray, List.set]
 refine anyR_take (i := 13) (oi := { dst := some 32, op := .indexAddr 22 (.tmp 27) (.tmp 31), type := 0, pos := "syntax.go:101", after := #[{ on := 8, ground := .data }, { on := 12, ground := .data }], guard := none }) (v := ?_) rfl (by kernel_rfl) (fun _ _ _ h => h) (Or.inl ⟨by rfl, ?_⟩) HS.out ?_
 rotate_left
 ·intro x h; (try dsimp only at h); go_simp; try (with_reducible rfl)
 try simp only [Act.put, List.setIfInBounds_toArray, List.set]
 refine anyR_take (i := 14) (oi := { dst := some 33, op := .load 35 (.tmp 32), type := 35, pos := "syntax.go:101", after := #[{ on := 13, ground := .data }], guard := none }) (v := ?_) rfl (by kernel_rfl) (fun _ _ _ h => h) (Or.inl ⟨by rfl, ?_⟩) HS.out ?_
 rotate_left
 ·intro x h; (try dsimp only at h); go_simp; try (with_reducible rfl)
 try simp only [Act.put, List.setIfInBounds_toArray, List.set]
 refine anyR_take (i := 15) (oi := { dst := some 34, op := .build 46 #[(0, .const (.int .u8 2)), (2, .tmp 33)], type := 46, pos := "syntax.go:101", after := #[{ on := 14, ground := .data }], guard := none }) (v := ?_) rfl (by kernel_rfl) (fun _ _ _ h => h) (Or.inl ⟨by rfl, ?_⟩) HS.out ?_
 rotate_left
 ·intro x h; (try dsimp only at h); go_simp; try (with_reducible rfl)
 try simp only [Act.put, List.setIfInBounds_toArray, List.set]
 have HP6 := Lib.hid (HH.out.moved HBD.out)
 refine anyR_ready (rs := [16]) (by kernel_rfl) (by simp) ?_
 refine ReadyR.cons (o := { dst := some 35, op := .buildSlice 38 1 #[(0, .tmp 34)], type := 38, pos := "syntax.go:101", after := #[{ on := 15, ground := .data }], guard := none }) rfl (fun K hK => ?_) ReadyR.nil
 go_simp
 refine hK.out _ _ (fun _ => HSA.out _ (HBD.out.alloc HBD.out.size _)) ?_
 clear hK K
 try simp only [Act.put, List.setIfInBounds_toArray, List.set]
 refine anyR_ready (rs := [17]) (by kernel_rfl) (by simp) ?_
 refine ReadyR.cons (o := { dst := some 36, op := .call { callee := .builtin .append, args := #[.tmp 23, .tmp 35], argTypes := #[38, 38] }, type := 38, pos := "syntax.go:101", after := #[{ on := 4, ground := .data }, { on := 16, ground := .data }], guard := none }) rfl (fun K hK => ?_) ReadyR.nil
 refine step_ev (W := Wd2) rfl (.tmp 23) (.tmp 35) rfl p (u := ve) (q := out.length) (kc := out.flatMap evCells) (cs := [.int .u8 2, .int .u8 0, .int .u8 t.f0, .string t.f1, .int .i64 t.f2.f0, .int .i64 t.f2.f1, .int .i64 t.f2.f2, .int .i64 t.f3]) rfl rfl HP6.out.row rfl (evCells_one (leafE t)) (Nat.le_of_lt (blk_lt HP6.out.box)) (by have := HLO.out; omega) ?_
 intro G9 C9 w6 ho hg hat
 obtain ⟨⟨cur6, hcur, hfit⟩, hnx⟩ := HP6.out.next (e := leafE t) ho hg hat
 have hS7 : w6.cell? ⟨p, 0, none⟩ = some (.slice (some ad) l.length c) ∧ w6.cell? ⟨p, 1, none⟩ = some (.int .i64 i) ∧ w6.cell? ⟨p, 3, none⟩ = some (ve) ∧ w6.cell? (ad.add (i * 6)) = some (.int .u8 t.f0) ∧ w6.cell? ⟨(ad.add (i * 6)).block, (ad.add (i * 6)).off + 1, none⟩ = some (.string t.f1) ∧ w6.cell? ⟨(ad.add (i * 6)).block, (ad.add (i * 6)).off + 2, none⟩ = some (.int .i64 t.f2.f0) ∧ w6.cell? ⟨(ad.add (i * 6)).block, (ad.add (i * 6)).off + 3, none⟩ = some (.int .i64 t.f2.f1) ∧ w6.cell? ⟨(ad.add (i * 6)).block, (ad.add (i * 6)).off + 4, none⟩ = some (.int .i64 t.f2.f2) ∧ w6.cell? ⟨(ad.add (i * 6)).block, (ad.add (i * 6)).off + 5, none⟩ = some (.int .i64 t.f3) := sgrown HP6.out ⟨rfl, HT6.out⟩ hg HS.out
 have HS7 := Lib.hid hS7
 have HCU := Lib.hid (And.intro hcur hfit)
 have HNX := Lib.hid hnx
 refine hK.out _ _ (fun _ => hS7) ?_
 clear hK K ho hg hat hS7 hcur hfit hnx
 try simp only [Act.put, List.setIfInBounds_toArray, List.set]
 refine anyR_ready (rs := [18]) (by kernel_rfl) (by simp) ?_
 refine ReadyR.cons (o := { dst := some 37, op := .nilCheck (.tmp 19), type := 0, pos := "syntax.go:101", after := #[{ on := 0, ground := .data }, { on := 0, ground := .phase }, { on := 1, ground := .phase }, { on := 2, ground := .phase }, { on := 3, ground := .phase }, { on := 4, ground := .phase }, { on := 5, ground := .phase }, { on := 6, ground := .phase }, { on := 7, ground := .phase }, { on := 8, ground := .phase }, { on := 9, ground := .phase }, { on := 10, ground := .phase }, { on := 11, ground := .phase }, { on := 12, ground := .phase }, { on := 13, ground := .phase }, { on := 14, ground := .phase }, { on := 15, ground := .phase }, { on := 16, ground := .phase }, { on := 17, ground := .phase }], guard := none }) rfl (fun K hK => ?_) ReadyR.nil
 go_simp
 refine hK.out _ _ (fun _ => HS7.out) ?_
 clear hK K
 try simp only [Act.put, List.setIfInBounds_toArray, List.set]
 refine anyR_ready (rs := [19]) (by kernel_rfl) (by simp) ?_
 refine ReadyR.cons (o := { dst := some 38, op := .fieldAddr 85 (.tmp 37) 3, type := 0, pos := "syntax.go:101", after := #[{ on := 18, ground := .data }, { on := 0, ground := .phase }, { on := 1, ground := .phase }, { on := 2, ground := .phase }, { on := 3, ground := .phase }, { on := 4, ground := .phase }, { on := 5, ground := .phase }, { on := 6, ground := .phase }, { on := 7, ground := .phase }, { on := 8, ground := .phase }, { on := 9, ground := .phase }, { on := 10, ground := .phase }, { on := 11, ground := .phase }, { on := 12, ground := .phase }, { on := 13, ground := .phase }, { on := 14, ground := .phase }, { on := 15, ground := .phase }, { on := 16, ground := .phase }, { on := 17, ground := .phase }], guard := none }) rfl (fun K hK => ?_) ReadyR.nil
 go_simp
 refine hK.out _ _ (fun _ => HS7.out) ?_
 clear hK K
 try simp only [Act.put, List.setIfInBounds_toArray, List.set]
 refine anyR_ready (rs := [20]) (by kernel_rfl) (by simp) ?_
 refine ReadyR.cons (o := { dst := none, op := .store 38 (.tmp 38) (.tmp 36), type := 0, pos := "syntax.go:101", after := #[{ on := 19, ground := .data }, { on := 17, ground := .data }, { on := 17, ground := .chain }, { on := 0, ground := .phase }, { on := 1, ground := .phase }, { on := 2, ground := .phase }, { on := 3, ground := .phase }, { on := 4, ground := .phase }, { on := 5, ground := .phase }, { on := 6, ground := .phase }, { on := 7, ground := .phase }, { on := 8, ground := .phase }, { on := 9, ground := .phase }, { on := 10, ground := .phase }, { on := 11, ground := .phase }, { on := 12, ground := .phase }, { on := 13, ground := .phase }, { on := 14, ground := .phase }, { on := 15, ground := .phase }, { on := 16, ground := .phase }, { on := 17, ground := .phase }], guard := none }) rfl (fun K hK => ?_) ReadyR.nil
 refine step_store rfl rfl 38 (.tmp 38) (.tmp 36) rfl (g := p) (off := 3) (.slice (some ⟨G9, 0, none⟩) (out.length + 1) C9) [.slice (some ⟨G9, 0, none⟩) (out.length + 1) C9] rfl rfl rfl (by kernel_rfl) (fun v hv => by rw [List.mem_singleton.1 hv]; rfl) HCU.out.1 HCU.out.2 ?_
 have HN7 := Lib.hid (HNX.out _ rfl)
 refine hK.out _ _ (fun h => by cases h) ?_
 clear hK K HNX HCU HS7 HS HSA
 generalize w6.setCells p 3 [.slice (some ⟨G9, 0, none⟩) (out.length + 1) C9] = V7 at HN7 ⊢
 try simp only [Act.put, List.setIfInBounds_toArray, List.set]
 refine anyR_done (by kernel_rfl) ?_ _
 have HP7 := Lib.hid HN7.out.1
 have HQ7 := Lib.hid (((PStep.below HBD.out) : MStep p ve w ve Wd2).trans HN7.out.2)
 clear q0 q1 q2 q3 c0 c1 c2 c3 c4 c5 HN7
 obtain ⟨q0, q1, q2, q3⟩ := HP7.out.cell
 go_wp2_with (first
  | ((with_reducible refine gate_ (.store 3 (.tmp 45) (.tmp 43)) rfl ?_); refine wl_cells rfl rfl _ _ _ rfl (g := p) (off := 1) (.int .i64 ((i : Int) + 1)) [.int .i64 ((i : Int) + 1)] rfl rfl rfl (by kernel_rfl) (fun v hv => by rw [List.mem_singleton.1 hv]; rfl) HP7.out.box (by simp) ?_; intro V8 hV; obtain ⟨hA, hS⟩ := HP7.out.upd 1 (.int .i64 ((i : Int) + 1)) (by decide) (i' := i + 1) (d' := d) rfl HT6.out; rw [← hV] at hA hS; have HQ8 := Lib.hid (HQ7.out.trans hS); have HCM := Lib.hid (comments_any hA (by have := HLO.out; rw [List.length_append, List.length_singleton]; omega)); clear q0 q1 q2 q3 hV hA hS)
  | (go_at_call 57; (with_reducible refine Calls.mono HCM.out ?_); rintro e w9 ⟨rfl, ve9, hP9, hs9⟩; have HP9 := Lib.hid hP9; have HQ9 := Lib.hid (HQ8.out.trans hs9); clear hP9 hs9))
 go_end0
 exact ⟨rfl, ve9, HP9.out, HQ9.out⟩
end Go.Proofs.Ytmjbpgnjgblnmaa
