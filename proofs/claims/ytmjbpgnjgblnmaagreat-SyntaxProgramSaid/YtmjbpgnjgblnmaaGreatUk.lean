/- What the claim stands on: part Uk. -/
import Derived.Test.YtmjbpgnjgblnmaaGreatUj
import Derived.Test.YtmjbpgnjgblnmaaGreatUi
import Derived.BigQuiet
import Derived.Deep.QuietTactic
import Derived.BigRegion
import Derived.Laws.CopyRow
import Derived.Laws.IdiomCopy
import Derived.Laws.MakeOwn
import Derived.Deep.Slices
import Derived.ChangeArms
import Derived.OpenShut
set_option maxRecDepth 100000
set_option maxHeartbeats 8000000
set_option linter.unusedVariables false
set_option linter.unusedSimpArgs false
namespace Go.Proofs.YtmjbpgnjgblnmaaGreat.Tr
open Go.RowKit Go.Proofs.YtmjbpgnjgblnmaaGreatW.PrintWords Go.Proofs.YtmjbpgnjgblnmaaGreatW.PrintLast Go.Proofs.YtmjbpgnjgblnmaaGreatW.PrintMore
abbrev TB : TypeId := 86
def closeR (x : Nd) (r : List Ev) : List Nd → Option Nd
 | [] => if r = [] then some x else none
 | u :: S' => runB r (addKid u x :: S')
def NodeYes (l : List Ev) (at0 wi : Nat) (x : Nd) (a2 : Nat) : Prop := at0 < a2 ∧ a2 ≤ l.length ∧ ∀ S : List Nd, S.length + 1 = wi → runB (l.drop at0) S = closeR x (l.drop a2) S
def NodeNo (l : List Ev) (at0 wi : Nat) : Prop := ∀ S : List Nd, S.length + 1 = wi → runB (l.drop at0) S = none
def KidYes (l : List Ev) (at0 wi : Nat) (x : Nd) (a2 : Nat) : Prop := at0 < a2 ∧ a2 ≤ l.length ∧ ∀ (u : Nd) (S : List Nd), S.length + 1 = wi → runB (l.drop at0) (u :: S) = runB (l.drop a2) (addKid u x :: S)
def KidNo (l : List Ev) (at0 wi : Nat) : Prop := ∀ (u : Nd) (S : List Nd), S.length + 1 = wi → runB (l.drop at0) (u :: S) = none
def LoopAt (l : List Ev) (at0 wi : Nat) (k : Int) (acc : List Nd) (j : Nat) : Prop := at0 < j ∧ j ≤ l.length ∧ ∀ S : List Nd, S.length + 1 = wi → runB (l.drop at0) S = runB (l.drop j) (⟨k, noTk, acc⟩ :: S)
theorem drop_ev {l : List Ev} {i : Nat} {e : Ev} (h : l[i]? = some e) : l.drop i = e :: l.drop (i + 1) := by
 obtain ⟨hlt, he⟩ := List.getElem?_eq_some_iff.1 h
 rw [List.drop_eq_getElem_cons hlt, he]
theorem node_bad {l : List Ev} {i wi : Nat} {e : Ev} (h : l[i]? = some e) (h1 : e.f0 = 1) (hb : e.f1 = 0 ∨ 1000 < wi) (hw : wi ≤ 1001) : NodeNo l i wi := fun S hS => by
 rw [drop_ev h]
 unfold runB
 rw [if_pos h1, if_pos (by omega)]
theorem loop_start {l : List Ev} {i wi : Nat} {e : Ev} (h : l[i]? = some e) (h1 : e.f0 = 1) (h0 : e.f1 ≠ 0) (hw : wi ≤ 1000) : LoopAt l i wi e.f1 [] (i + 1) :=
 ⟨Nat.lt_succ_self i, (List.getElem?_eq_some_iff.1 h).1, fun S hS => by
  rw [drop_ev h]
  conv => lhs; unfold runB
  rw [if_pos h1, if_neg (by omega)]⟩
theorem loop_kid {l : List Ev} {i wi j a2 : Nat} {k : Int} {acc : List Nd} {x : Nd} (h : LoopAt l i wi k acc j) (hk : KidYes l j wi x a2) : LoopAt l i wi k (acc ++ [x]) a2 :=
 ⟨by have := h.1; have := hk.1; omega, hk.2.1, fun S hS => by rw [h.2.2 S hS, hk.2.2 _ S hS]; rfl⟩
theorem loop_no {l : List Ev} {i wi j : Nat} {k : Int} {acc : List Nd} (h : LoopAt l i wi k acc j) (hk : KidNo l j wi) : NodeNo l i wi := fun S hS => by rw [h.2.2 S hS, hk _ S hS]
theorem loop_end {l : List Ev} {i wi j : Nat} {k : Int} {acc : List Nd} (h : LoopAt l i wi k acc j) (hj : l.length ≤ j) : NodeNo l i wi := fun S hS => by
 rw [h.2.2 S hS, List.drop_of_length_le hj]
 unfold runB
 rfl
theorem loop_close {l : List Ev} {i wi j : Nat} {k : Int} {acc : List Nd} {e : Ev} (h : LoopAt l i wi k acc j) (he : l[j]? = some e) (h3 : e.f0 = 3) : (e.f1 = k → NodeYes l i wi ⟨k, noTk, acc⟩ (j + 1)) ∧ (e.f1 ≠ k → NodeNo l i wi) := by
 have hlt := (List.getElem?_eq_some_iff.1 he).1
 constructor
 ·intro hk
  refine ⟨by have := h.1; omega, hlt, fun S hS => ?_⟩
  rw [h.2.2 S hS, drop_ev he]
  conv => lhs; unfold runB
  rw [if_neg (by omega), if_neg (by omega), if_pos h3]
  dsimp only
  rw [if_pos hk.symm]
  cases S with
  | nil => rfl
  | cons u S' => rfl
 ·intro hk S hS
  rw [h.2.2 S hS, drop_ev he]
  unfold runB
  rw [if_neg (by omega), if_neg (by omega), if_pos h3]
  dsimp only
  rw [if_neg (Ne.symm hk)]
theorem kid_end {l : List Ev} {i wi : Nat} (h : l.length ≤ i) : KidNo l i wi := fun u S _ => by
 rw [List.drop_of_length_le h]
 unfold runB
 rfl
theorem kid_tok {l : List Ev} {i wi : Nat} {e : Ev} (h : l[i]? = some e) (hk : e.f0 = 2 ∨ e.f0 = 4) : (isNote e.f2 = (e.f0 == 4) → KidYes l i wi ⟨0, e.f2, []⟩ (i + 1)) ∧ (isNote e.f2 ≠ (e.f0 == 4) → KidNo l i wi) := by
 constructor
 ·intro hn
  refine ⟨Nat.lt_succ_self i, (List.getElem?_eq_some_iff.1 h).1, fun u S _ => ?_⟩
  rw [drop_ev h]
  conv => lhs; unfold runB
  rw [if_neg (by omega), if_pos hk]
  dsimp only
  rw [if_pos hn]
 ·intro hn u S _
  rw [drop_ev h]
  unfold runB
  rw [if_neg (by omega), if_pos hk]
  dsimp only
  rw [if_neg hn]
theorem kid_node {l : List Ev} {i wi a2 : Nat} {x : Nd} (h : NodeYes l i (wi + 1) x a2) : KidYes l i wi x a2 := ⟨h.1, h.2.1, fun u S hS => by rw [h.2.2 (u :: S) (by simp; omega)]; rfl⟩
theorem kid_nodeNo {l : List Ev} {i wi : Nat} (h : NodeNo l i (wi + 1)) : KidNo l i wi := fun u S hS => h (u :: S) (by simp; omega)
theorem kid_other {l : List Ev} {i wi : Nat} {e : Ev} (h : l[i]? = some e) (h1 : e.f0 ≠ 1) (h2 : e.f0 ≠ 2) (h4 : e.f0 ≠ 4) (h3 : e.f0 ≠ 3) : KidNo l i wi := fun u S hS => by
 rw [drop_ev h]
 unfold runB
 rw [if_neg h1, if_neg (by omega)]
 rw [if_neg h3]
theorem ref_bld {l : List Ev} : (∀ e, l[0]? = some e → e.f0 ≠ 1) → runB l [] = none := by
 intro h
 cases l with
 | nil => rfl
 | cons e r =>
  have h1 := h e rfl
  unfold runB
  rw [if_neg h1]
  split
  ·rfl
  ·split <;> rfl
theorem ref_yes {l : List Ev} {x : Nd} {a2 : Nat} (h : NodeYes l 0 1 x a2) : runB l [] = if a2 = l.length then some x else none := by
 have := h.2.2 [] rfl
 rw [List.drop_zero] at this
 rw [this, closeR]
 by_cases ha : a2 = l.length
 ·rw [if_pos ha, if_pos (by rw [ha, List.drop_length])]
 ·rw [if_neg ha, if_neg (fun hd => ha (by have := List.drop_eq_nil_iff.1 hd; have := h.2.1; omega))]
theorem ref_no {l : List Ev} (h : NodeNo l 0 1) : runB l [] = none := by
 have := h [] rfl
 rwa [List.drop_zero] at this
theorem infoBt : (Tryz.prog.info? TB).map (·.size) = some 10 := by kernel_rfl
def btCells (x : Nd) (v : Value) (z : Int) (b : Bool) : List Value := [.int .u8 x.f0, .int .u8 x.f1.f0, .string x.f1.f1, .int .i64 x.f1.f2.f0, .int .i64 x.f1.f2.f1, .int .i64 x.f1.f2.f2, .int .i64 x.f1.f3, v, .int .i64 z, .bool b]
theorem btCells_one (x : Nd) {v : Value} (z : Int) (b : Bool) (hv : v.oneCell' = true) : ∀ u ∈ btCells x v z b, u.oneCell' = true := by
 intro u hu
 simp only [btCells, List.mem_cons, List.not_mem_nil, or_false] at hu
 rcases hu with rfl | rfl | rfl | rfl | rfl | rfl | rfl | rfl | rfl | rfl <;> first | rfl | exact hv
def YesPost (w : World) (x : Nd) (a2 : Nat) (e : Ending) (w' : World) : Prop := ∃ A c, e = .returned (.agg (btCells x (.slice A x.f2.length c) a2 true).toArray) ∧ OwnS w' w.heap.size (.slice A x.f2.length c) x.f2 (fun _ => True) ∧ Below w.heap.size w w'
def NoPost (w : World) (e : Ending) (w' : World) : Prop := ∃ (y : Nd) (z : Int), e = .returned (.agg (btCells y (.slice none 0 0) z false).toArray) ∧ Below w.heap.size w w'
def NodePost (l : List Ev) (at0 wi : Nat) (w : World) (e : Ending) (w' : World) : Prop := (∃ x a2, NodeYes l at0 wi x a2 ∧ YesPost w x a2 e w') ∨ (NodeNo l at0 wi ∧ NoPost w e w')
def KidPost (l : List Ev) (at0 wi : Nat) (w : World) (e : Ending) (w' : World) : Prop := (∃ x a2, KidYes l at0 wi x a2 ∧ YesPost w x a2 e w') ∨ (KidNo l at0 wi ∧ NoPost w e w')
theorem bt_box {W : World} {b : Nat} {v0 v1 v2 v3 v4 v5 v6 v7 v8 v9 : Value} {T : TypeId} (h : W.heap[b]? = some (.cells #[v0, v1, v2, v3, v4, v5, v6, v7, v8, v9] T (0, 0))) (V : World) (hV : Below W.heap.size W V) :
  V.cell? ⟨b, 0, none⟩ = some v0 ∧ V.cell? ⟨b, 1, none⟩ = some v1 ∧ V.cell? ⟨b, 2, none⟩ = some v2 ∧ V.cell? ⟨b, 3, none⟩ = some v3 ∧ V.cell? ⟨b, 4, none⟩ = some v4 ∧ V.cell? ⟨b, 5, none⟩ = some v5 ∧ V.cell? ⟨b, 6, none⟩ = some v6 ∧ V.cell? ⟨b, 7, none⟩ = some v7 ∧ V.cell? ⟨b, 8, none⟩ = some v8 ∧ V.cell? ⟨b, 9, none⟩ = some v9 :=
 ⟨pw_cell_below hV (cR _ h), pw_cell_below hV (cR _ h), pw_cell_below hV (cR _ h), pw_cell_below hV (cR _ h), pw_cell_below hV (cR _ h), pw_cell_below hV (cR _ h), pw_cell_below hV (cR _ h), pw_cell_below hV (cR _ h), pw_cell_below hV (cR _ h), pw_cell_below hV (cR _ h)⟩
theorem ev_box {W : World} {b : Nat} {v0 v1 v2 v3 v4 v5 v6 v7 : Value} {T : TypeId} (h : W.heap[b]? = some (.cells #[v0, v1, v2, v3, v4, v5, v6, v7] T (0, 0))) (V : World) (hV : Below W.heap.size W V) :
  V.cell? ⟨b, 0, none⟩ = some v0 ∧ V.cell? ⟨b, 1, none⟩ = some v1 ∧ V.cell? ⟨b, 2, none⟩ = some v2 ∧ V.cell? ⟨b, 3, none⟩ = some v3 ∧ V.cell? ⟨b, 4, none⟩ = some v4 ∧ V.cell? ⟨b, 5, none⟩ = some v5 ∧ V.cell? ⟨b, 6, none⟩ = some v6 ∧ V.cell? ⟨b, 7, none⟩ = some v7 :=
 ⟨pw_cell_below hV (cR _ h), pw_cell_below hV (cR _ h), pw_cell_below hV (cR _ h), pw_cell_below hV (cR _ h), pw_cell_below hV (cR _ h), pw_cell_below hV (cR _ h), pw_cell_below hV (cR _ h), pw_cell_below hV (cR _ h)⟩
theorem comment2 (t : Tk) (w : World) : Calls Tryz.prog 79 #[.agg #[.int .u8 t.f0, .string t.f1, .int .i64 t.f2.f0, .int .i64 t.f2.f1, .int .i64 t.f2.f2, .int .i64 t.f3]] w fun e w' => e = .returned (.bool (isNote t)) ∧ Below w.heap.size w w' := by
 refine PSyntaxProgram.colophonref13_Comment.calls t.f0 t.f1 t.f2.f0 t.f2.f1 t.f2.f2 t.f3 (isNote t) w ?_
 unfold PSyntaxProgram.colophonref13_Comment.f isNote
 by_cases h : t.f0 = 7
 ·rw [if_pos h, h]; rfl
 ·rw [if_neg h]
  by_cases h8 : t.f0 = 8
  ·simp [h8]
  ·simp [h, h8]
def NodeAll (l : List Ev) (A : Option Addr) (n c N : Nat) : Prop := ∀ (i wi : Nat) (e : Ev) (w : World), n - i ≤ N → l[i]? = some e → e.f0 = 1 → 1 ≤ wi → wi ≤ 1001 → Kd.C kEv w A n l → Calls Tryz.prog 41 #[.slice A n c, .int .i64 i, .int .i64 wi] w fun e w' => NodePost l i wi w e w'
def KidAll (l : List Ev) (A : Option Addr) (n c N : Nat) : Prop := ∀ (i wi : Nat) (w : World), n - i ≤ N → i ≤ n → (∀ e, l[i]? = some e → e.f0 ≠ 3) → 1 ≤ wi → wi ≤ 1000 → Kd.C kEv w A n l → Calls Tryz.prog 57 #[.slice A n c, .int .i64 i, .int .i64 wi] w fun e w' => KidPost l i wi w e w'
theorem kid_of (l : List Ev) (A : Option Addr) (n c N : Nat) (hn : l.length = n) (hbig : n ≤ 549755813888) (hnode : NodeAll l A n c N) : KidAll l A n c N := by
 intro i wi w hN hin h3 hw1 hw2 hC
 have HNO := zh hnode
 have HC := zh hC
 have H3 := zh h3
 have HL := zh hn
 have HN := zh hN
 clear hnode hC h3 hn hN
 by_cases hlt : i < n
 ·have dlt : decide (n ≤ i) = false := decide_eq_false (by omega)
  obtain ⟨e, he⟩ : ∃ e, l[i]? = some e := ⟨_, List.getElem?_eq_getElem (by have := HL.out; omega)⟩
  have hE := evAt_of (Kd.C_below HC.out ((Below.refl _ w).alloc (Nat.le_refl _) (.cells #[.int .u8 0, .int .u8 0, .string ⟨#[]⟩, .int .i64 0, .int .i64 0, .int .i64 0, .int .i64 0, .slice none 0 0, .int .i64 0, .bool false] TB))) i e hlt he
  have hk3 := H3.out e he
  obtain ⟨k, nd, k0, tx, ⟨p0, p1, p2⟩, fd⟩ := e
  obtain ⟨ad, rfl, e0, e1, e2, e3, e4, e5, e6, e7⟩ := hE.cell
  dsimp only at e0 e1 e2 e3 e4 e5 e6 e7 hk3
  obtain ⟨W1, hW1⟩ : ∃ V, (w.alloc (.cells #[.int .u8 0, .int .u8 0, .string ⟨#[]⟩, .int .i64 0, .int .i64 0, .int .i64 0, .int .i64 0, .slice none 0 0, .int .i64 0, .bool false] TB)).alloc (.cells #[.int .u8 k, .int .u8 nd, .int .u8 k0, .string tx, .int .i64 p0, .int .i64 p1, .int .i64 p2, .int .i64 fd] 48) = V := ⟨_, rfl⟩
  have hb1 : Below w.heap.size w W1 := by rw [← hW1]; exact ((Below.refl _ w).alloc (Nat.le_refl _) _).alloc (by simp) _
  have hz1 : W1.heap[w.heap.size]? = some (.cells #[.int .u8 0, .int .u8 0, .string ⟨#[]⟩, .int .i64 0, .int .i64 0, .int .i64 0, .int .i64 0, .slice none 0 0, .int .i64 0, .bool false] TB (0, 0)) := by rw [← hW1]; exact (Below.heap_alloc _ _ _ (by simp)).trans (World.alloc_heap_new w _)
  have hev : W1.heap[w.heap.size + 1]? = some (.cells #[.int .u8 k, .int .u8 nd, .int .u8 k0, .string tx, .int .i64 p0, .int .i64 p1, .int .i64 p2, .int .i64 fd] 48 (0, 0)) := by
   rw [← hW1]
   have := World.alloc_heap_new (w.alloc (.cells #[.int .u8 0, .int .u8 0, .string ⟨#[]⟩, .int .i64 0, .int .i64 0, .int .i64 0, .int .i64 0, .slice none 0 0, .int .i64 0, .bool false] TB)) (.cells #[.int .u8 k, .int .u8 nd, .int .u8 k0, .string tx, .int .i64 p0, .int .i64 p1, .int .i64 p2, .int .i64 fd] 48)
   rwa [World.size_alloc] at this
  have HB1 := zh hb1
  have HZ1 := zh hz1
  have HEB := zh (ev_box hev)
  have HW1 := zh hW1
  have g1 : (0 : Int) ≤ (i : Int) := by omega
  have g2 : (i : Int) < (n : Int) := by omega
  clear hb1 hz1 hev hE hW1
  by_cases hk2 : k = 2
  ·subst hk2
   have hk : (⟨2, nd, k0, tx, ⟨p0, p1, p2⟩, fd⟩ : Ev).f0 = 2 ∨ (⟨2, nd, k0, tx, ⟨p0, p1, p2⟩, fd⟩ : Ev).f0 = 4 := by simp
   have ht := kid_tok (wi := wi) he hk
   have HT := zh ht
   obtain ⟨nb, hnb⟩ : ∃ b, isNote ⟨k0, tx, ⟨p0, p1, p2⟩, fd⟩ = b := ⟨_, rfl⟩
   have HCM := zh (comment2 ⟨k0, tx, ⟨p0, p1, p2⟩, fd⟩)
   have HNB := zh hnb
   clear he hk ht hnb
   cases nb with
   | false =>
    go_enter Tryz.func57, Tryz.ntmps57
    go_upto_region 4 with (fail)
    rw [HW1.out]
    obtain ⟨q0, q1, q2, q3, q4, q5, q6, q7⟩ := HEB.out W1 (Below.refl _ _)
    clear HW1
    go_wp2_with (first
     | (go_at_call 79; refine (HCM.out W1).mono ?_; rintro e w2 ⟨rfl, hb2⟩; rw [HNB.out]; have HB2 := zh hb2; have HZ2 := zh ((hb2.block _ (blk_lt HZ1.out)).trans HZ1.out); obtain ⟨q0, q1, q2, q3, q4, q5, q6, q7⟩ := HEB.out w2 hb2; clear hb2)
     | ((with_reducible refine gate_ (.store TB (.tmp 6) (.tmp 32)) rfl ?_); refine wl_box rfl rfl _ _ _ rfl (.agg (btCells ⟨0, ⟨k0, tx, ⟨p0, p1, p2⟩, fd⟩, []⟩ (.slice none 0 0) ((i + 1 : Nat) : Int) true).toArray) (btCells ⟨0, ⟨k0, tx, ⟨p0, p1, p2⟩, fd⟩, []⟩ (.slice none 0 0) ((i + 1 : Nat) : Int) true) rfl rfl rfl infoBt (btCells_one _ _ _ rfl) HZ2.out rfl ?_; intro w5 h5 hu5; have HU := zh hu5; obtain ⟨r0, r1, r2, r3, r4, r5, r6, r7, r8, r9⟩ := bt_box h5 w5 (Below.refl _ _); clear h5 hu5))
    refine bodyPost_ret (v := .agg (btCells ⟨0, ⟨k0, tx, ⟨p0, p1, p2⟩, fd⟩, []⟩ (.slice none 0 0) ((i + 1 : Nat) : Int) true).toArray) ?_ rfl (.inl ⟨⟨0, ⟨k0, tx, ⟨p0, p1, p2⟩, fd⟩, []⟩, i + 1, HT.out.1 (by rw [HNB.out]; rfl), none, 0, rfl, ownS_nil _ _ _, HU.out.below (HB1.out.trans (HB2.out.mono HB1.out.size)) (Nat.le_refl _)⟩)
    ·unfold results
     rw [show Tryz.f57.results = #[.cell 6 TB] from rfl]
     go_simp
     rfl
   | true =>
    go_enter Tryz.func57, Tryz.ntmps57
    go_upto_region 4 with (fail)
    rw [HW1.out]
    obtain ⟨q0, q1, q2, q3, q4, q5, q6, q7⟩ := HEB.out W1 (Below.refl _ _)
    clear HW1
    go_wp2_with (first
     | (go_at_call 79; refine (HCM.out W1).mono ?_; rintro e w2 ⟨rfl, hb2⟩; rw [HNB.out]; have HB2 := zh hb2; have HZ2 := zh ((hb2.block _ (blk_lt HZ1.out)).trans HZ1.out); obtain ⟨q0, q1, q2, q3, q4, q5, q6, q7⟩ := HEB.out w2 hb2; clear hb2)
     | ((with_reducible refine gate_ (.store TB (.tmp 6) (.tmp 32)) rfl ?_); refine wl_box rfl rfl _ _ _ rfl (.agg (btCells ⟨0, ⟨k0, tx, ⟨p0, p1, p2⟩, fd⟩, []⟩ (.slice none 0 0) ((i + 1 : Nat) : Int) false).toArray) (btCells ⟨0, ⟨k0, tx, ⟨p0, p1, p2⟩, fd⟩, []⟩ (.slice none 0 0) ((i + 1 : Nat) : Int) false) rfl rfl rfl infoBt (btCells_one _ _ _ rfl) HZ2.out rfl ?_; intro w5 h5 hu5; have HU := zh hu5; obtain ⟨r0, r1, r2, r3, r4, r5, r6, r7, r8, r9⟩ := bt_box h5 w5 (Below.refl _ _); clear h5 hu5))
    refine bodyPost_ret (v := .agg (btCells ⟨0, ⟨k0, tx, ⟨p0, p1, p2⟩, fd⟩, []⟩ (.slice none 0 0) ((i + 1 : Nat) : Int) false).toArray) ?_ rfl (.inr ⟨HT.out.2 (by rw [HNB.out]; decide), ⟨0, ⟨k0, tx, ⟨p0, p1, p2⟩, fd⟩, []⟩, (i + 1 : Nat), rfl, HU.out.below (HB1.out.trans (HB2.out.mono HB1.out.size)) (Nat.le_refl _)⟩)
    ·unfold results
     rw [show Tryz.f57.results = #[.cell 6 TB] from rfl]
     go_simp
     rfl
  ·by_cases hk4 : k = 4
   ·subst hk4
    have hk : (⟨4, nd, k0, tx, ⟨p0, p1, p2⟩, fd⟩ : Ev).f0 = 2 ∨ (⟨4, nd, k0, tx, ⟨p0, p1, p2⟩, fd⟩ : Ev).f0 = 4 := by simp
    have ht := kid_tok (wi := wi) he hk
    have HT := zh ht
    obtain ⟨nb, hnb⟩ : ∃ b, isNote ⟨k0, tx, ⟨p0, p1, p2⟩, fd⟩ = b := ⟨_, rfl⟩
    have HCM := zh (comment2 ⟨k0, tx, ⟨p0, p1, p2⟩, fd⟩)
    have HNB := zh hnb
    clear he hk ht hnb
    cases nb with
    | false =>
     go_enter Tryz.func57, Tryz.ntmps57
     go_upto_region 4 with (fail)
     rw [HW1.out]
     obtain ⟨q0, q1, q2, q3, q4, q5, q6, q7⟩ := HEB.out W1 (Below.refl _ _)
     clear HW1
     go_wp2_with (first
      | (go_at_call 79; refine (HCM.out W1).mono ?_; rintro e w2 ⟨rfl, hb2⟩; rw [HNB.out]; have HB2 := zh hb2; have HZ2 := zh ((hb2.block _ (blk_lt HZ1.out)).trans HZ1.out); obtain ⟨q0, q1, q2, q3, q4, q5, q6, q7⟩ := HEB.out w2 hb2; clear hb2)
      | ((with_reducible refine gate_ (.store TB (.tmp 6) (.tmp 41)) rfl ?_); refine wl_box rfl rfl _ _ _ rfl (.agg (btCells ⟨0, ⟨k0, tx, ⟨p0, p1, p2⟩, fd⟩, []⟩ (.slice none 0 0) ((i + 1 : Nat) : Int) false).toArray) (btCells ⟨0, ⟨k0, tx, ⟨p0, p1, p2⟩, fd⟩, []⟩ (.slice none 0 0) ((i + 1 : Nat) : Int) false) rfl rfl rfl infoBt (btCells_one _ _ _ rfl) HZ2.out rfl ?_; intro w5 h5 hu5; have HU := zh hu5; obtain ⟨r0, r1, r2, r3, r4, r5, r6, r7, r8, r9⟩ := bt_box h5 w5 (Below.refl _ _); clear h5 hu5))
     refine bodyPost_ret (v := .agg (btCells ⟨0, ⟨k0, tx, ⟨p0, p1, p2⟩, fd⟩, []⟩ (.slice none 0 0) ((i + 1 : Nat) : Int) false).toArray) ?_ rfl (.inr ⟨HT.out.2 (by rw [HNB.out]; decide), ⟨0, ⟨k0, tx, ⟨p0, p1, p2⟩, fd⟩, []⟩, (i + 1 : Nat), rfl, HU.out.below (HB1.out.trans (HB2.out.mono HB1.out.size)) (Nat.le_refl _)⟩)
     ·unfold results
      rw [show Tryz.f57.results = #[.cell 6 TB] from rfl]
      go_simp
      rfl
    | true =>
     go_enter Tryz.func57, Tryz.ntmps57
     go_upto_region 4 with (fail)
     rw [HW1.out]
     obtain ⟨q0, q1, q2, q3, q4, q5, q6, q7⟩ := HEB.out W1 (Below.refl _ _)
     clear HW1
     go_wp2_with (first
      | (go_at_call 79; refine (HCM.out W1).mono ?_; rintro e w2 ⟨rfl, hb2⟩; rw [HNB.out]; have HB2 := zh hb2; have HZ2 := zh ((hb2.block _ (blk_lt HZ1.out)).trans HZ1.out); obtain ⟨q0, q1, q2, q3, q4, q5, q6, q7⟩ := HEB.out w2 hb2; clear hb2)
      | ((with_reducible refine gate_ (.store TB (.tmp 6) (.tmp 41)) rfl ?_); refine wl_box rfl rfl _ _ _ rfl (.agg (btCells ⟨0, ⟨k0, tx, ⟨p0, p1, p2⟩, fd⟩, []⟩ (.slice none 0 0) ((i + 1 : Nat) : Int) true).toArray) (btCells ⟨0, ⟨k0, tx, ⟨p0, p1, p2⟩, fd⟩, []⟩ (.slice none 0 0) ((i + 1 : Nat) : Int) true) rfl rfl rfl infoBt (btCells_one _ _ _ rfl) HZ2.out rfl ?_; intro w5 h5 hu5; have HU := zh hu5; obtain ⟨r0, r1, r2, r3, r4, r5, r6, r7, r8, r9⟩ := bt_box h5 w5 (Below.refl _ _); clear h5 hu5))
     refine bodyPost_ret (v := .agg (btCells ⟨0, ⟨k0, tx, ⟨p0, p1, p2⟩, fd⟩, []⟩ (.slice none 0 0) ((i + 1 : Nat) : Int) true).toArray) ?_ rfl (.inl ⟨⟨0, ⟨k0, tx, ⟨p0, p1, p2⟩, fd⟩, []⟩, i + 1, HT.out.1 (by rw [HNB.out]; rfl), none, 0, rfl, ownS_nil _ _ _, HU.out.below (HB1.out.trans (HB2.out.mono HB1.out.size)) (Nat.le_refl _)⟩)
     ·unfold results
      rw [show Tryz.f57.results = #[.cell 6 TB] from rfl]
      go_simp
      rfl
   ·have d2 : (k == 2) = false := beq_eq_false_iff_ne.2 hk2
    have d4 : (k == 4) = false := beq_eq_false_iff_ne.2 hk4
    obtain ⟨nb, hnb⟩ : ∃ b, isNote ⟨k0, tx, ⟨p0, p1, p2⟩, fd⟩ = b := ⟨_, rfl⟩
    have HCM := zh (comment2 ⟨k0, tx, ⟨p0, p1, p2⟩, fd⟩)
    have HNB := zh hnb
    clear hnb
    by_cases hk1 : k = 1
    ·subst hk1
     have HIH := zh (fun V (hV : Below w.heap.size w V) => HNO.out i (wi + 1) _ V HN.out he rfl (by omega) (by omega) (Kd.C_below HC.out hV))
     clear he
     go_enter Tryz.func57, Tryz.ntmps57
     go_upto_region 4 with (fail)
     rw [HW1.out]
     obtain ⟨q0, q1, q2, q3, q4, q5, q6, q7⟩ := HEB.out W1 (Below.refl _ _)
     clear HW1
     go_wp2_with (first
      | (go_at_call 79; refine (HCM.out W1).mono ?_; rintro e w2 ⟨rfl, hb2⟩; rw [HNB.out]; have HB2 := zh (HB1.out.trans (hb2.mono HB1.out.size)); have HZ2 := zh ((hb2.block _ (blk_lt HZ1.out)).trans HZ1.out); obtain ⟨q0, q1, q2, q3, q4, q5, q6, q7⟩ := HEB.out w2 hb2; clear hb2))
     refine (HIH.out w2 HB2.out).mono ?_
     rintro e w3 (⟨x, a2, hy, A3, c3, he, ho, hb3⟩ | ⟨hno, y, z, he, hb3⟩)
     ·subst he
      have HB3 := zh (HB2.out.trans (hb3.mono HB2.out.size))
      have HZ3 := zh ((hb3.block _ (blk_lt HZ2.out)).trans HZ2.out)
      have HO := zh ho
      have HYS := zh (kid_node hy)
      have HLT := zh (blk_lt HZ2.out)
      clear hb3 ho hy
      go_wp2_with ((with_reducible refine gate_ (.store TB (.tmp 6) (.tmp 48)) rfl ?_); refine wl_box rfl rfl _ _ _ rfl (.agg (btCells x (.slice A3 x.f2.length c3) a2 true).toArray) (btCells x (.slice A3 x.f2.length c3) a2 true) rfl rfl rfl infoBt (btCells_one _ _ _ rfl) HZ3.out rfl ?_; intro w5 h5 hu5; have HU := zh hu5; obtain ⟨r0, r1, r2, r3, r4, r5, r6, r7, r8, r9⟩ := bt_box h5 w5 (Below.refl _ _); clear h5 hu5)
      refine bodyPost_ret (v := .agg (btCells x (.slice A3 x.f2.length c3) a2 true).toArray) ?_ rfl (.inl ⟨x, a2, HYS.out, A3, c3, rfl, ?_, HU.out.below HB3.out (Nat.le_refl _)⟩)
      ·unfold results
       rw [show Tryz.f57.results = #[.cell 6 TB] from rfl]
       go_simp
       rfl
      ·exact ownS_lower HB2.out.size (ownS_step HO.out (fun b _ hl => HU.out.far b (by have := hl.1; have := HLT.out; omega)))
     ·subst he
      have HB3 := zh (HB2.out.trans (hb3.mono HB2.out.size))
      have HZ3 := zh ((hb3.block _ (blk_lt HZ2.out)).trans HZ2.out)
      have HNN := zh (kid_nodeNo hno)
      clear hb3 hno
      go_wp2_with ((with_reducible refine gate_ (.store TB (.tmp 6) (.tmp 48)) rfl ?_); refine wl_box rfl rfl _ _ _ rfl (.agg (btCells y (.slice none 0 0) z false).toArray) (btCells y (.slice none 0 0) z false) rfl rfl rfl infoBt (btCells_one _ _ _ rfl) HZ3.out rfl ?_; intro w5 h5 hu5; have HU := zh hu5; obtain ⟨r0, r1, r2, r3, r4, r5, r6, r7, r8, r9⟩ := bt_box h5 w5 (Below.refl _ _); clear h5 hu5)
      refine bodyPost_ret (v := .agg (btCells y (.slice none 0 0) z false).toArray) ?_ rfl (.inr ⟨HNN.out, y, z, rfl, HU.out.below HB3.out (Nat.le_refl _)⟩)
      ·unfold results
       rw [show Tryz.f57.results = #[.cell 6 TB] from rfl]
       go_simp
       rfl
    ·have d1 : (k == 1) = false := beq_eq_false_iff_ne.2 hk1
     have HNN := zh (kid_other (wi := wi) he hk1 hk2 hk4 hk3)
     clear he
     go_enter Tryz.func57, Tryz.ntmps57
     go_upto_region 4 with (fail)
     rw [HW1.out]
     obtain ⟨q0, q1, q2, q3, q4, q5, q6, q7⟩ := HEB.out W1 (Below.refl _ _)
     clear HW1
     go_wp2_with (first
      | (go_at_call 79; refine (HCM.out W1).mono ?_; rintro e w2 ⟨rfl, hb2⟩; rw [HNB.out]; have HB2 := zh (HB1.out.trans (hb2.mono HB1.out.size)); have HZ2 := zh ((hb2.block _ (blk_lt HZ1.out)).trans HZ1.out); obtain ⟨q0, q1, q2, q3, q4, q5, q6, q7⟩ := HEB.out w2 hb2; clear hb2)
      | ((with_reducible refine gate_ (.store TB (.tmp 6) (.tmp 49)) rfl ?_); refine wl_box rfl rfl _ _ _ rfl (.agg (btCells noNd (.slice none 0 0) 0 false).toArray) (btCells noNd (.slice none 0 0) 0 false) rfl rfl rfl infoBt (btCells_one _ _ _ rfl) HZ2.out rfl ?_; intro w5 h5 hu5; have HU := zh hu5; obtain ⟨r0, r1, r2, r3, r4, r5, r6, r7, r8, r9⟩ := bt_box h5 w5 (Below.refl _ _); clear h5 hu5))
     refine bodyPost_ret (v := .agg (btCells noNd (.slice none 0 0) 0 false).toArray) ?_ rfl (.inr ⟨HNN.out, noNd, 0, rfl, HU.out.below HB2.out (Nat.le_refl _)⟩)
     ·unfold results
      rw [show Tryz.f57.results = #[.cell 6 TB] from rfl]
      go_simp
      rfl
 ·have dlt : decide (n ≤ i) = true := decide_eq_true (by omega)
  have HNN := zh (kid_end (l := l) (i := i) (wi := wi) (by have := HL.out; omega))
  go_enter Tryz.func57, Tryz.ntmps57
  go_wp2
  refine bodyPost_ret (v := .agg (btCells noNd (.slice none 0 0) 0 false).toArray) ?_ rfl (.inr ⟨HNN.out, noNd, 0, rfl, (Below.refl _ w).alloc (Nat.le_refl _) _⟩)
  ·unfold results
   rw [show Tryz.f57.results = #[.cell 6 TB] from rfl]
   go_simp
   rfl
structure NMem (w wr : World) (k : Int) (acc : List Nd) (v : Value) : Prop where
 b0 : wr.heap[w.heap.size]? = some (.cells #[.int .u8 0, .int .u8 0, .string ⟨#[]⟩, .int .i64 0, .int .i64 0, .int .i64 0, .int .i64 0, .slice none 0 0, .int .i64 0, .bool false] TB (0, 0))
 b1 : wr.heap[w.heap.size + 1]? = some (.cells #[.int .u8 k, .int .u8 0, .string ⟨#[]⟩, .int .i64 0, .int .i64 0, .int .i64 0, .int .i64 0, v] TN (0, 0))
 own : OwnS wr (w.heap.size + 2) v acc (fun _ => True)
 below : Below w.heap.size w wr
 size : w.heap.size + 2 ≤ wr.heap.size
theorem NMem.later {w wr wr' : World} {k : Int} {acc : List Nd} {v : Value} (h : NMem w wr k acc v) (hb : Below wr.heap.size wr wr') : NMem w wr' k acc v :=
 ⟨(hb.block _ (blk_lt h.b0)).trans h.b0, (hb.block _ (blk_lt h.b1)).trans h.b1, ownS_below h.own hb, h.below.trans (hb.mono (by have := h.size; omega)), Nat.le_trans h.size hb.size⟩
theorem NMem.start (w : World) (k : Int) : NMem w ((w.alloc (.cells #[.int .u8 0, .int .u8 0, .string ⟨#[]⟩, .int .i64 0, .int .i64 0, .int .i64 0, .int .i64 0, .slice none 0 0, .int .i64 0, .bool false] TB)).alloc (.cells #[.int .u8 k, .int .u8 0, .string ⟨#[]⟩, .int .i64 0, .int .i64 0, .int .i64 0, .int .i64 0, .slice none 0 0] TN)) k [] (.slice none 0 0) := by
 refine ⟨(Below.heap_alloc _ _ _ (by simp)).trans (World.alloc_heap_new w _), ?_, ownS_nil _ _ _, ((Below.refl _ w).alloc (Nat.le_refl _) _).alloc (by simp) _, by simp⟩
 have := World.alloc_heap_new (w.alloc (.cells #[.int .u8 0, .int .u8 0, .string ⟨#[]⟩, .int .i64 0, .int .i64 0, .int .i64 0, .int .i64 0, .slice none 0 0, .int .i64 0, .bool false] TB)) (.cells #[.int .u8 k, .int .u8 0, .string ⟨#[]⟩, .int .i64 0, .int .i64 0, .int .i64 0, .int .i64 0, .slice none 0 0] TN)
 rwa [World.size_alloc] at this
theorem NMem.push {w W w1 : World} {k : Int} {acc : List Nd} {v v1 : Value} {cells : List Value} {G : Nat → Prop} {base2 : Nat} {x : Nd} {u : Value} (h : NMem w W k acc v)
  (h2 : W.ownsRow (w.heap.size + 2) TN 8 v acc.length cells) (h3 : OwnL W (w.heap.size + 2) acc cells G) (h4 : ∀ b, v.ownBlock = some b → b < base2 ∧ ¬ G b) (h5 : ∀ b, G b → b < base2)
  (hx : OwnS W base2 u x.f2 (fun _ => True)) (hb2 : w.heap.size + 2 ≤ base2)
  (ho : w1.ownsRow (w.heap.size + 2) TN 8 v1 (acc.length + 1) (cells ++ ndCells x.f0 x.f1 u)) (hg : W.grownBy w1 v.ownBlock) (hat : v1.ownBlock = v.ownBlock ∨ ∃ b, v1.ownBlock = some b ∧ W.heap.size ≤ b) :
  NMem w (w1.setCell ⟨w.heap.size + 1, 7, none⟩ v1) k (acc ++ [x]) v1 := by
 have hvb : ∀ b, v.ownBlock = some b → w.heap.size + 2 ≤ b := fun b hb => own_base h2 b hb
 have hx' : Own W (w.heap.size + 2) x (ndCells x.f0 x.f1 u) (fun b => True ∧ Lies W base2 b) := own_iff.2 ⟨u, rfl, ownS_lower hb2 (ownS_bound hx)⟩
 have hs := grown_S (F := fun b => b < base2) h2 h3 h4 h5 hx' (fun b hb hl => by have := hl.2.1; omega) ho hg hat
 have keep : ∀ b, b ≠ w.heap.size + 1 → (w1.setCell ⟨w.heap.size + 1, 7, none⟩ v1).heap[b]? = w1.heap[b]? := fun b hb => Below.heap_setCell w1 ⟨w.heap.size + 1, 7, none⟩ v1 b hb
 have far : ∀ b, b < w.heap.size + 2 → w1.heap[b]? = W.heap[b]? := fun b hb => hg.block b (by have := h.size; omega) (fun e => by have := hvb b e.symm; omega)
 refine ⟨(keep _ (by omega)).trans ((far _ (by omega)).trans h.b0), ?_, ?_, ?_, ?_⟩
 ·exact Go.heap_setCell_same w1 (w.heap.size + 1) 7 _ TN v1 ((far _ (by omega)).trans h.b1)
 ·exact ownS_mono (ownS_step hs (fun b _ hl => keep b (by have := hl.1; omega))) (fun _ _ => trivial)
 ·exact (h.below.grown hg (by have := h.size; omega) (fun b hb => by have := hvb b hb; omega)).setCell (p := ⟨w.heap.size + 1, 7, none⟩) (by show w.heap.size ≤ w.heap.size + 1; omega) _
 ·rw [World.size_setCell]; exact Nat.le_trans h.size hg.size
theorem bt_new {W : World} {cs : Array Value} : ∃ V, W.alloc (.cells cs TB) = V ∧ V.heap[W.heap.size]? = some (.cells cs TB (0, 0)) ∧ Below W.heap.size W V ∧ V.heap.size = W.heap.size + 1 :=
 ⟨_, rfl, World.alloc_heap_new _ _, (Below.refl _ W).alloc (Nat.le_refl _) _, World.size_alloc _ _⟩
theorem node_any (l : List Ev) (A : Option Addr) (n c : Nat) (hn : l.length = n) (hbig : n ≤ 549755813888) : ∀ N, NodeAll l A n c N := by
 intro N
 induction N with
 | zero => intro i wi e w hN he; have := (List.getElem?_eq_some_iff.1 he).1; omega
 | succ N ih =>
  intro i wi e w hN he h1 hw1 hw2 hC
  have hkid := kid_of l A n c N hn hbig ih
  have hlt0 := (List.getElem?_eq_some_iff.1 he).1
  rw [hn] at hlt0
  have HC := zh hC
  have HL := zh hn
  have HN := zh hN
  have HKID := zh hkid
  have HE := zh (And.intro he h1)
  clear hC hkid ih
  have hE := evAt_of (Kd.C_below HC.out ((Below.refl _ w).alloc (Nat.le_refl _) (.cells #[.int .u8 0, .int .u8 0, .string ⟨#[]⟩, .int .i64 0, .int .i64 0, .int .i64 0, .int .i64 0, .slice none 0 0, .int .i64 0, .bool false] TB))) i e hlt0 he
  obtain ⟨k0, k, tk⟩ := e
  obtain ⟨ad, rfl, e0, e1, -⟩ := hE.cell
  dsimp only at e0 e1 h1
  subst h1
  have g1 : (0 : Int) ≤ (i : Int) := by omega
  have g2 : (i : Int) < (n : Int) := by omega
  obtain ⟨W0, hW0⟩ : ∃ V, (w.alloc (.cells #[.int .u8 0, .int .u8 0, .string ⟨#[]⟩, .int .i64 0, .int .i64 0, .int .i64 0, .int .i64 0, .slice none 0 0, .int .i64 0, .bool false] TB)).alloc (.cells #[.int .u8 k, .int .u8 0, .string ⟨#[]⟩, .int .i64 0, .int .i64 0, .int .i64 0, .int .i64 0, .slice none 0 0] TN) = V := ⟨_, rfl⟩
  have HI0 : Hid (NMem w W0 k [] (.slice none 0 0)) := zh (hW0 ▸ NMem.start w k)
  have HW0 := zh hW0
  clear hW0 hN hn hE
  by_cases hk0 : k = 0
  ·subst hk0
   have HNO := zh (node_bad he rfl (.inl rfl) hw2)
   clear he
   go_enter Tryz.func41, Tryz.ntmps41
   go_upto_region 2 with (fail)
   rw [HW0.out]
   obtain ⟨q0, q1, q2, q3, q4, q5, q6, q7⟩ := nd_box HI0.out.b1 W0 (Below.refl _ _)
   go_wp2_with ((with_reducible refine gate_ (.store TB (.tmp 6) (.tmp 22)) rfl ?_); refine wl_box rfl rfl _ _ _ rfl (.agg (btCells noNd (.slice none 0 0) 0 false).toArray) (btCells noNd (.slice none 0 0) 0 false) rfl rfl rfl infoBt (btCells_one _ _ _ rfl) HI0.out.b0 rfl ?_; intro w5 h5 hu5; have HU := zh hu5; obtain ⟨r0, r1, r2, r3, r4, r5, r6, r7, r8, r9⟩ := bt_box h5 w5 (Below.refl _ _); clear h5 hu5)
   refine bodyPost_ret (v := .agg (btCells noNd (.slice none 0 0) 0 false).toArray) ?_ rfl (.inr ⟨HNO.out, noNd, 0, rfl, HU.out.below HI0.out.below (Nat.le_refl _)⟩)
   ·unfold results
    rw [show Tryz.f41.results = #[.cell 6 TB] from rfl]
    go_simp
    rfl
  ·have dk0 : (k == 0) = false := beq_eq_false_iff_ne.2 hk0
   by_cases hdeep : 1000 < wi
   ·have dw : decide ((1000 : Int) < (wi : Int)) = true := decide_eq_true (by omega)
    have dw2 : decide (1000 < wi) = true := decide_eq_true (by omega)
    have HNO := zh (node_bad he rfl (.inr hdeep) hw2)
    clear he
    go_enter Tryz.func41, Tryz.ntmps41
    go_upto_region 2 with (fail)
    rw [HW0.out]
    obtain ⟨q0, q1, q2, q3, q4, q5, q6, q7⟩ := nd_box HI0.out.b1 W0 (Below.refl _ _)
    go_wp2_with ((with_reducible refine gate_ (.store TB (.tmp 6) (.tmp 22)) rfl ?_); refine wl_box rfl rfl _ _ _ rfl (.agg (btCells noNd (.slice none 0 0) 0 false).toArray) (btCells noNd (.slice none 0 0) 0 false) rfl rfl rfl infoBt (btCells_one _ _ _ rfl) HI0.out.b0 rfl ?_; intro w5 h5 hu5; have HU := zh hu5; obtain ⟨r0, r1, r2, r3, r4, r5, r6, r7, r8, r9⟩ := bt_box h5 w5 (Below.refl _ _); clear h5 hu5)
    refine bodyPost_ret (v := .agg (btCells noNd (.slice none 0 0) 0 false).toArray) ?_ rfl (.inr ⟨HNO.out, noNd, 0, rfl, HU.out.below HI0.out.below (Nat.le_refl _)⟩)
    ·unfold results
     rw [show Tryz.f41.results = #[.cell 6 TB] from rfl]
     go_simp
     rfl
   ·have dw : decide ((1000 : Int) < (wi : Int)) = false := decide_eq_false (by omega)
    have dw2 : decide (1000 < wi) = false := decide_eq_false (by omega)
    have HLA := zh (loop_start he rfl hk0 (by omega : wi ≤ 1000))
    have hw3 : wi ≤ 1000 := by omega
    clear he hdeep dk0
    have dk0 : (k == 0) = false := beq_eq_false_iff_ne.2 hk0
    go_enter Tryz.func41, Tryz.ntmps41
    go_upto_region 2 with (fail)
    rw [HW0.out]
    obtain ⟨q0, q1, q2, q3, q4, q5, q6, q7⟩ := nd_box HI0.out.b1 W0 (Below.refl _ _)
    clear HW0
    go_wp2
    go_loopw [1] (fun jv wr => ∃ (j : Nat) (acc : List Nd) (v : Value), j ≤ n ∧ jv = .int .i64 j ∧ Hid (LoopAt l i wi k acc j ∧ acc.length ≤ j ∧ NMem w wr k acc v)) (fun jv _ => n - (intOf jv).toNat)
    case atStart => exact ⟨i + 1, [], _, by omega, by go_num, zh ⟨HLA.out, Nat.zero_le _, HI0.out⟩⟩
    case round =>
     obtain ⟨j, acc, v, hj, rfl, H⟩ := hrel
     obtain ⟨q0, q1, q2, q3, q4, q5, q6, q7⟩ := nd_box H.out.2.2.b1 wr (Below.refl _ _)
     by_cases hlt : j < n
     ·have dlt : decide (j < n) = true := decide_eq_true hlt
      have dge : decide (n ≤ j) = false := decide_eq_false (by omega)
      have j1 : (0 : Int) ≤ (j : Int) := by omega
      have j2 : (j : Int) < (n : Int) := by omega
      obtain ⟨f, hf⟩ : ∃ f, l[j]? = some f := ⟨_, List.getElem?_eq_getElem (by have := HL.out; omega)⟩
      have hF := evAt_of (Kd.C_below HC.out H.out.2.2.below) j f hlt hf
      obtain ⟨f0, fk, ft⟩ := f
      obtain ⟨ad', hA', y0, y1, -⟩ := hF.cell
      obtain rfl := Option.some.inj hA'
      dsimp only at y0 y1
      by_cases hf3 : f0 = 3
      ·subst hf3
       have hcl := loop_close H.out.1 hf rfl
       have HCLS := zh hcl
       clear hf hF hcl
       have hkk : fk = k ∨ fk ≠ k := by omega
       rcases hkk with hkk | hkk
       ·subst hkk
        have HY := zh (HCLS.out.1 rfl)
        obtain ⟨A5, c5, rfl, -, -⟩ := ownS_C H.out.2.2.own
        clear HCLS
        go_wp2
        go_quiet (fail)
        obtain ⟨w5, hw5⟩ : ∃ V, wr.drewN nq = V := ⟨_, rfl⟩
        have HM := zh (show NMem w w5 fk acc (.slice A5 acc.length c5) from hw5 ▸ H.out.2.2.later ⟨rfl, rfl, rfl, Nat.le_refl _, fun _ _ => rfl⟩)
        rw [hw5]
        clear hw5
        obtain ⟨p0, p1, p2, p3, p4, p5, p6, p7⟩ := nd_box HM.out.b1 w5 (Below.refl _ _)
        go_wp2_with ((with_reducible refine gate_ (.store TB (.tmp 6) (.tmp 72)) rfl ?_); refine wl_box rfl rfl _ _ _ rfl (.agg (btCells ⟨fk, noTk, acc⟩ (.slice A5 acc.length c5) ((j + 1 : Nat) : Int) true).toArray) (btCells ⟨fk, noTk, acc⟩ (.slice A5 acc.length c5) ((j + 1 : Nat) : Int) true) rfl rfl rfl infoBt (btCells_one _ _ _ rfl) HM.out.b0 rfl ?_; intro w5 h5 hu5; have HU := zh hu5; obtain ⟨r0, r1, r2, r3, r4, r5, r6, r7, r8, r9⟩ := bt_box h5 w5 (Below.refl _ _); clear h5 hu5)
        refine bodyPost_ret (v := .agg (btCells ⟨fk, noTk, acc⟩ (.slice A5 acc.length c5) ((j + 1 : Nat) : Int) true).toArray) ?_ rfl (.inl ⟨⟨fk, noTk, acc⟩, j + 1, HY.out, A5, c5, rfl, ?_, HU.out.below HM.out.below (Nat.le_refl _)⟩)
        ·unfold results
         rw [show Tryz.f41.results = #[.cell 6 TB] from rfl]
         go_simp
         rfl
        ·exact ownS_step HM.out.own (fun b _ hl => HU.out.far b (by have := hl.1; omega)) |> ownS_lower (by omega)
       ·have dkk : (fk == k) = false := beq_eq_false_iff_ne.2 hkk
        have HNO := zh (HCLS.out.2 hkk)
        clear HCLS
        go_wp2
        go_quiet (fail)
        obtain ⟨w5, hw5⟩ : ∃ V, wr.drewN nq = V := ⟨_, rfl⟩
        have HM := zh (show NMem w w5 k acc v from hw5 ▸ H.out.2.2.later ⟨rfl, rfl, rfl, Nat.le_refl _, fun _ _ => rfl⟩)
        rw [hw5]
        clear hw5
        go_wp2_with ((with_reducible refine gate_ (.store TB (.tmp 6) (.tmp 68)) rfl ?_); refine wl_box rfl rfl _ _ _ rfl (.agg (btCells noNd (.slice none 0 0) 0 false).toArray) (btCells noNd (.slice none 0 0) 0 false) rfl rfl rfl infoBt (btCells_one _ _ _ rfl) HM.out.b0 rfl ?_; intro w5 h5 hu5; have HU := zh hu5; obtain ⟨r0, r1, r2, r3, r4, r5, r6, r7, r8, r9⟩ := bt_box h5 w5 (Below.refl _ _); clear h5 hu5)
        refine bodyPost_ret (v := .agg (btCells noNd (.slice none 0 0) 0 false).toArray) ?_ rfl (.inr ⟨HNO.out, noNd, 0, rfl, HU.out.below HM.out.below (Nat.le_refl _)⟩)
        ·unfold results
         rw [show Tryz.f41.results = #[.cell 6 TB] from rfl]
         go_simp
         rfl
      ·have d3 : (f0 == 3) = false := beq_eq_false_iff_ne.2 hf3
       have HKJ := zh (HKID.out j wi wr (by have := HN.out; have := H.out.1.1; omega) (by omega) (fun e' he' => by rw [hf] at he'; cases he'; exact hf3) (by omega) (by omega) (Kd.C_below HC.out H.out.2.2.below))
       clear hf hF
       go_wp2_with (fail)
       refine (HKJ.out).mono ?_
       rintro e w2 (⟨x, a2, hy, A3, c3, he, ho, hb2⟩ | ⟨hno, y, z, he, hb2⟩)
       ·have he2 : e = .returned (.agg #[.int .u8 x.f0, .int .u8 x.f1.f0, .string x.f1.f1, .int .i64 x.f1.f2.f0, .int .i64 x.f1.f2.f1, .int .i64 x.f1.f2.f2, .int .i64 x.f1.f3, .slice A3 x.f2.length c3, .int .i64 a2, .bool true]) := he
        clear he
        subst he2
        have HY := zh hy
        have HO2 := zh ho
        have HB2 := zh hb2
        clear hy ho hb2 HKJ q0 q1 q2 q3 q4 q5 q6 q7
        go_upto_region 9 with (fail)
        obtain ⟨w3, hw3, h3, hb3, hz3⟩ := bt_new (W := w2) (cs := #[.int .u8 x.f0, .int .u8 x.f1.f0, .string x.f1.f1, .int .i64 x.f1.f2.f0, .int .i64 x.f1.f2.f1, .int .i64 x.f1.f2.f2, .int .i64 x.f1.f3, .slice A3 x.f2.length c3, .int .i64 a2, .bool true])
        rw [hw3]
        have hb13 : Below wr.heap.size wr w3 := HB2.out.trans (hb3.mono HB2.out.size)
        have HM := zh (H.out.2.2.later hb13)
        obtain ⟨cells, G, r2, r3, r4, r5⟩ := ownS_below (ownS_bound H.out.2.2.own) hb13
        have HP := zh (And.intro r3 (And.intro r4 r5))
        have R2 := zh r2
        have HX := zh (ownS_below HO2.out hb3)
        have HBX := zh h3
        have HB13 := zh hb13
        have HZ3 := zh hz3
        have HS3 : Hid (w.heap.size + 2 ≤ w3.heap.size) := zh HM.out.size
        have HF : Hid ((acc.length + 1) * 88 ≤ 140737488355328) := zh (by have := H.out.2.1; omega)
        clear hw3 h3 hb3 hz3 hb13 r2 r3 r4 r5
        obtain ⟨p0, p1, p2, p3, p4, p5, p6, p7⟩ := nd_box HM.out.b1 w3 (Below.refl _ _)
        obtain ⟨r0, r1, r2, r3, r4, r5, r6, r7, r8, r9⟩ := bt_box HBX.out w3 (Below.refl _ _)
        go_upto_region 10 with ((with_reducible refine gate_dst (N := 50) rfl ?_); refine print_append_cells (w0 := w3) (w.heap.size + 2) rfl (.tmp 46) (.tmp 49) 30 32 _ 8 88 rfl Tryz.underlying30 infoNd rfl (by decide) (by decide) v acc.length cells (ndCells x.f0 x.f1 (.slice A3 x.f2.length c3)) rfl rfl rfl (ndCells_one _ _ rfl) R2.out (Below.refl _ _) HS3.out HF.out ?_; intro v5 w5 ho5 hb5 hg5 hat5; obtain ⟨A6, c6, rfl⟩ := own_slice ho5; have H5 := zh (And.intro ho5 (And.intro hg5 hat5)); have hb1 := (hb5.block (w.heap.size + 1) (by omega)).trans HM.out.b1; have c7 : w5.cell? ⟨w.heap.size + 1, 7, none⟩ = some v := cR _ hb1; have f7 : w5.frozen? ⟨w.heap.size + 1, 7, none⟩ = false := (by simp [World.frozen?, hb1]); clear ho5 hb5 hg5 hat5 hb1 p0 p1 p2 p3 p4 p5 p6 p7 r0 r1 r2 r3 r4 r5 r6 r7 r8 r9)
        obtain ⟨w6, hw6⟩ : ∃ V, w5.setCell ⟨w.heap.size + 1, 7, none⟩ (.slice A6 (acc.length + 1) c6) = V := ⟨_, rfl⟩
        have HM6 : Hid (NMem w w6 k (acc ++ [x]) (.slice A6 (acc.length + 1) c6)) := zh (by
         rw [← hw6]
         exact HM.out.push R2.out HP.out.1 (fun b hb => ⟨(HP.out.2.1 b hb).1.2.2.1, (HP.out.2.1 b hb).2⟩) (fun b hb => (HP.out.2.2 b hb).2.2.1) HX.out H.out.2.2.size H5.out.1 H5.out.2.1 H5.out.2.2)
        have a8 : w6.cell? ⟨w2.heap.size, 8, none⟩ = some (.int .i64 a2) := by
         have hne : some w2.heap.size ≠ v.ownBlock := fun e => by have := (HP.out.2.1 _ e.symm).1.2.2.1; have := HB2.out.size; omega
         have h1 := (H5.out.2.1.block w2.heap.size (blk_lt HBX.out) hne).trans HBX.out
         have h2 : w6.heap[w2.heap.size]? = w5.heap[w2.heap.size]? := by rw [← hw6]; exact Below.heap_setCell w5 _ _ _ (by have := HB2.out.size; have := H.out.2.2.size; show w2.heap.size ≠ w.heap.size + 1; omega)
         exact cR _ (h2.trans h1)
        rw [hw6]
        clear hw6 c7 f7
        go_wp2
        go_roundw
        case rel => exact ⟨a2, acc ++ [x], _, by have := HY.out.2.1; have := HL.out; omega, by rfl, zh ⟨loop_kid H.out.1 HY.out, by have := HY.out.1; have := H.out.2.1; simp only [List.length_append, List.length_singleton]; omega, HM6.out⟩⟩
        case measure => have := HY.out.1; have := HY.out.2.1; have := HL.out; simp [intOf]; omega
       ·have he2 : e = .returned (.agg #[.int .u8 y.f0, .int .u8 y.f1.f0, .string y.f1.f1, .int .i64 y.f1.f2.f0, .int .i64 y.f1.f2.f1, .int .i64 y.f1.f2.f2, .int .i64 y.f1.f3, .slice none 0 0, .int .i64 z, .bool false]) := he
        clear he
        subst he2
        have HNO := zh (loop_no H.out.1 hno)
        have HB2 := zh hb2
        clear hno hb2 HKJ q0 q1 q2 q3 q4 q5 q6 q7
        go_upto_region 8 with (fail)
        obtain ⟨w3, hw3, h3, hb3, hz3⟩ := bt_new (W := w2) (cs := #[.int .u8 y.f0, .int .u8 y.f1.f0, .string y.f1.f1, .int .i64 y.f1.f2.f0, .int .i64 y.f1.f2.f1, .int .i64 y.f1.f2.f2, .int .i64 y.f1.f3, .slice none 0 0, .int .i64 z, .bool false])
        rw [hw3]
        have HM := zh (H.out.2.2.later (HB2.out.trans (hb3.mono HB2.out.size)))
        clear hw3 h3 hb3 hz3
        go_wp2_with ((with_reducible refine gate_ (.store TB (.tmp 6) (.tmp 44)) rfl ?_); refine wl_box rfl rfl _ _ _ rfl (.agg (btCells noNd (.slice none 0 0) 0 false).toArray) (btCells noNd (.slice none 0 0) 0 false) rfl rfl rfl infoBt (btCells_one _ _ _ rfl) HM.out.b0 rfl ?_; intro w5 h5 hu5; have HU := zh hu5; obtain ⟨r0, r1, r2, r3, r4, r5, r6, r7, r8, r9⟩ := bt_box h5 w5 (Below.refl _ _); clear h5 hu5)
        refine bodyPost_ret (v := .agg (btCells noNd (.slice none 0 0) 0 false).toArray) ?_ rfl (.inr ⟨HNO.out, noNd, 0, rfl, HU.out.below HM.out.below (Nat.le_refl _)⟩)
        ·unfold results
         rw [show Tryz.f41.results = #[.cell 6 TB] from rfl]
         go_simp
         rfl
     ·have dlt : decide (j < n) = false := decide_eq_false hlt
      have dge : decide (n ≤ j) = true := decide_eq_true (by omega)
      have HNO := zh (loop_end H.out.1 (by have := HL.out; omega))
      go_wp2
      go_quiet (fail)
      obtain ⟨w5, hw5⟩ : ∃ V, wr.drewN nq = V := ⟨_, rfl⟩
      have HM := zh (show NMem w w5 k acc v from hw5 ▸ H.out.2.2.later ⟨rfl, rfl, rfl, Nat.le_refl _, fun _ _ => rfl⟩)
      rw [hw5]
      clear hw5
      go_wp2_with ((with_reducible refine gate_ (.store TB (.tmp 6) (.tmp 68)) rfl ?_); refine wl_box rfl rfl _ _ _ rfl (.agg (btCells noNd (.slice none 0 0) 0 false).toArray) (btCells noNd (.slice none 0 0) 0 false) rfl rfl rfl infoBt (btCells_one _ _ _ rfl) HM.out.b0 rfl ?_; intro w5 h5 hu5; have HU := zh hu5; obtain ⟨r0, r1, r2, r3, r4, r5, r6, r7, r8, r9⟩ := bt_box h5 w5 (Below.refl _ _); clear h5 hu5)
      refine bodyPost_ret (v := .agg (btCells noNd (.slice none 0 0) 0 false).toArray) ?_ rfl (.inr ⟨HNO.out, noNd, 0, rfl, HU.out.below HM.out.below (Nat.le_refl _)⟩)
      ·unfold results
       rw [show Tryz.f41.results = #[.cell 6 TB] from rfl]
       go_simp
       rfl
theorem refbuild_any (A : Option Addr) (n c : Nat) (l : List Ev) (w : World) (hr : Kd.C kEv w A n l) (hn : l.length = n) (hbig : n ≤ 549755813888) :
  Calls Tryz.prog 23 #[.slice A n c] w fun e w' => BuildPost w l e w' := by
 have hna := node_any l A n c hn hbig n
 have HNA := zh hna
 have HR := zh hr
 have HL := zh hn
 clear hna hr hn
 by_cases hn0 : n = 0
 ·subst hn0
  have HRN := zh (ref_bld (l := l) (fun e he => by rw [List.eq_nil_of_length_eq_zero HL.out] at he; cases he))
  go_enter Tryz.func23, Tryz.ntmps23
  go_wp2
  refine bodyPost_ret (v := .tuple #[.agg zNd.toArray, .int .i64 130]) ?_ rfl (BuildPost.err HRN.out ((Below.refl _ w).alloc (Nat.le_refl _) _))
  rw [results_cell_tmp rfl]
  go_simp
  try (first | rfl | (repeat' apply And.intro) <;> rfl)
 ·have dn : (n == 0) = false := beq_eq_false_iff_ne.2 hn0
  have dn2 : ((n : Int) == 0) = false := beq_eq_false_iff_ne.2 (by omega)
  obtain ⟨e, he⟩ : ∃ e, l[0]? = some e := ⟨_, List.getElem?_eq_getElem (by have := HL.out; omega)⟩
  have hE := evAt_of (Kd.C_below HR.out ((Below.refl _ w).alloc (Nat.le_refl _) (.cells #[.int .u8 0, .int .u8 0, .string ⟨#[]⟩, .int .i64 0, .int .i64 0, .int .i64 0, .int .i64 0, .slice none 0 0] TN))) 0 e (by omega) he
  obtain ⟨k, nd, tk⟩ := e
  obtain ⟨ad, rfl, e0, -⟩ := hE.cell
  rw [Nat.zero_mul] at e0
  dsimp only at e0
  have e0' := e0
  rw [show ad.add 0 = ad by simp [Addr.add]] at e0'
  obtain ⟨W0, hW0, hz, hb0, hzs⟩ := nd_new (W := w) (cs := #[.int .u8 0, .int .u8 0, .string ⟨#[]⟩, .int .i64 0, .int .i64 0, .int .i64 0, .int .i64 0, .slice none 0 0])
  have HW0 := zh hW0
  have HZ := zh hz
  have HB0 := zh hb0
  clear hW0 hz hb0 hzs hE
  have g2 : (0 : Int) < (n : Int) := by omega
  by_cases hk : k = 1
  ·subst hk
   have HNN := zh (show Calls Tryz.prog 41 #[.slice (some ad) n c, .int .i64 0, .int .i64 1] W0 _ from HNA.out 0 1 _ W0 (by omega) he rfl (by omega) (by omega) (Kd.C_below HR.out HB0.out))
   clear he
   go_enter Tryz.func23, Tryz.ntmps23
   go_upto_region 3 with (fail)
   rw [HW0.out]
   go_wp2_with (fail)
   refine (HNN.out).mono ?_
   rintro e w2 (⟨x, a2, hy, A3, c3, he, ho, hb2⟩ | ⟨hno, y, z, he, hb2⟩)
   ·have he2 : e = .returned (.agg #[.int .u8 x.f0, .int .u8 x.f1.f0, .string x.f1.f1, .int .i64 x.f1.f2.f0, .int .i64 x.f1.f2.f1, .int .i64 x.f1.f2.f2, .int .i64 x.f1.f3, .slice A3 x.f2.length c3, .int .i64 a2, .bool true]) := he
    clear he
    subst he2
    have HY := zh hy
    have HRY := zh (ref_yes hy)
    have HO := zh ho
    have HB2 := zh (HB0.out.trans (hb2.mono HB0.out.size))
    have HZ2 := zh ((hb2.block _ (blk_lt HZ.out)).trans HZ.out)
    have HLT := zh (blk_lt HZ.out)
    clear hy ho hb2
    go_upto_region 4 with (fail)
    obtain ⟨w3, hw3, h3, hb3, hz3⟩ := bt_new (W := w2) (cs := #[.int .u8 x.f0, .int .u8 x.f1.f0, .string x.f1.f1, .int .i64 x.f1.f2.f0, .int .i64 x.f1.f2.f1, .int .i64 x.f1.f2.f2, .int .i64 x.f1.f3, .slice A3 x.f2.length c3, .int .i64 a2, .bool true])
    rw [hw3]
    have HB3 := zh (HB2.out.trans (hb3.mono HB2.out.size))
    have HZ3 := zh ((hb3.block _ (blk_lt HZ2.out)).trans HZ2.out)
    have HO3 := zh (ownS_below HO.out hb3)
    obtain ⟨r0, r1, r2, r3, r4, r5, r6, r7, r8, r9⟩ := bt_box h3 w3 (Below.refl _ _)
    clear hw3 h3 hb3 hz3
    by_cases ha : a2 = n
    ·have hrun : runB l [] = some x := by rw [HRY.out, if_pos (by rw [ha, HL.out])]
     have HRUN := zh hrun
     have da : ((a2 : Int) != (n : Int)) = false := by rw [ha]; simp
     have da2 : (a2 != n) = false := by rw [ha]; simp
     clear hrun
     subst ha
     go_wp2_with ((with_reducible refine gate_ (.store TN (.tmp 2) (.tmp 30)) rfl ?_); refine wl_box rfl rfl _ _ _ rfl (.agg (ndCells x.f0 x.f1 (.slice A3 x.f2.length c3)).toArray) (ndCells x.f0 x.f1 (.slice A3 x.f2.length c3)) rfl rfl rfl infoNd8 (ndCells_one _ _ rfl) HZ3.out rfl ?_; intro w5 h5 hu5; have HU := zh hu5; obtain ⟨s0, s1, s2, s3, s4, s5, s6, s7⟩ := nd_box h5 w5 (Below.refl _ _); clear h5 hu5)
     refine bodyPost_ret (v := .tuple #[.agg (ndCells x.f0 x.f1 (.slice A3 x.f2.length c3)).toArray, .int .i64 0]) ?_ rfl ⟨.slice A3 x.f2.length c3, ?_, ?_, HU.out.below HB3.out (Nat.le_refl _)⟩
     ·rw [results_cell_tmp rfl]
      go_simp
      try rfl
     ·rw [bld_some HRUN.out]; rfl
     ·rw [bld_some HRUN.out]
      exact ownS_lower HB0.out.size (ownS_step HO3.out (fun b _ hl => HU.out.far b (by have := hl.1; have := HLT.out; omega)))
    ·have hrun : runB l [] = none := by rw [HRY.out, if_neg (by rw [HL.out]; exact ha)]
     have HRUN := zh hrun
     have da : ((a2 : Int) != (n : Int)) = true := by simp; omega
     have da2 : (a2 != n) = true := by simp [ha]
     clear hrun
     go_wp2_with ((with_reducible refine gate_ (.store TN (.tmp 2) (.tmp 28)) rfl ?_); refine wl_box rfl rfl _ _ _ rfl (.agg (ndCells noNd.f0 noNd.f1 (.slice none 0 0)).toArray) (ndCells noNd.f0 noNd.f1 (.slice none 0 0)) rfl rfl rfl infoNd8 (ndCells_one _ _ rfl) HZ3.out rfl ?_; intro w5 h5 hu5; have HU := zh hu5; obtain ⟨s0, s1, s2, s3, s4, s5, s6, s7⟩ := nd_box h5 w5 (Below.refl _ _); clear h5 hu5)
     refine bodyPost_ret (v := .tuple #[.agg zNd.toArray, .int .i64 130]) ?_ rfl (BuildPost.err HRUN.out (HU.out.below HB3.out (Nat.le_refl _)))
     rw [results_cell_tmp rfl]
     go_simp
     try (first | rfl | (repeat' apply And.intro) <;> rfl)
   ·have he2 : e = .returned (.agg #[.int .u8 y.f0, .int .u8 y.f1.f0, .string y.f1.f1, .int .i64 y.f1.f2.f0, .int .i64 y.f1.f2.f1, .int .i64 y.f1.f2.f2, .int .i64 y.f1.f3, .slice none 0 0, .int .i64 z, .bool false]) := he
    clear he
    subst he2
    have HRUN := zh (ref_no hno)
    have HB2 := zh (HB0.out.trans (hb2.mono HB0.out.size))
    have HZ2 := zh ((hb2.block _ (blk_lt HZ.out)).trans HZ.out)
    clear hno hb2
    go_upto_region 4 with (fail)
    obtain ⟨w3, hw3, h3, hb3, hz3⟩ := bt_new (W := w2) (cs := #[.int .u8 y.f0, .int .u8 y.f1.f0, .string y.f1.f1, .int .i64 y.f1.f2.f0, .int .i64 y.f1.f2.f1, .int .i64 y.f1.f2.f2, .int .i64 y.f1.f3, .slice none 0 0, .int .i64 z, .bool false])
    rw [hw3]
    have HB3 := zh (HB2.out.trans (hb3.mono HB2.out.size))
    have HZ3 := zh ((hb3.block _ (blk_lt HZ2.out)).trans HZ2.out)
    obtain ⟨r0, r1, r2, r3, r4, r5, r6, r7, r8, r9⟩ := bt_box h3 w3 (Below.refl _ _)
    clear hw3 h3 hb3 hz3
    go_wp2_with ((with_reducible refine gate_ (.store TN (.tmp 2) (.tmp 28)) rfl ?_); refine wl_box rfl rfl _ _ _ rfl (.agg (ndCells noNd.f0 noNd.f1 (.slice none 0 0)).toArray) (ndCells noNd.f0 noNd.f1 (.slice none 0 0)) rfl rfl rfl infoNd8 (ndCells_one _ _ rfl) HZ3.out rfl ?_; intro w5 h5 hu5; have HU := zh hu5; obtain ⟨s0, s1, s2, s3, s4, s5, s6, s7⟩ := nd_box h5 w5 (Below.refl _ _); clear h5 hu5)
    refine bodyPost_ret (v := .tuple #[.agg zNd.toArray, .int .i64 130]) ?_ rfl (BuildPost.err HRUN.out (HU.out.below HB3.out (Nat.le_refl _)))
    rw [results_cell_tmp rfl]
    go_simp
    try (first | rfl | (repeat' apply And.intro) <;> rfl)
  ·have d1 : (k != 1) = true := by simp [hk]
   have HRUN := zh (ref_bld (l := l) (fun e' he' => by rw [he] at he'; cases he'; exact hk))
   clear he
   go_enter Tryz.func23, Tryz.ntmps23
   go_wp2
   refine bodyPost_ret (v := .tuple #[.agg zNd.toArray, .int .i64 130]) ?_ rfl (BuildPost.err HRUN.out ((Below.refl _ w).alloc (Nat.le_refl _) _))
   rw [results_cell_tmp rfl]
   go_simp
   try (first | rfl | (repeat' apply And.intro) <;> rfl)
end Go.Proofs.YtmjbpgnjgblnmaaGreat.Tr
namespace Go.Proofs.YtmjbpgnjgblnmaaGreat
theorem expand_kind {f : RId} {c : ByteArray} {l : List Eff} (h : f.expand c = some l) : ∀ k w, Eff.opn k w ∈ l → k ≠ 0 := by
 cases f
 all_goals
  simp only [RId.expand] at h
  repeat' split at h
 all_goals first
  | (cases h; done)
  | (cases h; intro k w hm; simp at hm; done)
  | (cases h; intro k w hm; simp at hm; omega)
def okE (evs : List (Nat × Nat)) : Prop := ∀ p ∈ evs, p.1 = 1 → p.2 ≠ 0
theorem okE_app {a b : List (Nat × Nat)} (ha : okE a) (hb : okE b) : okE (a ++ b) := fun p hp h1 => by
 rcases List.mem_append.1 hp with h | h
 ·exact ha p h h1
 ·exact hb p h h1
theorem effs_kind : ∀ (l : List Eff) (s : PSt), (∀ k w, Eff.opn k w ∈ l → k ≠ 0) → okE s.evs → okE (effs s l).evs
 | [], s, _, hs => hs
 | .push w :: l, s, hl, hs => effs_kind l ({ s with todo := w ++ s.todo }) (fun k w h => hl k w (List.mem_cons_of_mem _ h)) hs
 | .opn k w :: l, s, hl, hs => effs_kind l { todo := w ++ .fin k :: s.todo, evs := s.evs ++ [(1, k)], depth := s.depth + 1 } (fun k w h => hl k w (List.mem_cons_of_mem _ h)) (okE_app hs (fun p hp h1 => by
   rw [List.mem_singleton.1 hp]
   exact hl k w List.mem_cons_self))
theorem turns_kind (c : ByteArray) : ∀ (n : Nat) (s : PSt) (r : Bool × PSt), okE s.evs → turns c n s = some r → okE r.2.evs
 | 0, s, r, _, h => by simp [turns] at h
 | n + 1, s, r, hs, h => by
  obtain ⟨T, v, d⟩ := s
  rw [turns] at h
  cases T with
  | nil => simp only [turn] at h; cases h; exact hs
  | cons x T =>
   cases x with
   | word x =>
    simp only [turn] at h
    split at h
    ·rename_i s' he
     split at he <;> cases he
    ·rename_i s' he
     cases h
     split at he <;> cases he
     exact hs
    ·rename_i s' he
     cases h
     split at he <;> cases he
     exact hs
   | fin k =>
    simp only [turn] at h
    exact turns_kind c n _ r (okE_app hs (fun p hp h1 => by rw [List.mem_singleton.1 hp] at h1; simp at h1)) h
   | rule f =>
    simp only [turn] at h
    cases he : f.expand c with
    | none => rw [he] at h; cases h; exact hs
    | some e =>
     rw [he] at h
     have h' : turns c n (effs ⟨T, v, d⟩ e) = some r := h
     exact turns_kind c n _ r (effs_kind e ⟨T, v, d⟩ (expand_kind he) hs) h'
theorem token_kind (t : Tk) (todo : List WT) (depth : Int) : okE (token t todo depth).2.evs := by
 unfold token
 cases h : turns (codeOf t) (todo.length + 7) ⟨todo, [], depth⟩ with
 | none => exact fun p hp => by cases hp
 | some r =>
  have hk := turns_kind _ _ _ r (fun p hp => by cases hp) h
  obtain ⟨b, s⟩ := r
  cases b with
  | false => exact hk
  | true =>
   dsimp only
   split
   ·exact hk
   ·split <;> exact hk
mutual
def fullT : Tr.Nd → Prop
 | ⟨k, t, kids⟩ => if k = 0 then kids = [] else (kids ≠ [] ∧ t = Tr.noTk ∧ fullL kids)
def fullL : List Tr.Nd → Prop
 | [] => True
 | x :: xs => fullT x ∧ fullL xs
end
theorem full_eq (x : Tr.Nd) : fullT x ↔ if x.f0 = 0 then x.f2 = [] else (x.f2 ≠ [] ∧ x.f1 = Tr.noTk ∧ fullL x.f2) := by obtain ⟨k, t, kids⟩ := x; rw [fullT]
theorem fullL_iff : ∀ l : List Tr.Nd, fullL l ↔ ∀ x ∈ l, fullT x
 | [] => by simp [fullL]
 | x :: l => by rw [fullL, fullL_iff l]; simp
structure St (S : List Tr.Nd) (op : List Nat) : Prop where
 kinds : S.map (fun t => t.f0) = cst op
 good : ∀ t ∈ S, t.f1 = Tr.noTk ∧ t.f0 ≠ 0 ∧ ∀ y ∈ t.f2, fullT y
 top : ∀ t S', S = t :: S' → t.f2 ≠ [] ∨ S' = []
theorem good_add {u x : Tr.Nd} (hu : u.f1 = Tr.noTk ∧ u.f0 ≠ 0 ∧ ∀ y ∈ u.f2, fullT y) (hx : fullT x) : (Tr.addKid u x).f1 = Tr.noTk ∧ (Tr.addKid u x).f0 ≠ 0 ∧ ∀ y ∈ (Tr.addKid u x).f2, fullT y := by
 refine ⟨hu.1, hu.2.1, fun y hy => ?_⟩
 rcases List.mem_append.1 (show y ∈ u.f2 ++ [x] from hy) with h | h
 ·exact hu.2.2 y h
 ·rw [List.mem_singleton.1 h]; exact hx
theorem leaf_full (t : Tk) : fullT ⟨0, t, []⟩ := by rw [fullT, if_pos rfl]
theorem run_closes : ∀ (cl X : List Nat) (S : List Tr.Nd), St S (cl ++ X) → X ≠ [] → ∃ S1, St S1 X ∧ ∀ rest, Tr.runB ((cl.map (fun k => (3, k))).map evOf ++ rest) S = Tr.runB rest S1
 | [], X, S, h, hX => ⟨S, h, fun _ => rfl⟩
 | k :: cl, X, S, h, hX => by
  obtain ⟨hk, hg, ht⟩ := h
  match S, hk, hg, ht with
  | [], hk, _, _ => simp [cst] at hk
  | [t], hk, _, _ =>
   exfalso
   have := congrArg List.length hk
   simp [cst] at this
   exact hX this.2
  | t :: u :: S', hk, hg, ht =>
   simp only [cst, List.cons_append, List.map_cons, List.cons.injEq] at hk
   have htop : t.f2 ≠ [] := by
    rcases ht t (u :: S') rfl with h | h
    ·exact h
    ·cases h
   have gt := hg t List.mem_cons_self
   have gu := hg u (List.mem_cons_of_mem _ List.mem_cons_self)
   have hft : fullT t := by rw [full_eq, if_neg gt.2.1]; exact ⟨htop, gt.1, (fullL_iff _).2 gt.2.2⟩
   obtain ⟨S1, h1, h2⟩ := run_closes cl X (Tr.addKid u t :: S') ⟨by simpa [cst, Tr.addKid] using hk.2, fun y hy => by
    rcases List.mem_cons.1 hy with rfl | hy
    ·exact good_add gu hft
    ·exact hg y (List.mem_cons_of_mem _ (List.mem_cons_of_mem _ hy)), fun y S2 he => by
     cases he
     exact .inl (by simp [Tr.addKid])⟩ hX
   refine ⟨S1, h1, fun rest => ?_⟩
   rw [← h2 rest]
   conv => lhs; unfold Tr.runB
   simp [evOf, hk.1]
theorem run_opens : ∀ (op X : List Nat) (S : List Tr.Nd), S.map (fun t => t.f0) = cst X → (∀ t ∈ S, t.f1 = Tr.noTk ∧ t.f0 ≠ 0 ∧ ∀ y ∈ t.f2, fullT y) → X.length + op.length ≤ 1000 → (∀ k ∈ op, k ≠ 0) →
  ∃ S1, S1.map (fun t => t.f0) = cst (op.reverse ++ X) ∧ (∀ t ∈ S1, t.f1 = Tr.noTk ∧ t.f0 ≠ 0 ∧ ∀ y ∈ t.f2, fullT y) ∧ ∀ rest, Tr.runB ((op.map (fun k => (1, k))).map evOf ++ rest) S = Tr.runB rest S1
 | [], X, S, hk, hg, _, _ => ⟨S, hk, hg, fun _ => rfl⟩
 | k :: op, X, S, hk, hg, hl, h0 => by
  have hlen : S.length = X.length := by simpa [cst] using congrArg List.length hk
  rw [List.length_cons] at hl
  obtain ⟨S1, h1, h2, h3⟩ := run_opens op (k :: X) (⟨(k : Int), Tr.noTk, []⟩ :: S) (by simp [cst] at hk ⊢; exact hk) (fun t ht => by
   rcases List.mem_cons.1 ht with rfl | ht
   ·exact ⟨rfl, by have := h0 k List.mem_cons_self; dsimp only; omega, fun y hy => by cases hy⟩
   ·exact hg t ht) (by rw [List.length_cons]; omega) (fun j hj => h0 j (List.mem_cons_of_mem _ hj))
  refine ⟨S1, by rw [h1]; simp, h2, fun rest => ?_⟩
  rw [← h3 rest]
  conv => lhs; unfold Tr.runB
  have hk1 := h0 k List.mem_cons_self
  have hk2 : S.length ≠ 1000 := by omega
  simp [evOf, hk1, hk2]
theorem run_leaf {t : Tk} {e : Ev} (he : e = if isNote t then noteE t else leafE t) (rest : List Ev) (u : Tr.Nd) (S : List Tr.Nd) : Tr.runB (e :: rest) (u :: S) = Tr.runB rest (Tr.addKid u ⟨0, t, []⟩ :: S) := by
 subst he
 have hn : Tr.isNote t = isNote t := rfl
 conv => lhs; unfold Tr.runB
 cases h : isNote t <;> simp [noteE, leafE, hn, h]
theorem leaf_st {S : List Tr.Nd} {op : List Nat} (hk : S.map (fun t => t.f0) = cst op) (hg : ∀ t ∈ S, t.f1 = Tr.noTk ∧ t.f0 ≠ 0 ∧ ∀ y ∈ t.f2, fullT y) (h0 : op ≠ []) {t : Tk} {e : Ev} (he : e = if isNote t then noteE t else leafE t) :
  ∃ S1, St S1 op ∧ (∀ t S', S1 = t :: S' → t.f2 ≠ []) ∧ ∀ rest, Tr.runB (e :: rest) S = Tr.runB rest S1 := by
 match S, hk, hg with
 | [], hk, _ => exfalso; cases op with
  | nil => exact h0 rfl
  | cons a b => simp [cst] at hk
 | u :: S', hk, hg =>
  refine ⟨Tr.addKid u ⟨0, t, []⟩ :: S', ⟨by simpa [Tr.addKid] using hk, fun y hy => ?_, fun y S2 h => ?_⟩, fun y S2 h => ?_, fun rest => run_leaf he rest u S'⟩
  ·rcases List.mem_cons.1 hy with rfl | hy
   ·exact good_add (hg u List.mem_cons_self) (leaf_full t)
   ·exact hg y (List.mem_cons_of_mem _ hy)
  ·cases h; exact .inl (by simp [Tr.addKid])
  ·cases h; simp [Tr.addKid]
theorem put_run {p : Par} {op : List Nat} {S : List Tr.Nd} (hP : PInv p op) (hb : p.begun = true) (hS : St S op) {t : Tk} (he : (put p t).2.1 = 0) :
  ∃ op1 S1, PInv (put p t).2.2 op1 ∧ (put p t).2.2.begun = true ∧ St S1 op1 ∧ (∀ t S', S1 = t :: S' → t.f2 ≠ []) ∧ ∀ rest, Tr.runB ((put p t).1 ++ rest) S = Tr.runB rest S1 := by
 obtain ⟨op1, h1, h2, -, -⟩ := put_nest hP t [] he
 by_cases hn : isNote t = true
 ·have hp := put_note_begun hb hP.closed hP.wrong hn
  rw [hp] at h1 h2 ⊢
  obtain ⟨r, hr⟩ := hP.last hb
  obtain ⟨S1, g1, g2, g3⟩ := leaf_st hS.kinds hS.good (by rw [hr]; simp) (t := t) (e := noteE t) (by rw [if_pos hn])
  exact ⟨op, S1, hP, hb, g1, g2, fun rest => g3 rest⟩
 ·have hn' : isNote t = false := by simpa using hn
  have hpre : preD p = p.depth := by unfold preD; rw [if_pos hb]
  have hpreE : preE p = [] := by unfold preE; rw [if_pos hb]
  have hput : put p t = if (token t p.todo p.depth).1 ≠ 0 then ([], (token t p.todo p.depth).1, { p with todo := (token t p.todo p.depth).2.todo, wrong := (token t p.todo p.depth).1 }) else ((token t p.todo p.depth).2.evs.map evOf ++ [leafE t], 0, { p with todo := (token t p.todo p.depth).2.todo, depth := (token t p.todo p.depth).2.depth, begun := true }) := by
   unfold put
   simp only [hP.closed, Bool.false_eq_true, if_false, hP.wrong, ne_eq, not_true_eq_false, hn', hpre, hpreE, List.nil_append]
  have htk : (token t p.todo p.depth).1 = 0 := by
   by_cases h : (token t p.todo p.depth).1 = 0
   ·exact h
   ·rw [hput, if_pos h] at he; exact absurd he h
  rw [if_neg (by rw [htk]; decide)] at hput
  obtain ⟨cl, o2, X, a1, a2, a3, a4, a5, -⟩ := token_law t p.todo p.depth
  obtain ⟨a6, a7⟩ := a5 htk
  have hkd := token_kind t p.todo p.depth
  rw [a1] at hkd
  have hfin := hP.fins
  rw [if_pos hb, a4] at hfin
  have hf1 := h1.fins
  rw [if_pos h2, hput] at hf1
  dsimp only at hf1
  rw [a6] at hf1
  obtain ⟨r, hr⟩ := h1.last h2
  have hX : X ≠ [] := by
   rintro rfl
   rw [List.append_nil] at hf1
   have h9 : (1 : Nat) ∈ o2.reverse := by rw [hf1, hr]; simp
   exact a3 1 (List.mem_reverse.1 h9) rfl
  rw [← hfin] at hS
  obtain ⟨S1, g1, g2⟩ := run_closes cl X S hS hX
  have hmost := h1.most
  rw [← hf1, List.length_append, List.length_reverse] at hmost
  obtain ⟨S2, g3, g4, g5⟩ := run_opens o2 X S1 g1.kinds g1.good (by omega) (fun k hk => hkd (1, k) (List.mem_append.2 (.inr (List.mem_map.2 ⟨k, hk, rfl⟩))) rfl)
  rw [hf1] at g3
  obtain ⟨S3, g6, g7, g8⟩ := leaf_st g3 g4 (by rw [hr]; simp) (t := t) (e := leafE t) (by rw [if_neg hn])
  refine ⟨op1, S3, h1, h2, g6, g7, fun rest => ?_⟩
  rw [hput]
  dsimp only
  rw [a1, List.map_append, List.append_assoc, List.append_assoc, g2, g5]
  exact g8 rest
theorem all_tree : ∀ (l : List Tk) (p : Par) (op : List Nat) (S : List Tr.Nd), PInv p op → p.begun = true → St S op → ((∀ t S', S = t :: S' → t.f2 ≠ []) ∨ p.todo.length ≠ 1) → (allP p l).2.1 = 0 → ∃ X, Tr.runB (allP p l).1 S = some X ∧ fullT X
 | [], p, op, S, hP, hb, hS, h0, he => by
  simp only [allP, closeP, hP.closed, hP.wrong] at he ⊢
  rw [if_neg (by decide), if_neg (by decide)] at he ⊢
  by_cases hl : p.todo.length ≠ 1
  ·rw [if_pos hl] at he; cases he
  ·rw [if_neg hl] at he ⊢
   have hl1 : p.todo.length = 1 := by omega
   obtain ⟨T, hT⟩ := hP.lastf
   have hT0 : T = [] := by
    rw [hT, List.length_append, List.length_singleton] at hl1
    exact List.eq_nil_of_length_eq_zero (by omega)
   subst hT0
   have hop : op = [1] := by
    have := hP.fins
    rw [if_pos hb, hT] at this
    exact this.symm
   subst hop
   obtain ⟨hk, hg, -⟩ := hS
   match S, hk, hg, h0 with
   | [], hk, _, _ => simp [cst] at hk
   | [t], hk, hg, h0 =>
    simp [cst] at hk
    have gt := hg t List.mem_cons_self
    refine ⟨t, ?_, ?_⟩
    ·unfold Tr.runB
     simp [evOf, hk]
    ·rw [full_eq, if_neg gt.2.1]
     refine ⟨?_, gt.1, (fullL_iff _).2 gt.2.2⟩
     rcases h0 with h | h
     ·exact h t [] rfl
     ·exact absurd hl1 h
   | t :: u :: S', hk, _, _ => simp [cst] at hk
 | t :: r, p, op, S, hP, hb, hS, h0, he => by
  by_cases hp : (put p t).2.1 = 0
  ·rw [all_cons_ok hp] at he ⊢
   obtain ⟨op1, S1, h1, h2, h3, h4, h5⟩ := put_run hP hb hS hp
   obtain ⟨X, g1, g2⟩ := all_tree r (put p t).2.2 op1 S1 h1 h2 h3 (.inl h4) he
   exact ⟨X, by dsimp only; rw [h5]; exact g1, g2⟩
  ·rw [all_cons_bad hp] at he; exact absurd he hp
theorem prog_tree (l : List Tk) (he : (allP newPar l).2.1 = 0) : ∃ X, Tr.runB (allP newPar l).1 [] = some X ∧ fullT X := by
 obtain ⟨h1, h2, h3⟩ := start_all l
 have hk := all_skip (p := notedPar) rfl rfl rfl (nAt l 0) (l.drop (nAt l 0).length) (fun t ht => nAt_all t ht)
 have he2 : (allP notedPar (nAt l 0 ++ l.drop (nAt l 0).length)).2.1 = 0 := by rw [hk]; exact h1 ▸ he
 obtain ⟨X, g1, g2⟩ := all_tree (nAt l 0 ++ l.drop (nAt l 0).length) notedPar [1] [⟨1, Tr.noTk, []⟩] noted_inv rfl ⟨rfl, fun t ht => by
  rw [List.mem_singleton.1 ht]
  exact ⟨rfl, by decide, fun y hy => by cases hy⟩, fun t S' h => by cases h; exact .inr rfl⟩ (.inr (by decide)) he2
 refine ⟨X, ?_, g2⟩
 rw [h3 he]
 rw [hk] at g1
 rw [← g1]
 conv => lhs; unfold Tr.runB
 simp [evOf]
open Go.RowKit Go.Proofs.YtmjbpgnjgblnmaaGreatW.PrintWords Go.Proofs.YtmjbpgnjgblnmaaGreatW.PrintLast Go.Proofs.YtmjbpgnjgblnmaaGreatW.PrintMore
theorem infoInt : (Tryz.prog.info? 3).map (fun i => (i.zero, i.size, i.bytes)) = some (some (.int .i64 0), 1, 8) := by kernel_rfl
theorem comment12 (t : Tk) (w : World) : Calls Tryz.prog 20 #[.agg #[.int .u8 t.f0, .string t.f1, .int .i64 t.f2.f0, .int .i64 t.f2.f1, .int .i64 t.f2.f2, .int .i64 t.f3]] w fun e w' => e = .returned (.bool (isNote t)) ∧ Below w.heap.size w w' := by
 refine (PSyntaxProgram.colophonref12_Comment.calls t.f0 t.f1 t.f2.f0 t.f2.f1 t.f2.f2 t.f3 (isNote t) w (by
  unfold PSyntaxProgram.colophonref12_Comment.f isNote
  by_cases h7 : t.f0 = 7
  ·rw [if_pos h7, h7]; rfl
  ·rw [if_neg h7, beq_eq_false_iff_ne.2 h7, Bool.false_or])).mono ?_
 rintro e w1 ⟨rfl, hb⟩
 exact ⟨rfl, hb⟩
theorem posn_app : ∀ (k : Nat) (a b : List Tk), posn k (a ++ b) = posn k a ++ posn (k + a.length) b
 | k, [], b => by simp [posn]
 | k, t :: a, b => by
  rw [List.cons_append, posn, posn, posn_app (k + 1) a b, List.length_cons, show k + 1 + a.length = k + (a.length + 1) by omega]
  split <;> rfl
theorem noNotes_app (a b : List Tk) : noNotes (a ++ b) = noNotes a ++ noNotes b := List.filter_append ..
theorem noNotes_le (l : List Tk) : (noNotes l).length ≤ l.length := List.length_filter_le ..
theorem noNotes_note (l : List Tk) : ∀ t ∈ noNotes l, isNote t = false := fun t ht => by simpa using (List.mem_filter.1 ht).2
theorem take_one {l : List Tk} {i : Nat} {t : Tk} (h : l[i]? = some t) : l.take (i + 1) = l.take i ++ [t] := by rw [List.take_add_one, h]; rfl
structure PlI (W1 : World) (l : List Tk) (i : Nat) (wr : World) (v5 v6 : Value) : Prop where
 below : Below W1.heap.size W1 wr
 toks : wr.ownsRow W1.heap.size 28 6 v5 (noNotes (l.take i)).length ((noNotes (l.take i)).flatMap tkCells)
 pl : wr.ownsRow W1.heap.size 3 1 v6 (noNotes (l.take i)).length ((posn 0 (l.take i)).map fun k : Nat => Value.int .i64 k)
theorem PlI.start (W1 : World) (l : List Tk) : PlI W1 l 0 W1 (.slice none 0 0) (.slice none 0 0) := ⟨Below.refl _ _, own_nil _ _ _ _, own_nil _ _ _ _⟩
theorem PlI.moved {W1 : World} {l : List Tk} {i : Nat} {wr w2 : World} {v5 v6 : Value} (H : PlI W1 l i wr v5 v6) (h : Below wr.heap.size wr w2) : PlI W1 l i w2 v5 v6 :=
 ⟨H.below.trans (h.mono H.below.size), own_move H.toks (fun k hk => h.block k (own_lt H.toks k hk)), own_move H.pl (fun k hk => h.block k (own_lt H.pl k hk))⟩
theorem PlI.note {W1 : World} {l : List Tk} {i : Nat} {wr : World} {v5 v6 : Value} {t : Tk} (H : PlI W1 l i wr v5 v6) (ht : l[i]? = some t) (hn : isNote t = true) : PlI W1 l (i + 1) wr v5 v6 := by
 have h1 : noNotes (l.take (i + 1)) = noNotes (l.take i) := by rw [take_one ht, noNotes_app, noNotes_cons, if_pos hn]; exact List.append_nil _
 have h2 : posn 0 (l.take (i + 1)) = posn 0 (l.take i) := by rw [take_one ht, posn_app, posn, if_pos hn]; exact List.append_nil _
 exact ⟨H.below, by rw [h1]; exact H.toks, by rw [h1, h2]; exact H.pl⟩
theorem PlI.tok {W1 : World} {l : List Tk} {i : Nat} {wr w2 : World} {v5 v6 v7 : Value} {n : Nat} {xs : List Value} (H : PlI W1 l i wr v5 v6) (hg : wr.grownBy w2 v5.ownBlock) (ho : w2.ownsRow W1.heap.size 28 6 v7 n xs) : Below W1.heap.size W1 w2 ∧ w2.ownsRow W1.heap.size 3 1 v6 (noNotes (l.take i)).length ((posn 0 (l.take i)).map fun k : Nat => Value.int .i64 k) :=
 ⟨H.below.grown hg H.below.size (fun k hk => own_base H.toks k hk), own_move H.pl (fun k hk => hg.block k (own_lt H.pl k hk) (fun e => by
  obtain ⟨cs, h1⟩ := own_typed H.pl k hk
  obtain ⟨cs2, h2⟩ := own_typed H.toks k e.symm
  rw [h1] at h2
  exact absurd (cells_ty h2) (by decide)))⟩
theorem PlI.next {W1 : World} {l : List Tk} {i : Nat} {w1 w2 : World} {v5 v6 v7 : Value} {t : Tk} (ht : l[i]? = some t) (hn : isNote t = false) (hb : Below W1.heap.size W1 w1)
  (h5 : w1.ownsRow W1.heap.size 28 6 v5 ((noNotes (l.take i)).length + 1) ((noNotes (l.take i)).flatMap tkCells ++ tkCells t)) (h6 : w1.ownsRow W1.heap.size 3 1 v6 (noNotes (l.take i)).length ((posn 0 (l.take i)).map fun k : Nat => Value.int .i64 k)) (hg : w1.grownBy w2 v6.ownBlock)
  (h7 : w2.ownsRow W1.heap.size 3 1 v7 ((noNotes (l.take i)).length + 1) (((posn 0 (l.take i)).map fun k : Nat => Value.int .i64 k) ++ [.int .i64 (i : Int)])) : PlI W1 l (i + 1) w2 v5 v7 := by
 have hlen : (l.take i).length = i := by
  have := (List.getElem?_eq_some_iff.1 ht).1
  rw [List.length_take]; omega
 have h1 : noNotes (l.take (i + 1)) = noNotes (l.take i) ++ [t] := by rw [take_one ht, noNotes_app, noNotes_cons, if_neg (by rw [hn]; decide)]; rfl
 have h2 : posn 0 (l.take (i + 1)) = posn 0 (l.take i) ++ [i] := by rw [take_one ht, posn_app, posn, if_neg (by rw [hn]; decide), hlen, Nat.zero_add]; rfl
 refine ⟨hb.grown hg hb.size (fun k hk => own_base h6 k hk), ?_, ?_⟩
 ·have h := own_move (w1 := w2) h5 (fun k hk => hg.block k (own_lt h5 k hk) (fun e => by
   obtain ⟨cs, h1⟩ := own_typed h5 k hk
   obtain ⟨cs2, h2⟩ := own_typed h6 k e.symm
   rw [h1] at h2
   exact absurd (cells_ty h2) (by decide)))
  rw [h1, List.length_append, List.flatMap_append]
  simpa using h
 ·rw [h1, h2, List.length_append, List.map_append]
  exact h7
structure EvI (W1 : World) (p : Nat) (E : List Ev) (l : List Tk) (paths : List (List (Nat × Nat))) (i : Nat) (wr : World) (v10 v11 : Value) (n : Nat) (acc : List Ev) (now : List (Nat × Nat)) : Prop where
 below : Below W1.heap.size W1 wr
 evs : wr.ownsRow W1.heap.size 48 8 v10 acc.length (acc.flatMap evCells)
 nowS : stRow wr 0 v11 now
 eq : acc ++ refEv now (l.drop i) (paths.drop n) = E
 len : n + (noNotes (l.drop i)).length = paths.length
 nl : now.length ≤ 1001
theorem EvI.moved {W1 : World} {p : Nat} {E : List Ev} {l : List Tk} {paths : List (List (Nat × Nat))} {i : Nat} {wr w2 : World} {v10 v11 : Value} {n : Nat} {acc : List Ev} {now : List (Nat × Nat)} (H : EvI W1 p E l paths i wr v10 v11 n acc now) (h : Below wr.heap.size wr w2) : EvI W1 p E l paths i w2 v10 v11 n acc now :=
 ⟨H.below.trans (h.mono H.below.size), own_move H.evs (fun k hk => h.block k (own_lt H.evs k hk)), own_move H.nowS (fun k hk => h.block k (own_lt H.nowS k hk)), H.eq, H.len, H.nl⟩
theorem ev_grown {W1 wr w2 : World} {v10 v : Value} {m b : Nat} {xs : List Value} {q : List (Nat × Nat)} (hb : Below W1.heap.size W1 wr) (he : wr.ownsRow W1.heap.size 48 8 v10 m xs) (hg : wr.grownBy w2 v10.ownBlock) (hs : stRow wr b v q) : Below W1.heap.size W1 w2 ∧ stRow w2 b v q :=
 ⟨hb.grown hg hb.size (fun k hk => own_base he k hk), own_move hs (fun k hk => hg.block k (own_lt hs k hk) (fun e => by
  obtain ⟨cs, h1⟩ := own_typed hs k hk
  obtain ⟨cs2, h2⟩ := own_typed he k e.symm
  rw [h1] at h2
  exact absurd (cells_ty h2) (by decide)))⟩
theorem drop_get {l : List Tk} {i : Nat} {t : Tk} (h : l[i]? = some t) : l.drop i = t :: l.drop (i + 1) := by
 rw [List.drop_eq_getElem_cons (List.getElem?_eq_some_iff.1 h).1]
 have := (List.getElem?_eq_some_iff.1 h).2
 rw [this]
theorem EvI.note {W1 : World} {p : Nat} {E : List Ev} {l : List Tk} {paths : List (List (Nat × Nat))} {i : Nat} {wr w2 : World} {v10 v10' v11 : Value} {n : Nat} {acc : List Ev} {now : List (Nat × Nat)} {t : Tk} (H : EvI W1 p E l paths i wr v10 v11 n acc now) (ht : l[i]? = some t) (hn : isNote t = true)
  (hg : wr.grownBy w2 v10.ownBlock) (ho : w2.ownsRow W1.heap.size 48 8 v10' (acc.length + 1) (acc.flatMap evCells ++ evCells (noteE t))) : EvI W1 p E l paths (i + 1) w2 v10' v11 n (acc ++ [noteE t]) now := by
 obtain ⟨h1, h2⟩ := ev_grown H.below H.evs hg H.nowS
 have he := H.eq
 have hl := H.len
 rw [drop_get ht, refEv, if_pos hn] at he
 rw [drop_get ht, noNotes_cons, if_pos hn] at hl
 refine ⟨h1, ?_, h2, by rw [List.append_assoc]; exact he, hl, H.nl⟩
 rw [List.length_append, List.flatMap_append]
 simpa using ho
theorem EvI.leaf {W1 : World} {p : Nat} {E : List Ev} {l : List Tk} {paths : List (List (Nat × Nat))} {i : Nat} {wr w3 : World} {v10 v10'' v11 vq : Value} {n : Nat} {acc : List Ev} {now q : List (Nat × Nat)} {t : Tk} (H : EvI W1 p E l paths i wr v10 v11 n acc now) (ht : l[i]? = some t) (hn : isNote t = false) (hq : paths[n]? = some q) (hql : q.length ≤ 1001)
  (h1 : Below W1.heap.size W1 w3) (h2 : stRow w3 0 vq q) (ho : w3.ownsRow W1.heap.size 48 8 v10'' (acc.length + (betw now q).length + 1) (acc.flatMap evCells ++ (betw now q).flatMap evCells ++ evCells (leafE t))) : EvI W1 p E l paths (i + 1) w3 v10'' vq (n + 1) (acc ++ betw now q ++ [leafE t]) q := by
 have he := H.eq
 have hl := H.len
 have hd : paths.drop n = q :: paths.drop (n + 1) := by
  rw [List.drop_eq_getElem_cons (List.getElem?_eq_some_iff.1 hq).1]
  have := (List.getElem?_eq_some_iff.1 hq).2
  rw [this]
 rw [drop_get ht, refEv, if_neg (by rw [hn]; decide), hd] at he
 rw [drop_get ht, noNotes_cons, if_neg (by rw [hn]; decide), List.length_cons] at hl
 refine ⟨h1, ?_, h2, ?_, by omega, hql⟩
 ·rw [List.length_append, List.length_append, List.flatMap_append, List.flatMap_append]
  simpa using ho
 ·rw [← he]
  simp
theorem idx_n {i n : Nat} (h : i < n) (hn : n ≤ 4194304) : (i : Int) < (n : Int) ∧ (0 : Int) ≤ (i : Int) ∧ wrap64 ((i : Int) + 1) = (i : Int) + 1 ∧ IntKind.i64.wrap ((i : Int) + 1) = (i : Int) + 1 := by
 simp only [IntKind.wrap_i64]
 unfold wrap64
 omega
theorem evs_one (l : List Ev) : ∀ v ∈ l.flatMap evCells, v.oneCell' = true := by
 intro v hv
 obtain ⟨e, _, he⟩ := List.mem_flatMap.1 hv
 exact evCells_one e v he
theorem add_block (a : Addr) (i : Nat) : (a.add i).block = a.block := by unfold Addr.add; split <;> rfl
theorem place_at {w : World} {b : Nat} {A : Option Addr} {n c : Nat} {ks : List Nat} {j a : Nat} (h : w.ownsRow b 3 1 (.slice A n c) n (ks.map fun k : Nat => Value.int .i64 k)) (hj : ks[j]? = some a) : ∃ ad, A = some ad ∧ j < n ∧ b ≤ ad.block ∧ w.cell? (ad.add j) = some (.int .i64 a) := by
 have hlt := (List.getElem?_eq_some_iff.1 hj).1
 have hlen := h.1
 rw [List.length_map, Nat.mul_one] at hlen
 have hb := own_base h
 rcases h.2 with ⟨he, hn⟩ | ⟨g, cap, cur, he, -⟩
 ·omega
 ·injection he with h1 h2 h3
  subst h1
  subst h3
  exact ⟨⟨g, 0, none⟩, rfl, by omega, hb g rfl, row_news h j _ (by rw [List.getElem?_map, hj]; rfl)⟩
theorem betw_len (a b : List (Nat × Nat)) : (betw a b).length ≤ a.length + b.length := by
 unfold betw
 rw [List.length_append, List.length_map, List.length_map, List.length_reverse, List.length_drop, List.length_drop]
 omega
def capV : Value → Nat
 | .slice _ _ c => c
 | _ => 0
theorem path_at {W0 : World} {A : Option Addr} {c : Nat} {l : List Tk} {all : Bool} {w : World} {p i ser : Nat} {path last : List (Nat × Nat)} {PS : List (List (Nat × Nat))} {e : Int} {vp vs vl : Value} (H : RAt W0 A c l all w p i path ser PS last e vp vs vl) {n : Nat} (hn : n < PS.length) :
  ∃ ap vq q, PS[n]? = some q ∧ PS[n]? = some q ∧ ∀ V, Below w.heap.size w V → V.cell? ⟨p, 5, none⟩ = some (.slice (some ap) PS.length (capV vs)) ∧ V.cell? (ap.add n) = some vq ∧ stRow V p vq q := by
 obtain ⟨sv, hr, hs⟩ := H.paths.out
 obtain ⟨q, hq⟩ : ∃ q, PS[n]? = some q := ⟨_, List.getElem?_eq_getElem hn⟩
 have hlen := hr.1
 rw [Nat.mul_one] at hlen
 obtain ⟨v, hv⟩ : ∃ v, sv[n]? = some v := ⟨_, List.getElem?_eq_getElem (by omega)⟩
 rcases hr.2 with ⟨he, h0⟩ | ⟨g, cap, cur, he, -⟩
 ·omega
 ·subst he
  refine ⟨⟨g, 0, none⟩, v, q, hq, hq, fun V hV => ⟨?_, ?_, ?_⟩⟩
  ·have := (H.moved hV).cell.2.2.2.2.2.1
   exact this
  ·exact pw_cell_below hV (row_news hr n v hv)
  ·exact own_move (hs n v q hv hq).row (fun k hk => hV.block k (own_lt (hs n v q hv hq).row k hk))
theorem ref_program (A : Option Addr) (c : Nat) (l : List Tk) (w : World) (hC : Kd.C kTk w A l.length l) (hl : l.length ≤ 4194304) :
  Calls Tryz.prog 7 #[.slice A l.length c] w fun e w' => ProgPost w l e w' := by
 obtain ⟨W1, hW1, hz, hb1, hzs⟩ := Tr.nd_new (W := w) (cs := z8)
 have HC := zh (fun (w1 : World) (hb : Below w.heap.size w w1) => Kd.C_below hC hb)
 have HL := zh hl
 have HW1 := zh hW1
 have HZ := zh hz
 have HB1 := zh hb1
 have HI0 := zh (PlI.start W1 l)
 clear hC hl hW1 hz hb1 hzs
 go_enter Tryz.func7, Tryz.ntmps7
 go_upto_region 3 with (fail)
 rw [HW1.out]
 clear HW1
 go_wp2
 go_loopw [5, 6, 7] (fun v5 v6 v7 wr => ∃ i : Nat, i ≤ l.length ∧ v7 = .int .i64 i ∧ Hid (PlI W1 l i wr v5 v6)) (fun _ _ v7 _ => l.length - (intOf v7).toNat)
 case atStart => exact ⟨0, Nat.zero_le _, rfl, HI0⟩
 case round =>
  obtain ⟨i, hi, rfl, HP⟩ := hrel
  clear HI0
  by_cases hlt : i < l.length
  ·obtain ⟨ad, rfl, hcells⟩ := tok_cells (HC.out w (Below.refl _ _)) i hlt
   have hti : l[i]? = some (PSyntaxProgram.rd_T28 l i) := by simp [PSyntaxProgram.rd_T28, List.getD_eq_getElem?_getD, hlt]
   obtain ⟨t, ht⟩ : ∃ t, PSyntaxProgram.rd_T28 l i = t := ⟨_, rfl⟩
   rw [ht] at hcells hti
   obtain ⟨c0, c1, c2, c3, c4, c5⟩ := hcells wr (HB1.out.trans (HP.out.below.mono HB1.out.size))
   obtain ⟨q1, q2, q3, q4⟩ := idx_n hlt HL.out
   have HCE := zh hcells
   have HTI := zh hti
   have HNL : Hid ((noNotes (l.take i)).length ≤ 4194304) := zh (Nat.le_trans (noNotes_le _) (by have := HL.out; rw [List.length_take]; omega))
   have HCM := zh (comment12 t wr)
   have HII := zh (And.intro hi hlt)
   clear ht hti hcells
   cases hn : isNote t with
   | true =>
    rw [hn] at HCM
    have HNO := zh hn
    clear hn
    go_wp2_with (go_at_call 20; (with_reducible refine cM HCM.out ?_); rintro e w2 ⟨rfl, hb⟩; replace HP := zh (HP.out.moved hb); clear c0 c1 c2 c3 c4 c5; obtain ⟨c0, c1, c2, c3, c4, c5⟩ := HCE.out w2 (HB1.out.trans (HP.out.below.mono HB1.out.size)); clear hb)
    go_roundw
    case rel => exact ⟨i + 1, by have := HII.out; omega, by go_num, zh (HP.out.note HTI.out HNO.out)⟩
    case measure => have := HII.out; simp [intOf] <;> omega
   | false =>
    rw [hn] at HCM
    have HNO := zh hn
    clear hn
    go_wp2_with (first
     | (go_at_call 20; (with_reducible refine cM HCM.out ?_); rintro e w2 ⟨rfl, hb⟩; replace HP := zh (HP.out.moved hb); clear c0 c1 c2 c3 c4 c5; obtain ⟨c0, c1, c2, c3, c4, c5⟩ := HCE.out w2 (HB1.out.trans (HP.out.below.mono HB1.out.size)); clear hb)
     | ((with_reducible refine gate_dst (N := 36) rfl ?_); refine wl_app1 infoTk rfl rfl (by decide) (by decide) rfl (.tmp 30) (.tmp 35) rfl W1.heap.size (u := u5) (q := (noNotes (l.take i)).length) (kc := (noNotes (l.take i)).flatMap tkCells) (cs := [.int .u8 t.f0, .string t.f1, .int .i64 t.f2.f0, .int .i64 t.f2.f1, .int .i64 t.f2.f2, .int .i64 t.f3]) rfl rfl HP.out.toks rfl (tkCells_one t) HP.out.below.size (by have := HNL.out; omega) ?_; intro lg lc w4 ho hg hat; have H5 := zh ho; have H6 := zh (HP.out.tok hg ho); clear c0 c1 c2 c3 c4 c5; obtain ⟨c0, c1, c2, c3, c4, c5⟩ := HCE.out w4 (HB1.out.trans (H6.out.1.mono HB1.out.size)); clear ho hg hat)
     | ((with_reducible refine gate_dst (N := 40) rfl ?_); refine wl_app1 infoInt rfl rfl (by decide) (by decide) rfl (.tmp 37) (.tmp 39) rfl W1.heap.size (u := u6) (q := (noNotes (l.take i)).length) (kc := (posn 0 (l.take i)).map fun k : Nat => Value.int .i64 k) (cs := [.int .i64 i]) rfl rfl H6.out.2 rfl (fun v hv => by rw [List.mem_singleton.1 hv]; rfl) H6.out.1.size (by have := HNL.out; omega) ?_; intro pg pc w6 ho hg hat; have HP7 := zh (PlI.next HTI.out HNO.out H6.out.1 H5.out H6.out.2 hg ho); clear ho hg hat))
    go_roundw
    case rel => exact ⟨i + 1, by have := HII.out; omega, by go_num, HP7⟩
    case measure => have := HII.out; simp [intOf] <;> omega
  ·obtain rfl : i = l.length := by omega
   have q1 : ¬ ((l.length : Int) < (l.length : Int)) := by omega
   have hT := HP.out.toks
   have hP := HP.out.pl
   rw [List.take_length] at hT hP
   obtain ⟨A5, k5, rfl, hc5, hC5⟩ := toks_C hT
   obtain ⟨A6, k6, rfl, hc6⟩ := row_slice hP
   have hnl := noNotes_le l
   obtain ⟨nr, rr, hr1, hr2⟩ := read_run true (noNotes l) (by have := HL.out; omega) (noNotes_note l)
   have HRD := zh (read_any A5 k5 (noNotes l) true wr hC5 (by have := HL.out; omega) nr rr hr1 (readR true (noNotes l)) hr2)
   have hrp := ref_prog l
   obtain ⟨S, hS⟩ : ∃ S, readR true (noNotes l) = S := ⟨_, rfl⟩
   rw [hS] at HRD hrp
   have HRP := zh hrp
   have HPL := zh hP
   have HNN := zh hnl
   have HBW := zh (HB1.out.trans (HP.out.below.mono HB1.out.size))
   have HZR := zh ((HP.out.below.block _ (blk_lt HZ.out)).trans HZ.out)
   have HSZ : Hid (w.heap.size < W1.heap.size ∧ W1.heap.size ≤ wr.heap.size) := zh ⟨blk_lt HZ.out, HP.out.below.size⟩
   clear hT hP hC5 hc5 hc6 hnl hr1 hr2 hrp hS HP HZ
   go_upto_region 11 with (go_at_call 21; (with_reducible refine cM HRD.out ?_); rintro e w5 ⟨rfl, path, ser, vp, vs, vl, -, -, hR⟩; obtain ⟨r0, r1, r2, r3, r4, r5, r6, r7⟩ := hR.cell; rw [HRP.out.1] at r7; have HR := zh hR; have HB5 := zh (HBW.out.trans (hR.below.mono HBW.out.size)); have HZ5 := zh ((hR.below.block _ (blk_lt HZR.out)).trans HZR.out); have HPL5 := zh (own_move HPL.out (fun k hk => hR.below.block k (own_lt HPL.out k hk))); have HS5 := zh (And.intro (blk_lt hR.box) hR.below.size); clear hR)
   obtain ⟨p, hp⟩ : ∃ p, wr.heap.size = p := ⟨_, rfl⟩
   rw [hp] at r0 r1 r2 r3 r4 r5 r6 r7 HR HS5 HSZ ⊢
   clear hp HRD
   by_cases h121 : progE l = 121
   ·have HNZ : Hid (progE l ≠ 0) := zh (by rw [h121]; decide)
    have HE := zh h121
    rw [h121] at r7
    clear h121
    go_upto_region 12 with (fail)
    obtain ⟨Wd, hWd⟩ : ∃ V, w5.drew = V := ⟨_, rfl⟩
    have hbd : Below w5.heap.size w5 Wd := by rw [← hWd]; exact (Below.refl _ w5).drew
    have hS : Wd.cell? ⟨p, 7, none⟩ = some (.int .i64 121) := pw_cell_below hbd r7
    have HS := zh hS
    have HWd := zh hWd
    have HBD := zh (HB5.out.trans (hbd.mono HB5.out.size))
    have HZD := zh ((hbd.block _ (blk_lt HZ5.out)).trans HZ5.out)
    obtain ⟨hz8, hu8⟩ := setCells_all (seg := Tr.zNd) HZD.out rfl
    obtain ⟨V, hV⟩ : ∃ V, Wd.setCells w.heap.size 0 Tr.zNd = V := ⟨_, rfl⟩
    rw [hV] at hz8 hu8
    have HSV : Hid (V.cell? ⟨p, 7, none⟩ = some (.int .i64 121)) := zh ((World.cell?_of_block (hu8.far p (by have := HSZ.out; omega))).trans HS.out)
    have HVV := zh hV
    have HZ8 := zh hz8
    have HEND : Hid (ProgPost w l (.returned (.tuple #[.agg Tr.zNd.toArray, .int .i64 121, .int .i64 (l.length : Int)])) V) := zh ⟨.slice none 0 0, by rw [prNd_bad HNZ.out, HE.out, HRP.out.2.1 HE.out]; rfl, by rw [prNd_bad HNZ.out]; exact Tr.ownS_nil _ _ _, hu8.below HBD.out (Nat.le_refl _)⟩
    clear hS hbd hWd hz8 hu8 hV r0 r1 r2 r3 r4 r5 r6 r7
    refine wp_region_R (fun w' => w'.cell? ⟨p, 7, none⟩ = some (.int .i64 121)) (fun _ => true) (by kernel_rfl) ?_
    rw [HWd.out]
    refine anyR_take (i := 0) (oi := ⟨some 48, .build 32 #[], 32, "ref.go:23", #[], none⟩) (v := ?_) rfl (by kernel_rfl) (fun _ _ _ h => h) (Or.inl ⟨by rfl, ?_⟩) HS.out ?_
    rotate_left
    ·intro x h; go_simp; try (with_reducible rfl)
    try simp only [Act.put,sA,List.set]
    refine anyR_take (i := 1) (oi := ⟨some 49, .move (.tmp 9), 61, "ref.go:23", #[⟨7, .gcOnly .lateStores⟩], none⟩) (v := ?_) rfl (by kernel_rfl) (fun _ _ _ h => h) (Or.inl ⟨by rfl, ?_⟩) HS.out ?_
    rotate_left
    ·intro x h; go_simp; try (with_reducible rfl)
    try simp only [Act.put,sA,List.set]
    refine anyR_take (i := 2) (oi := ⟨some 50, .nilCheck (.tmp 49), 0, "ref.go:23", #[⟨1, .data⟩, ⟨7, .gcOnly .lateStores⟩], none⟩) (v := ?_) rfl (by kernel_rfl) (fun _ _ _ h => h) (Or.inl ⟨by rfl, ?_⟩) HS.out ?_
    rotate_left
    ·intro x h; go_simp; try (with_reducible rfl)
    try simp only [Act.put,sA,List.set]
    refine anyR_take (i := 3) (oi := ⟨some 51, .fieldAddr 66 (.tmp 50) 7, 0, "ref.go:23", #[⟨2, .data⟩, ⟨7, .gcOnly .lateStores⟩], none⟩) (v := ?_) rfl (by kernel_rfl) (fun _ _ _ h => h) (Or.inl ⟨by rfl, ?_⟩) HS.out ?_
    rotate_left
    ·intro x h; go_simp; try (with_reducible rfl)
    try simp only [Act.put,sA,List.set]
    refine anyR_take (i := 4) (oi := ⟨some 52, .load 33 (.tmp 51), 33, "ref.go:23", #[⟨3, .data⟩, ⟨7, .gcOnly .lateStores⟩], none⟩) (v := ?_) rfl (by kernel_rfl) (fun _ _ _ h => h) (Or.inl ⟨by rfl, ?_⟩) HS.out ?_
    rotate_left
    ·intro x h; go_simp; try (with_reducible rfl)
    try simp only [Act.put,sA,List.set]
    refine anyR_take (i := 5) (oi := ⟨some 53, .move (.tmp 0), 22, "ref.go:23", #[], none⟩) (v := ?_) rfl (by kernel_rfl) (fun _ _ _ h => h) (Or.inl ⟨by rfl, ?_⟩) HS.out ?_
    rotate_left
    ·intro x h; go_simp; try (with_reducible rfl)
    try simp only [Act.put,sA,List.set]
    refine anyR_take (i := 6) (oi := ⟨some 54, .call { callee := .builtin .len, args := #[.tmp 53], argTypes := #[22] }, 3, "ref.go:23", #[⟨5, .data⟩], none⟩) (v := ?_) rfl (by kernel_rfl) (fun _ _ _ h => h) (Or.inl ⟨by rfl, ?_⟩) HS.out ?_
    rotate_left
    ·intro x h; go_simp; try (with_reducible rfl)
    try simp only [Act.put,sA,List.set]
    refine anyR_ready (rs := [7]) (by kernel_rfl) (by simp) ?_
    refine ReadyR.cons (o := ⟨none, .store 32 (.tmp 2) (.tmp 48), 0, "ref.go:23", #[⟨0, .data⟩, ⟨0, .phase⟩, ⟨1, .textOnly .lateStores⟩, ⟨2, .textOnly .lateStores⟩, ⟨3, .textOnly .lateStores⟩, ⟨4, .textOnly .lateStores⟩, ⟨5, .textOnly .lateStores⟩, ⟨6, .textOnly .lateStoresUnsure⟩], none⟩) rfl (fun K hK => ?_) ReadyR.nil
    refine Tr.step_store rfl rfl 32 (.tmp 2) (.tmp 48) rfl (.agg Tr.zNd.toArray) Tr.zNd rfl rfl rfl Tr.infoNd8 Tr.zNd_one HZD.out (by decide) ?_
    rw [HVV.out]
    refine hK.out _ _ (fun _ => HSV.out) ?_
    clear hK K
    try simp only [Act.put,sA,List.set]
    refine anyR_ready (rs := [8]) (by kernel_rfl) (by simp) ?_
    refine ReadyR.cons (o := ⟨some 3, .assign (.tmp 52), 33, "ref.go:23", #[⟨4, .data⟩, ⟨7, .chain⟩, ⟨0, .phase⟩, ⟨1, .phase⟩, ⟨2, .phase⟩, ⟨3, .phase⟩, ⟨4, .phase⟩, ⟨5, .textOnly .lateStores⟩, ⟨6, .textOnly .lateStoresUnsure⟩, ⟨7, .phase⟩], none⟩) rfl (fun K hK => ?_) ReadyR.nil
    go_simp
    refine hK.out _ _ (fun _ => HSV.out) ?_
    clear hK K
    try simp only [Act.put,sA,List.set]
    refine anyR_ready (rs := [9]) (by kernel_rfl) (by simp) ?_
    refine ReadyR.cons (o := ⟨some 4, .assign (.tmp 54), 3, "ref.go:23", #[⟨6, .data⟩, ⟨8, .chain⟩, ⟨0, .phase⟩, ⟨1, .phase⟩, ⟨2, .phase⟩, ⟨3, .phase⟩, ⟨4, .phase⟩, ⟨5, .phase⟩, ⟨6, .phase⟩, ⟨7, .phase⟩, ⟨8, .phase⟩], none⟩) rfl (fun K hK => ?_) ReadyR.nil
    go_simp
    refine hK.out _ _ (fun _ => HSV.out) ?_
    clear hK K
    try simp only [Act.put,sA,List.set]
    refine anyR_done (by kernel_rfl) ?_ _
    obtain ⟨x0, x1, x2, x3, x4, x5, x6, x7⟩ := Tr.cells8 HZ8.out
    go_wp2
    refine bodyPost_ret (v := .tuple #[.agg Tr.zNd.toArray, .int .i64 121, .int .i64 (l.length : Int)]) ?_ rfl HEND.out
    simp [results, Tryz.results7, go_sem, x0, x1, x2, x3, x4, x5, x6, x7]
   ·by_cases h0 : progE l = 0
    ·skip
     have HZ := zh h0
     obtain ⟨hpA, hlen, hql, hE⟩ := HRP.out.2.2.2 h0
     obtain ⟨PS, hPS⟩ : ∃ PS, S.paths = PS := ⟨_, rfl⟩
     rw [hPS] at hlen hql hE HR
     obtain ⟨E, hEE⟩ : ∃ E, (allP newPar l).1 = E := ⟨_, rfl⟩
     have hEL := prog_evs HL.out h0
     rw [hEE] at hE hEL
     have hpn : (Tr.bld E).1 = prNd l := by unfold prNd; rw [if_pos (show (allP newPar l).2.1 = 0 from h0), hEE]
     have HPN := zh (And.intro hpn hpA)
     have HEL := zh hEL
     have HLEN := zh hlen
     have HQLS := zh hql
     have HE0 := zh hE
     rw [h0] at r7
     clear h121 h0 hpA hlen hql hE hEE hEL hpn hPS
     go_upto_region 17 with (fail)
     obtain ⟨W7, hW7⟩ : ∃ V, (w5.alloc (.cells #[.int .u8 1, .int .u8 1, .int .u8 0, .string ⟨#[]⟩, .int .i64 0, .int .i64 0, .int .i64 0, .int .i64 0] 48)).alloc (.cells #[.int .u8 1, .int .i64 1] 68) = V := ⟨_, rfl⟩
     have hb7 : Below w5.heap.size w5 W7 := by rw [← hW7]; exact ((Below.refl _ w5).alloc (Nat.le_refl _) _).alloc (by simp) _
     have hr1 : W7.heap[w5.heap.size]? = some (.cells #[.int .u8 1, .int .u8 1, .int .u8 0, .string ⟨#[]⟩, .int .i64 0, .int .i64 0, .int .i64 0, .int .i64 0] 48 (0, 0)) := by rw [← hW7]; exact (Below.heap_alloc _ _ _ (by simp)).trans (World.alloc_heap_new w5 _)
     have hr2 : W7.heap[w5.heap.size + 1]? = some (.cells #[.int .u8 1, .int .i64 1] 68 (0, 0)) := by
      rw [← hW7]
      have := World.alloc_heap_new (w5.alloc (.cells #[.int .u8 1, .int .u8 1, .int .u8 0, .string ⟨#[]⟩, .int .i64 0, .int .i64 0, .int .i64 0, .int .i64 0] 48)) (.cells #[.int .u8 1, .int .i64 1] 68)
      rwa [World.size_alloc] at this
     have hI0 : EvI w5 p E l PS 0 W7 (.slice (some ⟨w5.heap.size, 0, none⟩) 1 1) (.slice (some ⟨w5.heap.size + 1, 0, none⟩) 1 1) 0 [evOf (1, 1)] [(1, 1)] :=
      ⟨hb7, ⟨rfl, .inr ⟨_, 1, _, rfl, Nat.le_refl _, hr1, Nat.le_refl _, by decide, rfl, rfl⟩⟩, ⟨rfl, .inr ⟨_, 1, _, rfl, Nat.zero_le _, hr2, Nat.le_refl _, by decide, rfl, rfl⟩⟩, by rw [List.drop_zero, List.drop_zero]; exact HE0.out.symm, by rw [List.drop_zero, Nat.zero_add]; exact HLEN.out.symm, by decide⟩
     have HI0 := zh hI0
     have HW7 := zh hW7
     clear hW7 hb7 hr1 hr2 hI0
     rw [HW7.out]
     go_wp2
     go_loopw [10, 11, 12, 13] (fun v10 v11 v12 v13 wq => ∃ i n : Nat, i ≤ l.length ∧ v13 = .int .i64 i ∧ v12 = .int .i64 n ∧ Hid (∃ acc now, EvI w5 p E l PS i wq v10 v11 n acc now)) (fun _ _ _ v13 _ => l.length - (intOf v13).toNat)
     case atStart => exact ⟨0, 0, Nat.zero_le _, rfl, rfl, zh ⟨_, _, HI0.out⟩⟩
     case round =>
      obtain ⟨i, n, hi, rfl, rfl, HPE⟩ := hrel
      obtain ⟨acc, now, hP⟩ := HPE.out
      have HP := zh hP
      have HAC : Hid (acc.length ≤ 274877906945) := zh (by have h := congrArg List.length hP.eq; rw [List.length_append] at h; have := HEL.out; omega)
      clear HI0 HPE hP HW7
      by_cases hlt : i < l.length
      ·obtain ⟨ad, rfl, hcells⟩ := tok_cells (HC.out w (Below.refl _ _)) i hlt
       have hti : l[i]? = some (PSyntaxProgram.rd_T28 l i) := by simp [PSyntaxProgram.rd_T28, List.getD_eq_getElem?_getD, hlt]
       obtain ⟨t, ht⟩ : ∃ t, PSyntaxProgram.rd_T28 l i = t := ⟨_, rfl⟩
       rw [ht] at hcells hti
       obtain ⟨c0, c1, c2, c3, c4, c5⟩ := hcells wr (HB5.out.trans (HP.out.below.mono HB5.out.size))
       obtain ⟨q1, q2, q3, q4⟩ := idx_n hlt HL.out
       have HCE := zh hcells
       have HTI := zh hti
       have HCM := zh (comment12 t wr)
       have HII := zh (And.intro hi hlt)
       clear ht hti hcells r0 r1 r2 r3 r4 r5 r6 r7
       cases hn : isNote t with
       | true =>
        rw [hn] at HCM
        have HNO := zh hn
        clear hn
        go_wp2_with (first
         | (go_at_call 20; (with_reducible refine cM HCM.out ?_); rintro e w2 ⟨rfl, hb⟩; replace HP := zh (HP.out.moved hb); clear c0 c1 c2 c3 c4 c5; obtain ⟨c0, c1, c2, c3, c4, c5⟩ := HCE.out w2 (HB5.out.trans (HP.out.below.mono HB5.out.size)); clear hb)
         | ((with_reducible refine gate_dst (N := 95) rfl ?_); refine wl_app1 infoEv rfl rfl (by decide) (by decide) rfl (.tmp 88) (.tmp 94) rfl w5.heap.size (u := u10) (q := acc.length) (kc := acc.flatMap evCells) (cs := [.int .u8 4, .int .u8 0, .int .u8 t.f0, .string t.f1, .int .i64 t.f2.f0, .int .i64 t.f2.f1, .int .i64 t.f2.f2, .int .i64 t.f3]) rfl rfl HP.out.evs rfl (evCells_one ⟨4, 0, t⟩) HP.out.below.size (by have := HAC.out; omega) ?_; intro zg zc w4 ho hg hat; have HP4 := zh (HP.out.note HTI.out HNO.out hg ho); clear ho hg hat))
        go_roundw
        case rel => exact ⟨i + 1, n, by have := HII.out; omega, by go_num, rfl, zh ⟨_, _, HP4.out⟩⟩
        case measure => have := HII.out; simp [intOf] <;> omega
       | false =>
        rw [hn] at HCM
        have hnl : n < PS.length := by
         have h := HP.out.len
         rw [drop_get HTI.out, noNotes_cons, if_neg (by rw [hn]; decide), List.length_cons] at h
         omega
        have HNO := zh hn
        clear hn
        obtain ⟨ap, vq, q, hvs, hq, hpx⟩ := path_at HR.out hnl
        have hpsl : PS.length ≤ 4194304 := by rw [HLEN.out]; have := HNN.out; have := HL.out; omega
        obtain ⟨n1, n2, n3, n4⟩ := idx_n hnl hpsl
        have hqm := HQLS.out q (List.mem_of_getElem? hq)
        have hbl := betw_len now q
        have HBL : Hid ((betw now q).length ≤ 2002) := zh (by have := HP.out.nl; omega)
        have HQL := zh hqm
        have HQ := zh hq
        have HPX := zh hpx
        obtain ⟨k1, k2, -⟩ := hpx wr HP.out.below
        clear hvs hq hpx hnl hpsl hqm hbl
        go_wp2_with (first
         | (go_at_call 20; (with_reducible refine cM HCM.out ?_); rintro e w2 ⟨rfl, hb⟩; replace HP := zh (HP.out.moved hb); clear hb; clear c0 c1 c2 c3 c4 c5 k1 k2; obtain ⟨c0, c1, c2, c3, c4, c5⟩ := HCE.out w2 (HB5.out.trans ((HP.out.below).mono HB5.out.size)); obtain ⟨k1, k2, -⟩ := HPX.out w2 (HP.out.below))
         | (go_at_call 22; (with_reducible refine cM (between_any HP.out.nowS (HPX.out w2 HP.out.below).2.2 (by have := HP.out.nl; omega) (by have := HQL.out; omega)) ?_); rintro e w3 ⟨v8, rfl, hO, hb⟩; have H8 := zh hO; replace HP := zh (HP.out.moved hb); clear hO hb; clear c0 c1 c2 c3 c4 c5 k1 k2; obtain ⟨c0, c1, c2, c3, c4, c5⟩ := HCE.out w3 (HB5.out.trans ((HP.out.below).mono HB5.out.size)); obtain ⟨k1, k2, -⟩ := HPX.out w3 (HP.out.below))
         | ((with_reducible refine gate_dst (N := 106) rfl ?_); refine wl_appN infoEv rfl rfl (by decide) (by decide) rfl (.tmp 96) (.tmp 105) rfl w5.heap.size (u := u10) rfl HP.out.evs rfl H8.out (evs_one _) (by have := HAC.out; have := HBL.out; omega) HP.out.below.size ?_; intro v9 w4 ho hg hat; have H9 := zh ho; have HB4 := zh (ev_grown HP.out.below HP.out.evs hg HP.out.nowS).1; clear ho hg hat; clear c0 c1 c2 c3 c4 c5 k1 k2; obtain ⟨c0, c1, c2, c3, c4, c5⟩ := HCE.out w4 (HB5.out.trans ((HB4.out).mono HB5.out.size)); obtain ⟨k1, k2, -⟩ := HPX.out w4 (HB4.out))
         | ((with_reducible refine gate_dst (N := 114) rfl ?_); refine wl_app1 infoEv rfl rfl (by decide) (by decide) rfl (.tmp 107) (.tmp 113) rfl w5.heap.size (u := v9) (q := acc.length + (betw now q).length) (kc := acc.flatMap evCells ++ (betw now q).flatMap evCells) (cs := [.int .u8 2, .int .u8 0, .int .u8 t.f0, .string t.f1, .int .i64 t.f2.f0, .int .i64 t.f2.f1, .int .i64 t.f2.f2, .int .i64 t.f3]) rfl rfl H9.out rfl (evCells_one ⟨2, 0, t⟩) HB4.out.size (by have := HAC.out; have := HBL.out; omega) ?_; intro zg zc w6 ho hg hat; have HB6 := zh (HB4.out.grown hg HB4.out.size (fun k hk => own_base H9.out k hk)); have HP7 := zh (HP.out.leaf HTI.out HNO.out HQ.out HQL.out HB6.out (own_weaken (HPX.out w6 HB6.out).2.2 (Nat.zero_le _)) ho); clear ho hg hat; clear c0 c1 c2 c3 c4 c5 k1 k2; obtain ⟨c0, c1, c2, c3, c4, c5⟩ := HCE.out w6 (HB5.out.trans ((HB6.out).mono HB5.out.size)); obtain ⟨k1, k2, -⟩ := HPX.out w6 (HB6.out)))
        go_roundw
        case rel => exact ⟨i + 1, n + 1, by have := HII.out; omega, by go_num, by go_num, zh ⟨_, _, HP7.out⟩⟩
        case measure => have := HII.out; simp [intOf] <;> omega
      ·obtain rfl : i = l.length := by omega
       have q1 : ¬ ((l.length : Int) < (l.length : Int)) := by omega
       have heq := HP.out.eq
       rw [List.drop_length] at heq
       have HEQ : Hid (acc ++ betw now [] = E) := zh heq
       have HBL : Hid ((betw now []).length ≤ 2002) := zh (by have := betw_len now []; have := HP.out.nl; simp at *; omega)
       clear heq r0 r1 r2 r3 r4 r5 r6 r7
       go_wp2_with (first
        | (go_at_call 22; (with_reducible refine cM (between_any (b := []) HP.out.nowS (own_nil _ 0 _ _) (by have := HP.out.nl; omega) (by decide)) ?_); rintro e w3 ⟨v8, rfl, hO, hb⟩; have H8 := zh hO; replace HP := zh (HP.out.moved hb); clear hO hb)
        | ((with_reducible refine gate_dst (N := 127) rfl ?_); refine wl_appN infoEv rfl rfl (by decide) (by decide) rfl (.tmp 124) (.tmp 126) rfl w5.heap.size (u := u10) rfl HP.out.evs rfl H8.out (evs_one _) (by have := HAC.out; have := HBL.out; omega) HP.out.below.size ?_; intro v9 w4 ho hg hat; have HB4 := zh (ev_grown HP.out.below HP.out.evs hg HP.out.nowS).1; have hrow : w4.ownsRow w5.heap.size 48 8 v9 E.length (E.flatMap evCells) := (by rw [← HEQ.out, List.length_append, List.flatMap_append]; exact ho); obtain ⟨A9, k9, hv9, hl9, hC9⟩ := evs_any hrow; subst hv9; have HBD := zh (Tr.refbuild_any A9 E.length k9 E w4 hC9 rfl (by have := HEL.out; omega)); clear ho hg hat hrow hl9 hC9)
        | (go_at_call 23; (with_reducible refine cM HBD.out ?_); rintro e w6 ⟨v6, rfl, ho6, hb6⟩; rw [HPN.out.1] at ho6 ⊢; obtain ⟨A7, k7, hv7⟩ := owns_slice ho6; subst hv7; have HO6 := zh ho6; have HBB := zh (HB4.out.trans (hb6.mono HB4.out.size)); clear ho6 hb6)
        | ((with_reducible refine gate_ (.store 32 (.tmp 15) (.tmp 131)) rfl ?_); refine Tr.wl_box rfl rfl _ _ _ rfl (ndAgg (prNd l) (.slice A7 (prNd l).f2.length k7)) (Tr.ndCells (prNd l).f0 (prNd l).f1 (.slice A7 (prNd l).f2.length k7)) rfl rfl rfl Tr.infoNd8 (Tr.ndCells_one _ _ rfl) (World.alloc_heap_new w6 _) rfl ?_; intro w7 h7 hu7; have HU7 := zh (box_up hu7); obtain ⟨y0, y1, y2, y3, y4, y5, y6, y7⟩ := Tr.cells8 h7; have HB7 := zh (HB5.out.trans ((HBB.out.trans (HU7.out.mono HBB.out.size)).mono HB5.out.size)); have HZ7 := zh (((HBB.out.trans (HU7.out.mono HBB.out.size)).block _ (blk_lt HZ5.out)).trans HZ5.out); have HO7 := zh (Tr.ownS_below HO6.out HU7.out); clear h7 hu7)
        | ((with_reducible refine gate_ (.store 32 (.tmp 2) (.tmp 133)) rfl ?_); refine Tr.wl_box rfl rfl _ _ _ rfl (ndAgg (prNd l) (.slice A7 (prNd l).f2.length k7)) (Tr.ndCells (prNd l).f0 (prNd l).f1 (.slice A7 (prNd l).f2.length k7)) rfl rfl rfl Tr.infoNd8 (Tr.ndCells_one _ _ rfl) HZ7.out rfl ?_; intro w8 h8 hu8; have HU8 := zh hu8; obtain ⟨x0, x1, x2, x3, x4, x5, x6, x7⟩ := Tr.cells8 h8; clear h8 hu8))
       refine bodyPost_ret (v := .tuple #[ndAgg (prNd l) (.slice A7 (prNd l).f2.length k7), .int .i64 0, .int .i64 0]) ?_ rfl ⟨.slice A7 (prNd l).f2.length k7, by rw [HZ.out, HPN.out.2]; rfl, ?_, HU8.out.below HB7.out (Nat.le_refl _)⟩
       ·simp [results, Tryz.results7, go_sem, x0, x1, x2, x3, x4, x5, x6, x7]
       ·exact Tr.ownS_lower (by have := HB5.out.size; have := HB4.out.size; omega) (Tr.ownS_step HO7.out (fun b _ hl => HU8.out.far b (by have := hl.1; have := HB4.out.size; have := HS5.out; have := HSZ.out; omega)))
    ·have HNZ := zh h0
     have hpos := HRP.out.2.2.1 h0 h121
     obtain ⟨ad, rfl, hjl, hab, hpl⟩ := place_at HPL5.out hpos
     obtain ⟨si, hsi⟩ : ∃ si, S.i = si := ⟨_, rfl⟩
     rw [hsi] at r1 hpos hjl hpl
     obtain ⟨pa, hpa⟩ : ∃ pa, progA l = pa := ⟨_, rfl⟩
     obtain ⟨er, her⟩ : ∃ er, progE l = er := ⟨_, rfl⟩
     rw [hpa] at hpl
     rw [her] at r7 h0 h121
     have HE := zh her
     have HPA := zh hpa
     have HADB : Hid ((ad.add si).block ≠ w.heap.size) := zh (by rw [add_block]; have := HSZ.out; omega)
     have g1 : (er == 121) = false := beq_eq_false_iff_ne.2 h121
     have g2 : (er != 0) = true := by rw [bne_iff_ne]; exact h0
     have g3 : (si : Int) < ((noNotes l).length : Int) := by omega
     have g4 : (0 : Int) ≤ (si : Int) := by omega
     clear hpa her hsi hpos hjl hab h0 h121
     go_upto_region 14 with (fail)
     obtain ⟨Wd, hWd⟩ : ∃ V, w5.drew = V := ⟨_, rfl⟩
     have hbd : Below w5.heap.size w5 Wd := by rw [← hWd]; exact (Below.refl _ w5).drew
     have hS : Wd.cell? ⟨p, 7, none⟩ = some (.int .i64 er) ∧ Wd.cell? ⟨p, 1, none⟩ = some (.int .i64 (si : Int)) ∧ Wd.cell? (ad.add si) = some (.int .i64 (pa : Int)) := ⟨pw_cell_below hbd r7, pw_cell_below hbd r1, pw_cell_below hbd hpl⟩
     have HS := zh hS
     have HWd := zh hWd
     have HBD := zh (HB5.out.trans (hbd.mono HB5.out.size))
     have HZD := zh ((hbd.block _ (blk_lt HZ5.out)).trans HZ5.out)
     obtain ⟨hz8, hu8⟩ := setCells_all (seg := Tr.zNd) HZD.out rfl
     obtain ⟨V, hV⟩ : ∃ V, Wd.setCells w.heap.size 0 Tr.zNd = V := ⟨_, rfl⟩
     rw [hV] at hz8 hu8
     have HSV : Hid (V.cell? ⟨p, 7, none⟩ = some (.int .i64 er) ∧ V.cell? ⟨p, 1, none⟩ = some (.int .i64 (si : Int)) ∧ V.cell? (ad.add si) = some (.int .i64 (pa : Int))) := zh ⟨(World.cell?_of_block (hu8.far p (by have := HSZ.out; omega))).trans HS.out.1, (World.cell?_of_block (hu8.far p (by have := HSZ.out; omega))).trans HS.out.2.1, (World.cell?_of_block (hu8.far _ HADB.out)).trans HS.out.2.2⟩
     have HVV := zh hV
     have HZ8 := zh hz8
     have HEND : Hid (ProgPost w l (.returned (.tuple #[.agg Tr.zNd.toArray, .int .i64 er, .int .i64 (pa : Int)])) V) := zh ⟨.slice none 0 0, by rw [prNd_bad HNZ.out, HE.out, HPA.out]; rfl, by rw [prNd_bad HNZ.out]; exact Tr.ownS_nil _ _ _, hu8.below HBD.out (Nat.le_refl _)⟩
     clear hS hbd hWd hz8 hu8 hV r0 r1 r2 r3 r4 r5 r6 r7 hpl
     refine wp_region_R (fun w' => w'.cell? ⟨p, 7, none⟩ = some (.int .i64 er) ∧ w'.cell? ⟨p, 1, none⟩ = some (.int .i64 (si : Int)) ∧ w'.cell? (ad.add si) = some (.int .i64 (pa : Int))) (fun _ => true) (by kernel_rfl) ?_
     rw [HWd.out]
     refine anyR_take (i := 0) (oi := ⟨some 60, .build 32 #[], 32, "ref.go:26", #[], none⟩) (v := ?_) rfl (by kernel_rfl) (fun _ _ _ h => h) (Or.inl ⟨by rfl, ?_⟩) HS.out ?_
     rotate_left
     ·intro x h; go_simp; try (with_reducible rfl)
     try simp only [Act.put,sA,List.set]
     refine anyR_take (i := 1) (oi := ⟨some 61, .move (.tmp 9), 61, "ref.go:26", #[⟨12, .gcOnly .lateStores⟩], none⟩) (v := ?_) rfl (by kernel_rfl) (fun _ _ _ h => h) (Or.inl ⟨by rfl, ?_⟩) HS.out ?_
     rotate_left
     ·intro x h; go_simp; try (with_reducible rfl)
     try simp only [Act.put,sA,List.set]
     refine anyR_take (i := 2) (oi := ⟨some 62, .nilCheck (.tmp 61), 0, "ref.go:26", #[⟨1, .data⟩, ⟨12, .gcOnly .lateStores⟩], none⟩) (v := ?_) rfl (by kernel_rfl) (fun _ _ _ h => h) (Or.inl ⟨by rfl, ?_⟩) HS.out ?_
     rotate_left
     ·intro x h; go_simp; try (with_reducible rfl)
     try simp only [Act.put,sA,List.set]
     refine anyR_take (i := 3) (oi := ⟨some 63, .fieldAddr 66 (.tmp 62) 7, 0, "ref.go:26", #[⟨2, .data⟩, ⟨12, .gcOnly .lateStores⟩], none⟩) (v := ?_) rfl (by kernel_rfl) (fun _ _ _ h => h) (Or.inl ⟨by rfl, ?_⟩) HS.out ?_
     rotate_left
     ·intro x h; go_simp; try (with_reducible rfl)
     try simp only [Act.put,sA,List.set]
     refine anyR_take (i := 4) (oi := ⟨some 64, .load 33 (.tmp 63), 33, "ref.go:26", #[⟨3, .data⟩, ⟨12, .gcOnly .lateStores⟩], none⟩) (v := ?_) rfl (by kernel_rfl) (fun _ _ _ h => h) (Or.inl ⟨by rfl, ?_⟩) HS.out ?_
     rotate_left
     ·intro x h; go_simp; try (with_reducible rfl)
     try simp only [Act.put,sA,List.set]
     refine anyR_take (i := 5) (oi := ⟨some 65, .move (.tmp 6), 59, "ref.go:26", #[⟨13, .gcOnly .lateStores⟩], none⟩) (v := ?_) rfl (by kernel_rfl) (fun _ _ _ h => h) (Or.inl ⟨by rfl, ?_⟩) HS.out ?_
     rotate_left
     ·intro x h; go_simp; try (with_reducible rfl)
     try simp only [Act.put,sA,List.set]
     refine anyR_take (i := 6) (oi := ⟨some 66, .move (.tmp 9), 61, "ref.go:26", #[⟨13, .gcOnly .lateStores⟩], none⟩) (v := ?_) rfl (by kernel_rfl) (fun _ _ _ h => h) (Or.inl ⟨by rfl, ?_⟩) HS.out ?_
     rotate_left
     ·intro x h; go_simp; try (with_reducible rfl)
     try simp only [Act.put,sA,List.set]
     refine anyR_take (i := 7) (oi := ⟨some 67, .nilCheck (.tmp 66), 0, "ref.go:26", #[⟨6, .data⟩, ⟨13, .gcOnly .lateStores⟩], none⟩) (v := ?_) rfl (by kernel_rfl) (fun _ _ _ h => h) (Or.inl ⟨by rfl, ?_⟩) HS.out ?_
     rotate_left
     ·intro x h; go_simp; try (with_reducible rfl)
     try simp only [Act.put,sA,List.set]
     refine anyR_take (i := 8) (oi := ⟨some 68, .fieldAddr 66 (.tmp 67) 1, 0, "ref.go:26", #[⟨7, .data⟩, ⟨13, .gcOnly .lateStores⟩], none⟩) (v := ?_) rfl (by kernel_rfl) (fun _ _ _ h => h) (Or.inl ⟨by rfl, ?_⟩) HS.out ?_
     rotate_left
     ·intro x h; go_simp; try (with_reducible rfl)
     try simp only [Act.put,sA,List.set]
     refine anyR_take (i := 9) (oi := ⟨some 69, .load 3 (.tmp 68), 3, "ref.go:26", #[⟨8, .data⟩, ⟨13, .gcOnly .lateStores⟩], none⟩) (v := ?_) rfl (by kernel_rfl) (fun _ _ _ h => h) (Or.inl ⟨by rfl, ?_⟩) HS.out ?_
     rotate_left
     ·intro x h; go_simp; try (with_reducible rfl)
     try simp only [Act.put,sA,List.set]
     refine anyR_take (i := 10) (oi := ⟨some 70, .indexAddr 59 (.tmp 65) (.tmp 69), 0, "ref.go:26", #[⟨5, .data⟩, ⟨9, .data⟩, ⟨13, .gcOnly .lateStores⟩], none⟩) (v := ?_) rfl (by kernel_rfl) (fun _ _ _ h => h) (Or.inl ⟨by rfl, ?_⟩) HS.out ?_
     rotate_left
     ·intro x h; go_simp; try (with_reducible rfl)
     try simp only [Act.put,sA,List.set]
     refine anyR_take (i := 11) (oi := ⟨some 71, .load 3 (.tmp 70), 3, "ref.go:26", #[⟨10, .data⟩, ⟨13, .gcOnly .lateStores⟩], none⟩) (v := ?_) rfl (by kernel_rfl) (fun _ _ _ h => h) (Or.inl ⟨by rfl, ?_⟩) HS.out ?_
     rotate_left
     ·intro x h; go_simp; try (with_reducible rfl)
     try simp only [Act.put,sA,List.set]
     refine anyR_ready (rs := [12]) (by kernel_rfl) (by simp) ?_
     refine ReadyR.cons (o := ⟨none, .store 32 (.tmp 2) (.tmp 60), 0, "ref.go:26", #[⟨0, .data⟩, ⟨0, .phase⟩, ⟨1, .textOnly .lateStores⟩, ⟨2, .textOnly .lateStores⟩, ⟨3, .textOnly .lateStores⟩, ⟨4, .textOnly .lateStores⟩, ⟨5, .textOnly .lateStores⟩, ⟨6, .textOnly .lateStores⟩, ⟨7, .textOnly .lateStores⟩, ⟨8, .textOnly .lateStores⟩, ⟨9, .textOnly .lateStores⟩, ⟨10, .textOnly .lateStores⟩, ⟨11, .textOnly .lateStores⟩], none⟩) rfl (fun K hK => ?_) ReadyR.nil
     refine Tr.step_store rfl rfl 32 (.tmp 2) (.tmp 60) rfl (.agg Tr.zNd.toArray) Tr.zNd rfl rfl rfl Tr.infoNd8 Tr.zNd_one HZD.out (by decide) ?_
     rw [HVV.out]
     refine hK.out _ _ (fun _ => HSV.out) ?_
     clear hK K
     try simp only [Act.put,sA,List.set]
     refine anyR_ready (rs := [13]) (by kernel_rfl) (by simp) ?_
     refine ReadyR.cons (o := ⟨some 3, .assign (.tmp 64), 33, "ref.go:26", #[⟨4, .data⟩, ⟨12, .chain⟩, ⟨0, .phase⟩, ⟨1, .phase⟩, ⟨2, .phase⟩, ⟨3, .phase⟩, ⟨4, .phase⟩, ⟨5, .textOnly .lateStores⟩, ⟨6, .textOnly .lateStores⟩, ⟨7, .textOnly .lateStores⟩, ⟨8, .textOnly .lateStores⟩, ⟨9, .textOnly .lateStores⟩, ⟨10, .textOnly .lateStores⟩, ⟨11, .textOnly .lateStores⟩, ⟨12, .phase⟩], none⟩) rfl (fun K hK => ?_) ReadyR.nil
     go_simp
     refine hK.out _ _ (fun _ => HSV.out) ?_
     clear hK K
     try simp only [Act.put,sA,List.set]
     refine anyR_ready (rs := [14]) (by kernel_rfl) (by simp) ?_
     refine ReadyR.cons (o := ⟨some 4, .assign (.tmp 71), 3, "ref.go:26", #[⟨11, .data⟩, ⟨13, .chain⟩, ⟨0, .phase⟩, ⟨1, .phase⟩, ⟨2, .phase⟩, ⟨3, .phase⟩, ⟨4, .phase⟩, ⟨5, .phase⟩, ⟨6, .phase⟩, ⟨7, .phase⟩, ⟨8, .phase⟩, ⟨9, .phase⟩, ⟨10, .phase⟩, ⟨11, .phase⟩, ⟨12, .phase⟩, ⟨13, .phase⟩], none⟩) rfl (fun K hK => ?_) ReadyR.nil
     go_simp
     refine hK.out _ _ (fun _ => HSV.out) ?_
     clear hK K
     try simp only [Act.put,sA,List.set]
     refine anyR_done (by kernel_rfl) ?_ _
     obtain ⟨x0, x1, x2, x3, x4, x5, x6, x7⟩ := Tr.cells8 HZ8.out
     go_wp2
     refine bodyPost_ret (v := .tuple #[.agg Tr.zNd.toArray, .int .i64 er, .int .i64 (pa : Int)]) ?_ rfl HEND.out
     simp [results, Tryz.results7, go_sem, x0, x1, x2, x3, x4, x5, x6, x7]
theorem tk_atT : ∀ (xs : List Tk) (i : Nat) (x : Tk), xs[i]? = some x → ∀ (j : Nat) (v : Value), (tkCells x)[j]? = some v → (xs.flatMap tkCells)[i * 6 + j]? = some v
 | [], i, k, h, _, _, _ => by simp at h
 | y :: ys, i, k, h, j, v, hj => by
  have hlt : j < 6 := (List.getElem?_eq_some_iff.1 hj).1
  have h8 : (tkCells y).length = 6 := rfl
  rw [List.flatMap_cons]
  cases i with
  | zero =>
   simp at h
   subst h
   rw [List.getElem?_append_left (by omega), Nat.zero_mul, Nat.zero_add]
   exact hj
  | succ i =>
   rw [List.getElem?_append_right (by omega), h8, show (i + 1) * 6 + j - 6 = i * 6 + j by omega]
   exact tk_atT ys i k (by simpa using h) j v hj
section
variable {P : Program}
theorem run_copy_zeroT (w : World) (dT sT ty elem : TypeId) (d a : Option Addr) (dLen dCap sLen sCap : Nat) (hu : P.underlying dT = some (.slice elem)) (i : TypeInfo) (hi : P.info? elem = some i) (hn : Nat.min sLen dLen = 0) :
  (Builtin.copy_ #[dT, sT] ty #[.slice d dLen dCap, .slice a sLen sCap]).run P w = .ok (goInt 0) w := by
 have hl : ∀ (x : Addr), (loadCells x 0).run P w = .ok #[] w := fun x => by simpa using run_loadCells_list (P := P) w x [] (by simp)
 cases d <;> cases a <;> simp [Builtin.copy_, run_underlying hu, Builtin.lenOf, Builtin.firstCells, sizeOf, typeInfo, hi, hn, storeCells, hl]
theorem run_copy_rowsT (w : World) (dT sT ty elem : TypeId) (g o dLen dCap : Nat) (a : Addr) (sLen sCap : Nat) (cur : Array Value) (t : TypeId) (cs : List Value)
  (hu : P.underlying dT = some (.slice elem)) (i : TypeInfo) (hi : P.info? elem = some i)
  (hg : w.heap[g]? = some (.cells cur t (0, 0))) (hn : cs.length = Nat.min sLen dLen * i.size)
  (hsrc : ∀ j v, cs[j]? = some v → w.cell? (a.add j) = some v) (hfit : o + cs.length ≤ cur.size) (h1 : ∀ v ∈ cs, v.oneCell' = true) :
  (Builtin.copy_ #[dT, sT] ty #[.slice (some ⟨g, o, none⟩) dLen dCap, .slice (some a) sLen sCap]).run P w =
   .ok (goInt (Nat.min sLen dLen)) (w.setRow g (cur.toList.take o ++ cs ++ cur.toList.drop (o + cs.length)).toArray) := by
 have hl := run_loadCells_list (P := P) w a cs hsrc
 have hst := run_storeCells_at P g o t cs 0 cur w hg (by simpa using hfit) h1
 simp [Builtin.copy_, run_underlying hu, Builtin.lenOf, Builtin.firstCells, sizeOf, typeInfo, hi, ← hn, hl, hst]
end
theorem tkCells_lenT (e : Tk) : (tkCells e).length = 6 := rfl
theorem flat_lenT : ∀ l : List Tk, (l.flatMap tkCells).length = l.length * 6
 | [] => rfl
 | e :: l => by rw [List.flatMap_cons, List.length_append, flat_lenT l, tkCells_lenT, List.length_cons]; omega
theorem flat_oneT (l : List Tk) : ∀ v ∈ l.flatMap tkCells, v.oneCell' = true := by
 intro v hv
 obtain ⟨e, _, he⟩ := List.mem_flatMap.1 hv
 simp only [tkCells, List.mem_cons, List.not_mem_nil, or_false] at he
 rcases he with rfl | rfl | rfl | rfl | rfl | rfl <;> rfl
theorem flat_getT : ∀ (l : List Tk) (j : Nat) (v : Value), (l.flatMap tkCells)[j]? = some v → ∃ e i k, l[i]? = some e ∧ j = i * 6 + k ∧ (tkCells e)[k]? = some v
 | [], j, v, h => by simp at h
 | e :: l, j, v, h => by
  rw [List.flatMap_cons] at h
  by_cases hj : j < 6
  ·rw [List.getElem?_append_left (by rw [tkCells_lenT]; exact hj)] at h
   exact ⟨e, 0, j, rfl, by omega, h⟩
  ·rw [List.getElem?_append_right (by rw [tkCells_lenT]; omega), tkCells_lenT] at h
   obtain ⟨e', i, k, h1, h2, h3⟩ := flat_getT l (j - 6) v h
   exact ⟨e', i + 1, k, h1, by omega, h3⟩
theorem tk_cellsT {w : World} {ad : Addr} {n : Nat} {l : List Tk} (h : Kd.C kTk w (some ad) n l) (hn : 0 < n) : ∀ j v, (l.flatMap tkCells)[j]? = some v → w.cell? (ad.add j) = some v := by
 intro j v hj
 obtain ⟨e, i, k, h1, rfl, h3⟩ := flat_getT l j v hj
 obtain ⟨ad', hA, hc⟩ := h.2.2 hn
 obtain rfl := Option.some.inj hA
 obtain ⟨c, hl, hK, hcell⟩ := hc i e h1
 obtain rfl := PSyntaxProgram.k28_open hK
 exact hcell k v h3
theorem setRow_updT (w : World) (g : Nat) (cs : Array Value) : Tr.Upd g w (w.setRow g cs) := ⟨fun k hk => setRow_other w g k cs hk, rfl, rfl, rfl, by simp [World.setRow]⟩
theorem updR (g : Nat) (w : World) : Tr.Upd g w w := ⟨fun _ _ => rfl, rfl, rfl, rfl, rfl⟩
theorem wl_copyTk {ops : Array Oper} {rest : List Oper} {o : Oper} {a : Act} {Q : Exit → Act → World → Prop} {W : World} (hgd : o.guard = none) (d s : Operand) (ho : o.op = .call { callee := .builtin .copy, args := #[d, s], argTypes := #[22, 22] })
  (g n cap c : Nat) (A : Option Addr) (cur : Array Value) (l : List Tk) (hd : a.eval d = .slice (some ⟨g, 0, none⟩) n cap) (hs : a.eval s = .slice A n c) (hg : W.heap[g]? = some (.cells cur 28 (0, 0))) (hC : Kd.C kTk W A n l) (hfit : n * 6 ≤ cur.size)
  (h : ∀ w5, w5.heap[g]? = some (.cells (l.flatMap tkCells ++ cur.toList.drop (n * 6)).toArray 28 (0, 0)) → Tr.Upd g W w5 → wpList Tryz.prog ops Q rest (a.put o.dst (goInt n)) w5) : wpList Tryz.prog ops Q (o :: rest) a W := by
 obtain ⟨i, hi, hsz⟩ : ∃ i, Tryz.prog.info? 28 = some i ∧ i.size = 6 := by
  obtain ⟨i, hi, he⟩ := Option.map_eq_some_iff.1 infoTk
  simp only [Prod.mk.injEq] at he
  exact ⟨i, hi, he.2.1⟩
 have hl : l.length = n := hC.1
 have hmin : Nat.min n n = n := Nat.min_self n
 refine wpList_plain hgd fun K hK => ?_
 by_cases h0 : n = 0
 ·have hrun := run_copy_zeroT (P := Tryz.prog) W 22 22 o.type 28 (some ⟨g, 0, none⟩) A n cap n c Tryz.underlying22 i hi (by rw [hmin]; exact h0)
  have hln : l = [] := List.eq_nil_of_length_eq_zero (by omega)
  unfold Oper.wp execOp
  simp only [ho, resolve, invoke, builtin, Sem.run_bind, Sem.run_pure, Result.andThen_ok, List.map_toArray, List.map_cons, List.map_nil, hd, hs, hrun]
  have := hK _ _ (h W (by rw [hg, hln, h0]; simp) (updR g W))
  rw [h0] at this
  exact this
 ·obtain ⟨ad, rfl, _⟩ := hC.2.2 (by omega)
  have hrun := run_copy_rowsT (P := Tryz.prog) W 22 22 o.type 28 g 0 n cap ad n c cur 28 (l.flatMap tkCells) Tryz.underlying22 i hi hg (by rw [flat_lenT, hmin, hsz, hl]) (tk_cellsT hC (by omega)) (by rw [flat_lenT, hl]; omega) (flat_oneT l)
  rw [hmin, List.take_zero, List.nil_append, Nat.zero_add, flat_lenT, hl] at hrun
  unfold Oper.wp execOp
  simp only [ho, resolve, invoke, builtin, Sem.run_bind, Sem.run_pure, Result.andThen_ok, List.map_toArray, List.map_cons, List.map_nil, hd, hs, hrun]
  exact hK _ _ (h _ (Go.setRow_heap W g _ _ _ _ hg) (setRow_updT _ _ _))
theorem make_toks (n : Nat) (hn : n ≤ 549755813892) : ∃ zs : Array Value, zs.size = (n + 1) * 6 ∧ ∀ w, (Instr.makeSlice 22 (.int .i64 n) (.int .i64 ((n : Int) + 1))).run Tryz.prog w = .ok (.slice (some ⟨w.heap.size, 0, none⟩) n (n + 1)) (w.alloc (.cells zs 28)) := by
 obtain ⟨i, z, hi, hz, hs, hb⟩ : ∃ i z, Tryz.prog.info? 28 = some i ∧ i.zero = some z ∧ i.size = 6 ∧ i.bytes = 56 := by
  obtain ⟨i, hi, he⟩ := Option.map_eq_some_iff.1 infoTk
  simp only [Prod.mk.injEq] at he
  exact ⟨i, _, hi, he.1, he.2.1, he.2.2⟩
 refine ⟨madeCells z.cells ((n + 1) * i.size), by rw [size_madeCells, hs], fun w => ?_⟩
 have h := run_make (P := Tryz.prog) w 22 28 i z Tryz.underlying22 hi hz .i64 .i64 n ((n : Int) + 1) (by omega) (by omega) (by rw [hb]; omega) (by omega)
 rw [Int.toNat_natCast, show ((n : Int) + 1).toNat = n + 1 from by omega] at h
 exact h
theorem tk_row2 {w : World} {b : Nat} {xs : List Tk} {rest : List Value} {T : TypeId} (hh : w.heap[b]? = some (.cells (xs.flatMap tkCells ++ rest).toArray T (0, 0))) (hl : xs.length ≤ 549755813892) : Kd.C kTk w (some ⟨b, 0, none⟩) xs.length xs := by
 refine ⟨rfl, by omega, fun _ => ⟨⟨b, 0, none⟩, rfl, fun j p hp => ⟨tkCells p, rfl, PSyntaxProgram.k28_mk w p, fun i u hu => ?_⟩⟩⟩
 show w.cell? ((⟨b, 0, none⟩ : Addr).add (j * 6 + i)) = some u
 rw [show (⟨b, 0, none⟩ : Addr).add (j * 6 + i) = ⟨b, j * 6 + i, none⟩ by simp [Addr.add]; omega]
 refine (cR _ hh).trans ?_
 have := tk_atT xs j p hp i u hu
 rw [List.getElem?_toArray, List.getElem?_append_left (List.getElem?_eq_some_iff.1 this).1]
 exact this
def markT : List Value := [.int .u8 0, .string ⟨#[109, 97, 114, 107]⟩, .int .i64 0, .int .i64 0, .int .i64 0, .int .i64 0]
theorem markT_one : ∀ v ∈ markT, v.oneCell' = true := by decide
theorem infoTk8 : (Tryz.prog.info? 28).map (·.size) = some 6 := by kernel_rfl
theorem mark_set {W : World} {g n : Nat} {l : List Tk} {zs : Array Value} (hl : l.length = n) (hz : zs.size = (n + 1) * 6) (hg : W.heap[g]? = some (.cells (l.flatMap tkCells ++ zs.toList.drop (n * 6)).toArray 28 (0, 0))) :
  n * 6 + markT.length ≤ (l.flatMap tkCells ++ zs.toList.drop (n * 6)).toArray.size ∧ ∀ V, V = W.setCells g (n * 6) markT → V.heap[g]? = some (.cells (l.flatMap tkCells ++ markT).toArray 28 (0, 0)) ∧ Tr.Upd g W V := by
 have hfit : n * 6 + markT.length ≤ (l.flatMap tkCells ++ zs.toList.drop (n * 6)).toArray.size := by
  simp only [List.size_toArray, List.length_append, flat_lenT, List.length_drop, Array.length_toList, hl, hz]
  simp only [markT, List.length_cons, List.length_nil]
  omega
 refine ⟨hfit, fun V hV => ?_⟩
 subst hV
 obtain ⟨cur', k1, k2, k3⟩ := setCells_row markT (n * 6) W _ hg hfit
 refine ⟨?_, fun k hk => setCells_far markT _ k hk, (setCells_same g markT (n * 6) W).1, (setCells_same g markT (n * 6) W).2.1, (setCells_same g markT (n * 6) W).2.2.1, (setCells_same g markT (n * 6) W).2.2.2⟩
 rw [k1]
 have hf : (l.flatMap tkCells).length = n * 6 := by rw [flat_lenT, hl]
 have : cur'.toList = l.flatMap tkCells ++ markT := by
  rw [k3]
  simp only
  rw [List.take_append_of_le_length (by omega), List.take_of_length_le (by omega), List.drop_of_length_le (by
   simp only [List.length_append, hf, List.length_drop, Array.length_toList, hz]
   simp only [markT, List.length_cons, List.length_nil]
   omega), List.append_nil]
 have e : cur' = (l.flatMap tkCells ++ markT).toArray := Array.ext' (by simpa using this)
 rw [e]
end Go.Proofs.YtmjbpgnjgblnmaaGreat
namespace Go.Proofs.YtmjbpgnjgblnmaaGreat.Tr
open Go.RowKit Go.Proofs.YtmjbpgnjgblnmaaGreatW.PrintWords Go.Proofs.YtmjbpgnjgblnmaaGreatW.PrintLast Go.Proofs.YtmjbpgnjgblnmaaGreatW.PrintMore
theorem whole_any : ∀ (N : Nat) (x : Nd) (A B : Option Addr) (c d : Nat) (w : World), nds x ≤ N → nds x ≤ 549755813892 → x.f2.length ≤ c → x.f2.length ≤ d → Kd.C kNd w A x.f2.length x.f2 → Kd.C kNd w B x.f2.length x.f2 →
  Calls Tryz.prog 8 #[.agg #[.int .u8 x.f0, .int .u8 x.f1.f0, .string x.f1.f1, .int .i64 x.f1.f2.f0, .int .i64 x.f1.f2.f1, .int .i64 x.f1.f2.f2, .int .i64 x.f1.f3, .slice A x.f2.length c], .agg #[.int .u8 x.f0, .int .u8 x.f1.f0, .string x.f1.f1, .int .i64 x.f1.f2.f0, .int .i64 x.f1.f2.f1, .int .i64 x.f1.f2.f2, .int .i64 x.f1.f3, .slice B x.f2.length d]] w fun e w' => e = .returned (.bool true) ∧ Below w.heap.size w w' := by
 intro N
 induction N with
 | zero => intro x A B c d w hN; have := nds_pos x; omega
 | succ N ih =>
  intro x A B c d w hN hbig hlc hld hC hD
  have hn : x.f2.length ≤ 549755813891 := by rw [nds_eq] at hbig; have := ndsL_len x.f2; omega
  have IH := zh ih
  have HC := zh hC
  have HD := zh hD
  have HLC := zh (And.intro hlc hld)
  have HNN := zh (And.intro hN hbig)
  obtain ⟨W0, hW0⟩ : ∃ V, (w.alloc (.cells #[.int .u8 x.f0, .int .u8 x.f1.f0, .string x.f1.f1, .int .i64 x.f1.f2.f0, .int .i64 x.f1.f2.f1, .int .i64 x.f1.f2.f2, .int .i64 x.f1.f3, .slice A x.f2.length c] TN)).alloc (.cells #[.int .u8 x.f0, .int .u8 x.f1.f0, .string x.f1.f1, .int .i64 x.f1.f2.f0, .int .i64 x.f1.f2.f1, .int .i64 x.f1.f2.f2, .int .i64 x.f1.f3, .slice B x.f2.length d] TN) = V := ⟨_, rfl⟩
  have hb0 : Below w.heap.size w W0 := by rw [← hW0]; exact ((Below.refl _ w).alloc (Nat.le_refl _) _).alloc (by simp) _
  have h0 : W0.heap[w.heap.size]? = some (.cells #[.int .u8 x.f0, .int .u8 x.f1.f0, .string x.f1.f1, .int .i64 x.f1.f2.f0, .int .i64 x.f1.f2.f1, .int .i64 x.f1.f2.f2, .int .i64 x.f1.f3, .slice A x.f2.length c] TN (0, 0)) := by rw [← hW0]; exact (Below.heap_alloc _ _ _ (by simp)).trans (World.alloc_heap_new w _)
  have h1 : W0.heap[w.heap.size + 1]? = some (.cells #[.int .u8 x.f0, .int .u8 x.f1.f0, .string x.f1.f1, .int .i64 x.f1.f2.f0, .int .i64 x.f1.f2.f1, .int .i64 x.f1.f2.f2, .int .i64 x.f1.f3, .slice B x.f2.length d] TN (0, 0)) := by
   rw [← hW0]
   have := World.alloc_heap_new (w.alloc (.cells #[.int .u8 x.f0, .int .u8 x.f1.f0, .string x.f1.f1, .int .i64 x.f1.f2.f0, .int .i64 x.f1.f2.f1, .int .i64 x.f1.f2.f2, .int .i64 x.f1.f3, .slice A x.f2.length c] TN)) (.cells #[.int .u8 x.f0, .int .u8 x.f1.f0, .string x.f1.f1, .int .i64 x.f1.f2.f0, .int .i64 x.f1.f2.f1, .int .i64 x.f1.f2.f2, .int .i64 x.f1.f3, .slice B x.f2.length d] TN)
   rwa [World.size_alloc] at this
  have HW0 := zh hW0
  have HB0 := zh hb0
  have H0 := zh (nd_box h0)
  have H1 := zh (nd_box h1)
  clear ih hC hD hlc hld hN hbig hb0 h0 h1 hW0
  go_enter Tryz.func8, Tryz.ntmps8
  go_upto_region 3 with (fail)
  rw [HW0.out]
  clear HW0
  go_wp2
  go_loopw [5] (fun iv wr => ∃ i : Nat, i ≤ x.f2.length ∧ iv = .int .i64 i ∧ Hid (Below W0.heap.size W0 wr)) (fun iv _ => x.f2.length - (intOf iv).toNat)
  case atStart => exact ⟨0, Nat.zero_le _, rfl, zh (Below.refl _ _)⟩
  case round =>
   obtain ⟨i, hi, rfl, HR⟩ := hrel
   obtain ⟨p0, p1, p2, p3, p4, p5, p6, p7⟩ := H0.out wr HR.out
   obtain ⟨q0, q1, q2, q3, q4, q5, q6, q7⟩ := H1.out wr HR.out
   by_cases hlt : i < x.f2.length
   ·have dlt : decide (i < x.f2.length) = true := decide_eq_true hlt
    obtain ⟨y, hy⟩ : ∃ y, x.f2[i]? = some y := ⟨_, List.getElem?_eq_getElem hlt⟩
    go_upto_region 6 with (fail)
    obtain ⟨Wd, hWd⟩ : ∃ V, wr.drew = V := ⟨_, rfl⟩
    have hbd : Below wr.heap.size wr Wd := by rw [← hWd]; exact (Below.refl _ wr).drew
    have hwd : Below w.heap.size w Wd := (HB0.out.trans (HR.out.mono HB0.out.size)).trans (hbd.mono (HB0.out.trans (HR.out.mono HB0.out.size)).size)
    have h0d : Below W0.heap.size W0 Wd := HR.out.trans (hbd.mono HR.out.size)
    obtain ⟨ad, A1, c1, rfl, hcs, hl1, hC1⟩ := kid_at (Kd.C_below HC.out hwd) i y hlt hy
    obtain ⟨bd, B1, d1, rfl, hds, hl2, hD1⟩ := kid_at (Kd.C_below HD.out hwd) i y hlt hy
    have hSall : ∀ V, Below Wd.heap.size Wd V → V.cell? ⟨w.heap.size, 7, none⟩ = some (.slice (some ad) x.f2.length c) ∧ V.cell? ⟨w.heap.size + 1, 7, none⟩ = some (.slice (some bd) x.f2.length d) ∧ V.cell? (ad.add (i * 8)) = some (.int .u8 y.f0) ∧ V.cell? ⟨(ad.add (i * 8)).block, (ad.add (i * 8)).off + 1, none⟩ = some (.int .u8 y.f1.f0) ∧ V.cell? ⟨(ad.add (i * 8)).block, (ad.add (i * 8)).off + 2, none⟩ = some (.string y.f1.f1) ∧ V.cell? ⟨(ad.add (i * 8)).block, (ad.add (i * 8)).off + 3, none⟩ = some (.int .i64 y.f1.f2.f0) ∧ V.cell? ⟨(ad.add (i * 8)).block, (ad.add (i * 8)).off + 4, none⟩ = some (.int .i64 y.f1.f2.f1) ∧ V.cell? ⟨(ad.add (i * 8)).block, (ad.add (i * 8)).off + 5, none⟩ = some (.int .i64 y.f1.f2.f2) ∧ V.cell? ⟨(ad.add (i * 8)).block, (ad.add (i * 8)).off + 6, none⟩ = some (.int .i64 y.f1.f3) ∧ V.cell? ⟨(ad.add (i * 8)).block, (ad.add (i * 8)).off + 7, none⟩ = some (.slice A1 y.f2.length c1) ∧ V.cell? (bd.add (i * 8)) = some (.int .u8 y.f0) ∧ V.cell? ⟨(bd.add (i * 8)).block, (bd.add (i * 8)).off + 1, none⟩ = some (.int .u8 y.f1.f0) ∧ V.cell? ⟨(bd.add (i * 8)).block, (bd.add (i * 8)).off + 2, none⟩ = some (.string y.f1.f1) ∧ V.cell? ⟨(bd.add (i * 8)).block, (bd.add (i * 8)).off + 3, none⟩ = some (.int .i64 y.f1.f2.f0) ∧ V.cell? ⟨(bd.add (i * 8)).block, (bd.add (i * 8)).off + 4, none⟩ = some (.int .i64 y.f1.f2.f1) ∧ V.cell? ⟨(bd.add (i * 8)).block, (bd.add (i * 8)).off + 5, none⟩ = some (.int .i64 y.f1.f2.f2) ∧ V.cell? ⟨(bd.add (i * 8)).block, (bd.add (i * 8)).off + 6, none⟩ = some (.int .i64 y.f1.f3) ∧ V.cell? ⟨(bd.add (i * 8)).block, (bd.add (i * 8)).off + 7, none⟩ = some (.slice B1 y.f2.length d1) := fun V hV => ⟨(H0.out V (h0d.trans (hV.mono h0d.size))).2.2.2.2.2.2.2, (H1.out V (h0d.trans (hV.mono h0d.size))).2.2.2.2.2.2.2, pw_cell_below hV hcs.1, pw_cell_below hV hcs.2.1, pw_cell_below hV hcs.2.2.1, pw_cell_below hV hcs.2.2.2.1, pw_cell_below hV hcs.2.2.2.2.1, pw_cell_below hV hcs.2.2.2.2.2.1, pw_cell_below hV hcs.2.2.2.2.2.2.1, pw_cell_below hV hcs.2.2.2.2.2.2.2, pw_cell_below hV hds.1, pw_cell_below hV hds.2.1, pw_cell_below hV hds.2.2.1, pw_cell_below hV hds.2.2.2.1, pw_cell_below hV hds.2.2.2.2.1, pw_cell_below hV hds.2.2.2.2.2.1, pw_cell_below hV hds.2.2.2.2.2.2.1, pw_cell_below hV hds.2.2.2.2.2.2.2⟩
    have HSA := zh hSall
    have HS := zh (hSall Wd (Below.refl _ _))
    have HWd := zh hWd
    have HBD := zh h0d
    have hny : nds y ≤ ndsL x.f2 := ndsL_mem (List.mem_of_getElem? hy)
    have HKC := zh (IH.out y A1 B1 c1 d1 Wd (by have := HNN.out.1; rw [nds_eq] at this; omega) (by have := HNN.out.2; rw [nds_eq] at this; omega) hl1 hl2 hC1 hD1)
    have g1 : (0 : Int) ≤ (i : Int) := by omega
    have g2 : (i : Int) < (x.f2.length : Int) := by omega
    clear hbd hwd h0d hcs hds hl1 hl2 hC1 hD1 hSall hy hWd hny p0 p1 p2 p3 p4 p5 p6 p7 q0 q1 q2 q3 q4 q5 q6 q7
    refine wp_region_P (fun w' => w'.cell? ⟨w.heap.size, 7, none⟩ = some (.slice (some ad) x.f2.length c) ∧ w'.cell? ⟨w.heap.size + 1, 7, none⟩ = some (.slice (some bd) x.f2.length d) ∧ w'.cell? (ad.add (i * 8)) = some (.int .u8 y.f0) ∧ w'.cell? ⟨(ad.add (i * 8)).block, (ad.add (i * 8)).off + 1, none⟩ = some (.int .u8 y.f1.f0) ∧ w'.cell? ⟨(ad.add (i * 8)).block, (ad.add (i * 8)).off + 2, none⟩ = some (.string y.f1.f1) ∧ w'.cell? ⟨(ad.add (i * 8)).block, (ad.add (i * 8)).off + 3, none⟩ = some (.int .i64 y.f1.f2.f0) ∧ w'.cell? ⟨(ad.add (i * 8)).block, (ad.add (i * 8)).off + 4, none⟩ = some (.int .i64 y.f1.f2.f1) ∧ w'.cell? ⟨(ad.add (i * 8)).block, (ad.add (i * 8)).off + 5, none⟩ = some (.int .i64 y.f1.f2.f2) ∧ w'.cell? ⟨(ad.add (i * 8)).block, (ad.add (i * 8)).off + 6, none⟩ = some (.int .i64 y.f1.f3) ∧ w'.cell? ⟨(ad.add (i * 8)).block, (ad.add (i * 8)).off + 7, none⟩ = some (.slice A1 y.f2.length c1) ∧ w'.cell? (bd.add (i * 8)) = some (.int .u8 y.f0) ∧ w'.cell? ⟨(bd.add (i * 8)).block, (bd.add (i * 8)).off + 1, none⟩ = some (.int .u8 y.f1.f0) ∧ w'.cell? ⟨(bd.add (i * 8)).block, (bd.add (i * 8)).off + 2, none⟩ = some (.string y.f1.f1) ∧ w'.cell? ⟨(bd.add (i * 8)).block, (bd.add (i * 8)).off + 3, none⟩ = some (.int .i64 y.f1.f2.f0) ∧ w'.cell? ⟨(bd.add (i * 8)).block, (bd.add (i * 8)).off + 4, none⟩ = some (.int .i64 y.f1.f2.f1) ∧ w'.cell? ⟨(bd.add (i * 8)).block, (bd.add (i * 8)).off + 5, none⟩ = some (.int .i64 y.f1.f2.f2) ∧ w'.cell? ⟨(bd.add (i * 8)).block, (bd.add (i * 8)).off + 6, none⟩ = some (.int .i64 y.f1.f3) ∧ w'.cell? ⟨(bd.add (i * 8)).block, (bd.add (i * 8)).off + 7, none⟩ = some (.slice B1 y.f2.length d1)) (fun _ => true) (by kernel_rfl) ?_
    rw [HWd.out]
    refine anyP_take (i := 0) (oi := ⟨some 35, .fieldAddr 32 (.tmp 2) 2, 0, "ref.go:155", #[], none⟩) (v := ?_) rfl (by kernel_rfl) (fun _ _ _ h => h) (Or.inl ⟨by rfl, ?_⟩) HS.out ?_
    rotate_left
    ·intro x h; go_simp; try (with_reducible rfl)
    try simp only [Act.put,sA,List.set]
    refine anyP_take (i := 1) (oi := ⟨some 36, .load 30 (.tmp 35), 30, "ref.go:155", #[⟨0, .data⟩], none⟩) (v := ?_) rfl (by kernel_rfl) (fun _ _ _ h => h) (Or.inl ⟨by rfl, ?_⟩) HS.out ?_
    rotate_left
    ·intro x h; go_simp; try (with_reducible rfl)
    try simp only [Act.put,sA,List.set]
    refine anyP_take (i := 2) (oi := ⟨some 37, .move (.tmp 5), 3, "ref.go:155", #[], none⟩) (v := ?_) rfl (by kernel_rfl) (fun _ _ _ h => h) (Or.inl ⟨by rfl, ?_⟩) HS.out ?_
    rotate_left
    ·intro x h; go_simp; try (with_reducible rfl)
    try simp only [Act.put,sA,List.set]
    refine anyP_take (i := 3) (oi := ⟨some 38, .indexAddr 30 (.tmp 36) (.tmp 37), 0, "ref.go:155", #[⟨1, .data⟩, ⟨2, .data⟩], none⟩) (v := ?_) rfl (by kernel_rfl) (fun _ _ _ h => h) (Or.inl ⟨by rfl, ?_⟩) HS.out ?_
    rotate_left
    ·intro x h; go_simp; try (with_reducible rfl)
    try simp only [Act.put,sA,List.set]
    refine anyP_take (i := 4) (oi := ⟨some 39, .load 32 (.tmp 38), 32, "ref.go:155", #[⟨3, .data⟩], none⟩) (v := ?_) rfl (by kernel_rfl) (fun _ _ _ h => h) (Or.inl ⟨by rfl, ?_⟩) HS.out ?_
    rotate_left
    ·intro x h; go_simp; try (with_reducible rfl)
    try simp only [Act.put,sA,List.set]
    refine anyP_take (i := 5) (oi := ⟨some 40, .fieldAddr 32 (.tmp 3) 2, 0, "ref.go:155", #[], none⟩) (v := ?_) rfl (by kernel_rfl) (fun _ _ _ h => h) (Or.inl ⟨by rfl, ?_⟩) HS.out ?_
    rotate_left
    ·intro x h; go_simp; try (with_reducible rfl)
    try simp only [Act.put,sA,List.set]
    refine anyP_take (i := 6) (oi := ⟨some 41, .load 30 (.tmp 40), 30, "ref.go:155", #[⟨5, .data⟩], none⟩) (v := ?_) rfl (by kernel_rfl) (fun _ _ _ h => h) (Or.inl ⟨by rfl, ?_⟩) HS.out ?_
    rotate_left
    ·intro x h; go_simp; try (with_reducible rfl)
    try simp only [Act.put,sA,List.set]
    refine anyP_take (i := 7) (oi := ⟨some 42, .move (.tmp 5), 3, "ref.go:155", #[], none⟩) (v := ?_) rfl (by kernel_rfl) (fun _ _ _ h => h) (Or.inl ⟨by rfl, ?_⟩) HS.out ?_
    rotate_left
    ·intro x h; go_simp; try (with_reducible rfl)
    try simp only [Act.put,sA,List.set]
    refine anyP_take (i := 8) (oi := ⟨some 43, .indexAddr 30 (.tmp 41) (.tmp 42), 0, "ref.go:155", #[⟨6, .data⟩, ⟨7, .data⟩], none⟩) (v := ?_) rfl (by kernel_rfl) (fun _ _ _ h => h) (Or.inl ⟨by rfl, ?_⟩) HS.out ?_
    rotate_left
    ·intro x h; go_simp; try (with_reducible rfl)
    try simp only [Act.put,sA,List.set]
    refine anyP_take (i := 9) (oi := ⟨some 44, .load 32 (.tmp 43), 32, "ref.go:155", #[⟨8, .data⟩], none⟩) (v := ?_) rfl (by kernel_rfl) (fun _ _ _ h => h) (Or.inl ⟨by rfl, ?_⟩) HS.out ?_
    rotate_left
    ·intro x h; go_simp; try (with_reducible rfl)
    try simp only [Act.put,sA,List.set]
    refine anyP_ready (rs := [10]) (by kernel_rfl) (by simp) ?_
    refine ReadyP.cons (o := ⟨some 45, .call { callee := .value (.func 8), args := #[.tmp 39, .tmp 44], argTypes := #[32, 32] }, 4, "ref.go:155", #[⟨4, .data⟩, ⟨9, .data⟩], none⟩) rfl (fun K hK => ?_) ReadyP.nil
    go_simp
    refine (HKC.out).mono ?_
    rintro e w2 ⟨rfl, hb2⟩
    refine hK.out _ _ (fun _ => HSA.out w2 hb2) ?_
    have HS2 := zh (HSA.out w2 hb2)
    have HB2 := zh (HBD.out.trans (hb2.mono HBD.out.size))
    clear hK K hb2
    try simp only [Act.put,sA,List.set]
    refine anyP_take (i := 11) (oi := ⟨some 6, .assign (.tmp 45), 4, "ref.go:155", #[⟨10, .data⟩, ⟨10, .chain⟩, ⟨0, .phase⟩, ⟨1, .phase⟩, ⟨2, .phase⟩, ⟨3, .phase⟩, ⟨4, .phase⟩, ⟨5, .phase⟩, ⟨6, .phase⟩, ⟨7, .phase⟩, ⟨8, .phase⟩, ⟨9, .phase⟩, ⟨10, .phase⟩], none⟩) (v := ?_) rfl (by kernel_rfl) (fun _ _ _ h => h) (Or.inl ⟨by rfl, ?_⟩) HS2.out ?_
    rotate_left
    ·intro x h; go_simp; try (with_reducible rfl)
    try simp only [Act.put,sA,List.set]
    refine anyP_done (by kernel_rfl) ?_ _
    try simp only [Exit.then]
    go_wp2
    go_roundw
    case rel => exact ⟨i + 1, by omega, by go_num, HB2⟩
    case measure => simp [intOf] <;> omega
   ·have dlt : decide (i < x.f2.length) = false := decide_eq_false hlt
    obtain rfl : i = x.f2.length := by omega
    go_wp2
    go_ret
    exact ⟨rfl, HB0.out.trans (HR.out.mono HB0.out.size)⟩
structure Spoilt (F : Nat → Prop) (w w' : World) : Prop where
 os : w'.os = w.os
 tape : w'.tape = w.tape
 output : w'.output = w.output
 size : w.heap.size ≤ w'.heap.size
 block : ∀ k, k < w.heap.size → ¬ F k → w'.heap[k]? = w.heap[k]?
theorem Spoilt.trans {F : Nat → Prop} {w w1 w2 : World} (h : Spoilt F w w1) (h' : Spoilt F w1 w2) : Spoilt F w w2 :=
 ⟨h'.os.trans h.os, h'.tape.trans h.tape, h'.output.trans h.output, Nat.le_trans h.size h'.size, fun k hk hn => (h'.block k (Nat.lt_of_lt_of_le hk h.size) hn).trans (h.block k hk hn)⟩
theorem Spoilt.mono {F G : Nat → Prop} {w w1 : World} (h : Spoilt F w w1) (hF : ∀ k, F k → G k) : Spoilt G w w1 := ⟨h.os, h.tape, h.output, h.size, fun k hk hn => h.block k hk (fun hf => hn (hF k hf))⟩
theorem Spoilt.of_below {F : Nat → Prop} {w w1 : World} (h : Below w.heap.size w w1) : Spoilt F w w1 := ⟨h.os, h.tape, h.output, h.size, fun k hk _ => h.block k hk⟩
theorem Spoilt.of_grown {F : Nat → Prop} {w w1 : World} {r : Option Nat} (h : w.grownBy w1 r) (hF : ∀ k, r = some k → F k) : Spoilt F w w1 := ⟨h.os, h.tape, h.output, h.size, fun k hk hn => h.block k hk (fun e => hn (hF k e.symm))⟩
theorem Spoilt.below {F : Nat → Prop} {w w1 : World} {B : Nat} (h : Spoilt F w w1) (hF : ∀ k, F k → B ≤ k) (hB : B ≤ w.heap.size) : Below B w w1 := ⟨h.os, h.tape, h.output, h.size, fun k hk => h.block k (by omega) (fun hf => by have := hF k hf; omega)⟩
structure SInv (w wr : World) (base : Nat) (x : Nd) (A : Option Addr) (c : Nat) (F : Nat → Prop) (i : Nat) : Prop where
 box : wr.heap[w.heap.size]? = some (.cells #[.int .u8 x.f0, .int .u8 x.f1.f0, .string x.f1.f1, .int .i64 x.f1.f2.f0, .int .i64 x.f1.f2.f1, .int .i64 x.f1.f2.f2, .int .i64 x.f1.f3, .slice A x.f2.length c] TN (0, 0))
 sp : Spoilt F w wr
 size : w.heap.size + 1 ≤ wr.heap.size
 row : ∃ cells G, wr.ownsRow base TN 8 (.slice A x.f2.length c) x.f2.length cells ∧ OwnL wr base (x.f2.drop i) (cells.drop (i * 8)) G ∧ (∀ b, (Value.slice A x.f2.length c).ownBlock = some b → F b ∧ ¬ G b) ∧ (∀ b, G b → F b)
theorem SInv.start {w w0 : World} {base : Nat} {x : Nd} {A : Option Addr} {c : Nat} {F : Nat → Prop} (h : OwnS w base (.slice A x.f2.length c) x.f2 F) (hb : Below w.heap.size w w0) (hs : w0.heap.size = w.heap.size + 1)
  (hx : w0.heap[w.heap.size]? = some (.cells #[.int .u8 x.f0, .int .u8 x.f1.f0, .string x.f1.f1, .int .i64 x.f1.f2.f0, .int .i64 x.f1.f2.f1, .int .i64 x.f1.f2.f2, .int .i64 x.f1.f3, .slice A x.f2.length c] TN (0, 0))) : SInv w w0 base x A c F 0 := by
 obtain ⟨cells, G, r2, r3, r4, r5⟩ := ownS_below h hb
 exact ⟨hx, .of_below hb, by omega, cells, G, r2, by rw [List.drop_zero, Nat.zero_mul, List.drop_zero]; exact r3, r4, r5⟩
structure SKid (wr : World) (base g i : Nat) (y : Nd) (u : Value) (rest : List Nd) (cells ks : List Value) (G1 G2 : Nat → Prop) : Prop where
 at_ : ∀ (j : Nat) (v : Value), (ndCells y.f0 y.f1 u)[j]? = some v → wr.cell? ⟨g, i * 8 + j, none⟩ = some v
 own : OwnS wr base u y.f2 G1
 rest : OwnL wr base rest ks G2
 apart : ∀ b, G1 b → ¬ G2 b
theorem SInv.kid {w wr : World} {base : Nat} {x y : Nd} {A : Option Addr} {c i : Nat} {F : Nat → Prop} (h : SInv w wr base x A c F i) (hi : i < x.f2.length) (hy : x.f2[i]? = some y) :
  ∃ g u cells ks G1 G2, A = some ⟨g, 0, none⟩ ∧ SKid wr base g i y u (x.f2.drop (i + 1)) cells ks G1 G2 ∧ wr.ownsRow base TN 8 (.slice (some ⟨g, 0, none⟩) x.f2.length c) x.f2.length cells ∧ cells.drop ((i + 1) * 8) = ks ∧ F g ∧ ¬ G1 g ∧ ¬ G2 g ∧ (∀ b, G1 b → F b) ∧ (∀ b, G2 b → F b) := by
 obtain ⟨cells, G, r2, r3, r4, r5⟩ := h.row
 obtain ⟨hlt, he⟩ := List.getElem?_eq_some_iff.1 hy
 rw [List.drop_eq_getElem_cons hlt, he, OwnL] at r3
 obtain ⟨cy, ks, G1, G2, e1, o1, o2, s1, s2, ap⟩ := r3
 have h8 := own_len o1
 rw [own_iff] at o1
 obtain ⟨u, rfl, o1⟩ := o1
 have r2' := r2
 rcases r2.2 with ⟨_, hn⟩ | ⟨g, cap, cur, he2, _⟩
 ·omega
 ·injection he2 with he2 _ hc
  subst he2
  refine ⟨g, u, cells, ks, G1, G2, rfl, ⟨fun j v hj => ?_, o1, o2, ap⟩, r2', ?_, (r4 g rfl).1, fun hg => (r4 g rfl).2 (s1 g hg), fun hg => (r4 g rfl).2 (s2 g hg), fun b hb => r5 b (s1 b hb), fun b hb => r5 b (s2 b hb)⟩
  ·refine (row_at r2' (i * 8 + j) v ?_).1
   rw [← List.getElem?_drop, e1, List.getElem?_append_left (by rw [h8]; exact (List.getElem?_eq_some_iff.1 hj).1)]
   exact hj
  ·rw [show (i + 1) * 8 = i * 8 + 8 by omega, ← List.drop_drop, e1, ← h8, List.drop_left]
theorem SInv.next {w wr w2 : World} {base : Nat} {x y : Nd} {g c i : Nat} {F G1 G2 : Nat → Prop} {u : Value} {cells ks seg : List Value} (h : SInv w wr base x (some ⟨g, 0, none⟩) c F i) (hi : i < x.f2.length)
  (hk : SKid wr base g i y u (x.f2.drop (i + 1)) cells ks G1 G2) (hrow : wr.ownsRow base TN 8 (.slice (some ⟨g, 0, none⟩) x.f2.length c) x.f2.length cells) (hks : cells.drop ((i + 1) * 8) = ks) (hFg : F g) (h1g : ¬ G1 g) (h2g : ¬ G2 g) (h1F : ∀ b, G1 b → F b) (h2F : ∀ b, G2 b → F b)
  (hlies : ∀ b, F b → b < w.heap.size) (hs : Spoilt (fun b => G1 b ∧ b < wr.heap.size) wr w2) (h8 : seg.length = 8) :
  w2.heap[w.heap.size]? = some (.cells #[.int .u8 x.f0, .int .u8 x.f1.f0, .string x.f1.f1, .int .i64 x.f1.f2.f0, .int .i64 x.f1.f2.f1, .int .i64 x.f1.f2.f2, .int .i64 x.f1.f3, .slice (some ⟨g, 0, none⟩) x.f2.length c] TN (0, 0)) ∧
  (∃ cur, w2.heap[g]? = some (.cells cur TN (0, 0)) ∧ i * 8 + seg.length ≤ cur.size) ∧ ∀ w3, w3 = w2.setCells g (i * 8) seg → SInv w w3 base x (some ⟨g, 0, none⟩) c F (i + 1) := by
 have hgl := hlies g hFg
 have hsz := h.size
 have hbox := (hs.block w.heap.size (by omega) (fun hg => by have := hlies _ (h1F _ hg.1); omega)).trans h.box
 have hrow2 : w2.ownsRow base TN 8 (.slice (some ⟨g, 0, none⟩) x.f2.length c) x.f2.length cells := row_move hrow (fun k hk => by
  obtain rfl : g = k := by simpa [Value.ownBlock] using hk
  exact hs.block g (by omega) (fun hg => h1g hg.1))
 have hcl : cells.length = x.f2.length * 8 := hrow.1
 obtain ⟨hset, cur, hcur, hfit⟩ := row_set hrow2 (i * 8) seg (by rw [hcl, h8]; omega)
 refine ⟨hbox, ⟨cur, hcur, hfit⟩, fun w3 hw3 => ?_⟩
 subst hw3
 have far : ∀ b, b ≠ g → (w2.setCells g (i * 8) seg).heap[b]? = w2.heap[b]? := fun b hb => setCells_far seg _ b hb
 refine ⟨(far _ (by omega)).trans hbox, ?_, ?_, _, G2, hset, ?_, fun b hb => ?_, h2F⟩
 ·have hs2 : Spoilt F w2 (w2.setCells g (i * 8) seg) := .of_grown (setCells_grown w2 g _ seg) (fun k e => by cases e; exact hFg)
  exact (h.sp.trans (hs.mono (fun b hb => h1F b hb.1))).trans hs2
 ·exact Nat.le_trans hsz (Nat.le_trans hs.size (setCells_grown w2 g _ seg).size)
 ·have e1 : (cells.take (i * 8) ++ seg ++ cells.drop (i * 8 + seg.length)).drop ((i + 1) * 8) = ks := by
   rw [← hks]
   have ht : (cells.take (i * 8) ++ seg).length = (i + 1) * 8 := by rw [List.length_append, List.length_take, h8, hcl]; omega
   rw [← ht, List.drop_left, h8, ht, show i * 8 + 8 = (i + 1) * 8 by omega]
  rw [e1]
  have hm : ∀ b, (G2 b ∧ Lies wr base b) → (w2.setCells g (i * 8) seg).heap[b]? = wr.heap[b]? := fun b hb => (far b (fun e => h2g (e ▸ hb.1))).trans (hs.block b hb.2.2.1 (fun hg => hk.apart b hg.1 hb.1))
  exact ownL_mono (ownL_move _ (ownL_bound _ hk.rest) hm) (fun _ hb => hb.1)
 ·obtain rfl : g = b := by simpa [Value.ownBlock] using hb
  exact ⟨hFg, h2g⟩
theorem own_head {w : World} {base n : Nat} {v : Value} {xs : List Value} (h : w.ownsRow base TN 8 v (n + 1) xs) : ∃ g cap, v = .slice (some ⟨g, 0, none⟩) (n + 1) cap := by
 rcases h.2 with ⟨_, hn⟩ | ⟨g, cap, cur, he, _⟩
 ·omega
 ·exact ⟨g, cap, he⟩
theorem spoilt_end {F : Nat → Prop} {w w5 : World} {g : Nat} {p : Addr} {u : Value} (h : Spoilt F w w5) (hp : p.block = g) (hg : F g ∨ w.heap.size ≤ g) : Spoilt F w (w5.setCell p u) :=
 ⟨h.os, h.tape, h.output, by rw [World.size_setCell]; exact h.size, fun k hk hn => (Below.heap_setCell w5 p u k (fun e => by
  rcases hg with hg | hg
  ·exact hn (by rw [e, hp]; exact hg)
  ·omega)).trans (h.block k hk hn)⟩
theorem spoil_any : ∀ (N : Nat) (x : Nd) (A : Option Addr) (c base : Nat) (F : Nat → Prop) (w : World), nds x ≤ N → nds x ≤ 549755813892 → base ≤ w.heap.size → OwnS w base (.slice A x.f2.length c) x.f2 F →
  Calls Tryz.prog 9 #[.agg #[.int .u8 x.f0, .int .u8 x.f1.f0, .string x.f1.f1, .int .i64 x.f1.f2.f0, .int .i64 x.f1.f2.f1, .int .i64 x.f1.f2.f2, .int .i64 x.f1.f3, .slice A x.f2.length c]] w fun e w' => e = .returned (.tuple #[]) ∧ Spoilt (fun b => F b ∧ b < w.heap.size) w w' := by
 intro N
 induction N with
 | zero => intro x A c base F w hN; have := nds_pos x; omega
 | succ N ih =>
  intro x A c base F w hN hbig hbase hO
  have hn : x.f2.length ≤ 549755813891 := by rw [nds_eq] at hbig; have := ndsL_len x.f2; omega
  have hO2 : OwnS w base (.slice A x.f2.length c) x.f2 (fun b => F b ∧ b < w.heap.size) := ownS_mono (ownS_bound hO) (fun b hb => ⟨hb.1, hb.2.2.1⟩)
  obtain ⟨F2, hF2⟩ : ∃ F2, (fun b => F b ∧ b < w.heap.size) = F2 := ⟨_, rfl⟩
  have hlies : ∀ b, F2 b → b < w.heap.size := fun b hb => by rw [← hF2] at hb; exact hb.2
  rw [hF2] at hO2
  rw [hF2]
  obtain ⟨W0, hW0, h0, hb0, hz0⟩ := nd_new (W := w) (cs := #[.int .u8 x.f0, .int .u8 x.f1.f0, .string x.f1.f1, .int .i64 x.f1.f2.f0, .int .i64 x.f1.f2.f1, .int .i64 x.f1.f2.f2, .int .i64 x.f1.f3, .slice A x.f2.length c])
  have HI0 := zh (SInv.start hO2 hb0 hz0 h0)
  have IH := zh ih
  have HNN := zh (And.intro hN hbig)
  have HW0 := zh hW0
  have HLI := zh hlies
  have HBS := zh hbase
  clear ih hO hO2 hN hbig hW0 h0 hb0 hz0 hlies hF2 hbase
  go_enter Tryz.func9, Tryz.ntmps9
  go_upto_region 1 with (fail)
  rw [HW0.out]
  clear HW0
  go_wp2
  go_loopw [2] (fun iv wr => ∃ i : Nat, i ≤ x.f2.length ∧ iv = .int .i64 i ∧ Hid (SInv w wr base x A c F2 i)) (fun iv _ => x.f2.length - (intOf iv).toNat)
  case atStart => exact ⟨0, Nat.zero_le _, rfl, HI0⟩
  case round =>
   obtain ⟨i, hi, rfl, H⟩ := hrel
   obtain ⟨q0, q1, q2, q3, q4, q5, q6, q7⟩ := nd_box H.out.box wr (Below.refl _ _)
   by_cases hlt : i < x.f2.length
   ·have dlt : decide (i < x.f2.length) = true := decide_eq_true hlt
    obtain ⟨y, hy⟩ : ∃ y, x.f2[i]? = some y := ⟨_, List.getElem?_eq_getElem hlt⟩
    obtain ⟨g, u, cells, ks, G1, G2, rfl, hk, hrow, hks, hFg, h1g, h2g, h1F, h2F⟩ := H.out.kid hlt hy
    have hko := hk.own
    obtain ⟨Au, cu, rfl⟩ := own_slice hko.choose_spec.choose_spec.1
    have hny : nds y ≤ ndsL x.f2 := ndsL_mem (List.mem_of_getElem? hy)
    have HSP := zh (IH.out y Au cu base G1 wr (by have := HNN.out.1; rw [nds_eq] at this; omega) (by have := HNN.out.2; rw [nds_eq] at this; omega) (by have := HBS.out; have := H.out.size; omega) hko)
    have c0 : wr.cell? ⟨g, i * 8, none⟩ = some (.int .u8 y.f0) := hk.at_ 0 _ rfl
    have c1 := hk.at_ 1 _ rfl
    have c2 := hk.at_ 2 _ rfl
    have c3 := hk.at_ 3 _ rfl
    have c4 := hk.at_ 4 _ rfl
    have c5 := hk.at_ 5 _ rfl
    have c6 := hk.at_ 6 _ rfl
    have c7 := hk.at_ 7 _ rfl
    have HNX := zh (fun w2 (seg : List Value) (hs : Spoilt (fun b => G1 b ∧ b < wr.heap.size) wr w2) (h8 : seg.length = 8) => H.out.next hlt hk hrow hks hFg h1g h2g h1F h2F HLI.out hs h8)
    have g1 : (0 : Int) ≤ (i : Int) := by omega
    have g2 : (i : Int) < (x.f2.length : Int) := by omega
    clear hy hk hrow hks hFg h1g h2g h1F h2F hko hny
    go_wp2_with (first
     | (go_at_call 9; refine (HSP.out).mono ?_; rintro e w2 ⟨rfl, hs2⟩; obtain ⟨hbx, ⟨cur, hcur, hfit⟩, hnx⟩ := HNX.out w2 (ndCells 77 noTk (.slice none 0 0)) hs2 rfl; have HCUR := zh hcur; have HFIT := zh hfit; have HNX2 := zh hnx; clear q0 q1 q2 q3 q4 q5 q6 q7 c0 c1 c2 c3 c4 c5 c6 c7 hs2 hcur hfit hnx; obtain ⟨q0, q1, q2, q3, q4, q5, q6, q7⟩ := nd_box hbx w2 (Below.refl _ _); clear hbx)
     | ((with_reducible refine gate_ (.store 32 (.tmp 21) (.tmp 20)) rfl ?_); refine wl_cells rfl rfl _ _ _ rfl (g := g) (off := i * 8) (.agg (ndCells 77 noTk (.slice none 0 0)).toArray) (ndCells 77 noTk (.slice none 0 0)) rfl rfl rfl infoNd8 (ndCells_one _ _ rfl) HCUR.out HFIT.out ?_; intro w3 hw3; have HI3 := zh (HNX2.out w3 hw3); clear hw3 q0 q1 q2 q3 q4 q5 q6 q7))
    go_roundw
    case rel => exact ⟨i + 1, by omega, by go_num, HI3⟩
    case measure => simp [intOf] <;> omega
   ·have dlt : decide (i < x.f2.length) = false := decide_eq_false hlt
    obtain rfl : i = x.f2.length := by omega
    obtain ⟨cells, G, r2, -, r4, -⟩ := H.out.row
    have R2 := zh r2
    have R4 := zh r4
    have HS : Hid (base ≤ wr.heap.size) := zh (by have := HBS.out; have := H.out.size; omega)
    have HF : Hid ((x.f2.length + 1) * 88 ≤ 140737488355328) := zh (by omega)
    clear r2 r4
    have g2 : (x.f2.length : Int) < (x.f2.length : Int) + 1 := by omega
    go_wp2_with (first
     | ((with_reducible refine gate_dst (N := 26) rfl ?_); refine print_append_cells (w0 := wr) base rfl (.tmp 23) (.tmp 25) 30 32 _ 8 88 rfl Tryz.underlying30 infoNd rfl (by decide) (by decide) (.slice A x.f2.length c) x.f2.length cells (ndCells 78 noTk (.slice none 0 0)) rfl rfl rfl (ndCells_one _ _ rfl) R2.out (Below.refl _ _) HS.out HF.out ?_; intro v5 w5 ho5 hb5 hg5 hat5; obtain ⟨g5, cap5, rfl⟩ := own_head ho5; have H5 := zh (And.intro hg5 hat5); obtain ⟨m0, f0⟩ := row_at ho5 (x.f2.length * 8) (.int .u8 78) (by rw [List.getElem?_append_right (by rw [R2.out.1]; exact Nat.le_refl _), R2.out.1, Nat.sub_self]; rfl); clear ho5 hb5 hg5 hat5 q0 q1 q2 q3 q4 q5 q6 q7))
    go_end0
    have hs5 := H.out.sp.trans (.of_grown H5.out.1 (fun k hk => (R4.out k hk).1))
    refine ⟨rfl, spoilt_end (g := g5) hs5 rfl ?_⟩
    rcases H5.out.2 with he | ⟨b, he, hle⟩
    ·exact .inl (R4.out g5 he.symm).1
    ·obtain rfl : g5 = b := by simpa [Value.ownBlock] using he
     exact .inr (by have := H.out.sp.size; omega)
end Go.Proofs.YtmjbpgnjgblnmaaGreat.Tr
namespace Go.Proofs.YtmjbpgnjgblnmaaGreat
open Go.RowKit Go.Proofs.YtmjbpgnjgblnmaaGreatW.PrintWords Go.Proofs.YtmjbpgnjgblnmaaGreatW.PrintLast Go.Proofs.YtmjbpgnjgblnmaaGreatW.PrintMore
theorem prog_sizeP {l : List Tk} (hl : l.length ≤ 4194304) : Tr.nds (prNd l) ≤ 274877906945 := by
 by_cases he : progE l = 0
 ·obtain ⟨X, hX, -⟩ := prog_tree l he
  have hp : prNd l = X := by
   unfold prNd
   unfold progE at he
   rw [if_pos he, Tr.bld_some hX]
  have r1 := Tr.run_nds _ _ _ hX
  have l1 := prog_evs hl he
  rw [hp]
  simp only [Tr.ndsL] at r1
  omega
 ·rw [prNd_bad he]
  simp [Tr.noNd, Tr.nds, Tr.ndsL]
theorem law_awake (n m : Nat) (A B : Option Addr) (c d : Nat) (W : World) (h : 4194304 < n ∨ 4194304 < m) :
  Calls Tryz.prog 3 #[.slice A n c, .slice B m d] W fun e w' => e = .returned (.bool true) ∧ Below W.heap.size W w' := by
 have HAW := zh (awake_any W)
 by_cases hn : 4194304 < n
 ·have d1 : decide ((4194304 : Int) < n) = true := decide_eq_true (by omega)
  have d2 : decide (4194304 < n) = true := decide_eq_true (by omega)
  go_enter Tryz.func3, Tryz.ntmps3
  go_wp2_with (go_at_call 5; (with_reducible refine cM HAW.out ?_); rintro e w2 ⟨rfl, hb2⟩; have HB2 := zh hb2; clear hb2)
  go_ret
  exact ⟨rfl, HB2.out⟩
 ·have d1 : decide ((4194304 : Int) < n) = false := decide_eq_false (by omega)
  have d2 : decide (4194304 < n) = false := decide_eq_false (by omega)
  have d3 : decide ((4194304 : Int) < m) = true := decide_eq_true (by omega)
  have d4 : decide (4194304 < m) = true := decide_eq_true (by omega)
  go_enter Tryz.func3, Tryz.ntmps3
  go_wp2_with (go_at_call 5; (with_reducible refine cM HAW.out ?_); rintro e w2 ⟨rfl, hb2⟩; have HB2 := zh hb2; clear hb2)
  go_ret
  exact ⟨rfl, HB2.out⟩
theorem law_main (l m : List Tk) (A B : Option Addr) (n c k d : Nat) (W : World) (hn : l.length = n) (hk : m.length = k) (hnb : n ≤ 4194304) (hkb : k ≤ 4194304) (hC : Kd.C kTk W A n l) (hD : Kd.C kTk W B k m) :
  Calls Tryz.prog 3 #[.slice A n c, .slice B k d] W fun e w' => e = .returned (.bool true) ∧ Below W.heap.size W w' := by
 have HAW := zh (awake_any W)
 have d1 : decide ((4194304 : Int) < n) = false := decide_eq_false (by omega)
 have d2 : decide (4194304 < n) = false := decide_eq_false (by omega)
 have d3 : decide ((4194304 : Int) < k) = false := decide_eq_false (by omega)
 have d4 : decide (4194304 < k) = false := decide_eq_false (by omega)
 obtain ⟨zs, hzs, hmk⟩ := make_toks n (by omega)
 obtain ⟨x, hx⟩ : ∃ x, prNd l = x := ⟨_, rfl⟩
 obtain ⟨ex, hex⟩ : ∃ e, progE l = e := ⟨_, rfl⟩
 obtain ⟨ix, hix⟩ : ∃ e, progA l = e := ⟨_, rfl⟩
 obtain ⟨y, hy⟩ : ∃ y, prNd m = y := ⟨_, rfl⟩
 obtain ⟨ey, hey⟩ : ∃ e, progE m = e := ⟨_, rfl⟩
 obtain ⟨iy, hiy⟩ : ∃ e, progA m = e := ⟨_, rfl⟩
 have hnx : Tr.nds x ≤ 274877906945 := by rw [← hx]; exact prog_sizeP (by omega)
 have hny : Tr.nds y ≤ 274877906945 := by rw [← hy]; exact prog_sizeP (by omega)
 have HX := zh (And.intro hx (And.intro hex hix))
 have HY := zh (And.intro hy (And.intro hey hiy))
 have HNX := zh (And.intro hnx hny)
 have HC := zh hC
 have HD := zh hD
 have HZS := zh hzs
 have HLN := zh (And.intro hn hk)
 have HNB := zh (And.intro hnb hkb)
 clear hx hex hy hey hnx hny hC hD hzs hn hk hix hiy
 go_enter Tryz.func3, Tryz.ntmps3
 go_upto_region 5 with (go_at_call 5; (with_reducible refine cM HAW.out ?_); rintro e w2 ⟨rfl, hb2⟩; have HB2 := zh hb2; clear hb2)
 obtain ⟨w3, hw3, h3, hb3, hz3⟩ : ∃ V, w2.alloc (.cells zs 28) = V ∧ V.heap[w2.heap.size]? = some (.cells zs 28 (0, 0)) ∧ Below w2.heap.size w2 V ∧ V.heap.size = w2.heap.size + 1 := ⟨_, rfl, World.alloc_heap_new _ _, (Below.refl _ w2).alloc (Nat.le_refl _) _, World.size_alloc _ _⟩
 rw [hw3]
 have HZ3 := zh h3
 have HS3 := zh hz3
 have HB23 := zh hb3
 have HB3 := zh (HB2.out.trans (hb3.mono HB2.out.size))
 clear hw3 h3 hz3 hb3 hmk
 have g1 : (n : Int) < (n : Int) + 1 := by omega
 have HC3 := zh (Kd.C_below HC.out HB3.out)
 have HFT : Hid (n * 6 ≤ zs.size) := zh (by rw [HZS.out]; omega)
 go_upto_region 8 with (first
  | ((with_reducible refine gate_dst (N := 49) rfl ?_); refine wl_copyTk rfl (.tmp 47) (.tmp 48) rfl w2.heap.size n (n + 1) c A zs l rfl rfl HZ3.out HC3.out HFT.out ?_; intro w4 h4 hu4; have H4 := zh h4; have HU4 := zh hu4; clear h4 hu4)
  | ((with_reducible refine gate_ (.store 28 (.tmp 59) (.tmp 58)) rfl ?_); refine wl_cells rfl rfl _ _ _ rfl (g := w2.heap.size) (off := n * 6) (.agg markT.toArray) markT rfl rfl rfl infoTk8 markT_one H4.out (mark_set HLN.out.1 HZS.out H4.out).1 ?_; intro w5 hw5; have H5 := zh ((mark_set HLN.out.1 HZS.out H4.out).2 w5 hw5); clear hw5))
 have hb5 : Below w2.heap.size w2 w5 := H5.out.2.below (HU4.out.below HB23.out (Nat.le_refl _)) (Nat.le_refl _)
 have hs5 : w5.heap.size = w2.heap.size + 1 := by rw [H5.out.2.size, HU4.out.size, HS3.out]
 have HG := zh H5.out.1
 have HB25 := zh hb5
 have HB5 := zh (HB2.out.trans (hb5.mono HB2.out.size))
 have HS5 := zh hs5
 have hci : Kd.C kTk w5 (some ⟨w2.heap.size, 0, none⟩) n l := by have := tk_row2 H5.out.1 (by have := HLN.out.1; omega); rwa [HLN.out.1] at this
 have HCI := zh hci
 have HBU := zh (by have h := prog_any (some ⟨w2.heap.size, 0, none⟩) (n + 1) l w5 (by rw [HLN.out.1]; exact hci) (by have := HLN.out.1; omega); rw [HLN.out.1] at h; exact h)
 clear hb5 hs5 hci HFT HC3 HZ3 HAW
 go_upto_region 9 with (go_at_call 6; refine (HBU.out).mono ?_; rintro e w6 ⟨v6, rfl, ho6, hb6⟩; rw [HX.out.1] at ho6 ⊢; rw [HX.out.2.1, HX.out.2.2]; obtain ⟨A6, c6, rfl, hc6, hk6⟩ := Tr.ownS_C ho6; have HO6 := zh ho6; have HK6 := zh (And.intro hc6 hk6); have HBB6 := zh hb6; have HB6 := zh (HB5.out.trans (hb6.mono HB5.out.size)); clear ho6 hb6 hc6 hk6)
 obtain ⟨w7, hw, hh, hb, hz⟩ := Tr.nd_new (W := w6) (cs := #[.int .u8 x.f0, .int .u8 x.f1.f0, .string x.f1.f1, .int .i64 x.f1.f2.f0, .int .i64 x.f1.f2.f1, .int .i64 x.f1.f2.f2, .int .i64 x.f1.f3, .slice A6 x.f2.length c6])
 rw [hw]
 have HH7 := zh hh
 have HBB7 := zh hb
 have HS7 := zh hz
 have HB7 := zh (HB6.out.trans (hb.mono HB6.out.size))
 clear hw hh hb hz
 have HBU2 := zh (by have h := prog_any B d m w7 (by rw [HLN.out.2]; exact Kd.C_below HD.out HB7.out) (by have := HLN.out.2; omega); rw [HLN.out.2] at h; exact h)
 go_upto_region 10 with (go_at_call 6; refine (HBU2.out).mono ?_; rintro e w8 ⟨v6, rfl, ho6, hb6⟩; rw [HY.out.1] at ho6 ⊢; rw [HY.out.2.1, HY.out.2.2]; obtain ⟨A8, c8, rfl, hc6, hk6⟩ := Tr.ownS_C ho6; have HO8 := zh ho6; have HK8 := zh (And.intro hc6 hk6); have HBB8 := zh hb6; have HB8 := zh (HB7.out.trans (hb6.mono HB7.out.size)); clear ho6 hb6 hc6 hk6)
 obtain ⟨w9, hw, hh, hb, hz⟩ := Tr.nd_new (W := w8) (cs := #[.int .u8 y.f0, .int .u8 y.f1.f0, .string y.f1.f1, .int .i64 y.f1.f2.f0, .int .i64 y.f1.f2.f1, .int .i64 y.f1.f2.f2, .int .i64 y.f1.f3, .slice A8 y.f2.length c8])
 rw [hw]
 have HH9 := zh hh
 have HBB9 := zh hb
 have HS9 := zh hz
 have HB9 := zh (HB8.out.trans (hb.mono HB8.out.size))
 clear hw hh hb hz
 have HRU := zh (by have h := ref_program A c l w9 (by rw [HLN.out.1]; exact Kd.C_below HC.out HB9.out) (by have := HLN.out.1; omega); rw [HLN.out.1] at h; exact h)
 go_upto_region 11 with (go_at_call 7; refine (HRU.out).mono ?_; rintro e w10 ⟨v6, rfl, ho6, hb6⟩; rw [HX.out.1] at ho6 ⊢; rw [HX.out.2.1, HX.out.2.2]; obtain ⟨A10, c10, rfl, hc6, hk6⟩ := Tr.ownS_C ho6; have HO10 := zh ho6; have HK10 := zh (And.intro hc6 hk6); have HBB10 := zh hb6; have HB10 := zh (HB9.out.trans (hb6.mono HB9.out.size)); clear ho6 hb6 hc6 hk6)
 obtain ⟨w11, hw, hh, hb, hz⟩ := Tr.nd_new (W := w10) (cs := #[.int .u8 x.f0, .int .u8 x.f1.f0, .string x.f1.f1, .int .i64 x.f1.f2.f0, .int .i64 x.f1.f2.f1, .int .i64 x.f1.f2.f2, .int .i64 x.f1.f3, .slice A10 x.f2.length c10])
 rw [hw]
 have HH11 := zh hh
 have HBB11 := zh hb
 have HS11 := zh hz
 have HB11 := zh (HB10.out.trans (hb.mono HB10.out.size))
 clear hw hh hb hz
 have HRU2 := zh (by have h := ref_program B d m w11 (by rw [HLN.out.2]; exact Kd.C_below HD.out HB11.out) (by have := HLN.out.2; omega); rw [HLN.out.2] at h; exact h)
 go_upto_region 12 with (go_at_call 7; refine (HRU2.out).mono ?_; rintro e w12 ⟨v6, rfl, ho6, hb6⟩; rw [HY.out.1] at ho6 ⊢; rw [HY.out.2.1, HY.out.2.2]; obtain ⟨A12, c12, rfl, hc6, hk6⟩ := Tr.ownS_C ho6; have HO12 := zh ho6; have HK12 := zh (And.intro hc6 hk6); have HBB12 := zh hb6; have HB12 := zh (HB11.out.trans (hb6.mono HB11.out.size)); clear ho6 hb6 hc6 hk6)
 obtain ⟨w13, hw, hh, hb, hz⟩ := Tr.nd_new (W := w12) (cs := #[.int .u8 y.f0, .int .u8 y.f1.f0, .string y.f1.f1, .int .i64 y.f1.f2.f0, .int .i64 y.f1.f2.f1, .int .i64 y.f1.f2.f2, .int .i64 y.f1.f3, .slice A12 y.f2.length c12])
 rw [hw]
 have HH13 := zh hh
 have HBB13 := zh hb
 have HS13 := zh hz
 have HB13 := zh (HB12.out.trans (hb.mono HB12.out.size))
 clear hw hh hb hz
 have b1213 := HBB13.out
 have b1113 := HBB12.out.trans (b1213.mono HBB12.out.size)
 have b1013 := HBB11.out.trans (b1113.mono HBB11.out.size)
 have b913 := HBB10.out.trans (b1013.mono HBB10.out.size)
 have b813 := HBB9.out.trans (b913.mono HBB9.out.size)
 have b713 := HBB8.out.trans (b813.mono HBB8.out.size)
 have b613 := HBB7.out.trans (b713.mono HBB7.out.size)
 have b513 := HBB6.out.trans (b613.mono HBB6.out.size)
 have z5 := HBB6.out.size
 have z6 := HBB8.out.size
 have z7 := HBB10.out.size
 have z8 := HBB12.out.size
 have HSZ := zh (show w2.heap.size + 1 = w5.heap.size ∧ w5.heap.size ≤ w6.heap.size ∧ w6.heap.size + 1 = w7.heap.size ∧ w7.heap.size ≤ w8.heap.size ∧ w8.heap.size + 1 = w9.heap.size ∧ w9.heap.size ≤ w10.heap.size ∧ w10.heap.size + 1 = w11.heap.size ∧ w11.heap.size ≤ w12.heap.size ∧ w12.heap.size + 1 = w13.heap.size from ⟨HS5.out.symm, z5, HS7.out.symm, z6, HS9.out.symm, z7, HS11.out.symm, z8, HS13.out.symm⟩)
 have G0 := zh ((b513.block _ (blk_lt HG.out)).trans HG.out)
 have GA := zh ((b713.block _ (blk_lt HH7.out)).trans HH7.out)
 have GB := zh ((b913.block _ (blk_lt HH9.out)).trans HH9.out)
 have GX := zh ((b1113.block _ (blk_lt HH11.out)).trans HH11.out)
 have GY := zh HH13.out
 have OA : Tr.OwnS w13 w5.heap.size (.slice A6 x.f2.length c6) x.f2 (fun b => w5.heap.size ≤ b ∧ b < w6.heap.size) := Tr.ownS_below (Tr.ownS_mono (Tr.ownS_bound HO6.out) (fun b hb => ⟨hb.2.1, hb.2.2.1⟩)) b613
 have OB : Tr.OwnS w13 w7.heap.size (.slice A8 y.f2.length c8) y.f2 (fun b => w7.heap.size ≤ b ∧ b < w8.heap.size) := Tr.ownS_below (Tr.ownS_mono (Tr.ownS_bound HO8.out) (fun b hb => ⟨hb.2.1, hb.2.2.1⟩)) b813
 have OX : Tr.OwnS w13 w9.heap.size (.slice A10 x.f2.length c10) x.f2 (fun b => w9.heap.size ≤ b ∧ b < w10.heap.size) := Tr.ownS_below (Tr.ownS_mono (Tr.ownS_bound HO10.out) (fun b hb => ⟨hb.2.1, hb.2.2.1⟩)) b1013
 have HOA := zh OA
 have HOB := zh OB
 have HOX := zh OX
 have HC12 := zh (show Kd.C Tr.kNd w13 A12 y.f2.length y.f2 from Kd.C_below HK12.out.2 b1213)
 have HW1 := zh (fun V (hV : Below w13.heap.size w13 V) => Tr.whole_any (Tr.nds x) x A6 A10 c6 c10 V (Nat.le_refl _) (by have := HNX.out.1; omega) HK6.out.1 HK10.out.1 (Kd.C_below (Kd.C_below HK6.out.2 b613) hV) (Kd.C_below (Kd.C_below HK10.out.2 b1013) hV))
 have HW2 := zh (fun V (hV : Below w13.heap.size w13 V) => Tr.whole_any (Tr.nds y) y A8 A12 c8 c12 V (Nat.le_refl _) (by have := HNX.out.2; omega) HK8.out.1 HK12.out.1 (Kd.C_below (Kd.C_below HK8.out.2 b813) hV) (Kd.C_below HC12.out hV))
 have HSP1 := zh (fun V (hV : Below w13.heap.size w13 V) => Tr.spoil_any (Tr.nds x) x A6 c6 w5.heap.size _ V (Nat.le_refl _) (by have := HNX.out.1; omega) (by have := hV.size; have := HSZ.out; omega) (Tr.ownS_below OA hV))
 have HSP2 := zh (fun V V2 (hV : Below w13.heap.size w13 V) (hs : Tr.Spoilt (fun b => (w5.heap.size ≤ b ∧ b < w6.heap.size) ∧ b < V.heap.size) V V2) => Tr.spoil_any (Tr.nds y) y A8 c8 w7.heap.size _ V2 (Nat.le_refl _) (by have := HNX.out.2; omega) (by have := hV.size; have := hs.size; have := HSZ.out; omega) (Tr.ownS_move (Tr.ownS_below OB hV) (fun b hb => hs.block b (by have := hV.size; have := HSZ.out; omega) (fun h => by have := HSZ.out; omega))))
 have hkeep : ∀ V V2 V3 : World, Below w13.heap.size w13 V → Tr.Spoilt (fun b => (w5.heap.size ≤ b ∧ b < w6.heap.size) ∧ b < V.heap.size) V V2 → Tr.Spoilt (fun b => (w7.heap.size ≤ b ∧ b < w8.heap.size) ∧ b < V2.heap.size) V2 V3 → ∀ b, b < w13.heap.size → ¬ (w5.heap.size ≤ b ∧ b < w6.heap.size) → ¬ (w7.heap.size ≤ b ∧ b < w8.heap.size) → V3.heap[b]? = w13.heap[b]? := fun V V2 V3 h1 h2 h3 b hb n1 n2 =>
  (h3.block b (by have := h1.size; have := h2.size; omega) (fun h => n2 h.1)).trans ((h2.block b (by have := h1.size; omega) (fun h => n1 h.1)).trans (h1.block b hb))
 have HKEEP := zh hkeep
 have hbel : ∀ V V2 V3 : World, Below w13.heap.size w13 V → Tr.Spoilt (fun b => (w5.heap.size ≤ b ∧ b < w6.heap.size) ∧ b < V.heap.size) V V2 → Tr.Spoilt (fun b => (w7.heap.size ≤ b ∧ b < w8.heap.size) ∧ b < V2.heap.size) V2 V3 → Below w5.heap.size w13 V3 := fun V V2 V3 h1 h2 h3 =>
  ((h1.mono (by have := HSZ.out; omega)).trans (h2.below (fun k hk => hk.1.1) (by have := h1.size; have := HSZ.out; omega))).trans (h3.below (fun k hk => by have := hk.1.1; have := HSZ.out; omega) (by have := h1.size; have := h2.size; have := HSZ.out; omega))
 have HBEL := zh hbel
 have HB513 := zh b513
 clear b1213 b1113 b1013 b913 b813 b713 b613 b513 z5 z6 z7 z8 OA OB OX hkeep hbel HBU HBU2 HRU HRU2
 obtain ⟨p0, p1, p2, p3, p4, p5, p6, p7⟩ := Tr.nd_box GA.out w13 (Below.refl _ _)
 obtain ⟨q0, q1, q2, q3, q4, q5, q6, q7⟩ := Tr.nd_box GX.out w13 (Below.refl _ _)
 go_upto_region 17 with (first
  | (go_at_call 8; (with_reducible refine (HW1.out w13 (Below.refl _ _)).mono ?_); rintro e w14 ⟨rfl, hb14⟩; have HB14 := zh hb14; clear p0 p1 p2 p3 p4 p5 p6 p7 q0 q1 q2 q3 q4 q5 q6 q7; obtain ⟨p0, p1, p2, p3, p4, p5, p6, p7⟩ := Tr.nd_box GB.out w14 hb14; obtain ⟨q0, q1, q2, q3, q4, q5, q6, q7⟩ := Tr.nd_box GY.out w14 hb14; clear hb14)
  | (go_at_call 8; (with_reducible refine (HW2.out w14 HB14.out).mono ?_); rintro e w15 ⟨rfl, hb15⟩; have hb15' := HB14.out.trans (hb15.mono HB14.out.size); have HB15 := zh hb15'; clear p0 p1 p2 p3 p4 p5 p6 p7 q0 q1 q2 q3 q4 q5 q6 q7 hb15; obtain ⟨p0, p1, p2, p3, p4, p5, p6, p7⟩ := Tr.nd_box GA.out w15 hb15'; clear hb15')
  | (go_at_call 9; (with_reducible refine (HSP1.out w15 HB15.out).mono ?_); rintro e w16 ⟨rfl, hs16⟩; have HS16 := zh hs16; clear p0 p1 p2 p3 p4 p5 p6 p7; obtain ⟨p0, p1, p2, p3, p4, p5, p6, p7⟩ := Tr.nd_box ((hs16.block w8.heap.size (by have := HB15.out.size; have := HSZ.out; omega) (fun h => by have := HSZ.out; omega)).trans ((HB15.out.block w8.heap.size (by have := HSZ.out; omega)).trans GB.out)) w16 (Below.refl _ _); clear hs16)
  | (go_at_call 9; (with_reducible refine (HSP2.out w15 w16 HB15.out HS16.out).mono ?_); rintro e w17 ⟨rfl, hs17⟩; have HS17 := zh hs17; have HB5_17 := zh (HB513.out.trans (HBEL.out w15 w16 w17 HB15.out HS16.out hs17)); have HG17 := zh ((HKEEP.out w15 w16 w17 HB15.out HS16.out hs17 w2.heap.size (by have := HSZ.out; omega) (fun h => by have := HSZ.out; omega) (fun h => by have := HSZ.out; omega)).trans G0.out); have HX17 := zh ((HKEEP.out w15 w16 w17 HB15.out HS16.out hs17 w10.heap.size (by have := HSZ.out; omega) (fun h => by have := HSZ.out; omega) (fun h => by have := HSZ.out; omega)).trans GX.out); have HOX17 := zh (Tr.ownS_move HOX.out (fun b hb => HKEEP.out w15 w16 w17 HB15.out HS16.out hs17 b (by have := HSZ.out; omega) (fun h => by have := HSZ.out; omega) (fun h => by have := HSZ.out; omega))); have hci : Kd.C kTk w17 (some ⟨w2.heap.size, 0, none⟩) n l := (by have := tk_row2 HG17.out (by have := HLN.out.1; omega); rwa [HLN.out.1] at this); have HBU3 := zh (by have h := prog_any (some ⟨w2.heap.size, 0, none⟩) (n + 1) l w17 (by rw [HLN.out.1]; exact hci) (by have := HLN.out.1; have := HNB.out; omega); rw [HLN.out.1] at h; exact h); clear p0 p1 p2 p3 p4 p5 p6 p7 hs17 hci)
  | (go_at_call 6; refine (HBU3.out).mono ?_; rintro e w18 ⟨v6, rfl, ho6, hb6⟩; rw [HX.out.1] at ho6 ⊢; rw [HX.out.2.1, HX.out.2.2]; obtain ⟨A18, c18, rfl, hc6, hk6⟩ := Tr.ownS_C ho6; have HK18 := zh (And.intro hc6 hk6); have HB1718 := zh hb6; clear ho6 hb6 hc6 hk6))
 obtain ⟨w19, hw19, hh19, hb19, hz19⟩ := Tr.nd_new (W := w18) (cs := #[.int .u8 x.f0, .int .u8 x.f1.f0, .string x.f1.f1, .int .i64 x.f1.f2.f0, .int .i64 x.f1.f2.f1, .int .i64 x.f1.f2.f2, .int .i64 x.f1.f3, .slice A18 x.f2.length c18])
 rw [hw19]
 have hb1719 := HB1718.out.trans (hb19.mono HB1718.out.size)
 have hb519 : Below w5.heap.size w5 w19 := HB5_17.out.trans (hb1719.mono HB5_17.out.size)
 have HB519 := zh hb519
 have HBC := zh hh19
 have HX19 := zh ((hb1719.block _ (blk_lt HX17.out)).trans HX17.out)
 have HG19 := zh ((hb1719.block _ (blk_lt HG17.out)).trans HG17.out)
 have hcx : Kd.C Tr.kNd w19 A10 x.f2.length x.f2 := by
  obtain ⟨A', c', he, -, hr⟩ := Tr.ownS_C HOX17.out
  injection he with e1 _ _
  subst e1
  exact Kd.C_below hr hb1719
 have HW3 := zh (Tr.whole_any (Tr.nds x) x A18 A10 c18 c10 w19 (Nat.le_refl _) (by have := HNX.out.1; omega) HK18.out.1 HK10.out.1 (Kd.C_below HK18.out.2 hb19) hcx)
 clear hw19 hh19 hb19 hz19 hb1719 hb519 hcx
 obtain ⟨p0, p1, p2, p3, p4, p5, p6, p7⟩ := Tr.nd_box HBC.out w19 (Below.refl _ _)
 obtain ⟨q0, q1, q2, q3, q4, q5, q6, q7⟩ := Tr.nd_box HX19.out w19 (Below.refl _ _)
 go_wp2_with (go_at_call 8; (with_reducible refine (HW3.out).mono ?_); rintro e w20 ⟨rfl, hb20⟩; have HB20 := zh hb20; clear p0 p1 p2 p3 p4 p5 p6 p7 q0 q1 q2 q3 q4 q5 q6 q7 hb20)
 have HG20 := zh ((HB20.out.block _ (blk_lt HG19.out)).trans HG19.out)
 have HB520 := zh (HB519.out.trans (HB20.out.mono HB519.out.size))
 have HBW := zh (HB5.out.trans (HB520.out.mono HB5.out.size))
 go_loopw [26] (fun v26 wr => ∃ i : Nat, i ≤ n ∧ v26 = .int .i64 i ∧ Hid (Below w20.heap.size w20 wr)) (fun v26 _ => n - (intOf v26).toNat)
 case atStart => exact ⟨0, Nat.zero_le _, rfl, zh (Below.refl _ _)⟩
 case round =>
  obtain ⟨i, hi, rfl, HR⟩ := hrel
  by_cases hlt : i < n
  ·have hci : Kd.C kTk wr (some ⟨w2.heap.size, 0, none⟩) l.length l := tk_row2 ((HR.out.block _ (blk_lt HG20.out)).trans HG20.out) (by have := HLN.out.1; have := HNB.out; omega)
   obtain ⟨ad1, h1, hc1⟩ := tok_cells hci i (by rw [HLN.out.1]; exact hlt)
   obtain ⟨ad, rfl, hc2⟩ := tok_cells (A := A) (w := wr) (by rw [HLN.out.1]; exact Kd.C_below HC.out (HBW.out.trans (HR.out.mono HBW.out.size))) i (by rw [HLN.out.1]; exact hlt)
   obtain ⟨t, ht⟩ : ∃ t, PSyntaxProgram.rd_T28 l i = t := ⟨_, rfl⟩
   rw [ht] at hc1 hc2
   obtain rfl := Option.some.inj h1
   have ha : (⟨w2.heap.size, 0, none⟩ : Addr).add (i * 6) = ⟨w2.heap.size, i * 6, none⟩ := by simp [Addr.add]; omega
   rw [ha] at hc1
   obtain ⟨c0, c1, c2, c3, c4, c5⟩ := hc1 wr (Below.refl _ _)
   dsimp only at c0 c1 c2 c3 c4 c5
   clear ha
   obtain ⟨e0, e1, e2, e3, e4, e5⟩ := hc2 wr (Below.refl _ _)
   obtain ⟨q1, q2, q3, q4⟩ := idx_n hlt HNB.out.1
   have HII := zh (And.intro hi hlt)
   clear ht hc1 hc2 hci h1
   go_wp2
   go_quiet (fail)
   go_wp2
   go_roundw
   case rel => exact ⟨i + 1, by have := HII.out; omega, by go_num, zh (HR.out.trans (below_drewN (Below.refl _ _) _))⟩
   case measure => have := HII.out; simp [intOf] <;> omega
  ·obtain rfl : i = n := by omega
   have q1 : ¬ ((i : Int) < (i : Int)) := by omega
   have hm : wr.cell? ⟨w2.heap.size, i * 6 + 1, none⟩ = some (.string ⟨#[109, 97, 114, 107]⟩) := by
    rw [cR _ ((HR.out.block _ (blk_lt HG20.out)).trans HG20.out)]
    have hf : (l.flatMap tkCells).length = i * 6 := by rw [flat_lenT, HLN.out.1]
    rw [List.getElem?_toArray, List.getElem?_append_right (by omega), hf, Nat.add_sub_cancel_left]
    rfl
   go_wp2
   go_ret
   exact ⟨rfl, HBW.out.trans (HR.out.mono HBW.out.size)⟩
open Go.ChangeShapes Go.Deep
section
variable {H : Type} {enc : TypeId × Value → H} {W : World} {base : Nat} {spare : Nat → Bool} {held : Bool}
theorem place_open {fuel : Nat} {cs : List Value} {x : DataW H × List MemPlace} (h : DataW.trod enc Tryz.prog W base spare held fuel 26 cs = some x) : ∃ p : PSyntaxProgram.S26, cs = [.int .i64 p.f0, .int .i64 p.f1, .int .i64 p.f2] := by
 obtain ⟨xs, n, _, _, hl, hx, hf⟩ := DataW.trod_struct Tryz.underlying26 h
 have hc : Tryz.prog.cellsOf 26 = 3 := by kernel_rfl
 have hci : Tryz.prog.cellsOf 3 = 1 := by kernel_rfl
 rw [hc] at hl
 have g0 := hf 0 ⟨"At", 3, 0, false, "", "", 0⟩ rfl
 have g1 := hf 1 ⟨"Line", 3, 1, false, "", "", 8⟩ rfl
 have g2 := hf 2 ⟨"Column", 3, 2, false, "", "", 16⟩ rfl
 match cs, hl, xs, hx with
 | [c0, c1, c2], _, [x0, x1, x2], _ =>
  dsimp only at g0 g1 g2
  rw [hci] at g0 g1 g2
  obtain ⟨z0, e0, _⟩ := DataW.trod_int Tryz.underlying3 g0
  obtain ⟨z1, e1, _⟩ := DataW.trod_int Tryz.underlying3 g1
  obtain ⟨z2, e2, _⟩ := DataW.trod_int Tryz.underlying3 g2
  simp at e0 e1 e2
  subst e0 e1 e2
  exact ⟨⟨z0, z1, z2⟩, rfl⟩
theorem tok_open {fuel : Nat} {cs : List Value} {x : DataW H × List MemPlace} (h : DataW.trod enc Tryz.prog W base spare held fuel 28 cs = some x) : ∃ t : Tk, cs = tkCells t := by
 obtain ⟨xs, n, _, _, hl, hx, hf⟩ := DataW.trod_struct Tryz.underlying28 h
 have hc : Tryz.prog.cellsOf 28 = 6 := by kernel_rfl
 have hcp : Tryz.prog.cellsOf 26 = 3 := by kernel_rfl
 have hci : Tryz.prog.cellsOf 3 = 1 := by kernel_rfl
 have hck : Tryz.prog.cellsOf 24 = 1 := by kernel_rfl
 have hcs : Tryz.prog.cellsOf 9 = 1 := by kernel_rfl
 rw [hc] at hl
 have g0 := hf 0 ⟨"Kind", 24, 0, false, "", "", 0⟩ rfl
 have g1 := hf 1 ⟨"Text", 9, 1, false, "", "", 8⟩ rfl
 have g2 := hf 2 ⟨"Place", 26, 2, false, "", "", 24⟩ rfl
 have g3 := hf 3 ⟨"Feeds", 3, 5, false, "", "", 48⟩ rfl
 match cs, hl, xs, hx with
 | [c0, c1, c2, c3, c4, c5], _, [x0, x1, x2, x3], _ =>
  dsimp only at g0 g1 g2 g3
  rw [hck] at g0
  rw [hcs] at g1
  rw [hcp] at g2
  rw [hci] at g3
  obtain ⟨z0, e0, _⟩ := DataW.trod_int Tryz.underlying24 g0
  obtain ⟨z1, e1, _⟩ := DataW.trod_string Tryz.underlying9 g1
  obtain ⟨p, e2⟩ := place_open g2
  obtain ⟨z3, e3, _⟩ := DataW.trod_int Tryz.underlying3 g3
  simp at e0 e1 e2 e3
  obtain ⟨e4, e5, e6⟩ := e2
  subst e0 e1 e3 e4 e5 e6
  exact ⟨⟨z0, z1, p, z3⟩, rfl⟩
theorem addr_add2 (a : Addr) (i j : Nat) : (a.add i).add j = a.add (i + j) := by
 unfold Addr.add
 by_cases hi : i = 0
 ·subst hi; simp
 ·by_cases hj : j = 0
  ·subst hj; simp
  ·simp [hi, hj, Nat.add_assoc]
theorem row_open {α : Type} {k : Kd α} (d0 : α) {e T : TypeId} (ht : Tryz.prog.underlying T = some (.slice e)) (hsz : Tryz.prog.cellsOf e = k.sz) {n fuel : Nat} (hn : fuel ≤ n + 1) (ih : ∀ m, m ≤ n → ∀ cs x, DataW.trod enc Tryz.prog W base spare held m e cs = some x → ∃ y : α, k.K W y cs)
  {cs : List Value} {x : DataW H × List MemPlace} (h : DataW.trod enc Tryz.prog W base spare held fuel T cs = some x) : ∃ (A : Option Addr) (l : List α) (c : Nat), cs = [.slice A l.length c] ∧ l.length ≤ c ∧ Kd.C k W A l.length l := by
 rcases DataW.trod_slice ht h with ⟨rfl, _⟩ | ⟨a, len, cap, elems, rest, m, hm, rfl, _, _, hl, hc, hlen, hel, _, _⟩
 ·exact ⟨none, [], 0, rfl, Nat.le_refl _, ⟨rfl, by simp, fun h => absurd h (by simp)⟩⟩
 ·have hy : ∀ i, ∃ y : α, i < len → ∃ c : List Value, c.length = k.sz ∧ k.K W y c ∧ ∀ j u, c[j]? = some u → W.cell? (a.add (i * k.sz + j)) = some u := by
   intro i
   by_cases hi : i < len
   ·have h1 := hel i hi
    rw [List.getElem?_eq_getElem (by omega)] at h1
    obtain ⟨cs', hcs, htr⟩ := Option.bind_eq_some_iff.1 h1
    obtain ⟨y, hy⟩ := ih m (by omega) cs' _ htr
    obtain ⟨_, hcl, hcell⟩ := World.cells?_some hcs
    refine ⟨y, fun _ => ⟨cs', by rw [hcl, hsz], hy, fun j u hu => ?_⟩⟩
    have hj : j < Tryz.prog.cellsOf e := by rw [← hcl]; exact (List.getElem?_eq_some_iff.1 hu).1
    have := hcell j hj
    rw [hu] at this
    rw [← this, hsz, addr_add2]
   ·exact ⟨d0, fun h => absurd h hi⟩
  obtain ⟨f, hf⟩ := (⟨fun i => (hy i).choose, fun i => (hy i).choose_spec⟩ : ∃ f : Nat → α, ∀ i, i < len → ∃ c : List Value, c.length = k.sz ∧ k.K W (f i) c ∧ ∀ j u, c[j]? = some u → W.cell? (a.add (i * k.sz + j)) = some u)
  refine ⟨some a, (List.range len).map f, cap, by simp, by simpa using hl, ⟨rfl, ?_, fun _ => ⟨a, rfl, fun j p hp => ?_⟩⟩⟩
  ·have : maxLen ≤ 9223372036854775807 := by decide
   simp
   omega
  ·rw [List.getElem?_map] at hp
   obtain ⟨i, hi, rfl⟩ := Option.map_eq_some_iff.1 hp
   obtain ⟨hlt, he⟩ := List.getElem?_eq_some_iff.1 hi
   rw [List.getElem_range] at he
   subst he
   exact hf j (by simpa using hlt)
theorem toks_arg {A : Option Addr} {n c : Nat} {d : DataW H} {ps : List MemPlace} (h : DataW.Trod enc Tryz.prog W base spare held 22 (.slice A n c) d ps) : ∃ l : List Tk, l.length = n ∧ n ≤ c ∧ Kd.C kTk W A n l := by
 obtain ⟨fuel, hf⟩ := h
 obtain ⟨A', l, c', e, hlc, hC⟩ := row_open (k := kTk) noTk Tryz.underlying22 (by kernel_rfl) (n := fuel) (by omega) (fun m _ cs x h => by
  obtain ⟨t, rfl⟩ := tok_open h
  exact ⟨t, PSyntaxProgram.k28_mk W t⟩) hf
 simp [Value.cells] at e
 obtain ⟨rfl, rfl, rfl⟩ := e
 exact ⟨l, rfl, hlc, hC⟩
theorem laidOut0 : laidOutB Tryz.prog = true := by kernel_rfl
end
end Go.Proofs.YtmjbpgnjgblnmaaGreat
