/- What the claim stands on: part Qd. -/
import Derived.Test.YtmjbpgnjgblnmaaGreatQc
import Derived.Laws.EntriesVeiled
set_option linter.unusedVariables false
set_option linter.unusedSimpArgs false
namespace Go.Proofs.YtmjbpgnjgblnmaaGreat
open Go.RowKit Go.Proofs.YtmjbpgnjgblnmaaGreatW.PrintWords Go.Proofs.YtmjbpgnjgblnmaaGreatW.PrintLast Go.Proofs.YtmjbpgnjgblnmaaGreatW.PrintMore
structure PushI (p gA : Nat) (w wr : World) (l s : List WT) (es : List Ev) (d : Int) (b : Bool) (wc : Int) (cl : Bool) (vt ve : Value) (k : Nat) (vt1 : Value) : Prop where
 at_ : PAt wr p (l.drop k ++ s) es d b wc cl vt1 ve
 step : PStep p vt ve w vt1 ve wr
 arg : wr.heap[gA]? = some (.cells (l.flatMap wCells).toArray 76 (0, 0))
 far : vt1.ownBlock ≠ some gA
 new : w.heap.size ≤ wr.heap.size
theorem cells_ty {a b : Array Value} {T U : TypeId} {f g : Nat × Nat} (h : some (Obj.cells a T f) = some (Obj.cells b U g)) : T = U := by
 injection h with h
 injection h
theorem flat_at : ∀ (l : List WT) (k : Nat) (x : WT) (j : Nat), l[k]? = some x → j < 3 → (l.flatMap wCells)[k * 3 + j]? = (wCells x)[j]?
 | [], k, x, j, h, _ => by cases h
 | a :: l, 0, x, j, h, hj => by
  simp only [List.getElem?_cons_zero, Option.some.injEq] at h
  subst h
  rw [List.flatMap_cons, List.getElem?_append_left (by rw [wCells_len]; omega)]
  simp
 | a :: l, k + 1, x, j, h, hj => by
  rw [List.flatMap_cons, List.getElem?_append_right (by rw [wCells_len]; omega), wCells_len, show (k + 1) * 3 + j - 3 = k * 3 + j by omega]
  exact flat_at l k x j (by simpa using h) hj
theorem push_next {p gA : Nat} {w wr Wd w1 : World} {l s : List WT} {es : List Ev} {d : Int} {b : Bool} {wc : Int} {cl : Bool} {vt ve : Value} {k g1 c1 : Nat} {vt1 : Value} {x : WT} (H : PushI p gA w wr l s es d b wc cl vt ve (k + 1) vt1) (hx : l[k]? = some x) (hWd : wr.drew = Wd) {q : Nat} (hq : (l.drop (k + 1) ++ s).length = q)
  (ho : w1.ownsRow p 76 3 (.slice (some ⟨g1, 0, none⟩) (q + 1) c1) (q + 1) ((l.drop (k + 1) ++ s).reverse.flatMap wCells ++ wCells x)) (hg : Wd.grownBy w1 vt1.ownBlock) (hat : vt1.ownBlock = some g1 ∨ Wd.heap.size < g1) :
  (∃ cur : Array Value, w1.heap[p]? = some (.cells cur 72 (0, 0)) ∧ 0 + 1 ≤ cur.size) ∧ ∀ V, V = w1.setCells p 0 [.slice (some ⟨g1, 0, none⟩) (q + 1) c1] → PushI p gA w V l s es d b wc cl vt ve k (.slice (some ⟨g1, 0, none⟩) (q + 1) c1) := by
 subst hq
 have hgr : wr.grownBy w1 vt1.ownBlock := by rw [← hWd] at hg; exact ⟨hg.os, hg.tape, hg.output, hg.size, hg.block⟩
 have hsz : Wd.heap.size = wr.heap.size := by rw [← hWd]; rfl
 have hpt : vt1.ownBlock ≠ some p := fun e => by
  obtain ⟨cs, hc⟩ := own_typed H.at_.todo p e
  rw [H.at_.box] at hc; cases hc
 have hbp : w1.heap[p]? = _ := (hgr.block p (blk_lt H.at_.box) (fun e => hpt e.symm)).trans H.at_.box
 refine ⟨⟨_, hbp, by simp⟩, ?_⟩
 rintro _ rfl
 obtain ⟨cur', k1, k2, k3⟩ := setCells_row [.slice (some ⟨g1, 0, none⟩) ((l.drop (k + 1) ++ s).length + 1) c1] 0 w1 _ hbp (by simp)
 have hfar : ∀ q, q ≠ p → (w1.setCells p 0 [.slice (some ⟨g1, 0, none⟩) ((l.drop (k + 1) ++ s).length + 1) c1]).heap[q]? = w1.heap[q]? := fun q hq => setCells_far _ 0 q hq
 have hsm := setCells_same p [.slice (some ⟨g1, 0, none⟩) ((l.drop (k + 1) ++ s).length + 1) c1] 0 w1
 have hgp : g1 ≠ p := fun e => by
  obtain ⟨cs, hc⟩ := own_typed ho g1 (by simp [Value.ownBlock])
  rw [e, hbp] at hc; cases hc
 have hgA : g1 ≠ gA := fun e => by
  rcases hat with h | h
  ·exact H.far (by rw [h, e])
  ·have := blk_lt H.arg; omega
 have hdk : l.drop k = x :: l.drop (k + 1) := by
  have hlt : k < l.length := (List.getElem?_eq_some_iff.1 hx).1
  rw [List.drop_eq_getElem_cons hlt]
  have := (List.getElem?_eq_some_iff.1 hx).2
  rw [this]
 refine ⟨⟨?_, ?_, ?_⟩, H.step.trans ⟨?_, ?_, ?_, ?_, ?_, ?_, ?_⟩, ?_, ?_, ?_⟩
 ·rw [k1]
  have : cur' = #[.slice (some ⟨g1, 0, none⟩) ((l.drop (k + 1) ++ s).length + 1) c1, ve, .int .i64 d, .bool b, .int .i64 wc, .bool cl] := by
   apply Array.toList_inj.1
   rw [k3]
   rfl
  rw [this]
 ·have h2 := own_move ho (w1 := w1.setCells p 0 [.slice (some ⟨g1, 0, none⟩) ((l.drop (k + 1) ++ s).length + 1) c1]) (fun q hq => hfar q (fun e => hgp ((show g1 = q by simpa [Value.ownBlock] using hq).trans e)))
  rw [hdk]
  simp only [List.cons_append, List.length_cons, List.reverse_cons, List.flatMap_append, List.flatMap_cons, List.flatMap_nil, List.append_nil]
  exact h2
 ·refine own_move H.at_.evs (fun q hq => ?_)
  obtain ⟨cs, hc⟩ := own_typed H.at_.evs q hq
  rw [hfar q (fun e => by rw [e, H.at_.box] at hc; cases hc)]
  refine hgr.block q (blk_lt hc) (fun e => ?_)
  obtain ⟨cs2, hc2⟩ := own_typed H.at_.todo q e.symm
  rw [hc] at hc2; cases hc2
 ·exact hsm.1.trans hgr.os
 ·exact hsm.2.1.trans hgr.tape
 ·exact hsm.2.2.1.trans hgr.output
 ·rw [hsm.2.2.2]; exact hgr.size
 ·intro q hq h0 h1 h2
  rw [hfar q h0]
  exact hgr.block q hq h1
 ·intro g hg'
  have : g1 = g := by simpa [Value.ownBlock] using hg'
  subst this
  rcases hat with h | h
  ·exact .inl h
  ·exact .inr (by omega)
 ·exact fun g h => .inl h
 ·rw [hfar gA (fun e => by have h := H.arg; rw [e, H.at_.box] at h; exact absurd (cells_ty h) (by decide))]
  exact (hgr.block gA (blk_lt H.arg) (fun e => H.far e.symm)).trans H.arg
 ·intro e
  exact hgA (by simpa [Value.ownBlock] using e)
 ·rw [hsm.2.2.2]; exact Nat.le_trans H.new hgr.size
theorem push_arg {p gA : Nat} {w wr : World} {l s : List WT} {es : List Ev} {d : Int} {b : Bool} {wc : Int} {cl : Bool} {vt ve : Value} {k : Nat} {vt1 : Value} {x : WT} {c0 c1 c2 : Value} (H : PushI p gA w wr l s es d b wc cl vt ve (k + 1) vt1) (hx : l[k]? = some x) (hc : wCells x = [c0, c1, c2]) :
  wr.cell? ⟨gA, k * 3, none⟩ = some c0 ∧ wr.cell? ⟨gA, k * 3 + 1, none⟩ = some c1 ∧ wr.cell? ⟨gA, k * 3 + 2, none⟩ = some c2 := by
 have h0 := flat_at l k x 0 hx (by decide)
 have h1 := flat_at l k x 1 hx (by decide)
 have h2 := flat_at l k x 2 hx (by decide)
 rw [hc] at h0 h1 h2
 refine ⟨?_, ?_, ?_⟩ <;> (rw [cell_of_row _ _ _ _ _ _ H.arg, List.getElem?_toArray]; assumption)
set_option maxRecDepth 100000 in
set_option maxHeartbeats 4000000 in
theorem push_any (p gA : Nat) (l s : List WT) (es : List Ev) (d : Int) (b : Bool) (wc : Int) (cl : Bool) (vt ve : Value) (w : World) (hP : PAt w p s es d b wc cl vt ve) (hA : w.heap[gA]? = some (.cells (l.flatMap wCells).toArray 76 (0, 0))) (hgA : vt.ownBlock ≠ some gA) (hl : l.length ≤ 16) (hs : s.length ≤ 1099511627776) :
  Calls Tryz.prog 24 #[.pointer (some ⟨p, 0, none⟩), .slice (some ⟨gA, 0, none⟩) l.length l.length] w fun e w' => e = .returned (.tuple #[]) ∧ ∃ vt', PAt w' p (l ++ s) es d b wc cl vt' ve ∧ PStep p vt ve w vt' ve w' := by
 have HI0 : Hid (PushI p gA w w l s es d b wc cl vt ve l.length vt) := Lib.hid ⟨by rw [List.drop_length]; exact hP, PStep.refl _ _ _ _, hA, hgA, Nat.le_refl _⟩
 have HL := Lib.hid (And.intro hl hs)
 clear hP hA hgA hs
 go_enter Tryz.func24, Tryz.ntmps24
 go_wp2
 go_loopw [4] (fun iv wr => ∃ k : Nat, k ≤ l.length ∧ iv = .int .i64 ((k : Int) - 1) ∧ Hid (∃ vt1, PushI p gA w wr l s es d b wc cl vt ve k vt1)) (fun iv _ => (intOf iv + 1).toNat)
 case atStart => exact ⟨l.length, Nat.le_refl _, by go_num, Lib.hid ⟨vt, HI0.out⟩⟩
 case round =>
  obtain ⟨k1, hk1, rfl, H⟩ := hrel
  cases k1 with
  | zero =>
   go_wp2
   go_end0
   obtain ⟨vt1, H1⟩ := H.out
   exact ⟨rfl, vt1, H1.at_, H1.step⟩
  | succ k =>
   obtain ⟨vt1, H⟩ := H.out
   obtain ⟨x, hx⟩ : ∃ x, l[k]? = some x := ⟨_, List.getElem?_eq_getElem (by omega)⟩
   have hkl : k < l.length := hk1
   rw [show ((k + 1 : Nat) : Int) - 1 = k by omega]
   have g1 : (0 : Int) ≤ k := by omega
   obtain ⟨c0, c1, c2, hxc⟩ : ∃ c0 c1 c2, wCells x = [c0, c1, c2] := by cases x <;> exact ⟨_, _, _, rfl⟩
   have HH := Lib.hid H
   have HX := Lib.hid hx
   have HC := Lib.hid hxc
   have hk16 : k < 16 := by omega
   have g2 : (k : Int) < l.length := by omega
   clear H
   go_upto_region 3 with (fail)
   obtain ⟨Wd, hWd⟩ : ∃ V, wr.drew = V := ⟨_, rfl⟩
   have hb7 : Below wr.heap.size wr Wd := by rw [← hWd]; exact (Below.refl _ wr).drew
   have hcc : wr.cell? ⟨gA, k * 3, none⟩ = some c0 ∧ wr.cell? ⟨gA, k * 3 + 1, none⟩ = some c1 ∧ wr.cell? ⟨gA, k * 3 + 2, none⟩ = some c2 := push_arg HH.out hx hxc
   have hSall : ∀ V, Below wr.heap.size wr V → V.cell? ⟨p, 0, none⟩ = some vt1 ∧ V.cell? ⟨gA, k * 3, none⟩ = some c0 ∧ V.cell? ⟨gA, k * 3 + 1, none⟩ = some c1 ∧ V.cell? ⟨gA, k * 3 + 2, none⟩ = some c2 := fun V hV => ⟨pw_cell_below hV HH.out.at_.cell.1, pw_cell_below hV hcc.1, pw_cell_below hV hcc.2.1, pw_cell_below hV hcc.2.2⟩
   have HSA := Lib.hid hSall
   have HS := Lib.hid (hSall Wd hb7)
   have HB := Lib.hid hb7
   have HWd := Lib.hid hWd
   clear hSall hb7 hWd hcc hx hxc
   refine wp_region_R (fun w' => w'.cell? ⟨p, 0, none⟩ = some vt1 ∧ w'.cell? ⟨gA, k * 3, none⟩ = some c0 ∧ w'.cell? ⟨gA, k * 3 + 1, none⟩ = some c1 ∧ w'.cell? ⟨gA, k * 3 + 2, none⟩ = some c2) (fun j => !(Nat.beq j 13)) (by kernel_rfl) ?_
   rw [HWd.out]
   refine anyR_take (i := 0) (oi := ⟨some 12, .move (.tmp 0), 39, "parse.go:71", #[], none⟩) (v := ?_) rfl (by kernel_rfl) (fun _ _ _ h => h) (Or.inl ⟨by rfl, ?_⟩) HS.out ?_
   rotate_left
   ·intro x h; (try dsimp only at h); go_simp; try (with_reducible rfl)
   try simp only [Act.put, List.setIfInBounds_toArray, List.set]
   refine anyR_take (i := 1) (oi := ⟨some 13, .move (.tmp 0), 39, "parse.go:71", #[], none⟩) (v := ?_) rfl (by kernel_rfl) (fun _ _ _ h => h) (Or.inl ⟨by rfl, ?_⟩) HS.out ?_
   rotate_left
   ·intro x h; (try dsimp only at h); go_simp; try (with_reducible rfl)
   try simp only [Act.put, List.setIfInBounds_toArray, List.set]
   refine anyR_take (i := 2) (oi := ⟨some 14, .nilCheck (.tmp 13), 0, "parse.go:71", #[⟨1, .data⟩], none⟩) (v := ?_) rfl (by kernel_rfl) (fun _ _ _ h => h) (Or.inl ⟨by rfl, ?_⟩) HS.out ?_
   rotate_left
   ·intro x h; (try dsimp only at h); go_simp; try (with_reducible rfl)
   try simp only [Act.put, List.setIfInBounds_toArray, List.set]
   refine anyR_take (i := 3) (oi := ⟨some 15, .fieldAddr 72 (.tmp 14) 0, 0, "parse.go:71", #[⟨2, .data⟩], none⟩) (v := ?_) rfl (by kernel_rfl) (fun _ _ _ h => h) (Or.inl ⟨by rfl, ?_⟩) HS.out ?_
   rotate_left
   ·intro x h; (try dsimp only at h); go_simp; try (with_reducible rfl)
   try simp only [Act.put, List.setIfInBounds_toArray, List.set]
   refine anyR_take (i := 4) (oi := ⟨some 16, .load 70 (.tmp 15), 70, "parse.go:71", #[⟨3, .data⟩], none⟩) (v := ?_) rfl (by kernel_rfl) (fun _ _ _ h => h) (Or.inl ⟨by rfl, ?_⟩) HS.out ?_
   rotate_left
   ·intro x h; (try dsimp only at h); go_simp; try (with_reducible rfl)
   try simp only [Act.put, List.setIfInBounds_toArray, List.set]
   refine anyR_take (i := 5) (oi := ⟨some 17, .move (.tmp 1), 70, "parse.go:71", #[], none⟩) (v := ?_) rfl (by kernel_rfl) (fun _ _ _ h => h) (Or.inl ⟨by rfl, ?_⟩) HS.out ?_
   rotate_left
   ·intro x h; (try dsimp only at h); go_simp; try (with_reducible rfl)
   try simp only [Act.put, List.setIfInBounds_toArray, List.set]
   refine anyR_take (i := 6) (oi := ⟨some 18, .move (.tmp 4), 3, "parse.go:71", #[], none⟩) (v := ?_) rfl (by kernel_rfl) (fun _ _ _ h => h) (Or.inl ⟨by rfl, ?_⟩) HS.out ?_
   rotate_left
   ·intro x h; (try dsimp only at h); go_simp; try (with_reducible rfl)
   try simp only [Act.put, List.setIfInBounds_toArray, List.set]
   refine anyR_take (i := 7) (oi := ⟨some 19, .indexAddr 70 (.tmp 17) (.tmp 18), 0, "parse.go:71", #[⟨5, .data⟩, ⟨6, .data⟩], none⟩) (v := ?_) rfl (by kernel_rfl) (fun _ _ _ h => h) (Or.inl ⟨by rfl, ?_⟩) HS.out ?_
   rotate_left
   ·intro x h; (try dsimp only at h); go_simp; try (with_reducible rfl)
   try simp only [Act.put, List.setIfInBounds_toArray, List.set]
   refine anyR_take (i := 8) (oi := ⟨some 20, .load 76 (.tmp 19), 76, "parse.go:71", #[⟨7, .data⟩], none⟩) (v := ?_) rfl (by kernel_rfl) (fun _ _ _ h => h) (Or.inl ⟨by rfl, ?_⟩) HS.out ?_
   rotate_left
   ·intro x h; (try dsimp only at h); go_simp; try (with_reducible rfl)
   try simp only [Act.put, List.setIfInBounds_toArray, List.set]
   refine anyR_ready (rs := [9]) (by kernel_rfl) (by simp) ?_
   refine ReadyR.cons (o := ⟨some 21, .buildSlice 70 1 #[(0, .tmp 20)], 70, "parse.go:71", #[⟨8, .data⟩], none⟩) rfl (fun K hK => ?_) ReadyR.nil
   go_simp
   refine hK.out _ _ (fun _ => HSA.out _ (HB.out.alloc HB.out.size _)) ?_
   have HS9 := Lib.hid (HSA.out _ (HB.out.alloc HB.out.size (.cells #[c0, c1, c2] 76)))
   clear hK K
   try simp only [Act.put, List.setIfInBounds_toArray, List.set]
   refine anyR_ready (rs := [10]) (by kernel_rfl) (by simp) ?_
   refine ReadyR.cons (o := ⟨some 22, .call { callee := .builtin .append, args := #[.tmp 16, .tmp 21], argTypes := #[70, 70] }, 70, "parse.go:71", #[⟨4, .data⟩, ⟨9, .data⟩], none⟩) rfl (fun K hK => ?_) ReadyR.nil
   obtain ⟨q0, hq0⟩ : ∃ q0, (l.drop (k + 1) ++ s).length = q0 := ⟨_, rfl⟩
   refine step_want (W := Wd) rfl (.tmp 16) (.tmp 21) rfl p (u := vt1) (q := q0) (kc := (l.drop (k + 1) ++ s).reverse.flatMap wCells) (cs := [c0, c1, c2]) rfl rfl (hq0 ▸ own_move HH.out.at_.todo (fun q _ => by rw [← HWd.out]; rfl)) rfl (fun v hv => wCells_one x v (by rw [HC.out]; exact hv)) (by have := blk_lt HH.out.at_.box; have := HB.out.size; omega) (by have := HL.out; rw [List.length_append, List.length_drop] at hq0; omega) ?_
   intro G1 C1 w1 ho hg hat
   have hpt : vt1.ownBlock ≠ some p := fun e => by
    obtain ⟨cs, hc⟩ := own_typed HH.out.at_.todo p e
    rw [HH.out.at_.box] at hc; cases hc
   have hbW : ∀ q, q < wr.heap.size → some q ≠ vt1.ownBlock → w1.heap[q]? = Wd.heap[q]? := fun q hq hne => hg.block q (Nat.lt_of_lt_of_le hq HB.out.size) hne
   have hS1 : w1.cell? ⟨p, 0, none⟩ = some vt1 ∧ w1.cell? ⟨gA, k * 3, none⟩ = some c0 ∧ w1.cell? ⟨gA, k * 3 + 1, none⟩ = some c1 ∧ w1.cell? ⟨gA, k * 3 + 2, none⟩ = some c2 := ⟨(World.cell?_of_block (hbW p (blk_lt HH.out.at_.box) (fun e => hpt e.symm))).trans HS.out.1, (World.cell?_of_block (hbW gA (blk_lt HH.out.arg) (fun e => HH.out.far e.symm))).trans HS.out.2.1, (World.cell?_of_block (hbW gA (blk_lt HH.out.arg) (fun e => HH.out.far e.symm))).trans HS.out.2.2.1, (World.cell?_of_block (hbW gA (blk_lt HH.out.arg) (fun e => HH.out.far e.symm))).trans HS.out.2.2.2⟩
   obtain ⟨⟨cur, hcur, hfit⟩, hnx⟩ := push_next HH.out HX.out HWd.out hq0 (by rw [HC.out]; exact ho) hg hat
   have HS1 := Lib.hid hS1
   have HCU := Lib.hid (And.intro hcur hfit)
   have HNX := Lib.hid hnx
   refine hK.out _ _ (fun _ => hS1) ?_
   clear hq0 hK K ho hg hat hpt hbW hS1 hcur hfit hnx HS HS9
   try simp only [Act.put, List.setIfInBounds_toArray, List.set]
   refine anyR_ready (rs := [11]) (by kernel_rfl) (by simp) ?_
   refine ReadyR.cons (o := ⟨some 23, .nilCheck (.tmp 12), 0, "parse.go:71", #[⟨0, .data⟩, ⟨0, .phase⟩, ⟨1, .phase⟩, ⟨2, .phase⟩, ⟨3, .phase⟩, ⟨4, .phase⟩, ⟨5, .phase⟩, ⟨6, .phase⟩, ⟨7, .phase⟩, ⟨8, .phase⟩, ⟨9, .phase⟩, ⟨10, .phase⟩], none⟩) rfl (fun K hK => ?_) ReadyR.nil
   go_simp
   refine hK.out _ _ (fun _ => HS1.out) ?_
   clear hK K
   try simp only [Act.put, List.setIfInBounds_toArray, List.set]
   refine anyR_ready (rs := [12]) (by kernel_rfl) (by simp) ?_
   refine ReadyR.cons (o := ⟨some 24, .fieldAddr 72 (.tmp 23) 0, 0, "parse.go:71", #[⟨11, .data⟩, ⟨0, .phase⟩, ⟨1, .phase⟩, ⟨2, .phase⟩, ⟨3, .phase⟩, ⟨4, .phase⟩, ⟨5, .phase⟩, ⟨6, .phase⟩, ⟨7, .phase⟩, ⟨8, .phase⟩, ⟨9, .phase⟩, ⟨10, .phase⟩], none⟩) rfl (fun K hK => ?_) ReadyR.nil
   go_simp
   refine hK.out _ _ (fun _ => HS1.out) ?_
   clear hK K
   try simp only [Act.put, List.setIfInBounds_toArray, List.set]
   refine anyR_ready (rs := [13]) (by kernel_rfl) (by simp) ?_
   refine ReadyR.cons (o := ⟨none, .store 70 (.tmp 24) (.tmp 22), 0, "parse.go:71", #[⟨12, .data⟩, ⟨10, .data⟩, ⟨10, .chain⟩, ⟨0, .phase⟩, ⟨1, .phase⟩, ⟨2, .phase⟩, ⟨3, .phase⟩, ⟨4, .phase⟩, ⟨5, .phase⟩, ⟨6, .phase⟩, ⟨7, .phase⟩, ⟨8, .phase⟩, ⟨9, .phase⟩, ⟨10, .phase⟩], none⟩) rfl (fun K hK => ?_) ReadyR.nil
   refine step_store rfl rfl 70 (.tmp 24) (.tmp 22) rfl (g := p) (off := 0) (.slice (some ⟨G1, 0, none⟩) (q0 + 1) C1) [.slice (some ⟨G1, 0, none⟩) (q0 + 1) C1] rfl rfl rfl (by kernel_rfl) (fun v hv => by rw [List.mem_singleton.1 hv]; rfl) HCU.out.1 HCU.out.2 ?_
   have HN := Lib.hid (HNX.out _ rfl)
   refine hK.out _ _ (fun h => by cases h) ?_
   clear hK K HNX HCU HS1
   generalize w1.setCells p 0 [.slice (some ⟨G1, 0, none⟩) (q0 + 1) C1] = V at HN ⊢
   try simp only [Act.put, List.setIfInBounds_toArray, List.set]
   refine anyR_done (by kernel_rfl) ?_ _
   go_wp2
   go_roundw
   case rel => exact ⟨k, by omega, by go_num, Lib.hid ⟨_, HN.out⟩⟩
   case measure => simp [intOf] <;> omega
end Go.Proofs.YtmjbpgnjgblnmaaGreat
namespace Go.Proofs.YtmjbpgnjgblnmaaGreat
open Go.RowKit Go.Proofs.YtmjbpgnjgblnmaaGreatW.PrintWords Go.Proofs.YtmjbpgnjgblnmaaGreatW.PrintLast Go.Proofs.YtmjbpgnjgblnmaaGreatW.PrintMore
theorem wl_cells {ops : Array Oper} {rest : List Oper} {o : Oper} {a : Act} {Q : Exit → Act → World → Prop} {W : World} (hgd : o.guard = none) (hd : o.dst = none) (t : TypeId) (p x : Operand) (ho : o.op = .store t p x) {g off : Nat} {e : TypeId} {cur : Array Value} (u : Value) (seg : List Value)
  (haddr : a.eval p = .pointer (some ⟨g, off, none⟩)) (hx : a.eval x = u) (hu : u.cells.toList = seg) (ht : (Tryz.prog.info? t).map (·.size) = some seg.length) (h1 : ∀ v ∈ seg, v.oneCell' = true) (hh : W.heap[g]? = some (.cells cur e (0, 0))) (hfit : off + seg.length ≤ cur.size)
  (h : ∀ w5, w5 = W.setCells g off seg → wpList Tryz.prog ops Q rest a w5) : wpList Tryz.prog ops Q (o :: rest) a W := by
 refine wpList_plain hgd fun K hK => ?_
 have hrun := run_store_run (P := Tryz.prog) t u seg hh hu ht hfit h1
 unfold Oper.wp execOp
 simp only [ho, haddr, hx, Sem.run_bind, Sem.run_pure, Result.andThen_ok, hrun]
 show K (a.put o.dst undef) _
 rw [hd]
 exact hK _ _ (h _ rfl)
theorem wl_ev {ops : Array Oper} {rest : List Oper} {o : Oper} {a : Act} {Q : Exit → Act → World → Prop} {W : World} (hgd : o.guard = none) (s x : Operand) (ho : o.op = .call { callee := .builtin .append, args := #[s, x], argTypes := #[41, 41] }) (base : Nat) {u : Value} {q : Nat} {kc cs : List Value} (hs : a.eval s = u) (hx : a.eval x = .slice (some ⟨W.heap.size, 0, none⟩) 1 1)
  (HO : W.ownsRow base 48 8 u q kc) (hcs : cs.length = 8) (h1 : ∀ v ∈ cs, v.oneCell' = true) (hbase : base ≤ W.heap.size) (hl : (q + 1) * 64 ≤ 140737488355328)
  (h : ∀ g1 c1 w1, w1.ownsRow base 48 8 (.slice (some ⟨g1, 0, none⟩) (q + 1) c1) (q + 1) (kc ++ cs) → W.grownBy w1 u.ownBlock → (u.ownBlock = some g1 ∨ W.heap.size < g1) → wpList Tryz.prog ops Q rest (a.put o.dst (.slice (some ⟨g1, 0, none⟩) (q + 1) c1)) w1) :
  wpList Tryz.prog ops Q (o :: rest) a (W.alloc (.cells cs.toArray 48)) := by
 refine wpList_plain hgd fun K hK => ?_
 obtain ⟨g1, c1, w1, hr, h1, h2, h3⟩ := run_ev base o.type HO hcs h1 hbase hl
 unfold Oper.wp execOp
 simp only [ho, resolve, invoke, builtin, Sem.run_bind, Sem.run_pure, Result.andThen_ok, List.map_toArray, List.map_cons, List.map_nil, hs, hx, hr]
 exact hK _ _ (h g1 c1 w1 h1 h2 h3)
theorem word_any (s : ByteArray) (w : World) : Calls Tryz.prog 25 #[.string s] w fun e w' => e = .returned (.agg #[.string s, .int .u8 0, .nilFunc]) ∧ Below w.heap.size w w' := by
 go_enter Tryz.func25, Tryz.ntmps25
 go_wp2
 refine ⟨rfl, .agg #[.string s, .int .u8 0, .nilFunc], ?_, rfl, ?_⟩
 ·unfold results
  rw [show Tryz.f25.results = #[.cell 2 76] from rfl]
  go_simp
  try rfl
 ·exact (Below.refl _ w).alloc (Nat.le_refl _) _
theorem end_any (k : Nat) (w : World) : Calls Tryz.prog 28 #[.int .u8 k] w fun e w' => e = .returned (.agg #[.string ⟨#[]⟩, .int .u8 k, .nilFunc]) ∧ Below w.heap.size w w' := by
 go_enter Tryz.func28, Tryz.ntmps28
 go_wp2
 refine ⟨rfl, .agg #[.string ⟨#[]⟩, .int .u8 k, .nilFunc], ?_, rfl, ?_⟩
 ·unfold results
  rw [show Tryz.f28.results = #[.cell 2 76] from rfl]
  go_simp
  try rfl
 ·exact (Below.refl _ w).alloc (Nat.le_refl _) _
theorem rule_any (n : Nat) (w : World) : Calls Tryz.prog 26 #[.func (.func n) #[] #[]] w fun e w' => e = .returned (.agg #[.string ⟨#[]⟩, .int .u8 0, .func (.func n) #[] #[]]) ∧ Below w.heap.size w w' := by
 go_enter Tryz.func26, Tryz.ntmps26
 go_wp2
 refine ⟨rfl, .agg #[.string ⟨#[]⟩, .int .u8 0, .func (.func n) #[] #[]], ?_, rfl, ?_⟩
 ·unfold results
  rw [show Tryz.f26.results = #[.cell 2 76] from rfl]
  go_simp
  try rfl
 ·exact (Below.refl _ w).alloc (Nat.le_refl _) _
theorem PAt.fresh {W : World} {p : Nat} {s : List WT} {es : List Ev} {d : Int} {b : Bool} {wc : Int} {cl : Bool} {vt ve : Value} (H : PAt W p s es d b wc cl vt ve) (o : Obj) :
  PAt (W.alloc o) p s es d b wc cl vt ve ∧ PStep p vt ve W vt ve (W.alloc o) ∧ vt.ownBlock ≠ some W.heap.size := by
 have hb : Below W.heap.size W (W.alloc o) := (Below.refl _ W).alloc (Nat.le_refl _) _
 exact ⟨H.below hb, PStep.below hb, fun e => absurd (own_lt H.todo _ e) (Nat.lt_irrefl _)⟩
theorem PStep.arg {w w' : World} {p gA : Nat} {s : List WT} {es : List Ev} {d : Int} {b : Bool} {wc : Int} {cl : Bool} {vt ve vt' ve' : Value} {A : Array Value} (h : PStep p vt ve w vt' ve' w') (H : PAt w p s es d b wc cl vt ve) (hA : w.heap[gA]? = some (.cells A 76 (0, 0))) (hgA : vt.ownBlock ≠ some gA) :
  w'.heap[gA]? = some (.cells A 76 (0, 0)) ∧ vt'.ownBlock ≠ some gA := by
 refine ⟨(h.block gA (blk_lt hA) (fun e => ?_) (fun e => hgA e.symm) (fun e => ?_)).trans hA, fun e => ?_⟩
 ·rw [e, H.box] at hA; exact absurd (cells_ty hA) (by decide)
 ·obtain ⟨cs, hc⟩ := own_typed H.evs gA e.symm
  rw [hA] at hc; exact absurd (cells_ty hc) (by decide)
 ·rcases h.ft gA e with h1 | h1
  ·exact hgA h1
  ·have := blk_lt hA; omega
theorem push_new {W : World} {p : Nat} {s : List WT} {es : List Ev} {d : Int} {b : Bool} {wc : Int} {cl : Bool} {vt ve : Value} (H : PAt W p s es d b wc cl vt ve) (l : List WT) (n : Nat) (cs : List Value) (hn : l.length = n) (hcs : l.flatMap wCells = cs) (hl : n ≤ 16) (hs : s.length ≤ 1099511627776) :
  Calls Tryz.prog 24 #[.pointer (some ⟨p, 0, none⟩), .slice (some ⟨W.heap.size, 0, none⟩) n n] (W.alloc (.cells cs.toArray 76)) fun e w' => e = .returned (.tuple #[]) ∧ ∃ vt', PAt w' p (l ++ s) es d b wc cl vt' ve ∧ PStep p vt ve W vt' ve w' := by
 subst hn; subst hcs
 obtain ⟨h1, h2, h3⟩ := H.fresh (.cells (l.flatMap wCells).toArray 76)
 refine (push_any p W.heap.size l s es d b wc cl vt ve _ h1 (World.alloc_heap_new _ _) h3 hl hs).mono ?_
 rintro e w' ⟨he, vt', h4, h5⟩
 exact ⟨he, vt', h4, h2.trans h5⟩
set_option maxRecDepth 100000 in
set_option maxHeartbeats 4000000 in
theorem close_any (p k : Nat) (s : List WT) (es : List Ev) (d : Int) (b : Bool) (wc : Int) (cl : Bool) (vt ve : Value) (w : World) (hP : PAt w p s es d b wc cl vt ve) (hes : es.length ≤ 1099511627776) (hd : -4611686018427387904 ≤ d ∧ d ≤ 4611686018427387904) :
  Calls Tryz.prog 30 #[.pointer (some ⟨p, 0, none⟩), .int .u8 k] w fun e w' => e = .returned (.tuple #[]) ∧ ∃ ve', PAt w' p s (es ++ [evOf (3, k)]) (d - 1) b wc cl vt ve' ∧ PStep p vt ve w vt ve' w' := by
 have HP := Lib.hid hP
 have HEL : Hid ((es.length + 1) * 64 ≤ 140737488355328) := Lib.hid (by omega)
 have hwr : IntKind.i64.wrap (d - 1) = d - 1 := by rw [IntKind.wrap_i64]; omega
 obtain ⟨q0, q1, q2, q3, q4, q5⟩ := hP.cell
 clear hP hes hd
 go_enter Tryz.func30, Tryz.ntmps30
 go_wp2_with (first
  | ((with_reducible refine gate_dst (N := 12) rfl ?_); refine wl_ev rfl (.tmp 8) (.tmp 11) rfl p (u := ve) (q := es.length) (kc := es.flatMap evCells) (cs := [.int .u8 3, .int .u8 k, .int .u8 0, .string ⟨#[]⟩, .int .i64 0, .int .i64 0, .int .i64 0, .int .i64 0]) rfl rfl HP.out.evs rfl (evCells_one (evOf (3, k))) (Nat.le_of_lt (blk_lt HP.out.box)) HEL.out ?_; intro G1 C1 w1 ho hg hat; obtain ⟨⟨cur, hcur, hfit⟩, hnx⟩ := ev_next (e := evOf (3, k)) HP.out ho hg hat; have HCU := Lib.hid (And.intro hcur hfit); have HNX := Lib.hid hnx; clear ho hg hat hcur hfit hnx)
  | ((with_reducible refine gate_ (.store 41 (.tmp 14) (.tmp 12)) rfl ?_); refine wl_cells rfl rfl _ _ _ rfl (g := p) (off := 1) (.slice (some ⟨G1, 0, none⟩) (es.length + 1) C1) [.slice (some ⟨G1, 0, none⟩) (es.length + 1) C1] rfl rfl rfl (by kernel_rfl) (fun v hv => by rw [List.mem_singleton.1 hv]; rfl) HCU.out.1 HCU.out.2 ?_; intro V hV; obtain ⟨hA, hS⟩ := HNX.out V hV; have HV := Lib.hid hA; have HSV := Lib.hid hS; clear q0 q1 q2 q3 q4 q5 hV HNX HCU; obtain ⟨q0, q1, q2, q3, q4, q5⟩ := hA.cell; clear hA hS)
  | ((with_reducible refine gate_ (.store 3 (.tmp 21) (.tmp 19)) rfl ?_); refine wl_cells rfl rfl _ _ _ rfl (g := p) (off := 2) (.int .i64 (d - 1)) [.int .i64 (d - 1)] rfl rfl rfl (by kernel_rfl) (fun v hv => by rw [List.mem_singleton.1 hv]; rfl) HV.out.box (by simp) ?_; intro V2 hV; obtain ⟨hA, hS⟩ := HV.out.upd 2 (.int .i64 (d - 1)) (by decide) (s' := s) (es' := es ++ [evOf (3, k)]) (d' := d - 1) (b' := b) (wr' := wc) (cl' := cl) (vt' := vt) (ve' := .slice (some ⟨G1, 0, none⟩) (es.length + 1) C1) rfl HV.out.todo HV.out.evs (fun _ h => h) (fun _ h => h); rw [← hV] at hA hS; have HV2 := Lib.hid hA; have HSV2 := Lib.hid hS; clear q0 q1 q2 q3 q4 q5 hV; obtain ⟨q0, q1, q2, q3, q4, q5⟩ := hA.cell; clear hA hS))
 go_end0
 exact ⟨rfl, _, HV2.out, HSV.out.trans HSV2.out⟩
set_option maxRecDepth 100000 in
set_option maxHeartbeats 4000000 in
theorem open_any (p k gA : Nat) (l s : List WT) (es : List Ev) (d : Int) (b : Bool) (wc : Int) (cl : Bool) (vt ve : Value) (w : World) (hP : PAt w p s es d b wc cl vt ve) (hA : w.heap[gA]? = some (.cells (l.flatMap wCells).toArray 76 (0, 0))) (hgA : vt.ownBlock ≠ some gA) (hl : l.length ≤ 16) (hs : s.length ≤ 549755813888) (hes : es.length ≤ 1099511627776) (hd : -4611686018427387904 ≤ d ∧ d ≤ 4611686018427387904) :
  Calls Tryz.prog 42 #[.pointer (some ⟨p, 0, none⟩), .int .u8 k, .slice (some ⟨gA, 0, none⟩) l.length l.length] w fun e w' => e = .returned (.bool true) ∧ ∃ vt' ve', PAt w' p (l ++ .fin k :: s) (es ++ [evOf (1, k)]) (d + 1) b wc cl vt' ve' ∧ PStep p vt ve w vt' ve' w' := by
 have HP := Lib.hid hP
 have HEL : Hid ((es.length + 1) * 64 ≤ 140737488355328) := Lib.hid (by omega)
 have HSL : Hid (s.length ≤ 549755813888 ∧ l.length ≤ 16) := Lib.hid ⟨hs, hl⟩
 have HSL2 : Hid ((WT.fin k :: s).length ≤ 1099511627776) := Lib.hid (by simp only [List.length_cons]; omega)
 have hwr : IntKind.i64.wrap (d + 1) = d + 1 := by rw [IntKind.wrap_i64]; omega
 have HA := Lib.hid hA
 have HGA := Lib.hid hgA
 obtain ⟨q0, q1, q2, q3, q4, q5⟩ := hP.cell
 clear hP hes hd hA hgA hs hl
 go_enter Tryz.func42, Tryz.ntmps42
 go_wp2_with (first
  | ((with_reducible refine gate_dst (N := 15) rfl ?_); refine wl_ev rfl (.tmp 11) (.tmp 14) rfl p (u := ve) (q := es.length) (kc := es.flatMap evCells) (cs := [.int .u8 1, .int .u8 k, .int .u8 0, .string ⟨#[]⟩, .int .i64 0, .int .i64 0, .int .i64 0, .int .i64 0]) rfl rfl HP.out.evs rfl (evCells_one (evOf (1, k))) (Nat.le_of_lt (blk_lt HP.out.box)) HEL.out ?_; intro G1 C1 w1 ho hg hat; obtain ⟨⟨cur, hcur, hfit⟩, hnx⟩ := ev_next (e := evOf (1, k)) HP.out ho hg hat; have HCU := Lib.hid (And.intro hcur hfit); have HNX := Lib.hid hnx; clear ho hg hat hcur hfit hnx)
  | ((with_reducible refine gate_ (.store 41 (.tmp 17) (.tmp 15)) rfl ?_); refine wl_cells rfl rfl _ _ _ rfl (g := p) (off := 1) (.slice (some ⟨G1, 0, none⟩) (es.length + 1) C1) [.slice (some ⟨G1, 0, none⟩) (es.length + 1) C1] rfl rfl rfl (by kernel_rfl) (fun v hv => by rw [List.mem_singleton.1 hv]; rfl) HCU.out.1 HCU.out.2 ?_; intro V hV; obtain ⟨hA, hS⟩ := HNX.out V hV; have HV := Lib.hid hA; have HSV := Lib.hid hS; clear q0 q1 q2 q3 q4 q5 hV HNX HCU; obtain ⟨q0, q1, q2, q3, q4, q5⟩ := hA.cell; clear hA hS)
  | ((with_reducible refine gate_ (.store 3 (.tmp 24) (.tmp 22)) rfl ?_); refine wl_cells rfl rfl _ _ _ rfl (g := p) (off := 2) (.int .i64 (d + 1)) [.int .i64 (d + 1)] rfl rfl rfl (by kernel_rfl) (fun v hv => by rw [List.mem_singleton.1 hv]; rfl) HV.out.box (by simp) ?_; intro V2 hV; obtain ⟨hA, hS⟩ := HV.out.upd 2 (.int .i64 (d + 1)) (by decide) (s' := s) (es' := es ++ [evOf (1, k)]) (d' := d + 1) (b' := b) (wr' := wc) (cl' := cl) (vt' := vt) (ve' := .slice (some ⟨G1, 0, none⟩) (es.length + 1) C1) rfl HV.out.todo HV.out.evs (fun _ h => h) (fun _ h => h); rw [← hV] at hA hS; have HV2 := Lib.hid hA; have HSV2 := Lib.hid hS; clear q0 q1 q2 q3 q4 q5 hV; obtain ⟨q0, q1, q2, q3, q4, q5⟩ := hA.cell; clear hA hS)
  | (go_at_call 28; refine (end_any k V2).mono ?_; rintro e W3 ⟨rfl, hb3⟩; have HB3 := Lib.hid hb3; have HP3 := Lib.hid (HV2.out.below hb3); clear hb3 q0 q1 q2 q3 q4 q5)
  | (go_at_call 24; (with_reducible refine Calls.mono (push_new HP3.out [.fin k] 1 [.string ⟨#[]⟩, .int .u8 k, .nilFunc] rfl rfl (Nat.le_of_ble_eq_true rfl) (Nat.le_trans HSL.out.1 (Nat.le_of_ble_eq_true rfl))) ?_); rintro e W5 ⟨rfl, vt5, hP5, hs5⟩; have hs5' := HSV.out.trans (HSV2.out.trans ((PStep.below HB3.out).trans hs5)); obtain ⟨hA5, hg5⟩ := hs5'.arg HP.out HA.out HGA.out; have HPU := Lib.hid (push_any p gA l (.fin k :: s) (es ++ [evOf (1, k)]) (d + 1) b wc cl vt5 _ W5 hP5 hA5 hg5 HSL.out.2 HSL2.out); have HS5 := Lib.hid hs5'; clear hP5 hs5 hs5' hA5 hg5)
  | (go_at_call 24; (with_reducible refine Calls.mono HPU.out ?_); rintro e W6 ⟨rfl, vt6, hP6, hs6⟩; have HP6 := Lib.hid hP6; have HS6 := Lib.hid (HS5.out.trans hs6); clear hP6 hs6))
 go_ret
 exact ⟨rfl, _, _, HP6.out, HS6.out⟩
end Go.Proofs.YtmjbpgnjgblnmaaGreat
namespace Go.Proofs.YtmjbpgnjgblnmaaGreat
open Go.RowKit Go.Proofs.YtmjbpgnjgblnmaaGreatW.PrintWords Go.Proofs.YtmjbpgnjgblnmaaGreatW.PrintLast Go.Proofs.YtmjbpgnjgblnmaaGreatW.PrintMore
def inL (c : ByteArray) (l : List ByteArray) : Bool := l.any (fun x => decide (x = c))
theorem inL_cons (c x : ByteArray) (l : List ByteArray) : inL c (x :: l) = (decide (x = c) || inL c l) := rfl
theorem among_l0 (c : ByteArray) (l : List ByteArray) (hl : l.length ≤ 1000) : ∀ (n i : Nat), i + n = l.length → PSyntaxEvents.parse_among.l0 (n + 1) c l l.length i = some (inL c (l.drop i)) := by
 intro n
 induction n with
 | zero =>
  intro i h
  rw [PSyntaxEvents.parse_among.l0, if_neg (by omega), List.drop_of_length_le (by omega)]
  rfl
 | succ n ih =>
  intro i h
  obtain ⟨x, hx⟩ : ∃ x, l[i]? = some x := ⟨_, List.getElem?_eq_getElem (by omega)⟩
  have hr : rdOf ByteArray.empty l i = x := by simp [rdOf, hx]
  have hd : l.drop i = x :: l.drop (i + 1) := by
   rw [List.drop_eq_getElem_cons (by omega)]
   have := (List.getElem?_eq_some_iff.1 hx).2
   rw [this]
  have hw : wrap64 ((i : Int) + 1) = ((i + 1 : Nat) : Int) := by unfold wrap64; omega
  rw [PSyntaxEvents.parse_among.l0, if_pos (by omega), if_pos (by omega), if_pos (by omega), hr, hw, ih (i + 1) (by omega), hd]
  by_cases hxc : x = c
  ·subst hxc
   rw [if_pos rfl, inL_cons]
   simp
  ·rw [if_neg (fun e => hxc (by
    have h1 : x.data = c.data := by
     have := congrArg List.toArray e
     simpa [ByteArray.toList_eq] using this
    cases x; cases c; simpa using h1))]
   rw [inL_cons]
   simp [hxc]
theorem among_f (c : ByteArray) (l : List ByteArray) (hl : l.length ≤ 1000) : PSyntaxEvents.parse_among.f (l.length + 1) c l = some (inL c l) := by
 have := among_l0 c l hl l.length 0 (by omega)
 simpa [PSyntaxEvents.parse_among.f] using this
theorem reps_str (w : World) : ∀ l : List ByteArray, Reps (Kd.string.K w) 1 l (l.map Value.string)
 | [] => Reps.none _ _
 | x :: l => by
  have := Reps.one (show Kd.string.K w x [.string x] from rfl) (reps_str w l)
  simpa using this
theorem among_new (W : World) (c : ByteArray) (l : List ByteArray) (n : Nat) (cs : List Value) (hn : l.length = n) (hcs : l.map Value.string = cs) (hl : n ≤ 16) :
  Calls Tryz.prog 58 #[.string c, .slice (some ⟨W.heap.size, 0, none⟩) n n] (W.alloc (.cells cs.toArray 9)) fun e w' => e = .returned (.bool (inL c l)) ∧ Below W.heap.size W w' := by
 subst hn; subst hcs
 have hrow : (W.alloc (.cells (l.map Value.string).toArray 9)).ownsRow 0 9 1 (.slice (some ⟨W.heap.size, 0, none⟩) l.length l.length) l.length (l.map Value.string) :=
  ⟨by simp, .inr ⟨W.heap.size, l.length, (l.map Value.string).toArray, rfl, Nat.zero_le _, World.alloc_heap_new _ _, Nat.le_refl _, by simp only [maxLen]; omega, by simp, by simp [List.take_of_length_le]⟩⟩
 obtain ⟨A, c1, hv, hr⟩ := own_reads_row (size := 1) hrow (reps_str _ l) rfl
 injection hv with h1 h2 h3
 subst h1; subst h3
 refine (PSyntaxEvents.parse_among.calls (l.length + 1) c _ _ l _ _ hr (Nat.le_refl _) (among_f c l (by omega))).mono ?_
 rintro e w' ⟨he, ⟨m, rfl⟩⟩
 exact ⟨he, pw_below_drewN ((Below.refl _ W).alloc (Nat.le_refl _) _) m⟩
theorem begins_any (W : World) (c : ByteArray) : Calls Tryz.prog 114 #[.string c] W fun e w' => e = .returned (.bool (inL c ([⟨#[64, 110, 117, 109, 98, 101, 114]⟩, ⟨#[64, 116, 101, 120, 116]⟩, ⟨#[64, 99, 104, 97, 114]⟩, ⟨#[64, 110, 97, 109, 101]⟩, ⟨#[45]⟩, ⟨#[110, 111, 116]⟩, ⟨#[40]⟩] : List ByteArray))) ∧ Below W.heap.size W w' :=
 PSyntaxEvents.parse_begins.calls 8 c _ W ((congrArg (fun o : Option Bool => o.bind fun t => some t) (among_f c [⟨#[64, 110, 117, 109, 98, 101, 114]⟩, ⟨#[64, 116, 101, 120, 116]⟩, ⟨#[64, 99, 104, 97, 114]⟩, ⟨#[64, 110, 97, 109, 101]⟩, ⟨#[45]⟩, ⟨#[110, 111, 116]⟩, ⟨#[40]⟩] (by decide))).trans rfl)
end Go.Proofs.YtmjbpgnjgblnmaaGreat
namespace Go.Proofs.YtmjbpgnjgblnmaaGreat
open Go.RowKit Go.Proofs.YtmjbpgnjgblnmaaGreatW.PrintWords Go.Proofs.YtmjbpgnjgblnmaaGreatW.PrintLast Go.Proofs.YtmjbpgnjgblnmaaGreatW.PrintMore
def RulePost (f : RId) (c : ByteArray) (p : Nat) (s : List WT) (es : List Ev) (d : Int) (b : Bool) (wc : Int) (cl : Bool) (vt ve : Value) (w : World) (e : Ending) (w' : World) : Prop :=
 match f.expand c with
 | none => e = .returned (.bool false) ∧ PAt w' p s es d b wc cl vt ve ∧ PStep p vt ve w vt ve w'
 | some l => e = .returned (.bool true) ∧ ∃ vt' ve', PAt w' p (effs ⟨s, [], d⟩ l).todo (es ++ (effs ⟨s, [], d⟩ l).evs.map evOf) (effs ⟨s, [], d⟩ l).depth b wc cl vt' ve' ∧ PStep p vt ve w vt' ve' w'
structure RBound (s : List WT) (es : List Ev) (d : Int) : Prop where
 s : s.length ≤ 274877906944
 es : es.length ≤ 549755813888
 d1 : -2305843009213693952 ≤ d
 d2 : d ≤ 2305843009213693952
def RuleAny (f : RId) : Prop := ∀ (c : ByteArray) (p : Nat) (s : List WT) (es : List Ev) (d : Int) (b : Bool) (wc : Int) (cl : Bool) (vt ve : Value) (w : World), PAt w p s es d b wc cl vt ve → RBound s es d →
 Calls Tryz.prog f.num #[.pointer (some ⟨p, 0, none⟩), .string c] w (RulePost f c p s es d b wc cl vt ve w)
theorem ne_lit {c : ByteArray} {l : List UInt8} (h : ¬ c = ⟨l.toArray⟩) : (c.toList == l) = false := by
 rw [beq_eq_false_iff_ne]
 intro e
 apply h
 have h1 : c.data = l.toArray := by
  have := congrArg List.toArray e
  simpa [ByteArray.toList_eq] using this
 cases c
 simpa using h1
theorem inL_iff (c : ByteArray) (l : List ByteArray) : inL c l = true ↔ c ∈ l := by
 unfold inL
 simp
theorem inL_no {c : ByteArray} {l : List ByteArray} (h : ¬ c ∈ l) : inL c l = false := by
 rw [Bool.eq_false_iff]
 exact fun e => h ((inL_iff c l).1 e)
theorem open_new {W : World} {p : Nat} {s : List WT} {es : List Ev} {d : Int} {b : Bool} {wc : Int} {cl : Bool} {vt ve : Value} (H : PAt W p s es d b wc cl vt ve) (k : Nat) (ki : Int) (l : List WT) (n : Nat) (cs : List Value) (hk : (k : Int) = ki) (hn : l.length = n) (hcs : l.flatMap wCells = cs) (hl : n ≤ 16) (hs : s.length ≤ 549755813888) (hes : es.length ≤ 1099511627776) (hd : -4611686018427387904 ≤ d ∧ d ≤ 4611686018427387904) :
  Calls Tryz.prog 42 #[.pointer (some ⟨p, 0, none⟩), .int .u8 ki, .slice (some ⟨W.heap.size, 0, none⟩) n n] (W.alloc (.cells cs.toArray 76)) fun e w' => e = .returned (.bool true) ∧ ∃ vt' ve', PAt w' p (l ++ .fin k :: s) (es ++ [evOf (1, k)]) (d + 1) b wc cl vt' ve' ∧ PStep p vt ve W vt' ve' w' := by
 subst hn; subst hcs; subst hk
 obtain ⟨h1, h2, h3⟩ := H.fresh (.cells (l.flatMap wCells).toArray 76)
 refine (open_any p k W.heap.size l s es d b wc cl vt ve _ h1 (World.alloc_heap_new _ _) h3 hl hs hes hd).mono ?_
 rintro e w' ⟨he, vt', ve', h4, h5⟩
 exact ⟨he, vt', ve', h4, h2.trans h5⟩
end Go.Proofs.YtmjbpgnjgblnmaaGreat
namespace Go.Proofs.YtmjbpgnjgblnmaaGreat
open Go.RowKit Go.Proofs.YtmjbpgnjgblnmaaGreatW.PrintWords Go.Proofs.YtmjbpgnjgblnmaaGreatW.PrintLast Go.Proofs.YtmjbpgnjgblnmaaGreatW.PrintMore
set_option maxRecDepth 100000 in
set_option maxHeartbeats 4000000 in
theorem rule_names : RuleAny .r_names := by
 intro c p s es d b wc cl vt ve w HP0 HB0
 have HP := Lib.hid HP0
 have HS := Lib.hid (PStep.refl p vt ve w)
 obtain ⟨hs, hes, hd1, hd2⟩ := HB0
 clear HP0
 show Calls Tryz.prog 80 _ w (RulePost .r_names c p s es d b wc cl vt ve w)
 unfold RulePost
 by_cases h1 : c = ⟨#[44]⟩
 ·subst h1
  rw [show RId.expand .r_names ⟨#[44]⟩ = some [.push [.word ⟨#[44]⟩, .word ⟨#[64, 110, 97, 109, 101]⟩, .rule .r_names]] from rfl]
  have HO0 := Lib.hid (fun (W : World) (vt1 : Value) (h : PAt W p s es d b wc cl vt1 ve) => push_new h [.word ⟨#[44]⟩, .word ⟨#[64, 110, 97, 109, 101]⟩, .rule .r_names] 3 [.string ⟨#[44]⟩, .int .u8 0, .nilFunc, .string ⟨#[64, 110, 97, 109, 101]⟩, .int .u8 0, .nilFunc, .string ⟨#[]⟩, .int .u8 0, .func (.func 80) #[] #[]] rfl rfl (by decide) (by (try simp only [List.length_append, List.length_cons, List.length_nil]); omega))
  clear hs hes hd1 hd2
  go_enter Tryz.func80, Tryz.ntmps80
  go_wp2_with (first
   | (go_at_call 25; (with_reducible refine Calls.mono (word_any _ _) ?_); rintro e w9 ⟨rfl, hb⟩; replace HP := Lib.hid (HP.out.below hb); replace HS := Lib.hid (HS.out.trans (PStep.below hb)); clear hb)
   | (go_at_call 26; (with_reducible refine Calls.mono (rule_any _ _) ?_); rintro e w9 ⟨rfl, hb⟩; replace HP := Lib.hid (HP.out.below hb); replace HS := Lib.hid (HS.out.trans (PStep.below hb)); clear hb)
   | (go_at_call 24; (with_reducible refine Calls.mono (HO0.out _ _ HP.out) ?_); rintro e w9 ⟨rfl, vt9, hP9, hs9⟩; replace HP := Lib.hid hP9; replace HS := Lib.hid (HS.out.trans hs9); clear hP9 hs9))
  go_ret
  exact ⟨rfl, _, _, by simpa [effs, Eff.act] using HP.out, HS.out⟩
 ·skip
  rw [show RId.expand .r_names c = some [] by simp only [RId.expand]; rw [if_neg h1]]
  have e0 := ne_lit h1
  clear hs hes hd1 hd2
  go_enter Tryz.func80, Tryz.ntmps80
  go_wp2_with (first
   | (go_at_call 25; (with_reducible refine Calls.mono (word_any _ _) ?_); rintro e w9 ⟨rfl, hb⟩; replace HP := Lib.hid (HP.out.below hb); replace HS := Lib.hid (HS.out.trans (PStep.below hb)); clear hb)
   | (go_at_call 26; (with_reducible refine Calls.mono (rule_any _ _) ?_); rintro e w9 ⟨rfl, hb⟩; replace HP := Lib.hid (HP.out.below hb); replace HS := Lib.hid (HS.out.trans (PStep.below hb)); clear hb))
  go_ret
  exact ⟨rfl, _, _, by simpa [effs, Eff.act] using HP.out, HS.out⟩
set_option maxRecDepth 100000 in
set_option maxHeartbeats 4000000 in
theorem rule_declarations : RuleAny .r_declarations := by
 intro c p s es d b wc cl vt ve w HP0 HB0
 have HP := Lib.hid HP0
 have HS := Lib.hid (PStep.refl p vt ve w)
 obtain ⟨hs, hes, hd1, hd2⟩ := HB0
 clear HP0
 show Calls Tryz.prog 43 _ w (RulePost .r_declarations c p s es d b wc cl vt ve w)
 unfold RulePost
 by_cases h1 : c = ⟨#[118, 97, 114]⟩ ∨ c = ⟨#[99, 111, 110, 115, 116]⟩ ∨ c = ⟨#[112, 114, 111, 99]⟩
 ·rw [show RId.expand .r_declarations c = some [.push [.rule .r_declaration, .rule .r_declarations]] by simp only [RId.expand]; rw [if_pos h1]]
  have hin : inL c [⟨#[118, 97, 114]⟩, ⟨#[99, 111, 110, 115, 116]⟩, ⟨#[112, 114, 111, 99]⟩] = true := (inL_iff _ _).2 (by simpa using h1)
  have HAM := Lib.hid (fun (W : World) => among_new W c [⟨#[118, 97, 114]⟩, ⟨#[99, 111, 110, 115, 116]⟩, ⟨#[112, 114, 111, 99]⟩] 3 [.string ⟨#[118, 97, 114]⟩, .string ⟨#[99, 111, 110, 115, 116]⟩, .string ⟨#[112, 114, 111, 99]⟩] rfl rfl (by decide))
  rw [hin] at HAM
  clear hin
  have HO0 := Lib.hid (fun (W : World) (vt1 : Value) (h : PAt W p s es d b wc cl vt1 ve) => push_new h [.rule .r_declaration, .rule .r_declarations] 2 [.string ⟨#[]⟩, .int .u8 0, .func (.func 59) #[] #[], .string ⟨#[]⟩, .int .u8 0, .func (.func 43) #[] #[]] rfl rfl (by decide) (by (try simp only [List.length_append, List.length_cons, List.length_nil]); omega))
  clear hs hes hd1 hd2
  go_enter Tryz.func43, Tryz.ntmps43
  go_wp2_with (first
   | (go_at_call 58; (with_reducible refine Calls.mono (HAM.out _) ?_); rintro e w9 ⟨rfl, hb⟩; replace HP := Lib.hid (HP.out.below hb); replace HS := Lib.hid (HS.out.trans (PStep.below hb)); clear hb)
   | (go_at_call 25; (with_reducible refine Calls.mono (word_any _ _) ?_); rintro e w9 ⟨rfl, hb⟩; replace HP := Lib.hid (HP.out.below hb); replace HS := Lib.hid (HS.out.trans (PStep.below hb)); clear hb)
   | (go_at_call 26; (with_reducible refine Calls.mono (rule_any _ _) ?_); rintro e w9 ⟨rfl, hb⟩; replace HP := Lib.hid (HP.out.below hb); replace HS := Lib.hid (HS.out.trans (PStep.below hb)); clear hb)
   | (go_at_call 24; (with_reducible refine Calls.mono (HO0.out _ _ HP.out) ?_); rintro e w9 ⟨rfl, vt9, hP9, hs9⟩; replace HP := Lib.hid hP9; replace HS := Lib.hid (HS.out.trans hs9); clear hP9 hs9))
  go_ret
  exact ⟨rfl, _, _, by simpa [effs, Eff.act] using HP.out, HS.out⟩
 ·skip
  rw [show RId.expand .r_declarations c = some [] by simp only [RId.expand]; rw [if_neg h1]]
  have hin : inL c [⟨#[118, 97, 114]⟩, ⟨#[99, 111, 110, 115, 116]⟩, ⟨#[112, 114, 111, 99]⟩] = false := inL_no (fun h => h1 (by simpa using h))
  have HAM := Lib.hid (fun (W : World) => among_new W c [⟨#[118, 97, 114]⟩, ⟨#[99, 111, 110, 115, 116]⟩, ⟨#[112, 114, 111, 99]⟩] 3 [.string ⟨#[118, 97, 114]⟩, .string ⟨#[99, 111, 110, 115, 116]⟩, .string ⟨#[112, 114, 111, 99]⟩] rfl rfl (by decide))
  rw [hin] at HAM
  clear hin
  clear hs hes hd1 hd2
  go_enter Tryz.func43, Tryz.ntmps43
  go_wp2_with (first
   | (go_at_call 58; (with_reducible refine Calls.mono (HAM.out _) ?_); rintro e w9 ⟨rfl, hb⟩; replace HP := Lib.hid (HP.out.below hb); replace HS := Lib.hid (HS.out.trans (PStep.below hb)); clear hb)
   | (go_at_call 25; (with_reducible refine Calls.mono (word_any _ _) ?_); rintro e w9 ⟨rfl, hb⟩; replace HP := Lib.hid (HP.out.below hb); replace HS := Lib.hid (HS.out.trans (PStep.below hb)); clear hb)
   | (go_at_call 26; (with_reducible refine Calls.mono (rule_any _ _) ?_); rintro e w9 ⟨rfl, hb⟩; replace HP := Lib.hid (HP.out.below hb); replace HS := Lib.hid (HS.out.trans (PStep.below hb)); clear hb))
  go_ret
  exact ⟨rfl, _, _, by simpa [effs, Eff.act] using HP.out, HS.out⟩
set_option maxRecDepth 100000 in
set_option maxHeartbeats 4000000 in
theorem rule_kind : RuleAny .r_kind := by
 intro c p s es d b wc cl vt ve w HP0 HB0
 have HP := Lib.hid HP0
 have HS := Lib.hid (PStep.refl p vt ve w)
 obtain ⟨hs, hes, hd1, hd2⟩ := HB0
 clear HP0
 show Calls Tryz.prog 81 _ w (RulePost .r_kind c p s es d b wc cl vt ve w)
 unfold RulePost
 by_cases h1 : c = ⟨#[64, 110, 97, 109, 101]⟩
 ·subst h1
  rw [show RId.expand .r_kind ⟨#[64, 110, 97, 109, 101]⟩ = some [.opn 8 [.word ⟨#[64, 110, 97, 109, 101]⟩]] from rfl]
  have HO0 := Lib.hid (fun (W : World) (vt1 : Value) (h : PAt W p s es d b wc cl vt1 ve) => open_new h 8 8 [.word ⟨#[64, 110, 97, 109, 101]⟩] 1 [.string ⟨#[64, 110, 97, 109, 101]⟩, .int .u8 0, .nilFunc] rfl rfl rfl (by decide) (by (try simp only [List.length_append, List.length_cons, List.length_nil]); omega) (by omega) (by omega))
  clear hs hes hd1 hd2
  go_enter Tryz.func81, Tryz.ntmps81
  go_wp2_with (first
   | (go_at_call 25; (with_reducible refine Calls.mono (word_any _ _) ?_); rintro e w9 ⟨rfl, hb⟩; replace HP := Lib.hid (HP.out.below hb); replace HS := Lib.hid (HS.out.trans (PStep.below hb)); clear hb)
   | (go_at_call 26; (with_reducible refine Calls.mono (rule_any _ _) ?_); rintro e w9 ⟨rfl, hb⟩; replace HP := Lib.hid (HP.out.below hb); replace HS := Lib.hid (HS.out.trans (PStep.below hb)); clear hb)
   | (go_at_call 42; (with_reducible refine Calls.mono (HO0.out _ _ HP.out) ?_); rintro e w9 ⟨rfl, vt9, ve9, hP9, hs9⟩; replace HP := Lib.hid hP9; replace HS := Lib.hid (HS.out.trans hs9); clear hP9 hs9))
  go_ret
  exact ⟨rfl, _, _, by simpa [effs, Eff.act] using HP.out, HS.out⟩
 ·skip
  by_cases h2 : c = ⟨#[97, 114, 114, 97, 121]⟩
  ·subst h2
   rw [show RId.expand .r_kind ⟨#[97, 114, 114, 97, 121]⟩ = some [.opn 9 [.word ⟨#[97, 114, 114, 97, 121]⟩, .word ⟨#[91]⟩, .rule .r_expr, .word ⟨#[46, 46]⟩, .rule .r_expr, .word ⟨#[93]⟩, .word ⟨#[111, 102]⟩, .rule .r_kind]] from rfl]
   have HO0 := Lib.hid (fun (W : World) (vt1 : Value) (h : PAt W p s es d b wc cl vt1 ve) => open_new h 9 9 [.word ⟨#[97, 114, 114, 97, 121]⟩, .word ⟨#[91]⟩, .rule .r_expr, .word ⟨#[46, 46]⟩, .rule .r_expr, .word ⟨#[93]⟩, .word ⟨#[111, 102]⟩, .rule .r_kind] 8 [.string ⟨#[97, 114, 114, 97, 121]⟩, .int .u8 0, .nilFunc, .string ⟨#[91]⟩, .int .u8 0, .nilFunc, .string ⟨#[]⟩, .int .u8 0, .func (.func 82) #[] #[], .string ⟨#[46, 46]⟩, .int .u8 0, .nilFunc, .string ⟨#[]⟩, .int .u8 0, .func (.func 82) #[] #[], .string ⟨#[93]⟩, .int .u8 0, .nilFunc, .string ⟨#[111, 102]⟩, .int .u8 0, .nilFunc, .string ⟨#[]⟩, .int .u8 0, .func (.func 81) #[] #[]] rfl rfl rfl (by decide) (by (try simp only [List.length_append, List.length_cons, List.length_nil]); omega) (by omega) (by omega))
   clear hs hes hd1 hd2
   go_enter Tryz.func81, Tryz.ntmps81
   go_wp2_with (first
    | (go_at_call 25; (with_reducible refine Calls.mono (word_any _ _) ?_); rintro e w9 ⟨rfl, hb⟩; replace HP := Lib.hid (HP.out.below hb); replace HS := Lib.hid (HS.out.trans (PStep.below hb)); clear hb)
    | (go_at_call 26; (with_reducible refine Calls.mono (rule_any _ _) ?_); rintro e w9 ⟨rfl, hb⟩; replace HP := Lib.hid (HP.out.below hb); replace HS := Lib.hid (HS.out.trans (PStep.below hb)); clear hb)
    | (go_at_call 42; (with_reducible refine Calls.mono (HO0.out _ _ HP.out) ?_); rintro e w9 ⟨rfl, vt9, ve9, hP9, hs9⟩; replace HP := Lib.hid hP9; replace HS := Lib.hid (HS.out.trans hs9); clear hP9 hs9))
   go_ret
   exact ⟨rfl, _, _, by simpa [effs, Eff.act] using HP.out, HS.out⟩
  ·skip
   by_cases h3 : c = ⟨#[114, 101, 99, 111, 114, 100]⟩
   ·subst h3
    rw [show RId.expand .r_kind ⟨#[114, 101, 99, 111, 114, 100]⟩ = some [.opn 10 [.word ⟨#[114, 101, 99, 111, 114, 100]⟩, .rule .r_member, .rule .r_members, .word ⟨#[101, 110, 100]⟩]] from rfl]
    have HO0 := Lib.hid (fun (W : World) (vt1 : Value) (h : PAt W p s es d b wc cl vt1 ve) => open_new h 10 10 [.word ⟨#[114, 101, 99, 111, 114, 100]⟩, .rule .r_member, .rule .r_members, .word ⟨#[101, 110, 100]⟩] 4 [.string ⟨#[114, 101, 99, 111, 114, 100]⟩, .int .u8 0, .nilFunc, .string ⟨#[]⟩, .int .u8 0, .func (.func 107) #[] #[], .string ⟨#[]⟩, .int .u8 0, .func (.func 108) #[] #[], .string ⟨#[101, 110, 100]⟩, .int .u8 0, .nilFunc] rfl rfl rfl (by decide) (by (try simp only [List.length_append, List.length_cons, List.length_nil]); omega) (by omega) (by omega))
    clear hs hes hd1 hd2
    go_enter Tryz.func81, Tryz.ntmps81
    go_wp2_with (first
     | (go_at_call 25; (with_reducible refine Calls.mono (word_any _ _) ?_); rintro e w9 ⟨rfl, hb⟩; replace HP := Lib.hid (HP.out.below hb); replace HS := Lib.hid (HS.out.trans (PStep.below hb)); clear hb)
     | (go_at_call 26; (with_reducible refine Calls.mono (rule_any _ _) ?_); rintro e w9 ⟨rfl, hb⟩; replace HP := Lib.hid (HP.out.below hb); replace HS := Lib.hid (HS.out.trans (PStep.below hb)); clear hb)
     | (go_at_call 42; (with_reducible refine Calls.mono (HO0.out _ _ HP.out) ?_); rintro e w9 ⟨rfl, vt9, ve9, hP9, hs9⟩; replace HP := Lib.hid hP9; replace HS := Lib.hid (HS.out.trans hs9); clear hP9 hs9))
    go_ret
    exact ⟨rfl, _, _, by simpa [effs, Eff.act] using HP.out, HS.out⟩
   ·skip
    rw [show RId.expand .r_kind c = none by simp only [RId.expand]; rw [if_neg h1]; rw [if_neg h2]; rw [if_neg h3]]
    have e0 := ne_lit h1
    have e1 := ne_lit h2
    have e2 := ne_lit h3
    clear hs hes hd1 hd2
    go_enter Tryz.func81, Tryz.ntmps81
    go_wp2_with (first
     | (go_at_call 25; (with_reducible refine Calls.mono (word_any _ _) ?_); rintro e w9 ⟨rfl, hb⟩; replace HP := Lib.hid (HP.out.below hb); replace HS := Lib.hid (HS.out.trans (PStep.below hb)); clear hb)
     | (go_at_call 26; (with_reducible refine Calls.mono (rule_any _ _) ?_); rintro e w9 ⟨rfl, hb⟩; replace HP := Lib.hid (HP.out.below hb); replace HS := Lib.hid (HS.out.trans (PStep.below hb)); clear hb))
    go_ret
    exact ⟨rfl, HP.out, HS.out⟩
end Go.Proofs.YtmjbpgnjgblnmaaGreat
namespace Go.Proofs.YtmjbpgnjgblnmaaGreat
open Go.RowKit Go.Proofs.YtmjbpgnjgblnmaaGreatW.PrintWords Go.Proofs.YtmjbpgnjgblnmaaGreatW.PrintLast Go.Proofs.YtmjbpgnjgblnmaaGreatW.PrintMore
set_option maxRecDepth 100000 in
set_option maxHeartbeats 4000000 in
theorem rule_block : RuleAny .r_block := by
 intro c p s es d b wc cl vt ve w HP0 HB0
 have HP := Lib.hid HP0
 have HS := Lib.hid (PStep.refl p vt ve w)
 obtain ⟨hs, hes, hd1, hd2⟩ := HB0
 clear HP0
 show Calls Tryz.prog 27 _ w (RulePost .r_block c p s es d b wc cl vt ve w)
 unfold RulePost
 rw [show RId.expand .r_block c = some [.opn 2 [.rule .r_declarations, .word ⟨#[98, 101, 103, 105, 110]⟩, .rule .r_body, .word ⟨#[101, 110, 100]⟩]] from rfl]
 have HO0 := Lib.hid (fun (W : World) (vt1 : Value) (h : PAt W p s es d b wc cl vt1 ve) => open_new h 2 2 [.rule .r_declarations, .word ⟨#[98, 101, 103, 105, 110]⟩, .rule .r_body, .word ⟨#[101, 110, 100]⟩] 4 [.string ⟨#[]⟩, .int .u8 0, .func (.func 43) #[] #[], .string ⟨#[98, 101, 103, 105, 110]⟩, .int .u8 0, .nilFunc, .string ⟨#[]⟩, .int .u8 0, .func (.func 44) #[] #[], .string ⟨#[101, 110, 100]⟩, .int .u8 0, .nilFunc] rfl rfl rfl (by decide) (by (try simp only [List.length_append, List.length_cons, List.length_nil]); omega) (by omega) (by omega))
 clear hs hes hd1 hd2
 go_enter Tryz.func27, Tryz.ntmps27
 go_wp2_with (first
  | (go_at_call 25; (with_reducible refine Calls.mono (word_any _ _) ?_); rintro e w9 ⟨rfl, hb⟩; replace HP := Lib.hid (HP.out.below hb); replace HS := Lib.hid (HS.out.trans (PStep.below hb)); clear hb)
  | (go_at_call 26; (with_reducible refine Calls.mono (rule_any _ _) ?_); rintro e w9 ⟨rfl, hb⟩; replace HP := Lib.hid (HP.out.below hb); replace HS := Lib.hid (HS.out.trans (PStep.below hb)); clear hb)
  | (go_at_call 42; (with_reducible refine Calls.mono (HO0.out _ _ HP.out) ?_); rintro e w9 ⟨rfl, vt9, ve9, hP9, hs9⟩; replace HP := Lib.hid hP9; replace HS := Lib.hid (HS.out.trans hs9); clear hP9 hs9))
 go_ret
 exact ⟨rfl, _, _, by simpa [effs, Eff.act] using HP.out, HS.out⟩
set_option maxRecDepth 100000 in
set_option maxHeartbeats 4000000 in
theorem rule_declaration : RuleAny .r_declaration := by
 intro c p s es d b wc cl vt ve w HP0 HB0
 have HP := Lib.hid HP0
 have HS := Lib.hid (PStep.refl p vt ve w)
 obtain ⟨hs, hes, hd1, hd2⟩ := HB0
 clear HP0
 show Calls Tryz.prog 59 _ w (RulePost .r_declaration c p s es d b wc cl vt ve w)
 unfold RulePost
 by_cases h1 : c = ⟨#[118, 97, 114]⟩
 ·subst h1
  rw [show RId.expand .r_declaration ⟨#[118, 97, 114]⟩ = some [.opn 3 [.word ⟨#[118, 97, 114]⟩, .word ⟨#[64, 110, 97, 109, 101]⟩, .rule .r_names, .word ⟨#[58]⟩, .rule .r_kind, .word ⟨#[59]⟩]] from rfl]
  have HO0 := Lib.hid (fun (W : World) (vt1 : Value) (h : PAt W p s es d b wc cl vt1 ve) => open_new h 3 3 [.word ⟨#[118, 97, 114]⟩, .word ⟨#[64, 110, 97, 109, 101]⟩, .rule .r_names, .word ⟨#[58]⟩, .rule .r_kind, .word ⟨#[59]⟩] 6 [.string ⟨#[118, 97, 114]⟩, .int .u8 0, .nilFunc, .string ⟨#[64, 110, 97, 109, 101]⟩, .int .u8 0, .nilFunc, .string ⟨#[]⟩, .int .u8 0, .func (.func 80) #[] #[], .string ⟨#[58]⟩, .int .u8 0, .nilFunc, .string ⟨#[]⟩, .int .u8 0, .func (.func 81) #[] #[], .string ⟨#[59]⟩, .int .u8 0, .nilFunc] rfl rfl rfl (by decide) (by (try simp only [List.length_append, List.length_cons, List.length_nil]); omega) (by omega) (by omega))
  clear hs hes hd1 hd2
  go_enter Tryz.func59, Tryz.ntmps59
  go_wp2_with (first
   | (go_at_call 25; (with_reducible refine Calls.mono (word_any _ _) ?_); rintro e w9 ⟨rfl, hb⟩; replace HP := Lib.hid (HP.out.below hb); replace HS := Lib.hid (HS.out.trans (PStep.below hb)); clear hb)
   | (go_at_call 26; (with_reducible refine Calls.mono (rule_any _ _) ?_); rintro e w9 ⟨rfl, hb⟩; replace HP := Lib.hid (HP.out.below hb); replace HS := Lib.hid (HS.out.trans (PStep.below hb)); clear hb)
   | (go_at_call 42; (with_reducible refine Calls.mono (HO0.out _ _ HP.out) ?_); rintro e w9 ⟨rfl, vt9, ve9, hP9, hs9⟩; replace HP := Lib.hid hP9; replace HS := Lib.hid (HS.out.trans hs9); clear hP9 hs9))
  go_ret
  exact ⟨rfl, _, _, by simpa [effs, Eff.act] using HP.out, HS.out⟩
 ·skip
  by_cases h2 : c = ⟨#[99, 111, 110, 115, 116]⟩
  ·subst h2
   rw [show RId.expand .r_declaration ⟨#[99, 111, 110, 115, 116]⟩ = some [.opn 4 [.word ⟨#[99, 111, 110, 115, 116]⟩, .word ⟨#[64, 110, 97, 109, 101]⟩, .word ⟨#[61]⟩, .rule .r_expr, .word ⟨#[59]⟩]] from rfl]
   have HO0 := Lib.hid (fun (W : World) (vt1 : Value) (h : PAt W p s es d b wc cl vt1 ve) => open_new h 4 4 [.word ⟨#[99, 111, 110, 115, 116]⟩, .word ⟨#[64, 110, 97, 109, 101]⟩, .word ⟨#[61]⟩, .rule .r_expr, .word ⟨#[59]⟩] 5 [.string ⟨#[99, 111, 110, 115, 116]⟩, .int .u8 0, .nilFunc, .string ⟨#[64, 110, 97, 109, 101]⟩, .int .u8 0, .nilFunc, .string ⟨#[61]⟩, .int .u8 0, .nilFunc, .string ⟨#[]⟩, .int .u8 0, .func (.func 82) #[] #[], .string ⟨#[59]⟩, .int .u8 0, .nilFunc] rfl rfl rfl (by decide) (by (try simp only [List.length_append, List.length_cons, List.length_nil]); omega) (by omega) (by omega))
   clear hs hes hd1 hd2
   go_enter Tryz.func59, Tryz.ntmps59
   go_wp2_with (first
    | (go_at_call 25; (with_reducible refine Calls.mono (word_any _ _) ?_); rintro e w9 ⟨rfl, hb⟩; replace HP := Lib.hid (HP.out.below hb); replace HS := Lib.hid (HS.out.trans (PStep.below hb)); clear hb)
    | (go_at_call 26; (with_reducible refine Calls.mono (rule_any _ _) ?_); rintro e w9 ⟨rfl, hb⟩; replace HP := Lib.hid (HP.out.below hb); replace HS := Lib.hid (HS.out.trans (PStep.below hb)); clear hb)
    | (go_at_call 42; (with_reducible refine Calls.mono (HO0.out _ _ HP.out) ?_); rintro e w9 ⟨rfl, vt9, ve9, hP9, hs9⟩; replace HP := Lib.hid hP9; replace HS := Lib.hid (HS.out.trans hs9); clear hP9 hs9))
   go_ret
   exact ⟨rfl, _, _, by simpa [effs, Eff.act] using HP.out, HS.out⟩
  ·skip
   rw [show RId.expand .r_declaration c = some [.opn 5 [.word c, .word ⟨#[64, 110, 97, 109, 101]⟩, .rule .r_params, .rule .r_typed, .word ⟨#[59]⟩, .rule .r_block, .word ⟨#[59]⟩]] by simp only [RId.expand]; rw [if_neg h1]; rw [if_neg h2]]
   have e0 := ne_lit h1
   have e1 := ne_lit h2
   have HO0 := Lib.hid (fun (W : World) (vt1 : Value) (h : PAt W p s es d b wc cl vt1 ve) => open_new h 5 5 [.word c, .word ⟨#[64, 110, 97, 109, 101]⟩, .rule .r_params, .rule .r_typed, .word ⟨#[59]⟩, .rule .r_block, .word ⟨#[59]⟩] 7 [.string c, .int .u8 0, .nilFunc, .string ⟨#[64, 110, 97, 109, 101]⟩, .int .u8 0, .nilFunc, .string ⟨#[]⟩, .int .u8 0, .func (.func 83) #[] #[], .string ⟨#[]⟩, .int .u8 0, .func (.func 84) #[] #[], .string ⟨#[59]⟩, .int .u8 0, .nilFunc, .string ⟨#[]⟩, .int .u8 0, .func (.func 27) #[] #[], .string ⟨#[59]⟩, .int .u8 0, .nilFunc] rfl rfl rfl (by decide) (by (try simp only [List.length_append, List.length_cons, List.length_nil]); omega) (by omega) (by omega))
   clear hs hes hd1 hd2
   go_enter Tryz.func59, Tryz.ntmps59
   go_wp2_with (first
    | (go_at_call 25; (with_reducible refine Calls.mono (word_any _ _) ?_); rintro e w9 ⟨rfl, hb⟩; replace HP := Lib.hid (HP.out.below hb); replace HS := Lib.hid (HS.out.trans (PStep.below hb)); clear hb)
    | (go_at_call 26; (with_reducible refine Calls.mono (rule_any _ _) ?_); rintro e w9 ⟨rfl, hb⟩; replace HP := Lib.hid (HP.out.below hb); replace HS := Lib.hid (HS.out.trans (PStep.below hb)); clear hb)
    | (go_at_call 42; (with_reducible refine Calls.mono (HO0.out _ _ HP.out) ?_); rintro e w9 ⟨rfl, vt9, ve9, hP9, hs9⟩; replace HP := Lib.hid hP9; replace HS := Lib.hid (HS.out.trans hs9); clear hP9 hs9))
   go_ret
   exact ⟨rfl, _, _, by simpa [effs, Eff.act] using HP.out, HS.out⟩
set_option maxRecDepth 100000 in
set_option maxHeartbeats 4000000 in
theorem rule_params : RuleAny .r_params := by
 intro c p s es d b wc cl vt ve w HP0 HB0
 have HP := Lib.hid HP0
 have HS := Lib.hid (PStep.refl p vt ve w)
 obtain ⟨hs, hes, hd1, hd2⟩ := HB0
 clear HP0
 show Calls Tryz.prog 83 _ w (RulePost .r_params c p s es d b wc cl vt ve w)
 unfold RulePost
 by_cases h1 : c = ⟨#[40]⟩
 ·subst h1
  rw [show RId.expand .r_params ⟨#[40]⟩ = some [.opn 6 [.word ⟨#[40]⟩, .rule .r_param, .rule .r_moreParams, .word ⟨#[41]⟩]] from rfl]
  have HO0 := Lib.hid (fun (W : World) (vt1 : Value) (h : PAt W p s es d b wc cl vt1 ve) => open_new h 6 6 [.word ⟨#[40]⟩, .rule .r_param, .rule .r_moreParams, .word ⟨#[41]⟩] 4 [.string ⟨#[40]⟩, .int .u8 0, .nilFunc, .string ⟨#[]⟩, .int .u8 0, .func (.func 111) #[] #[], .string ⟨#[]⟩, .int .u8 0, .func (.func 112) #[] #[], .string ⟨#[41]⟩, .int .u8 0, .nilFunc] rfl rfl rfl (by decide) (by (try simp only [List.length_append, List.length_cons, List.length_nil]); omega) (by omega) (by omega))
  clear hs hes hd1 hd2
  go_enter Tryz.func83, Tryz.ntmps83
  go_wp2_with (first
   | (go_at_call 25; (with_reducible refine Calls.mono (word_any _ _) ?_); rintro e w9 ⟨rfl, hb⟩; replace HP := Lib.hid (HP.out.below hb); replace HS := Lib.hid (HS.out.trans (PStep.below hb)); clear hb)
   | (go_at_call 26; (with_reducible refine Calls.mono (rule_any _ _) ?_); rintro e w9 ⟨rfl, hb⟩; replace HP := Lib.hid (HP.out.below hb); replace HS := Lib.hid (HS.out.trans (PStep.below hb)); clear hb)
   | (go_at_call 42; (with_reducible refine Calls.mono (HO0.out _ _ HP.out) ?_); rintro e w9 ⟨rfl, vt9, ve9, hP9, hs9⟩; replace HP := Lib.hid hP9; replace HS := Lib.hid (HS.out.trans hs9); clear hP9 hs9))
  go_ret
  exact ⟨rfl, _, _, by simpa [effs, Eff.act] using HP.out, HS.out⟩
 ·skip
  rw [show RId.expand .r_params c = some [] by simp only [RId.expand]; rw [if_neg h1]]
  have e0 := ne_lit h1
  clear hs hes hd1 hd2
  go_enter Tryz.func83, Tryz.ntmps83
  go_wp2_with (first
   | (go_at_call 25; (with_reducible refine Calls.mono (word_any _ _) ?_); rintro e w9 ⟨rfl, hb⟩; replace HP := Lib.hid (HP.out.below hb); replace HS := Lib.hid (HS.out.trans (PStep.below hb)); clear hb)
   | (go_at_call 26; (with_reducible refine Calls.mono (rule_any _ _) ?_); rintro e w9 ⟨rfl, hb⟩; replace HP := Lib.hid (HP.out.below hb); replace HS := Lib.hid (HS.out.trans (PStep.below hb)); clear hb))
  go_ret
  exact ⟨rfl, _, _, by simpa [effs, Eff.act] using HP.out, HS.out⟩
set_option maxRecDepth 100000 in
set_option maxHeartbeats 4000000 in
theorem rule_moreParams : RuleAny .r_moreParams := by
 intro c p s es d b wc cl vt ve w HP0 HB0
 have HP := Lib.hid HP0
 have HS := Lib.hid (PStep.refl p vt ve w)
 obtain ⟨hs, hes, hd1, hd2⟩ := HB0
 clear HP0
 show Calls Tryz.prog 112 _ w (RulePost .r_moreParams c p s es d b wc cl vt ve w)
 unfold RulePost
 by_cases h1 : c = ⟨#[59]⟩
 ·subst h1
  rw [show RId.expand .r_moreParams ⟨#[59]⟩ = some [.push [.word ⟨#[59]⟩, .rule .r_param, .rule .r_moreParams]] from rfl]
  have HO0 := Lib.hid (fun (W : World) (vt1 : Value) (h : PAt W p s es d b wc cl vt1 ve) => push_new h [.word ⟨#[59]⟩, .rule .r_param, .rule .r_moreParams] 3 [.string ⟨#[59]⟩, .int .u8 0, .nilFunc, .string ⟨#[]⟩, .int .u8 0, .func (.func 111) #[] #[], .string ⟨#[]⟩, .int .u8 0, .func (.func 112) #[] #[]] rfl rfl (by decide) (by (try simp only [List.length_append, List.length_cons, List.length_nil]); omega))
  clear hs hes hd1 hd2
  go_enter Tryz.func112, Tryz.ntmps112
  go_wp2_with (first
   | (go_at_call 25; (with_reducible refine Calls.mono (word_any _ _) ?_); rintro e w9 ⟨rfl, hb⟩; replace HP := Lib.hid (HP.out.below hb); replace HS := Lib.hid (HS.out.trans (PStep.below hb)); clear hb)
   | (go_at_call 26; (with_reducible refine Calls.mono (rule_any _ _) ?_); rintro e w9 ⟨rfl, hb⟩; replace HP := Lib.hid (HP.out.below hb); replace HS := Lib.hid (HS.out.trans (PStep.below hb)); clear hb)
   | (go_at_call 24; (with_reducible refine Calls.mono (HO0.out _ _ HP.out) ?_); rintro e w9 ⟨rfl, vt9, hP9, hs9⟩; replace HP := Lib.hid hP9; replace HS := Lib.hid (HS.out.trans hs9); clear hP9 hs9))
  go_ret
  exact ⟨rfl, _, _, by simpa [effs, Eff.act] using HP.out, HS.out⟩
 ·skip
  rw [show RId.expand .r_moreParams c = some [] by simp only [RId.expand]; rw [if_neg h1]]
  have e0 := ne_lit h1
  clear hs hes hd1 hd2
  go_enter Tryz.func112, Tryz.ntmps112
  go_wp2_with (first
   | (go_at_call 25; (with_reducible refine Calls.mono (word_any _ _) ?_); rintro e w9 ⟨rfl, hb⟩; replace HP := Lib.hid (HP.out.below hb); replace HS := Lib.hid (HS.out.trans (PStep.below hb)); clear hb)
   | (go_at_call 26; (with_reducible refine Calls.mono (rule_any _ _) ?_); rintro e w9 ⟨rfl, hb⟩; replace HP := Lib.hid (HP.out.below hb); replace HS := Lib.hid (HS.out.trans (PStep.below hb)); clear hb))
  go_ret
  exact ⟨rfl, _, _, by simpa [effs, Eff.act] using HP.out, HS.out⟩
set_option maxRecDepth 100000 in
set_option maxHeartbeats 4000000 in
theorem rule_param : RuleAny .r_param := by
 intro c p s es d b wc cl vt ve w HP0 HB0
 have HP := Lib.hid HP0
 have HS := Lib.hid (PStep.refl p vt ve w)
 obtain ⟨hs, hes, hd1, hd2⟩ := HB0
 clear HP0
 show Calls Tryz.prog 111 _ w (RulePost .r_param c p s es d b wc cl vt ve w)
 unfold RulePost
 rw [show RId.expand .r_param c = some [.opn 7 [.word ⟨#[64, 110, 97, 109, 101]⟩, .rule .r_names, .word ⟨#[58]⟩, .rule .r_kind]] from rfl]
 have HO0 := Lib.hid (fun (W : World) (vt1 : Value) (h : PAt W p s es d b wc cl vt1 ve) => open_new h 7 7 [.word ⟨#[64, 110, 97, 109, 101]⟩, .rule .r_names, .word ⟨#[58]⟩, .rule .r_kind] 4 [.string ⟨#[64, 110, 97, 109, 101]⟩, .int .u8 0, .nilFunc, .string ⟨#[]⟩, .int .u8 0, .func (.func 80) #[] #[], .string ⟨#[58]⟩, .int .u8 0, .nilFunc, .string ⟨#[]⟩, .int .u8 0, .func (.func 81) #[] #[]] rfl rfl rfl (by decide) (by (try simp only [List.length_append, List.length_cons, List.length_nil]); omega) (by omega) (by omega))
 clear hs hes hd1 hd2
 go_enter Tryz.func111, Tryz.ntmps111
 go_wp2_with (first
  | (go_at_call 25; (with_reducible refine Calls.mono (word_any _ _) ?_); rintro e w9 ⟨rfl, hb⟩; replace HP := Lib.hid (HP.out.below hb); replace HS := Lib.hid (HS.out.trans (PStep.below hb)); clear hb)
  | (go_at_call 26; (with_reducible refine Calls.mono (rule_any _ _) ?_); rintro e w9 ⟨rfl, hb⟩; replace HP := Lib.hid (HP.out.below hb); replace HS := Lib.hid (HS.out.trans (PStep.below hb)); clear hb)
  | (go_at_call 42; (with_reducible refine Calls.mono (HO0.out _ _ HP.out) ?_); rintro e w9 ⟨rfl, vt9, ve9, hP9, hs9⟩; replace HP := Lib.hid hP9; replace HS := Lib.hid (HS.out.trans hs9); clear hP9 hs9))
 go_ret
 exact ⟨rfl, _, _, by simpa [effs, Eff.act] using HP.out, HS.out⟩
set_option maxRecDepth 100000 in
set_option maxHeartbeats 4000000 in
theorem rule_typed : RuleAny .r_typed := by
 intro c p s es d b wc cl vt ve w HP0 HB0
 have HP := Lib.hid HP0
 have HS := Lib.hid (PStep.refl p vt ve w)
 obtain ⟨hs, hes, hd1, hd2⟩ := HB0
 clear HP0
 show Calls Tryz.prog 84 _ w (RulePost .r_typed c p s es d b wc cl vt ve w)
 unfold RulePost
 by_cases h1 : c = ⟨#[58]⟩
 ·subst h1
  rw [show RId.expand .r_typed ⟨#[58]⟩ = some [.push [.word ⟨#[58]⟩, .rule .r_kind]] from rfl]
  have HO0 := Lib.hid (fun (W : World) (vt1 : Value) (h : PAt W p s es d b wc cl vt1 ve) => push_new h [.word ⟨#[58]⟩, .rule .r_kind] 2 [.string ⟨#[58]⟩, .int .u8 0, .nilFunc, .string ⟨#[]⟩, .int .u8 0, .func (.func 81) #[] #[]] rfl rfl (by decide) (by (try simp only [List.length_append, List.length_cons, List.length_nil]); omega))
  clear hs hes hd1 hd2
  go_enter Tryz.func84, Tryz.ntmps84
  go_wp2_with (first
   | (go_at_call 25; (with_reducible refine Calls.mono (word_any _ _) ?_); rintro e w9 ⟨rfl, hb⟩; replace HP := Lib.hid (HP.out.below hb); replace HS := Lib.hid (HS.out.trans (PStep.below hb)); clear hb)
   | (go_at_call 26; (with_reducible refine Calls.mono (rule_any _ _) ?_); rintro e w9 ⟨rfl, hb⟩; replace HP := Lib.hid (HP.out.below hb); replace HS := Lib.hid (HS.out.trans (PStep.below hb)); clear hb)
   | (go_at_call 24; (with_reducible refine Calls.mono (HO0.out _ _ HP.out) ?_); rintro e w9 ⟨rfl, vt9, hP9, hs9⟩; replace HP := Lib.hid hP9; replace HS := Lib.hid (HS.out.trans hs9); clear hP9 hs9))
  go_ret
  exact ⟨rfl, _, _, by simpa [effs, Eff.act] using HP.out, HS.out⟩
 ·skip
  rw [show RId.expand .r_typed c = some [] by simp only [RId.expand]; rw [if_neg h1]]
  have e0 := ne_lit h1
  clear hs hes hd1 hd2
  go_enter Tryz.func84, Tryz.ntmps84
  go_wp2_with (first
   | (go_at_call 25; (with_reducible refine Calls.mono (word_any _ _) ?_); rintro e w9 ⟨rfl, hb⟩; replace HP := Lib.hid (HP.out.below hb); replace HS := Lib.hid (HS.out.trans (PStep.below hb)); clear hb)
   | (go_at_call 26; (with_reducible refine Calls.mono (rule_any _ _) ?_); rintro e w9 ⟨rfl, hb⟩; replace HP := Lib.hid (HP.out.below hb); replace HS := Lib.hid (HS.out.trans (PStep.below hb)); clear hb))
  go_ret
  exact ⟨rfl, _, _, by simpa [effs, Eff.act] using HP.out, HS.out⟩
end Go.Proofs.YtmjbpgnjgblnmaaGreat
namespace Go.Proofs.YtmjbpgnjgblnmaaGreat
open Go.RowKit Go.Proofs.YtmjbpgnjgblnmaaGreatW.PrintWords Go.Proofs.YtmjbpgnjgblnmaaGreatW.PrintLast Go.Proofs.YtmjbpgnjgblnmaaGreatW.PrintMore
set_option maxRecDepth 100000 in
set_option maxHeartbeats 4000000 in
theorem rule_member : RuleAny .r_member := by
 intro c p s es d b wc cl vt ve w HP0 HB0
 have HP := Lib.hid HP0
 have HS := Lib.hid (PStep.refl p vt ve w)
 obtain ⟨hs, hes, hd1, hd2⟩ := HB0
 clear HP0
 show Calls Tryz.prog 107 _ w (RulePost .r_member c p s es d b wc cl vt ve w)
 unfold RulePost
 rw [show RId.expand .r_member c = some [.opn 11 [.word ⟨#[64, 110, 97, 109, 101]⟩, .rule .r_names, .word ⟨#[58]⟩, .rule .r_kind]] from rfl]
 have HO0 := Lib.hid (fun (W : World) (vt1 : Value) (h : PAt W p s es d b wc cl vt1 ve) => open_new h 11 11 [.word ⟨#[64, 110, 97, 109, 101]⟩, .rule .r_names, .word ⟨#[58]⟩, .rule .r_kind] 4 [.string ⟨#[64, 110, 97, 109, 101]⟩, .int .u8 0, .nilFunc, .string ⟨#[]⟩, .int .u8 0, .func (.func 80) #[] #[], .string ⟨#[58]⟩, .int .u8 0, .nilFunc, .string ⟨#[]⟩, .int .u8 0, .func (.func 81) #[] #[]] rfl rfl rfl (by decide) (by (try simp only [List.length_append, List.length_cons, List.length_nil]); omega) (by omega) (by omega))
 clear hs hes hd1 hd2
 go_enter Tryz.func107, Tryz.ntmps107
 go_wp2_with (first
  | (go_at_call 25; (with_reducible refine Calls.mono (word_any _ _) ?_); rintro e w9 ⟨rfl, hb⟩; replace HP := Lib.hid (HP.out.below hb); replace HS := Lib.hid (HS.out.trans (PStep.below hb)); clear hb)
  | (go_at_call 26; (with_reducible refine Calls.mono (rule_any _ _) ?_); rintro e w9 ⟨rfl, hb⟩; replace HP := Lib.hid (HP.out.below hb); replace HS := Lib.hid (HS.out.trans (PStep.below hb)); clear hb)
  | (go_at_call 42; (with_reducible refine Calls.mono (HO0.out _ _ HP.out) ?_); rintro e w9 ⟨rfl, vt9, ve9, hP9, hs9⟩; replace HP := Lib.hid hP9; replace HS := Lib.hid (HS.out.trans hs9); clear hP9 hs9))
 go_ret
 exact ⟨rfl, _, _, by simpa [effs, Eff.act] using HP.out, HS.out⟩
set_option maxRecDepth 100000 in
set_option maxHeartbeats 4000000 in
theorem rule_members : RuleAny .r_members := by
 intro c p s es d b wc cl vt ve w HP0 HB0
 have HP := Lib.hid HP0
 have HS := Lib.hid (PStep.refl p vt ve w)
 obtain ⟨hs, hes, hd1, hd2⟩ := HB0
 clear HP0
 show Calls Tryz.prog 108 _ w (RulePost .r_members c p s es d b wc cl vt ve w)
 unfold RulePost
 by_cases h1 : c = ⟨#[59]⟩
 ·subst h1
  rw [show RId.expand .r_members ⟨#[59]⟩ = some [.push [.word ⟨#[59]⟩, .rule .r_member, .rule .r_members]] from rfl]
  have HO0 := Lib.hid (fun (W : World) (vt1 : Value) (h : PAt W p s es d b wc cl vt1 ve) => push_new h [.word ⟨#[59]⟩, .rule .r_member, .rule .r_members] 3 [.string ⟨#[59]⟩, .int .u8 0, .nilFunc, .string ⟨#[]⟩, .int .u8 0, .func (.func 107) #[] #[], .string ⟨#[]⟩, .int .u8 0, .func (.func 108) #[] #[]] rfl rfl (by decide) (by (try simp only [List.length_append, List.length_cons, List.length_nil]); omega))
  clear hs hes hd1 hd2
  go_enter Tryz.func108, Tryz.ntmps108
  go_wp2_with (first
   | (go_at_call 25; (with_reducible refine Calls.mono (word_any _ _) ?_); rintro e w9 ⟨rfl, hb⟩; replace HP := Lib.hid (HP.out.below hb); replace HS := Lib.hid (HS.out.trans (PStep.below hb)); clear hb)
   | (go_at_call 26; (with_reducible refine Calls.mono (rule_any _ _) ?_); rintro e w9 ⟨rfl, hb⟩; replace HP := Lib.hid (HP.out.below hb); replace HS := Lib.hid (HS.out.trans (PStep.below hb)); clear hb)
   | (go_at_call 24; (with_reducible refine Calls.mono (HO0.out _ _ HP.out) ?_); rintro e w9 ⟨rfl, vt9, hP9, hs9⟩; replace HP := Lib.hid hP9; replace HS := Lib.hid (HS.out.trans hs9); clear hP9 hs9))
  go_ret
  exact ⟨rfl, _, _, by simpa [effs, Eff.act] using HP.out, HS.out⟩
 ·skip
  rw [show RId.expand .r_members c = some [] by simp only [RId.expand]; rw [if_neg h1]]
  have e0 := ne_lit h1
  clear hs hes hd1 hd2
  go_enter Tryz.func108, Tryz.ntmps108
  go_wp2_with (first
   | (go_at_call 25; (with_reducible refine Calls.mono (word_any _ _) ?_); rintro e w9 ⟨rfl, hb⟩; replace HP := Lib.hid (HP.out.below hb); replace HS := Lib.hid (HS.out.trans (PStep.below hb)); clear hb)
   | (go_at_call 26; (with_reducible refine Calls.mono (rule_any _ _) ?_); rintro e w9 ⟨rfl, hb⟩; replace HP := Lib.hid (HP.out.below hb); replace HS := Lib.hid (HS.out.trans (PStep.below hb)); clear hb))
  go_ret
  exact ⟨rfl, _, _, by simpa [effs, Eff.act] using HP.out, HS.out⟩
set_option maxRecDepth 100000 in
set_option maxHeartbeats 4000000 in
theorem rule_body : RuleAny .r_body := by
 intro c p s es d b wc cl vt ve w HP0 HB0
 have HP := Lib.hid HP0
 have HS := Lib.hid (PStep.refl p vt ve w)
 obtain ⟨hs, hes, hd1, hd2⟩ := HB0
 clear HP0
 show Calls Tryz.prog 44 _ w (RulePost .r_body c p s es d b wc cl vt ve w)
 unfold RulePost
 rw [show RId.expand .r_body c = some [.opn 12 [.rule .r_statement, .rule .r_statements]] from rfl]
 have HO0 := Lib.hid (fun (W : World) (vt1 : Value) (h : PAt W p s es d b wc cl vt1 ve) => open_new h 12 12 [.rule .r_statement, .rule .r_statements] 2 [.string ⟨#[]⟩, .int .u8 0, .func (.func 60) #[] #[], .string ⟨#[]⟩, .int .u8 0, .func (.func 61) #[] #[]] rfl rfl rfl (by decide) (by (try simp only [List.length_append, List.length_cons, List.length_nil]); omega) (by omega) (by omega))
 clear hs hes hd1 hd2
 go_enter Tryz.func44, Tryz.ntmps44
 go_wp2_with (first
  | (go_at_call 25; (with_reducible refine Calls.mono (word_any _ _) ?_); rintro e w9 ⟨rfl, hb⟩; replace HP := Lib.hid (HP.out.below hb); replace HS := Lib.hid (HS.out.trans (PStep.below hb)); clear hb)
  | (go_at_call 26; (with_reducible refine Calls.mono (rule_any _ _) ?_); rintro e w9 ⟨rfl, hb⟩; replace HP := Lib.hid (HP.out.below hb); replace HS := Lib.hid (HS.out.trans (PStep.below hb)); clear hb)
  | (go_at_call 42; (with_reducible refine Calls.mono (HO0.out _ _ HP.out) ?_); rintro e w9 ⟨rfl, vt9, ve9, hP9, hs9⟩; replace HP := Lib.hid hP9; replace HS := Lib.hid (HS.out.trans hs9); clear hP9 hs9))
 go_ret
 exact ⟨rfl, _, _, by simpa [effs, Eff.act] using HP.out, HS.out⟩
set_option maxRecDepth 100000 in
set_option maxHeartbeats 4000000 in
theorem rule_statements : RuleAny .r_statements := by
 intro c p s es d b wc cl vt ve w HP0 HB0
 have HP := Lib.hid HP0
 have HS := Lib.hid (PStep.refl p vt ve w)
 obtain ⟨hs, hes, hd1, hd2⟩ := HB0
 clear HP0
 show Calls Tryz.prog 61 _ w (RulePost .r_statements c p s es d b wc cl vt ve w)
 unfold RulePost
 by_cases h1 : c = ⟨#[59]⟩
 ·subst h1
  rw [show RId.expand .r_statements ⟨#[59]⟩ = some [.push [.word ⟨#[59]⟩, .rule .r_statement, .rule .r_statements]] from rfl]
  have HO0 := Lib.hid (fun (W : World) (vt1 : Value) (h : PAt W p s es d b wc cl vt1 ve) => push_new h [.word ⟨#[59]⟩, .rule .r_statement, .rule .r_statements] 3 [.string ⟨#[59]⟩, .int .u8 0, .nilFunc, .string ⟨#[]⟩, .int .u8 0, .func (.func 60) #[] #[], .string ⟨#[]⟩, .int .u8 0, .func (.func 61) #[] #[]] rfl rfl (by decide) (by (try simp only [List.length_append, List.length_cons, List.length_nil]); omega))
  clear hs hes hd1 hd2
  go_enter Tryz.func61, Tryz.ntmps61
  go_wp2_with (first
   | (go_at_call 25; (with_reducible refine Calls.mono (word_any _ _) ?_); rintro e w9 ⟨rfl, hb⟩; replace HP := Lib.hid (HP.out.below hb); replace HS := Lib.hid (HS.out.trans (PStep.below hb)); clear hb)
   | (go_at_call 26; (with_reducible refine Calls.mono (rule_any _ _) ?_); rintro e w9 ⟨rfl, hb⟩; replace HP := Lib.hid (HP.out.below hb); replace HS := Lib.hid (HS.out.trans (PStep.below hb)); clear hb)
   | (go_at_call 24; (with_reducible refine Calls.mono (HO0.out _ _ HP.out) ?_); rintro e w9 ⟨rfl, vt9, hP9, hs9⟩; replace HP := Lib.hid hP9; replace HS := Lib.hid (HS.out.trans hs9); clear hP9 hs9))
  go_ret
  exact ⟨rfl, _, _, by simpa [effs, Eff.act] using HP.out, HS.out⟩
 ·skip
  rw [show RId.expand .r_statements c = some [] by simp only [RId.expand]; rw [if_neg h1]]
  have e0 := ne_lit h1
  clear hs hes hd1 hd2
  go_enter Tryz.func61, Tryz.ntmps61
  go_wp2_with (first
   | (go_at_call 25; (with_reducible refine Calls.mono (word_any _ _) ?_); rintro e w9 ⟨rfl, hb⟩; replace HP := Lib.hid (HP.out.below hb); replace HS := Lib.hid (HS.out.trans (PStep.below hb)); clear hb)
   | (go_at_call 26; (with_reducible refine Calls.mono (rule_any _ _) ?_); rintro e w9 ⟨rfl, hb⟩; replace HP := Lib.hid (HP.out.below hb); replace HS := Lib.hid (HS.out.trans (PStep.below hb)); clear hb))
  go_ret
  exact ⟨rfl, _, _, by simpa [effs, Eff.act] using HP.out, HS.out⟩
set_option maxRecDepth 100000 in
set_option maxHeartbeats 4000000 in
theorem rule_assigned : RuleAny .r_assigned := by
 intro c p s es d b wc cl vt ve w HP0 HB0
 have HP := Lib.hid HP0
 have HS := Lib.hid (PStep.refl p vt ve w)
 obtain ⟨hs, hes, hd1, hd2⟩ := HB0
 clear HP0
 show Calls Tryz.prog 86 _ w (RulePost .r_assigned c p s es d b wc cl vt ve w)
 unfold RulePost
 by_cases h1 : c = ⟨#[58, 61]⟩
 ·subst h1
  rw [show RId.expand .r_assigned ⟨#[58, 61]⟩ = some [.push [.word ⟨#[58, 61]⟩, .rule .r_expr]] from rfl]
  have HO0 := Lib.hid (fun (W : World) (vt1 : Value) (h : PAt W p s es d b wc cl vt1 ve) => push_new h [.word ⟨#[58, 61]⟩, .rule .r_expr] 2 [.string ⟨#[58, 61]⟩, .int .u8 0, .nilFunc, .string ⟨#[]⟩, .int .u8 0, .func (.func 82) #[] #[]] rfl rfl (by decide) (by (try simp only [List.length_append, List.length_cons, List.length_nil]); omega))
  clear hs hes hd1 hd2
  go_enter Tryz.func86, Tryz.ntmps86
  go_wp2_with (first
   | (go_at_call 25; (with_reducible refine Calls.mono (word_any _ _) ?_); rintro e w9 ⟨rfl, hb⟩; replace HP := Lib.hid (HP.out.below hb); replace HS := Lib.hid (HS.out.trans (PStep.below hb)); clear hb)
   | (go_at_call 26; (with_reducible refine Calls.mono (rule_any _ _) ?_); rintro e w9 ⟨rfl, hb⟩; replace HP := Lib.hid (HP.out.below hb); replace HS := Lib.hid (HS.out.trans (PStep.below hb)); clear hb)
   | (go_at_call 24; (with_reducible refine Calls.mono (HO0.out _ _ HP.out) ?_); rintro e w9 ⟨rfl, vt9, hP9, hs9⟩; replace HP := Lib.hid hP9; replace HS := Lib.hid (HS.out.trans hs9); clear hP9 hs9))
  go_ret
  exact ⟨rfl, _, _, by simpa [effs, Eff.act] using HP.out, HS.out⟩
 ·skip
  rw [show RId.expand .r_assigned c = some [] by simp only [RId.expand]; rw [if_neg h1]]
  have e0 := ne_lit h1
  clear hs hes hd1 hd2
  go_enter Tryz.func86, Tryz.ntmps86
  go_wp2_with (first
   | (go_at_call 25; (with_reducible refine Calls.mono (word_any _ _) ?_); rintro e w9 ⟨rfl, hb⟩; replace HP := Lib.hid (HP.out.below hb); replace HS := Lib.hid (HS.out.trans (PStep.below hb)); clear hb)
   | (go_at_call 26; (with_reducible refine Calls.mono (rule_any _ _) ?_); rintro e w9 ⟨rfl, hb⟩; replace HP := Lib.hid (HP.out.below hb); replace HS := Lib.hid (HS.out.trans (PStep.below hb)); clear hb))
  go_ret
  exact ⟨rfl, _, _, by simpa [effs, Eff.act] using HP.out, HS.out⟩
set_option maxRecDepth 100000 in
set_option maxHeartbeats 4000000 in
theorem rule_elses : RuleAny .r_elses := by
 intro c p s es d b wc cl vt ve w HP0 HB0
 have HP := Lib.hid HP0
 have HS := Lib.hid (PStep.refl p vt ve w)
 obtain ⟨hs, hes, hd1, hd2⟩ := HB0
 clear HP0
 show Calls Tryz.prog 87 _ w (RulePost .r_elses c p s es d b wc cl vt ve w)
 unfold RulePost
 by_cases h1 : c = ⟨#[101, 108, 105, 102]⟩
 ·subst h1
  rw [show RId.expand .r_elses ⟨#[101, 108, 105, 102]⟩ = some [.push [.word ⟨#[101, 108, 105, 102]⟩, .rule .r_expr, .word ⟨#[116, 104, 101, 110]⟩, .rule .r_body, .rule .r_elses]] from rfl]
  have HO0 := Lib.hid (fun (W : World) (vt1 : Value) (h : PAt W p s es d b wc cl vt1 ve) => push_new h [.word ⟨#[101, 108, 105, 102]⟩, .rule .r_expr, .word ⟨#[116, 104, 101, 110]⟩, .rule .r_body, .rule .r_elses] 5 [.string ⟨#[101, 108, 105, 102]⟩, .int .u8 0, .nilFunc, .string ⟨#[]⟩, .int .u8 0, .func (.func 82) #[] #[], .string ⟨#[116, 104, 101, 110]⟩, .int .u8 0, .nilFunc, .string ⟨#[]⟩, .int .u8 0, .func (.func 44) #[] #[], .string ⟨#[]⟩, .int .u8 0, .func (.func 87) #[] #[]] rfl rfl (by decide) (by (try simp only [List.length_append, List.length_cons, List.length_nil]); omega))
  clear hs hes hd1 hd2
  go_enter Tryz.func87, Tryz.ntmps87
  go_wp2_with (first
   | (go_at_call 25; (with_reducible refine Calls.mono (word_any _ _) ?_); rintro e w9 ⟨rfl, hb⟩; replace HP := Lib.hid (HP.out.below hb); replace HS := Lib.hid (HS.out.trans (PStep.below hb)); clear hb)
   | (go_at_call 26; (with_reducible refine Calls.mono (rule_any _ _) ?_); rintro e w9 ⟨rfl, hb⟩; replace HP := Lib.hid (HP.out.below hb); replace HS := Lib.hid (HS.out.trans (PStep.below hb)); clear hb)
   | (go_at_call 24; (with_reducible refine Calls.mono (HO0.out _ _ HP.out) ?_); rintro e w9 ⟨rfl, vt9, hP9, hs9⟩; replace HP := Lib.hid hP9; replace HS := Lib.hid (HS.out.trans hs9); clear hP9 hs9))
  go_ret
  exact ⟨rfl, _, _, by simpa [effs, Eff.act] using HP.out, HS.out⟩
 ·skip
  by_cases h2 : c = ⟨#[101, 108, 115, 101]⟩
  ·subst h2
   rw [show RId.expand .r_elses ⟨#[101, 108, 115, 101]⟩ = some [.push [.word ⟨#[101, 108, 115, 101]⟩, .rule .r_body]] from rfl]
   have HO0 := Lib.hid (fun (W : World) (vt1 : Value) (h : PAt W p s es d b wc cl vt1 ve) => push_new h [.word ⟨#[101, 108, 115, 101]⟩, .rule .r_body] 2 [.string ⟨#[101, 108, 115, 101]⟩, .int .u8 0, .nilFunc, .string ⟨#[]⟩, .int .u8 0, .func (.func 44) #[] #[]] rfl rfl (by decide) (by (try simp only [List.length_append, List.length_cons, List.length_nil]); omega))
   clear hs hes hd1 hd2
   go_enter Tryz.func87, Tryz.ntmps87
   go_wp2_with (first
    | (go_at_call 25; (with_reducible refine Calls.mono (word_any _ _) ?_); rintro e w9 ⟨rfl, hb⟩; replace HP := Lib.hid (HP.out.below hb); replace HS := Lib.hid (HS.out.trans (PStep.below hb)); clear hb)
    | (go_at_call 26; (with_reducible refine Calls.mono (rule_any _ _) ?_); rintro e w9 ⟨rfl, hb⟩; replace HP := Lib.hid (HP.out.below hb); replace HS := Lib.hid (HS.out.trans (PStep.below hb)); clear hb)
    | (go_at_call 24; (with_reducible refine Calls.mono (HO0.out _ _ HP.out) ?_); rintro e w9 ⟨rfl, vt9, hP9, hs9⟩; replace HP := Lib.hid hP9; replace HS := Lib.hid (HS.out.trans hs9); clear hP9 hs9))
   go_ret
   exact ⟨rfl, _, _, by simpa [effs, Eff.act] using HP.out, HS.out⟩
  ·skip
   rw [show RId.expand .r_elses c = some [] by simp only [RId.expand]; rw [if_neg h1]; rw [if_neg h2]]
   have e0 := ne_lit h1
   have e1 := ne_lit h2
   clear hs hes hd1 hd2
   go_enter Tryz.func87, Tryz.ntmps87
   go_wp2_with (first
    | (go_at_call 25; (with_reducible refine Calls.mono (word_any _ _) ?_); rintro e w9 ⟨rfl, hb⟩; replace HP := Lib.hid (HP.out.below hb); replace HS := Lib.hid (HS.out.trans (PStep.below hb)); clear hb)
    | (go_at_call 26; (with_reducible refine Calls.mono (rule_any _ _) ?_); rintro e w9 ⟨rfl, hb⟩; replace HP := Lib.hid (HP.out.below hb); replace HS := Lib.hid (HS.out.trans (PStep.below hb)); clear hb))
   go_ret
   exact ⟨rfl, _, _, by simpa [effs, Eff.act] using HP.out, HS.out⟩
set_option maxRecDepth 100000 in
set_option maxHeartbeats 4000000 in
theorem rule_maybe : RuleAny .r_maybe := by
 intro c p s es d b wc cl vt ve w HP0 HB0
 have HP := Lib.hid HP0
 have HS := Lib.hid (PStep.refl p vt ve w)
 obtain ⟨hs, hes, hd1, hd2⟩ := HB0
 clear HP0
 show Calls Tryz.prog 88 _ w (RulePost .r_maybe c p s es d b wc cl vt ve w)
 unfold RulePost
 by_cases h1 : c = ⟨#[64, 110, 117, 109, 98, 101, 114]⟩ ∨ c = ⟨#[64, 116, 101, 120, 116]⟩ ∨ c = ⟨#[64, 99, 104, 97, 114]⟩ ∨ c = ⟨#[64, 110, 97, 109, 101]⟩ ∨ c = ⟨#[45]⟩ ∨ c = ⟨#[110, 111, 116]⟩ ∨ c = ⟨#[40]⟩
 ·rw [show RId.expand .r_maybe c = some [.push [.rule .r_expr]] by simp only [RId.expand]; rw [if_pos h1]]
  have hin : inL c [⟨#[64, 110, 117, 109, 98, 101, 114]⟩, ⟨#[64, 116, 101, 120, 116]⟩, ⟨#[64, 99, 104, 97, 114]⟩, ⟨#[64, 110, 97, 109, 101]⟩, ⟨#[45]⟩, ⟨#[110, 111, 116]⟩, ⟨#[40]⟩] = true := (inL_iff _ _).2 (by simpa using h1)
  have HAM := Lib.hid (fun (W : World) => begins_any W c)
  rw [hin] at HAM
  clear hin
  have HO0 := Lib.hid (fun (W : World) (vt1 : Value) (h : PAt W p s es d b wc cl vt1 ve) => push_new h [.rule .r_expr] 1 [.string ⟨#[]⟩, .int .u8 0, .func (.func 82) #[] #[]] rfl rfl (by decide) (by (try simp only [List.length_append, List.length_cons, List.length_nil]); omega))
  clear hs hes hd1 hd2
  go_enter Tryz.func88, Tryz.ntmps88
  go_wp2_with (first
   | (go_at_call 114; (with_reducible refine Calls.mono (HAM.out _) ?_); rintro e w9 ⟨rfl, hb⟩; replace HP := Lib.hid (HP.out.below hb); replace HS := Lib.hid (HS.out.trans (PStep.below hb)); clear hb)
   | (go_at_call 25; (with_reducible refine Calls.mono (word_any _ _) ?_); rintro e w9 ⟨rfl, hb⟩; replace HP := Lib.hid (HP.out.below hb); replace HS := Lib.hid (HS.out.trans (PStep.below hb)); clear hb)
   | (go_at_call 26; (with_reducible refine Calls.mono (rule_any _ _) ?_); rintro e w9 ⟨rfl, hb⟩; replace HP := Lib.hid (HP.out.below hb); replace HS := Lib.hid (HS.out.trans (PStep.below hb)); clear hb)
   | (go_at_call 24; (with_reducible refine Calls.mono (HO0.out _ _ HP.out) ?_); rintro e w9 ⟨rfl, vt9, hP9, hs9⟩; replace HP := Lib.hid hP9; replace HS := Lib.hid (HS.out.trans hs9); clear hP9 hs9))
  go_ret
  exact ⟨rfl, _, _, by simpa [effs, Eff.act] using HP.out, HS.out⟩
 ·skip
  rw [show RId.expand .r_maybe c = some [] by simp only [RId.expand]; rw [if_neg h1]]
  have hin : inL c [⟨#[64, 110, 117, 109, 98, 101, 114]⟩, ⟨#[64, 116, 101, 120, 116]⟩, ⟨#[64, 99, 104, 97, 114]⟩, ⟨#[64, 110, 97, 109, 101]⟩, ⟨#[45]⟩, ⟨#[110, 111, 116]⟩, ⟨#[40]⟩] = false := inL_no (fun h => h1 (by simpa using h))
  have HAM := Lib.hid (fun (W : World) => begins_any W c)
  rw [hin] at HAM
  clear hin
  clear hs hes hd1 hd2
  go_enter Tryz.func88, Tryz.ntmps88
  go_wp2_with (first
   | (go_at_call 114; (with_reducible refine Calls.mono (HAM.out _) ?_); rintro e w9 ⟨rfl, hb⟩; replace HP := Lib.hid (HP.out.below hb); replace HS := Lib.hid (HS.out.trans (PStep.below hb)); clear hb)
   | (go_at_call 25; (with_reducible refine Calls.mono (word_any _ _) ?_); rintro e w9 ⟨rfl, hb⟩; replace HP := Lib.hid (HP.out.below hb); replace HS := Lib.hid (HS.out.trans (PStep.below hb)); clear hb)
   | (go_at_call 26; (with_reducible refine Calls.mono (rule_any _ _) ?_); rintro e w9 ⟨rfl, hb⟩; replace HP := Lib.hid (HP.out.below hb); replace HS := Lib.hid (HS.out.trans (PStep.below hb)); clear hb))
  go_ret
  exact ⟨rfl, _, _, by simpa [effs, Eff.act] using HP.out, HS.out⟩
end Go.Proofs.YtmjbpgnjgblnmaaGreat
namespace Go.Proofs.YtmjbpgnjgblnmaaGreat
open Go.RowKit Go.Proofs.YtmjbpgnjgblnmaaGreatW.PrintWords Go.Proofs.YtmjbpgnjgblnmaaGreatW.PrintLast Go.Proofs.YtmjbpgnjgblnmaaGreatW.PrintMore
set_option maxRecDepth 100000 in
set_option maxHeartbeats 4000000 in
theorem rule_statement : RuleAny .r_statement := by
 intro c p s es d b wc cl vt ve w HP0 HB0
 have HP := Lib.hid HP0
 have HS := Lib.hid (PStep.refl p vt ve w)
 obtain ⟨hs, hes, hd1, hd2⟩ := HB0
 clear HP0
 show Calls Tryz.prog 60 _ w (RulePost .r_statement c p s es d b wc cl vt ve w)
 unfold RulePost
 by_cases h1 : c = ⟨#[115, 107, 105, 112]⟩
 ·subst h1
  rw [show RId.expand .r_statement ⟨#[115, 107, 105, 112]⟩ = some [.opn 13 [.word ⟨#[115, 107, 105, 112]⟩]] from rfl]
  have HO0 := Lib.hid (fun (W : World) (vt1 : Value) (h : PAt W p s es d b wc cl vt1 ve) => open_new h 13 13 [.word ⟨#[115, 107, 105, 112]⟩] 1 [.string ⟨#[115, 107, 105, 112]⟩, .int .u8 0, .nilFunc] rfl rfl rfl (by decide) (by (try simp only [List.length_append, List.length_cons, List.length_nil]); omega) (by omega) (by omega))
  clear hs hes hd1 hd2
  go_enter Tryz.func60, Tryz.ntmps60
  go_wp2_with (first
   | (go_at_call 25; (with_reducible refine Calls.mono (word_any _ _) ?_); rintro e w9 ⟨rfl, hb⟩; replace HP := Lib.hid (HP.out.below hb); replace HS := Lib.hid (HS.out.trans (PStep.below hb)); clear hb)
   | (go_at_call 26; (with_reducible refine Calls.mono (rule_any _ _) ?_); rintro e w9 ⟨rfl, hb⟩; replace HP := Lib.hid (HP.out.below hb); replace HS := Lib.hid (HS.out.trans (PStep.below hb)); clear hb)
   | (go_at_call 42; (with_reducible refine Calls.mono (HO0.out _ _ HP.out) ?_); rintro e w9 ⟨rfl, vt9, ve9, hP9, hs9⟩; replace HP := Lib.hid hP9; replace HS := Lib.hid (HS.out.trans hs9); clear hP9 hs9))
  go_ret
  exact ⟨rfl, _, _, by simpa [effs, Eff.act] using HP.out, HS.out⟩
 ·skip
  by_cases h2 : c = ⟨#[64, 110, 97, 109, 101]⟩
  ·subst h2
   rw [show RId.expand .r_statement ⟨#[64, 110, 97, 109, 101]⟩ = some [.opn 14 [.rule .r_object, .rule .r_assigned]] from rfl]
   have HO0 := Lib.hid (fun (W : World) (vt1 : Value) (h : PAt W p s es d b wc cl vt1 ve) => open_new h 14 14 [.rule .r_object, .rule .r_assigned] 2 [.string ⟨#[]⟩, .int .u8 0, .func (.func 85) #[] #[], .string ⟨#[]⟩, .int .u8 0, .func (.func 86) #[] #[]] rfl rfl rfl (by decide) (by (try simp only [List.length_append, List.length_cons, List.length_nil]); omega) (by omega) (by omega))
   clear hs hes hd1 hd2
   go_enter Tryz.func60, Tryz.ntmps60
   go_wp2_with (first
    | (go_at_call 25; (with_reducible refine Calls.mono (word_any _ _) ?_); rintro e w9 ⟨rfl, hb⟩; replace HP := Lib.hid (HP.out.below hb); replace HS := Lib.hid (HS.out.trans (PStep.below hb)); clear hb)
    | (go_at_call 26; (with_reducible refine Calls.mono (rule_any _ _) ?_); rintro e w9 ⟨rfl, hb⟩; replace HP := Lib.hid (HP.out.below hb); replace HS := Lib.hid (HS.out.trans (PStep.below hb)); clear hb)
    | (go_at_call 42; (with_reducible refine Calls.mono (HO0.out _ _ HP.out) ?_); rintro e w9 ⟨rfl, vt9, ve9, hP9, hs9⟩; replace HP := Lib.hid hP9; replace HS := Lib.hid (HS.out.trans hs9); clear hP9 hs9))
   go_ret
   exact ⟨rfl, _, _, by simpa [effs, Eff.act] using HP.out, HS.out⟩
  ·skip
   by_cases h3 : c = ⟨#[105, 102]⟩
   ·subst h3
    rw [show RId.expand .r_statement ⟨#[105, 102]⟩ = some [.opn 15 [.word ⟨#[105, 102]⟩, .rule .r_expr, .word ⟨#[116, 104, 101, 110]⟩, .rule .r_body, .rule .r_elses, .word ⟨#[101, 110, 100]⟩]] from rfl]
    have HO0 := Lib.hid (fun (W : World) (vt1 : Value) (h : PAt W p s es d b wc cl vt1 ve) => open_new h 15 15 [.word ⟨#[105, 102]⟩, .rule .r_expr, .word ⟨#[116, 104, 101, 110]⟩, .rule .r_body, .rule .r_elses, .word ⟨#[101, 110, 100]⟩] 6 [.string ⟨#[105, 102]⟩, .int .u8 0, .nilFunc, .string ⟨#[]⟩, .int .u8 0, .func (.func 82) #[] #[], .string ⟨#[116, 104, 101, 110]⟩, .int .u8 0, .nilFunc, .string ⟨#[]⟩, .int .u8 0, .func (.func 44) #[] #[], .string ⟨#[]⟩, .int .u8 0, .func (.func 87) #[] #[], .string ⟨#[101, 110, 100]⟩, .int .u8 0, .nilFunc] rfl rfl rfl (by decide) (by (try simp only [List.length_append, List.length_cons, List.length_nil]); omega) (by omega) (by omega))
    clear hs hes hd1 hd2
    go_enter Tryz.func60, Tryz.ntmps60
    go_wp2_with (first
     | (go_at_call 25; (with_reducible refine Calls.mono (word_any _ _) ?_); rintro e w9 ⟨rfl, hb⟩; replace HP := Lib.hid (HP.out.below hb); replace HS := Lib.hid (HS.out.trans (PStep.below hb)); clear hb)
     | (go_at_call 26; (with_reducible refine Calls.mono (rule_any _ _) ?_); rintro e w9 ⟨rfl, hb⟩; replace HP := Lib.hid (HP.out.below hb); replace HS := Lib.hid (HS.out.trans (PStep.below hb)); clear hb)
     | (go_at_call 42; (with_reducible refine Calls.mono (HO0.out _ _ HP.out) ?_); rintro e w9 ⟨rfl, vt9, ve9, hP9, hs9⟩; replace HP := Lib.hid hP9; replace HS := Lib.hid (HS.out.trans hs9); clear hP9 hs9))
    go_ret
    exact ⟨rfl, _, _, by simpa [effs, Eff.act] using HP.out, HS.out⟩
   ·skip
    by_cases h4 : c = ⟨#[119, 104, 105, 108, 101]⟩
    ·subst h4
     rw [show RId.expand .r_statement ⟨#[119, 104, 105, 108, 101]⟩ = some [.opn 16 [.word ⟨#[119, 104, 105, 108, 101]⟩, .rule .r_expr, .word ⟨#[100, 111]⟩, .rule .r_body, .word ⟨#[101, 110, 100]⟩]] from rfl]
     have HO0 := Lib.hid (fun (W : World) (vt1 : Value) (h : PAt W p s es d b wc cl vt1 ve) => open_new h 16 16 [.word ⟨#[119, 104, 105, 108, 101]⟩, .rule .r_expr, .word ⟨#[100, 111]⟩, .rule .r_body, .word ⟨#[101, 110, 100]⟩] 5 [.string ⟨#[119, 104, 105, 108, 101]⟩, .int .u8 0, .nilFunc, .string ⟨#[]⟩, .int .u8 0, .func (.func 82) #[] #[], .string ⟨#[100, 111]⟩, .int .u8 0, .nilFunc, .string ⟨#[]⟩, .int .u8 0, .func (.func 44) #[] #[], .string ⟨#[101, 110, 100]⟩, .int .u8 0, .nilFunc] rfl rfl rfl (by decide) (by (try simp only [List.length_append, List.length_cons, List.length_nil]); omega) (by omega) (by omega))
     clear hs hes hd1 hd2
     go_enter Tryz.func60, Tryz.ntmps60
     go_wp2_with (first
      | (go_at_call 25; (with_reducible refine Calls.mono (word_any _ _) ?_); rintro e w9 ⟨rfl, hb⟩; replace HP := Lib.hid (HP.out.below hb); replace HS := Lib.hid (HS.out.trans (PStep.below hb)); clear hb)
      | (go_at_call 26; (with_reducible refine Calls.mono (rule_any _ _) ?_); rintro e w9 ⟨rfl, hb⟩; replace HP := Lib.hid (HP.out.below hb); replace HS := Lib.hid (HS.out.trans (PStep.below hb)); clear hb)
      | (go_at_call 42; (with_reducible refine Calls.mono (HO0.out _ _ HP.out) ?_); rintro e w9 ⟨rfl, vt9, ve9, hP9, hs9⟩; replace HP := Lib.hid hP9; replace HS := Lib.hid (HS.out.trans hs9); clear hP9 hs9))
     go_ret
     exact ⟨rfl, _, _, by simpa [effs, Eff.act] using HP.out, HS.out⟩
    ·skip
     by_cases h5 : c = ⟨#[102, 111, 114]⟩
     ·subst h5
      rw [show RId.expand .r_statement ⟨#[102, 111, 114]⟩ = some [.opn 17 [.word ⟨#[102, 111, 114]⟩, .word ⟨#[64, 110, 97, 109, 101]⟩, .word ⟨#[58, 61]⟩, .rule .r_expr, .word ⟨#[116, 111]⟩, .rule .r_expr, .word ⟨#[100, 111]⟩, .rule .r_body, .word ⟨#[101, 110, 100]⟩]] from rfl]
      have HO0 := Lib.hid (fun (W : World) (vt1 : Value) (h : PAt W p s es d b wc cl vt1 ve) => open_new h 17 17 [.word ⟨#[102, 111, 114]⟩, .word ⟨#[64, 110, 97, 109, 101]⟩, .word ⟨#[58, 61]⟩, .rule .r_expr, .word ⟨#[116, 111]⟩, .rule .r_expr, .word ⟨#[100, 111]⟩, .rule .r_body, .word ⟨#[101, 110, 100]⟩] 9 [.string ⟨#[102, 111, 114]⟩, .int .u8 0, .nilFunc, .string ⟨#[64, 110, 97, 109, 101]⟩, .int .u8 0, .nilFunc, .string ⟨#[58, 61]⟩, .int .u8 0, .nilFunc, .string ⟨#[]⟩, .int .u8 0, .func (.func 82) #[] #[], .string ⟨#[116, 111]⟩, .int .u8 0, .nilFunc, .string ⟨#[]⟩, .int .u8 0, .func (.func 82) #[] #[], .string ⟨#[100, 111]⟩, .int .u8 0, .nilFunc, .string ⟨#[]⟩, .int .u8 0, .func (.func 44) #[] #[], .string ⟨#[101, 110, 100]⟩, .int .u8 0, .nilFunc] rfl rfl rfl (by decide) (by (try simp only [List.length_append, List.length_cons, List.length_nil]); omega) (by omega) (by omega))
      clear hs hes hd1 hd2
      go_enter Tryz.func60, Tryz.ntmps60
      go_wp2_with (first
       | (go_at_call 25; (with_reducible refine Calls.mono (word_any _ _) ?_); rintro e w9 ⟨rfl, hb⟩; replace HP := Lib.hid (HP.out.below hb); replace HS := Lib.hid (HS.out.trans (PStep.below hb)); clear hb)
       | (go_at_call 26; (with_reducible refine Calls.mono (rule_any _ _) ?_); rintro e w9 ⟨rfl, hb⟩; replace HP := Lib.hid (HP.out.below hb); replace HS := Lib.hid (HS.out.trans (PStep.below hb)); clear hb)
       | (go_at_call 42; (with_reducible refine Calls.mono (HO0.out _ _ HP.out) ?_); rintro e w9 ⟨rfl, vt9, ve9, hP9, hs9⟩; replace HP := Lib.hid hP9; replace HS := Lib.hid (HS.out.trans hs9); clear hP9 hs9))
      go_ret
      exact ⟨rfl, _, _, by simpa [effs, Eff.act] using HP.out, HS.out⟩
     ·skip
      by_cases h6 : c = ⟨#[114, 101, 112, 101, 97, 116]⟩
      ·subst h6
       rw [show RId.expand .r_statement ⟨#[114, 101, 112, 101, 97, 116]⟩ = some [.opn 18 [.word ⟨#[114, 101, 112, 101, 97, 116]⟩, .rule .r_body, .word ⟨#[117, 110, 116, 105, 108]⟩, .rule .r_expr]] from rfl]
       have HO0 := Lib.hid (fun (W : World) (vt1 : Value) (h : PAt W p s es d b wc cl vt1 ve) => open_new h 18 18 [.word ⟨#[114, 101, 112, 101, 97, 116]⟩, .rule .r_body, .word ⟨#[117, 110, 116, 105, 108]⟩, .rule .r_expr] 4 [.string ⟨#[114, 101, 112, 101, 97, 116]⟩, .int .u8 0, .nilFunc, .string ⟨#[]⟩, .int .u8 0, .func (.func 44) #[] #[], .string ⟨#[117, 110, 116, 105, 108]⟩, .int .u8 0, .nilFunc, .string ⟨#[]⟩, .int .u8 0, .func (.func 82) #[] #[]] rfl rfl rfl (by decide) (by (try simp only [List.length_append, List.length_cons, List.length_nil]); omega) (by omega) (by omega))
       clear hs hes hd1 hd2
       go_enter Tryz.func60, Tryz.ntmps60
       go_wp2_with (first
        | (go_at_call 25; (with_reducible refine Calls.mono (word_any _ _) ?_); rintro e w9 ⟨rfl, hb⟩; replace HP := Lib.hid (HP.out.below hb); replace HS := Lib.hid (HS.out.trans (PStep.below hb)); clear hb)
        | (go_at_call 26; (with_reducible refine Calls.mono (rule_any _ _) ?_); rintro e w9 ⟨rfl, hb⟩; replace HP := Lib.hid (HP.out.below hb); replace HS := Lib.hid (HS.out.trans (PStep.below hb)); clear hb)
        | (go_at_call 42; (with_reducible refine Calls.mono (HO0.out _ _ HP.out) ?_); rintro e w9 ⟨rfl, vt9, ve9, hP9, hs9⟩; replace HP := Lib.hid hP9; replace HS := Lib.hid (HS.out.trans hs9); clear hP9 hs9))
       go_ret
       exact ⟨rfl, _, _, by simpa [effs, Eff.act] using HP.out, HS.out⟩
      ·skip
       by_cases h7 : c = ⟨#[114, 101, 116, 117, 114, 110]⟩
       ·subst h7
        rw [show RId.expand .r_statement ⟨#[114, 101, 116, 117, 114, 110]⟩ = some [.opn 19 [.word ⟨#[114, 101, 116, 117, 114, 110]⟩, .rule .r_maybe]] from rfl]
        have HO0 := Lib.hid (fun (W : World) (vt1 : Value) (h : PAt W p s es d b wc cl vt1 ve) => open_new h 19 19 [.word ⟨#[114, 101, 116, 117, 114, 110]⟩, .rule .r_maybe] 2 [.string ⟨#[114, 101, 116, 117, 114, 110]⟩, .int .u8 0, .nilFunc, .string ⟨#[]⟩, .int .u8 0, .func (.func 88) #[] #[]] rfl rfl rfl (by decide) (by (try simp only [List.length_append, List.length_cons, List.length_nil]); omega) (by omega) (by omega))
        clear hs hes hd1 hd2
        go_enter Tryz.func60, Tryz.ntmps60
        go_wp2_with (first
         | (go_at_call 25; (with_reducible refine Calls.mono (word_any _ _) ?_); rintro e w9 ⟨rfl, hb⟩; replace HP := Lib.hid (HP.out.below hb); replace HS := Lib.hid (HS.out.trans (PStep.below hb)); clear hb)
         | (go_at_call 26; (with_reducible refine Calls.mono (rule_any _ _) ?_); rintro e w9 ⟨rfl, hb⟩; replace HP := Lib.hid (HP.out.below hb); replace HS := Lib.hid (HS.out.trans (PStep.below hb)); clear hb)
         | (go_at_call 42; (with_reducible refine Calls.mono (HO0.out _ _ HP.out) ?_); rintro e w9 ⟨rfl, vt9, ve9, hP9, hs9⟩; replace HP := Lib.hid hP9; replace HS := Lib.hid (HS.out.trans hs9); clear hP9 hs9))
        go_ret
        exact ⟨rfl, _, _, by simpa [effs, Eff.act] using HP.out, HS.out⟩
       ·skip
        by_cases h8 : c = ⟨#[98, 101, 103, 105, 110]⟩
        ·subst h8
         rw [show RId.expand .r_statement ⟨#[98, 101, 103, 105, 110]⟩ = some [.opn 20 [.word ⟨#[98, 101, 103, 105, 110]⟩, .rule .r_body, .word ⟨#[101, 110, 100]⟩]] from rfl]
         have HO0 := Lib.hid (fun (W : World) (vt1 : Value) (h : PAt W p s es d b wc cl vt1 ve) => open_new h 20 20 [.word ⟨#[98, 101, 103, 105, 110]⟩, .rule .r_body, .word ⟨#[101, 110, 100]⟩] 3 [.string ⟨#[98, 101, 103, 105, 110]⟩, .int .u8 0, .nilFunc, .string ⟨#[]⟩, .int .u8 0, .func (.func 44) #[] #[], .string ⟨#[101, 110, 100]⟩, .int .u8 0, .nilFunc] rfl rfl rfl (by decide) (by (try simp only [List.length_append, List.length_cons, List.length_nil]); omega) (by omega) (by omega))
         clear hs hes hd1 hd2
         go_enter Tryz.func60, Tryz.ntmps60
         go_wp2_with (first
          | (go_at_call 25; (with_reducible refine Calls.mono (word_any _ _) ?_); rintro e w9 ⟨rfl, hb⟩; replace HP := Lib.hid (HP.out.below hb); replace HS := Lib.hid (HS.out.trans (PStep.below hb)); clear hb)
          | (go_at_call 26; (with_reducible refine Calls.mono (rule_any _ _) ?_); rintro e w9 ⟨rfl, hb⟩; replace HP := Lib.hid (HP.out.below hb); replace HS := Lib.hid (HS.out.trans (PStep.below hb)); clear hb)
          | (go_at_call 42; (with_reducible refine Calls.mono (HO0.out _ _ HP.out) ?_); rintro e w9 ⟨rfl, vt9, ve9, hP9, hs9⟩; replace HP := Lib.hid hP9; replace HS := Lib.hid (HS.out.trans hs9); clear hP9 hs9))
         go_ret
         exact ⟨rfl, _, _, by simpa [effs, Eff.act] using HP.out, HS.out⟩
        ·skip
         rw [show RId.expand .r_statement c = none by simp only [RId.expand]; rw [if_neg h1]; rw [if_neg h2]; rw [if_neg h3]; rw [if_neg h4]; rw [if_neg h5]; rw [if_neg h6]; rw [if_neg h7]; rw [if_neg h8]]
         have e0 := ne_lit h1
         have e1 := ne_lit h2
         have e2 := ne_lit h3
         have e3 := ne_lit h4
         have e4 := ne_lit h5
         have e5 := ne_lit h6
         have e6 := ne_lit h7
         have e7 := ne_lit h8
         clear hs hes hd1 hd2
         go_enter Tryz.func60, Tryz.ntmps60
         go_wp2_with (first
          | (go_at_call 25; (with_reducible refine Calls.mono (word_any _ _) ?_); rintro e w9 ⟨rfl, hb⟩; replace HP := Lib.hid (HP.out.below hb); replace HS := Lib.hid (HS.out.trans (PStep.below hb)); clear hb)
          | (go_at_call 26; (with_reducible refine Calls.mono (rule_any _ _) ?_); rintro e w9 ⟨rfl, hb⟩; replace HP := Lib.hid (HP.out.below hb); replace HS := Lib.hid (HS.out.trans (PStep.below hb)); clear hb))
         go_ret
         exact ⟨rfl, HP.out, HS.out⟩
end Go.Proofs.YtmjbpgnjgblnmaaGreat
namespace Go.Proofs.YtmjbpgnjgblnmaaGreat
open Go.RowKit Go.Proofs.YtmjbpgnjgblnmaaGreatW.PrintWords Go.Proofs.YtmjbpgnjgblnmaaGreatW.PrintLast Go.Proofs.YtmjbpgnjgblnmaaGreatW.PrintMore
set_option maxRecDepth 100000 in
set_option maxHeartbeats 4000000 in
theorem rule_expr : RuleAny .r_expr := by
 intro c p s es d b wc cl vt ve w HP0 HB0
 have HP := Lib.hid HP0
 have HS := Lib.hid (PStep.refl p vt ve w)
 obtain ⟨hs, hes, hd1, hd2⟩ := HB0
 clear HP0
 show Calls Tryz.prog 82 _ w (RulePost .r_expr c p s es d b wc cl vt ve w)
 unfold RulePost
 rw [show RId.expand .r_expr c = some [.opn 21 [.rule .r_rel, .rule .r_rels]] from rfl]
 have HO0 := Lib.hid (fun (W : World) (vt1 : Value) (h : PAt W p s es d b wc cl vt1 ve) => open_new h 21 21 [.rule .r_rel, .rule .r_rels] 2 [.string ⟨#[]⟩, .int .u8 0, .func (.func 109) #[] #[], .string ⟨#[]⟩, .int .u8 0, .func (.func 110) #[] #[]] rfl rfl rfl (by decide) (by (try simp only [List.length_append, List.length_cons, List.length_nil]); omega) (by omega) (by omega))
 clear hs hes hd1 hd2
 go_enter Tryz.func82, Tryz.ntmps82
 go_wp2_with (first
  | (go_at_call 25; (with_reducible refine Calls.mono (word_any _ _) ?_); rintro e w9 ⟨rfl, hb⟩; replace HP := Lib.hid (HP.out.below hb); replace HS := Lib.hid (HS.out.trans (PStep.below hb)); clear hb)
  | (go_at_call 26; (with_reducible refine Calls.mono (rule_any _ _) ?_); rintro e w9 ⟨rfl, hb⟩; replace HP := Lib.hid (HP.out.below hb); replace HS := Lib.hid (HS.out.trans (PStep.below hb)); clear hb)
  | (go_at_call 42; (with_reducible refine Calls.mono (HO0.out _ _ HP.out) ?_); rintro e w9 ⟨rfl, vt9, ve9, hP9, hs9⟩; replace HP := Lib.hid hP9; replace HS := Lib.hid (HS.out.trans hs9); clear hP9 hs9))
 go_ret
 exact ⟨rfl, _, _, by simpa [effs, Eff.act] using HP.out, HS.out⟩
set_option maxRecDepth 100000 in
set_option maxHeartbeats 4000000 in
theorem rule_rels : RuleAny .r_rels := by
 intro c p s es d b wc cl vt ve w HP0 HB0
 have HP := Lib.hid HP0
 have HS := Lib.hid (PStep.refl p vt ve w)
 obtain ⟨hs, hes, hd1, hd2⟩ := HB0
 clear HP0
 show Calls Tryz.prog 110 _ w (RulePost .r_rels c p s es d b wc cl vt ve w)
 unfold RulePost
 by_cases h1 : c = ⟨#[97, 110, 100]⟩ ∨ c = ⟨#[111, 114]⟩
 ·rw [show RId.expand .r_rels c = some [.push [.word c, .rule .r_rel, .rule .r_rels]] by simp only [RId.expand]; rw [if_pos h1]]
  have hin : inL c [⟨#[97, 110, 100]⟩, ⟨#[111, 114]⟩] = true := (inL_iff _ _).2 (by simpa using h1)
  have HAM := Lib.hid (fun (W : World) => among_new W c [⟨#[97, 110, 100]⟩, ⟨#[111, 114]⟩] 2 [.string ⟨#[97, 110, 100]⟩, .string ⟨#[111, 114]⟩] rfl rfl (by decide))
  rw [hin] at HAM
  clear hin
  have HO0 := Lib.hid (fun (W : World) (vt1 : Value) (h : PAt W p s es d b wc cl vt1 ve) => push_new h [.word c, .rule .r_rel, .rule .r_rels] 3 [.string c, .int .u8 0, .nilFunc, .string ⟨#[]⟩, .int .u8 0, .func (.func 109) #[] #[], .string ⟨#[]⟩, .int .u8 0, .func (.func 110) #[] #[]] rfl rfl (by decide) (by (try simp only [List.length_append, List.length_cons, List.length_nil]); omega))
  clear hs hes hd1 hd2
  go_enter Tryz.func110, Tryz.ntmps110
  go_wp2_with (first
   | (go_at_call 58; (with_reducible refine Calls.mono (HAM.out _) ?_); rintro e w9 ⟨rfl, hb⟩; replace HP := Lib.hid (HP.out.below hb); replace HS := Lib.hid (HS.out.trans (PStep.below hb)); clear hb)
   | (go_at_call 25; (with_reducible refine Calls.mono (word_any _ _) ?_); rintro e w9 ⟨rfl, hb⟩; replace HP := Lib.hid (HP.out.below hb); replace HS := Lib.hid (HS.out.trans (PStep.below hb)); clear hb)
   | (go_at_call 26; (with_reducible refine Calls.mono (rule_any _ _) ?_); rintro e w9 ⟨rfl, hb⟩; replace HP := Lib.hid (HP.out.below hb); replace HS := Lib.hid (HS.out.trans (PStep.below hb)); clear hb)
   | (go_at_call 24; (with_reducible refine Calls.mono (HO0.out _ _ HP.out) ?_); rintro e w9 ⟨rfl, vt9, hP9, hs9⟩; replace HP := Lib.hid hP9; replace HS := Lib.hid (HS.out.trans hs9); clear hP9 hs9))
  go_ret
  exact ⟨rfl, _, _, by simpa [effs, Eff.act] using HP.out, HS.out⟩
 ·skip
  rw [show RId.expand .r_rels c = some [] by simp only [RId.expand]; rw [if_neg h1]]
  have hin : inL c [⟨#[97, 110, 100]⟩, ⟨#[111, 114]⟩] = false := inL_no (fun h => h1 (by simpa using h))
  have HAM := Lib.hid (fun (W : World) => among_new W c [⟨#[97, 110, 100]⟩, ⟨#[111, 114]⟩] 2 [.string ⟨#[97, 110, 100]⟩, .string ⟨#[111, 114]⟩] rfl rfl (by decide))
  rw [hin] at HAM
  clear hin
  clear hs hes hd1 hd2
  go_enter Tryz.func110, Tryz.ntmps110
  go_wp2_with (first
   | (go_at_call 58; (with_reducible refine Calls.mono (HAM.out _) ?_); rintro e w9 ⟨rfl, hb⟩; replace HP := Lib.hid (HP.out.below hb); replace HS := Lib.hid (HS.out.trans (PStep.below hb)); clear hb)
   | (go_at_call 25; (with_reducible refine Calls.mono (word_any _ _) ?_); rintro e w9 ⟨rfl, hb⟩; replace HP := Lib.hid (HP.out.below hb); replace HS := Lib.hid (HS.out.trans (PStep.below hb)); clear hb)
   | (go_at_call 26; (with_reducible refine Calls.mono (rule_any _ _) ?_); rintro e w9 ⟨rfl, hb⟩; replace HP := Lib.hid (HP.out.below hb); replace HS := Lib.hid (HS.out.trans (PStep.below hb)); clear hb))
  go_ret
  exact ⟨rfl, _, _, by simpa [effs, Eff.act] using HP.out, HS.out⟩
set_option maxRecDepth 100000 in
set_option maxHeartbeats 4000000 in
theorem rule_rel : RuleAny .r_rel := by
 intro c p s es d b wc cl vt ve w HP0 HB0
 have HP := Lib.hid HP0
 have HS := Lib.hid (PStep.refl p vt ve w)
 obtain ⟨hs, hes, hd1, hd2⟩ := HB0
 clear HP0
 show Calls Tryz.prog 109 _ w (RulePost .r_rel c p s es d b wc cl vt ve w)
 unfold RulePost
 rw [show RId.expand .r_rel c = some [.opn 22 [.rule .r_sum, .rule .r_compared]] from rfl]
 have HO0 := Lib.hid (fun (W : World) (vt1 : Value) (h : PAt W p s es d b wc cl vt1 ve) => open_new h 22 22 [.rule .r_sum, .rule .r_compared] 2 [.string ⟨#[]⟩, .int .u8 0, .func (.func 130) #[] #[], .string ⟨#[]⟩, .int .u8 0, .func (.func 131) #[] #[]] rfl rfl rfl (by decide) (by (try simp only [List.length_append, List.length_cons, List.length_nil]); omega) (by omega) (by omega))
 clear hs hes hd1 hd2
 go_enter Tryz.func109, Tryz.ntmps109
 go_wp2_with (first
  | (go_at_call 25; (with_reducible refine Calls.mono (word_any _ _) ?_); rintro e w9 ⟨rfl, hb⟩; replace HP := Lib.hid (HP.out.below hb); replace HS := Lib.hid (HS.out.trans (PStep.below hb)); clear hb)
  | (go_at_call 26; (with_reducible refine Calls.mono (rule_any _ _) ?_); rintro e w9 ⟨rfl, hb⟩; replace HP := Lib.hid (HP.out.below hb); replace HS := Lib.hid (HS.out.trans (PStep.below hb)); clear hb)
  | (go_at_call 42; (with_reducible refine Calls.mono (HO0.out _ _ HP.out) ?_); rintro e w9 ⟨rfl, vt9, ve9, hP9, hs9⟩; replace HP := Lib.hid hP9; replace HS := Lib.hid (HS.out.trans hs9); clear hP9 hs9))
 go_ret
 exact ⟨rfl, _, _, by simpa [effs, Eff.act] using HP.out, HS.out⟩
set_option maxRecDepth 100000 in
set_option maxHeartbeats 4000000 in
theorem rule_compared : RuleAny .r_compared := by
 intro c p s es d b wc cl vt ve w HP0 HB0
 have HP := Lib.hid HP0
 have HS := Lib.hid (PStep.refl p vt ve w)
 obtain ⟨hs, hes, hd1, hd2⟩ := HB0
 clear HP0
 show Calls Tryz.prog 131 _ w (RulePost .r_compared c p s es d b wc cl vt ve w)
 unfold RulePost
 by_cases h1 : c = ⟨#[61]⟩ ∨ c = ⟨#[35]⟩ ∨ c = ⟨#[60]⟩ ∨ c = ⟨#[60, 61]⟩ ∨ c = ⟨#[62]⟩ ∨ c = ⟨#[62, 61]⟩
 ·rw [show RId.expand .r_compared c = some [.push [.word c, .rule .r_sum]] by simp only [RId.expand]; rw [if_pos h1]]
  have hin : inL c [⟨#[61]⟩, ⟨#[35]⟩, ⟨#[60]⟩, ⟨#[60, 61]⟩, ⟨#[62]⟩, ⟨#[62, 61]⟩] = true := (inL_iff _ _).2 (by simpa using h1)
  have HAM := Lib.hid (fun (W : World) => among_new W c [⟨#[61]⟩, ⟨#[35]⟩, ⟨#[60]⟩, ⟨#[60, 61]⟩, ⟨#[62]⟩, ⟨#[62, 61]⟩] 6 [.string ⟨#[61]⟩, .string ⟨#[35]⟩, .string ⟨#[60]⟩, .string ⟨#[60, 61]⟩, .string ⟨#[62]⟩, .string ⟨#[62, 61]⟩] rfl rfl (by decide))
  rw [hin] at HAM
  clear hin
  have HO0 := Lib.hid (fun (W : World) (vt1 : Value) (h : PAt W p s es d b wc cl vt1 ve) => push_new h [.word c, .rule .r_sum] 2 [.string c, .int .u8 0, .nilFunc, .string ⟨#[]⟩, .int .u8 0, .func (.func 130) #[] #[]] rfl rfl (by decide) (by (try simp only [List.length_append, List.length_cons, List.length_nil]); omega))
  clear hs hes hd1 hd2
  go_enter Tryz.func131, Tryz.ntmps131
  go_wp2_with (first
   | (go_at_call 58; (with_reducible refine Calls.mono (HAM.out _) ?_); rintro e w9 ⟨rfl, hb⟩; replace HP := Lib.hid (HP.out.below hb); replace HS := Lib.hid (HS.out.trans (PStep.below hb)); clear hb)
   | (go_at_call 25; (with_reducible refine Calls.mono (word_any _ _) ?_); rintro e w9 ⟨rfl, hb⟩; replace HP := Lib.hid (HP.out.below hb); replace HS := Lib.hid (HS.out.trans (PStep.below hb)); clear hb)
   | (go_at_call 26; (with_reducible refine Calls.mono (rule_any _ _) ?_); rintro e w9 ⟨rfl, hb⟩; replace HP := Lib.hid (HP.out.below hb); replace HS := Lib.hid (HS.out.trans (PStep.below hb)); clear hb)
   | (go_at_call 24; (with_reducible refine Calls.mono (HO0.out _ _ HP.out) ?_); rintro e w9 ⟨rfl, vt9, hP9, hs9⟩; replace HP := Lib.hid hP9; replace HS := Lib.hid (HS.out.trans hs9); clear hP9 hs9))
  go_ret
  exact ⟨rfl, _, _, by simpa [effs, Eff.act] using HP.out, HS.out⟩
 ·skip
  rw [show RId.expand .r_compared c = some [] by simp only [RId.expand]; rw [if_neg h1]]
  have hin : inL c [⟨#[61]⟩, ⟨#[35]⟩, ⟨#[60]⟩, ⟨#[60, 61]⟩, ⟨#[62]⟩, ⟨#[62, 61]⟩] = false := inL_no (fun h => h1 (by simpa using h))
  have HAM := Lib.hid (fun (W : World) => among_new W c [⟨#[61]⟩, ⟨#[35]⟩, ⟨#[60]⟩, ⟨#[60, 61]⟩, ⟨#[62]⟩, ⟨#[62, 61]⟩] 6 [.string ⟨#[61]⟩, .string ⟨#[35]⟩, .string ⟨#[60]⟩, .string ⟨#[60, 61]⟩, .string ⟨#[62]⟩, .string ⟨#[62, 61]⟩] rfl rfl (by decide))
  rw [hin] at HAM
  clear hin
  clear hs hes hd1 hd2
  go_enter Tryz.func131, Tryz.ntmps131
  go_wp2_with (first
   | (go_at_call 58; (with_reducible refine Calls.mono (HAM.out _) ?_); rintro e w9 ⟨rfl, hb⟩; replace HP := Lib.hid (HP.out.below hb); replace HS := Lib.hid (HS.out.trans (PStep.below hb)); clear hb)
   | (go_at_call 25; (with_reducible refine Calls.mono (word_any _ _) ?_); rintro e w9 ⟨rfl, hb⟩; replace HP := Lib.hid (HP.out.below hb); replace HS := Lib.hid (HS.out.trans (PStep.below hb)); clear hb)
   | (go_at_call 26; (with_reducible refine Calls.mono (rule_any _ _) ?_); rintro e w9 ⟨rfl, hb⟩; replace HP := Lib.hid (HP.out.below hb); replace HS := Lib.hid (HS.out.trans (PStep.below hb)); clear hb))
  go_ret
  exact ⟨rfl, _, _, by simpa [effs, Eff.act] using HP.out, HS.out⟩
set_option maxRecDepth 100000 in
set_option maxHeartbeats 4000000 in
theorem rule_sum : RuleAny .r_sum := by
 intro c p s es d b wc cl vt ve w HP0 HB0
 have HP := Lib.hid HP0
 have HS := Lib.hid (PStep.refl p vt ve w)
 obtain ⟨hs, hes, hd1, hd2⟩ := HB0
 clear HP0
 show Calls Tryz.prog 130 _ w (RulePost .r_sum c p s es d b wc cl vt ve w)
 unfold RulePost
 rw [show RId.expand .r_sum c = some [.opn 23 [.rule .r_term, .rule .r_terms]] from rfl]
 have HO0 := Lib.hid (fun (W : World) (vt1 : Value) (h : PAt W p s es d b wc cl vt1 ve) => open_new h 23 23 [.rule .r_term, .rule .r_terms] 2 [.string ⟨#[]⟩, .int .u8 0, .func (.func 142) #[] #[], .string ⟨#[]⟩, .int .u8 0, .func (.func 143) #[] #[]] rfl rfl rfl (by decide) (by (try simp only [List.length_append, List.length_cons, List.length_nil]); omega) (by omega) (by omega))
 clear hs hes hd1 hd2
 go_enter Tryz.func130, Tryz.ntmps130
 go_wp2_with (first
  | (go_at_call 25; (with_reducible refine Calls.mono (word_any _ _) ?_); rintro e w9 ⟨rfl, hb⟩; replace HP := Lib.hid (HP.out.below hb); replace HS := Lib.hid (HS.out.trans (PStep.below hb)); clear hb)
  | (go_at_call 26; (with_reducible refine Calls.mono (rule_any _ _) ?_); rintro e w9 ⟨rfl, hb⟩; replace HP := Lib.hid (HP.out.below hb); replace HS := Lib.hid (HS.out.trans (PStep.below hb)); clear hb)
  | (go_at_call 42; (with_reducible refine Calls.mono (HO0.out _ _ HP.out) ?_); rintro e w9 ⟨rfl, vt9, ve9, hP9, hs9⟩; replace HP := Lib.hid hP9; replace HS := Lib.hid (HS.out.trans hs9); clear hP9 hs9))
 go_ret
 exact ⟨rfl, _, _, by simpa [effs, Eff.act] using HP.out, HS.out⟩
set_option maxRecDepth 100000 in
set_option maxHeartbeats 4000000 in
theorem rule_terms : RuleAny .r_terms := by
 intro c p s es d b wc cl vt ve w HP0 HB0
 have HP := Lib.hid HP0
 have HS := Lib.hid (PStep.refl p vt ve w)
 obtain ⟨hs, hes, hd1, hd2⟩ := HB0
 clear HP0
 show Calls Tryz.prog 143 _ w (RulePost .r_terms c p s es d b wc cl vt ve w)
 unfold RulePost
 by_cases h1 : c = ⟨#[43]⟩ ∨ c = ⟨#[45]⟩
 ·rw [show RId.expand .r_terms c = some [.push [.word c, .rule .r_term, .rule .r_terms]] by simp only [RId.expand]; rw [if_pos h1]]
  have hin : inL c [⟨#[43]⟩, ⟨#[45]⟩] = true := (inL_iff _ _).2 (by simpa using h1)
  have HAM := Lib.hid (fun (W : World) => among_new W c [⟨#[43]⟩, ⟨#[45]⟩] 2 [.string ⟨#[43]⟩, .string ⟨#[45]⟩] rfl rfl (by decide))
  rw [hin] at HAM
  clear hin
  have HO0 := Lib.hid (fun (W : World) (vt1 : Value) (h : PAt W p s es d b wc cl vt1 ve) => push_new h [.word c, .rule .r_term, .rule .r_terms] 3 [.string c, .int .u8 0, .nilFunc, .string ⟨#[]⟩, .int .u8 0, .func (.func 142) #[] #[], .string ⟨#[]⟩, .int .u8 0, .func (.func 143) #[] #[]] rfl rfl (by decide) (by (try simp only [List.length_append, List.length_cons, List.length_nil]); omega))
  clear hs hes hd1 hd2
  go_enter Tryz.func143, Tryz.ntmps143
  go_wp2_with (first
   | (go_at_call 58; (with_reducible refine Calls.mono (HAM.out _) ?_); rintro e w9 ⟨rfl, hb⟩; replace HP := Lib.hid (HP.out.below hb); replace HS := Lib.hid (HS.out.trans (PStep.below hb)); clear hb)
   | (go_at_call 25; (with_reducible refine Calls.mono (word_any _ _) ?_); rintro e w9 ⟨rfl, hb⟩; replace HP := Lib.hid (HP.out.below hb); replace HS := Lib.hid (HS.out.trans (PStep.below hb)); clear hb)
   | (go_at_call 26; (with_reducible refine Calls.mono (rule_any _ _) ?_); rintro e w9 ⟨rfl, hb⟩; replace HP := Lib.hid (HP.out.below hb); replace HS := Lib.hid (HS.out.trans (PStep.below hb)); clear hb)
   | (go_at_call 24; (with_reducible refine Calls.mono (HO0.out _ _ HP.out) ?_); rintro e w9 ⟨rfl, vt9, hP9, hs9⟩; replace HP := Lib.hid hP9; replace HS := Lib.hid (HS.out.trans hs9); clear hP9 hs9))
  go_ret
  exact ⟨rfl, _, _, by simpa [effs, Eff.act] using HP.out, HS.out⟩
 ·skip
  rw [show RId.expand .r_terms c = some [] by simp only [RId.expand]; rw [if_neg h1]]
  have hin : inL c [⟨#[43]⟩, ⟨#[45]⟩] = false := inL_no (fun h => h1 (by simpa using h))
  have HAM := Lib.hid (fun (W : World) => among_new W c [⟨#[43]⟩, ⟨#[45]⟩] 2 [.string ⟨#[43]⟩, .string ⟨#[45]⟩] rfl rfl (by decide))
  rw [hin] at HAM
  clear hin
  clear hs hes hd1 hd2
  go_enter Tryz.func143, Tryz.ntmps143
  go_wp2_with (first
   | (go_at_call 58; (with_reducible refine Calls.mono (HAM.out _) ?_); rintro e w9 ⟨rfl, hb⟩; replace HP := Lib.hid (HP.out.below hb); replace HS := Lib.hid (HS.out.trans (PStep.below hb)); clear hb)
   | (go_at_call 25; (with_reducible refine Calls.mono (word_any _ _) ?_); rintro e w9 ⟨rfl, hb⟩; replace HP := Lib.hid (HP.out.below hb); replace HS := Lib.hid (HS.out.trans (PStep.below hb)); clear hb)
   | (go_at_call 26; (with_reducible refine Calls.mono (rule_any _ _) ?_); rintro e w9 ⟨rfl, hb⟩; replace HP := Lib.hid (HP.out.below hb); replace HS := Lib.hid (HS.out.trans (PStep.below hb)); clear hb))
  go_ret
  exact ⟨rfl, _, _, by simpa [effs, Eff.act] using HP.out, HS.out⟩
set_option maxRecDepth 100000 in
set_option maxHeartbeats 4000000 in
theorem rule_term : RuleAny .r_term := by
 intro c p s es d b wc cl vt ve w HP0 HB0
 have HP := Lib.hid HP0
 have HS := Lib.hid (PStep.refl p vt ve w)
 obtain ⟨hs, hes, hd1, hd2⟩ := HB0
 clear HP0
 show Calls Tryz.prog 142 _ w (RulePost .r_term c p s es d b wc cl vt ve w)
 unfold RulePost
 rw [show RId.expand .r_term c = some [.opn 24 [.rule .r_factor, .rule .r_factors]] from rfl]
 have HO0 := Lib.hid (fun (W : World) (vt1 : Value) (h : PAt W p s es d b wc cl vt1 ve) => open_new h 24 24 [.rule .r_factor, .rule .r_factors] 2 [.string ⟨#[]⟩, .int .u8 0, .func (.func 147) #[] #[], .string ⟨#[]⟩, .int .u8 0, .func (.func 148) #[] #[]] rfl rfl rfl (by decide) (by (try simp only [List.length_append, List.length_cons, List.length_nil]); omega) (by omega) (by omega))
 clear hs hes hd1 hd2
 go_enter Tryz.func142, Tryz.ntmps142
 go_wp2_with (first
  | (go_at_call 25; (with_reducible refine Calls.mono (word_any _ _) ?_); rintro e w9 ⟨rfl, hb⟩; replace HP := Lib.hid (HP.out.below hb); replace HS := Lib.hid (HS.out.trans (PStep.below hb)); clear hb)
  | (go_at_call 26; (with_reducible refine Calls.mono (rule_any _ _) ?_); rintro e w9 ⟨rfl, hb⟩; replace HP := Lib.hid (HP.out.below hb); replace HS := Lib.hid (HS.out.trans (PStep.below hb)); clear hb)
  | (go_at_call 42; (with_reducible refine Calls.mono (HO0.out _ _ HP.out) ?_); rintro e w9 ⟨rfl, vt9, ve9, hP9, hs9⟩; replace HP := Lib.hid hP9; replace HS := Lib.hid (HS.out.trans hs9); clear hP9 hs9))
 go_ret
 exact ⟨rfl, _, _, by simpa [effs, Eff.act] using HP.out, HS.out⟩
set_option maxRecDepth 100000 in
set_option maxHeartbeats 4000000 in
theorem rule_factors : RuleAny .r_factors := by
 intro c p s es d b wc cl vt ve w HP0 HB0
 have HP := Lib.hid HP0
 have HS := Lib.hid (PStep.refl p vt ve w)
 obtain ⟨hs, hes, hd1, hd2⟩ := HB0
 clear HP0
 show Calls Tryz.prog 148 _ w (RulePost .r_factors c p s es d b wc cl vt ve w)
 unfold RulePost
 by_cases h1 : c = ⟨#[42]⟩ ∨ c = ⟨#[47]⟩ ∨ c = ⟨#[37]⟩
 ·rw [show RId.expand .r_factors c = some [.push [.word c, .rule .r_factor, .rule .r_factors]] by simp only [RId.expand]; rw [if_pos h1]]
  have hin : inL c [⟨#[42]⟩, ⟨#[47]⟩, ⟨#[37]⟩] = true := (inL_iff _ _).2 (by simpa using h1)
  have HAM := Lib.hid (fun (W : World) => among_new W c [⟨#[42]⟩, ⟨#[47]⟩, ⟨#[37]⟩] 3 [.string ⟨#[42]⟩, .string ⟨#[47]⟩, .string ⟨#[37]⟩] rfl rfl (by decide))
  rw [hin] at HAM
  clear hin
  have HO0 := Lib.hid (fun (W : World) (vt1 : Value) (h : PAt W p s es d b wc cl vt1 ve) => push_new h [.word c, .rule .r_factor, .rule .r_factors] 3 [.string c, .int .u8 0, .nilFunc, .string ⟨#[]⟩, .int .u8 0, .func (.func 147) #[] #[], .string ⟨#[]⟩, .int .u8 0, .func (.func 148) #[] #[]] rfl rfl (by decide) (by (try simp only [List.length_append, List.length_cons, List.length_nil]); omega))
  clear hs hes hd1 hd2
  go_enter Tryz.func148, Tryz.ntmps148
  go_wp2_with (first
   | (go_at_call 58; (with_reducible refine Calls.mono (HAM.out _) ?_); rintro e w9 ⟨rfl, hb⟩; replace HP := Lib.hid (HP.out.below hb); replace HS := Lib.hid (HS.out.trans (PStep.below hb)); clear hb)
   | (go_at_call 25; (with_reducible refine Calls.mono (word_any _ _) ?_); rintro e w9 ⟨rfl, hb⟩; replace HP := Lib.hid (HP.out.below hb); replace HS := Lib.hid (HS.out.trans (PStep.below hb)); clear hb)
   | (go_at_call 26; (with_reducible refine Calls.mono (rule_any _ _) ?_); rintro e w9 ⟨rfl, hb⟩; replace HP := Lib.hid (HP.out.below hb); replace HS := Lib.hid (HS.out.trans (PStep.below hb)); clear hb)
   | (go_at_call 24; (with_reducible refine Calls.mono (HO0.out _ _ HP.out) ?_); rintro e w9 ⟨rfl, vt9, hP9, hs9⟩; replace HP := Lib.hid hP9; replace HS := Lib.hid (HS.out.trans hs9); clear hP9 hs9))
  go_ret
  exact ⟨rfl, _, _, by simpa [effs, Eff.act] using HP.out, HS.out⟩
 ·skip
  rw [show RId.expand .r_factors c = some [] by simp only [RId.expand]; rw [if_neg h1]]
  have hin : inL c [⟨#[42]⟩, ⟨#[47]⟩, ⟨#[37]⟩] = false := inL_no (fun h => h1 (by simpa using h))
  have HAM := Lib.hid (fun (W : World) => among_new W c [⟨#[42]⟩, ⟨#[47]⟩, ⟨#[37]⟩] 3 [.string ⟨#[42]⟩, .string ⟨#[47]⟩, .string ⟨#[37]⟩] rfl rfl (by decide))
  rw [hin] at HAM
  clear hin
  clear hs hes hd1 hd2
  go_enter Tryz.func148, Tryz.ntmps148
  go_wp2_with (first
   | (go_at_call 58; (with_reducible refine Calls.mono (HAM.out _) ?_); rintro e w9 ⟨rfl, hb⟩; replace HP := Lib.hid (HP.out.below hb); replace HS := Lib.hid (HS.out.trans (PStep.below hb)); clear hb)
   | (go_at_call 25; (with_reducible refine Calls.mono (word_any _ _) ?_); rintro e w9 ⟨rfl, hb⟩; replace HP := Lib.hid (HP.out.below hb); replace HS := Lib.hid (HS.out.trans (PStep.below hb)); clear hb)
   | (go_at_call 26; (with_reducible refine Calls.mono (rule_any _ _) ?_); rintro e w9 ⟨rfl, hb⟩; replace HP := Lib.hid (HP.out.below hb); replace HS := Lib.hid (HS.out.trans (PStep.below hb)); clear hb))
  go_ret
  exact ⟨rfl, _, _, by simpa [effs, Eff.act] using HP.out, HS.out⟩
end Go.Proofs.YtmjbpgnjgblnmaaGreat
