/- push: the walk. (Printed by genpush.py.) -/
import Derived.Test.YtmjbpgnjgblnmaaPr
set_option linter.unusedVariables false
set_option linter.unusedSimpArgs false
namespace Go.Proofs.Ytmjbpgnjgblnmaa
open Go.RowKit Go.Proofs.YtmjbpgnjgblnmaaW.PrintWords Go.Proofs.YtmjbpgnjgblnmaaW.PrintLast Go.Proofs.YtmjbpgnjgblnmaaW.PrintMore

/-- The loop of push: all but the first k things of l are laid. -/
structure PushI (p gA : Nat) (w wr : World) (l s : List WT) (es : List Ev) (d : Int) (b : Bool) (wc : Int) (cl : Bool) (vt ve : Value) (k : Nat) (vt1 : Value) : Prop where
  at_ : PAt wr p (l.drop k ++ s) es d b wc cl vt1 ve
  step : PStep p vt ve w vt1 ve wr
  arg : wr.heap[gA]? = some (.cells (l.flatMap wCells).toArray 71 (0, 0))
  far : vt1.ownBlock ≠ some gA
  new : w.heap.size ≤ wr.heap.size
theorem cells_ty {a b : Array Value} {T U : TypeId} {f g : Nat × Nat} (h : some (Obj.cells a T f) = some (Obj.cells b U g)) : T = U := by
  injection h with h
  injection h
theorem flat_at : ∀ (l : List WT) (k : Nat) (x : WT) (j : Nat), l[k]? = some x → j < 3 → (l.flatMap wCells)[k * 3 + j]? = (wCells x)[j]?
  | [], k, x, j, h, _ => by cases h
  | a :: l, 0, x, j, h, hj => by
    simp only [List.getElem?_cons_zero, Option.some.injEq] at h
    subst h
    rw [List.flatMap_cons, List.getElem?_append_left (by rw [wCells_len]; omega)]
    simp
  | a :: l, k + 1, x, j, h, hj => by
    rw [List.flatMap_cons, List.getElem?_append_right (by rw [wCells_len]; omega), wCells_len, show (k + 1) * 3 + j - 3 = k * 3 + j by omega]
    exact flat_at l k x j (by simpa using h) hj
theorem push_next {p gA : Nat} {w wr Wd w1 : World} {l s : List WT} {es : List Ev} {d : Int} {b : Bool} {wc : Int} {cl : Bool} {vt ve : Value} {k g1 c1 : Nat} {vt1 : Value} {x : WT} (H : PushI p gA w wr l s es d b wc cl vt ve (k + 1) vt1) (hx : l[k]? = some x) (hWd : wr.drew = Wd) {q : Nat} (hq : (l.drop (k + 1) ++ s).length = q)
    (ho : w1.ownsRow p 71 3 (.slice (some ⟨g1, 0, none⟩) (q + 1) c1) (q + 1) ((l.drop (k + 1) ++ s).reverse.flatMap wCells ++ wCells x)) (hg : Wd.grownBy w1 vt1.ownBlock) (hat : vt1.ownBlock = some g1 ∨ Wd.heap.size < g1) :
    (∃ cur : Array Value, w1.heap[p]? = some (.cells cur 67 (0, 0)) ∧ 0 + 1 ≤ cur.size) ∧ ∀ V, V = w1.setCells p 0 [.slice (some ⟨g1, 0, none⟩) (q + 1) c1] → PushI p gA w V l s es d b wc cl vt ve k (.slice (some ⟨g1, 0, none⟩) (q + 1) c1) := by
  subst hq
  have hgr : wr.grownBy w1 vt1.ownBlock := by rw [← hWd] at hg; exact ⟨hg.os, hg.tape, hg.output, hg.size, hg.block⟩
  have hsz : Wd.heap.size = wr.heap.size := by rw [← hWd]; rfl
  have hpt : vt1.ownBlock ≠ some p := fun e => by
    obtain ⟨cs, hc⟩ := own_typed H.at_.todo p e
    rw [H.at_.box] at hc; cases hc
  have hbp : w1.heap[p]? = _ := (hgr.block p (blk_lt H.at_.box) (fun e => hpt e.symm)).trans H.at_.box
  refine ⟨⟨_, hbp, by simp⟩, ?_⟩
  rintro _ rfl
  obtain ⟨cur', k1, k2, k3⟩ := setCells_row [.slice (some ⟨g1, 0, none⟩) ((l.drop (k + 1) ++ s).length + 1) c1] 0 w1 _ hbp (by simp)
  have hfar : ∀ q, q ≠ p → (w1.setCells p 0 [.slice (some ⟨g1, 0, none⟩) ((l.drop (k + 1) ++ s).length + 1) c1]).heap[q]? = w1.heap[q]? := fun q hq => setCells_far _ 0 q hq
  have hsm := setCells_same p [.slice (some ⟨g1, 0, none⟩) ((l.drop (k + 1) ++ s).length + 1) c1] 0 w1
  have hgp : g1 ≠ p := fun e => by
    obtain ⟨cs, hc⟩ := own_typed ho g1 (by simp [Value.ownBlock])
    rw [e, hbp] at hc; cases hc
  have hgA : g1 ≠ gA := fun e => by
    rcases hat with h | h
    · exact H.far (by rw [h, e])
    · have := blk_lt H.arg; omega
  have hdk : l.drop k = x :: l.drop (k + 1) := by
    have hlt : k < l.length := (List.getElem?_eq_some_iff.1 hx).1
    rw [List.drop_eq_getElem_cons hlt]
    have := (List.getElem?_eq_some_iff.1 hx).2
    rw [this]
  refine ⟨⟨?_, ?_, ?_⟩, H.step.trans ⟨?_, ?_, ?_, ?_, ?_, ?_, ?_⟩, ?_, ?_, ?_⟩
  · rw [k1]
    have : cur' = #[.slice (some ⟨g1, 0, none⟩) ((l.drop (k + 1) ++ s).length + 1) c1, ve, .int .i64 d, .bool b, .int .i64 wc, .bool cl] := by
      apply Array.toList_inj.1
      rw [k3]
      rfl
    rw [this]
  · have h2 := own_move ho (w1 := w1.setCells p 0 [.slice (some ⟨g1, 0, none⟩) ((l.drop (k + 1) ++ s).length + 1) c1]) (fun q hq => hfar q (fun e => hgp ((show g1 = q by simpa [Value.ownBlock] using hq).trans e)))
    rw [hdk]
    simp only [List.cons_append, List.length_cons, List.reverse_cons, List.flatMap_append, List.flatMap_cons, List.flatMap_nil, List.append_nil]
    exact h2
  · refine own_move H.at_.evs (fun q hq => ?_)
    obtain ⟨cs, hc⟩ := own_typed H.at_.evs q hq
    rw [hfar q (fun e => by rw [e, H.at_.box] at hc; cases hc)]
    refine hgr.block q (blk_lt hc) (fun e => ?_)
    obtain ⟨cs2, hc2⟩ := own_typed H.at_.todo q e.symm
    rw [hc] at hc2; cases hc2
  · exact hsm.1.trans hgr.os
  · exact hsm.2.1.trans hgr.tape
  · exact hsm.2.2.1.trans hgr.output
  · rw [hsm.2.2.2]; exact hgr.size
  · intro q hq h0 h1 h2
    rw [hfar q h0]
    exact hgr.block q hq h1
  · intro g hg'
    have : g1 = g := by simpa [Value.ownBlock] using hg'
    subst this
    rcases hat with h | h
    · exact .inl h
    · exact .inr (by omega)
  · exact fun g h => .inl h
  · rw [hfar gA (fun e => by have h := H.arg; rw [e, H.at_.box] at h; exact absurd (cells_ty h) (by decide))]
    exact (hgr.block gA (blk_lt H.arg) (fun e => H.far e.symm)).trans H.arg
  · intro e
    exact hgA (by simpa [Value.ownBlock] using e)
  · rw [hsm.2.2.2]; exact Nat.le_trans H.new hgr.size
theorem push_arg {p gA : Nat} {w wr : World} {l s : List WT} {es : List Ev} {d : Int} {b : Bool} {wc : Int} {cl : Bool} {vt ve : Value} {k : Nat} {vt1 : Value} {x : WT} {c0 c1 c2 : Value} (H : PushI p gA w wr l s es d b wc cl vt ve (k + 1) vt1) (hx : l[k]? = some x) (hc : wCells x = [c0, c1, c2]) :
    wr.cell? ⟨gA, k * 3, none⟩ = some c0 ∧ wr.cell? ⟨gA, k * 3 + 1, none⟩ = some c1 ∧ wr.cell? ⟨gA, k * 3 + 2, none⟩ = some c2 := by
  have h0 := flat_at l k x 0 hx (by decide)
  have h1 := flat_at l k x 1 hx (by decide)
  have h2 := flat_at l k x 2 hx (by decide)
  rw [hc] at h0 h1 h2
  refine ⟨?_, ?_, ?_⟩ <;> (rw [cell_of_row _ _ _ _ _ _ H.arg, List.getElem?_toArray]; assumption)
set_option maxRecDepth 100000 in
set_option maxHeartbeats 4000000 in
theorem push_any (p gA : Nat) (l s : List WT) (es : List Ev) (d : Int) (b : Bool) (wc : Int) (cl : Bool) (vt ve : Value) (w : World) (hP : PAt w p s es d b wc cl vt ve) (hA : w.heap[gA]? = some (.cells (l.flatMap wCells).toArray 71 (0, 0))) (hgA : vt.ownBlock ≠ some gA) (hl : l.length ≤ 16) (hs : s.length ≤ 1099511627776) :
    Calls Try.prog 27 #[.pointer (some ⟨p, 0, none⟩), .slice (some ⟨gA, 0, none⟩) l.length l.length] w fun e w' => e = .returned (.tuple #[]) ∧ ∃ vt', PAt w' p (l ++ s) es d b wc cl vt' ve ∧ PStep p vt ve w vt' ve w' := by
  have HI0 : Hid (PushI p gA w w l s es d b wc cl vt ve l.length vt) := Lib.hid ⟨by rw [List.drop_length]; exact hP, PStep.refl _ _ _ _, hA, hgA, Nat.le_refl _⟩
  have HL := Lib.hid (And.intro hl hs)
  clear hP hA hgA hs
  go_enter Try.func27, Try.ntmps27
  go_wp2
  go_loopw [4] (fun iv wr => ∃ k : Nat, k ≤ l.length ∧ iv = .int .i64 ((k : Int) - 1) ∧ Hid (∃ vt1, PushI p gA w wr l s es d b wc cl vt ve k vt1)) (fun iv _ => (intOf iv + 1).toNat)
  case atStart => exact ⟨l.length, Nat.le_refl _, by go_num, Lib.hid ⟨vt, HI0.out⟩⟩
  case round =>
    obtain ⟨k1, hk1, rfl, H⟩ := hrel
    cases k1 with
    | zero =>
      go_wp2
      go_end0
      obtain ⟨vt1, H1⟩ := H.out
      exact ⟨rfl, vt1, H1.at_, H1.step⟩
    | succ k =>
      obtain ⟨vt1, H⟩ := H.out
      obtain ⟨x, hx⟩ : ∃ x, l[k]? = some x := ⟨_, List.getElem?_eq_getElem (by omega)⟩
      have hkl : k < l.length := hk1
      rw [show ((k + 1 : Nat) : Int) - 1 = k by omega]
      have g1 : (0 : Int) ≤ k := by omega
      obtain ⟨c0, c1, c2, hxc⟩ : ∃ c0 c1 c2, wCells x = [c0, c1, c2] := by cases x <;> exact ⟨_, _, _, rfl⟩
      have HH := Lib.hid H
      have HX := Lib.hid hx
      have HC := Lib.hid hxc
      have hk16 : k < 16 := by omega
      have g2 : (k : Int) < l.length := by omega
      clear H
      go_upto_region 3 with (fail)
      obtain ⟨Wd, hWd⟩ : ∃ V, wr.drew = V := ⟨_, rfl⟩
      have hb7 : Below wr.heap.size wr Wd := by rw [← hWd]; exact (Below.refl _ wr).drew
      have hcc : wr.cell? ⟨gA, k * 3, none⟩ = some c0 ∧ wr.cell? ⟨gA, k * 3 + 1, none⟩ = some c1 ∧ wr.cell? ⟨gA, k * 3 + 2, none⟩ = some c2 := push_arg HH.out hx hxc
      have hSall : ∀ V, Below wr.heap.size wr V → V.cell? ⟨p, 0, none⟩ = some vt1 ∧ V.cell? ⟨gA, k * 3, none⟩ = some c0 ∧ V.cell? ⟨gA, k * 3 + 1, none⟩ = some c1 ∧ V.cell? ⟨gA, k * 3 + 2, none⟩ = some c2 := fun V hV => ⟨pw_cell_below hV HH.out.at_.cell.1, pw_cell_below hV hcc.1, pw_cell_below hV hcc.2.1, pw_cell_below hV hcc.2.2⟩
      have HSA := Lib.hid hSall
      have HS := Lib.hid (hSall Wd hb7)
      have HB := Lib.hid hb7
      have HWd := Lib.hid hWd
      clear hSall hb7 hWd hcc hx hxc
      refine wp_region_R (fun w' => w'.cell? ⟨p, 0, none⟩ = some vt1 ∧ w'.cell? ⟨gA, k * 3, none⟩ = some c0 ∧ w'.cell? ⟨gA, k * 3 + 1, none⟩ = some c1 ∧ w'.cell? ⟨gA, k * 3 + 2, none⟩ = some c2) (fun j => !(Nat.beq j 13)) (by kernel_rfl) ?_
      rw [HWd.out]
      refine anyR_take (i := 0) (oi := { dst := some 12, op := Go.Op.move (Go.Operand.tmp 0), type := 24, pos := "parse.go:71", after := #[], guard := none }) (v := ?_) rfl (by kernel_rfl) (fun _ _ _ h => h) (Or.inl ⟨by rfl, ?_⟩) HS.out ?_
      rotate_left
      · intro w9 hSw; (try dsimp only at hSw); go_simp; try (with_reducible rfl)
      try simp only [Act.put, List.setIfInBounds_toArray, List.set_cons_zero, List.set_cons_succ]
      refine anyR_take (i := 1) (oi := { dst := some 13, op := Go.Op.move (Go.Operand.tmp 0), type := 24, pos := "parse.go:71", after := #[], guard := none }) (v := ?_) rfl (by kernel_rfl) (fun _ _ _ h => h) (Or.inl ⟨by rfl, ?_⟩) HS.out ?_
      rotate_left
      · intro w9 hSw; (try dsimp only at hSw); go_simp; try (with_reducible rfl)
      try simp only [Act.put, List.setIfInBounds_toArray, List.set_cons_zero, List.set_cons_succ]
      refine anyR_take (i := 2) (oi := { dst := some 14, op := Go.Op.nilCheck (Go.Operand.tmp 13), type := 0, pos := "parse.go:71", after := #[{ on := 1, ground := Go.Ground.data }], guard := none }) (v := ?_) rfl (by kernel_rfl) (fun _ _ _ h => h) (Or.inl ⟨by rfl, ?_⟩) HS.out ?_
      rotate_left
      · intro w9 hSw; (try dsimp only at hSw); go_simp; try (with_reducible rfl)
      try simp only [Act.put, List.setIfInBounds_toArray, List.set_cons_zero, List.set_cons_succ]
      refine anyR_take (i := 3) (oi := { dst := some 15, op := Go.Op.fieldAddr 67 (Go.Operand.tmp 14) 0, type := 0, pos := "parse.go:71", after := #[{ on := 2, ground := Go.Ground.data }], guard := none }) (v := ?_) rfl (by kernel_rfl) (fun _ _ _ h => h) (Or.inl ⟨by rfl, ?_⟩) HS.out ?_
      rotate_left
      · intro w9 hSw; (try dsimp only at hSw); go_simp; try (with_reducible rfl)
      try simp only [Act.put, List.setIfInBounds_toArray, List.set_cons_zero, List.set_cons_succ]
      refine anyR_take (i := 4) (oi := { dst := some 16, op := Go.Op.load 65 (Go.Operand.tmp 15), type := 65, pos := "parse.go:71", after := #[{ on := 3, ground := Go.Ground.data }], guard := none }) (v := ?_) rfl (by kernel_rfl) (fun _ _ _ h => h) (Or.inl ⟨by rfl, ?_⟩) HS.out ?_
      rotate_left
      · intro w9 hSw; (try dsimp only at hSw); go_simp; try (with_reducible rfl)
      try simp only [Act.put, List.setIfInBounds_toArray, List.set_cons_zero, List.set_cons_succ]
      refine anyR_take (i := 5) (oi := { dst := some 17, op := Go.Op.move (Go.Operand.tmp 1), type := 65, pos := "parse.go:71", after := #[], guard := none }) (v := ?_) rfl (by kernel_rfl) (fun _ _ _ h => h) (Or.inl ⟨by rfl, ?_⟩) HS.out ?_
      rotate_left
      · intro w9 hSw; (try dsimp only at hSw); go_simp; try (with_reducible rfl)
      try simp only [Act.put, List.setIfInBounds_toArray, List.set_cons_zero, List.set_cons_succ]
      refine anyR_take (i := 6) (oi := { dst := some 18, op := Go.Op.move (Go.Operand.tmp 4), type := 3, pos := "parse.go:71", after := #[], guard := none }) (v := ?_) rfl (by kernel_rfl) (fun _ _ _ h => h) (Or.inl ⟨by rfl, ?_⟩) HS.out ?_
      rotate_left
      · intro w9 hSw; (try dsimp only at hSw); go_simp; try (with_reducible rfl)
      try simp only [Act.put, List.setIfInBounds_toArray, List.set_cons_zero, List.set_cons_succ]
      refine anyR_take (i := 7) (oi := { dst := some 19, op := Go.Op.indexAddr 65 (Go.Operand.tmp 17) (Go.Operand.tmp 18), type := 0, pos := "parse.go:71", after := #[{ on := 5, ground := Go.Ground.data }, { on := 6, ground := Go.Ground.data }], guard := none }) (v := ?_) rfl (by kernel_rfl) (fun _ _ _ h => h) (Or.inl ⟨by rfl, ?_⟩) HS.out ?_
      rotate_left
      · intro w9 hSw; (try dsimp only at hSw); go_simp; try (with_reducible rfl)
      try simp only [Act.put, List.setIfInBounds_toArray, List.set_cons_zero, List.set_cons_succ]
      refine anyR_take (i := 8) (oi := { dst := some 20, op := Go.Op.load 71 (Go.Operand.tmp 19), type := 71, pos := "parse.go:71", after := #[{ on := 7, ground := Go.Ground.data }], guard := none }) (v := ?_) rfl (by kernel_rfl) (fun _ _ _ h => h) (Or.inl ⟨by rfl, ?_⟩) HS.out ?_
      rotate_left
      · intro w9 hSw; (try dsimp only at hSw); go_simp; try (with_reducible rfl)
      try simp only [Act.put, List.setIfInBounds_toArray, List.set_cons_zero, List.set_cons_succ]
      refine anyR_ready (rs := [9]) (by kernel_rfl) (by simp) ?_
      refine ReadyR.cons (o := { dst := some 21, op := Go.Op.buildSlice 65 1 #[(0, Go.Operand.tmp 20)], type := 65, pos := "parse.go:71", after := #[{ on := 8, ground := Go.Ground.data }], guard := none }) rfl (fun K hK => ?_) ReadyR.nil
      go_simp
      refine hK.out _ _ (fun _ => HSA.out _ (HB.out.alloc HB.out.size _)) ?_
      have HS9 := Lib.hid (HSA.out _ (HB.out.alloc HB.out.size (.cells #[c0, c1, c2] 71)))
      clear hK K
      try simp only [Act.put, List.setIfInBounds_toArray, List.set_cons_zero, List.set_cons_succ]
      refine anyR_ready (rs := [10]) (by kernel_rfl) (by simp) ?_
      refine ReadyR.cons (o := { dst := some 22, op := Go.Op.call { callee := Go.Callee.builtin Go.Builtin.append, args := #[Go.Operand.tmp 16, Go.Operand.tmp 21], argTypes := #[65, 65] }, type := 65, pos := "parse.go:71", after := #[{ on := 4, ground := Go.Ground.data }, { on := 9, ground := Go.Ground.data }], guard := none }) rfl (fun K hK => ?_) ReadyR.nil
      obtain ⟨q0, hq0⟩ : ∃ q0, (l.drop (k + 1) ++ s).length = q0 := ⟨_, rfl⟩
      refine step_want (W := Wd) rfl (.tmp 16) (.tmp 21) rfl p (u := vt1) (q := q0) (kc := (l.drop (k + 1) ++ s).reverse.flatMap wCells) (cs := [c0, c1, c2]) rfl rfl (hq0 ▸ own_move HH.out.at_.todo (fun q _ => by rw [← HWd.out]; rfl)) rfl (fun v hv => wCells_one x v (by rw [HC.out]; exact hv)) (by have := blk_lt HH.out.at_.box; have := HB.out.size; omega) (by have := HL.out; rw [List.length_append, List.length_drop] at hq0; omega) ?_
      intro G1 C1 w1 ho hg hat
      have hpt : vt1.ownBlock ≠ some p := fun e => by
        obtain ⟨cs, hc⟩ := own_typed HH.out.at_.todo p e
        rw [HH.out.at_.box] at hc; cases hc
      have hbW : ∀ q, q < wr.heap.size → some q ≠ vt1.ownBlock → w1.heap[q]? = Wd.heap[q]? := fun q hq hne => hg.block q (Nat.lt_of_lt_of_le hq HB.out.size) hne
      have hS1 : w1.cell? ⟨p, 0, none⟩ = some vt1 ∧ w1.cell? ⟨gA, k * 3, none⟩ = some c0 ∧ w1.cell? ⟨gA, k * 3 + 1, none⟩ = some c1 ∧ w1.cell? ⟨gA, k * 3 + 2, none⟩ = some c2 := ⟨(World.cell?_of_block (hbW p (blk_lt HH.out.at_.box) (fun e => hpt e.symm))).trans HS.out.1, (World.cell?_of_block (hbW gA (blk_lt HH.out.arg) (fun e => HH.out.far e.symm))).trans HS.out.2.1, (World.cell?_of_block (hbW gA (blk_lt HH.out.arg) (fun e => HH.out.far e.symm))).trans HS.out.2.2.1, (World.cell?_of_block (hbW gA (blk_lt HH.out.arg) (fun e => HH.out.far e.symm))).trans HS.out.2.2.2⟩
      obtain ⟨⟨cur, hcur, hfit⟩, hnx⟩ := push_next HH.out HX.out HWd.out hq0 (by rw [HC.out]; exact ho) hg hat
      have HS1 := Lib.hid hS1
      have HCU := Lib.hid (And.intro hcur hfit)
      have HNX := Lib.hid hnx
      refine hK.out _ _ (fun _ => hS1) ?_
      clear hq0 hK K ho hg hat hpt hbW hS1 hcur hfit hnx HS HS9
      try simp only [Act.put, List.setIfInBounds_toArray, List.set_cons_zero, List.set_cons_succ]
      refine anyR_ready (rs := [11]) (by kernel_rfl) (by simp) ?_
      refine ReadyR.cons (o := { dst := some 23, op := Go.Op.nilCheck (Go.Operand.tmp 12), type := 0, pos := "parse.go:71", after := #[{ on := 0, ground := Go.Ground.data }, { on := 0, ground := Go.Ground.phase }, { on := 1, ground := Go.Ground.phase }, { on := 2, ground := Go.Ground.phase }, { on := 3, ground := Go.Ground.phase }, { on := 4, ground := Go.Ground.phase }, { on := 5, ground := Go.Ground.phase }, { on := 6, ground := Go.Ground.phase }, { on := 7, ground := Go.Ground.phase }, { on := 8, ground := Go.Ground.phase }, { on := 9, ground := Go.Ground.phase }, { on := 10, ground := Go.Ground.phase }], guard := none }) rfl (fun K hK => ?_) ReadyR.nil
      go_simp
      refine hK.out _ _ (fun _ => HS1.out) ?_
      clear hK K
      try simp only [Act.put, List.setIfInBounds_toArray, List.set_cons_zero, List.set_cons_succ]
      refine anyR_ready (rs := [12]) (by kernel_rfl) (by simp) ?_
      refine ReadyR.cons (o := { dst := some 24, op := Go.Op.fieldAddr 67 (Go.Operand.tmp 23) 0, type := 0, pos := "parse.go:71", after := #[{ on := 11, ground := Go.Ground.data }, { on := 0, ground := Go.Ground.phase }, { on := 1, ground := Go.Ground.phase }, { on := 2, ground := Go.Ground.phase }, { on := 3, ground := Go.Ground.phase }, { on := 4, ground := Go.Ground.phase }, { on := 5, ground := Go.Ground.phase }, { on := 6, ground := Go.Ground.phase }, { on := 7, ground := Go.Ground.phase }, { on := 8, ground := Go.Ground.phase }, { on := 9, ground := Go.Ground.phase }, { on := 10, ground := Go.Ground.phase }], guard := none }) rfl (fun K hK => ?_) ReadyR.nil
      go_simp
      refine hK.out _ _ (fun _ => HS1.out) ?_
      clear hK K
      try simp only [Act.put, List.setIfInBounds_toArray, List.set_cons_zero, List.set_cons_succ]
      refine anyR_ready (rs := [13]) (by kernel_rfl) (by simp) ?_
      refine ReadyR.cons (o := { dst := none, op := Go.Op.store 65 (Go.Operand.tmp 24) (Go.Operand.tmp 22), type := 0, pos := "parse.go:71", after := #[{ on := 12, ground := Go.Ground.data }, { on := 10, ground := Go.Ground.data }, { on := 10, ground := Go.Ground.chain }, { on := 0, ground := Go.Ground.phase }, { on := 1, ground := Go.Ground.phase }, { on := 2, ground := Go.Ground.phase }, { on := 3, ground := Go.Ground.phase }, { on := 4, ground := Go.Ground.phase }, { on := 5, ground := Go.Ground.phase }, { on := 6, ground := Go.Ground.phase }, { on := 7, ground := Go.Ground.phase }, { on := 8, ground := Go.Ground.phase }, { on := 9, ground := Go.Ground.phase }, { on := 10, ground := Go.Ground.phase }], guard := none }) rfl (fun K hK => ?_) ReadyR.nil
      refine step_store rfl rfl 65 (.tmp 24) (.tmp 22) rfl (g := p) (off := 0) (.slice (some ⟨G1, 0, none⟩) (q0 + 1) C1) [.slice (some ⟨G1, 0, none⟩) (q0 + 1) C1] rfl rfl rfl (by kernel_rfl) (fun v hv => by rw [List.mem_singleton.1 hv]; rfl) HCU.out.1 HCU.out.2 ?_
      have HN := Lib.hid (HNX.out _ rfl)
      refine hK.out _ _ (fun h => by cases h) ?_
      clear hK K HNX HCU HS1
      generalize w1.setCells p 0 [.slice (some ⟨G1, 0, none⟩) (q0 + 1) C1] = V at HN ⊢
      try simp only [Act.put, List.setIfInBounds_toArray, List.set_cons_zero, List.set_cons_succ]
      refine anyR_done (by kernel_rfl) ?_ _
      go_wp2
      go_roundw
      case rel => exact ⟨k, by omega, by go_num, Lib.hid ⟨_, HN.out⟩⟩
      case measure => simp [intOf] <;> omega
end Go.Proofs.Ytmjbpgnjgblnmaa
