/- word, end, rule, close, open: the walks. -/
import Derived.Test.YtmjbpgnjgblnmaaPush
import Derived.Laws.EntriesVeiled
set_option linter.unusedVariables false
set_option linter.unusedSimpArgs false
namespace Go.Proofs.Ytmjbpgnjgblnmaa
open Go.RowKit Go.Proofs.YtmjbpgnjgblnmaaW.PrintWords Go.Proofs.YtmjbpgnjgblnmaaW.PrintLast Go.Proofs.YtmjbpgnjgblnmaaW.PrintMore

theorem wl_cells {ops : Array Oper} {rest : List Oper} {o : Oper} {a : Act} {Q : Exit → Act → World → Prop} {W : World} (hgd : o.guard = none) (hd : o.dst = none) (t : TypeId) (p x : Operand) (ho : o.op = .store t p x) {g off : Nat} {e : TypeId} {cur : Array Value} (u : Value) (seg : List Value)
    (haddr : a.eval p = .pointer (some ⟨g, off, none⟩)) (hx : a.eval x = u) (hu : u.cells.toList = seg) (ht : (Try.prog.info? t).map (·.size) = some seg.length) (h1 : ∀ v ∈ seg, v.oneCell' = true) (hh : W.heap[g]? = some (.cells cur e (0, 0))) (hfit : off + seg.length ≤ cur.size)
    (h : ∀ w5, w5 = W.setCells g off seg → wpList Try.prog ops Q rest a w5) : wpList Try.prog ops Q (o :: rest) a W := by
  refine wpList_plain hgd fun K hK => ?_
  have hrun := run_store_run (P := Try.prog) t u seg hh hu ht hfit h1
  unfold Oper.wp execOp
  simp only [ho, haddr, hx, Sem.run_bind, Sem.run_pure, Result.andThen_ok, hrun]
  show K (a.put o.dst undef) _
  rw [hd]
  exact hK _ _ (h _ rfl)
theorem wl_ev {ops : Array Oper} {rest : List Oper} {o : Oper} {a : Act} {Q : Exit → Act → World → Prop} {W : World} (hgd : o.guard = none) (s x : Operand) (ho : o.op = .call { callee := .builtin .append, args := #[s, x], argTypes := #[38, 38] }) (base : Nat) {u : Value} {q : Nat} {kc cs : List Value} (hs : a.eval s = u) (hx : a.eval x = .slice (some ⟨W.heap.size, 0, none⟩) 1 1)
    (HO : W.ownsRow base 46 8 u q kc) (hcs : cs.length = 8) (h1 : ∀ v ∈ cs, v.oneCell' = true) (hbase : base ≤ W.heap.size) (hl : (q + 1) * 64 ≤ 140737488355328)
    (h : ∀ g1 c1 w1, w1.ownsRow base 46 8 (.slice (some ⟨g1, 0, none⟩) (q + 1) c1) (q + 1) (kc ++ cs) → W.grownBy w1 u.ownBlock → (u.ownBlock = some g1 ∨ W.heap.size < g1) → wpList Try.prog ops Q rest (a.put o.dst (.slice (some ⟨g1, 0, none⟩) (q + 1) c1)) w1) :
    wpList Try.prog ops Q (o :: rest) a (W.alloc (.cells cs.toArray 46)) := by
  refine wpList_plain hgd fun K hK => ?_
  obtain ⟨g1, c1, w1, hr, h1, h2, h3⟩ := run_ev base o.type HO hcs h1 hbase hl
  unfold Oper.wp execOp
  simp only [ho, resolve, invoke, builtin, Sem.run_bind, Sem.run_pure, Result.andThen_ok, List.map_toArray, List.map_cons, List.map_nil, hs, hx, hr]
  exact hK _ _ (h g1 c1 w1 h1 h2 h3)
theorem word_any (s : ByteArray) (w : World) : Calls Try.prog 28 #[.string s] w fun e w' => e = .returned (.agg #[.string s, .int .u8 0, .nilFunc]) ∧ Below w.heap.size w w' := by
  go_enter Try.func28, Try.ntmps28
  go_wp2
  refine ⟨rfl, .agg #[.string s, .int .u8 0, .nilFunc], ?_, rfl, ?_⟩
  · unfold results
    rw [show Try.f28.results = #[.cell 2 71] from rfl]
    go_simp
    try rfl
  · exact (Below.refl _ w).alloc (Nat.le_refl _) _
theorem end_any (k : Nat) (w : World) : Calls Try.prog 31 #[.int .u8 k] w fun e w' => e = .returned (.agg #[.string ⟨#[]⟩, .int .u8 k, .nilFunc]) ∧ Below w.heap.size w w' := by
  go_enter Try.func31, Try.ntmps31
  go_wp2
  refine ⟨rfl, .agg #[.string ⟨#[]⟩, .int .u8 k, .nilFunc], ?_, rfl, ?_⟩
  · unfold results
    rw [show Try.f31.results = #[.cell 2 71] from rfl]
    go_simp
    try rfl
  · exact (Below.refl _ w).alloc (Nat.le_refl _) _
theorem rule_any (n : Nat) (w : World) : Calls Try.prog 29 #[.func (.func n) #[] #[]] w fun e w' => e = .returned (.agg #[.string ⟨#[]⟩, .int .u8 0, .func (.func n) #[] #[]]) ∧ Below w.heap.size w w' := by
  go_enter Try.func29, Try.ntmps29
  go_wp2
  refine ⟨rfl, .agg #[.string ⟨#[]⟩, .int .u8 0, .func (.func n) #[] #[]], ?_, rfl, ?_⟩
  · unfold results
    rw [show Try.f29.results = #[.cell 2 71] from rfl]
    go_simp
    try rfl
  · exact (Below.refl _ w).alloc (Nat.le_refl _) _
theorem PAt.fresh {W : World} {p : Nat} {s : List WT} {es : List Ev} {d : Int} {b : Bool} {wc : Int} {cl : Bool} {vt ve : Value} (H : PAt W p s es d b wc cl vt ve) (o : Obj) :
    PAt (W.alloc o) p s es d b wc cl vt ve ∧ PStep p vt ve W vt ve (W.alloc o) ∧ vt.ownBlock ≠ some W.heap.size := by
  have hb : Below W.heap.size W (W.alloc o) := (Below.refl _ W).alloc (Nat.le_refl _) _
  exact ⟨H.below hb, PStep.below hb, fun e => absurd (own_lt H.todo _ e) (Nat.lt_irrefl _)⟩
theorem PStep.arg {w w' : World} {p gA : Nat} {s : List WT} {es : List Ev} {d : Int} {b : Bool} {wc : Int} {cl : Bool} {vt ve vt' ve' : Value} {A : Array Value} (h : PStep p vt ve w vt' ve' w') (H : PAt w p s es d b wc cl vt ve) (hA : w.heap[gA]? = some (.cells A 71 (0, 0))) (hgA : vt.ownBlock ≠ some gA) :
    w'.heap[gA]? = some (.cells A 71 (0, 0)) ∧ vt'.ownBlock ≠ some gA := by
  refine ⟨(h.block gA (blk_lt hA) (fun e => ?_) (fun e => hgA e.symm) (fun e => ?_)).trans hA, fun e => ?_⟩
  · rw [e, H.box] at hA; exact absurd (cells_ty hA) (by decide)
  · obtain ⟨cs, hc⟩ := own_typed H.evs gA e.symm
    rw [hA] at hc; exact absurd (cells_ty hc) (by decide)
  · rcases h.ft gA e with h1 | h1
    · exact hgA h1
    · have := blk_lt hA; omega
theorem push_new {W : World} {p : Nat} {s : List WT} {es : List Ev} {d : Int} {b : Bool} {wc : Int} {cl : Bool} {vt ve : Value} (H : PAt W p s es d b wc cl vt ve) (l : List WT) (n : Nat) (cs : List Value) (hn : l.length = n) (hcs : l.flatMap wCells = cs) (hl : n ≤ 16) (hs : s.length ≤ 1099511627776) :
    Calls Try.prog 27 #[.pointer (some ⟨p, 0, none⟩), .slice (some ⟨W.heap.size, 0, none⟩) n n] (W.alloc (.cells cs.toArray 71)) fun e w' => e = .returned (.tuple #[]) ∧ ∃ vt', PAt w' p (l ++ s) es d b wc cl vt' ve ∧ PStep p vt ve W vt' ve w' := by
  subst hn; subst hcs
  obtain ⟨h1, h2, h3⟩ := H.fresh (.cells (l.flatMap wCells).toArray 71)
  refine (push_any p W.heap.size l s es d b wc cl vt ve _ h1 (World.alloc_heap_new _ _) h3 hl hs).mono ?_
  rintro e w' ⟨he, vt', h4, h5⟩
  exact ⟨he, vt', h4, h2.trans h5⟩
set_option maxRecDepth 100000 in
set_option maxHeartbeats 4000000 in
theorem close_any (p k : Nat) (s : List WT) (es : List Ev) (d : Int) (b : Bool) (wc : Int) (cl : Bool) (vt ve : Value) (w : World) (hP : PAt w p s es d b wc cl vt ve) (hes : es.length ≤ 1099511627776) (hd : -4611686018427387904 ≤ d ∧ d ≤ 4611686018427387904) :
    Calls Try.prog 47 #[.pointer (some ⟨p, 0, none⟩), .int .u8 k] w fun e w' => e = .returned (.tuple #[]) ∧ ∃ ve', PAt w' p s (es ++ [evOf (3, k)]) (d - 1) b wc cl vt ve' ∧ PStep p vt ve w vt ve' w' := by
  have HP := Lib.hid hP
  have HEL : Hid ((es.length + 1) * 64 ≤ 140737488355328) := Lib.hid (by omega)
  have hwr : IntKind.i64.wrap (d - 1) = d - 1 := by rw [IntKind.wrap_i64]; omega
  obtain ⟨q0, q1, q2, q3, q4, q5⟩ := hP.cell
  clear hP hes hd
  go_enter Try.func47, Try.ntmps47
  go_wp2_with (first
    | ((with_reducible refine gate_dst (N := 12) rfl ?_); refine wl_ev rfl (.tmp 8) (.tmp 11) rfl p (u := ve) (q := es.length) (kc := es.flatMap evCells) (cs := [.int .u8 3, .int .u8 k, .int .u8 0, .string ⟨#[]⟩, .int .i64 0, .int .i64 0, .int .i64 0, .int .i64 0]) rfl rfl HP.out.evs rfl (evCells_one (evOf (3, k))) (Nat.le_of_lt (blk_lt HP.out.box)) HEL.out ?_; intro G1 C1 w1 ho hg hat; obtain ⟨⟨cur, hcur, hfit⟩, hnx⟩ := ev_next (e := evOf (3, k)) HP.out ho hg hat; have HCU := Lib.hid (And.intro hcur hfit); have HNX := Lib.hid hnx; clear ho hg hat hcur hfit hnx)
    | ((with_reducible refine gate_ (.store 38 (.tmp 14) (.tmp 12)) rfl ?_); refine wl_cells rfl rfl _ _ _ rfl (g := p) (off := 1) (.slice (some ⟨G1, 0, none⟩) (es.length + 1) C1) [.slice (some ⟨G1, 0, none⟩) (es.length + 1) C1] rfl rfl rfl (by kernel_rfl) (fun v hv => by rw [List.mem_singleton.1 hv]; rfl) HCU.out.1 HCU.out.2 ?_; intro V hV; obtain ⟨hA, hS⟩ := HNX.out V hV; have HV := Lib.hid hA; have HSV := Lib.hid hS; clear q0 q1 q2 q3 q4 q5 hV HNX HCU; obtain ⟨q0, q1, q2, q3, q4, q5⟩ := hA.cell; clear hA hS)
    | ((with_reducible refine gate_ (.store 3 (.tmp 21) (.tmp 19)) rfl ?_); refine wl_cells rfl rfl _ _ _ rfl (g := p) (off := 2) (.int .i64 (d - 1)) [.int .i64 (d - 1)] rfl rfl rfl (by kernel_rfl) (fun v hv => by rw [List.mem_singleton.1 hv]; rfl) HV.out.box (by simp) ?_; intro V2 hV; obtain ⟨hA, hS⟩ := HV.out.upd 2 (.int .i64 (d - 1)) (by decide) (s' := s) (es' := es ++ [evOf (3, k)]) (d' := d - 1) (b' := b) (wr' := wc) (cl' := cl) (vt' := vt) (ve' := .slice (some ⟨G1, 0, none⟩) (es.length + 1) C1) rfl HV.out.todo HV.out.evs (fun _ h => h) (fun _ h => h); rw [← hV] at hA hS; have HV2 := Lib.hid hA; have HSV2 := Lib.hid hS; clear q0 q1 q2 q3 q4 q5 hV; obtain ⟨q0, q1, q2, q3, q4, q5⟩ := hA.cell; clear hA hS))
  go_end0
  exact ⟨rfl, _, HV2.out, HSV.out.trans HSV2.out⟩
set_option maxRecDepth 100000 in
set_option maxHeartbeats 4000000 in
theorem open_any (p k gA : Nat) (l s : List WT) (es : List Ev) (d : Int) (b : Bool) (wc : Int) (cl : Bool) (vt ve : Value) (w : World) (hP : PAt w p s es d b wc cl vt ve) (hA : w.heap[gA]? = some (.cells (l.flatMap wCells).toArray 71 (0, 0))) (hgA : vt.ownBlock ≠ some gA) (hl : l.length ≤ 16) (hs : s.length ≤ 549755813888) (hes : es.length ≤ 1099511627776) (hd : -4611686018427387904 ≤ d ∧ d ≤ 4611686018427387904) :
    Calls Try.prog 48 #[.pointer (some ⟨p, 0, none⟩), .int .u8 k, .slice (some ⟨gA, 0, none⟩) l.length l.length] w fun e w' => e = .returned (.bool true) ∧ ∃ vt' ve', PAt w' p (l ++ .fin k :: s) (es ++ [evOf (1, k)]) (d + 1) b wc cl vt' ve' ∧ PStep p vt ve w vt' ve' w' := by
  have HP := Lib.hid hP
  have HEL : Hid ((es.length + 1) * 64 ≤ 140737488355328) := Lib.hid (by omega)
  have HSL : Hid (s.length ≤ 549755813888 ∧ l.length ≤ 16) := Lib.hid ⟨hs, hl⟩
  have HSL2 : Hid ((WT.fin k :: s).length ≤ 1099511627776) := Lib.hid (by simp only [List.length_cons]; omega)
  have hwr : IntKind.i64.wrap (d + 1) = d + 1 := by rw [IntKind.wrap_i64]; omega
  have HA := Lib.hid hA
  have HGA := Lib.hid hgA
  obtain ⟨q0, q1, q2, q3, q4, q5⟩ := hP.cell
  clear hP hes hd hA hgA hs hl
  go_enter Try.func48, Try.ntmps48
  go_wp2_with (first
    | ((with_reducible refine gate_dst (N := 15) rfl ?_); refine wl_ev rfl (.tmp 11) (.tmp 14) rfl p (u := ve) (q := es.length) (kc := es.flatMap evCells) (cs := [.int .u8 1, .int .u8 k, .int .u8 0, .string ⟨#[]⟩, .int .i64 0, .int .i64 0, .int .i64 0, .int .i64 0]) rfl rfl HP.out.evs rfl (evCells_one (evOf (1, k))) (Nat.le_of_lt (blk_lt HP.out.box)) HEL.out ?_; intro G1 C1 w1 ho hg hat; obtain ⟨⟨cur, hcur, hfit⟩, hnx⟩ := ev_next (e := evOf (1, k)) HP.out ho hg hat; have HCU := Lib.hid (And.intro hcur hfit); have HNX := Lib.hid hnx; clear ho hg hat hcur hfit hnx)
    | ((with_reducible refine gate_ (.store 38 (.tmp 17) (.tmp 15)) rfl ?_); refine wl_cells rfl rfl _ _ _ rfl (g := p) (off := 1) (.slice (some ⟨G1, 0, none⟩) (es.length + 1) C1) [.slice (some ⟨G1, 0, none⟩) (es.length + 1) C1] rfl rfl rfl (by kernel_rfl) (fun v hv => by rw [List.mem_singleton.1 hv]; rfl) HCU.out.1 HCU.out.2 ?_; intro V hV; obtain ⟨hA, hS⟩ := HNX.out V hV; have HV := Lib.hid hA; have HSV := Lib.hid hS; clear q0 q1 q2 q3 q4 q5 hV HNX HCU; obtain ⟨q0, q1, q2, q3, q4, q5⟩ := hA.cell; clear hA hS)
    | ((with_reducible refine gate_ (.store 3 (.tmp 24) (.tmp 22)) rfl ?_); refine wl_cells rfl rfl _ _ _ rfl (g := p) (off := 2) (.int .i64 (d + 1)) [.int .i64 (d + 1)] rfl rfl rfl (by kernel_rfl) (fun v hv => by rw [List.mem_singleton.1 hv]; rfl) HV.out.box (by simp) ?_; intro V2 hV; obtain ⟨hA, hS⟩ := HV.out.upd 2 (.int .i64 (d + 1)) (by decide) (s' := s) (es' := es ++ [evOf (1, k)]) (d' := d + 1) (b' := b) (wr' := wc) (cl' := cl) (vt' := vt) (ve' := .slice (some ⟨G1, 0, none⟩) (es.length + 1) C1) rfl HV.out.todo HV.out.evs (fun _ h => h) (fun _ h => h); rw [← hV] at hA hS; have HV2 := Lib.hid hA; have HSV2 := Lib.hid hS; clear q0 q1 q2 q3 q4 q5 hV; obtain ⟨q0, q1, q2, q3, q4, q5⟩ := hA.cell; clear hA hS)
    | (go_at_call 31; refine (end_any k V2).mono ?_; rintro e W3 ⟨rfl, hb3⟩; have HB3 := Lib.hid hb3; have HP3 := Lib.hid (HV2.out.below hb3); clear hb3 q0 q1 q2 q3 q4 q5)
    | (go_at_call 27; (with_reducible refine Calls.mono (push_new HP3.out [.fin k] 1 [.string ⟨#[]⟩, .int .u8 k, .nilFunc] rfl rfl (Nat.le_of_ble_eq_true rfl) (Nat.le_trans HSL.out.1 (Nat.le_of_ble_eq_true rfl))) ?_); rintro e W5 ⟨rfl, vt5, hP5, hs5⟩; have hs5' := HSV.out.trans (HSV2.out.trans ((PStep.below HB3.out).trans hs5)); obtain ⟨hA5, hg5⟩ := hs5'.arg HP.out HA.out HGA.out; have HPU := Lib.hid (push_any p gA l (.fin k :: s) (es ++ [evOf (1, k)]) (d + 1) b wc cl vt5 _ W5 hP5 hA5 hg5 HSL.out.2 HSL2.out); have HS5 := Lib.hid hs5'; clear hP5 hs5 hs5' hA5 hg5)
    | (go_at_call 27; (with_reducible refine Calls.mono HPU.out ?_); rintro e W6 ⟨rfl, vt6, hP6, hs6⟩; have HP6 := Lib.hid hP6; have HS6 := Lib.hid (HS5.out.trans hs6); clear hP6 hs6))
  go_ret
  exact ⟨rfl, _, _, HP6.out, HS6.out⟩
end Go.Proofs.Ytmjbpgnjgblnmaa
