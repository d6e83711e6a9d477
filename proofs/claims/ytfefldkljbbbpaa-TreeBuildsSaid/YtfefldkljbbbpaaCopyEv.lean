/- copy of events into a row that the call has made; a marked row of events. -/
import Derived.Test.YtfefldkljbbbpaaG6
import Derived.Laws.CopyRow
import Derived.Laws.IdiomCopy
import Derived.Laws.MakeOwn
set_option linter.unusedVariables false
set_option linter.unusedSimpArgs false
namespace Go.Proofs.Ytfefldkljbbbpaa
open Go.RowKit Go.Shelf Go.Proofs.YtfefldkljbbbpaaW.PrintWords Go.Proofs.YtfefldkljbbbpaaW.PrintLast Go.Proofs.YtfefldkljbbbpaaW.PrintMore

section
variable {P : Program}
theorem run_copy_zero (w : World) (dT sT ty elem : TypeId) (d a : Option Addr) (dLen dCap sLen sCap : Nat) (hu : P.underlying dT = some (.slice elem)) (i : TypeInfo) (hi : P.info? elem = some i) (hn : Nat.min sLen dLen = 0) :
    (Builtin.copy_ #[dT, sT] ty #[.slice d dLen dCap, .slice a sLen sCap]).run P w = .ok (goInt 0) w := by
  have hl : ∀ (x : Addr), (loadCells x 0).run P w = .ok #[] w := fun x => by simpa using run_loadCells_list (P := P) w x [] (by simp)
  cases d <;> cases a <;> simp [Builtin.copy_, run_underlying hu, Builtin.lenOf, Builtin.firstCells, sizeOf, typeInfo, hi, hn, storeCells, hl]
theorem run_copy_rows (w : World) (dT sT ty elem : TypeId) (g o dLen dCap : Nat) (a : Addr) (sLen sCap : Nat) (cur : Array Value) (t : TypeId) (cs : List Value)
    (hu : P.underlying dT = some (.slice elem)) (i : TypeInfo) (hi : P.info? elem = some i)
    (hg : w.heap[g]? = some (.cells cur t (0, 0))) (hn : cs.length = Nat.min sLen dLen * i.size)
    (hsrc : ∀ j v, cs[j]? = some v → w.cell? (a.add j) = some v) (hfit : o + cs.length ≤ cur.size) (h1 : ∀ v ∈ cs, v.oneCell' = true) :
    (Builtin.copy_ #[dT, sT] ty #[.slice (some ⟨g, o, none⟩) dLen dCap, .slice (some a) sLen sCap]).run P w =
      .ok (goInt (Nat.min sLen dLen)) (w.setRow g (cur.toList.take o ++ cs ++ cur.toList.drop (o + cs.length)).toArray) := by
  have hl := run_loadCells_list (P := P) w a cs hsrc
  have hst := run_storeCells_at P g o t cs 0 cur w hg (by simpa using hfit) h1
  simp [Builtin.copy_, run_underlying hu, Builtin.lenOf, Builtin.firstCells, sizeOf, typeInfo, hi, ← hn, hl, hst]
end
theorem evCells_len (e : Ev) : (evCells e).length = 8 := rfl
theorem flat_len : ∀ l : List Ev, (l.flatMap evCells).length = l.length * 8
  | [] => rfl
  | e :: l => by rw [List.flatMap_cons, List.length_append, flat_len l, evCells_len, List.length_cons]; omega
theorem flat_one (l : List Ev) : ∀ v ∈ l.flatMap evCells, v.oneCell' = true := by
  intro v hv
  obtain ⟨e, _, he⟩ := List.mem_flatMap.1 hv
  simp only [evCells, List.mem_cons, List.not_mem_nil, or_false] at he
  rcases he with rfl | rfl | rfl | rfl | rfl | rfl | rfl | rfl <;> rfl
theorem flat_get : ∀ (l : List Ev) (j : Nat) (v : Value), (l.flatMap evCells)[j]? = some v → ∃ e i k, l[i]? = some e ∧ j = i * 8 + k ∧ (evCells e)[k]? = some v
  | [], j, v, h => by simp at h
  | e :: l, j, v, h => by
    rw [List.flatMap_cons] at h
    by_cases hj : j < 8
    · rw [List.getElem?_append_left (by rw [evCells_len]; exact hj)] at h
      exact ⟨e, 0, j, rfl, by omega, h⟩
    · rw [List.getElem?_append_right (by rw [evCells_len]; omega), evCells_len] at h
      obtain ⟨e', i, k, h1, h2, h3⟩ := flat_get l (j - 8) v h
      exact ⟨e', i + 1, k, h1, by omega, h3⟩
/-- Events at an address: their cells, one by one. -/
theorem ev_cells {w : World} {ad : Addr} {n : Nat} {l : List Ev} (h : Kd.C kEv w (some ad) n l) (hn : 0 < n) : ∀ j v, (l.flatMap evCells)[j]? = some v → w.cell? (ad.add j) = some v := by
  intro j v hj
  obtain ⟨e, i, k, h1, rfl, h3⟩ := flat_get l j v hj
  obtain ⟨ad', hA, hc⟩ := h.2.2 hn
  obtain rfl := Option.some.inj hA
  obtain ⟨c, hl, hK, hcell⟩ := hc i e h1
  obtain rfl := PTreeSame.k32_open hK
  exact hcell k v h3
theorem setRow_upd (w : World) (g : Nat) (cs : Array Value) : Upd g w (w.setRow g cs) := ⟨fun k hk => setRow_other w g k cs hk, rfl, rfl, rfl, by simp [World.setRow]⟩
theorem Upd.refl' (g : Nat) (w : World) : Upd g w w := ⟨fun _ _ => rfl, rfl, rfl, rfl, rfl⟩
/-- copy(in, l): the row holds the events. -/
theorem wl_copyEv {ops : Array Oper} {rest : List Oper} {o : Oper} {a : Act} {Q : Exit → Act → World → Prop} {W : World} (hgd : o.guard = none) (d s : Operand) (ho : o.op = .call { callee := .builtin .copy, args := #[d, s], argTypes := #[22, 22] })
    (g n cap c : Nat) (A : Option Addr) (cur : Array Value) (l : List Ev) (hd : a.eval d = .slice (some ⟨g, 0, none⟩) n cap) (hs : a.eval s = .slice A n c) (hg : W.heap[g]? = some (.cells cur 32 (0, 0))) (hC : Kd.C kEv W A n l) (hfit : n * 8 ≤ cur.size)
    (h : ∀ w5, w5.heap[g]? = some (.cells (l.flatMap evCells ++ cur.toList.drop (n * 8)).toArray 32 (0, 0)) → Upd g W w5 → wpList Try.prog ops Q rest (a.put o.dst (goInt n)) w5) : wpList Try.prog ops Q (o :: rest) a W := by
  obtain ⟨i, hi, hsz⟩ : ∃ i, Try.prog.info? 32 = some i ∧ i.size = 8 := by
    obtain ⟨i, hi, he⟩ := Option.map_eq_some_iff.1 infoEv
    simp only [Prod.mk.injEq] at he
    exact ⟨i, hi, he.2.1⟩
  have hl : l.length = n := hC.1
  have hmin : Nat.min n n = n := Nat.min_self n
  refine wpList_plain hgd fun K hK => ?_
  by_cases h0 : n = 0
  · have hrun := run_copy_zero (P := Try.prog) W 22 22 o.type 32 (some ⟨g, 0, none⟩) A n cap n c Try.underlying22 i hi (by rw [hmin]; exact h0)
    have hln : l = [] := List.eq_nil_of_length_eq_zero (by omega)
    unfold Oper.wp execOp
    simp only [ho, resolve, invoke, builtin, Sem.run_bind, Sem.run_pure, Result.andThen_ok, List.map_toArray, List.map_cons, List.map_nil, hd, hs, hrun]
    have := hK _ _ (h W (by rw [hg, hln, h0]; simp) (Upd.refl' g W))
    rw [h0] at this
    exact this
  · obtain ⟨ad, rfl, _⟩ := hC.2.2 (by omega)
    have hrun := run_copy_rows (P := Try.prog) W 22 22 o.type 32 g 0 n cap ad n c cur 32 (l.flatMap evCells) Try.underlying22 i hi hg (by rw [flat_len, hmin, hsz, hl]) (ev_cells hC (by omega)) (by rw [flat_len, hl]; omega) (flat_one l)
    rw [hmin, List.take_zero, List.nil_append, Nat.zero_add, flat_len, hl] at hrun
    unfold Oper.wp execOp
    simp only [ho, resolve, invoke, builtin, Sem.run_bind, Sem.run_pure, Result.andThen_ok, List.map_toArray, List.map_cons, List.map_nil, hd, hs, hrun]
    exact hK _ _ (h _ (Go.setRow_heap W g _ _ _ _ hg) (setRow_upd _ _ _))
theorem make_events (n : Nat) (hn : n ≤ 1073741824) : ∃ zs : Array Value, zs.size = (n + 1) * 8 ∧ ∀ w, (Instr.makeSlice 22 (.int .i64 n) (.int .i64 ((n : Int) + 1))).run Try.prog w = .ok (.slice (some ⟨w.heap.size, 0, none⟩) n (n + 1)) (w.alloc (.cells zs 32)) := by
  obtain ⟨i, z, hi, hz, hs, hb⟩ : ∃ i z, Try.prog.info? 32 = some i ∧ i.zero = some z ∧ i.size = 8 ∧ i.bytes = 64 := by
    obtain ⟨i, hi, he⟩ := Option.map_eq_some_iff.1 infoEv
    simp only [Prod.mk.injEq] at he
    exact ⟨i, _, hi, he.1, he.2.1, he.2.2⟩
  refine ⟨madeCells z.cells ((n + 1) * i.size), by rw [size_madeCells, hs], fun w => ?_⟩
  have h := run_make (P := Try.prog) w 22 32 i z Try.underlying22 hi hz .i64 .i64 n ((n : Int) + 1) (by omega) (by omega) (by rw [hb]; omega) (by omega)
  rw [Int.toNat_natCast, show ((n : Int) + 1).toNat = n + 1 from by omega] at h
  exact h
/-- Events that lie at the head of a block can be read. -/
theorem ev_row2 {w : World} {b : Nat} {xs : List Ev} {rest : List Value} {T : TypeId} (hh : w.heap[b]? = some (.cells (xs.flatMap evCells ++ rest).toArray T (0, 0))) (hl : xs.length ≤ 1073741824) : Kd.C kEv w (some ⟨b, 0, none⟩) xs.length xs := by
  refine ⟨rfl, by omega, fun _ => ⟨⟨b, 0, none⟩, rfl, fun j p hp => ⟨evCells p, rfl, PTreeSame.k32_mk w p, fun i u hu => ?_⟩⟩⟩
  show w.cell? ((⟨b, 0, none⟩ : Addr).add (j * 8 + i)) = some u
  rw [show (⟨b, 0, none⟩ : Addr).add (j * 8 + i) = ⟨b, j * 8 + i, none⟩ by simp [Addr.add]; omega]
  refine (cell_of_row _ _ _ _ _ _ hh).trans ?_
  have := ev_at xs j p hp i u hu
  rw [List.getElem?_toArray, List.getElem?_append_left (List.getElem?_eq_some_iff.1 this).1]
  exact this
end Go.Proofs.Ytfefldkljbbbpaa
