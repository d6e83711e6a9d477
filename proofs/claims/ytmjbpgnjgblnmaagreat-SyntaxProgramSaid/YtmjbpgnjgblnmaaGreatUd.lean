/- What the claim stands on: part Ud. -/
import Derived.Test.YtmjbpgnjgblnmaaGreatUc
import Derived.Deep.QuietTactic
import Derived.BigQuiet
import Derived.BigRegion
import Derived.WalkSmall
import Derived.LoopTactic
set_option maxRecDepth 100000
set_option maxHeartbeats 8000000
set_option linter.unusedVariables false
set_option linter.unusedSimpArgs false
namespace Go.Proofs.YtmjbpgnjgblnmaaGreat
open Go.RowKit Go.Proofs.YtmjbpgnjgblnmaaGreatW.PrintWords Go.Proofs.YtmjbpgnjgblnmaaGreatW.PrintLast Go.Proofs.YtmjbpgnjgblnmaaGreatW.PrintMore
theorem run_app1 {W : World} {e t : TypeId} {z : Value} {size bytes : Nat} (hinfo : (Tryz.prog.info? e).map (fun i => (i.zero, i.size, i.bytes)) = some (some z, size, bytes)) (hund : Tryz.prog.underlying t = some (.slice e)) (hz : z.cells.size = size) (hpos : 0 < size) (hbt : 0 < bytes)
  (base : Nat) (ty : TypeId) {u : Value} {q : Nat} {kc cs : List Value} (HO : W.ownsRow base e size u q kc) (hcs : cs.length = size) (h1 : ∀ v ∈ cs, v.oneCell' = true) (hbase : base ≤ W.heap.size) (hl : (q + 1) * bytes ≤ 140737488355328) :
  ∃ g1 c1 w1, (Builtin.append_ #[t, t] ty #[u, .slice (some ⟨W.heap.size, 0, none⟩) 1 1]).run Tryz.prog (W.alloc (.cells cs.toArray e)) = .ok (.slice (some ⟨g1, 0, none⟩) (q + 1) c1) w1 ∧
   w1.ownsRow base e size (.slice (some ⟨g1, 0, none⟩) (q + 1) c1) (q + 1) (kc ++ cs) ∧ W.grownBy w1 u.ownBlock ∧ (u.ownBlock = some g1 ∨ W.heap.size < g1) := by
 obtain ⟨i0, hi, hzz⟩ := Option.map_eq_some_iff.1 hinfo
 simp only [Prod.mk.injEq] at hzz
 obtain ⟨hz0, hz1, hz2⟩ := hzz
 have hq : q + 1 ≤ 140737488355328 := Nat.le_trans (Nat.le_mul_of_pos_right _ hbt) hl
 obtain ⟨v1, w1, hr, ho, hg, _, hat⟩ := run_append_own_at (P := Tryz.prog) (W.alloc (.cells cs.toArray e)) base t ty e i0 _ size bytes hund hi hz0 hz1 hz2 hz hpos u q kc (HO.alloc _) ⟨W.heap.size, 0, none⟩ 1 1 cs (by rw [hcs, Nat.one_mul])
  (by simpa using World.news_of_block (cs := cs.toArray) (t := e) (fr := (0, 0)) (heap_alloc_new W (.cells cs.toArray e))) h1 (by simp only [maxLen]; omega) hl (by rw [World.size_alloc]; omega)
 have ho' := ho
 rcases ho.2 with ⟨_, hn⟩ | ⟨g1, c1, cur, rfl, _⟩
 ·omega
 ·refine ⟨g1, c1, w1, hr, ho', World.grownBy.trans (World.grownBy_alloc W _ _) hg, ?_⟩
  rcases hat with he | he
  ·exact .inl he.symm
  ·rw [World.size_alloc] at he
   have : g1 = W.heap.size + 1 := by simpa [Value.ownBlock] using he
   exact .inr (by omega)
theorem step_app1 {ops : Array Oper} {o : Oper} {a : Act} {Q : Exit → Act → World → Prop} {K : Act → World → Prop} {E : Prop} {W : World} {e t : TypeId} {z : Value} {size bytes : Nat} (hinfo : (Tryz.prog.info? e).map (fun i => (i.zero, i.size, i.bytes)) = some (some z, size, bytes)) (hund : Tryz.prog.underlying t = some (.slice e)) (hz : z.cells.size = size) (hpos : 0 < size) (hbt : 0 < bytes)
  (hgd : o.guard = none) (s x : Operand) (ho : o.op = .call { callee := .builtin .append, args := #[s, x], argTypes := #[t, t] }) (base : Nat) {u : Value} {q : Nat} {kc cs : List Value} (hs : a.eval s = u) (hx : a.eval x = .slice (some ⟨W.heap.size, 0, none⟩) 1 1)
  (HO : W.ownsRow base e size u q kc) (hcs : cs.length = size) (h1 : ∀ v ∈ cs, v.oneCell' = true) (hbase : base ≤ W.heap.size) (hl : (q + 1) * bytes ≤ 140737488355328)
  (h : ∀ g1 c1 w1, w1.ownsRow base e size (.slice (some ⟨g1, 0, none⟩) (q + 1) c1) (q + 1) (kc ++ cs) → W.grownBy w1 u.ownBlock → (u.ownBlock = some g1 ∨ W.heap.size < g1) → K (a.put o.dst (.slice (some ⟨g1, 0, none⟩) (q + 1) c1)) w1) :
  if Region.wanted o (yielded ops a.tmps) = true then Oper.wp Tryz.prog o a (W.alloc (.cells cs.toArray e)) K Q else E := by
 have hw : Region.wanted o (yielded ops a.tmps) = true := by simp [Region.wanted, hgd]
 rw [if_pos hw]
 obtain ⟨g1, c1, w1, hr, h1, h2, h3⟩ := run_app1 hinfo hund hz hpos hbt base o.type HO hcs h1 hbase hl
 unfold Oper.wp execOp
 simp only [ho, resolve, invoke, builtin, Sem.run_bind, Sem.run_pure, Result.andThen_ok, List.map_toArray, List.map_cons, List.map_nil, hs, hx, hr]
 exact h g1 c1 w1 h1 h2 h3
theorem infoSt : (Tryz.prog.info? 68).map (fun i => (i.zero, i.size, i.bytes)) = some (some (.agg #[.int .u8 0, .int .i64 0]), 2, 16) := by kernel_rfl
theorem infoPs : (Tryz.prog.info? 63).map (fun i => (i.zero, i.size, i.bytes)) = some (some (.slice none 0 0), 1, 24) := by kernel_rfl
def RMem (W0 : World) (A : Option Addr) (c : Nat) (l : List Tk) (all : Bool) (w : World) (p : Nat) (s : RS) : Prop :=
 ∃ path ser vp vs vl, (s.e = 0 → path = s.path ∧ ser = s.ser) ∧ s.paths.length ≤ s.i ∧ RAt W0 A c l all w p s.i path ser s.paths s.last s.e vp vs vl
theorem RMem.moved {W0 : World} {A : Option Addr} {c : Nat} {l : List Tk} {all : Bool} {w w' : World} {p : Nat} {s : RS} (H : RMem W0 A c l all w p s) (h : Below w.heap.size w w') : RMem W0 A c l all w' p s := by
 obtain ⟨path, ser, vp, vs, vl, h1, h3, h2⟩ := H
 exact ⟨path, ser, vp, vs, vl, h1, h3, h2.moved h⟩
abbrev RPost (W0 : World) (A : Option Addr) (c : Nat) (l : List Tk) (all : Bool) (p : Nat) (r : RS) (e : Ending) (w' : World) : Prop := e = .returned (.tuple #[]) ∧ RMem W0 A c l all w' p r
abbrev BPost (W0 : World) (A : Option Addr) (c : Nat) (l : List Tk) (all : Bool) (p : Nat) (r : RS) (b : Bool) (w : World) (e : Ending) (w' : World) : Prop := e = .returned (.bool b) ∧ RMem W0 A c l all w' p r ∧ Below w.heap.size w w'
theorem inc_nums {n : Nat} (h : n ≤ 1099511627776) : wrap64 ((n : Int) + 1) = ((n + 1 : Nat) : Int) ∧ IntKind.i64.wrap ((n : Int) + 1) = ((n + 1 : Nat) : Int) := by
 rw [IntKind.wrap_i64]; unfold wrap64; omega
theorem opens_any {W0 : World} {A : Option Addr} {c : Nat} {l : List Tk} {all : Bool} {w : World} {p : Nat} {s : RS} (H : RMem W0 A c l all w p s) (k : Nat) (hf : s.e = 0 → s.ser ≤ 1099511627776) :
  Calls Tryz.prog 52 #[.pointer (some ⟨p, 0, none⟩), .int .u8 k] w (RPost W0 A c l all p (opR k s)) := by
 obtain ⟨path, ser, vp, vs, vl, hrel, hpsl, HA⟩ := H
 have HQ := zh hpsl
 clear hpsl
 by_cases he : s.e = 0
 ·obtain ⟨rfl, rfl⟩ := hrel he
  have hA0 := HA
  rw [he] at hA0
  have HA0 := zh hA0
  obtain ⟨q0, q1, q2, q3, q4, q5, q6, q7⟩ := hA0.cell
  obtain ⟨m, hm⟩ : ∃ m, s.ser + 1 = m := ⟨_, rfl⟩
  obtain ⟨g3, g4⟩ := inc_nums (hf he)
  rw [hm] at g3 g4
  have HFI : Hid (s.ser ≤ 1099511627776) := zh (hf he)
  have HPL : Hid (s.path.length ≤ s.ser ∧ s.ser + 1 = m) := zh ⟨HA.pl, hm⟩
  have HOP : Hid (opR k s = { s with path := s.path ++ [(k, m)], ser := m }) := zh (by unfold opR; rw [if_pos he, hm])
  have HE := zh he
  clear hA0 hm HA he hf hrel
  go_enter Tryz.func52, Tryz.ntmps52
  go_upto_region 2 with (first
   | ((with_reducible refine gate_ (.store 3 (.tmp 15) (.tmp 13)) rfl ?_); refine wl_cells rfl rfl _ _ _ rfl (g := p) (off := 3) (.int .i64 m) [.int .i64 m] rfl rfl rfl (by kernel_rfl) (fun v hv => by rw [List.mem_singleton.1 hv]; rfl) HA0.out.box (by simp) ?_; intro V1 hV; have hA := HA0.out.upd 3 (.int .i64 m) (by decide) (i' := s.i) (ser' := m) (e' := 0) rfl HA0.out.ile (by have := HPL.out; omega); rw [← hV] at hA; have HA1 := zh hA; clear hA hV q0 q1 q2 q3 q4 q5 q6 q7; obtain ⟨q0, q1, q2, q3, q4, q5, q6, q7⟩ := HA1.out.cell))
  obtain ⟨Wd, hWd⟩ : ∃ V, V1.drew = V := ⟨_, rfl⟩
  have hb : Below V1.heap.size V1 Wd := by rw [← hWd]; exact (Below.refl _ V1).drew
  have HAD := zh (HA1.out.moved hb)
  have hSall : ∀ V, Below V1.heap.size V1 V → V.cell? ⟨p, 2, none⟩ = some vp ∧ V.cell? ⟨p, 3, none⟩ = some (.int .i64 m) := fun V hV => ⟨pw_cell_below hV q2, pw_cell_below hV q3⟩
  have HSA := zh hSall
  have HS := zh (hSall Wd hb)
  have HB := zh hb
  have HWd := zh hWd
  clear hSall hb hWd
  refine wp_region_R (fun w' => w'.cell? ⟨p, 2, none⟩ = some vp ∧ w'.cell? ⟨p, 3, none⟩ = some (.int .i64 m)) (fun j => !(Nat.beq j 15)) (by kernel_rfl) ?_
  rw [HWd.out]
  refine anyR_take (i := 0) (oi := ⟨some 16, .move (.tmp 0), 61, "rows.go:32", #[], none⟩) (v := ?_) rfl (by kernel_rfl) (fun _ _ _ h => h) (Or.inl ⟨by rfl, ?_⟩) HS.out ?_
  rotate_left
  ·intro x h; go_simp; try (with_reducible rfl)
  try simp only [Act.put,sA,List.set]
  refine anyR_take (i := 1) (oi := ⟨some 17, .move (.tmp 0), 61, "rows.go:32", #[], none⟩) (v := ?_) rfl (by kernel_rfl) (fun _ _ _ h => h) (Or.inl ⟨by rfl, ?_⟩) HS.out ?_
  rotate_left
  ·intro x h; go_simp; try (with_reducible rfl)
  try simp only [Act.put,sA,List.set]
  refine anyR_take (i := 2) (oi := ⟨some 18, .nilCheck (.tmp 17), 0, "rows.go:32", #[⟨1, .data⟩], none⟩) (v := ?_) rfl (by kernel_rfl) (fun _ _ _ h => h) (Or.inl ⟨by rfl, ?_⟩) HS.out ?_
  rotate_left
  ·intro x h; go_simp; try (with_reducible rfl)
  try simp only [Act.put,sA,List.set]
  refine anyR_take (i := 3) (oi := ⟨some 19, .fieldAddr 66 (.tmp 18) 2, 0, "rows.go:32", #[⟨2, .data⟩], none⟩) (v := ?_) rfl (by kernel_rfl) (fun _ _ _ h => h) (Or.inl ⟨by rfl, ?_⟩) HS.out ?_
  rotate_left
  ·intro x h; go_simp; try (with_reducible rfl)
  try simp only [Act.put,sA,List.set]
  refine anyR_take (i := 4) (oi := ⟨some 20, .load 63 (.tmp 19), 63, "rows.go:32", #[⟨3, .data⟩], none⟩) (v := ?_) rfl (by kernel_rfl) (fun _ _ _ h => h) (Or.inl ⟨by rfl, ?_⟩) HS.out ?_
  rotate_left
  ·intro x h; go_simp; try (with_reducible rfl)
  try simp only [Act.put,sA,List.set]
  refine anyR_take (i := 5) (oi := ⟨some 21, .move (.tmp 1), 29, "rows.go:32", #[], none⟩) (v := ?_) rfl (by kernel_rfl) (fun _ _ _ h => h) (Or.inl ⟨by rfl, ?_⟩) HS.out ?_
  rotate_left
  ·intro x h; go_simp; try (with_reducible rfl)
  try simp only [Act.put,sA,List.set]
  refine anyR_take (i := 6) (oi := ⟨some 22, .move (.tmp 0), 61, "rows.go:32", #[], none⟩) (v := ?_) rfl (by kernel_rfl) (fun _ _ _ h => h) (Or.inl ⟨by rfl, ?_⟩) HS.out ?_
  rotate_left
  ·intro x h; go_simp; try (with_reducible rfl)
  try simp only [Act.put,sA,List.set]
  refine anyR_take (i := 7) (oi := ⟨some 23, .nilCheck (.tmp 22), 0, "rows.go:32", #[⟨6, .data⟩], none⟩) (v := ?_) rfl (by kernel_rfl) (fun _ _ _ h => h) (Or.inl ⟨by rfl, ?_⟩) HS.out ?_
  rotate_left
  ·intro x h; go_simp; try (with_reducible rfl)
  try simp only [Act.put,sA,List.set]
  refine anyR_take (i := 8) (oi := ⟨some 24, .fieldAddr 66 (.tmp 23) 3, 0, "rows.go:32", #[⟨7, .data⟩], none⟩) (v := ?_) rfl (by kernel_rfl) (fun _ _ _ h => h) (Or.inl ⟨by rfl, ?_⟩) HS.out ?_
  rotate_left
  ·intro x h; go_simp; try (with_reducible rfl)
  try simp only [Act.put,sA,List.set]
  refine anyR_take (i := 9) (oi := ⟨some 25, .load 3 (.tmp 24), 3, "rows.go:32", #[⟨8, .data⟩], none⟩) (v := ?_) rfl (by kernel_rfl) (fun _ _ _ h => h) (Or.inl ⟨by rfl, ?_⟩) HS.out ?_
  rotate_left
  ·intro x h; go_simp; try (with_reducible rfl)
  try simp only [Act.put,sA,List.set]
  refine anyR_take (i := 10) (oi := ⟨some 26, .build 68 #[(0, .tmp 21), (1, .tmp 25)], 68, "rows.go:32", #[⟨5, .data⟩, ⟨9, .data⟩], none⟩) (v := ?_) rfl (by kernel_rfl) (fun _ _ _ h => h) (Or.inl ⟨by rfl, ?_⟩) HS.out ?_
  rotate_left
  ·intro x h; go_simp; try (with_reducible rfl)
  try simp only [Act.put,sA,List.set]
  refine anyR_ready (rs := [11]) (by kernel_rfl) (by simp) ?_
  refine ReadyR.cons (o := ⟨some 27, .buildSlice 63 1 #[(0, .tmp 26)], 63, "rows.go:32", #[⟨10, .data⟩], none⟩) rfl (fun K hK => ?_) ReadyR.nil
  go_simp
  refine hK.out _ _ (fun _ => HSA.out _ (HB.out.alloc HB.out.size _)) ?_
  have HS9 := zh (HSA.out _ (HB.out.alloc HB.out.size (.cells #[.int .u8 k, .int .i64 m] 68)))
  clear hK K
  try simp only [Act.put,sA,List.set]
  refine anyR_ready (rs := [12]) (by kernel_rfl) (by simp) ?_
  refine ReadyR.cons (o := ⟨some 28, .call { callee := .builtin .append, args := #[.tmp 20, .tmp 27], argTypes := #[63, 63] }, 63, "rows.go:32", #[⟨4, .data⟩, ⟨11, .data⟩], none⟩) rfl (fun K hK => ?_) ReadyR.nil
  refine step_app1 (W := Wd) infoSt rfl rfl (by decide) (by decide) rfl (.tmp 20) (.tmp 27) rfl p (u := vp) (q := s.path.length) (kc := s.path.flatMap stCells) (cs := [.int .u8 k, .int .i64 m]) rfl rfl HAD.out.row rfl (stCells_one (k, m)) (Nat.le_of_lt (blk_lt HAD.out.box)) (by have := HPL.out; have := HFI.out; omega) ?_
  intro G1 C1 w1 ho hg hat
  have hpp : vp.ownBlock ≠ some p := fun e => by
   obtain ⟨cs, hc⟩ := own_typed HAD.out.row p e
   rw [HAD.out.box] at hc; cases hc
  have hS1 : w1.cell? ⟨p, 2, none⟩ = some vp ∧ w1.cell? ⟨p, 3, none⟩ = some (.int .i64 m) := ⟨(World.cell?_of_block (hg.block p (blk_lt HAD.out.box) (fun e => hpp e.symm))).trans HS.out.1, (World.cell?_of_block (hg.block p (blk_lt HAD.out.box) (fun e => hpp e.symm))).trans HS.out.2⟩
  obtain ⟨⟨cur, hcur, hfit⟩, hnx⟩ := HAD.out.opened (k := k) (by unfold stRow; rw [List.length_append, List.flatMap_append]; exact ho) hg hat (by have := HPL.out; omega)
  have HS1 := zh hS1
  have HCU := zh (And.intro hcur hfit)
  have HNX := zh hnx
  refine hK.out _ _ (fun _ => hS1) ?_
  clear hK K ho hg hat hpp hS1 hcur hfit hnx HS HS9
  try simp only [Act.put,sA,List.set]
  refine anyR_ready (rs := [13]) (by kernel_rfl) (by simp) ?_
  refine ReadyR.cons (o := ⟨some 29, .nilCheck (.tmp 16), 0, "rows.go:32", #[⟨0, .data⟩, ⟨0, .phase⟩, ⟨1, .phase⟩, ⟨2, .phase⟩, ⟨3, .phase⟩, ⟨4, .phase⟩, ⟨5, .phase⟩, ⟨6, .phase⟩, ⟨7, .phase⟩, ⟨8, .phase⟩, ⟨9, .phase⟩, ⟨10, .phase⟩, ⟨11, .phase⟩, ⟨12, .phase⟩], none⟩) rfl (fun K hK => ?_) ReadyR.nil
  go_simp
  refine hK.out _ _ (fun _ => HS1.out) ?_
  clear hK K
  try simp only [Act.put,sA,List.set]
  refine anyR_ready (rs := [14]) (by kernel_rfl) (by simp) ?_
  refine ReadyR.cons (o := ⟨some 30, .fieldAddr 66 (.tmp 29) 2, 0, "rows.go:32", #[⟨13, .data⟩, ⟨0, .phase⟩, ⟨1, .phase⟩, ⟨2, .phase⟩, ⟨3, .phase⟩, ⟨4, .phase⟩, ⟨5, .phase⟩, ⟨6, .phase⟩, ⟨7, .phase⟩, ⟨8, .phase⟩, ⟨9, .phase⟩, ⟨10, .phase⟩, ⟨11, .phase⟩, ⟨12, .phase⟩], none⟩) rfl (fun K hK => ?_) ReadyR.nil
  go_simp
  refine hK.out _ _ (fun _ => HS1.out) ?_
  clear hK K
  try simp only [Act.put,sA,List.set]
  refine anyR_ready (rs := [15]) (by kernel_rfl) (by simp) ?_
  refine ReadyR.cons (o := ⟨none, .store 63 (.tmp 30) (.tmp 28), 0, "rows.go:32", #[⟨14, .data⟩, ⟨12, .data⟩, ⟨12, .chain⟩, ⟨0, .phase⟩, ⟨1, .phase⟩, ⟨2, .phase⟩, ⟨3, .phase⟩, ⟨4, .phase⟩, ⟨5, .phase⟩, ⟨6, .phase⟩, ⟨7, .phase⟩, ⟨8, .phase⟩, ⟨9, .phase⟩, ⟨10, .phase⟩, ⟨11, .phase⟩, ⟨12, .phase⟩], none⟩) rfl (fun K hK => ?_) ReadyR.nil
  refine step_store rfl rfl 63 (.tmp 30) (.tmp 28) rfl (g := p) (off := 2) (.slice (some ⟨G1, 0, none⟩) (s.path.length + 1) C1) [.slice (some ⟨G1, 0, none⟩) (s.path.length + 1) C1] rfl rfl rfl (by kernel_rfl) (fun v hv => by rw [List.mem_singleton.1 hv]; rfl) HCU.out.1 HCU.out.2 ?_
  have HN := zh (HNX.out _ rfl)
  refine hK.out _ _ (fun h => by cases h) ?_
  clear hK K HNX HCU HS1
  generalize w1.setCells p 2 [.slice (some ⟨G1, 0, none⟩) (s.path.length + 1) C1] = V at HN ⊢
  try simp only [Act.put,sA,List.set]
  refine anyR_done (by kernel_rfl) ?_ _
  go_end0
  exact ⟨rfl, by rw [HOP.out]; exact ⟨_, _, _, _, _, fun _ => ⟨rfl, rfl⟩, HQ.out, by rw [HE.out]; exact HN.out⟩⟩
 ·have HA0 := zh HA
  obtain ⟨q0, q1, q2, q3, q4, q5, q6, q7⟩ := HA.cell
  have g1 : (s.e == 0) = false := by rw [beq_eq_false_iff_ne]; exact he
  have HOP : Hid (opR k s = s) := zh (opR_bad he)
  have HE : Hid (s.e = 0 → path = s.path ∧ ser = s.ser) := zh hrel
  clear HA hf hrel
  go_enter Tryz.func52, Tryz.ntmps52
  go_wp2
  go_end0
  exact ⟨rfl, by rw [HOP.out]; exact ⟨_, _, _, _, _, HE.out, HQ.out, HA0.out⟩⟩
theorem closes_any {W0 : World} {A : Option Addr} {c : Nat} {l : List Tk} {all : Bool} {w : World} {p : Nat} {s : RS} (H : RMem W0 A c l all w p s) (hf : s.e = 0 → 0 < s.path.length ∧ fitR s) :
  Calls Tryz.prog 78 #[.pointer (some ⟨p, 0, none⟩)] w (RPost W0 A c l all p (clR s)) := by
 obtain ⟨path, ser, vp, vs, vl, hrel, hpsl, HA⟩ := H
 have HQ := zh hpsl
 clear hpsl
 by_cases he : s.e = 0
 ·obtain ⟨rfl, rfl⟩ := hrel he
  obtain ⟨hp1, hf1⟩ := hf he
  obtain ⟨w0, hw0⟩ : ∃ V, w.drew = V := ⟨_, rfl⟩
  have hb : Below w.heap.size w w0 := by rw [← hw0]; exact (Below.refl _ w).drew
  have hA0 := HA.moved hb
  rw [he] at hA0
  obtain ⟨g, cap, rfl, hcap, hmx, hpop⟩ := hA0.popped hp1
  obtain ⟨q0, q1, q2, q3, q4, q5, q6, q7⟩ := HA.cell
  rw [he] at q7
  obtain ⟨m, hm⟩ : ∃ m, s.path.length = m + 1 := ⟨s.path.length - 1, by omega⟩
  obtain ⟨m1, hm1⟩ : ∃ m1, m + 1 = m1 := ⟨_, rfl⟩
  have hmm := HA.pl
  have fz : w.frozen? ⟨p, 2, none⟩ = false := by simp [World.frozen?, HA.box]
  unfold fitR at hf1
  rw [hm, Nat.add_sub_cancel] at hpop
  rw [hm, hm1] at q2 hcap
  have g1 : IntKind.i64.wrap ((m1 : Int) - 1) = m := by rw [IntKind.wrap_i64]; omega
  have g2 : wrap64 ((m1 : Int) - 1) = m := by unfold wrap64; omega
  have g5 : (0 : Int) ≤ m := by omega
  have g6 : (m : Int) ≤ cap := by omega
  have HPO := zh hpop
  have HOP : Hid (clR s = { s with path := s.path.dropLast }) := zh (by unfold clR; rw [if_pos he])
  have HE := zh he
  have HW0 := zh hw0
  clear hA0 HA he hf hrel hp1 hpop hm hm1 hmm hf1 hb hw0
  go_enter Tryz.func78, Tryz.ntmps78
  go_wp2
  go_region
  go_end0
  exact ⟨rfl, by rw [HOP.out]; exact ⟨_, _, _, _, _, fun _ => ⟨rfl, rfl⟩, HQ.out, by rw [HE.out]; have h := HPO.out; rw [← HW0.out] at h; exact h⟩⟩
 ·have HA0 := zh HA
  obtain ⟨q0, q1, q2, q3, q4, q5, q6, q7⟩ := HA.cell
  have g1 : (s.e == 0) = false := by rw [beq_eq_false_iff_ne]; exact he
  have HOP : Hid (clR s = s) := zh (clR_bad he)
  have HE : Hid (s.e = 0 → path = s.path ∧ ser = s.ser) := zh hrel
  clear HA hf hrel
  go_enter Tryz.func78, Tryz.ntmps78
  go_wp2
  go_end0
  exact ⟨rfl, by rw [HOP.out]; exact ⟨_, _, _, _, _, HE.out, HQ.out, HA0.out⟩⟩
def goodWR (s : ByteArray) : Bool := decide (0 < s.size) && !(bt s 0 == 64)
def lowWR (s : ByteArray) : Bool := decide (97 ≤ bt s 0) && decide (bt s 0 ≤ 122)
theorem code_wordR {s : ByteArray} (hs : goodWR s = true) (t : Tk) : ((t.f0 = (if lowWR s then 2 else 6)) ∧ t.f1 = s) ↔ codeOf t = s := by
 simp only [goodWR, Bool.and_eq_true, decide_eq_true_eq, Bool.not_eq_true', beq_eq_false_iff_ne, ne_eq] at hs
 obtain ⟨h0, h64⟩ := hs
 have hn : ∀ x : ByteArray, bt x 0 = 64 → ¬ x = s := fun x hx e => h64 (e ▸ hx)
 have e1 : bt ⟨#[64, 110, 97, 109, 101]⟩ 0 = 64 := by decide
 have e2 : bt ⟨#[64, 110, 117, 109, 98, 101, 114]⟩ 0 = 64 := by decide
 have e3 : bt ⟨#[64, 116, 101, 120, 116]⟩ 0 = 64 := by decide
 have e4 : bt ⟨#[64, 99, 104, 97, 114]⟩ 0 = 64 := by decide
 have e5 : bt ⟨#[64]⟩ 0 = 64 := by decide
 unfold codeOf codeF
 obtain ⟨t0, t1, ⟨t2, t3, t4⟩, t5⟩ := t
 dsimp only
 by_cases c1 : t0 = 1
 ·subst c1
  simp only [if_true, Option.getD_some]
  refine ⟨fun h => ?_, fun h => absurd h (hn _ e1)⟩
  have := h.1; split at this <;> omega
 rw [if_neg c1]
 by_cases c3 : t0 = 3
 ·subst c3
  simp only [if_true, Option.getD_some]
  refine ⟨fun h => ?_, fun h => absurd h (hn _ e2)⟩
  have := h.1; split at this <;> omega
 rw [if_neg c3]
 by_cases c4 : t0 = 4
 ·subst c4
  simp only [if_true, Option.getD_some]
  refine ⟨fun h => ?_, fun h => absurd h (hn _ e3)⟩
  have := h.1; split at this <;> omega
 rw [if_neg c4]
 by_cases c5 : t0 = 5
 ·subst c5
  simp only [if_true, Option.getD_some]
  refine ⟨fun h => ?_, fun h => absurd h (hn _ e4)⟩
  have := h.1; split at this <;> omega
 rw [if_neg c5]
 by_cases c2 : t0 = 2
 ·subst c2
  simp only [if_true]
  by_cases hz : (t1.size : Int) > 0
  ·have hz' : 0 < (t1.size : Int) := hz
   rw [if_pos hz, if_pos hz']
   by_cases ha : bt t1 0 ≥ 97
   ·rw [if_pos ha]
    by_cases hb : bt t1 0 ≤ 122
    ·rw [if_pos hb]
     simp only [Option.getD_some]
     constructor
     ·exact fun h => h.2
     ·intro h
      subst h
      refine ⟨?_, rfl⟩
      rw [if_pos (by simp [lowWR]; omega)]
    ·rw [if_neg hb]
     simp only [Option.getD_some]
     refine ⟨fun h => ?_, fun h => absurd h (hn _ e5)⟩
     obtain ⟨h1, h2⟩ := h
     subst h2
     rw [if_neg (by simp [lowWR]; omega)] at h1
     omega
   ·rw [if_neg ha]
    simp only [Option.getD_some]
    refine ⟨fun h => ?_, fun h => absurd h (hn _ e5)⟩
    obtain ⟨h1, h2⟩ := h
    subst h2
    rw [if_neg (by simp [lowWR]; omega)] at h1
    omega
  ·rw [if_neg hz]
   simp only [Option.getD_some]
   refine ⟨fun h => ?_, fun h => absurd h (hn _ e5)⟩
   obtain ⟨h1, h2⟩ := h
   subst h2
   omega
 rw [if_neg c2]
 by_cases c6 : t0 = 6
 ·subst c6
  simp only [if_true]
  by_cases hz : (t1.size : Int) > 0
  ·have hz' : 0 < (t1.size : Int) := hz
   rw [if_pos hz, if_pos hz']
   by_cases ha : bt t1 0 < 97
   ·rw [if_pos ha]
    by_cases hb : bt t1 0 = 64
    ·rw [if_pos hb]
     simp only [Option.getD_some]
     refine ⟨fun h => ?_, fun h => absurd h (hn _ e5)⟩
     obtain ⟨h1, h2⟩ := h
     subst h2
     exact absurd hb h64
    ·rw [if_neg hb]
     simp only [Option.getD_some]
     constructor
     ·exact fun h => h.2
     ·intro h
      subst h
      refine ⟨?_, rfl⟩
      rw [if_neg (by simp [lowWR]; omega)]
   ·rw [if_neg ha]
    by_cases hc : bt t1 0 > 122
    ·rw [if_pos hc]
     by_cases hb : bt t1 0 = 64
     ·omega
     ·rw [if_neg hb]
      simp only [Option.getD_some]
      constructor
      ·exact fun h => h.2
      ·intro h
       subst h
       refine ⟨?_, rfl⟩
       rw [if_neg (by simp [lowWR]; omega)]
    ·rw [if_neg hc]
     simp only [Option.getD_some]
     refine ⟨fun h => ?_, fun h => absurd h (hn _ e5)⟩
     obtain ⟨h1, h2⟩ := h
     subst h2
     rw [if_pos (by simp [lowWR]; omega)] at h1
     omega
  ·rw [if_neg hz]
   simp only [Option.getD_some]
   refine ⟨fun h => ?_, fun h => absurd h (hn _ e5)⟩
   obtain ⟨h1, h2⟩ := h
   subst h2
   omega
 rw [if_neg c6]
 simp only [Option.getD_some]
 refine ⟨fun h => ?_, fun h => absurd h (hn _ e5)⟩
 have := h.1; split at this <;> omega
theorem rd_ofR {l : List Tk} {i : Nat} {t : Tk} (h : l[i]? = some t) : PSyntaxProgram.rd_T28 l i = t := by simp [PSyntaxProgram.rd_T28, List.getD_eq_getElem?_getD, h]
theorem rd_getR (l : List Tk) (i : Nat) (hi : i < l.length) : l[i]? = some (PSyntaxProgram.rd_T28 l i) := by
 rw [rd_ofR (List.getElem?_eq_getElem hi)]
 exact List.getElem?_eq_getElem hi
theorem idx4R {i n : Nat} (h : i < n) (hn : n ≤ 4194304) : (i : Int) < (n : Int) ∧ (0 : Int) ≤ (i : Int) ∧ wrap64 ((i : Int) + 1) = (i : Int) + 1 ∧ IntKind.i64.wrap ((i : Int) + 1) = (i : Int) + 1 := by
 simp only [IntKind.wrap_i64]
 unfold wrap64
 omega
theorem str_neR {a b : ByteArray} (h : ¬ a = b) : (a.toList == b.toList) = false := by
 rw [beq_eq_false_iff_ne]
 intro e
 apply h
 have := congrArg List.toArray e
 have h2 : a.data = b.data := by simpa [ByteArray.toList_eq] using this
 cases a; cases b
 simpa using h2
theorem code_kindR {t : Tk} {k : Int} {x : ByteArray} (h : (k = 1 ∧ x = ⟨#[64, 110, 97, 109, 101]⟩) ∨ (k = 3 ∧ x = ⟨#[64, 110, 117, 109, 98, 101, 114]⟩) ∨ (k = 4 ∧ x = ⟨#[64, 116, 101, 120, 116]⟩) ∨ (k = 5 ∧ x = ⟨#[64, 99, 104, 97, 114]⟩)) : (t.f0 == k) = true ↔ codeOf t = x := by
 rw [beq_iff_eq]
 have hx : bt x 0 = 64 := by rcases h with ⟨-, rfl⟩ | ⟨-, rfl⟩ | ⟨-, rfl⟩ | ⟨-, rfl⟩ <;> decide
 constructor
 ·intro h1
  unfold codeOf codeF
  rw [h1]
  rcases h with ⟨rfl, rfl⟩ | ⟨rfl, rfl⟩ | ⟨rfl, rfl⟩ | ⟨rfl, rfl⟩ <;> rfl
 ·intro h1
  have hn : ∀ y : ByteArray, ¬ bt y 0 = 64 → ¬ y = x := fun y hy e => hy (by rw [e]; exact hx)
  unfold codeOf codeF at h1
  by_cases c1 : t.f0 = 1
  ·rw [if_pos c1] at h1
   rcases h with ⟨rfl, rfl⟩ | ⟨rfl, rfl⟩ | ⟨rfl, rfl⟩ | ⟨rfl, rfl⟩
   ·exact c1
   all_goals exact absurd h1 (by decide)
  rw [if_neg c1] at h1
  by_cases c3 : t.f0 = 3
  ·rw [if_pos c3] at h1
   rcases h with ⟨rfl, rfl⟩ | ⟨rfl, rfl⟩ | ⟨rfl, rfl⟩ | ⟨rfl, rfl⟩
   ·exact absurd h1 (by decide)
   ·exact c3
   all_goals exact absurd h1 (by decide)
  rw [if_neg c3] at h1
  by_cases c4 : t.f0 = 4
  ·rw [if_pos c4] at h1
   rcases h with ⟨rfl, rfl⟩ | ⟨rfl, rfl⟩ | ⟨rfl, rfl⟩ | ⟨rfl, rfl⟩
   ·exact absurd h1 (by decide)
   ·exact absurd h1 (by decide)
   ·exact c4
   ·exact absurd h1 (by decide)
  rw [if_neg c4] at h1
  by_cases c5 : t.f0 = 5
  ·rw [if_pos c5] at h1
   rcases h with ⟨rfl, rfl⟩ | ⟨rfl, rfl⟩ | ⟨rfl, rfl⟩ | ⟨rfl, rfl⟩
   ·exact absurd h1 (by decide)
   ·exact absurd h1 (by decide)
   ·exact absurd h1 (by decide)
   ·exact c5
  rw [if_neg c5] at h1
  exfalso
  repeat' split at h1
  all_goals first
   | (simp only [Option.getD_some] at h1; exact hn _ (by omega) h1)
   | (simp only [Option.getD_some] at h1; rcases h with ⟨-, rfl⟩ | ⟨-, rfl⟩ | ⟨-, rfl⟩ | ⟨-, rfl⟩ <;> exact absurd h1 (by decide))
   | (simp only [Option.getD_none] at h1; rcases h with ⟨-, rfl⟩ | ⟨-, rfl⟩ | ⟨-, rfl⟩ | ⟨-, rfl⟩ <;> exact absurd h1 (by decide))
def kdR (l : List Tk) (s : RS) (k : Int) : Bool := s.e == 0 && (match l[s.i]? with
 | some t => t.f0 == k
 | none => false)
theorem kdR_code {l : List Tk} {s : RS} {k : Int} {x : ByteArray} (h : (k = 1 ∧ x = ⟨#[64, 110, 97, 109, 101]⟩) ∨ (k = 3 ∧ x = ⟨#[64, 110, 117, 109, 98, 101, 114]⟩) ∨ (k = 4 ∧ x = ⟨#[64, 116, 101, 120, 116]⟩) ∨ (k = 5 ∧ x = ⟨#[64, 99, 104, 97, 114]⟩)) : kdR l s k = cdR l s x := by
 unfold kdR cdR
 cases l[s.i]? with
 | none => rfl
 | some t =>
  congr 1
  rw [Bool.eq_iff_iff, code_kindR h, decide_eq_true_iff]
theorem kdR_true {l : List Tk} {s : RS} {k : Int} (h : kdR l s k = true) : s.e = 0 ∧ ∃ t, l[s.i]? = some t ∧ t.f0 = k := by
 unfold kdR at h
 rw [Bool.and_eq_true, beq_iff_eq] at h
 refine ⟨h.1, ?_⟩
 cases ht : l[s.i]? with
 | none => rw [ht] at h; simp at h
 | some t => rw [ht] at h; exact ⟨t, rfl, by simpa using h.2⟩
theorem word_of {l : List Tk} {s : RS} {x : ByteArray} (hx : goodWR x = true) (h : kdR l s (if lowWR x then 2 else 6) = false) : cdR l s x = false := by
 unfold kdR at h
 unfold cdR
 cases he : (s.e == 0) with
 | false => rfl
 | true =>
  rw [he, Bool.true_and] at h
  rw [Bool.true_and]
  cases ht : l[s.i]? with
  | none => rfl
  | some t =>
   rw [ht] at h
   refine decide_eq_false (fun e => ?_)
   have := ((code_wordR hx t).2 e).1
   rw [← this] at h
   simp at h
theorem word_at {l : List Tk} {s : RS} {x : ByteArray} (hx : goodWR x = true) {t : Tk} (he : s.e = 0) (ht : l[s.i]? = some t) (hk : t.f0 = if lowWR x then 2 else 6) : cdR l s x = (t.f1.toList == x.toList) := by
 unfold cdR
 rw [he, ht]
 simp only [beq_self_eq_true, Bool.true_and]
 by_cases h : t.f1 = x
 ·rw [decide_eq_true ((code_wordR hx t).1 ⟨hk, h⟩), h, beq_self_eq_true]
 ·rw [str_neR h, decide_eq_false (fun e => h ((code_wordR hx t).2 e).2)]
theorem rkind_any {W0 : World} {A : Option Addr} {c : Nat} {l : List Tk} {all : Bool} {w : World} {p : Nat} {s : RS} (H : RMem W0 A c l all w p s) (k : Nat) :
  Calls Tryz.prog 72 #[.pointer (some ⟨p, 0, none⟩), .int .u8 k] w (BPost W0 A c l all p s (kdR l s k) w) := by
 obtain ⟨path, ser, vp, vs, vl, hrel, hpsl, HA⟩ := H
 have HQ := zh hpsl
 have HE : Hid (s.e = 0 → path = s.path ∧ ser = s.ser) := zh hrel
 obtain ⟨q0, q1, q2, q3, q4, q5, q6, q7⟩ := HA.cell
 have HA0 := zh HA
 clear hpsl hrel
 by_cases he : s.e = 0
 ·have q7' := q7
  rw [he] at q7'
  by_cases hi : s.i < l.length
  ·obtain ⟨ad, hAd, htc⟩ := tok_cells HA.toks s.i hi
   have hg := rd_getR l s.i hi
   obtain ⟨t, ht⟩ : ∃ t, PSyntaxProgram.rd_T28 l s.i = t := ⟨_, rfl⟩
   rw [ht] at htc hg
   subst hAd
   obtain ⟨c0, -, -, -, -, -⟩ := htc w HA.below
   obtain ⟨g1, g2, g3, g4⟩ := idx4R hi HA.len
   have g5 : decide ((s.i : Int) < (l.length : Int)) = true := decide_eq_true g1
   obtain ⟨m, hm⟩ : ∃ m, (t.f0 == (k : Int)) = m := ⟨_, rfl⟩
   have HK : Hid (kdR l s k = m) := zh (by unfold kdR; rw [he, hg]; simpa using hm)
   clear HA hi htc hg ht q7 he
   go_enter Tryz.func72, Tryz.ntmps72
   go_wp2
   go_quiet (fail)
   go_wp2
   go_ret
   exact ⟨by rw [HK.out]; rfl, RMem.moved ⟨_, _, _, _, _, HE.out, HQ.out, HA0.out⟩ (below_drewN (Below.refl _ _) _), below_drewN (Below.refl _ _) _⟩
  ·have g1 : decide ((s.i : Int) < (l.length : Int)) = false := decide_eq_false (by omega)
   have g2 : ¬ (s.i : Int) < (l.length : Int) := by omega
   have g3 : decide (s.i < l.length) = false := decide_eq_false (by omega)
   have HK : Hid (kdR l s k = false) := zh (by unfold kdR; rw [List.getElem?_eq_none (by omega), Bool.and_false])
   clear HA hi q7 he
   go_enter Tryz.func72, Tryz.ntmps72
   go_wp2
   go_quiet (fail)
   go_wp2
   go_ret
   exact ⟨by rw [HK.out]; rfl, RMem.moved ⟨_, _, _, _, _, HE.out, HQ.out, HA0.out⟩ (below_drewN (Below.refl _ _) _), below_drewN (Below.refl _ _) _⟩
 ·have g1 : (s.e == 0) = false := by rw [beq_eq_false_iff_ne]; exact he
  have HK : Hid (kdR l s k = false) := zh (by unfold kdR; rw [g1, Bool.false_and])
  clear HA
  go_enter Tryz.func72, Tryz.ntmps72
  go_wp2
  go_quiet (fail)
  go_wp2
  go_ret
  exact ⟨by rw [HK.out]; rfl, RMem.moved ⟨_, _, _, _, _, HE.out, HQ.out, HA0.out⟩ (below_drewN (Below.refl _ _) _), below_drewN (Below.refl _ _) _⟩
theorem rword_any {W0 : World} {A : Option Addr} {c : Nat} {l : List Tk} {all : Bool} {w : World} {p : Nat} {s : RS} (H : RMem W0 A c l all w p s) (x : ByteArray) (hx : goodWR x = true) (hl : lowWR x = true) :
  Calls Tryz.prog 70 #[.pointer (some ⟨p, 0, none⟩), .string x] w (BPost W0 A c l all p s (cdR l s x) w) := by
 have hkd := rkind_any H 2
 cases hk : kdR l s 2 with
 | false =>
  have hcd : cdR l s x = false := word_of hx (by rw [hl]; exact hk)
  rw [show (((2 : Nat)) : Int) = 2 from rfl, hk] at hkd
  have HKD := zh hkd
  have HC := zh hcd
  clear hkd hcd hk H
  go_enter Tryz.func70, Tryz.ntmps70
  go_wp2_with (first
   | (go_at_call 72; (with_reducible refine cM HKD.out ?_); rintro e w1 ⟨rfl, h, hB⟩; have HB1 := zh hB; have HM1 := zh h; clear h hB))
  go_quiet (fail)
  go_wp2
  go_ret
  exact ⟨by rw [HC.out]; rfl, HM1.out.moved (below_drewN (Below.refl _ _) _), below_drewN HB1.out _⟩
 | true =>
  obtain ⟨he, t, ht, hf⟩ := kdR_true hk
  have hi : s.i < l.length := (List.getElem?_eq_some_iff.1 ht).1
  obtain ⟨_, _, _, _, _, _, _, HA⟩ := H
  obtain ⟨ad, hAd, htc⟩ := tok_cells HA.toks s.i hi
  rw [rd_ofR ht] at htc
  have hlen := HA.len
  subst hAd
  obtain ⟨m, hm⟩ : ∃ m, (t.f1.toList == x.toList) = m := ⟨_, rfl⟩
  have hcd : cdR l s x = m := by rw [word_at hx he ht (by rw [hl]; exact hf)]; exact hm
  obtain ⟨g1, g2, g3, g4⟩ := idx4R hi hlen
  rw [show (((2 : Nat)) : Int) = 2 from rfl, hk] at hkd
  have HKD := zh hkd
  have HC := zh hcd
  have HTC := zh htc
  clear hkd hcd hk HA ht hf he hi htc hlen
  go_enter Tryz.func70, Tryz.ntmps70
  go_wp2_with (first
   | (go_at_call 72; (with_reducible refine cM HKD.out ?_); rintro e w1 ⟨rfl, h, hB⟩; have HB1 := zh hB; clear hB; obtain ⟨path1, ser1, vp1, vs1, vl1, hrel1, hps1, HA1⟩ := h; have HM1 := zh (And.intro hrel1 (And.intro hps1 HA1)); obtain ⟨q0, q1, q2, q3, q4, q5, q6, q7⟩ := HA1.cell; have hcc := HTC.out w1 HA1.below; obtain ⟨-, c1, -, -, -, -⟩ := hcc; clear hrel1 hps1 HA1))
  go_quiet (fail)
  go_wp2
  go_ret
  exact ⟨by rw [HC.out]; rfl, RMem.moved ⟨_, _, _, _, _, HM1.out.1, HM1.out.2.1, HM1.out.2.2⟩ (below_drewN (Below.refl _ _) _), below_drewN HB1.out _⟩
theorem rsign_any {W0 : World} {A : Option Addr} {c : Nat} {l : List Tk} {all : Bool} {w : World} {p : Nat} {s : RS} (H : RMem W0 A c l all w p s) (x : ByteArray) (hx : goodWR x = true) (hl : lowWR x = false) :
  Calls Tryz.prog 73 #[.pointer (some ⟨p, 0, none⟩), .string x] w (BPost W0 A c l all p s (cdR l s x) w) := by
 have hkd := rkind_any H 6
 cases hk : kdR l s 6 with
 | false =>
  have hcd : cdR l s x = false := word_of hx (by rw [hl]; exact hk)
  rw [show (((6 : Nat)) : Int) = 6 from rfl, hk] at hkd
  have HKD := zh hkd
  have HC := zh hcd
  clear hkd hcd hk H
  go_enter Tryz.func73, Tryz.ntmps73
  go_wp2_with (first
   | (go_at_call 72; (with_reducible refine cM HKD.out ?_); rintro e w1 ⟨rfl, h, hB⟩; have HB1 := zh hB; have HM1 := zh h; clear h hB))
  go_quiet (fail)
  go_wp2
  go_ret
  exact ⟨by rw [HC.out]; rfl, HM1.out.moved (below_drewN (Below.refl _ _) _), below_drewN HB1.out _⟩
 | true =>
  obtain ⟨he, t, ht, hf⟩ := kdR_true hk
  have hi : s.i < l.length := (List.getElem?_eq_some_iff.1 ht).1
  obtain ⟨_, _, _, _, _, _, _, HA⟩ := H
  obtain ⟨ad, hAd, htc⟩ := tok_cells HA.toks s.i hi
  rw [rd_ofR ht] at htc
  have hlen := HA.len
  subst hAd
  obtain ⟨m, hm⟩ : ∃ m, (t.f1.toList == x.toList) = m := ⟨_, rfl⟩
  have hcd : cdR l s x = m := by rw [word_at hx he ht (by rw [hl]; exact hf)]; exact hm
  obtain ⟨g1, g2, g3, g4⟩ := idx4R hi hlen
  rw [show (((6 : Nat)) : Int) = 6 from rfl, hk] at hkd
  have HKD := zh hkd
  have HC := zh hcd
  have HTC := zh htc
  clear hkd hcd hk HA ht hf he hi htc hlen
  go_enter Tryz.func73, Tryz.ntmps73
  go_wp2_with (first
   | (go_at_call 72; (with_reducible refine cM HKD.out ?_); rintro e w1 ⟨rfl, h, hB⟩; have HB1 := zh hB; clear hB; obtain ⟨path1, ser1, vp1, vs1, vl1, hrel1, hps1, HA1⟩ := h; have HM1 := zh (And.intro hrel1 (And.intro hps1 HA1)); obtain ⟨q0, q1, q2, q3, q4, q5, q6, q7⟩ := HA1.cell; have hcc := HTC.out w1 HA1.below; obtain ⟨-, c1, -, -, -, -⟩ := hcc; clear hrel1 hps1 HA1))
  go_quiet (fail)
  go_wp2
  go_ret
  exact ⟨by rw [HC.out]; rfl, RMem.moved ⟨_, _, _, _, _, HM1.out.1, HM1.out.2.1, HM1.out.2.2⟩ (below_drewN (Below.refl _ _) _), below_drewN HB1.out _⟩
theorem rwrong_any {W0 : World} {A : Option Addr} {c : Nat} {l : List Tk} {all : Bool} {w : World} {p : Nat} {s : RS} (H : RMem W0 A c l all w p s) :
  Calls Tryz.prog 101 #[.pointer (some ⟨p, 0, none⟩)] w (RPost W0 A c l all p (wrR l s)) := by
 obtain ⟨path, ser, vp, vs, vl, hrel, hpsl, HA⟩ := H
 have HQ := zh hpsl
 have HE : Hid (s.e = 0 → path = s.path ∧ ser = s.ser) := zh hrel
 obtain ⟨q0, q1, q2, q3, q4, q5, q6, q7⟩ := HA.cell
 have HA0 := zh HA
 clear hpsl hrel
 by_cases he : s.e = 0
 ·rw [he] at q7
  by_cases hi : s.i < l.length
  ·have g1 : (s.i : Int) < (l.length : Int) := by omega
   have g5 : decide ((s.i : Int) < (l.length : Int)) = true := decide_eq_true g1
   have HW : Hid (wrR l s = badR 120 s) := zh (by unfold wrR; rw [if_pos he, if_pos hi])
   clear HA hi he
   go_enter Tryz.func101, Tryz.ntmps101
   go_wp2
   go_quiet (fail)
   obtain ⟨w0, hw0⟩ : ∃ V, w.drewN nq = V := ⟨_, rfl⟩
   rw [hw0]
   replace HA0 := zh (show RAt W0 A c l all w0 p s.i path ser s.paths s.last s.e vp vs vl by rw [← hw0]; exact HA0.out.moved (below_drewN (Below.refl _ _) _))
   clear hw0 q0 q1 q2 q3 q4 q5 q6 q7
   obtain ⟨q0, q1, q2, q3, q4, q5, q6, q7⟩ := HA0.out.cell
   go_wp2_with (first
    | ((with_reducible refine gate_ (.store 33 (.tmp 21) (.const (.int .i64 120))) rfl ?_); refine wl_cells rfl rfl _ _ _ rfl (g := p) (off := 7) (.int .i64 120) [.int .i64 120] rfl rfl rfl (by kernel_rfl) (fun v hv => by rw [List.mem_singleton.1 hv]; rfl) HA0.out.box (by simp) ?_; intro V1 hV; have hA := HA0.out.upd 7 (.int .i64 120) (by decide) (i' := s.i) (ser' := ser) (e' := 120) rfl HA0.out.ile (Nat.le_refl _); rw [← hV] at hA; have HA1 := zh hA; clear hA hV))
   go_end0
   exact ⟨rfl, by rw [HW.out]; exact ⟨_, _, _, _, _, fun h => absurd h (show ¬ ((120 : Int) = 0) by decide), HQ.out, HA1.out⟩⟩
  ·have g1 : decide ((s.i : Int) < (l.length : Int)) = false := decide_eq_false (by omega)
   have g2 : ¬ (s.i : Int) < (l.length : Int) := by omega
   have g3 : decide (s.i < l.length) = false := decide_eq_false (by omega)
   have HW : Hid (wrR l s = badR 121 s) := zh (by unfold wrR; rw [if_pos he, if_neg hi])
   have HZ := zh he
   clear HA hi he
   go_enter Tryz.func101, Tryz.ntmps101
   go_wp2
   go_quiet (fail)
   obtain ⟨w0, hw0⟩ : ∃ V, w.drewN nq = V := ⟨_, rfl⟩
   rw [hw0]
   replace HA0 := zh (show RAt W0 A c l all w0 p s.i path ser s.paths s.last s.e vp vs vl by rw [← hw0]; exact HA0.out.moved (below_drewN (Below.refl _ _) _))
   clear hw0 q0 q1 q2 q3 q4 q5 q6 q7
   obtain ⟨q0, q1, q2, q3, q4, q5, q6, q7⟩ := HA0.out.cell
   rw [HZ.out] at q7
   go_wp2_with (first
    | ((with_reducible refine gate_ (.store 33 (.tmp 29) (.const (.int .i64 121))) rfl ?_); refine wl_cells rfl rfl _ _ _ rfl (g := p) (off := 7) (.int .i64 121) [.int .i64 121] rfl rfl rfl (by kernel_rfl) (fun v hv => by rw [List.mem_singleton.1 hv]; rfl) HA0.out.box (by simp) ?_; intro V1 hV; have hA := HA0.out.upd 7 (.int .i64 121) (by decide) (i' := s.i) (ser' := ser) (e' := 121) rfl HA0.out.ile (Nat.le_refl _); rw [← hV] at hA; have HA1 := zh hA; clear hA hV))
   go_end0
   exact ⟨rfl, by rw [HW.out]; exact ⟨_, _, _, _, _, fun h => absurd h (show ¬ ((121 : Int) = 0) by decide), HQ.out, HA1.out⟩⟩
 ·have g1 : (s.e == 0) = false := by rw [beq_eq_false_iff_ne]; exact he
  have HW : Hid (wrR l s = s) := zh (wrR_bad he)
  clear HA
  go_enter Tryz.func101, Tryz.ntmps101
  go_wp2
  go_quiet (fail)
  go_wp2
  go_end0
  exact ⟨rfl, by rw [HW.out]; exact RMem.moved ⟨_, _, _, _, _, HE.out, HQ.out, HA0.out⟩ (below_drewN (Below.refl _ _) _)⟩
theorem wl_copy {ops : Array Oper} {rest : List Oper} {o : Oper} {a : Act} {Q : Exit → Act → World → Prop} {W : World} {e t : TypeId} {z : Value} {size bytes : Nat} (hinfo : (Tryz.prog.info? e).map (fun i => (i.zero, i.size, i.bytes)) = some (some z, size, bytes)) (hund : Tryz.prog.underlying t = some (.slice e)) (hz : z.cells.size = size) (hpos : 0 < size) (hbt : 0 < bytes)
  (hgd : o.guard = none) (s x : Operand) (ho : o.op = .call { callee := .builtin .append, args := #[s, x], argTypes := #[t, t] }) (base : Nat) (hs : a.eval s = .slice none 0 0)
  {v : Value} {m b2 : Nat} {news : List Value} (hx : a.eval x = v) (hrow : W.ownsRow b2 e size v m news) (h1 : ∀ u ∈ news, u.oneCell' = true) (hm : 0 < m) (hl : m * bytes ≤ 140737488355328) (hbase : base ≤ W.heap.size)
  (h : ∀ g1 c1 w1, w1.ownsRow base e size (.slice (some ⟨g1, 0, none⟩) m c1) m news → Below W.heap.size W w1 → W.heap.size ≤ g1 → wpList Tryz.prog ops Q rest (a.put o.dst (.slice (some ⟨g1, 0, none⟩) m c1)) w1) : wpList Tryz.prog ops Q (o :: rest) a W := by
 obtain ⟨i0, hi, hzz⟩ := Option.map_eq_some_iff.1 hinfo
 simp only [Prod.mk.injEq] at hzz
 obtain ⟨hz0, hz1, hz2⟩ := hzz
 have hmm : m ≤ 140737488355328 := Nat.le_trans (Nat.le_mul_of_pos_right _ hbt) hl
 obtain ⟨gx, cx, rfl, -, -⟩ := hrow.form hm
 refine wpList_append_lies W hgd s x t ho base e i0 _ size bytes hund hi hz0 hz1 hz2 hz hpos (.slice none 0 0) 0 [] hs (own_nil W base e size) ⟨gx, 0, none⟩ m cx news hx hrow.1 (row_news hrow) h1 hm (by simp only [maxLen]; omega) (by rw [Nat.zero_add]; exact hl) hbase W.heap.size rfl (fun g1 c1 w1 h2 h3 h4 _ => ?_)
 rw [Nat.zero_add] at h2 ⊢
 rw [List.nil_append] at h2
 refine h g1 c1 w1 h2 ⟨h3.os, h3.tape, h3.output, h3.size, fun k hk => h3.block k hk (by simp [Value.ownBlock])⟩ ?_
 rcases h4 with h4 | h4
 ·cases h4
 ·omega
theorem wl_app1 {ops : Array Oper} {rest : List Oper} {o : Oper} {a : Act} {Q : Exit → Act → World → Prop} {W : World} {e t : TypeId} {z : Value} {size bytes : Nat} (hinfo : (Tryz.prog.info? e).map (fun i => (i.zero, i.size, i.bytes)) = some (some z, size, bytes)) (hund : Tryz.prog.underlying t = some (.slice e)) (hz : z.cells.size = size) (hpos : 0 < size) (hbt : 0 < bytes)
  (hgd : o.guard = none) (s x : Operand) (ho : o.op = .call { callee := .builtin .append, args := #[s, x], argTypes := #[t, t] }) (base : Nat) {u : Value} {q : Nat} {kc cs : List Value} (hs : a.eval s = u) (hx : a.eval x = .slice (some ⟨W.heap.size, 0, none⟩) 1 1)
  (HO : W.ownsRow base e size u q kc) (hcs : cs.length = size) (h1 : ∀ v ∈ cs, v.oneCell' = true) (hbase : base ≤ W.heap.size) (hl : (q + 1) * bytes ≤ 140737488355328)
  (h : ∀ g1 c1 w1, w1.ownsRow base e size (.slice (some ⟨g1, 0, none⟩) (q + 1) c1) (q + 1) (kc ++ cs) → W.grownBy w1 u.ownBlock → (u.ownBlock = some g1 ∨ W.heap.size < g1) → wpList Tryz.prog ops Q rest (a.put o.dst (.slice (some ⟨g1, 0, none⟩) (q + 1) c1)) w1) : wpList Tryz.prog ops Q (o :: rest) a (W.alloc (.cells cs.toArray e)) := by
 refine wpList_plain hgd fun K hK => ?_
 obtain ⟨g1, c1, w1, hr, h1, h2, h3⟩ := run_app1 hinfo hund hz hpos hbt base o.type HO hcs h1 hbase hl
 unfold Oper.wp execOp
 simp only [ho, resolve, invoke, builtin, Sem.run_bind, Sem.run_pure, Result.andThen_ok, List.map_toArray, List.map_cons, List.map_nil, hs, hx, hr]
 exact hK _ _ (h g1 c1 w1 h1 h2 h3)
theorem rtake_any {W0 : World} {A : Option Addr} {c : Nat} {l : List Tk} {all : Bool} {w : World} {p : Nat} {s : RS} (H : RMem W0 A c l all w p s) (right : Bool) (hr : right = true → s.e = 0 ∧ s.i < l.length ∧ fitR s) :
  Calls Tryz.prog 71 #[.pointer (some ⟨p, 0, none⟩), .bool right] w (RPost W0 A c l all p (tkR l all right s)) := by
 cases right with
 | false =>
  have HWR := zh (rwrong_any H)
  have HTK : Hid (tkR l all false s = wrR l s) := zh (if_neg (by decide))
  clear H hr
  go_enter Tryz.func71, Tryz.ntmps71
  go_wp2_with (first
   | (go_at_call 101; (with_reducible refine cM HWR.out ?_); rintro e w1 ⟨rfl, h⟩; have HM1 := zh h; clear h))
  refine ⟨rfl, .tuple #[], by kernel_rfl, ?_⟩
  exact ⟨rfl, by rw [HTK.out]; exact HM1.out⟩
 | true =>
  obtain ⟨he, hi, hf⟩ := hr rfl
  unfold fitR at hf
  obtain ⟨path, ser, vp, vs, vl, hrel, hpsl, HA⟩ := H
  obtain ⟨rfl, rfl⟩ := hrel he
  have HQ := zh hpsl
  rw [he] at HA
  obtain ⟨Ap, cp, hv, -⟩ := row_slice HA.row
  obtain ⟨n, hn⟩ : ∃ n, s.path.length = n := ⟨_, rfl⟩
  rw [hn] at hv
  subst hv
  have hsl := HA.pl
  have HNP : Hid (0 < n ∧ s.path.length = n ∧ n ≤ 1099511627776) := zh ⟨by omega, hn, by omega⟩
  have HA0 := zh HA
  obtain ⟨q0, q1, q2, q3, q4, q5, q6, q7⟩ := HA.cell
  obtain ⟨j, hj⟩ : ∃ j, s.i + 1 = j := ⟨_, rfl⟩
  have HJ : Hid (s.i + 1 = j ∧ s.i < l.length) := zh ⟨hj, hi⟩
  have hlen := HA.len
  obtain ⟨g3, g4⟩ := inc_nums (n := s.i) (by omega)
  rw [hj] at g3 g4
  obtain ⟨M, hM⟩ : ∃ M, l.length = M + 1 := ⟨l.length - 1, by omega⟩
  have g5 : IntKind.i64.wrap ((l.length : Int) - 1) = M := by rw [IntKind.wrap_i64]; omega
  have g6 : wrap64 ((l.length : Int) - 1) = M := by unfold wrap64; omega
  by_cases hd : 1000 < n
  ·have g1 : (1000 : Int) < n := by omega
   have g2 : (n : Int) > 1000 := g1
   have HTK : Hid (tkR l all true s = badR 122 s) := zh (by unfold tkR; rw [if_pos rfl, if_pos (by omega)])
   clear HA hpsl hrel he hi hf hn hsl hj hlen hM hr
   go_enter Tryz.func71, Tryz.ntmps71
   go_wp2_with (first
    | ((with_reducible refine gate_ (.store 33 (.tmp 17) (.const (.int .i64 122))) rfl ?_); refine wl_cells rfl rfl _ _ _ rfl (g := p) (off := 7) (.int .i64 122) [.int .i64 122] rfl rfl rfl (by kernel_rfl) (fun v hv => by rw [List.mem_singleton.1 hv]; rfl) HA0.out.box (by simp) ?_; intro V1 hV; have hA := HA0.out.upd 7 (.int .i64 122) (by decide) (i' := s.i) (ser' := s.ser) (e' := 122) rfl HA0.out.ile (Nat.le_refl _); rw [← hV] at hA; have HA1 := zh hA; clear hA hV))
   refine ⟨rfl, .tuple #[], by kernel_rfl, ?_⟩
   refine ⟨rfl, ?_⟩
   rw [HTK.out]
   exact ⟨_, _, _, _, _, fun h => absurd h (show ¬ ((122 : Int) = 0) by decide), HQ.out, HA1.out⟩
  ·have g1 : ¬ (1000 : Int) < n := by omega
   have g2 : ¬ (n : Int) > 1000 := g1
   have HTK0 : Hid (tkR l all true s = { s with i := j, paths := if all = true ∨ j = l.length then s.paths ++ [s.path] else s.paths, last := if all = true ∨ j = l.length then s.path else s.last }) := zh (by unfold tkR; rw [if_pos rfl, if_neg (by omega), hj])
   have HE := zh he
   have HRW : Hid (stRow w p (.slice Ap n cp) s.path) := zh HA.row
   clear HRW
   clear HA hpsl hrel he hf hsl hlen hr
   cases all with
   | true =>
    have HTK : Hid (tkR l true true s = { i := j, path := s.path, ser := s.ser, paths := s.paths ++ [s.path], last := s.path, e := 0 }) := zh (by rw [HTK0.out, if_pos (.inl rfl), if_pos (.inl rfl), HE.out])
    clear HTK0 HE hi hn hj hM
    go_enter Tryz.func71, Tryz.ntmps71
    go_wp2
    go_quiet (fail)
    obtain ⟨w4, hw4⟩ : ∃ V, w.drewN nq = V := ⟨_, rfl⟩
    rw [hw4]
    have HA4 := zh (show RAt W0 A c l true w4 p s.i s.path s.ser s.paths s.last 0 (.slice Ap n cp) vs vl by rw [← hw4]; exact HA0.out.moved (below_drewN (Below.refl _ _) _))
    clear hw4 q0 q1 q2 q3 q4 q5 q6 q7
    obtain ⟨q0, q1, q2, q3, q4, q5, q6, q7⟩ := HA4.out.cell
    have HRW : Hid (w4.ownsRow p 68 2 (.slice Ap n cp) n (s.path.flatMap stCells)) := zh (by have h := HA4.out.row; unfold stRow at h; rw [HNP.out.2.1] at h; exact h)
    go_wp2_with (first
     | ((with_reducible refine gate_dst (N := 40) rfl ?_); refine wl_copy infoSt rfl rfl (by decide) (by decide) rfl (.tmp 35) (.tmp 39) rfl p rfl (v := .slice Ap n cp) (m := n) rfl HRW.out (st_one s.path) HNP.out.1 (by have := HNP.out; omega) (Nat.le_of_lt (blk_lt HA4.out.box)) ?_; intro g4 cp4 w5 ho hb hg; have HA5 := zh (HA4.out.moved hb); have HCO := zh (show CopyAt w5 p (.slice Ap n cp) (.slice (some ⟨g4, 0, none⟩) n cp4) s.path from ⟨by unfold stRow; rw [← HNP.out.2.1] at ho; rw [HNP.out.2.1]; rw [HNP.out.2.1] at ho; exact ho, fun g hgg e => by have h1 := own_lt HRW.out g e; have h2 : g4 = g := (by simpa [Value.ownBlock] using hgg); omega⟩); clear ho hb hg q0 q1 q2 q3 q4 q5 q6 q7; obtain ⟨q0, q1, q2, q3, q4, q5, q6, q7⟩ := HA5.out.cell)
     | ((with_reducible refine gate_dst (N := 48) rfl ?_); obtain ⟨sv, hsv1, hsv2⟩ := HA5.out.paths.out; refine wl_app1 (W := w5) infoPs rfl rfl (by decide) (by decide) rfl (.tmp 45) (.tmp 47) rfl p (u := vs) (q := s.paths.length) (kc := sv) (cs := [.slice (some ⟨g4, 0, none⟩) n cp4]) rfl rfl hsv1 rfl (fun v hv => by rw [List.mem_singleton.1 hv]; rfl) (Nat.le_of_lt (blk_lt HA5.out.box)) (by have := HQ.out; have := HA5.out.ile; have := HA5.out.len; omega) ?_; intro G1 C1 w6 ho hg hat; obtain ⟨⟨cur, hcur, hfit⟩, hnx⟩ := HA5.out.took HCO.out hsv2 (by have := hsv1.1; omega) ho hg; have HCU := zh (And.intro hcur hfit); have HNX := zh hnx; clear ho hg hat hcur hfit hnx hsv1 hsv2)
     | ((with_reducible refine gate_ (.store 64 (.tmp 50) (.tmp 48)) rfl ?_); refine wl_cells rfl rfl _ _ _ rfl (g := p) (off := 5) (.slice (some ⟨G1, 0, none⟩) (s.paths.length + 1) C1) [.slice (some ⟨G1, 0, none⟩) (s.paths.length + 1) C1] rfl rfl rfl (by kernel_rfl) (fun v hv => by rw [List.mem_singleton.1 hv]; rfl) HCU.out.1 HCU.out.2 ?_; intro V6 hV; have hN := HNX.out V6 hV; have HA6 := zh hN.1; have HC6 := zh hN.2; clear hN hV HNX HCU q0 q1 q2 q3 q4 q5 q6 q7; obtain ⟨q0, q1, q2, q3, q4, q5, q6, q7⟩ := HA6.out.cell)
     | ((with_reducible refine gate_ (.store 63 (.tmp 54) (.tmp 52)) rfl ?_); refine wl_cells rfl rfl _ _ _ rfl (g := p) (off := 6) (.slice (some ⟨g4, 0, none⟩) n cp4) [.slice (some ⟨g4, 0, none⟩) n cp4] rfl rfl rfl (by kernel_rfl) (fun v hv => by rw [List.mem_singleton.1 hv]; rfl) HA6.out.box (by simp) ?_; intro V7 hV; have hA := RAt.mk1 6 (.slice (some ⟨g4, 0, none⟩) n cp4) HA6.out.box (by simp) rfl HA6.out.row HA6.out.paths HC6.out HA6.out.below HA6.out.toks HA6.out.hp HA6.out.len HA6.out.ile HA6.out.pl; rw [← hV] at hA; have HA7 := zh hA; clear hA hV q0 q1 q2 q3 q4 q5 q6 q7; obtain ⟨q0, q1, q2, q3, q4, q5, q6, q7⟩ := HA7.out.cell)
     | ((with_reducible refine gate_ (.store 3 (.tmp 61) (.tmp 59)) rfl ?_); refine wl_cells rfl rfl _ _ _ rfl (g := p) (off := 1) (.int .i64 j) [.int .i64 j] rfl rfl rfl (by kernel_rfl) (fun v hv => by rw [List.mem_singleton.1 hv]; rfl) HA7.out.box (by simp) ?_; intro V8 hV; have hA := HA7.out.upd 1 (.int .i64 j) (by decide) (i' := j) (ser' := s.ser) (e' := 0) rfl (by have := HJ.out; omega) (Nat.le_refl _); rw [← hV] at hA; have HA8 := zh hA; clear hA hV))
    go_end0
    refine ⟨rfl, ?_⟩
    rw [HTK.out]
    exact ⟨_, _, _, _, _, fun _ => ⟨rfl, rfl⟩, by dsimp only; rw [List.length_append, List.length_singleton]; have := HQ.out; have := HJ.out; omega, HA8.out⟩
   | false =>
    by_cases hb : s.i = M
    ·have g7 : ((s.i : Int) == (M : Int)) = true := by rw [hb]; exact beq_self_eq_true _
     have HTK : Hid (tkR l false true s = { i := j, path := s.path, ser := s.ser, paths := s.paths ++ [s.path], last := s.path, e := 0 }) := zh (by rw [HTK0.out, if_pos (.inr (by omega)), if_pos (.inr (by omega)), HE.out])
     have g8 : (s.i : Int) = (M : Int) := by omega
     clear HTK0 HE hi hn hj hM hb
     go_enter Tryz.func71, Tryz.ntmps71
     go_wp2
     go_quiet (fail)
     obtain ⟨w4, hw4⟩ : ∃ V, w.drewN nq = V := ⟨_, rfl⟩
     rw [hw4]
     have HA4 := zh (show RAt W0 A c l false w4 p s.i s.path s.ser s.paths s.last 0 (.slice Ap n cp) vs vl by rw [← hw4]; exact HA0.out.moved (below_drewN (Below.refl _ _) _))
     clear hw4 q0 q1 q2 q3 q4 q5 q6 q7
     obtain ⟨q0, q1, q2, q3, q4, q5, q6, q7⟩ := HA4.out.cell
     have HRW : Hid (w4.ownsRow p 68 2 (.slice Ap n cp) n (s.path.flatMap stCells)) := zh (by have h := HA4.out.row; unfold stRow at h; rw [HNP.out.2.1] at h; exact h)
     clear g7 g8
     go_wp2_with (first
      | ((with_reducible refine gate_dst (N := 40) rfl ?_); refine wl_copy infoSt rfl rfl (by decide) (by decide) rfl (.tmp 35) (.tmp 39) rfl p rfl (v := .slice Ap n cp) (m := n) rfl HRW.out (st_one s.path) HNP.out.1 (by have := HNP.out; omega) (Nat.le_of_lt (blk_lt HA4.out.box)) ?_; intro g4 cp4 w5 ho hb hg; have HA5 := zh (HA4.out.moved hb); have HCO := zh (show CopyAt w5 p (.slice Ap n cp) (.slice (some ⟨g4, 0, none⟩) n cp4) s.path from ⟨by unfold stRow; rw [← HNP.out.2.1] at ho; rw [HNP.out.2.1]; rw [HNP.out.2.1] at ho; exact ho, fun g hgg e => by have h1 := own_lt HRW.out g e; have h2 : g4 = g := (by simpa [Value.ownBlock] using hgg); omega⟩); clear ho hb hg q0 q1 q2 q3 q4 q5 q6 q7; obtain ⟨q0, q1, q2, q3, q4, q5, q6, q7⟩ := HA5.out.cell)
      | ((with_reducible refine gate_dst (N := 48) rfl ?_); obtain ⟨sv, hsv1, hsv2⟩ := HA5.out.paths.out; refine wl_app1 (W := w5) infoPs rfl rfl (by decide) (by decide) rfl (.tmp 45) (.tmp 47) rfl p (u := vs) (q := s.paths.length) (kc := sv) (cs := [.slice (some ⟨g4, 0, none⟩) n cp4]) rfl rfl hsv1 rfl (fun v hv => by rw [List.mem_singleton.1 hv]; rfl) (Nat.le_of_lt (blk_lt HA5.out.box)) (by have := HQ.out; have := HA5.out.ile; have := HA5.out.len; omega) ?_; intro G1 C1 w6 ho hg hat; obtain ⟨⟨cur, hcur, hfit⟩, hnx⟩ := HA5.out.took HCO.out hsv2 (by have := hsv1.1; omega) ho hg; have HCU := zh (And.intro hcur hfit); have HNX := zh hnx; clear ho hg hat hcur hfit hnx hsv1 hsv2)
      | ((with_reducible refine gate_ (.store 64 (.tmp 50) (.tmp 48)) rfl ?_); refine wl_cells rfl rfl _ _ _ rfl (g := p) (off := 5) (.slice (some ⟨G1, 0, none⟩) (s.paths.length + 1) C1) [.slice (some ⟨G1, 0, none⟩) (s.paths.length + 1) C1] rfl rfl rfl (by kernel_rfl) (fun v hv => by rw [List.mem_singleton.1 hv]; rfl) HCU.out.1 HCU.out.2 ?_; intro V6 hV; have hN := HNX.out V6 hV; have HA6 := zh hN.1; have HC6 := zh hN.2; clear hN hV HNX HCU q0 q1 q2 q3 q4 q5 q6 q7; obtain ⟨q0, q1, q2, q3, q4, q5, q6, q7⟩ := HA6.out.cell)
      | ((with_reducible refine gate_ (.store 63 (.tmp 54) (.tmp 52)) rfl ?_); refine wl_cells rfl rfl _ _ _ rfl (g := p) (off := 6) (.slice (some ⟨g4, 0, none⟩) n cp4) [.slice (some ⟨g4, 0, none⟩) n cp4] rfl rfl rfl (by kernel_rfl) (fun v hv => by rw [List.mem_singleton.1 hv]; rfl) HA6.out.box (by simp) ?_; intro V7 hV; have hA := RAt.mk1 6 (.slice (some ⟨g4, 0, none⟩) n cp4) HA6.out.box (by simp) rfl HA6.out.row HA6.out.paths HC6.out HA6.out.below HA6.out.toks HA6.out.hp HA6.out.len HA6.out.ile HA6.out.pl; rw [← hV] at hA; have HA7 := zh hA; clear hA hV q0 q1 q2 q3 q4 q5 q6 q7; obtain ⟨q0, q1, q2, q3, q4, q5, q6, q7⟩ := HA7.out.cell)
      | ((with_reducible refine gate_ (.store 3 (.tmp 61) (.tmp 59)) rfl ?_); refine wl_cells rfl rfl _ _ _ rfl (g := p) (off := 1) (.int .i64 j) [.int .i64 j] rfl rfl rfl (by kernel_rfl) (fun v hv => by rw [List.mem_singleton.1 hv]; rfl) HA7.out.box (by simp) ?_; intro V8 hV; have hA := HA7.out.upd 1 (.int .i64 j) (by decide) (i' := j) (ser' := s.ser) (e' := 0) rfl (by have := HJ.out; omega) (Nat.le_refl _); rw [← hV] at hA; have HA8 := zh hA; clear hA hV))
     go_end0
     refine ⟨rfl, ?_⟩
     rw [HTK.out]
     exact ⟨_, _, _, _, _, fun _ => ⟨rfl, rfl⟩, by dsimp only; rw [List.length_append, List.length_singleton]; have := HQ.out; have := HJ.out; omega, HA8.out⟩
    ·have g7 : ((s.i : Int) == (M : Int)) = false := by rw [beq_eq_false_iff_ne]; omega
     have g8 : ¬ (s.i : Int) = (M : Int) := by omega
     have HTK : Hid (tkR l false true s = { i := j, path := s.path, ser := s.ser, paths := s.paths, last := s.last, e := 0 }) := zh (by rw [HTK0.out, if_neg (by rintro (h | h); (cases h); omega), if_neg (by rintro (h | h); (cases h); omega), HE.out])
     clear HTK0 HE hi hn hj hM hb
     go_enter Tryz.func71, Tryz.ntmps71
     go_wp2
     go_quiet (fail)
     obtain ⟨w4, hw4⟩ : ∃ V, w.drewN nq = V := ⟨_, rfl⟩
     rw [hw4]
     have HA4 := zh (show RAt W0 A c l false w4 p s.i s.path s.ser s.paths s.last 0 (.slice Ap n cp) vs vl by rw [← hw4]; exact HA0.out.moved (below_drewN (Below.refl _ _) _))
     clear hw4 q0 q1 q2 q3 q4 q5 q6 q7
     obtain ⟨q0, q1, q2, q3, q4, q5, q6, q7⟩ := HA4.out.cell
     clear g7 g8
     go_wp2_with (first
      | ((with_reducible refine gate_ (.store 3 (.tmp 61) (.tmp 59)) rfl ?_); refine wl_cells rfl rfl _ _ _ rfl (g := p) (off := 1) (.int .i64 j) [.int .i64 j] rfl rfl rfl (by kernel_rfl) (fun v hv => by rw [List.mem_singleton.1 hv]; rfl) HA4.out.box (by simp) ?_; intro V8 hV; have hA := HA4.out.upd 1 (.int .i64 j) (by decide) (i' := j) (ser' := s.ser) (e' := 0) rfl (by have := HJ.out; omega) (Nat.le_refl _); rw [← hV] at hA; have HA8 := zh hA; clear hA hV))
     go_end0
     refine ⟨rfl, ?_⟩
     rw [HTK.out]
     exact ⟨_, _, _, _, _, fun _ => ⟨rfl, rfl⟩, by dsimp only; have := HQ.out; have := HJ.out; omega, HA8.out⟩
theorem cd_take {l : List Tk} {s : RS} {x : ByteArray} (hf : cdR l s x = true → fitR s) : cdR l s x = true → s.e = 0 ∧ s.i < l.length ∧ fitR s := fun h => by
 obtain ⟨h1, t, h2, -, -⟩ := cdR_true h
 exact ⟨h1, (List.getElem?_eq_some_iff.1 h2).1, hf h⟩
theorem rtakeWord_any {W0 : World} {A : Option Addr} {c : Nat} {l : List Tk} {all : Bool} {w : World} {p : Nat} {s : RS} (H : RMem W0 A c l all w p s) (x : ByteArray) (hf : cdR l s x = true → fitR s) (hx : goodWR x = true) (hl : lowWR x = true) :
  Calls Tryz.prog 53 #[.pointer (some ⟨p, 0, none⟩), .string x] w (RPost W0 A c l all p (tkR l all (cdR l s x) s)) := by
 have HT := zh (rword_any H x hx hl)
 have HK := zh (fun (w1 : World) (h : RMem W0 A c l all w1 p s) => rtake_any h (cdR l s x) (cd_take hf))
 obtain ⟨b, hb⟩ : ∃ b, cdR l s x = b := ⟨_, rfl⟩
 rw [hb] at HT HK ⊢
 clear hb H hf
 go_enter Tryz.func53, Tryz.ntmps53
 go_wp2_with (first
  | (go_at_call 70; (with_reducible refine cM HT.out ?_); rintro e w1 ⟨rfl, h, -⟩; have HM1 := zh h; clear h)
  | (go_at_call 71; (with_reducible refine cM (HK.out _ HM1.out) ?_); rintro e w2 ⟨rfl, h⟩; have HM2 := zh h; clear h))
 go_end0
 exact ⟨rfl, HM2.out⟩
theorem rtakeSign_any {W0 : World} {A : Option Addr} {c : Nat} {l : List Tk} {all : Bool} {w : World} {p : Nat} {s : RS} (H : RMem W0 A c l all w p s) (x : ByteArray) (hf : cdR l s x = true → fitR s) (hx : goodWR x = true) (hl : lowWR x = false) :
  Calls Tryz.prog 55 #[.pointer (some ⟨p, 0, none⟩), .string x] w (RPost W0 A c l all p (tkR l all (cdR l s x) s)) := by
 have HT := zh (rsign_any H x hx hl)
 have HK := zh (fun (w1 : World) (h : RMem W0 A c l all w1 p s) => rtake_any h (cdR l s x) (cd_take hf))
 obtain ⟨b, hb⟩ : ∃ b, cdR l s x = b := ⟨_, rfl⟩
 rw [hb] at HT HK ⊢
 clear hb H hf
 go_enter Tryz.func55, Tryz.ntmps55
 go_wp2_with (first
  | (go_at_call 73; (with_reducible refine cM HT.out ?_); rintro e w1 ⟨rfl, h, -⟩; have HM1 := zh h; clear h)
  | (go_at_call 71; (with_reducible refine cM (HK.out _ HM1.out) ?_); rintro e w2 ⟨rfl, h⟩; have HM2 := zh h; clear h))
 go_end0
 exact ⟨rfl, HM2.out⟩
theorem rtakeName_any {W0 : World} {A : Option Addr} {c : Nat} {l : List Tk} {all : Bool} {w : World} {p : Nat} {s : RS} (H : RMem W0 A c l all w p s) (hf : cdR l s ⟨#[64, 110, 97, 109, 101]⟩ = true → fitR s) :
  Calls Tryz.prog 54 #[.pointer (some ⟨p, 0, none⟩)] w (RPost W0 A c l all p (tkR l all (cdR l s ⟨#[64, 110, 97, 109, 101]⟩) s)) := by
 have hT := rkind_any H 1
 rw [show (((1 : Nat)) : Int) = 1 from rfl, kdR_code (.inl ⟨rfl, rfl⟩)] at hT
 have HT := zh hT
 have HK := zh (fun (w1 : World) (h : RMem W0 A c l all w1 p s) => rtake_any h (cdR l s ⟨#[64, 110, 97, 109, 101]⟩) (cd_take hf))
 clear hT
 obtain ⟨b, hb⟩ : ∃ b, cdR l s ⟨#[64, 110, 97, 109, 101]⟩ = b := ⟨_, rfl⟩
 rw [hb] at HT HK ⊢
 clear hb H hf
 go_enter Tryz.func54, Tryz.ntmps54
 go_wp2_with (first
  | (go_at_call 72; (with_reducible refine cM HT.out ?_); rintro e w1 ⟨rfl, h, -⟩; have HM1 := zh h; clear h)
  | (go_at_call 71; (with_reducible refine cM (HK.out _ HM1.out) ?_); rintro e w2 ⟨rfl, h⟩; have HM2 := zh h; clear h))
 go_end0
 exact ⟨rfl, HM2.out⟩
theorem rvalue_any {W0 : World} {A : Option Addr} {c : Nat} {l : List Tk} {all : Bool} {w : World} {p : Nat} {s : RS} (H : RMem W0 A c l all w p s) :
  Calls Tryz.prog 141 #[.pointer (some ⟨p, 0, none⟩)] w (BPost W0 A c l all p s (cdR l s ⟨#[64, 110, 117, 109, 98, 101, 114]⟩ || cdR l s ⟨#[64, 116, 101, 120, 116]⟩ || cdR l s ⟨#[64, 99, 104, 97, 114]⟩) w) := by
 have HM := zh H
 clear H
 have HT0 := zh (fun (w1 : World) (h : RMem W0 A c l all w1 p s) => (show Calls _ _ _ _ (BPost W0 A c l all p s (cdR l s ⟨#[64, 110, 117, 109, 98, 101, 114]⟩) w1) from (kdR_code (l := l) (s := s) (k := 3) (x := ⟨#[64, 110, 117, 109, 98, 101, 114]⟩) (by decide) ▸ rkind_any h 3)))
 obtain ⟨b0, hb0⟩ : ∃ b, (cdR l s ⟨#[64, 110, 117, 109, 98, 101, 114]⟩) = b := ⟨_, rfl⟩
 have HT1 := zh (fun (w1 : World) (h : RMem W0 A c l all w1 p s) => (show Calls _ _ _ _ (BPost W0 A c l all p s (cdR l s ⟨#[64, 116, 101, 120, 116]⟩) w1) from (kdR_code (l := l) (s := s) (k := 4) (x := ⟨#[64, 116, 101, 120, 116]⟩) (by decide) ▸ rkind_any h 4)))
 obtain ⟨b1, hb1⟩ : ∃ b, (cdR l s ⟨#[64, 116, 101, 120, 116]⟩) = b := ⟨_, rfl⟩
 have HT2 := zh (fun (w1 : World) (h : RMem W0 A c l all w1 p s) => (show Calls _ _ _ _ (BPost W0 A c l all p s (cdR l s ⟨#[64, 99, 104, 97, 114]⟩) w1) from (kdR_code (l := l) (s := s) (k := 5) (x := ⟨#[64, 99, 104, 97, 114]⟩) (by decide) ▸ rkind_any h 5)))
 obtain ⟨b2, hb2⟩ : ∃ b, (cdR l s ⟨#[64, 99, 104, 97, 114]⟩) = b := ⟨_, rfl⟩
 rw [hb0, hb1, hb2]
 rw [hb0] at HT0
 rw [hb1] at HT1
 rw [hb2] at HT2
 clear hb0 hb1 hb2
 go_enter Tryz.func141, Tryz.ntmps141
 cases b0 <;> cases b1 <;> cases b2
 all_goals (go_wp2_with (first
  | (go_at_call 72; (with_reducible refine cM (HT0.out _ HM.out) ?_); rintro e w0 ⟨rfl, h, hB⟩; have HM0 := zh h; have HB0 := zh (hB); clear h hB)
  | (go_at_call 72; (with_reducible refine cM (HT1.out _ HM0.out) ?_); rintro e w1 ⟨rfl, h, hB⟩; have HM1 := zh h; have HB1 := zh (HB0.out.trans (hB.mono HB0.out.size)); clear h hB)
  | (go_at_call 72; (with_reducible refine cM (HT2.out _ HM1.out) ?_); rintro e w2 ⟨rfl, h, hB⟩; have HM2 := zh h; have HB2 := zh (HB1.out.trans (hB.mono HB1.out.size)); clear h hB)))
 all_goals (repeat (go_quiet (fail); try go_wp2))
 all_goals go_ret
 all_goals exact ⟨rfl, HM2.out.moved (by first | exact Below.refl _ _ | exact below_drewN (Below.refl _ _) _), by first | exact HB2.out | exact below_drewN HB2.out _⟩
theorem rbegins_any {W0 : World} {A : Option Addr} {c : Nat} {l : List Tk} {all : Bool} {w : World} {p : Nat} {s : RS} (H : RMem W0 A c l all w p s) :
  Calls Tryz.prog 129 #[.pointer (some ⟨p, 0, none⟩)] w (BPost W0 A c l all p s (cdR l s ⟨#[45]⟩ || cdR l s ⟨#[40]⟩ || cdR l s ⟨#[110, 111, 116]⟩ || (cdR l s ⟨#[64, 110, 117, 109, 98, 101, 114]⟩ || cdR l s ⟨#[64, 116, 101, 120, 116]⟩ || cdR l s ⟨#[64, 99, 104, 97, 114]⟩) || cdR l s ⟨#[64, 110, 97, 109, 101]⟩) w) := by
 have HM := zh H
 clear H
 have HT0 := zh (fun (w1 : World) (h : RMem W0 A c l all w1 p s) => (show Calls _ _ _ _ (BPost W0 A c l all p s (cdR l s ⟨#[45]⟩) w1) from rsign_any h ⟨#[45]⟩ (by decide) (by decide)))
 obtain ⟨b0, hb0⟩ : ∃ b, (cdR l s ⟨#[45]⟩) = b := ⟨_, rfl⟩
 have HT1 := zh (fun (w1 : World) (h : RMem W0 A c l all w1 p s) => (show Calls _ _ _ _ (BPost W0 A c l all p s (cdR l s ⟨#[40]⟩) w1) from rsign_any h ⟨#[40]⟩ (by decide) (by decide)))
 obtain ⟨b1, hb1⟩ : ∃ b, (cdR l s ⟨#[40]⟩) = b := ⟨_, rfl⟩
 have HT2 := zh (fun (w1 : World) (h : RMem W0 A c l all w1 p s) => (show Calls _ _ _ _ (BPost W0 A c l all p s (cdR l s ⟨#[110, 111, 116]⟩) w1) from rword_any h ⟨#[110, 111, 116]⟩ (by decide) (by decide)))
 obtain ⟨b2, hb2⟩ : ∃ b, (cdR l s ⟨#[110, 111, 116]⟩) = b := ⟨_, rfl⟩
 have HT3 := zh (fun (w1 : World) (h : RMem W0 A c l all w1 p s) => (show Calls _ _ _ _ (BPost W0 A c l all p s (cdR l s ⟨#[64, 110, 117, 109, 98, 101, 114]⟩ || cdR l s ⟨#[64, 116, 101, 120, 116]⟩ || cdR l s ⟨#[64, 99, 104, 97, 114]⟩) w1) from rvalue_any h))
 obtain ⟨b3, hb3⟩ : ∃ b, (cdR l s ⟨#[64, 110, 117, 109, 98, 101, 114]⟩ || cdR l s ⟨#[64, 116, 101, 120, 116]⟩ || cdR l s ⟨#[64, 99, 104, 97, 114]⟩) = b := ⟨_, rfl⟩
 have HT4 := zh (fun (w1 : World) (h : RMem W0 A c l all w1 p s) => (show Calls _ _ _ _ (BPost W0 A c l all p s (cdR l s ⟨#[64, 110, 97, 109, 101]⟩) w1) from (kdR_code (l := l) (s := s) (k := 1) (x := ⟨#[64, 110, 97, 109, 101]⟩) (by decide) ▸ rkind_any h 1)))
 obtain ⟨b4, hb4⟩ : ∃ b, (cdR l s ⟨#[64, 110, 97, 109, 101]⟩) = b := ⟨_, rfl⟩
 rw [hb0, hb1, hb2, hb3, hb4]
 rw [hb0] at HT0
 rw [hb1] at HT1
 rw [hb2] at HT2
 rw [hb3] at HT3
 rw [hb4] at HT4
 clear hb0 hb1 hb2 hb3 hb4
 go_enter Tryz.func129, Tryz.ntmps129
 cases b0 <;> cases b1 <;> cases b2 <;> cases b3 <;> cases b4
 all_goals (go_wp2_with (first
  | (go_at_call 73; (with_reducible refine cM (HT0.out _ HM.out) ?_); rintro e w0 ⟨rfl, h, hB⟩; have HM0 := zh h; have HB0 := zh (hB); clear h hB)
  | (go_at_call 73; (with_reducible refine cM (HT1.out _ HM0.out) ?_); rintro e w1 ⟨rfl, h, hB⟩; have HM1 := zh h; have HB1 := zh (HB0.out.trans (hB.mono HB0.out.size)); clear h hB)
  | (go_at_call 70; (with_reducible refine cM (HT2.out _ HM1.out) ?_); rintro e w2 ⟨rfl, h, hB⟩; have HM2 := zh h; have HB2 := zh (HB1.out.trans (hB.mono HB1.out.size)); clear h hB)
  | (go_at_call 141; (with_reducible refine cM (HT3.out _ HM2.out) ?_); rintro e w3 ⟨rfl, h, hB⟩; have HM3 := zh h; have HB3 := zh (HB2.out.trans (hB.mono HB2.out.size)); clear h hB)
  | (go_at_call 72; (with_reducible refine cM (HT4.out _ HM3.out) ?_); rintro e w4 ⟨rfl, h, hB⟩; have HM4 := zh h; have HB4 := zh (HB3.out.trans (hB.mono HB3.out.size)); clear h hB)))
 all_goals (repeat (go_quiet (fail); try go_wp2))
 all_goals go_ret
 all_goals exact ⟨rfl, HM4.out.moved (by first | exact Below.refl _ _ | exact below_drewN (Below.refl _ _) _), by first | exact HB4.out | exact below_drewN HB4.out _⟩
def GoodAt (l : List Tk) (all : Bool) (n : Nat) (F : FuncId) (T : List WT) : Prop :=
 ∀ (W0 : World) (A : Option Addr) (c p : Nat) (w : World) (s r : RS), RMem W0 A c l all w p s → rrun l all n T s = some r → Calls Tryz.prog F #[.pointer (some ⟨p, 0, none⟩)] w (RPost W0 A c l all p r)
def GoodR (l : List Tk) (all : Bool) (N : Nat) (F : FuncId) (T : List WT) : Prop := ∀ n, n ≤ N → GoodAt l all n F T
def NodeAt (l : List Tk) (all : Bool) (n : Nat) (F : FuncId) (args : List Value) (k : Nat) (T : List WT) : Prop :=
 ∀ (W0 : World) (A : Option Addr) (c p : Nat) (w : World) (s s1 : RS), RMem W0 A c l all w p s → (s.e = 0 → fitR s) → rrun l all n T (opR k s) = some s1 → (s1.e = 0 → 1 < s1.path.length ∧ fitR s1) → Calls Tryz.prog F (.pointer (some ⟨p, 0, none⟩) :: args).toArray w (RPost W0 A c l all p (clR s1))
theorem run_rule {l : List Tk} {all : Bool} {n : Nat} {R : RId} {S : List WT} {e : List Eff} {s r : RS} (he : s.e = 0) (hx : R.expand (cAt l s.i) = some e) (h : rrun l all n (.rule R :: S) s = some r) : ∃ m, n = m + 1 ∧ fitR s ∧ rrun l all m (effsR (S, s) e).1 (effsR (S, s) e).2 = some r := by
 obtain ⟨m, rfl⟩ := rrun_pos he h
 have hf := rrun_fit h he
 rw [rrun_succ, if_neg (by rw [he]; exact fun h => h rfl), if_pos hf] at h
 dsimp only at h
 rw [hx] at h
 exact ⟨m, rfl, hf, h⟩
theorem run_stay {l : List Tk} {all : Bool} {n : Nat} {R : RId} {S : List WT} {s r : RS} (hx : s.e = 0 → R.expand (cAt l s.i) = some []) (h : rrun l all n (.rule R :: S) s = some r) : rrun l all n S s = some r := by
 by_cases he : s.e = 0
 ·obtain ⟨m, rfl, -, h1⟩ := run_rule he (hx he) h
  exact rrun_le h1 (Nat.le_succ m)
 ·rw [rrun_bad he h]
  exact rrun_wrong he
theorem run_fin {l : List Tk} {all : Bool} {n : Nat} {T S : List WT} {k : Nat} {s0 r : RS} (h : rrun l all n (T ++ .fin k :: S) s0 = some r) : ∃ s1, rrun l all n T s0 = some s1 ∧ (s1.e = 0 → 1 < s1.path.length ∧ fitR s1) ∧ rrun l all n S (clR s1) = some r := by
 obtain ⟨s1, h1, h2⟩ := rrun_app n T (.fin k :: S) s0 r h
 refine ⟨s1, h1, ?_⟩
 by_cases he : s1.e = 0
 ·obtain ⟨m, rfl⟩ := rrun_pos he h2
  have hf := rrun_fit h2 he
  rw [rrun_succ, if_neg (by rw [he]; exact fun h => h rfl), if_pos hf] at h2
  dsimp only at h2
  split at h2
  ·cases h2
  ·exact ⟨fun _ => ⟨by omega, hf⟩, rrun_le h2 (Nat.le_succ m)⟩
 ·rw [clR_bad he, rrun_bad he h2]
  exact ⟨fun h => absurd h he, rrun_wrong he⟩
theorem run_node {l : List Tk} {all : Bool} {n : Nat} {R : RId} {S T : List WT} {k : Nat} {s r : RS} (hx : s.e = 0 → R.expand (cAt l s.i) = some [.opn k T]) (h : rrun l all n (.rule R :: S) s = some r) :
  ∃ m s1, m ≤ n - 1 ∧ (s.e = 0 → fitR s ∧ 0 < n) ∧ rrun l all m T (opR k s) = some s1 ∧ (s1.e = 0 → 1 < s1.path.length ∧ fitR s1) ∧ rrun l all n S (clR s1) = some r := by
 by_cases he : s.e = 0
 ·obtain ⟨m, rfl, hf, h1⟩ := run_rule he (hx he) h
  obtain ⟨s1, h2, h3, h4⟩ := run_fin (show rrun l all m (T ++ .fin k :: S) (opR k s) = some r from h1)
  exact ⟨m, s1, by omega, fun _ => ⟨hf, by omega⟩, h2, h3, rrun_le h4 (Nat.le_succ m)⟩
 ·refine ⟨0, s, Nat.zero_le _, fun h => absurd h he, ?_, fun h => absurd h he, ?_⟩
  ·rw [opR_bad he]; exact rrun_wrong he
  ·rw [clR_bad he]
   rw [rrun_bad he h]
   exact rrun_wrong he
theorem cd_yes {l : List Tk} {s : RS} {x : ByteArray} (h : cdR l s x = true) : s.e = 0 ∧ cAt l s.i = x ∧ s.i < l.length := by
 obtain ⟨h1, t, h2, -, h3⟩ := cdR_true h
 exact ⟨h1, h3, (List.getElem?_eq_some_iff.1 h2).1⟩
theorem cd_no {l : List Tk} {s : RS} {x : ByteArray} (hx : x ≠ ⟨#[]⟩) (h : cdR l s x = false) (he : s.e = 0) : ¬ cAt l s.i = x := by
 rw [cdR_at hx he] at h
 exact of_decide_eq_false h
theorem run_none {l : List Tk} {all : Bool} {n : Nat} {R : RId} {S : List WT} {s r : RS} (hx : s.e = 0 → R.expand (cAt l s.i) = none) (h : rrun l all n (.rule R :: S) s = some r) : r = wrR l s := by
 by_cases he : s.e = 0
 ·obtain ⟨m, rfl⟩ := rrun_pos he h
  have hf := rrun_fit h he
  rw [rrun_succ, if_neg (by rw [he]; exact fun h => h rfl), if_pos hf] at h
  dsimp only at h
  rw [hx he] at h
  cases h; rfl
 ·rw [wrR_bad he]
  exact rrun_bad he h
theorem wrR_op {l : List Tk} {k : Nat} {s : RS} : clR (wrR l (opR k s)) = wrR l s := by
 by_cases he : s.e = 0
 ·rw [clR_bad wrR_e]
  unfold wrR opR
  rw [if_pos he]
  dsimp only
  rw [if_pos he, if_pos he]
  rfl
 ·rw [opR_bad he, wrR_bad he, clR_bad he]
theorem cdR_op {l : List Tk} {k : Nat} {s : RS} {x : ByteArray} : cdR l (opR k s) x = cdR l s x := by
 unfold cdR opR
 split <;> rfl
theorem run_same {l : List Tk} {all : Bool} {n : Nat} {R Q : RId} {S : List WT} {s r : RS} (hx : s.e = 0 → R.expand (cAt l s.i) = Q.expand (cAt l s.i)) (h : rrun l all n (.rule R :: S) s = some r) : rrun l all n (.rule Q :: S) s = some r := by
 cases n with
 | zero =>
  by_cases he : s.e = 0
  ·obtain ⟨m, hm⟩ := rrun_pos he h
   omega
  ·rw [rrun_bad he h]; exact rrun_wrong he
 | succ n =>
  rw [rrun_succ] at h ⊢
  by_cases he : s.e = 0
  ·dsimp only at h ⊢
   rw [← hx he]; exact h
  ·rw [if_pos he] at h ⊢; exact h
theorem run_noname {l : List Tk} {all : Bool} {n : Nat} {R : RId} {S : List WT} {k : Nat} {T : List WT} {s r : RS} (hx : s.e = 0 → R.expand (cAt l s.i) = some [.opn k (.word ⟨#[64, 110, 97, 109, 101]⟩ :: T)]) (hc : cdR l s ⟨#[64, 110, 97, 109, 101]⟩ = false) (h : rrun l all n (.rule R :: S) s = some r) : r = wrR l s := by
 obtain ⟨m, s1, -, -, h1, -, h2⟩ := run_node hx h
 have h3 := run_w h1
 rw [cdR_op, hc] at h3
 have h4 : tkR l all false (opR k s) = wrR l (opR k s) := if_neg (by decide)
 rw [h4] at h3
 have h5 := rrun_bad wrR_e h3
 rw [h5, wrR_op] at h2
 exact rrun_bad wrR_e h2
abbrev begR (l : List Tk) (s : RS) : Bool := (cdR l s ⟨#[45]⟩ || cdR l s ⟨#[40]⟩ || cdR l s ⟨#[110, 111, 116]⟩ || (cdR l s ⟨#[64, 110, 117, 109, 98, 101, 114]⟩ || cdR l s ⟨#[64, 116, 101, 120, 116]⟩ || cdR l s ⟨#[64, 99, 104, 97, 114]⟩) || cdR l s ⟨#[64, 110, 97, 109, 101]⟩)
theorem beg_yes {l : List Tk} {s : RS} (h : begR l s = true) : s.e = 0 ∧ RId.expand .r_args (cAt l s.i) = some [.push [.rule .r_expr, .rule .r_exprs]] ∧ RId.expand .r_maybe (cAt l s.i) = some [.push [.rule .r_expr]] := by
 simp only [begR, Bool.or_eq_true] at h
 rcases h with (((h | h) | h) | (h | h) | h) | h <;> (obtain ⟨h1, h2, -⟩ := cd_yes h; rw [h2]; exact ⟨h1, rfl, rfl⟩)
theorem beg_no {l : List Tk} {s : RS} (h : begR l s = false) (he : s.e = 0) : RId.expand .r_args (cAt l s.i) = some [] ∧ RId.expand .r_maybe (cAt l s.i) = some [] := by
 simp only [begR, Bool.or_eq_false_iff] at h
 obtain ⟨⟨⟨⟨h1, h2⟩, h3⟩, ⟨h4, h5⟩, h6⟩, h7⟩ := h
 have e1 := cd_no (by decide) h1 he
 have e2 := cd_no (by decide) h2 he
 have e3 := cd_no (by decide) h3 he
 have e4 := cd_no (by decide) h4 he
 have e5 := cd_no (by decide) h5 he
 have e6 := cd_no (by decide) h6 he
 have e7 := cd_no (by decide) h7 he
 simp [RId.expand, e1, e2, e3, e4, e5, e6, e7]
section
variable {W0 : World} {A : Option Addr} {c : Nat} {l : List Tk} {all : Bool} {p : Nat} {s s' : RS} {n : Nat}
theorem tw_new {x : ByteArray} (h : rrun l all n [.word x] s = some s') (hx : goodWR x = true) (hl : lowWR x = true) (w : World) (H : RMem W0 A c l all w p s) : Calls Tryz.prog 53 #[.pointer (some ⟨p, 0, none⟩), .string x] w (RPost W0 A c l all p s') := by
 rw [run_w1 h]
 exact rtakeWord_any H x (fun hc => rrun_fit h (cd_yes hc).1) hx hl
theorem ts_new {x : ByteArray} (h : rrun l all n [.word x] s = some s') (hx : goodWR x = true) (hl : lowWR x = false) (w : World) (H : RMem W0 A c l all w p s) : Calls Tryz.prog 55 #[.pointer (some ⟨p, 0, none⟩), .string x] w (RPost W0 A c l all p s') := by
 rw [run_w1 h]
 exact rtakeSign_any H x (fun hc => rrun_fit h (cd_yes hc).1) hx hl
theorem tn_new (h : rrun l all n [.word ⟨#[64, 110, 97, 109, 101]⟩] s = some s') (w : World) (H : RMem W0 A c l all w p s) : Calls Tryz.prog 54 #[.pointer (some ⟨p, 0, none⟩)] w (RPost W0 A c l all p s') := by
 rw [run_w1 h]
 exact rtakeName_any H (fun hc => rrun_fit h (cd_yes hc).1)
theorem tt_new {x : ByteArray} (h : rrun l all n [.word x] s = some s') (hc : cdR l s x = true) (w : World) (H : RMem W0 A c l all w p s) : Calls Tryz.prog 71 #[.pointer (some ⟨p, 0, none⟩), .bool true] w (RPost W0 A c l all p s') := by
 rw [run_w1 h, hc]
 exact rtake_any H true (fun _ => ⟨(cd_yes hc).1, (cd_yes hc).2.2, rrun_fit h (cd_yes hc).1⟩)
theorem wd_new {x : ByteArray} {b : Bool} (hc : cdR l s x = b) (hx : goodWR x = true) (hl : lowWR x = true) (w : World) (H : RMem W0 A c l all w p s) : Calls Tryz.prog 70 #[.pointer (some ⟨p, 0, none⟩), .string x] w (BPost W0 A c l all p s b w) := by
 rw [← hc]
 exact rword_any H x hx hl
theorem sg_new {x : ByteArray} {b : Bool} (hc : cdR l s x = b) (hx : goodWR x = true) (hl : lowWR x = false) (w : World) (H : RMem W0 A c l all w p s) : Calls Tryz.prog 73 #[.pointer (some ⟨p, 0, none⟩), .string x] w (BPost W0 A c l all p s b w) := by
 rw [← hc]
 exact rsign_any H x hx hl
end
theorem g_names (l : List Tk) (all : Bool) (n : Nat) (D_kindOf : GoodR l all n 105 [.rule .r_kind]) : GoodAt l all n 102 [.word ⟨#[64, 110, 97, 109, 101]⟩, .rule .r_names, .word ⟨#[58]⟩, .rule .r_kind] := by
 intro W0 A c p w s r H hr
 have HM := zh H
 clear H
 show Calls Tryz.prog _ #[.pointer (some ⟨p, 0, none⟩)] w (RPost W0 A c l all p r)
 go_enter Tryz.func102, Tryz.ntmps102
 obtain ⟨s1, h1, hr1⟩ := rrun_app n [.word ⟨#[64, 110, 97, 109, 101]⟩] [.rule .r_names, .word ⟨#[58]⟩, .rule .r_kind] s r hr
 have HC1 := zh (fun (w1 : World) (h : RMem W0 A c l all w1 p s) => (show Calls Tryz.prog 54 #[.pointer (some ⟨p, 0, none⟩)] w1 (RPost W0 A c l all p s1) from tn_new h1 w1 h))
 have HR0 := zh hr1
 go_wp2_with (first
  | (go_at_call 54; (with_reducible refine cM (HC1.out _ HM.out) ?_); rintro e w1 ⟨rfl, h⟩; replace HM := zh h; clear h))
 go_loopg [2] n (fun kq v2 wr => Hid (∃ s0, RMem W0 A c l all wr p s0 ∧ kq ≤ n ∧ rrun l all kq [.rule .r_names, .word ⟨#[58]⟩, .rule .r_kind] s0 = some r))
 case atStart => exact zh ⟨_, HM.out, Nat.le_refl _, HR0.out⟩
 case round =>
  obtain ⟨s0, hM, hkn, hrun⟩ := hrel.out
  clear HR0 hrel HM
  have HM := zh hM
  clear hM
  obtain ⟨b22, hb22⟩ : ∃ b, cdR l s0 ⟨#[44]⟩ = b := ⟨_, rfl⟩
  have HC22 := zh (fun (w1 : World) (h : RMem W0 A c l all w1 p s0) => (show Calls Tryz.prog 73 #[.pointer (some ⟨p, 0, none⟩), .string ⟨#[44]⟩] w1 (BPost W0 A c l all p s0 b22 w1) from sg_new hb22 (by decide) (by decide) w1 h))
  cases b22 with
  | true =>
   obtain ⟨he22, hc22, hi22⟩ := cd_yes hb22
   obtain ⟨m22, hkm22, hfi22, hp22⟩ := run_rule he22 (e := [.push [.word ⟨#[44]⟩, .word ⟨#[64, 110, 97, 109, 101]⟩, .rule .r_names]]) (by rw [hc22]; rfl) hrun
   have hq22 : rrun l all m22 [.word ⟨#[44]⟩, .word ⟨#[64, 110, 97, 109, 101]⟩, .rule .r_names, .word ⟨#[58]⟩, .rule .r_kind] s0 = some r := hp22
   have hle22 : m22 + 1 ≤ n := by have := hkn; omega
   obtain ⟨s23, h23, hr23⟩ := rrun_app m22 [.word ⟨#[44]⟩] [.word ⟨#[64, 110, 97, 109, 101]⟩, .rule .r_names, .word ⟨#[58]⟩, .rule .r_kind] s0 r hq22
   have HC23 := zh (fun (w1 : World) (h : RMem W0 A c l all w1 p s0) => (show Calls Tryz.prog 55 #[.pointer (some ⟨p, 0, none⟩), .string ⟨#[44]⟩] w1 (RPost W0 A c l all p s23) from ts_new h23 (by decide) (by decide) w1 h))
   obtain ⟨s24, h24, hr24⟩ := rrun_app m22 [.word ⟨#[64, 110, 97, 109, 101]⟩] [.rule .r_names, .word ⟨#[58]⟩, .rule .r_kind] s23 r hr23
   have HC24 := zh (fun (w1 : World) (h : RMem W0 A c l all w1 p s23) => (show Calls Tryz.prog 54 #[.pointer (some ⟨p, 0, none⟩)] w1 (RPost W0 A c l all p s24) from tn_new h24 w1 h))
   have HRZ := zh hr24
   have HLZ := zh (show m22 ≤ n by omega)
   go_wp2_with (first
    | (go_at_call 73; (with_reducible refine cM (HC22.out _ HM.out) ?_); rintro e w1 ⟨rfl, h, -⟩; replace HM := zh h; clear h)
    | (go_at_call 55; (with_reducible refine cM (HC23.out _ HM.out) ?_); rintro e w1 ⟨rfl, h⟩; replace HM := zh h; clear h)
    | (go_at_call 54; (with_reducible refine cM (HC24.out _ HM.out) ?_); rintro e w1 ⟨rfl, h⟩; replace HM := zh h; clear h))
   go_roundg m22
   case measure => omega
   case rel => exact zh ⟨_, HM.out, HLZ.out, HRZ.out⟩
  | false =>
   have hs23 := run_stay (fun he => by have e22 := cd_no (by decide) hb22 he; simp [RId.expand, e22]) hrun
   obtain ⟨s24, h24, hr24⟩ := rrun_app gk [.word ⟨#[58]⟩] [.rule .r_kind] s0 r hs23
   have HC24 := zh (fun (w1 : World) (h : RMem W0 A c l all w1 p s0) => (show Calls Tryz.prog 55 #[.pointer (some ⟨p, 0, none⟩), .string ⟨#[58]⟩] w1 (RPost W0 A c l all p s24) from ts_new h24 (by decide) (by decide) w1 h))
   obtain ⟨s25, h25, hr25⟩ := rrun_app gk [.rule .r_kind] [] s24 r hr24
   have HC25 := zh (fun (w1 : World) (h : RMem W0 A c l all w1 p s24) => (show Calls Tryz.prog 105 #[.pointer (some ⟨p, 0, none⟩)] w1 (RPost W0 A c l all p s25) from D_kindOf gk hkn W0 A c p w1 s24 s25 h h25))
   have hz26 := rrun_nil hr25
   have HY26 := zh hz26
   clear hz26
   go_wp2_with (first
    | (go_at_call 73; (with_reducible refine cM (HC22.out _ HM.out) ?_); rintro e w1 ⟨rfl, h, -⟩; replace HM := zh h; clear h)
    | (go_at_call 55; (with_reducible refine cM (HC24.out _ HM.out) ?_); rintro e w1 ⟨rfl, h⟩; replace HM := zh h; clear h)
    | (go_at_call 105; (with_reducible refine cM (HC25.out _ HM.out) ?_); rintro e w1 ⟨rfl, h⟩; replace HM := zh h; clear h))
   go_end0
   exact ⟨rfl, by rw [HY26.out]; exact HM.out⟩
theorem g_variable (l : List Tk) (all : Bool) (n : Nat) (D_names : GoodR l all n 102 [.word ⟨#[64, 110, 97, 109, 101]⟩, .rule .r_names, .word ⟨#[58]⟩, .rule .r_kind]) : NodeAt l all n 74 [] 3 [.word ⟨#[118, 97, 114]⟩, .word ⟨#[64, 110, 97, 109, 101]⟩, .rule .r_names, .word ⟨#[58]⟩, .rule .r_kind, .word ⟨#[59]⟩] := by
 intro W0 A c p w s s1 H hf hr hfin
 have HM := zh H
 clear H
 show Calls Tryz.prog _ #[.pointer (some ⟨p, 0, none⟩)] w (RPost W0 A c l all p (clR s1))
 go_enter Tryz.func74, Tryz.ntmps74
 have HC1 := zh (fun (w1 : World) (h : RMem W0 A c l all w1 p s) => (show Calls Tryz.prog 52 #[.pointer (some ⟨p, 0, none⟩), .int .u8 3] w1 (RPost W0 A c l all p (opR 3 s)) from opens_any h 3 (fun he => (hf he).1)))
 have hr0 := hr
 obtain ⟨s2, h2, hr2⟩ := rrun_app n [.word ⟨#[118, 97, 114]⟩] [.word ⟨#[64, 110, 97, 109, 101]⟩, .rule .r_names, .word ⟨#[58]⟩, .rule .r_kind, .word ⟨#[59]⟩] (opR 3 s) s1 hr0
 have HC2 := zh (fun (w1 : World) (h : RMem W0 A c l all w1 p (opR 3 s)) => (show Calls Tryz.prog 53 #[.pointer (some ⟨p, 0, none⟩), .string ⟨#[118, 97, 114]⟩] w1 (RPost W0 A c l all p s2) from tw_new h2 (by decide) (by decide) w1 h))
 obtain ⟨s3, h3, hr3⟩ := rrun_app n [.word ⟨#[64, 110, 97, 109, 101]⟩, .rule .r_names, .word ⟨#[58]⟩, .rule .r_kind] [.word ⟨#[59]⟩] s2 s1 hr2
 have HC3 := zh (fun (w1 : World) (h : RMem W0 A c l all w1 p s2) => (show Calls Tryz.prog 102 #[.pointer (some ⟨p, 0, none⟩)] w1 (RPost W0 A c l all p s3) from D_names n (Nat.le_refl n) W0 A c p w1 s2 s3 h h3))
 obtain ⟨s4, h4, hr4⟩ := rrun_app n [.word ⟨#[59]⟩] [] s3 s1 hr3
 have HC4 := zh (fun (w1 : World) (h : RMem W0 A c l all w1 p s3) => (show Calls Tryz.prog 55 #[.pointer (some ⟨p, 0, none⟩), .string ⟨#[59]⟩] w1 (RPost W0 A c l all p s4) from ts_new h4 (by decide) (by decide) w1 h))
 have hz5 : s1 = s4 := rrun_nil hr4
 have HZ5 := zh hz5
 clear hz5
 have HC5 := zh (fun (w1 : World) (h : RMem W0 A c l all w1 p s4) => (show Calls Tryz.prog 78 #[.pointer (some ⟨p, 0, none⟩)] w1 (RPost W0 A c l all p (clR s1)) from (by rw [HZ5.out]; exact closes_any h (fun he => by have h9 := hfin (by rw [HZ5.out]; exact he); rw [HZ5.out] at h9; exact ⟨by have := h9.1; omega, h9.2⟩))))
 go_wp2_with (first
  | (go_at_call 52; (with_reducible refine cM (HC1.out _ HM.out) ?_); rintro e w1 ⟨rfl, h⟩; replace HM := zh h; clear h)
  | (go_at_call 53; (with_reducible refine cM (HC2.out _ HM.out) ?_); rintro e w1 ⟨rfl, h⟩; replace HM := zh h; clear h)
  | (go_at_call 102; (with_reducible refine cM (HC3.out _ HM.out) ?_); rintro e w1 ⟨rfl, h⟩; replace HM := zh h; clear h)
  | (go_at_call 55; (with_reducible refine cM (HC4.out _ HM.out) ?_); rintro e w1 ⟨rfl, h⟩; replace HM := zh h; clear h)
  | (go_at_call 78; (with_reducible refine cM (HC5.out _ HM.out) ?_); rintro e w1 ⟨rfl, h⟩; replace HM := zh h; clear h))
 go_end0
 exact ⟨rfl, HM.out⟩
theorem g_constant (l : List Tk) (all : Bool) (n : Nat) (D_expr : GoodR l all n 103 [.rule .r_expr]) : NodeAt l all n 75 [] 4 [.word ⟨#[99, 111, 110, 115, 116]⟩, .word ⟨#[64, 110, 97, 109, 101]⟩, .word ⟨#[61]⟩, .rule .r_expr, .word ⟨#[59]⟩] := by
 intro W0 A c p w s s1 H hf hr hfin
 have HM := zh H
 clear H
 show Calls Tryz.prog _ #[.pointer (some ⟨p, 0, none⟩)] w (RPost W0 A c l all p (clR s1))
 go_enter Tryz.func75, Tryz.ntmps75
 have HC1 := zh (fun (w1 : World) (h : RMem W0 A c l all w1 p s) => (show Calls Tryz.prog 52 #[.pointer (some ⟨p, 0, none⟩), .int .u8 4] w1 (RPost W0 A c l all p (opR 4 s)) from opens_any h 4 (fun he => (hf he).1)))
 have hr0 := hr
 obtain ⟨s2, h2, hr2⟩ := rrun_app n [.word ⟨#[99, 111, 110, 115, 116]⟩] [.word ⟨#[64, 110, 97, 109, 101]⟩, .word ⟨#[61]⟩, .rule .r_expr, .word ⟨#[59]⟩] (opR 4 s) s1 hr0
 have HC2 := zh (fun (w1 : World) (h : RMem W0 A c l all w1 p (opR 4 s)) => (show Calls Tryz.prog 53 #[.pointer (some ⟨p, 0, none⟩), .string ⟨#[99, 111, 110, 115, 116]⟩] w1 (RPost W0 A c l all p s2) from tw_new h2 (by decide) (by decide) w1 h))
 obtain ⟨s3, h3, hr3⟩ := rrun_app n [.word ⟨#[64, 110, 97, 109, 101]⟩] [.word ⟨#[61]⟩, .rule .r_expr, .word ⟨#[59]⟩] s2 s1 hr2
 have HC3 := zh (fun (w1 : World) (h : RMem W0 A c l all w1 p s2) => (show Calls Tryz.prog 54 #[.pointer (some ⟨p, 0, none⟩)] w1 (RPost W0 A c l all p s3) from tn_new h3 w1 h))
 obtain ⟨s4, h4, hr4⟩ := rrun_app n [.word ⟨#[61]⟩] [.rule .r_expr, .word ⟨#[59]⟩] s3 s1 hr3
 have HC4 := zh (fun (w1 : World) (h : RMem W0 A c l all w1 p s3) => (show Calls Tryz.prog 55 #[.pointer (some ⟨p, 0, none⟩), .string ⟨#[61]⟩] w1 (RPost W0 A c l all p s4) from ts_new h4 (by decide) (by decide) w1 h))
 obtain ⟨s5, h5, hr5⟩ := rrun_app n [.rule .r_expr] [.word ⟨#[59]⟩] s4 s1 hr4
 have HC5 := zh (fun (w1 : World) (h : RMem W0 A c l all w1 p s4) => (show Calls Tryz.prog 103 #[.pointer (some ⟨p, 0, none⟩)] w1 (RPost W0 A c l all p s5) from D_expr n (Nat.le_refl n) W0 A c p w1 s4 s5 h h5))
 obtain ⟨s6, h6, hr6⟩ := rrun_app n [.word ⟨#[59]⟩] [] s5 s1 hr5
 have HC6 := zh (fun (w1 : World) (h : RMem W0 A c l all w1 p s5) => (show Calls Tryz.prog 55 #[.pointer (some ⟨p, 0, none⟩), .string ⟨#[59]⟩] w1 (RPost W0 A c l all p s6) from ts_new h6 (by decide) (by decide) w1 h))
 have hz7 : s1 = s6 := rrun_nil hr6
 have HZ7 := zh hz7
 clear hz7
 have HC7 := zh (fun (w1 : World) (h : RMem W0 A c l all w1 p s6) => (show Calls Tryz.prog 78 #[.pointer (some ⟨p, 0, none⟩)] w1 (RPost W0 A c l all p (clR s1)) from (by rw [HZ7.out]; exact closes_any h (fun he => by have h9 := hfin (by rw [HZ7.out]; exact he); rw [HZ7.out] at h9; exact ⟨by have := h9.1; omega, h9.2⟩))))
 go_wp2_with (first
  | (go_at_call 52; (with_reducible refine cM (HC1.out _ HM.out) ?_); rintro e w1 ⟨rfl, h⟩; replace HM := zh h; clear h)
  | (go_at_call 53; (with_reducible refine cM (HC2.out _ HM.out) ?_); rintro e w1 ⟨rfl, h⟩; replace HM := zh h; clear h)
  | (go_at_call 54; (with_reducible refine cM (HC3.out _ HM.out) ?_); rintro e w1 ⟨rfl, h⟩; replace HM := zh h; clear h)
  | (go_at_call 55; (with_reducible refine cM (HC4.out _ HM.out) ?_); rintro e w1 ⟨rfl, h⟩; replace HM := zh h; clear h)
  | (go_at_call 103; (with_reducible refine cM (HC5.out _ HM.out) ?_); rintro e w1 ⟨rfl, h⟩; replace HM := zh h; clear h)
  | (go_at_call 55; (with_reducible refine cM (HC6.out _ HM.out) ?_); rintro e w1 ⟨rfl, h⟩; replace HM := zh h; clear h)
  | (go_at_call 78; (with_reducible refine cM (HC7.out _ HM.out) ?_); rintro e w1 ⟨rfl, h⟩; replace HM := zh h; clear h))
 go_end0
 exact ⟨rfl, HM.out⟩
theorem g_row1 (l : List Tk) (all : Bool) (n : Nat) (D_names : GoodR l all n 102 [.word ⟨#[64, 110, 97, 109, 101]⟩, .rule .r_names, .word ⟨#[58]⟩, .rule .r_kind]) : NodeAt l all n 104 [.int .u8 6, .int .u8 7, .string ⟨#[41]⟩] 6 [.word ⟨#[40]⟩, .rule .r_param, .rule .r_moreParams, .word ⟨#[41]⟩] := by
 intro W0 A c p w s s1 H hf hr hfin
 have HM := zh H
 clear H
 show Calls Tryz.prog _ #[.pointer (some ⟨p, 0, none⟩), .int .u8 6, .int .u8 7, .string ⟨#[41]⟩] w (RPost W0 A c l all p (clR s1))
 go_enter Tryz.func104, Tryz.ntmps104
 have HC1 := zh (fun (w1 : World) (h : RMem W0 A c l all w1 p s) => (show Calls Tryz.prog 52 #[.pointer (some ⟨p, 0, none⟩), .int .u8 6] w1 (RPost W0 A c l all p (opR 6 s)) from opens_any h 6 (fun he => (hf he).1)))
 have hr0 := hr
 obtain ⟨s2, h2, hr2⟩ := rrun_app n [.word ⟨#[40]⟩] [.rule .r_param, .rule .r_moreParams, .word ⟨#[41]⟩] (opR 6 s) s1 hr0
 have HC2 := zh (fun (w1 : World) (h : RMem W0 A c l all w1 p (opR 6 s)) => (show Calls Tryz.prog 55 #[.pointer (some ⟨p, 0, none⟩), .string ⟨#[40]⟩] w1 (RPost W0 A c l all p s2) from ts_new h2 (by decide) (by decide) w1 h))
 have HR0 := zh hr2
 go_wp2_with (first
  | (go_at_call 52; (with_reducible refine cM (HC1.out _ HM.out) ?_); rintro e w1 ⟨rfl, h⟩; replace HM := zh h; clear h)
  | (go_at_call 55; (with_reducible refine cM (HC2.out _ HM.out) ?_); rintro e w1 ⟨rfl, h⟩; replace HM := zh h; clear h))
 go_loopg [8] n (fun kq v8 wr => Hid (∃ s0, RMem W0 A c l all wr p s0 ∧ kq ≤ n ∧ rrun l all kq [.rule .r_param, .rule .r_moreParams, .word ⟨#[41]⟩] s0 = some s1))
 case atStart => exact zh ⟨_, HM.out, Nat.le_refl _, HR0.out⟩
 case round =>
  obtain ⟨s0, hM, hkn, hrun⟩ := hrel.out
  clear HR0 hrel HM
  have HM := zh hM
  clear hM
  obtain ⟨m23, s23, hm23, hfi23, h23, hfin23, hr23⟩ := run_node (k := 7) (T := [.word ⟨#[64, 110, 97, 109, 101]⟩, .rule .r_names, .word ⟨#[58]⟩, .rule .r_kind]) (S := [.rule .r_moreParams, .word ⟨#[41]⟩]) (fun _ => rfl) hrun
  have HC23 := zh (fun (w1 : World) (h : RMem W0 A c l all w1 p s0) => (show Calls Tryz.prog 52 #[.pointer (some ⟨p, 0, none⟩), .int .u8 7] w1 (RPost W0 A c l all p (opR 7 s0)) from opens_any h 7 (fun he => (hfi23 he).1.1)))
  have hle23 : m23 ≤ n := by have := hkn; omega
  obtain ⟨s24, h24, hr24⟩ := rrun_app m23 [.word ⟨#[64, 110, 97, 109, 101]⟩, .rule .r_names, .word ⟨#[58]⟩, .rule .r_kind] [] (opR 7 s0) s23 h23
  have HC24 := zh (fun (w1 : World) (h : RMem W0 A c l all w1 p (opR 7 s0)) => (show Calls Tryz.prog 102 #[.pointer (some ⟨p, 0, none⟩)] w1 (RPost W0 A c l all p s24) from D_names m23 hle23 W0 A c p w1 (opR 7 s0) s24 h h24))
  have hz25 : s23 = s24 := rrun_nil hr24
  have HZ25 := zh hz25
  clear hz25
  have HC25 := zh (fun (w1 : World) (h : RMem W0 A c l all w1 p s24) => (show Calls Tryz.prog 78 #[.pointer (some ⟨p, 0, none⟩)] w1 (RPost W0 A c l all p (clR s23)) from (by rw [HZ25.out]; exact closes_any h (fun he => by have h9 := hfin23 (by rw [HZ25.out]; exact he); rw [HZ25.out] at h9; exact ⟨by have := h9.1; omega, h9.2⟩))))
  obtain ⟨b26, hb26⟩ : ∃ b, cdR l (clR s23) ⟨#[59]⟩ = b := ⟨_, rfl⟩
  have HC26 := zh (fun (w1 : World) (h : RMem W0 A c l all w1 p (clR s23)) => (show Calls Tryz.prog 73 #[.pointer (some ⟨p, 0, none⟩), .string ⟨#[59]⟩] w1 (BPost W0 A c l all p (clR s23) b26 w1) from sg_new hb26 (by decide) (by decide) w1 h))
  cases b26 with
  | true =>
   obtain ⟨he26, hc26, hi26⟩ := cd_yes hb26
   obtain ⟨m26, hkm26, hfi26, hp26⟩ := run_rule he26 (e := [.push [.word ⟨#[59]⟩, .rule .r_param, .rule .r_moreParams]]) (by rw [hc26]; rfl) hr23
   have hq26 : rrun l all m26 [.word ⟨#[59]⟩, .rule .r_param, .rule .r_moreParams, .word ⟨#[41]⟩] (clR s23) = some s1 := hp26
   have hle26 : m26 + 1 ≤ n := by have := hkn; omega
   obtain ⟨s27, h27, hr27⟩ := rrun_app m26 [.word ⟨#[59]⟩] [.rule .r_param, .rule .r_moreParams, .word ⟨#[41]⟩] (clR s23) s1 hq26
   have HC27 := zh (fun (w1 : World) (h : RMem W0 A c l all w1 p (clR s23)) => (show Calls Tryz.prog 55 #[.pointer (some ⟨p, 0, none⟩), .string ⟨#[59]⟩] w1 (RPost W0 A c l all p s27) from ts_new h27 (by decide) (by decide) w1 h))
   have HRZ := zh hr27
   have HLZ := zh (show m26 ≤ n by omega)
   go_wp2_with (first
    | (go_at_call 52; (with_reducible refine cM (HC23.out _ HM.out) ?_); rintro e w1 ⟨rfl, h⟩; replace HM := zh h; clear h)
    | (go_at_call 102; (with_reducible refine cM (HC24.out _ HM.out) ?_); rintro e w1 ⟨rfl, h⟩; replace HM := zh h; clear h)
    | (go_at_call 78; (with_reducible refine cM (HC25.out _ HM.out) ?_); rintro e w1 ⟨rfl, h⟩; replace HM := zh h; clear h)
    | (go_at_call 73; (with_reducible refine cM (HC26.out _ HM.out) ?_); rintro e w1 ⟨rfl, h, -⟩; replace HM := zh h; clear h)
    | (go_at_call 55; (with_reducible refine cM (HC27.out _ HM.out) ?_); rintro e w1 ⟨rfl, h⟩; replace HM := zh h; clear h))
   go_roundg m26
   case measure => omega
   case rel => exact zh ⟨_, HM.out, HLZ.out, HRZ.out⟩
  | false =>
   have hs27 := run_stay (fun he => by have e26 := cd_no (by decide) hb26 he; simp [RId.expand, e26]) hr23
   obtain ⟨s28, h28, hr28⟩ := rrun_app gk [.word ⟨#[41]⟩] [] (clR s23) s1 hs27
   have HC28 := zh (fun (w1 : World) (h : RMem W0 A c l all w1 p (clR s23)) => (show Calls Tryz.prog 55 #[.pointer (some ⟨p, 0, none⟩), .string ⟨#[41]⟩] w1 (RPost W0 A c l all p s28) from ts_new h28 (by decide) (by decide) w1 h))
   have hz29 : s1 = s28 := rrun_nil hr28
   have HZ29 := zh hz29
   clear hz29
   have HC29 := zh (fun (w1 : World) (h : RMem W0 A c l all w1 p s28) => (show Calls Tryz.prog 78 #[.pointer (some ⟨p, 0, none⟩)] w1 (RPost W0 A c l all p (clR s1)) from (by rw [HZ29.out]; exact closes_any h (fun he => by have h9 := hfin (by rw [HZ29.out]; exact he); rw [HZ29.out] at h9; exact ⟨by have := h9.1; omega, h9.2⟩))))
   go_wp2_with (first
    | (go_at_call 52; (with_reducible refine cM (HC23.out _ HM.out) ?_); rintro e w1 ⟨rfl, h⟩; replace HM := zh h; clear h)
    | (go_at_call 102; (with_reducible refine cM (HC24.out _ HM.out) ?_); rintro e w1 ⟨rfl, h⟩; replace HM := zh h; clear h)
    | (go_at_call 78; (with_reducible refine cM (HC25.out _ HM.out) ?_); rintro e w1 ⟨rfl, h⟩; replace HM := zh h; clear h)
    | (go_at_call 73; (with_reducible refine cM (HC26.out _ HM.out) ?_); rintro e w1 ⟨rfl, h, -⟩; replace HM := zh h; clear h)
    | (go_at_call 55; (with_reducible refine cM (HC28.out _ HM.out) ?_); rintro e w1 ⟨rfl, h⟩; replace HM := zh h; clear h)
    | (go_at_call 78; (with_reducible refine cM (HC29.out _ HM.out) ?_); rintro e w1 ⟨rfl, h⟩; replace HM := zh h; clear h))
   go_end0
   exact ⟨rfl, HM.out⟩
theorem g_row2 (l : List Tk) (all : Bool) (n : Nat) (D_names : GoodR l all n 102 [.word ⟨#[64, 110, 97, 109, 101]⟩, .rule .r_names, .word ⟨#[58]⟩, .rule .r_kind]) : NodeAt l all n 104 [.int .u8 10, .int .u8 11, .string ⟨#[101, 110, 100]⟩] 10 [.word ⟨#[114, 101, 99, 111, 114, 100]⟩, .rule .r_member, .rule .r_members, .word ⟨#[101, 110, 100]⟩] := by
 intro W0 A c p w s s1 H hf hr hfin
 have HM := zh H
 clear H
 show Calls Tryz.prog _ #[.pointer (some ⟨p, 0, none⟩), .int .u8 10, .int .u8 11, .string ⟨#[101, 110, 100]⟩] w (RPost W0 A c l all p (clR s1))
 go_enter Tryz.func104, Tryz.ntmps104
 have HC1 := zh (fun (w1 : World) (h : RMem W0 A c l all w1 p s) => (show Calls Tryz.prog 52 #[.pointer (some ⟨p, 0, none⟩), .int .u8 10] w1 (RPost W0 A c l all p (opR 10 s)) from opens_any h 10 (fun he => (hf he).1)))
 have hr0 := hr
 obtain ⟨s2, h2, hr2⟩ := rrun_app n [.word ⟨#[114, 101, 99, 111, 114, 100]⟩] [.rule .r_member, .rule .r_members, .word ⟨#[101, 110, 100]⟩] (opR 10 s) s1 hr0
 have HC2 := zh (fun (w1 : World) (h : RMem W0 A c l all w1 p (opR 10 s)) => (show Calls Tryz.prog 53 #[.pointer (some ⟨p, 0, none⟩), .string ⟨#[114, 101, 99, 111, 114, 100]⟩] w1 (RPost W0 A c l all p s2) from tw_new h2 (by decide) (by decide) w1 h))
 have HR0 := zh hr2
 go_wp2_with (first
  | (go_at_call 52; (with_reducible refine cM (HC1.out _ HM.out) ?_); rintro e w1 ⟨rfl, h⟩; replace HM := zh h; clear h)
  | (go_at_call 53; (with_reducible refine cM (HC2.out _ HM.out) ?_); rintro e w1 ⟨rfl, h⟩; replace HM := zh h; clear h))
 go_loopg [8] n (fun kq v8 wr => Hid (∃ s0, RMem W0 A c l all wr p s0 ∧ kq ≤ n ∧ rrun l all kq [.rule .r_member, .rule .r_members, .word ⟨#[101, 110, 100]⟩] s0 = some s1))
 case atStart => exact zh ⟨_, HM.out, Nat.le_refl _, HR0.out⟩
 case round =>
  obtain ⟨s0, hM, hkn, hrun⟩ := hrel.out
  clear HR0 hrel HM
  have HM := zh hM
  clear hM
  obtain ⟨m23, s23, hm23, hfi23, h23, hfin23, hr23⟩ := run_node (k := 11) (T := [.word ⟨#[64, 110, 97, 109, 101]⟩, .rule .r_names, .word ⟨#[58]⟩, .rule .r_kind]) (S := [.rule .r_members, .word ⟨#[101, 110, 100]⟩]) (fun _ => rfl) hrun
  have HC23 := zh (fun (w1 : World) (h : RMem W0 A c l all w1 p s0) => (show Calls Tryz.prog 52 #[.pointer (some ⟨p, 0, none⟩), .int .u8 11] w1 (RPost W0 A c l all p (opR 11 s0)) from opens_any h 11 (fun he => (hfi23 he).1.1)))
  have hle23 : m23 ≤ n := by have := hkn; omega
  obtain ⟨s24, h24, hr24⟩ := rrun_app m23 [.word ⟨#[64, 110, 97, 109, 101]⟩, .rule .r_names, .word ⟨#[58]⟩, .rule .r_kind] [] (opR 11 s0) s23 h23
  have HC24 := zh (fun (w1 : World) (h : RMem W0 A c l all w1 p (opR 11 s0)) => (show Calls Tryz.prog 102 #[.pointer (some ⟨p, 0, none⟩)] w1 (RPost W0 A c l all p s24) from D_names m23 hle23 W0 A c p w1 (opR 11 s0) s24 h h24))
  have hz25 : s23 = s24 := rrun_nil hr24
  have HZ25 := zh hz25
  clear hz25
  have HC25 := zh (fun (w1 : World) (h : RMem W0 A c l all w1 p s24) => (show Calls Tryz.prog 78 #[.pointer (some ⟨p, 0, none⟩)] w1 (RPost W0 A c l all p (clR s23)) from (by rw [HZ25.out]; exact closes_any h (fun he => by have h9 := hfin23 (by rw [HZ25.out]; exact he); rw [HZ25.out] at h9; exact ⟨by have := h9.1; omega, h9.2⟩))))
  obtain ⟨b26, hb26⟩ : ∃ b, cdR l (clR s23) ⟨#[59]⟩ = b := ⟨_, rfl⟩
  have HC26 := zh (fun (w1 : World) (h : RMem W0 A c l all w1 p (clR s23)) => (show Calls Tryz.prog 73 #[.pointer (some ⟨p, 0, none⟩), .string ⟨#[59]⟩] w1 (BPost W0 A c l all p (clR s23) b26 w1) from sg_new hb26 (by decide) (by decide) w1 h))
  cases b26 with
  | true =>
   obtain ⟨he26, hc26, hi26⟩ := cd_yes hb26
   obtain ⟨m26, hkm26, hfi26, hp26⟩ := run_rule he26 (e := [.push [.word ⟨#[59]⟩, .rule .r_member, .rule .r_members]]) (by rw [hc26]; rfl) hr23
   have hq26 : rrun l all m26 [.word ⟨#[59]⟩, .rule .r_member, .rule .r_members, .word ⟨#[101, 110, 100]⟩] (clR s23) = some s1 := hp26
   have hle26 : m26 + 1 ≤ n := by have := hkn; omega
   obtain ⟨s27, h27, hr27⟩ := rrun_app m26 [.word ⟨#[59]⟩] [.rule .r_member, .rule .r_members, .word ⟨#[101, 110, 100]⟩] (clR s23) s1 hq26
   have HC27 := zh (fun (w1 : World) (h : RMem W0 A c l all w1 p (clR s23)) => (show Calls Tryz.prog 55 #[.pointer (some ⟨p, 0, none⟩), .string ⟨#[59]⟩] w1 (RPost W0 A c l all p s27) from ts_new h27 (by decide) (by decide) w1 h))
   have HRZ := zh hr27
   have HLZ := zh (show m26 ≤ n by omega)
   go_wp2_with (first
    | (go_at_call 52; (with_reducible refine cM (HC23.out _ HM.out) ?_); rintro e w1 ⟨rfl, h⟩; replace HM := zh h; clear h)
    | (go_at_call 102; (with_reducible refine cM (HC24.out _ HM.out) ?_); rintro e w1 ⟨rfl, h⟩; replace HM := zh h; clear h)
    | (go_at_call 78; (with_reducible refine cM (HC25.out _ HM.out) ?_); rintro e w1 ⟨rfl, h⟩; replace HM := zh h; clear h)
    | (go_at_call 73; (with_reducible refine cM (HC26.out _ HM.out) ?_); rintro e w1 ⟨rfl, h, -⟩; replace HM := zh h; clear h)
    | (go_at_call 55; (with_reducible refine cM (HC27.out _ HM.out) ?_); rintro e w1 ⟨rfl, h⟩; replace HM := zh h; clear h))
   go_roundg m26
   case measure => omega
   case rel => exact zh ⟨_, HM.out, HLZ.out, HRZ.out⟩
  | false =>
   have hs27 := run_stay (fun he => by have e26 := cd_no (by decide) hb26 he; simp [RId.expand, e26]) hr23
   obtain ⟨s28, h28, hr28⟩ := rrun_app gk [.word ⟨#[101, 110, 100]⟩] [] (clR s23) s1 hs27
   have HC28 := zh (fun (w1 : World) (h : RMem W0 A c l all w1 p (clR s23)) => (show Calls Tryz.prog 53 #[.pointer (some ⟨p, 0, none⟩), .string ⟨#[101, 110, 100]⟩] w1 (RPost W0 A c l all p s28) from tw_new h28 (by decide) (by decide) w1 h))
   have hz29 : s1 = s28 := rrun_nil hr28
   have HZ29 := zh hz29
   clear hz29
   have HC29 := zh (fun (w1 : World) (h : RMem W0 A c l all w1 p s28) => (show Calls Tryz.prog 78 #[.pointer (some ⟨p, 0, none⟩)] w1 (RPost W0 A c l all p (clR s1)) from (by rw [HZ29.out]; exact closes_any h (fun he => by have h9 := hfin (by rw [HZ29.out]; exact he); rw [HZ29.out] at h9; exact ⟨by have := h9.1; omega, h9.2⟩))))
   go_wp2_with (first
    | (go_at_call 52; (with_reducible refine cM (HC23.out _ HM.out) ?_); rintro e w1 ⟨rfl, h⟩; replace HM := zh h; clear h)
    | (go_at_call 102; (with_reducible refine cM (HC24.out _ HM.out) ?_); rintro e w1 ⟨rfl, h⟩; replace HM := zh h; clear h)
    | (go_at_call 78; (with_reducible refine cM (HC25.out _ HM.out) ?_); rintro e w1 ⟨rfl, h⟩; replace HM := zh h; clear h)
    | (go_at_call 73; (with_reducible refine cM (HC26.out _ HM.out) ?_); rintro e w1 ⟨rfl, h, -⟩; replace HM := zh h; clear h)
    | (go_at_call 53; (with_reducible refine cM (HC28.out _ HM.out) ?_); rintro e w1 ⟨rfl, h⟩; replace HM := zh h; clear h)
    | (go_at_call 78; (with_reducible refine cM (HC29.out _ HM.out) ?_); rintro e w1 ⟨rfl, h⟩; replace HM := zh h; clear h))
   go_end0
   exact ⟨rfl, HM.out⟩
theorem g_procR (l : List Tk) (all : Bool) (n : Nat) (D_kindOf : GoodR l all n 105 [.rule .r_kind]) (D_block : GoodR l all n 56 [.rule .r_block]) (N_row1 : 0 < n → ∀ m, m ≤ n - 1 → NodeAt l all m 104 [.int .u8 6, .int .u8 7, .string ⟨#[41]⟩] 6 [.word ⟨#[40]⟩, .rule .r_param, .rule .r_moreParams, .word ⟨#[41]⟩]) : NodeAt l all n 76 [] 5 [.word ⟨#[112, 114, 111, 99]⟩, .word ⟨#[64, 110, 97, 109, 101]⟩, .rule .r_params, .rule .r_typed, .word ⟨#[59]⟩, .rule .r_block, .word ⟨#[59]⟩] := by
 intro W0 A c p w s s1 H hf hr hfin
 have HM := zh H
 clear H
 show Calls Tryz.prog _ #[.pointer (some ⟨p, 0, none⟩)] w (RPost W0 A c l all p (clR s1))
 go_enter Tryz.func76, Tryz.ntmps76
 have HC1 := zh (fun (w1 : World) (h : RMem W0 A c l all w1 p s) => (show Calls Tryz.prog 52 #[.pointer (some ⟨p, 0, none⟩), .int .u8 5] w1 (RPost W0 A c l all p (opR 5 s)) from opens_any h 5 (fun he => (hf he).1)))
 have hr0 := hr
 obtain ⟨s2, h2, hr2⟩ := rrun_app n [.word ⟨#[112, 114, 111, 99]⟩] [.word ⟨#[64, 110, 97, 109, 101]⟩, .rule .r_params, .rule .r_typed, .word ⟨#[59]⟩, .rule .r_block, .word ⟨#[59]⟩] (opR 5 s) s1 hr0
 have HC2 := zh (fun (w1 : World) (h : RMem W0 A c l all w1 p (opR 5 s)) => (show Calls Tryz.prog 53 #[.pointer (some ⟨p, 0, none⟩), .string ⟨#[112, 114, 111, 99]⟩] w1 (RPost W0 A c l all p s2) from tw_new h2 (by decide) (by decide) w1 h))
 obtain ⟨s3, h3, hr3⟩ := rrun_app n [.word ⟨#[64, 110, 97, 109, 101]⟩] [.rule .r_params, .rule .r_typed, .word ⟨#[59]⟩, .rule .r_block, .word ⟨#[59]⟩] s2 s1 hr2
 have HC3 := zh (fun (w1 : World) (h : RMem W0 A c l all w1 p s2) => (show Calls Tryz.prog 54 #[.pointer (some ⟨p, 0, none⟩)] w1 (RPost W0 A c l all p s3) from tn_new h3 w1 h))
 obtain ⟨b4, hb4⟩ : ∃ b, cdR l s3 ⟨#[40]⟩ = b := ⟨_, rfl⟩
 have HC4 := zh (fun (w1 : World) (h : RMem W0 A c l all w1 p s3) => (show Calls Tryz.prog 73 #[.pointer (some ⟨p, 0, none⟩), .string ⟨#[40]⟩] w1 (BPost W0 A c l all p s3 b4 w1) from sg_new hb4 (by decide) (by decide) w1 h))
 cases b4 with
 | true =>
  obtain ⟨he4, hc4, hi4⟩ := cd_yes hb4
  obtain ⟨m5, s5, hm5, hfi5, h5, hfin5, hr5⟩ := run_node (k := 6) (T := [.word ⟨#[40]⟩, .rule .r_param, .rule .r_moreParams, .word ⟨#[41]⟩]) (S := [.rule .r_typed, .word ⟨#[59]⟩, .rule .r_block, .word ⟨#[59]⟩]) (fun _ => by rw [hc4]; rfl) hr3
  have HC5 := zh (fun (w1 : World) (h : RMem W0 A c l all w1 p s3) => (show Calls Tryz.prog 104 #[.pointer (some ⟨p, 0, none⟩), .int .u8 6, .int .u8 7, .string ⟨#[41]⟩] w1 (RPost W0 A c l all p (clR s5)) from N_row1 (by have := (hfi5 he4).2; have := (Nat.le_refl n); omega) m5 (by have := (hfi5 he4).2; have := (Nat.le_refl n); omega) W0 A c p w1 s3 s5 h (fun he => (hfi5 he).1) h5 hfin5))
  obtain ⟨b6, hb6⟩ : ∃ b, cdR l (clR s5) ⟨#[58]⟩ = b := ⟨_, rfl⟩
  have HC6 := zh (fun (w1 : World) (h : RMem W0 A c l all w1 p (clR s5)) => (show Calls Tryz.prog 73 #[.pointer (some ⟨p, 0, none⟩), .string ⟨#[58]⟩] w1 (BPost W0 A c l all p (clR s5) b6 w1) from sg_new hb6 (by decide) (by decide) w1 h))
  cases b6 with
  | true =>
   obtain ⟨he6, hc6, hi6⟩ := cd_yes hb6
   obtain ⟨m6, hkm6, hfi6, hp6⟩ := run_rule he6 (e := [.push [.word ⟨#[58]⟩, .rule .r_kind]]) (by rw [hc6]; rfl) hr5
   have hq6 : rrun l all m6 [.word ⟨#[58]⟩, .rule .r_kind, .word ⟨#[59]⟩, .rule .r_block, .word ⟨#[59]⟩] (clR s5) = some s1 := hp6
   have hle6 : m6 + 1 ≤ n := by have := (Nat.le_refl n); omega
   obtain ⟨s7, h7, hr7⟩ := rrun_app m6 [.word ⟨#[58]⟩] [.rule .r_kind, .word ⟨#[59]⟩, .rule .r_block, .word ⟨#[59]⟩] (clR s5) s1 hq6
   have HC7 := zh (fun (w1 : World) (h : RMem W0 A c l all w1 p (clR s5)) => (show Calls Tryz.prog 55 #[.pointer (some ⟨p, 0, none⟩), .string ⟨#[58]⟩] w1 (RPost W0 A c l all p s7) from ts_new h7 (by decide) (by decide) w1 h))
   obtain ⟨s8, h8, hr8⟩ := rrun_app m6 [.rule .r_kind] [.word ⟨#[59]⟩, .rule .r_block, .word ⟨#[59]⟩] s7 s1 hr7
   have HC8 := zh (fun (w1 : World) (h : RMem W0 A c l all w1 p s7) => (show Calls Tryz.prog 105 #[.pointer (some ⟨p, 0, none⟩)] w1 (RPost W0 A c l all p s8) from D_kindOf m6 (Nat.le_of_succ_le hle6) W0 A c p w1 s7 s8 h h8))
   obtain ⟨s9, h9, hr9⟩ := rrun_app m6 [.word ⟨#[59]⟩] [.rule .r_block, .word ⟨#[59]⟩] s8 s1 hr8
   have HC9 := zh (fun (w1 : World) (h : RMem W0 A c l all w1 p s8) => (show Calls Tryz.prog 55 #[.pointer (some ⟨p, 0, none⟩), .string ⟨#[59]⟩] w1 (RPost W0 A c l all p s9) from ts_new h9 (by decide) (by decide) w1 h))
   obtain ⟨s10, h10, hr10⟩ := rrun_app m6 [.rule .r_block] [.word ⟨#[59]⟩] s9 s1 hr9
   have HC10 := zh (fun (w1 : World) (h : RMem W0 A c l all w1 p s9) => (show Calls Tryz.prog 56 #[.pointer (some ⟨p, 0, none⟩)] w1 (RPost W0 A c l all p s10) from D_block m6 (Nat.le_of_succ_le hle6) W0 A c p w1 s9 s10 h h10))
   obtain ⟨s11, h11, hr11⟩ := rrun_app m6 [.word ⟨#[59]⟩] [] s10 s1 hr10
   have HC11 := zh (fun (w1 : World) (h : RMem W0 A c l all w1 p s10) => (show Calls Tryz.prog 55 #[.pointer (some ⟨p, 0, none⟩), .string ⟨#[59]⟩] w1 (RPost W0 A c l all p s11) from ts_new h11 (by decide) (by decide) w1 h))
   have hz12 : s1 = s11 := rrun_nil hr11
   have HZ12 := zh hz12
   clear hz12
   have HC12 := zh (fun (w1 : World) (h : RMem W0 A c l all w1 p s11) => (show Calls Tryz.prog 78 #[.pointer (some ⟨p, 0, none⟩)] w1 (RPost W0 A c l all p (clR s1)) from (by rw [HZ12.out]; exact closes_any h (fun he => by have h9 := hfin (by rw [HZ12.out]; exact he); rw [HZ12.out] at h9; exact ⟨by have := h9.1; omega, h9.2⟩))))
   go_wp2_with (first
    | (go_at_call 52; (with_reducible refine cM (HC1.out _ HM.out) ?_); rintro e w1 ⟨rfl, h⟩; replace HM := zh h; clear h)
    | (go_at_call 53; (with_reducible refine cM (HC2.out _ HM.out) ?_); rintro e w1 ⟨rfl, h⟩; replace HM := zh h; clear h)
    | (go_at_call 54; (with_reducible refine cM (HC3.out _ HM.out) ?_); rintro e w1 ⟨rfl, h⟩; replace HM := zh h; clear h)
    | (go_at_call 73; (with_reducible refine cM (HC4.out _ HM.out) ?_); rintro e w1 ⟨rfl, h, -⟩; replace HM := zh h; clear h)
    | (go_at_call 104; (with_reducible refine cM (HC5.out _ HM.out) ?_); rintro e w1 ⟨rfl, h⟩; replace HM := zh h; clear h)
    | (go_at_call 73; (with_reducible refine cM (HC6.out _ HM.out) ?_); rintro e w1 ⟨rfl, h, -⟩; replace HM := zh h; clear h)
    | (go_at_call 55; (with_reducible refine cM (HC7.out _ HM.out) ?_); rintro e w1 ⟨rfl, h⟩; replace HM := zh h; clear h)
    | (go_at_call 105; (with_reducible refine cM (HC8.out _ HM.out) ?_); rintro e w1 ⟨rfl, h⟩; replace HM := zh h; clear h)
    | (go_at_call 55; (with_reducible refine cM (HC9.out _ HM.out) ?_); rintro e w1 ⟨rfl, h⟩; replace HM := zh h; clear h)
    | (go_at_call 56; (with_reducible refine cM (HC10.out _ HM.out) ?_); rintro e w1 ⟨rfl, h⟩; replace HM := zh h; clear h)
    | (go_at_call 55; (with_reducible refine cM (HC11.out _ HM.out) ?_); rintro e w1 ⟨rfl, h⟩; replace HM := zh h; clear h)
    | (go_at_call 78; (with_reducible refine cM (HC12.out _ HM.out) ?_); rintro e w1 ⟨rfl, h⟩; replace HM := zh h; clear h))
   go_end0
   exact ⟨rfl, HM.out⟩
  | false =>
   have hs7 := run_stay (fun he => by have e6 := cd_no (by decide) hb6 he; simp [RId.expand, e6]) hr5
   obtain ⟨s8, h8, hr8⟩ := rrun_app n [.word ⟨#[59]⟩] [.rule .r_block, .word ⟨#[59]⟩] (clR s5) s1 hs7
   have HC8 := zh (fun (w1 : World) (h : RMem W0 A c l all w1 p (clR s5)) => (show Calls Tryz.prog 55 #[.pointer (some ⟨p, 0, none⟩), .string ⟨#[59]⟩] w1 (RPost W0 A c l all p s8) from ts_new h8 (by decide) (by decide) w1 h))
   obtain ⟨s9, h9, hr9⟩ := rrun_app n [.rule .r_block] [.word ⟨#[59]⟩] s8 s1 hr8
   have HC9 := zh (fun (w1 : World) (h : RMem W0 A c l all w1 p s8) => (show Calls Tryz.prog 56 #[.pointer (some ⟨p, 0, none⟩)] w1 (RPost W0 A c l all p s9) from D_block n (Nat.le_refl n) W0 A c p w1 s8 s9 h h9))
   obtain ⟨s10, h10, hr10⟩ := rrun_app n [.word ⟨#[59]⟩] [] s9 s1 hr9
   have HC10 := zh (fun (w1 : World) (h : RMem W0 A c l all w1 p s9) => (show Calls Tryz.prog 55 #[.pointer (some ⟨p, 0, none⟩), .string ⟨#[59]⟩] w1 (RPost W0 A c l all p s10) from ts_new h10 (by decide) (by decide) w1 h))
   have hz11 : s1 = s10 := rrun_nil hr10
   have HZ11 := zh hz11
   clear hz11
   have HC11 := zh (fun (w1 : World) (h : RMem W0 A c l all w1 p s10) => (show Calls Tryz.prog 78 #[.pointer (some ⟨p, 0, none⟩)] w1 (RPost W0 A c l all p (clR s1)) from (by rw [HZ11.out]; exact closes_any h (fun he => by have h9 := hfin (by rw [HZ11.out]; exact he); rw [HZ11.out] at h9; exact ⟨by have := h9.1; omega, h9.2⟩))))
   go_wp2_with (first
    | (go_at_call 52; (with_reducible refine cM (HC1.out _ HM.out) ?_); rintro e w1 ⟨rfl, h⟩; replace HM := zh h; clear h)
    | (go_at_call 53; (with_reducible refine cM (HC2.out _ HM.out) ?_); rintro e w1 ⟨rfl, h⟩; replace HM := zh h; clear h)
    | (go_at_call 54; (with_reducible refine cM (HC3.out _ HM.out) ?_); rintro e w1 ⟨rfl, h⟩; replace HM := zh h; clear h)
    | (go_at_call 73; (with_reducible refine cM (HC4.out _ HM.out) ?_); rintro e w1 ⟨rfl, h, -⟩; replace HM := zh h; clear h)
    | (go_at_call 104; (with_reducible refine cM (HC5.out _ HM.out) ?_); rintro e w1 ⟨rfl, h⟩; replace HM := zh h; clear h)
    | (go_at_call 73; (with_reducible refine cM (HC6.out _ HM.out) ?_); rintro e w1 ⟨rfl, h, -⟩; replace HM := zh h; clear h)
    | (go_at_call 55; (with_reducible refine cM (HC8.out _ HM.out) ?_); rintro e w1 ⟨rfl, h⟩; replace HM := zh h; clear h)
    | (go_at_call 56; (with_reducible refine cM (HC9.out _ HM.out) ?_); rintro e w1 ⟨rfl, h⟩; replace HM := zh h; clear h)
    | (go_at_call 55; (with_reducible refine cM (HC10.out _ HM.out) ?_); rintro e w1 ⟨rfl, h⟩; replace HM := zh h; clear h)
    | (go_at_call 78; (with_reducible refine cM (HC11.out _ HM.out) ?_); rintro e w1 ⟨rfl, h⟩; replace HM := zh h; clear h))
   go_end0
   exact ⟨rfl, HM.out⟩
 | false =>
  have hs5 := run_stay (fun he => by have e4 := cd_no (by decide) hb4 he; simp [RId.expand, e4]) hr3
  obtain ⟨b6, hb6⟩ : ∃ b, cdR l s3 ⟨#[58]⟩ = b := ⟨_, rfl⟩
  have HC6 := zh (fun (w1 : World) (h : RMem W0 A c l all w1 p s3) => (show Calls Tryz.prog 73 #[.pointer (some ⟨p, 0, none⟩), .string ⟨#[58]⟩] w1 (BPost W0 A c l all p s3 b6 w1) from sg_new hb6 (by decide) (by decide) w1 h))
  cases b6 with
  | true =>
   obtain ⟨he6, hc6, hi6⟩ := cd_yes hb6
   obtain ⟨m6, hkm6, hfi6, hp6⟩ := run_rule he6 (e := [.push [.word ⟨#[58]⟩, .rule .r_kind]]) (by rw [hc6]; rfl) hs5
   have hq6 : rrun l all m6 [.word ⟨#[58]⟩, .rule .r_kind, .word ⟨#[59]⟩, .rule .r_block, .word ⟨#[59]⟩] s3 = some s1 := hp6
   have hle6 : m6 + 1 ≤ n := by have := (Nat.le_refl n); omega
   obtain ⟨s7, h7, hr7⟩ := rrun_app m6 [.word ⟨#[58]⟩] [.rule .r_kind, .word ⟨#[59]⟩, .rule .r_block, .word ⟨#[59]⟩] s3 s1 hq6
   have HC7 := zh (fun (w1 : World) (h : RMem W0 A c l all w1 p s3) => (show Calls Tryz.prog 55 #[.pointer (some ⟨p, 0, none⟩), .string ⟨#[58]⟩] w1 (RPost W0 A c l all p s7) from ts_new h7 (by decide) (by decide) w1 h))
   obtain ⟨s8, h8, hr8⟩ := rrun_app m6 [.rule .r_kind] [.word ⟨#[59]⟩, .rule .r_block, .word ⟨#[59]⟩] s7 s1 hr7
   have HC8 := zh (fun (w1 : World) (h : RMem W0 A c l all w1 p s7) => (show Calls Tryz.prog 105 #[.pointer (some ⟨p, 0, none⟩)] w1 (RPost W0 A c l all p s8) from D_kindOf m6 (Nat.le_of_succ_le hle6) W0 A c p w1 s7 s8 h h8))
   obtain ⟨s9, h9, hr9⟩ := rrun_app m6 [.word ⟨#[59]⟩] [.rule .r_block, .word ⟨#[59]⟩] s8 s1 hr8
   have HC9 := zh (fun (w1 : World) (h : RMem W0 A c l all w1 p s8) => (show Calls Tryz.prog 55 #[.pointer (some ⟨p, 0, none⟩), .string ⟨#[59]⟩] w1 (RPost W0 A c l all p s9) from ts_new h9 (by decide) (by decide) w1 h))
   obtain ⟨s10, h10, hr10⟩ := rrun_app m6 [.rule .r_block] [.word ⟨#[59]⟩] s9 s1 hr9
   have HC10 := zh (fun (w1 : World) (h : RMem W0 A c l all w1 p s9) => (show Calls Tryz.prog 56 #[.pointer (some ⟨p, 0, none⟩)] w1 (RPost W0 A c l all p s10) from D_block m6 (Nat.le_of_succ_le hle6) W0 A c p w1 s9 s10 h h10))
   obtain ⟨s11, h11, hr11⟩ := rrun_app m6 [.word ⟨#[59]⟩] [] s10 s1 hr10
   have HC11 := zh (fun (w1 : World) (h : RMem W0 A c l all w1 p s10) => (show Calls Tryz.prog 55 #[.pointer (some ⟨p, 0, none⟩), .string ⟨#[59]⟩] w1 (RPost W0 A c l all p s11) from ts_new h11 (by decide) (by decide) w1 h))
   have hz12 : s1 = s11 := rrun_nil hr11
   have HZ12 := zh hz12
   clear hz12
   have HC12 := zh (fun (w1 : World) (h : RMem W0 A c l all w1 p s11) => (show Calls Tryz.prog 78 #[.pointer (some ⟨p, 0, none⟩)] w1 (RPost W0 A c l all p (clR s1)) from (by rw [HZ12.out]; exact closes_any h (fun he => by have h9 := hfin (by rw [HZ12.out]; exact he); rw [HZ12.out] at h9; exact ⟨by have := h9.1; omega, h9.2⟩))))
   go_wp2_with (first
    | (go_at_call 52; (with_reducible refine cM (HC1.out _ HM.out) ?_); rintro e w1 ⟨rfl, h⟩; replace HM := zh h; clear h)
    | (go_at_call 53; (with_reducible refine cM (HC2.out _ HM.out) ?_); rintro e w1 ⟨rfl, h⟩; replace HM := zh h; clear h)
    | (go_at_call 54; (with_reducible refine cM (HC3.out _ HM.out) ?_); rintro e w1 ⟨rfl, h⟩; replace HM := zh h; clear h)
    | (go_at_call 73; (with_reducible refine cM (HC4.out _ HM.out) ?_); rintro e w1 ⟨rfl, h, -⟩; replace HM := zh h; clear h)
    | (go_at_call 73; (with_reducible refine cM (HC6.out _ HM.out) ?_); rintro e w1 ⟨rfl, h, -⟩; replace HM := zh h; clear h)
    | (go_at_call 55; (with_reducible refine cM (HC7.out _ HM.out) ?_); rintro e w1 ⟨rfl, h⟩; replace HM := zh h; clear h)
    | (go_at_call 105; (with_reducible refine cM (HC8.out _ HM.out) ?_); rintro e w1 ⟨rfl, h⟩; replace HM := zh h; clear h)
    | (go_at_call 55; (with_reducible refine cM (HC9.out _ HM.out) ?_); rintro e w1 ⟨rfl, h⟩; replace HM := zh h; clear h)
    | (go_at_call 56; (with_reducible refine cM (HC10.out _ HM.out) ?_); rintro e w1 ⟨rfl, h⟩; replace HM := zh h; clear h)
    | (go_at_call 55; (with_reducible refine cM (HC11.out _ HM.out) ?_); rintro e w1 ⟨rfl, h⟩; replace HM := zh h; clear h)
    | (go_at_call 78; (with_reducible refine cM (HC12.out _ HM.out) ?_); rintro e w1 ⟨rfl, h⟩; replace HM := zh h; clear h))
   go_end0
   exact ⟨rfl, HM.out⟩
  | false =>
   have hs7 := run_stay (fun he => by have e6 := cd_no (by decide) hb6 he; simp [RId.expand, e6]) hs5
   obtain ⟨s8, h8, hr8⟩ := rrun_app n [.word ⟨#[59]⟩] [.rule .r_block, .word ⟨#[59]⟩] s3 s1 hs7
   have HC8 := zh (fun (w1 : World) (h : RMem W0 A c l all w1 p s3) => (show Calls Tryz.prog 55 #[.pointer (some ⟨p, 0, none⟩), .string ⟨#[59]⟩] w1 (RPost W0 A c l all p s8) from ts_new h8 (by decide) (by decide) w1 h))
   obtain ⟨s9, h9, hr9⟩ := rrun_app n [.rule .r_block] [.word ⟨#[59]⟩] s8 s1 hr8
   have HC9 := zh (fun (w1 : World) (h : RMem W0 A c l all w1 p s8) => (show Calls Tryz.prog 56 #[.pointer (some ⟨p, 0, none⟩)] w1 (RPost W0 A c l all p s9) from D_block n (Nat.le_refl n) W0 A c p w1 s8 s9 h h9))
   obtain ⟨s10, h10, hr10⟩ := rrun_app n [.word ⟨#[59]⟩] [] s9 s1 hr9
   have HC10 := zh (fun (w1 : World) (h : RMem W0 A c l all w1 p s9) => (show Calls Tryz.prog 55 #[.pointer (some ⟨p, 0, none⟩), .string ⟨#[59]⟩] w1 (RPost W0 A c l all p s10) from ts_new h10 (by decide) (by decide) w1 h))
   have hz11 : s1 = s10 := rrun_nil hr10
   have HZ11 := zh hz11
   clear hz11
   have HC11 := zh (fun (w1 : World) (h : RMem W0 A c l all w1 p s10) => (show Calls Tryz.prog 78 #[.pointer (some ⟨p, 0, none⟩)] w1 (RPost W0 A c l all p (clR s1)) from (by rw [HZ11.out]; exact closes_any h (fun he => by have h9 := hfin (by rw [HZ11.out]; exact he); rw [HZ11.out] at h9; exact ⟨by have := h9.1; omega, h9.2⟩))))
   go_wp2_with (first
    | (go_at_call 52; (with_reducible refine cM (HC1.out _ HM.out) ?_); rintro e w1 ⟨rfl, h⟩; replace HM := zh h; clear h)
    | (go_at_call 53; (with_reducible refine cM (HC2.out _ HM.out) ?_); rintro e w1 ⟨rfl, h⟩; replace HM := zh h; clear h)
    | (go_at_call 54; (with_reducible refine cM (HC3.out _ HM.out) ?_); rintro e w1 ⟨rfl, h⟩; replace HM := zh h; clear h)
    | (go_at_call 73; (with_reducible refine cM (HC4.out _ HM.out) ?_); rintro e w1 ⟨rfl, h, -⟩; replace HM := zh h; clear h)
    | (go_at_call 73; (with_reducible refine cM (HC6.out _ HM.out) ?_); rintro e w1 ⟨rfl, h, -⟩; replace HM := zh h; clear h)
    | (go_at_call 55; (with_reducible refine cM (HC8.out _ HM.out) ?_); rintro e w1 ⟨rfl, h⟩; replace HM := zh h; clear h)
    | (go_at_call 56; (with_reducible refine cM (HC9.out _ HM.out) ?_); rintro e w1 ⟨rfl, h⟩; replace HM := zh h; clear h)
    | (go_at_call 55; (with_reducible refine cM (HC10.out _ HM.out) ?_); rintro e w1 ⟨rfl, h⟩; replace HM := zh h; clear h)
    | (go_at_call 78; (with_reducible refine cM (HC11.out _ HM.out) ?_); rintro e w1 ⟨rfl, h⟩; replace HM := zh h; clear h))
   go_end0
   exact ⟨rfl, HM.out⟩
theorem g_blockR (l : List Tk) (all : Bool) (n : Nat) (D_body : GoodR l all n 77 [.rule .r_body]) (N_variable : 0 < n → ∀ m, m ≤ n - 1 → NodeAt l all m 74 [] 3 [.word ⟨#[118, 97, 114]⟩, .word ⟨#[64, 110, 97, 109, 101]⟩, .rule .r_names, .word ⟨#[58]⟩, .rule .r_kind, .word ⟨#[59]⟩]) (N_constant : 0 < n → ∀ m, m ≤ n - 1 → NodeAt l all m 75 [] 4 [.word ⟨#[99, 111, 110, 115, 116]⟩, .word ⟨#[64, 110, 97, 109, 101]⟩, .word ⟨#[61]⟩, .rule .r_expr, .word ⟨#[59]⟩]) (N_proc : 0 < n → ∀ m, m ≤ n - 1 → NodeAt l all m 76 [] 5 [.word ⟨#[112, 114, 111, 99]⟩, .word ⟨#[64, 110, 97, 109, 101]⟩, .rule .r_params, .rule .r_typed, .word ⟨#[59]⟩, .rule .r_block, .word ⟨#[59]⟩]) : NodeAt l all n 56 [] 2 [.rule .r_declarations, .word ⟨#[98, 101, 103, 105, 110]⟩, .rule .r_body, .word ⟨#[101, 110, 100]⟩] := by
 intro W0 A c p w s s1 H hf hr hfin
 have HM := zh H
 clear H
 show Calls Tryz.prog _ #[.pointer (some ⟨p, 0, none⟩)] w (RPost W0 A c l all p (clR s1))
 go_enter Tryz.func56, Tryz.ntmps56
 have HC1 := zh (fun (w1 : World) (h : RMem W0 A c l all w1 p s) => (show Calls Tryz.prog 52 #[.pointer (some ⟨p, 0, none⟩), .int .u8 2] w1 (RPost W0 A c l all p (opR 2 s)) from opens_any h 2 (fun he => (hf he).1)))
 have hr0 := hr
 have HR0 := zh hr0
 go_wp2_with (first
  | (go_at_call 52; (with_reducible refine cM (HC1.out _ HM.out) ?_); rintro e w1 ⟨rfl, h⟩; replace HM := zh h; clear h))
 go_loopg [2] n (fun kq v2 wr => Hid (∃ s0, RMem W0 A c l all wr p s0 ∧ kq ≤ n ∧ rrun l all kq [.rule .r_declarations, .word ⟨#[98, 101, 103, 105, 110]⟩, .rule .r_body, .word ⟨#[101, 110, 100]⟩] s0 = some s1))
 case atStart => exact zh ⟨_, HM.out, Nat.le_refl _, HR0.out⟩
 case round =>
  obtain ⟨s0, hM, hkn, hrun⟩ := hrel.out
  clear HR0 hrel HM
  have HM := zh hM
  clear hM
  obtain ⟨b22, hb22⟩ : ∃ b, cdR l s0 ⟨#[118, 97, 114]⟩ = b := ⟨_, rfl⟩
  have HC22 := zh (fun (w1 : World) (h : RMem W0 A c l all w1 p s0) => (show Calls Tryz.prog 70 #[.pointer (some ⟨p, 0, none⟩), .string ⟨#[118, 97, 114]⟩] w1 (BPost W0 A c l all p s0 b22 w1) from wd_new hb22 (by decide) (by decide) w1 h))
  obtain ⟨b23, hb23⟩ : ∃ b, cdR l s0 ⟨#[99, 111, 110, 115, 116]⟩ = b := ⟨_, rfl⟩
  have HC23 := zh (fun (w1 : World) (h : RMem W0 A c l all w1 p s0) => (show Calls Tryz.prog 70 #[.pointer (some ⟨p, 0, none⟩), .string ⟨#[99, 111, 110, 115, 116]⟩] w1 (BPost W0 A c l all p s0 b23 w1) from wd_new hb23 (by decide) (by decide) w1 h))
  obtain ⟨b24, hb24⟩ : ∃ b, cdR l s0 ⟨#[112, 114, 111, 99]⟩ = b := ⟨_, rfl⟩
  have HC24 := zh (fun (w1 : World) (h : RMem W0 A c l all w1 p s0) => (show Calls Tryz.prog 70 #[.pointer (some ⟨p, 0, none⟩), .string ⟨#[112, 114, 111, 99]⟩] w1 (BPost W0 A c l all p s0 b24 w1) from wd_new hb24 (by decide) (by decide) w1 h))
  cases b22 with
  | true =>
   obtain ⟨he22, hc22, hi22⟩ := cd_yes hb22
   obtain ⟨m22, hkm22, hfi22, hp22⟩ := run_rule he22 (e := [.push [.rule .r_declaration, .rule .r_declarations]]) (by rw [hc22]; rfl) hrun
   have hq22 : rrun l all m22 [.rule .r_declaration, .rule .r_declarations, .word ⟨#[98, 101, 103, 105, 110]⟩, .rule .r_body, .word ⟨#[101, 110, 100]⟩] s0 = some s1 := hp22
   have hle22 : m22 + 1 ≤ n := by have := hkn; omega
   obtain ⟨m25, s25, hm25, hfi25, h25, hfin25, hr25⟩ := run_node (k := 3) (T := [.word ⟨#[118, 97, 114]⟩, .word ⟨#[64, 110, 97, 109, 101]⟩, .rule .r_names, .word ⟨#[58]⟩, .rule .r_kind, .word ⟨#[59]⟩]) (S := [.rule .r_declarations, .word ⟨#[98, 101, 103, 105, 110]⟩, .rule .r_body, .word ⟨#[101, 110, 100]⟩]) (fun _ => by rw [hc22]; rfl) hq22
   have HC25 := zh (fun (w1 : World) (h : RMem W0 A c l all w1 p s0) => (show Calls Tryz.prog 74 #[.pointer (some ⟨p, 0, none⟩)] w1 (RPost W0 A c l all p (clR s25)) from N_variable (by have := (hfi25 he22).2; have := (Nat.le_of_succ_le hle22); omega) m25 (by have := (hfi25 he22).2; have := (Nat.le_of_succ_le hle22); omega) W0 A c p w1 s0 s25 h (fun he => (hfi25 he).1) h25 hfin25))
   have HRZ := zh hr25
   have HLZ := zh (show m22 ≤ n by omega)
   go_wp2_with (first
    | (go_at_call 70; (with_reducible refine cM (HC22.out _ HM.out) ?_); rintro e w1 ⟨rfl, h, -⟩; replace HM := zh h; clear h)
    | (go_at_call 70; (with_reducible refine cM (HC23.out _ HM.out) ?_); rintro e w1 ⟨rfl, h, -⟩; replace HM := zh h; clear h)
    | (go_at_call 70; (with_reducible refine cM (HC24.out _ HM.out) ?_); rintro e w1 ⟨rfl, h, -⟩; replace HM := zh h; clear h)
    | (go_at_call 74; (with_reducible refine cM (HC25.out _ HM.out) ?_); rintro e w1 ⟨rfl, h⟩; replace HM := zh h; clear h))
   go_roundg m22
   case measure => omega
   case rel => exact zh ⟨_, HM.out, HLZ.out, HRZ.out⟩
  | false =>
   cases b23 with
   | true =>
    obtain ⟨he23, hc23, hi23⟩ := cd_yes hb23
    obtain ⟨m23, hkm23, hfi23, hp23⟩ := run_rule he23 (e := [.push [.rule .r_declaration, .rule .r_declarations]]) (by rw [hc23]; rfl) hrun
    have hq23 : rrun l all m23 [.rule .r_declaration, .rule .r_declarations, .word ⟨#[98, 101, 103, 105, 110]⟩, .rule .r_body, .word ⟨#[101, 110, 100]⟩] s0 = some s1 := hp23
    have hle23 : m23 + 1 ≤ n := by have := hkn; omega
    obtain ⟨m25, s25, hm25, hfi25, h25, hfin25, hr25⟩ := run_node (k := 4) (T := [.word ⟨#[99, 111, 110, 115, 116]⟩, .word ⟨#[64, 110, 97, 109, 101]⟩, .word ⟨#[61]⟩, .rule .r_expr, .word ⟨#[59]⟩]) (S := [.rule .r_declarations, .word ⟨#[98, 101, 103, 105, 110]⟩, .rule .r_body, .word ⟨#[101, 110, 100]⟩]) (fun _ => by rw [hc23]; rfl) hq23
    have HC25 := zh (fun (w1 : World) (h : RMem W0 A c l all w1 p s0) => (show Calls Tryz.prog 75 #[.pointer (some ⟨p, 0, none⟩)] w1 (RPost W0 A c l all p (clR s25)) from N_constant (by have := (hfi25 he23).2; have := (Nat.le_of_succ_le hle23); omega) m25 (by have := (hfi25 he23).2; have := (Nat.le_of_succ_le hle23); omega) W0 A c p w1 s0 s25 h (fun he => (hfi25 he).1) h25 hfin25))
    have HRZ := zh hr25
    have HLZ := zh (show m23 ≤ n by omega)
    go_wp2_with (first
     | (go_at_call 70; (with_reducible refine cM (HC22.out _ HM.out) ?_); rintro e w1 ⟨rfl, h, -⟩; replace HM := zh h; clear h)
     | (go_at_call 70; (with_reducible refine cM (HC23.out _ HM.out) ?_); rintro e w1 ⟨rfl, h, -⟩; replace HM := zh h; clear h)
     | (go_at_call 70; (with_reducible refine cM (HC24.out _ HM.out) ?_); rintro e w1 ⟨rfl, h, -⟩; replace HM := zh h; clear h)
     | (go_at_call 75; (with_reducible refine cM (HC25.out _ HM.out) ?_); rintro e w1 ⟨rfl, h⟩; replace HM := zh h; clear h))
    go_roundg m23
    case measure => omega
    case rel => exact zh ⟨_, HM.out, HLZ.out, HRZ.out⟩
   | false =>
    cases b24 with
    | true =>
     obtain ⟨he24, hc24, hi24⟩ := cd_yes hb24
     obtain ⟨m24, hkm24, hfi24, hp24⟩ := run_rule he24 (e := [.push [.rule .r_declaration, .rule .r_declarations]]) (by rw [hc24]; rfl) hrun
     have hq24 : rrun l all m24 [.rule .r_declaration, .rule .r_declarations, .word ⟨#[98, 101, 103, 105, 110]⟩, .rule .r_body, .word ⟨#[101, 110, 100]⟩] s0 = some s1 := hp24
     have hle24 : m24 + 1 ≤ n := by have := hkn; omega
     obtain ⟨m25, s25, hm25, hfi25, h25, hfin25, hr25⟩ := run_node (k := 5) (T := [.word ⟨#[112, 114, 111, 99]⟩, .word ⟨#[64, 110, 97, 109, 101]⟩, .rule .r_params, .rule .r_typed, .word ⟨#[59]⟩, .rule .r_block, .word ⟨#[59]⟩]) (S := [.rule .r_declarations, .word ⟨#[98, 101, 103, 105, 110]⟩, .rule .r_body, .word ⟨#[101, 110, 100]⟩]) (fun _ => by rw [hc24]; rfl) hq24
     have HC25 := zh (fun (w1 : World) (h : RMem W0 A c l all w1 p s0) => (show Calls Tryz.prog 76 #[.pointer (some ⟨p, 0, none⟩)] w1 (RPost W0 A c l all p (clR s25)) from N_proc (by have := (hfi25 he24).2; have := (Nat.le_of_succ_le hle24); omega) m25 (by have := (hfi25 he24).2; have := (Nat.le_of_succ_le hle24); omega) W0 A c p w1 s0 s25 h (fun he => (hfi25 he).1) h25 hfin25))
     have HRZ := zh hr25
     have HLZ := zh (show m24 ≤ n by omega)
     go_wp2_with (first
      | (go_at_call 70; (with_reducible refine cM (HC22.out _ HM.out) ?_); rintro e w1 ⟨rfl, h, -⟩; replace HM := zh h; clear h)
      | (go_at_call 70; (with_reducible refine cM (HC23.out _ HM.out) ?_); rintro e w1 ⟨rfl, h, -⟩; replace HM := zh h; clear h)
      | (go_at_call 70; (with_reducible refine cM (HC24.out _ HM.out) ?_); rintro e w1 ⟨rfl, h, -⟩; replace HM := zh h; clear h)
      | (go_at_call 76; (with_reducible refine cM (HC25.out _ HM.out) ?_); rintro e w1 ⟨rfl, h⟩; replace HM := zh h; clear h))
     go_roundg m24
     case measure => omega
     case rel => exact zh ⟨_, HM.out, HLZ.out, HRZ.out⟩
    | false =>
     have hs25 := run_stay (fun he => by have e22 := cd_no (by decide) hb22 he; have e23 := cd_no (by decide) hb23 he; have e24 := cd_no (by decide) hb24 he; simp [RId.expand, e22, e23, e24]) hrun
     obtain ⟨s26, h26, hr26⟩ := rrun_app gk [.word ⟨#[98, 101, 103, 105, 110]⟩] [.rule .r_body, .word ⟨#[101, 110, 100]⟩] s0 s1 hs25
     have HC26 := zh (fun (w1 : World) (h : RMem W0 A c l all w1 p s0) => (show Calls Tryz.prog 53 #[.pointer (some ⟨p, 0, none⟩), .string ⟨#[98, 101, 103, 105, 110]⟩] w1 (RPost W0 A c l all p s26) from tw_new h26 (by decide) (by decide) w1 h))
     obtain ⟨s27, h27, hr27⟩ := rrun_app gk [.rule .r_body] [.word ⟨#[101, 110, 100]⟩] s26 s1 hr26
     have HC27 := zh (fun (w1 : World) (h : RMem W0 A c l all w1 p s26) => (show Calls Tryz.prog 77 #[.pointer (some ⟨p, 0, none⟩)] w1 (RPost W0 A c l all p s27) from D_body gk hkn W0 A c p w1 s26 s27 h h27))
     obtain ⟨s28, h28, hr28⟩ := rrun_app gk [.word ⟨#[101, 110, 100]⟩] [] s27 s1 hr27
     have HC28 := zh (fun (w1 : World) (h : RMem W0 A c l all w1 p s27) => (show Calls Tryz.prog 53 #[.pointer (some ⟨p, 0, none⟩), .string ⟨#[101, 110, 100]⟩] w1 (RPost W0 A c l all p s28) from tw_new h28 (by decide) (by decide) w1 h))
     have hz29 : s1 = s28 := rrun_nil hr28
     have HZ29 := zh hz29
     clear hz29
     have HC29 := zh (fun (w1 : World) (h : RMem W0 A c l all w1 p s28) => (show Calls Tryz.prog 78 #[.pointer (some ⟨p, 0, none⟩)] w1 (RPost W0 A c l all p (clR s1)) from (by rw [HZ29.out]; exact closes_any h (fun he => by have h9 := hfin (by rw [HZ29.out]; exact he); rw [HZ29.out] at h9; exact ⟨by have := h9.1; omega, h9.2⟩))))
     go_wp2_with (first
      | (go_at_call 70; (with_reducible refine cM (HC22.out _ HM.out) ?_); rintro e w1 ⟨rfl, h, -⟩; replace HM := zh h; clear h)
      | (go_at_call 70; (with_reducible refine cM (HC23.out _ HM.out) ?_); rintro e w1 ⟨rfl, h, -⟩; replace HM := zh h; clear h)
      | (go_at_call 70; (with_reducible refine cM (HC24.out _ HM.out) ?_); rintro e w1 ⟨rfl, h, -⟩; replace HM := zh h; clear h)
      | (go_at_call 53; (with_reducible refine cM (HC26.out _ HM.out) ?_); rintro e w1 ⟨rfl, h⟩; replace HM := zh h; clear h)
      | (go_at_call 77; (with_reducible refine cM (HC27.out _ HM.out) ?_); rintro e w1 ⟨rfl, h⟩; replace HM := zh h; clear h)
      | (go_at_call 53; (with_reducible refine cM (HC28.out _ HM.out) ?_); rintro e w1 ⟨rfl, h⟩; replace HM := zh h; clear h)
      | (go_at_call 78; (with_reducible refine cM (HC29.out _ HM.out) ?_); rintro e w1 ⟨rfl, h⟩; replace HM := zh h; clear h))
     go_end0
     exact ⟨rfl, HM.out⟩
theorem g_branch (l : List Tk) (all : Bool) (n : Nat) (D_expr : GoodR l all n 103 [.rule .r_expr]) (D_body : GoodR l all n 77 [.rule .r_body]) : NodeAt l all n 128 [] 15 [.word ⟨#[105, 102]⟩, .rule .r_expr, .word ⟨#[116, 104, 101, 110]⟩, .rule .r_body, .rule .r_elses, .word ⟨#[101, 110, 100]⟩] := by
 intro W0 A c p w s s1 H hf hr hfin
 have HM := zh H
 clear H
 show Calls Tryz.prog _ #[.pointer (some ⟨p, 0, none⟩)] w (RPost W0 A c l all p (clR s1))
 go_enter Tryz.func128, Tryz.ntmps128
 have HC1 := zh (fun (w1 : World) (h : RMem W0 A c l all w1 p s) => (show Calls Tryz.prog 52 #[.pointer (some ⟨p, 0, none⟩), .int .u8 15] w1 (RPost W0 A c l all p (opR 15 s)) from opens_any h 15 (fun he => (hf he).1)))
 have hr0 := hr
 obtain ⟨s2, h2, hr2⟩ := rrun_app n [.word ⟨#[105, 102]⟩] [.rule .r_expr, .word ⟨#[116, 104, 101, 110]⟩, .rule .r_body, .rule .r_elses, .word ⟨#[101, 110, 100]⟩] (opR 15 s) s1 hr0
 have HC2 := zh (fun (w1 : World) (h : RMem W0 A c l all w1 p (opR 15 s)) => (show Calls Tryz.prog 53 #[.pointer (some ⟨p, 0, none⟩), .string ⟨#[105, 102]⟩] w1 (RPost W0 A c l all p s2) from tw_new h2 (by decide) (by decide) w1 h))
 obtain ⟨s3, h3, hr3⟩ := rrun_app n [.rule .r_expr] [.word ⟨#[116, 104, 101, 110]⟩, .rule .r_body, .rule .r_elses, .word ⟨#[101, 110, 100]⟩] s2 s1 hr2
 have HC3 := zh (fun (w1 : World) (h : RMem W0 A c l all w1 p s2) => (show Calls Tryz.prog 103 #[.pointer (some ⟨p, 0, none⟩)] w1 (RPost W0 A c l all p s3) from D_expr n (Nat.le_refl n) W0 A c p w1 s2 s3 h h3))
 obtain ⟨s4, h4, hr4⟩ := rrun_app n [.word ⟨#[116, 104, 101, 110]⟩] [.rule .r_body, .rule .r_elses, .word ⟨#[101, 110, 100]⟩] s3 s1 hr3
 have HC4 := zh (fun (w1 : World) (h : RMem W0 A c l all w1 p s3) => (show Calls Tryz.prog 53 #[.pointer (some ⟨p, 0, none⟩), .string ⟨#[116, 104, 101, 110]⟩] w1 (RPost W0 A c l all p s4) from tw_new h4 (by decide) (by decide) w1 h))
 obtain ⟨s5, h5, hr5⟩ := rrun_app n [.rule .r_body] [.rule .r_elses, .word ⟨#[101, 110, 100]⟩] s4 s1 hr4
 have HC5 := zh (fun (w1 : World) (h : RMem W0 A c l all w1 p s4) => (show Calls Tryz.prog 77 #[.pointer (some ⟨p, 0, none⟩)] w1 (RPost W0 A c l all p s5) from D_body n (Nat.le_refl n) W0 A c p w1 s4 s5 h h5))
 have HR0 := zh hr5
 go_wp2_with (first
  | (go_at_call 52; (with_reducible refine cM (HC1.out _ HM.out) ?_); rintro e w1 ⟨rfl, h⟩; replace HM := zh h; clear h)
  | (go_at_call 53; (with_reducible refine cM (HC2.out _ HM.out) ?_); rintro e w1 ⟨rfl, h⟩; replace HM := zh h; clear h)
  | (go_at_call 103; (with_reducible refine cM (HC3.out _ HM.out) ?_); rintro e w1 ⟨rfl, h⟩; replace HM := zh h; clear h)
  | (go_at_call 53; (with_reducible refine cM (HC4.out _ HM.out) ?_); rintro e w1 ⟨rfl, h⟩; replace HM := zh h; clear h)
  | (go_at_call 77; (with_reducible refine cM (HC5.out _ HM.out) ?_); rintro e w1 ⟨rfl, h⟩; replace HM := zh h; clear h))
 go_loopg [2] n (fun kq v2 wr => Hid (∃ s0, RMem W0 A c l all wr p s0 ∧ kq ≤ n ∧ rrun l all kq [.rule .r_elses, .word ⟨#[101, 110, 100]⟩] s0 = some s1))
 case atStart => exact zh ⟨_, HM.out, Nat.le_refl _, HR0.out⟩
 case round =>
  obtain ⟨s0, hM, hkn, hrun⟩ := hrel.out
  clear HR0 hrel HM
  have HM := zh hM
  clear hM
  obtain ⟨b26, hb26⟩ : ∃ b, cdR l s0 ⟨#[101, 108, 105, 102]⟩ = b := ⟨_, rfl⟩
  have HC26 := zh (fun (w1 : World) (h : RMem W0 A c l all w1 p s0) => (show Calls Tryz.prog 70 #[.pointer (some ⟨p, 0, none⟩), .string ⟨#[101, 108, 105, 102]⟩] w1 (BPost W0 A c l all p s0 b26 w1) from wd_new hb26 (by decide) (by decide) w1 h))
  cases b26 with
  | true =>
   obtain ⟨he26, hc26, hi26⟩ := cd_yes hb26
   obtain ⟨m26, hkm26, hfi26, hp26⟩ := run_rule he26 (e := [.push [.word ⟨#[101, 108, 105, 102]⟩, .rule .r_expr, .word ⟨#[116, 104, 101, 110]⟩, .rule .r_body, .rule .r_elses]]) (by rw [hc26]; rfl) hrun
   have hq26 : rrun l all m26 [.word ⟨#[101, 108, 105, 102]⟩, .rule .r_expr, .word ⟨#[116, 104, 101, 110]⟩, .rule .r_body, .rule .r_elses, .word ⟨#[101, 110, 100]⟩] s0 = some s1 := hp26
   have hle26 : m26 + 1 ≤ n := by have := hkn; omega
   obtain ⟨s27, h27, hr27⟩ := rrun_app m26 [.word ⟨#[101, 108, 105, 102]⟩] [.rule .r_expr, .word ⟨#[116, 104, 101, 110]⟩, .rule .r_body, .rule .r_elses, .word ⟨#[101, 110, 100]⟩] s0 s1 hq26
   have HC27 := zh (fun (w1 : World) (h : RMem W0 A c l all w1 p s0) => (show Calls Tryz.prog 53 #[.pointer (some ⟨p, 0, none⟩), .string ⟨#[101, 108, 105, 102]⟩] w1 (RPost W0 A c l all p s27) from tw_new h27 (by decide) (by decide) w1 h))
   obtain ⟨s28, h28, hr28⟩ := rrun_app m26 [.rule .r_expr] [.word ⟨#[116, 104, 101, 110]⟩, .rule .r_body, .rule .r_elses, .word ⟨#[101, 110, 100]⟩] s27 s1 hr27
   have HC28 := zh (fun (w1 : World) (h : RMem W0 A c l all w1 p s27) => (show Calls Tryz.prog 103 #[.pointer (some ⟨p, 0, none⟩)] w1 (RPost W0 A c l all p s28) from D_expr m26 (Nat.le_of_succ_le hle26) W0 A c p w1 s27 s28 h h28))
   obtain ⟨s29, h29, hr29⟩ := rrun_app m26 [.word ⟨#[116, 104, 101, 110]⟩] [.rule .r_body, .rule .r_elses, .word ⟨#[101, 110, 100]⟩] s28 s1 hr28
   have HC29 := zh (fun (w1 : World) (h : RMem W0 A c l all w1 p s28) => (show Calls Tryz.prog 53 #[.pointer (some ⟨p, 0, none⟩), .string ⟨#[116, 104, 101, 110]⟩] w1 (RPost W0 A c l all p s29) from tw_new h29 (by decide) (by decide) w1 h))
   obtain ⟨s30, h30, hr30⟩ := rrun_app m26 [.rule .r_body] [.rule .r_elses, .word ⟨#[101, 110, 100]⟩] s29 s1 hr29
   have HC30 := zh (fun (w1 : World) (h : RMem W0 A c l all w1 p s29) => (show Calls Tryz.prog 77 #[.pointer (some ⟨p, 0, none⟩)] w1 (RPost W0 A c l all p s30) from D_body m26 (Nat.le_of_succ_le hle26) W0 A c p w1 s29 s30 h h30))
   have HRZ := zh hr30
   have HLZ := zh (show m26 ≤ n by omega)
   go_wp2_with (first
    | (go_at_call 70; (with_reducible refine cM (HC26.out _ HM.out) ?_); rintro e w1 ⟨rfl, h, -⟩; replace HM := zh h; clear h)
    | (go_at_call 53; (with_reducible refine cM (HC27.out _ HM.out) ?_); rintro e w1 ⟨rfl, h⟩; replace HM := zh h; clear h)
    | (go_at_call 103; (with_reducible refine cM (HC28.out _ HM.out) ?_); rintro e w1 ⟨rfl, h⟩; replace HM := zh h; clear h)
    | (go_at_call 53; (with_reducible refine cM (HC29.out _ HM.out) ?_); rintro e w1 ⟨rfl, h⟩; replace HM := zh h; clear h)
    | (go_at_call 77; (with_reducible refine cM (HC30.out _ HM.out) ?_); rintro e w1 ⟨rfl, h⟩; replace HM := zh h; clear h))
   go_roundg m26
   case measure => omega
   case rel => exact zh ⟨_, HM.out, HLZ.out, HRZ.out⟩
  | false =>
   obtain ⟨b27, hb27⟩ : ∃ b, cdR l s0 ⟨#[101, 108, 115, 101]⟩ = b := ⟨_, rfl⟩
   have HC27 := zh (fun (w1 : World) (h : RMem W0 A c l all w1 p s0) => (show Calls Tryz.prog 70 #[.pointer (some ⟨p, 0, none⟩), .string ⟨#[101, 108, 115, 101]⟩] w1 (BPost W0 A c l all p s0 b27 w1) from wd_new hb27 (by decide) (by decide) w1 h))
   cases b27 with
   | true =>
    obtain ⟨he27, hc27, hi27⟩ := cd_yes hb27
    obtain ⟨m27, hkm27, hfi27, hp27⟩ := run_rule he27 (e := [.push [.word ⟨#[101, 108, 115, 101]⟩, .rule .r_body]]) (by rw [hc27]; rfl) hrun
    have hq27 : rrun l all m27 [.word ⟨#[101, 108, 115, 101]⟩, .rule .r_body, .word ⟨#[101, 110, 100]⟩] s0 = some s1 := hp27
    have hle27 : m27 + 1 ≤ n := by have := hkn; omega
    obtain ⟨s28, h28, hr28⟩ := rrun_app m27 [.word ⟨#[101, 108, 115, 101]⟩] [.rule .r_body, .word ⟨#[101, 110, 100]⟩] s0 s1 hq27
    have HC28 := zh (fun (w1 : World) (h : RMem W0 A c l all w1 p s0) => (show Calls Tryz.prog 53 #[.pointer (some ⟨p, 0, none⟩), .string ⟨#[101, 108, 115, 101]⟩] w1 (RPost W0 A c l all p s28) from tw_new h28 (by decide) (by decide) w1 h))
    obtain ⟨s29, h29, hr29⟩ := rrun_app m27 [.rule .r_body] [.word ⟨#[101, 110, 100]⟩] s28 s1 hr28
    have HC29 := zh (fun (w1 : World) (h : RMem W0 A c l all w1 p s28) => (show Calls Tryz.prog 77 #[.pointer (some ⟨p, 0, none⟩)] w1 (RPost W0 A c l all p s29) from D_body m27 (Nat.le_of_succ_le hle27) W0 A c p w1 s28 s29 h h29))
    obtain ⟨s30, h30, hr30⟩ := rrun_app m27 [.word ⟨#[101, 110, 100]⟩] [] s29 s1 hr29
    have HC30 := zh (fun (w1 : World) (h : RMem W0 A c l all w1 p s29) => (show Calls Tryz.prog 53 #[.pointer (some ⟨p, 0, none⟩), .string ⟨#[101, 110, 100]⟩] w1 (RPost W0 A c l all p s30) from tw_new h30 (by decide) (by decide) w1 h))
    have hz31 : s1 = s30 := rrun_nil hr30
    have HZ31 := zh hz31
    clear hz31
    have HC31 := zh (fun (w1 : World) (h : RMem W0 A c l all w1 p s30) => (show Calls Tryz.prog 78 #[.pointer (some ⟨p, 0, none⟩)] w1 (RPost W0 A c l all p (clR s1)) from (by rw [HZ31.out]; exact closes_any h (fun he => by have h9 := hfin (by rw [HZ31.out]; exact he); rw [HZ31.out] at h9; exact ⟨by have := h9.1; omega, h9.2⟩))))
    go_wp2_with (first
     | (go_at_call 70; (with_reducible refine cM (HC26.out _ HM.out) ?_); rintro e w1 ⟨rfl, h, -⟩; replace HM := zh h; clear h)
     | (go_at_call 70; (with_reducible refine cM (HC27.out _ HM.out) ?_); rintro e w1 ⟨rfl, h, -⟩; replace HM := zh h; clear h)
     | (go_at_call 53; (with_reducible refine cM (HC28.out _ HM.out) ?_); rintro e w1 ⟨rfl, h⟩; replace HM := zh h; clear h)
     | (go_at_call 77; (with_reducible refine cM (HC29.out _ HM.out) ?_); rintro e w1 ⟨rfl, h⟩; replace HM := zh h; clear h)
     | (go_at_call 53; (with_reducible refine cM (HC30.out _ HM.out) ?_); rintro e w1 ⟨rfl, h⟩; replace HM := zh h; clear h)
     | (go_at_call 78; (with_reducible refine cM (HC31.out _ HM.out) ?_); rintro e w1 ⟨rfl, h⟩; replace HM := zh h; clear h))
    go_end0
    exact ⟨rfl, HM.out⟩
   | false =>
    have hs28 := run_stay (fun he => by have e26 := cd_no (by decide) hb26 he; have e27 := cd_no (by decide) hb27 he; simp [RId.expand, e26, e27]) hrun
    obtain ⟨s29, h29, hr29⟩ := rrun_app gk [.word ⟨#[101, 110, 100]⟩] [] s0 s1 hs28
    have HC29 := zh (fun (w1 : World) (h : RMem W0 A c l all w1 p s0) => (show Calls Tryz.prog 53 #[.pointer (some ⟨p, 0, none⟩), .string ⟨#[101, 110, 100]⟩] w1 (RPost W0 A c l all p s29) from tw_new h29 (by decide) (by decide) w1 h))
    have hz30 : s1 = s29 := rrun_nil hr29
    have HZ30 := zh hz30
    clear hz30
    have HC30 := zh (fun (w1 : World) (h : RMem W0 A c l all w1 p s29) => (show Calls Tryz.prog 78 #[.pointer (some ⟨p, 0, none⟩)] w1 (RPost W0 A c l all p (clR s1)) from (by rw [HZ30.out]; exact closes_any h (fun he => by have h9 := hfin (by rw [HZ30.out]; exact he); rw [HZ30.out] at h9; exact ⟨by have := h9.1; omega, h9.2⟩))))
    go_wp2_with (first
     | (go_at_call 70; (with_reducible refine cM (HC26.out _ HM.out) ?_); rintro e w1 ⟨rfl, h, -⟩; replace HM := zh h; clear h)
     | (go_at_call 70; (with_reducible refine cM (HC27.out _ HM.out) ?_); rintro e w1 ⟨rfl, h, -⟩; replace HM := zh h; clear h)
     | (go_at_call 53; (with_reducible refine cM (HC29.out _ HM.out) ?_); rintro e w1 ⟨rfl, h⟩; replace HM := zh h; clear h)
     | (go_at_call 78; (with_reducible refine cM (HC30.out _ HM.out) ?_); rintro e w1 ⟨rfl, h⟩; replace HM := zh h; clear h))
    go_end0
    exact ⟨rfl, HM.out⟩
theorem g_bodyR (l : List Tk) (all : Bool) (n : Nat) (D_statement : GoodR l all n 106 [.rule .r_statement]) : NodeAt l all n 77 [] 12 [.rule .r_statement, .rule .r_statements] := by
 intro W0 A c p w s s1 H hf hr hfin
 have HM := zh H
 clear H
 show Calls Tryz.prog _ #[.pointer (some ⟨p, 0, none⟩)] w (RPost W0 A c l all p (clR s1))
 go_enter Tryz.func77, Tryz.ntmps77
 have HC1 := zh (fun (w1 : World) (h : RMem W0 A c l all w1 p s) => (show Calls Tryz.prog 52 #[.pointer (some ⟨p, 0, none⟩), .int .u8 12] w1 (RPost W0 A c l all p (opR 12 s)) from opens_any h 12 (fun he => (hf he).1)))
 have hr0 := hr
 obtain ⟨s2, h2, hr2⟩ := rrun_app n [.rule .r_statement] [.rule .r_statements] (opR 12 s) s1 hr0
 have HC2 := zh (fun (w1 : World) (h : RMem W0 A c l all w1 p (opR 12 s)) => (show Calls Tryz.prog 106 #[.pointer (some ⟨p, 0, none⟩)] w1 (RPost W0 A c l all p s2) from D_statement n (Nat.le_refl n) W0 A c p w1 (opR 12 s) s2 h h2))
 have HR0 := zh hr2
 go_wp2_with (first
  | (go_at_call 52; (with_reducible refine cM (HC1.out _ HM.out) ?_); rintro e w1 ⟨rfl, h⟩; replace HM := zh h; clear h)
  | (go_at_call 106; (with_reducible refine cM (HC2.out _ HM.out) ?_); rintro e w1 ⟨rfl, h⟩; replace HM := zh h; clear h))
 go_loopg [2] n (fun kq v2 wr => Hid (∃ s0, RMem W0 A c l all wr p s0 ∧ kq ≤ n ∧ rrun l all kq [.rule .r_statements] s0 = some s1))
 case atStart => exact zh ⟨_, HM.out, Nat.le_refl _, HR0.out⟩
 case round =>
  obtain ⟨s0, hM, hkn, hrun⟩ := hrel.out
  clear HR0 hrel HM
  have HM := zh hM
  clear hM
  obtain ⟨b23, hb23⟩ : ∃ b, cdR l s0 ⟨#[59]⟩ = b := ⟨_, rfl⟩
  have HC23 := zh (fun (w1 : World) (h : RMem W0 A c l all w1 p s0) => (show Calls Tryz.prog 73 #[.pointer (some ⟨p, 0, none⟩), .string ⟨#[59]⟩] w1 (BPost W0 A c l all p s0 b23 w1) from sg_new hb23 (by decide) (by decide) w1 h))
  cases b23 with
  | true =>
   obtain ⟨he23, hc23, hi23⟩ := cd_yes hb23
   obtain ⟨m23, hkm23, hfi23, hp23⟩ := run_rule he23 (e := [.push [.word ⟨#[59]⟩, .rule .r_statement, .rule .r_statements]]) (by rw [hc23]; rfl) hrun
   have hq23 : rrun l all m23 [.word ⟨#[59]⟩, .rule .r_statement, .rule .r_statements] s0 = some s1 := hp23
   have hle23 : m23 + 1 ≤ n := by have := hkn; omega
   obtain ⟨s24, h24, hr24⟩ := rrun_app m23 [.word ⟨#[59]⟩] [.rule .r_statement, .rule .r_statements] s0 s1 hq23
   have HC24 := zh (fun (w1 : World) (h : RMem W0 A c l all w1 p s0) => (show Calls Tryz.prog 55 #[.pointer (some ⟨p, 0, none⟩), .string ⟨#[59]⟩] w1 (RPost W0 A c l all p s24) from ts_new h24 (by decide) (by decide) w1 h))
   obtain ⟨s25, h25, hr25⟩ := rrun_app m23 [.rule .r_statement] [.rule .r_statements] s24 s1 hr24
   have HC25 := zh (fun (w1 : World) (h : RMem W0 A c l all w1 p s24) => (show Calls Tryz.prog 106 #[.pointer (some ⟨p, 0, none⟩)] w1 (RPost W0 A c l all p s25) from D_statement m23 (Nat.le_of_succ_le hle23) W0 A c p w1 s24 s25 h h25))
   have HRZ := zh hr25
   have HLZ := zh (show m23 ≤ n by omega)
   go_wp2_with (first
    | (go_at_call 73; (with_reducible refine cM (HC23.out _ HM.out) ?_); rintro e w1 ⟨rfl, h, -⟩; replace HM := zh h; clear h)
    | (go_at_call 55; (with_reducible refine cM (HC24.out _ HM.out) ?_); rintro e w1 ⟨rfl, h⟩; replace HM := zh h; clear h)
    | (go_at_call 106; (with_reducible refine cM (HC25.out _ HM.out) ?_); rintro e w1 ⟨rfl, h⟩; replace HM := zh h; clear h))
   go_roundg m23
   case measure => omega
   case rel => exact zh ⟨_, HM.out, HLZ.out, HRZ.out⟩
  | false =>
   have hs24 := run_stay (fun he => by have e23 := cd_no (by decide) hb23 he; simp [RId.expand, e23]) hrun
   have hz25 : s1 = s0 := rrun_nil hs24
   have HZ25 := zh hz25
   clear hz25
   have HC25 := zh (fun (w1 : World) (h : RMem W0 A c l all w1 p s0) => (show Calls Tryz.prog 78 #[.pointer (some ⟨p, 0, none⟩)] w1 (RPost W0 A c l all p (clR s1)) from (by rw [HZ25.out]; exact closes_any h (fun he => by have h9 := hfin (by rw [HZ25.out]; exact he); rw [HZ25.out] at h9; exact ⟨by have := h9.1; omega, h9.2⟩))))
   go_wp2_with (first
    | (go_at_call 73; (with_reducible refine cM (HC23.out _ HM.out) ?_); rintro e w1 ⟨rfl, h, -⟩; replace HM := zh h; clear h)
    | (go_at_call 78; (with_reducible refine cM (HC25.out _ HM.out) ?_); rintro e w1 ⟨rfl, h⟩; replace HM := zh h; clear h))
   go_end0
   exact ⟨rfl, HM.out⟩
theorem g_exprR (l : List Tk) (all : Bool) (n : Nat) (D_relation : GoodR l all n 126 [.rule .r_rel]) : NodeAt l all n 103 [] 21 [.rule .r_rel, .rule .r_rels] := by
 intro W0 A c p w s s1 H hf hr hfin
 have HM := zh H
 clear H
 show Calls Tryz.prog _ #[.pointer (some ⟨p, 0, none⟩)] w (RPost W0 A c l all p (clR s1))
 go_enter Tryz.func103, Tryz.ntmps103
 have HC1 := zh (fun (w1 : World) (h : RMem W0 A c l all w1 p s) => (show Calls Tryz.prog 52 #[.pointer (some ⟨p, 0, none⟩), .int .u8 21] w1 (RPost W0 A c l all p (opR 21 s)) from opens_any h 21 (fun he => (hf he).1)))
 have hr0 := hr
 obtain ⟨s2, h2, hr2⟩ := rrun_app n [.rule .r_rel] [.rule .r_rels] (opR 21 s) s1 hr0
 have HC2 := zh (fun (w1 : World) (h : RMem W0 A c l all w1 p (opR 21 s)) => (show Calls Tryz.prog 126 #[.pointer (some ⟨p, 0, none⟩)] w1 (RPost W0 A c l all p s2) from D_relation n (Nat.le_refl n) W0 A c p w1 (opR 21 s) s2 h h2))
 have HR0 := zh hr2
 go_wp2_with (first
  | (go_at_call 52; (with_reducible refine cM (HC1.out _ HM.out) ?_); rintro e w1 ⟨rfl, h⟩; replace HM := zh h; clear h)
  | (go_at_call 126; (with_reducible refine cM (HC2.out _ HM.out) ?_); rintro e w1 ⟨rfl, h⟩; replace HM := zh h; clear h))
 go_loopg [2] n (fun kq v2 wr => Hid (∃ s0, RMem W0 A c l all wr p s0 ∧ kq ≤ n ∧ rrun l all kq [.rule .r_rels] s0 = some s1))
 case atStart => exact zh ⟨_, HM.out, Nat.le_refl _, HR0.out⟩
 case round =>
  obtain ⟨s0, hM, hkn, hrun⟩ := hrel.out
  clear HR0 hrel HM
  have HM := zh hM
  clear hM
  obtain ⟨b23, hb23⟩ : ∃ b, cdR l s0 ⟨#[97, 110, 100]⟩ = b := ⟨_, rfl⟩
  have HC23 := zh (fun (w1 : World) (h : RMem W0 A c l all w1 p s0) => (show Calls Tryz.prog 70 #[.pointer (some ⟨p, 0, none⟩), .string ⟨#[97, 110, 100]⟩] w1 (BPost W0 A c l all p s0 b23 w1) from wd_new hb23 (by decide) (by decide) w1 h))
  obtain ⟨b24, hb24⟩ : ∃ b, cdR l s0 ⟨#[111, 114]⟩ = b := ⟨_, rfl⟩
  have HC24 := zh (fun (w1 : World) (h : RMem W0 A c l all w1 p s0) => (show Calls Tryz.prog 70 #[.pointer (some ⟨p, 0, none⟩), .string ⟨#[111, 114]⟩] w1 (BPost W0 A c l all p s0 b24 w1) from wd_new hb24 (by decide) (by decide) w1 h))
  cases b23 with
  | true =>
   obtain ⟨he23, hc23, hi23⟩ := cd_yes hb23
   obtain ⟨m23, hkm23, hfi23, hp23⟩ := run_rule he23 (e := [.push [.word ⟨#[97, 110, 100]⟩, .rule .r_rel, .rule .r_rels]]) (by rw [hc23]; rfl) hrun
   have hq23 : rrun l all m23 [.word ⟨#[97, 110, 100]⟩, .rule .r_rel, .rule .r_rels] s0 = some s1 := hp23
   have hle23 : m23 + 1 ≤ n := by have := hkn; omega
   obtain ⟨s25, h25, hr25⟩ := rrun_app m23 [.word ⟨#[97, 110, 100]⟩] [.rule .r_rel, .rule .r_rels] s0 s1 hq23
   have HC25 := zh (fun (w1 : World) (h : RMem W0 A c l all w1 p s0) => (show Calls Tryz.prog 71 #[.pointer (some ⟨p, 0, none⟩), .bool true] w1 (RPost W0 A c l all p s25) from tt_new h25 hb23 w1 h))
   obtain ⟨s26, h26, hr26⟩ := rrun_app m23 [.rule .r_rel] [.rule .r_rels] s25 s1 hr25
   have HC26 := zh (fun (w1 : World) (h : RMem W0 A c l all w1 p s25) => (show Calls Tryz.prog 126 #[.pointer (some ⟨p, 0, none⟩)] w1 (RPost W0 A c l all p s26) from D_relation m23 (Nat.le_of_succ_le hle23) W0 A c p w1 s25 s26 h h26))
   have HRZ := zh hr26
   have HLZ := zh (show m23 ≤ n by omega)
   go_wp2_with (first
    | (go_at_call 70; (with_reducible refine cM (HC23.out _ HM.out) ?_); rintro e w1 ⟨rfl, h, -⟩; replace HM := zh h; clear h)
    | (go_at_call 70; (with_reducible refine cM (HC24.out _ HM.out) ?_); rintro e w1 ⟨rfl, h, -⟩; replace HM := zh h; clear h)
    | (go_at_call 71; (with_reducible refine cM (HC25.out _ HM.out) ?_); rintro e w1 ⟨rfl, h⟩; replace HM := zh h; clear h)
    | (go_at_call 126; (with_reducible refine cM (HC26.out _ HM.out) ?_); rintro e w1 ⟨rfl, h⟩; replace HM := zh h; clear h))
   go_roundg m23
   case measure => omega
   case rel => exact zh ⟨_, HM.out, HLZ.out, HRZ.out⟩
  | false =>
   cases b24 with
   | true =>
    obtain ⟨he24, hc24, hi24⟩ := cd_yes hb24
    obtain ⟨m24, hkm24, hfi24, hp24⟩ := run_rule he24 (e := [.push [.word ⟨#[111, 114]⟩, .rule .r_rel, .rule .r_rels]]) (by rw [hc24]; rfl) hrun
    have hq24 : rrun l all m24 [.word ⟨#[111, 114]⟩, .rule .r_rel, .rule .r_rels] s0 = some s1 := hp24
    have hle24 : m24 + 1 ≤ n := by have := hkn; omega
    obtain ⟨s25, h25, hr25⟩ := rrun_app m24 [.word ⟨#[111, 114]⟩] [.rule .r_rel, .rule .r_rels] s0 s1 hq24
    have HC25 := zh (fun (w1 : World) (h : RMem W0 A c l all w1 p s0) => (show Calls Tryz.prog 71 #[.pointer (some ⟨p, 0, none⟩), .bool true] w1 (RPost W0 A c l all p s25) from tt_new h25 hb24 w1 h))
    obtain ⟨s26, h26, hr26⟩ := rrun_app m24 [.rule .r_rel] [.rule .r_rels] s25 s1 hr25
    have HC26 := zh (fun (w1 : World) (h : RMem W0 A c l all w1 p s25) => (show Calls Tryz.prog 126 #[.pointer (some ⟨p, 0, none⟩)] w1 (RPost W0 A c l all p s26) from D_relation m24 (Nat.le_of_succ_le hle24) W0 A c p w1 s25 s26 h h26))
    have HRZ := zh hr26
    have HLZ := zh (show m24 ≤ n by omega)
    go_wp2_with (first
     | (go_at_call 70; (with_reducible refine cM (HC23.out _ HM.out) ?_); rintro e w1 ⟨rfl, h, -⟩; replace HM := zh h; clear h)
     | (go_at_call 70; (with_reducible refine cM (HC24.out _ HM.out) ?_); rintro e w1 ⟨rfl, h, -⟩; replace HM := zh h; clear h)
     | (go_at_call 71; (with_reducible refine cM (HC25.out _ HM.out) ?_); rintro e w1 ⟨rfl, h⟩; replace HM := zh h; clear h)
     | (go_at_call 126; (with_reducible refine cM (HC26.out _ HM.out) ?_); rintro e w1 ⟨rfl, h⟩; replace HM := zh h; clear h))
    go_roundg m24
    case measure => omega
    case rel => exact zh ⟨_, HM.out, HLZ.out, HRZ.out⟩
   | false =>
    have hs25 := run_stay (fun he => by have e23 := cd_no (by decide) hb23 he; have e24 := cd_no (by decide) hb24 he; simp [RId.expand, e23, e24]) hrun
    have hz26 : s1 = s0 := rrun_nil hs25
    have HZ26 := zh hz26
    clear hz26
    have HC26 := zh (fun (w1 : World) (h : RMem W0 A c l all w1 p s0) => (show Calls Tryz.prog 78 #[.pointer (some ⟨p, 0, none⟩)] w1 (RPost W0 A c l all p (clR s1)) from (by rw [HZ26.out]; exact closes_any h (fun he => by have h9 := hfin (by rw [HZ26.out]; exact he); rw [HZ26.out] at h9; exact ⟨by have := h9.1; omega, h9.2⟩))))
    go_wp2_with (first
     | (go_at_call 70; (with_reducible refine cM (HC23.out _ HM.out) ?_); rintro e w1 ⟨rfl, h, -⟩; replace HM := zh h; clear h)
     | (go_at_call 70; (with_reducible refine cM (HC24.out _ HM.out) ?_); rintro e w1 ⟨rfl, h, -⟩; replace HM := zh h; clear h)
     | (go_at_call 78; (with_reducible refine cM (HC26.out _ HM.out) ?_); rintro e w1 ⟨rfl, h⟩; replace HM := zh h; clear h))
    go_end0
    exact ⟨rfl, HM.out⟩
theorem g_sumR (l : List Tk) (all : Bool) (n : Nat) (D_term : GoodR l all n 146 [.rule .r_term]) : NodeAt l all n 139 [] 23 [.rule .r_term, .rule .r_terms] := by
 intro W0 A c p w s s1 H hf hr hfin
 have HM := zh H
 clear H
 show Calls Tryz.prog _ #[.pointer (some ⟨p, 0, none⟩)] w (RPost W0 A c l all p (clR s1))
 go_enter Tryz.func139, Tryz.ntmps139
 have HC1 := zh (fun (w1 : World) (h : RMem W0 A c l all w1 p s) => (show Calls Tryz.prog 52 #[.pointer (some ⟨p, 0, none⟩), .int .u8 23] w1 (RPost W0 A c l all p (opR 23 s)) from opens_any h 23 (fun he => (hf he).1)))
 have hr0 := hr
 obtain ⟨s2, h2, hr2⟩ := rrun_app n [.rule .r_term] [.rule .r_terms] (opR 23 s) s1 hr0
 have HC2 := zh (fun (w1 : World) (h : RMem W0 A c l all w1 p (opR 23 s)) => (show Calls Tryz.prog 146 #[.pointer (some ⟨p, 0, none⟩)] w1 (RPost W0 A c l all p s2) from D_term n (Nat.le_refl n) W0 A c p w1 (opR 23 s) s2 h h2))
 have HR0 := zh hr2
 go_wp2_with (first
  | (go_at_call 52; (with_reducible refine cM (HC1.out _ HM.out) ?_); rintro e w1 ⟨rfl, h⟩; replace HM := zh h; clear h)
  | (go_at_call 146; (with_reducible refine cM (HC2.out _ HM.out) ?_); rintro e w1 ⟨rfl, h⟩; replace HM := zh h; clear h))
 go_loopg [2] n (fun kq v2 wr => Hid (∃ s0, RMem W0 A c l all wr p s0 ∧ kq ≤ n ∧ rrun l all kq [.rule .r_terms] s0 = some s1))
 case atStart => exact zh ⟨_, HM.out, Nat.le_refl _, HR0.out⟩
 case round =>
  obtain ⟨s0, hM, hkn, hrun⟩ := hrel.out
  clear HR0 hrel HM
  have HM := zh hM
  clear hM
  obtain ⟨b23, hb23⟩ : ∃ b, cdR l s0 ⟨#[43]⟩ = b := ⟨_, rfl⟩
  have HC23 := zh (fun (w1 : World) (h : RMem W0 A c l all w1 p s0) => (show Calls Tryz.prog 73 #[.pointer (some ⟨p, 0, none⟩), .string ⟨#[43]⟩] w1 (BPost W0 A c l all p s0 b23 w1) from sg_new hb23 (by decide) (by decide) w1 h))
  obtain ⟨b24, hb24⟩ : ∃ b, cdR l s0 ⟨#[45]⟩ = b := ⟨_, rfl⟩
  have HC24 := zh (fun (w1 : World) (h : RMem W0 A c l all w1 p s0) => (show Calls Tryz.prog 73 #[.pointer (some ⟨p, 0, none⟩), .string ⟨#[45]⟩] w1 (BPost W0 A c l all p s0 b24 w1) from sg_new hb24 (by decide) (by decide) w1 h))
  cases b23 with
  | true =>
   obtain ⟨he23, hc23, hi23⟩ := cd_yes hb23
   obtain ⟨m23, hkm23, hfi23, hp23⟩ := run_rule he23 (e := [.push [.word ⟨#[43]⟩, .rule .r_term, .rule .r_terms]]) (by rw [hc23]; rfl) hrun
   have hq23 : rrun l all m23 [.word ⟨#[43]⟩, .rule .r_term, .rule .r_terms] s0 = some s1 := hp23
   have hle23 : m23 + 1 ≤ n := by have := hkn; omega
   obtain ⟨s25, h25, hr25⟩ := rrun_app m23 [.word ⟨#[43]⟩] [.rule .r_term, .rule .r_terms] s0 s1 hq23
   have HC25 := zh (fun (w1 : World) (h : RMem W0 A c l all w1 p s0) => (show Calls Tryz.prog 71 #[.pointer (some ⟨p, 0, none⟩), .bool true] w1 (RPost W0 A c l all p s25) from tt_new h25 hb23 w1 h))
   obtain ⟨s26, h26, hr26⟩ := rrun_app m23 [.rule .r_term] [.rule .r_terms] s25 s1 hr25
   have HC26 := zh (fun (w1 : World) (h : RMem W0 A c l all w1 p s25) => (show Calls Tryz.prog 146 #[.pointer (some ⟨p, 0, none⟩)] w1 (RPost W0 A c l all p s26) from D_term m23 (Nat.le_of_succ_le hle23) W0 A c p w1 s25 s26 h h26))
   have HRZ := zh hr26
   have HLZ := zh (show m23 ≤ n by omega)
   go_wp2_with (first
    | (go_at_call 73; (with_reducible refine cM (HC23.out _ HM.out) ?_); rintro e w1 ⟨rfl, h, -⟩; replace HM := zh h; clear h)
    | (go_at_call 73; (with_reducible refine cM (HC24.out _ HM.out) ?_); rintro e w1 ⟨rfl, h, -⟩; replace HM := zh h; clear h)
    | (go_at_call 71; (with_reducible refine cM (HC25.out _ HM.out) ?_); rintro e w1 ⟨rfl, h⟩; replace HM := zh h; clear h)
    | (go_at_call 146; (with_reducible refine cM (HC26.out _ HM.out) ?_); rintro e w1 ⟨rfl, h⟩; replace HM := zh h; clear h))
   go_roundg m23
   case measure => omega
   case rel => exact zh ⟨_, HM.out, HLZ.out, HRZ.out⟩
  | false =>
   cases b24 with
   | true =>
    obtain ⟨he24, hc24, hi24⟩ := cd_yes hb24
    obtain ⟨m24, hkm24, hfi24, hp24⟩ := run_rule he24 (e := [.push [.word ⟨#[45]⟩, .rule .r_term, .rule .r_terms]]) (by rw [hc24]; rfl) hrun
    have hq24 : rrun l all m24 [.word ⟨#[45]⟩, .rule .r_term, .rule .r_terms] s0 = some s1 := hp24
    have hle24 : m24 + 1 ≤ n := by have := hkn; omega
    obtain ⟨s25, h25, hr25⟩ := rrun_app m24 [.word ⟨#[45]⟩] [.rule .r_term, .rule .r_terms] s0 s1 hq24
    have HC25 := zh (fun (w1 : World) (h : RMem W0 A c l all w1 p s0) => (show Calls Tryz.prog 71 #[.pointer (some ⟨p, 0, none⟩), .bool true] w1 (RPost W0 A c l all p s25) from tt_new h25 hb24 w1 h))
    obtain ⟨s26, h26, hr26⟩ := rrun_app m24 [.rule .r_term] [.rule .r_terms] s25 s1 hr25
    have HC26 := zh (fun (w1 : World) (h : RMem W0 A c l all w1 p s25) => (show Calls Tryz.prog 146 #[.pointer (some ⟨p, 0, none⟩)] w1 (RPost W0 A c l all p s26) from D_term m24 (Nat.le_of_succ_le hle24) W0 A c p w1 s25 s26 h h26))
    have HRZ := zh hr26
    have HLZ := zh (show m24 ≤ n by omega)
    go_wp2_with (first
     | (go_at_call 73; (with_reducible refine cM (HC23.out _ HM.out) ?_); rintro e w1 ⟨rfl, h, -⟩; replace HM := zh h; clear h)
     | (go_at_call 73; (with_reducible refine cM (HC24.out _ HM.out) ?_); rintro e w1 ⟨rfl, h, -⟩; replace HM := zh h; clear h)
     | (go_at_call 71; (with_reducible refine cM (HC25.out _ HM.out) ?_); rintro e w1 ⟨rfl, h⟩; replace HM := zh h; clear h)
     | (go_at_call 146; (with_reducible refine cM (HC26.out _ HM.out) ?_); rintro e w1 ⟨rfl, h⟩; replace HM := zh h; clear h))
    go_roundg m24
    case measure => omega
    case rel => exact zh ⟨_, HM.out, HLZ.out, HRZ.out⟩
   | false =>
    have hs25 := run_stay (fun he => by have e23 := cd_no (by decide) hb23 he; have e24 := cd_no (by decide) hb24 he; simp [RId.expand, e23, e24]) hrun
    have hz26 : s1 = s0 := rrun_nil hs25
    have HZ26 := zh hz26
    clear hz26
    have HC26 := zh (fun (w1 : World) (h : RMem W0 A c l all w1 p s0) => (show Calls Tryz.prog 78 #[.pointer (some ⟨p, 0, none⟩)] w1 (RPost W0 A c l all p (clR s1)) from (by rw [HZ26.out]; exact closes_any h (fun he => by have h9 := hfin (by rw [HZ26.out]; exact he); rw [HZ26.out] at h9; exact ⟨by have := h9.1; omega, h9.2⟩))))
    go_wp2_with (first
     | (go_at_call 73; (with_reducible refine cM (HC23.out _ HM.out) ?_); rintro e w1 ⟨rfl, h, -⟩; replace HM := zh h; clear h)
     | (go_at_call 73; (with_reducible refine cM (HC24.out _ HM.out) ?_); rintro e w1 ⟨rfl, h, -⟩; replace HM := zh h; clear h)
     | (go_at_call 78; (with_reducible refine cM (HC26.out _ HM.out) ?_); rintro e w1 ⟨rfl, h⟩; replace HM := zh h; clear h))
    go_end0
    exact ⟨rfl, HM.out⟩
theorem g_termR (l : List Tk) (all : Bool) (n : Nat) (D_factor : GoodR l all n 153 [.rule .r_factor]) : NodeAt l all n 146 [] 24 [.rule .r_factor, .rule .r_factors] := by
 intro W0 A c p w s s1 H hf hr hfin
 have HM := zh H
 clear H
 show Calls Tryz.prog _ #[.pointer (some ⟨p, 0, none⟩)] w (RPost W0 A c l all p (clR s1))
 go_enter Tryz.func146, Tryz.ntmps146
 have HC1 := zh (fun (w1 : World) (h : RMem W0 A c l all w1 p s) => (show Calls Tryz.prog 52 #[.pointer (some ⟨p, 0, none⟩), .int .u8 24] w1 (RPost W0 A c l all p (opR 24 s)) from opens_any h 24 (fun he => (hf he).1)))
 have hr0 := hr
 obtain ⟨s2, h2, hr2⟩ := rrun_app n [.rule .r_factor] [.rule .r_factors] (opR 24 s) s1 hr0
 have HC2 := zh (fun (w1 : World) (h : RMem W0 A c l all w1 p (opR 24 s)) => (show Calls Tryz.prog 153 #[.pointer (some ⟨p, 0, none⟩)] w1 (RPost W0 A c l all p s2) from D_factor n (Nat.le_refl n) W0 A c p w1 (opR 24 s) s2 h h2))
 have HR0 := zh hr2
 go_wp2_with (first
  | (go_at_call 52; (with_reducible refine cM (HC1.out _ HM.out) ?_); rintro e w1 ⟨rfl, h⟩; replace HM := zh h; clear h)
  | (go_at_call 153; (with_reducible refine cM (HC2.out _ HM.out) ?_); rintro e w1 ⟨rfl, h⟩; replace HM := zh h; clear h))
 go_loopg [2] n (fun kq v2 wr => Hid (∃ s0, RMem W0 A c l all wr p s0 ∧ kq ≤ n ∧ rrun l all kq [.rule .r_factors] s0 = some s1))
 case atStart => exact zh ⟨_, HM.out, Nat.le_refl _, HR0.out⟩
 case round =>
  obtain ⟨s0, hM, hkn, hrun⟩ := hrel.out
  clear HR0 hrel HM
  have HM := zh hM
  clear hM
  obtain ⟨b23, hb23⟩ : ∃ b, cdR l s0 ⟨#[42]⟩ = b := ⟨_, rfl⟩
  have HC23 := zh (fun (w1 : World) (h : RMem W0 A c l all w1 p s0) => (show Calls Tryz.prog 73 #[.pointer (some ⟨p, 0, none⟩), .string ⟨#[42]⟩] w1 (BPost W0 A c l all p s0 b23 w1) from sg_new hb23 (by decide) (by decide) w1 h))
  obtain ⟨b24, hb24⟩ : ∃ b, cdR l s0 ⟨#[47]⟩ = b := ⟨_, rfl⟩
  have HC24 := zh (fun (w1 : World) (h : RMem W0 A c l all w1 p s0) => (show Calls Tryz.prog 73 #[.pointer (some ⟨p, 0, none⟩), .string ⟨#[47]⟩] w1 (BPost W0 A c l all p s0 b24 w1) from sg_new hb24 (by decide) (by decide) w1 h))
  obtain ⟨b25, hb25⟩ : ∃ b, cdR l s0 ⟨#[37]⟩ = b := ⟨_, rfl⟩
  have HC25 := zh (fun (w1 : World) (h : RMem W0 A c l all w1 p s0) => (show Calls Tryz.prog 73 #[.pointer (some ⟨p, 0, none⟩), .string ⟨#[37]⟩] w1 (BPost W0 A c l all p s0 b25 w1) from sg_new hb25 (by decide) (by decide) w1 h))
  cases b23 with
  | true =>
   obtain ⟨he23, hc23, hi23⟩ := cd_yes hb23
   obtain ⟨m23, hkm23, hfi23, hp23⟩ := run_rule he23 (e := [.push [.word ⟨#[42]⟩, .rule .r_factor, .rule .r_factors]]) (by rw [hc23]; rfl) hrun
   have hq23 : rrun l all m23 [.word ⟨#[42]⟩, .rule .r_factor, .rule .r_factors] s0 = some s1 := hp23
   have hle23 : m23 + 1 ≤ n := by have := hkn; omega
   obtain ⟨s26, h26, hr26⟩ := rrun_app m23 [.word ⟨#[42]⟩] [.rule .r_factor, .rule .r_factors] s0 s1 hq23
   have HC26 := zh (fun (w1 : World) (h : RMem W0 A c l all w1 p s0) => (show Calls Tryz.prog 71 #[.pointer (some ⟨p, 0, none⟩), .bool true] w1 (RPost W0 A c l all p s26) from tt_new h26 hb23 w1 h))
   obtain ⟨s27, h27, hr27⟩ := rrun_app m23 [.rule .r_factor] [.rule .r_factors] s26 s1 hr26
   have HC27 := zh (fun (w1 : World) (h : RMem W0 A c l all w1 p s26) => (show Calls Tryz.prog 153 #[.pointer (some ⟨p, 0, none⟩)] w1 (RPost W0 A c l all p s27) from D_factor m23 (Nat.le_of_succ_le hle23) W0 A c p w1 s26 s27 h h27))
   have HRZ := zh hr27
   have HLZ := zh (show m23 ≤ n by omega)
   go_wp2_with (first
    | (go_at_call 73; (with_reducible refine cM (HC23.out _ HM.out) ?_); rintro e w1 ⟨rfl, h, -⟩; replace HM := zh h; clear h)
    | (go_at_call 73; (with_reducible refine cM (HC24.out _ HM.out) ?_); rintro e w1 ⟨rfl, h, -⟩; replace HM := zh h; clear h)
    | (go_at_call 73; (with_reducible refine cM (HC25.out _ HM.out) ?_); rintro e w1 ⟨rfl, h, -⟩; replace HM := zh h; clear h)
    | (go_at_call 71; (with_reducible refine cM (HC26.out _ HM.out) ?_); rintro e w1 ⟨rfl, h⟩; replace HM := zh h; clear h)
    | (go_at_call 153; (with_reducible refine cM (HC27.out _ HM.out) ?_); rintro e w1 ⟨rfl, h⟩; replace HM := zh h; clear h))
   go_roundg m23
   case measure => omega
   case rel => exact zh ⟨_, HM.out, HLZ.out, HRZ.out⟩
  | false =>
   cases b24 with
   | true =>
    obtain ⟨he24, hc24, hi24⟩ := cd_yes hb24
    obtain ⟨m24, hkm24, hfi24, hp24⟩ := run_rule he24 (e := [.push [.word ⟨#[47]⟩, .rule .r_factor, .rule .r_factors]]) (by rw [hc24]; rfl) hrun
    have hq24 : rrun l all m24 [.word ⟨#[47]⟩, .rule .r_factor, .rule .r_factors] s0 = some s1 := hp24
    have hle24 : m24 + 1 ≤ n := by have := hkn; omega
    obtain ⟨s26, h26, hr26⟩ := rrun_app m24 [.word ⟨#[47]⟩] [.rule .r_factor, .rule .r_factors] s0 s1 hq24
    have HC26 := zh (fun (w1 : World) (h : RMem W0 A c l all w1 p s0) => (show Calls Tryz.prog 71 #[.pointer (some ⟨p, 0, none⟩), .bool true] w1 (RPost W0 A c l all p s26) from tt_new h26 hb24 w1 h))
    obtain ⟨s27, h27, hr27⟩ := rrun_app m24 [.rule .r_factor] [.rule .r_factors] s26 s1 hr26
    have HC27 := zh (fun (w1 : World) (h : RMem W0 A c l all w1 p s26) => (show Calls Tryz.prog 153 #[.pointer (some ⟨p, 0, none⟩)] w1 (RPost W0 A c l all p s27) from D_factor m24 (Nat.le_of_succ_le hle24) W0 A c p w1 s26 s27 h h27))
    have HRZ := zh hr27
    have HLZ := zh (show m24 ≤ n by omega)
    go_wp2_with (first
     | (go_at_call 73; (with_reducible refine cM (HC23.out _ HM.out) ?_); rintro e w1 ⟨rfl, h, -⟩; replace HM := zh h; clear h)
     | (go_at_call 73; (with_reducible refine cM (HC24.out _ HM.out) ?_); rintro e w1 ⟨rfl, h, -⟩; replace HM := zh h; clear h)
     | (go_at_call 73; (with_reducible refine cM (HC25.out _ HM.out) ?_); rintro e w1 ⟨rfl, h, -⟩; replace HM := zh h; clear h)
     | (go_at_call 71; (with_reducible refine cM (HC26.out _ HM.out) ?_); rintro e w1 ⟨rfl, h⟩; replace HM := zh h; clear h)
     | (go_at_call 153; (with_reducible refine cM (HC27.out _ HM.out) ?_); rintro e w1 ⟨rfl, h⟩; replace HM := zh h; clear h))
    go_roundg m24
    case measure => omega
    case rel => exact zh ⟨_, HM.out, HLZ.out, HRZ.out⟩
   | false =>
    cases b25 with
    | true =>
     obtain ⟨he25, hc25, hi25⟩ := cd_yes hb25
     obtain ⟨m25, hkm25, hfi25, hp25⟩ := run_rule he25 (e := [.push [.word ⟨#[37]⟩, .rule .r_factor, .rule .r_factors]]) (by rw [hc25]; rfl) hrun
     have hq25 : rrun l all m25 [.word ⟨#[37]⟩, .rule .r_factor, .rule .r_factors] s0 = some s1 := hp25
     have hle25 : m25 + 1 ≤ n := by have := hkn; omega
     obtain ⟨s26, h26, hr26⟩ := rrun_app m25 [.word ⟨#[37]⟩] [.rule .r_factor, .rule .r_factors] s0 s1 hq25
     have HC26 := zh (fun (w1 : World) (h : RMem W0 A c l all w1 p s0) => (show Calls Tryz.prog 71 #[.pointer (some ⟨p, 0, none⟩), .bool true] w1 (RPost W0 A c l all p s26) from tt_new h26 hb25 w1 h))
     obtain ⟨s27, h27, hr27⟩ := rrun_app m25 [.rule .r_factor] [.rule .r_factors] s26 s1 hr26
     have HC27 := zh (fun (w1 : World) (h : RMem W0 A c l all w1 p s26) => (show Calls Tryz.prog 153 #[.pointer (some ⟨p, 0, none⟩)] w1 (RPost W0 A c l all p s27) from D_factor m25 (Nat.le_of_succ_le hle25) W0 A c p w1 s26 s27 h h27))
     have HRZ := zh hr27
     have HLZ := zh (show m25 ≤ n by omega)
     go_wp2_with (first
      | (go_at_call 73; (with_reducible refine cM (HC23.out _ HM.out) ?_); rintro e w1 ⟨rfl, h, -⟩; replace HM := zh h; clear h)
      | (go_at_call 73; (with_reducible refine cM (HC24.out _ HM.out) ?_); rintro e w1 ⟨rfl, h, -⟩; replace HM := zh h; clear h)
      | (go_at_call 73; (with_reducible refine cM (HC25.out _ HM.out) ?_); rintro e w1 ⟨rfl, h, -⟩; replace HM := zh h; clear h)
      | (go_at_call 71; (with_reducible refine cM (HC26.out _ HM.out) ?_); rintro e w1 ⟨rfl, h⟩; replace HM := zh h; clear h)
      | (go_at_call 153; (with_reducible refine cM (HC27.out _ HM.out) ?_); rintro e w1 ⟨rfl, h⟩; replace HM := zh h; clear h))
     go_roundg m25
     case measure => omega
     case rel => exact zh ⟨_, HM.out, HLZ.out, HRZ.out⟩
    | false =>
     have hs26 := run_stay (fun he => by have e23 := cd_no (by decide) hb23 he; have e24 := cd_no (by decide) hb24 he; have e25 := cd_no (by decide) hb25 he; simp [RId.expand, e23, e24, e25]) hrun
     have hz27 : s1 = s0 := rrun_nil hs26
     have HZ27 := zh hz27
     clear hz27
     have HC27 := zh (fun (w1 : World) (h : RMem W0 A c l all w1 p s0) => (show Calls Tryz.prog 78 #[.pointer (some ⟨p, 0, none⟩)] w1 (RPost W0 A c l all p (clR s1)) from (by rw [HZ27.out]; exact closes_any h (fun he => by have h9 := hfin (by rw [HZ27.out]; exact he); rw [HZ27.out] at h9; exact ⟨by have := h9.1; omega, h9.2⟩))))
     go_wp2_with (first
      | (go_at_call 73; (with_reducible refine cM (HC23.out _ HM.out) ?_); rintro e w1 ⟨rfl, h, -⟩; replace HM := zh h; clear h)
      | (go_at_call 73; (with_reducible refine cM (HC24.out _ HM.out) ?_); rintro e w1 ⟨rfl, h, -⟩; replace HM := zh h; clear h)
      | (go_at_call 73; (with_reducible refine cM (HC25.out _ HM.out) ?_); rintro e w1 ⟨rfl, h, -⟩; replace HM := zh h; clear h)
      | (go_at_call 78; (with_reducible refine cM (HC27.out _ HM.out) ?_); rintro e w1 ⟨rfl, h⟩; replace HM := zh h; clear h))
     go_end0
     exact ⟨rfl, HM.out⟩
end Go.Proofs.YtmjbpgnjgblnmaaGreat
