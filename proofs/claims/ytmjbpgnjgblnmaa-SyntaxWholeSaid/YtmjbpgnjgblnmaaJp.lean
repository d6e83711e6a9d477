/- What the claim stands on: part Jp. -/
import Derived.Test.YtmjbpgnjgblnmaaJd
import Derived.Test.YtmjbpgnjgblnmaaJn
import Derived.Test.YtmjbpgnjgblnmaaJm
import Derived.Test.YtmjbpgnjgblnmaaJo
import Derived.Defers
import Derived.Recover
import Derived.Tactics2
import Derived.WideLaws
import Derived.Deep.Slices
import Derived.ChangeArms
import Derived.OpenShut
set_option linter.unusedVariables false
set_option linter.unusedSimpArgs false
namespace Go.Proofs.Ytmjbpgnjgblnmaa
open Go.RowKit Go.Proofs.YtmjbpgnjgblnmaaW.PrintWords Go.Proofs.YtmjbpgnjgblnmaaW.PrintLast Go.Proofs.YtmjbpgnjgblnmaaW.PrintMore
theorem wp_opaque {P : Program} {c : Code} {Q : Exit → Act → World → Prop} {a : Act} {w : World} (h : ∀ Q' : Exit → Act → World → Prop, (∀ e a w, Q e a w → Q' e a w) → c.wp P Q' a w) : c.wp P Q a w := h Q (fun _ _ _ h => h)
theorem wp_opaque2 {P : Program} {c : Code} {Q : Exit → Act → World → Prop} {a : Act} {w : World} (hp : ∀ x (a : Act) d v w, Q (.panic x) (a.put d v) w → Q (.panic x) a w) (h : ∀ Q' : Exit → Act → World → Prop, (∀ e a w, Q e a w → Q' e a w) → (∀ x (a : Act) d v w, Q' (.panic x) (a.put d v) w → Q' (.panic x) a w) → c.wp P Q' a w) : c.wp P Q a w := h Q (fun _ _ _ h => h) hp
theorem wp_tmps {P : Program} {c : Code} {Q : Exit → Act → World → Prop} {t t' : Array Value} {d : List Deferred} {w : World} (h : t = t') (hw : c.wp P Q { tmps := t', defers := d } w) : c.wp P Q { tmps := t, defers := d } w := h ▸ hw
theorem under_any : Try.prog.underlying 20 = some (.interface (Try.prog.methodsAt 20)) := by kernel_rfl
theorem neq_nn (w : World) : (binOp .neq 20 .nilIface .nilIface).run Try.prog w = .ok (.bool false) w := run_neq_nil_nil w _ under_any
theorem neq_hn (u : TypeId) (x : Value) (w : World) : (binOp .neq 20 (.iface u x) .nilIface).run Try.prog w = .ok (.bool true) w := run_neq_held_nil w _ u x under_any
set_option maxRecDepth 100000 in
set_option maxHeartbeats 400000 in
theorem catch_idle (g0 g1 g2 : Nat) (w : World) :
  CallsD Try.prog 40 #[.pointer (some ⟨g0, 0, none⟩), .pointer (some ⟨g1, 0, none⟩), .pointer (some ⟨g2, 0, none⟩)] .returning w fun e u' w' => e = .returned (.tuple #[]) ∧ u' = .returning ∧ w' = w := by
 refine callsD_of_wpS Try.func40 rfl fun c₀ cs hu => ?_
 apply wpS_seq
 apply wpS_region
 simp [wpOpsS, go_sem, recoverD, hu, Try.ntmps40, Exit.thenS]
 refine wpS_of_wp (wp_opaque fun Q' hQ' => ?_)
 have hneq := neq_nn w
 refine wp_tmps (t' := #[.pointer (some ⟨g0, 0, none⟩), .pointer (some ⟨g1, 0, none⟩), .pointer (some ⟨g2, 0, none⟩), .nilIface, undef, undef, .nilIface, undef, undef, undef, undef, undef, undef, undef, undef, undef, undef, undef, undef, undef, undef, undef]) (by kernel_rfl) ?_
 go_wp2
 cases c₀
 simp_all [bodyPostS, results, Try.results40]
theorem any_store {ops : Array Oper} {md : Region.Mode} {Q : Exit → Act → World → Prop} {S : World → Prop} {early : Nat → Bool} {fuel : Nat} {listed : Array Bool} {a : Act} {W : World} {o : Oper} (i : Nat) (hr : Region.ready md ops listed = [i]) (hi : ops[i]? = some o) (hgd : o.guard = none) (hd : o.dst = none) (t : TypeId) (p x : Operand) (ho : o.op = .store t p x) {g off : Nat} {e : TypeId} {cur : Array Value} (u : Value) (seg : List Value) (haddr : a.eval p = .pointer (some ⟨g, off, none⟩)) (hx : a.eval x = u) (hu : u.cells.toList = seg)
  (ht : (Try.prog.info? t).map (·.size) = some seg.length) (h1 : ∀ v ∈ seg, v.oneCell' = true) (hh : W.heap[g]? = some (.cells cur e (0, 0))) (hfit : off + seg.length ≤ cur.size) (hS : S (W.setCells g off seg))
  (h : AnyP Try.prog md ops Q S early fuel (listed.setIfInBounds i true) a (W.setCells g off seg)) : AnyP Try.prog md ops Q S early (fuel + 1) listed a W :=
 anyP_ready hr (by simp) (ReadyP.cons hi (fun K hK => step_store hgd hd t p x ho u seg haddr hx hu ht h1 hh hfit (hK.out _ _ (fun _ => hS) h)) ReadyP.nil)
theorem cell_same {w w2 : World} {g i : Nat} (h : w2.heap[g]? = w.heap[g]?) : w2.cell? ⟨g, i, none⟩ = w.cell? ⟨g, i, none⟩ := by
 unfold World.cell?
 rw [h]
theorem wrong_rows {g0 g1 g2 : Nat} {w : World} {z0 : Array Value} {z1 z2 : Value} (h0 : w.heap[g0]? = some (.cells z0 51 (0, 0))) (hz : z0.size = 8) (h1 : w.heap[g1]? = some (.cells #[z1] 39 (0, 0))) (h2 : w.heap[g2]? = some (.cells #[z2] 3 (0, 0))) (hne : g0 ≠ g1 ∧ g0 ≠ g2 ∧ g1 ≠ g2) (er : Int) (j : Nat) :
  (w.alloc (.cells #[.int .i64 er, .int .i64 j] 81)).drew.heap[g0]? = some (.cells z0 51 (0, 0)) ∧ ((w.alloc (.cells #[.int .i64 er, .int .i64 j] 81)).drew.setCells g0 0 Tr.zNd).heap[g1]? = some (.cells #[z1] 39 (0, 0)) ∧ (((w.alloc (.cells #[.int .i64 er, .int .i64 j] 81)).drew.setCells g0 0 Tr.zNd).setCells g1 0 [.int .i64 er]).heap[g2]? = some (.cells #[z2] 3 (0, 0)) := by
 have hb := (Below.refl w.heap.size w).alloc (Nat.le_refl _) (.cells #[.int .i64 er, .int .i64 j] 81) |>.drew
 refine ⟨(hb.block _ (blk_lt h0)).trans h0, (setCells_far _ _ _ (Ne.symm hne.1)).trans ((hb.block _ (blk_lt h1)).trans h1), (setCells_far _ _ _ (Ne.symm hne.2.2)).trans ((setCells_far _ _ _ (Ne.symm hne.2.1)).trans ((hb.block _ (blk_lt h2)).trans h2))⟩
set_option maxRecDepth 100000 in
set_option maxHeartbeats 400000 in
theorem catch_wrong (g0 g1 g2 : Nat) (w : World) (er : Int) (j : Nat) (z0 : Array Value) (z1 z2 : Value) (h0 : w.heap[g0]? = some (.cells z0 51 (0, 0))) (hz : z0.size = 8) (h1 : w.heap[g1]? = some (.cells #[z1] 39 (0, 0))) (h2 : w.heap[g2]? = some (.cells #[z2] 3 (0, 0))) (hne : g0 ≠ g1 ∧ g0 ≠ g2 ∧ g1 ≠ g2) :
  CallsD Try.prog 40 #[.pointer (some ⟨g0, 0, none⟩), .pointer (some ⟨g1, 0, none⟩), .pointer (some ⟨g2, 0, none⟩)] (.panicking [{ v := .iface 81 (.agg #[.int .i64 er, .int .i64 j]), recovered := false }]) w fun e u' w' => e = .returned (.tuple #[]) ∧ u' = .panicking [{ v := .iface 81 (.agg #[.int .i64 er, .int .i64 j]), recovered := true }] ∧ w' = (((w.alloc (.cells #[.int .i64 er, .int .i64 j] 81)).drew.setCells g0 0 Tr.zNd).setCells g1 0 [.int .i64 er]).setCells g2 0 [.int .i64 j] := by
 have HZ := Lib.hid hz
 refine callsD_of_wpS Try.func40 rfl fun c₀ cs hu => ?_
 apply wpS_seq
 apply wpS_region
 simp [wpOpsS, go_sem, recoverD, hu, Try.ntmps40, Exit.thenS]
 refine wpS_of_wp (wp_opaque2 (fun x a d v w h => by simp [bodyPostS] at h) fun Q' hQ' hP' => ?_)
 have hta : ∀ w1, (Instr.typeAssert (.iface 81 (.agg #[.int .i64 er, .int .i64 j])) 20 81 true).run Try.prog w1 = .ok (.tuple #[.agg #[.int .i64 er, .int .i64 j], .bool true]) w1 := fun w1 => by kernel_rfl
 have hneq := neq_hn 81 (.agg #[.int .i64 er, .int .i64 j]) w
 refine wp_tmps (t' := #[.pointer (some ⟨g0, 0, none⟩), .pointer (some ⟨g1, 0, none⟩), .pointer (some ⟨g2, 0, none⟩), .iface 81 (.agg #[.int .i64 er, .int .i64 j]), undef, undef, .iface 81 (.agg #[.int .i64 er, .int .i64 j]), undef, undef, undef, undef, undef, undef, undef, undef, undef, undef, undef, undef, undef, undef, undef]) (by kernel_rfl) ?_
 go_wp2
 refine wp_region_P (fun w' => w'.cell? ⟨w.heap.size, 0, none⟩ = some (.int .i64 er) ∧ w'.cell? ⟨w.heap.size, 1, none⟩ = some (.int .i64 j)) (fun _ => true) (by kernel_rfl) ?_
 have HS : Hid ((w.alloc (.cells #[.int .i64 er, .int .i64 j] 81)).drew.cell? ⟨w.heap.size, 0, none⟩ = some (.int .i64 er) ∧ (w.alloc (.cells #[.int .i64 er, .int .i64 j] 81)).drew.cell? ⟨w.heap.size, 1, none⟩ = some (.int .i64 j)) := Lib.hid ⟨by simp [go_sem], by simp [go_sem]⟩
 have HF : Hid (∀ w2 : World, w2.heap[w.heap.size]? = (w.alloc (.cells #[.int .i64 er, .int .i64 j] 81)).drew.heap[w.heap.size]? → w2.cell? ⟨w.heap.size, 0, none⟩ = some (.int .i64 er) ∧ w2.cell? ⟨w.heap.size, 1, none⟩ = some (.int .i64 j)) := Lib.hid fun w2 h => ⟨(cell_same h).trans HS.out.1, (cell_same h).trans HS.out.2⟩
 have hl0 := blk_lt h0
 have hl1 := blk_lt h1
 have hl2 := blk_lt h2
 have HA := Lib.hid (wrong_rows h0 hz h1 h2 hne er j)
 generalize (w.alloc (.cells #[.int .i64 er, .int .i64 j] 81)).drew = w1 at HS HA HF hQ' ⊢
 refine anyP_take (i := 0) (oi := { dst := some 17, op := .build 51 #[], type := 51, pos := "syntax.go:31", after := #[], guard := none }) (v := ?_) rfl (by kernel_rfl) (fun _ _ _ h => hP' _ _ _ _ _ h) (Or.inl ⟨by rfl, ?_⟩) HS.out ?_
 rotate_left
 ·intro x h; (try dsimp only at h); go_simp; try (with_reducible rfl)
 try simp only [Act.put, List.setIfInBounds_toArray, List.set]
 refine anyP_take (i := 1) (oi := { dst := some 18, op := .fieldAddr 81 (.tmp 4) 0, type := 0, pos := "syntax.go:31", after := #[{ on := 5, ground := .gcOnly .lateStores }], guard := none }) (v := ?_) rfl (by kernel_rfl) (fun _ _ _ h => hP' _ _ _ _ _ h) (Or.inl ⟨by rfl, ?_⟩) HS.out ?_
 rotate_left
 ·intro x h; (try dsimp only at h); go_simp; try (with_reducible rfl)
 try simp only [Act.put, List.setIfInBounds_toArray, List.set]
 refine anyP_take (i := 2) (oi := { dst := some 19, op := .load 39 (.tmp 18), type := 39, pos := "syntax.go:31", after := #[{ on := 1, ground := .data }, { on := 5, ground := .gcOnly .lateStores }], guard := none }) (v := ?_) rfl (by kernel_rfl) (fun _ _ _ h => hP' _ _ _ _ _ h) (Or.inl ⟨by rfl, ?_⟩) HS.out ?_
 rotate_left
 ·intro x h; (try dsimp only at h); go_simp; try (with_reducible rfl)
 try simp only [Act.put, List.setIfInBounds_toArray, List.set]
 refine anyP_take (i := 3) (oi := { dst := some 20, op := .fieldAddr 81 (.tmp 4) 1, type := 0, pos := "syntax.go:31", after := #[{ on := 6, ground := .gcOnly .lateStores }], guard := none }) (v := ?_) rfl (by kernel_rfl) (fun _ _ _ h => hP' _ _ _ _ _ h) (Or.inl ⟨by rfl, ?_⟩) HS.out ?_
 rotate_left
 ·intro x h; (try dsimp only at h); go_simp; try (with_reducible rfl)
 try simp only [Act.put, List.setIfInBounds_toArray, List.set]
 refine anyP_take (i := 4) (oi := { dst := some 21, op := .load 3 (.tmp 20), type := 3, pos := "syntax.go:31", after := #[{ on := 3, ground := .data }, { on := 6, ground := .gcOnly .lateStores }], guard := none }) (v := ?_) rfl (by kernel_rfl) (fun _ _ _ h => hP' _ _ _ _ _ h) (Or.inl ⟨by rfl, ?_⟩) HS.out ?_
 rotate_left
 ·intro x h; (try dsimp only at h); go_simp; try (with_reducible rfl)
 try simp only [Act.put, List.setIfInBounds_toArray, List.set]
 refine any_store 5 (o := { dst := none, op := .store 51 (.tmp 0) (.tmp 17), type := 0, pos := "syntax.go:31", after := #[{ on := 0, ground := .data }, { on := 0, ground := .phase }, { on := 1, ground := .textOnly .lateStores }, { on := 2, ground := .textOnly .lateStores }, { on := 3, ground := .textOnly .lateStores }, { on := 4, ground := .textOnly .lateStores }], guard := none }) (by kernel_rfl) (by kernel_rfl) rfl rfl 51 (.tmp 0) (.tmp 17) rfl (g := g0) (off := 0) (.agg Tr.zNd.toArray) Tr.zNd rfl rfl rfl Tr.infoNd8 Tr.zNd_one HA.out.1 (by rw [HZ.out]; exact Nat.le_refl _) (HF.out _ (setCells_far _ _ _ (by omega))) ?_
 refine any_store 6 (o := { dst := none, op := .store 39 (.tmp 1) (.tmp 19), type := 0, pos := "syntax.go:31", after := #[{ on := 2, ground := .data }, { on := 5, ground := .chain }, { on := 0, ground := .phase }, { on := 1, ground := .phase }, { on := 2, ground := .phase }, { on := 3, ground := .textOnly .lateStores }, { on := 4, ground := .textOnly .lateStores }, { on := 5, ground := .phase }], guard := none }) (by kernel_rfl) (by kernel_rfl) rfl rfl 39 (.tmp 1) (.tmp 19) rfl (g := g1) (off := 0) (.int .i64 er) [.int .i64 er] rfl rfl rfl (by kernel_rfl) (fun v hv => by rw [List.mem_singleton.1 hv]; rfl) HA.out.2.1 (Nat.le_refl _) (HF.out _ ((setCells_far _ _ _ (by omega)).trans (setCells_far _ _ _ (by omega)))) ?_
 refine any_store 7 (o := { dst := none, op := .store 3 (.tmp 2) (.tmp 21), type := 0, pos := "syntax.go:31", after := #[{ on := 4, ground := .data }, { on := 6, ground := .chain }, { on := 0, ground := .phase }, { on := 1, ground := .phase }, { on := 2, ground := .phase }, { on := 3, ground := .phase }, { on := 4, ground := .phase }, { on := 5, ground := .phase }, { on := 6, ground := .phase }], guard := none }) (by kernel_rfl) (by kernel_rfl) rfl rfl 3 (.tmp 2) (.tmp 21) rfl (g := g2) (off := 0) (.int .i64 j) [.int .i64 j] rfl rfl rfl (by kernel_rfl) (fun v hv => by rw [List.mem_singleton.1 hv]; rfl) HA.out.2.2 (Nat.le_refl _) (HF.out _ ((setCells_far _ _ _ (by omega)).trans ((setCells_far _ _ _ (by omega)).trans (setCells_far _ _ _ (by omega))))) ?_
 refine anyP_done (by kernel_rfl) ?_ _
 refine hQ' _ _ _ ?_
 clear hP' hQ' HS HA HF hta hneq
 cases c₀
 simp_all [bodyPostS, results, Try.results40]
end Go.Proofs.Ytmjbpgnjgblnmaa
namespace Go.Proofs.Ytmjbpgnjgblnmaa
open Go.RowKit Go.Proofs.YtmjbpgnjgblnmaaW.PrintWords Go.Proofs.YtmjbpgnjgblnmaaW.PrintLast Go.Proofs.YtmjbpgnjgblnmaaW.PrintMore
theorem reps_ev (V : World) (l : List Ev) : Reps (kEv.K V) 8 l (l.flatMap evCells) := by
 induction l with
 | nil => exact Reps.none _ _
 | cons x l ih =>
  have := Kd.reps_append ((Reps.none (kEv.K V) 8).snoc (PSyntaxWhole.k46_mk V x) rfl) ih
  rw [List.nil_append, List.nil_append, List.singleton_append] at this
  exact this
theorem row_slice {w : World} {base : Nat} {e : TypeId} {size n : Nat} {v : Value} {xs : List Value} (h : w.ownsRow base e size v n xs) : ∃ A c, v = .slice A n c ∧ n ≤ c := by
 rcases h.2 with ⟨rfl, rfl⟩ | ⟨g, cap, cur, rfl, _, _, hl, _⟩
 ·exact ⟨none, 0, rfl, Nat.le_refl _⟩
 ·exact ⟨_, cap, rfl, hl⟩
theorem evs_any {V : World} {base : Nat} {v : Value} {l : List Ev} (h : V.ownsRow base 46 8 v l.length (l.flatMap evCells)) : ∃ A c, v = .slice A l.length c ∧ l.length ≤ c ∧ Kd.C kEv V A l.length l := by
 obtain ⟨A, c, hv, hr⟩ := own_reads_row (size := 8) h (reps_ev V l) rfl
 obtain ⟨A2, c2, hv2, hc⟩ := row_slice h
 subst hv
 injection hv2 with h1 h2 h3
 subst h3
 exact ⟨A, _, rfl, hc, hr⟩
def prNd (l : List Tk) : Tr.Nd := if (allP newPar l).2.1 = 0 then (Tr.bld (allP newPar l).1).1 else Tr.noNd
abbrev ndAgg (x : Tr.Nd) (v : Value) : Value := .agg #[.int .u8 x.f0, .int .u8 x.f1.f0, .string x.f1.f1, .int .i64 x.f1.f2.f0, .int .i64 x.f1.f2.f1, .int .i64 x.f1.f2.f2, .int .i64 x.f1.f3, v]
def ProgPost (w : World) (l : List Tk) (e : Ending) (w' : World) : Prop :=
 ∃ v, e = .returned (.tuple #[ndAgg (prNd l) v, .int .i64 (progE l), .int .i64 (progA l)]) ∧ Tr.OwnS w' w.heap.size v (prNd l).f2 (fun _ => True) ∧ Below w.heap.size w w'
abbrev z8 : Array Value := #[.int .u8 0, .int .u8 0, .string ⟨#[]⟩, .int .i64 0, .int .i64 0, .int .i64 0, .int .i64 0, .slice none 0 0]
abbrev prW (w : World) : World := ((w.alloc (.cells z8 51)).alloc (.cells #[.int .i64 0] 39)).alloc (.cells #[.int .i64 0] 3)
theorem owns_slice {w : World} {base : Nat} {v : Value} {kids : List Tr.Nd} {F : Nat → Prop} (h : Tr.OwnS w base v kids F) : ∃ A c, v = .slice A kids.length c := by
 obtain ⟨cells, G, hr, -⟩ := h
 obtain ⟨A, c, hv, -⟩ := row_slice hr
 exact ⟨A, c, hv⟩
theorem setCells_all {g : Nat} {W : World} {cur : Array Value} {e : TypeId} {seg : List Value} (hh : W.heap[g]? = some (.cells cur e (0, 0))) (hl : cur.size = seg.length) : (W.setCells g 0 seg).heap[g]? = some (.cells seg.toArray e (0, 0)) ∧ Tr.Upd g W (W.setCells g 0 seg) := by
 obtain ⟨cur', h3, h4, h5⟩ := setCells_row seg 0 W cur hh (by omega)
 have hs := setCells_same g seg 0 W
 refine ⟨?_, ⟨fun k hk => setCells_far seg 0 k hk, hs.1, hs.2.1, hs.2.2.1, hs.2.2.2⟩⟩
 rw [h3]
 congr 2
 apply Array.toList_inj.1
 rw [h5, List.take_zero, List.nil_append, List.drop_of_length_le (by rw [Array.length_toList]; omega), List.append_nil]
theorem wrong_after {g0 g1 g2 : Nat} {w : World} {z0 : Array Value} {z1 z2 : Value} (h0 : w.heap[g0]? = some (.cells z0 51 (0, 0))) (hz : z0.size = 8) (h1 : w.heap[g1]? = some (.cells #[z1] 39 (0, 0))) (h2 : w.heap[g2]? = some (.cells #[z2] 3 (0, 0))) (hne : g0 ≠ g1 ∧ g0 ≠ g2 ∧ g1 ≠ g2) (er : Int) (j : Nat) {B : Nat} {w0 : World} (hb : Below B w0 w) (b0 : B ≤ g0) (b1 : B ≤ g1) (b2 : B ≤ g2) :
  ∃ V, (((w.alloc (.cells #[.int .i64 er, .int .i64 j] 81)).drew.setCells g0 0 Tr.zNd).setCells g1 0 [.int .i64 er]).setCells g2 0 [.int .i64 j] = V ∧ V.heap[g0]? = some (.cells Tr.zNd.toArray 51 (0, 0)) ∧ V.heap[g1]? = some (.cells #[.int .i64 er] 39 (0, 0)) ∧ V.heap[g2]? = some (.cells #[.int .i64 j] 3 (0, 0)) ∧ Below B w0 V := by
 obtain ⟨k0, k1, k2⟩ := wrong_rows h0 hz h1 h2 hne er j
 have hb1 : Below B w0 (w.alloc (.cells #[.int .i64 er, .int .i64 j] 81)).drew := (hb.trans ((Below.refl B w).alloc (by have := blk_lt h0; omega) _)).drew
 generalize (w.alloc (.cells #[.int .i64 er, .int .i64 j] 81)).drew = w1 at k0 k1 k2 hb1 ⊢
 obtain ⟨r0, u0⟩ := setCells_all (seg := Tr.zNd) k0 hz
 generalize w1.setCells g0 0 Tr.zNd = w2 at k1 k2 r0 u0 ⊢
 obtain ⟨r1, u1⟩ := setCells_all (seg := [.int .i64 er]) k1 rfl
 generalize w2.setCells g1 0 [.int .i64 er] = w3 at k2 r1 u1 ⊢
 obtain ⟨r2, u2⟩ := setCells_all (seg := [.int .i64 j]) k2 rfl
 exact ⟨_, rfl, (u2.far _ hne.2.1).trans ((u1.far _ hne.1).trans r0), (u2.far _ hne.2.2).trans r1, r2, u2.below (u1.below (u0.below hb1 b0) b1) b2⟩
theorem pr_start (A : Option Addr) (c : Nat) (l : List Tk) (w : World) (hC : Kd.C kTk w A l.length l) (hl : l.length ≤ 4194304) : ∃ V, (prW w).alloc (.cells #[.slice A l.length c, .int .i64 0, .int .i64 0, .slice none 0 0] 85) = V ∧ V.heap[w.heap.size]? = some (.cells z8 51 (0, 0)) ∧ V.heap[w.heap.size + 1]? = some (.cells #[.int .i64 0] 39 (0, 0)) ∧ V.heap[w.heap.size + 1 + 1]? = some (.cells #[.int .i64 0] 3 (0, 0)) ∧ SAt w A c l V (w.heap.size + 1 + 1 + 1) 0 0 [] (.slice none 0 0) ∧ V.heap.size = w.heap.size + 1 + 1 + 1 + 1 := by
 have s1 : (w.alloc (.cells z8 51)).heap.size = w.heap.size + 1 := World.size_alloc _ _
 have s2 : ((w.alloc (.cells z8 51)).alloc (.cells #[.int .i64 0] 39)).heap.size = w.heap.size + 1 + 1 := by rw [World.size_alloc, s1]
 have s3 : (prW w).heap.size = w.heap.size + 1 + 1 + 1 := by rw [World.size_alloc, s2]
 have n0 := World.alloc_heap_new w (.cells z8 51)
 have n1 := World.alloc_heap_new (w.alloc (.cells z8 51)) (.cells #[.int .i64 0] 39)
 have n2 := World.alloc_heap_new ((w.alloc (.cells z8 51)).alloc (.cells #[.int .i64 0] 39)) (.cells #[.int .i64 0] 3)
 have n3 := World.alloc_heap_new (prW w) (.cells #[.slice A l.length c, .int .i64 0, .int .i64 0, .slice none 0 0] 85)
 rw [s1] at n1
 rw [s2] at n2
 rw [s3] at n3
 have b1 := (Below.refl (w.heap.size + 1) (w.alloc (.cells z8 51))).alloc (by rw [s1]; exact Nat.le_refl _) (.cells #[.int .i64 0] 39)
 have b2 := (Below.refl (w.heap.size + 1 + 1) ((w.alloc (.cells z8 51)).alloc (.cells #[.int .i64 0] 39))).alloc (by rw [s2]; exact Nat.le_refl _) (.cells #[.int .i64 0] 3)
 have b3 := (Below.refl (w.heap.size + 1 + 1 + 1) (prW w)).alloc (by rw [s3]; exact Nat.le_refl _) (.cells #[.slice A l.length c, .int .i64 0, .int .i64 0, .slice none 0 0] 85)
 refine ⟨_, rfl, ?_, ?_, ?_, ⟨n3, ⟨rfl, .inl ⟨rfl, rfl⟩⟩, ?_, hC, by omega, hl, Nat.zero_le _⟩, ?_⟩
 ·exact (b3.block _ (by omega)).trans ((b2.block _ (by omega)).trans ((b1.block _ (by omega)).trans n0))
 ·exact (b3.block _ (by omega)).trans ((b2.block _ (by omega)).trans n1)
 ·exact (b3.block _ (by omega)).trans n2
 ·exact ((Below.refl w.heap.size w).alloc (Nat.le_refl _) _).trans (((b1.mono (by omega)).trans ((b2.mono (by omega)).trans (b3.mono (by omega)))))
 ·rw [World.size_alloc, s3]
set_option maxRecDepth 100000 in
set_option maxHeartbeats 1000000 in
theorem prog_any (A : Option Addr) (c : Nat) (l : List Tk) (w : World) (hC : Kd.C kTk w A l.length l) (hl : l.length ≤ 4194304) :
  Calls Try.prog 17 #[.slice A l.length c] w fun e w' => ProgPost w l e w' := by
 obtain ⟨V, hV, k0, k1, k2, hS, hsz⟩ := pr_start A c l w hC hl
 obtain ⟨n, r, hr, hq⟩ := prog_run l hl
 have hpr := g_program hS hr (prog_len hr)
 rw [hq] at hpr
 unfold progR at hpr
 have hme := SAt.below hS
 have HV := Lib.hid hV
 have H0 := Lib.hid k0
 have H1 := Lib.hid k1
 have H2 := Lib.hid k2
 have HS := Lib.hid hS
 have HSZ := Lib.hid hsz
 have HPR := Lib.hid hpr
 have HBV := Lib.hid hme
 have HL := Lib.hid hl
 clear hV k0 k1 k2 hS hsz hpr hme hr hq hC hl
 have hmf : ∀ (fn : Fn) (first cap : Array Value) (w : World), (Instr.makeFunc fn first cap).run Try.prog w = .ok (.func fn first cap) w := fun _ _ _ _ => rfl
 go_enter_defers Try.func17, Try.ntmps17
 go_upto_region 3 with (fail)
 rw [HV.out]
 by_cases he : (allP newPar l).2.1 = 0
 ·have HE := Lib.hid he
  have HPR2 := Lib.hid (by have h := HPR.out; rw [if_pos he] at h; exact h)
  clear HPR he
  go_wp2_with (first | (go_at_call 41; (with_reducible refine Calls.mono HPR2.out ?_); rintro e w2 ⟨rfl, ve2, hs2, hm2⟩; obtain ⟨A2, ca2, hv2, hc2, hkc⟩ := evs_any hs2.row; subst hv2; obtain ⟨-, -, -, q3⟩ := hs2.cell; have HBD := Lib.hid (Tr.build_any A2 _ ca2 _ w2 hkc rfl (prog_evs HL.out HE.out)); have Z0 := Lib.hid (mkeep hm2 HS.out H0.out (by decide) (by decide)); have Z1 := Lib.hid (mkeep hm2 HS.out H1.out (by decide) (by decide)); have Z2 := Lib.hid (mkeep hm2 HS.out H2.out (by decide) (by decide)); have HB2 := Lib.hid hs2.below; have HP2 := Lib.hid (blk_lt hs2.box); clear hs2 hm2 hkc hc2) | (go_at_call 42; (with_reducible refine Calls.mono HBD.out ?_); rintro e w3 ⟨v3, rfl, ho3, hb3⟩; obtain ⟨A3, ca3, hv3⟩ := owns_slice ho3; subst hv3; have HO3 := Lib.hid ho3; have HB3 := Lib.hid (HB2.out.trans (hb3.mono HB2.out.size)); have Y0 := Lib.hid ((hb3.block _ (blk_lt Z0.out)).trans Z0.out); have Y1 := Lib.hid ((hb3.block _ (blk_lt Z1.out)).trans Z1.out); have Y2 := Lib.hid ((hb3.block _ (blk_lt Z2.out)).trans Z2.out); clear ho3 hb3) | ((with_reducible refine gate_ (.store 51 (.tmp 2) (.tmp 18)) rfl ?_); refine Tr.wl_box rfl rfl _ _ _ rfl (ndAgg (Tr.bld (allP newPar l).1).1 (.slice A3 (Tr.bld (allP newPar l).1).1.f2.length ca3)) (Tr.ndCells (Tr.bld (allP newPar l).1).1.f0 (Tr.bld (allP newPar l).1).1.f1 (.slice A3 (Tr.bld (allP newPar l).1).1.f2.length ca3)) rfl rfl rfl Tr.infoNd8 (Tr.ndCells_one _ _ rfl) Y0.out rfl ?_; intro w4 h4 hu4; have X0 := Lib.hid h4; have U4 := Lib.hid hu4; obtain ⟨y0, y1, y2, y3, y4, y5, y6, y7⟩ := Tr.cells8 h4; clear h4 hu4) | ((with_reducible refine gate_ (.store 51 (.tmp 2) (.tmp 20)) rfl ?_); refine Tr.wl_box rfl rfl _ _ _ rfl (ndAgg (Tr.bld (allP newPar l).1).1 (.slice A3 (Tr.bld (allP newPar l).1).1.f2.length ca3)) (Tr.ndCells (Tr.bld (allP newPar l).1).1.f0 (Tr.bld (allP newPar l).1).1.f1 (.slice A3 (Tr.bld (allP newPar l).1).1.f2.length ca3)) rfl rfl rfl Tr.infoNd8 (Tr.ndCells_one _ _ rfl) X0.out rfl ?_; intro w5 h5 hu5; have V0 := Lib.hid h5; have U5 := Lib.hid hu5; have V1 := Lib.hid ((hu5.far _ (by omega)).trans ((U4.out.far _ (by omega)).trans Y1.out)); have V2 := Lib.hid ((hu5.far _ (by omega)).trans ((U4.out.far _ (by omega)).trans Y2.out)); clear h5 hu5) | ((with_reducible refine gate_ (.store 39 (.tmp 3) (.const (.int .i64 0))) rfl ?_); refine Tr.wl_box rfl rfl _ _ _ rfl (.int .i64 0) [.int .i64 0] rfl rfl rfl (by kernel_rfl) (fun v hv => by rw [List.mem_singleton.1 hv]; rfl) V1.out rfl ?_; intro w6 h6 hu6; have U6 := Lib.hid hu6; have T1 := Lib.hid h6; have T0 := Lib.hid ((hu6.far _ (by omega)).trans V0.out); have T2 := Lib.hid ((hu6.far _ (by omega)).trans V2.out); clear h6 hu6) | ((with_reducible refine gate_ (.store 3 (.tmp 4) (.const (.int .i64 0))) rfl ?_); refine Tr.wl_box rfl rfl _ _ _ rfl (.int .i64 0) [.int .i64 0] rfl rfl rfl (by kernel_rfl) (fun v hv => by rw [List.mem_singleton.1 hv]; rfl) T2.out rfl ?_; intro w7 h7 hu7; have U7 := Lib.hid hu7; have R2 := Lib.hid h7; have R0 := Lib.hid ((hu7.far _ (by omega)).trans T0.out); have R1 := Lib.hid ((hu7.far _ (by omega)).trans T1.out); clear h7 hu7))
  refine leaves_cons (f := 40) (args := #[.pointer (some ⟨w.heap.size, 0, none⟩), .pointer (some ⟨w.heap.size + 1, 0, none⟩), .pointer (some ⟨w.heap.size + 1 + 1, 0, none⟩)]) (by simp) (by simp [go_sem]) ?_
  refine (catch_idle _ _ _ _).mono ?_
  rintro e u' w8 ⟨rfl, rfl, rfl⟩
  have e1 : w8.cell? ⟨w.heap.size + 1, 0, none⟩ = some (.int .i64 0) := cell_of_row _ _ 0 _ _ _ R1.out
  have e2 : w8.cell? ⟨w.heap.size + 1 + 1, 0, none⟩ = some (.int .i64 0) := cell_of_row _ _ 0 _ _ _ R2.out
  obtain ⟨x0, x1, x2, x3, x4, x5, x6, x7⟩ := Tr.cells8 R0.out
  simp only [settle, Leaves]
  refine ⟨.tuple #[ndAgg (Tr.bld (allP newPar l).1).1 (.slice A3 (Tr.bld (allP newPar l).1).1.f2.length ca3), .int .i64 0, .int .i64 0], ?_, ?_⟩
  ·simp [results, Try.results17, go_sem, x0, x1, x2, x3, x4, x5, x6, x7, e1, e2]
  ·have h1 : prNd l = (Tr.bld (allP newPar l).1).1 := by unfold prNd; rw [if_pos HE.out]
   have h2 : progE l = 0 := HE.out
   have h3 : progA l = 0 := by unfold progA; rw [if_pos HE.out]
   refine ⟨.slice A3 (Tr.bld (allP newPar l).1).1.f2.length ca3, ?_, ?_, ?_⟩
   ·rw [h1, h2, h3]; rfl
   ·rw [h1]
    have hq := HP2.out
    exact Tr.ownS_lower (by omega) (Tr.ownS_upd (Tr.ownS_upd (Tr.ownS_upd (Tr.ownS_upd HO3.out U4.out (by omega)) U5.out (by omega)) U6.out (by omega)) U7.out (by omega))
   ·exact U7.out.below (U6.out.below (U5.out.below (U4.out.below HB3.out (Nat.le_refl _)) (Nat.le_refl _)) (by omega)) (by omega)
 ·have HE := Lib.hid he
  have HPR2 := Lib.hid (by have h := HPR.out; rw [if_neg he] at h; exact h)
  clear HPR he
  go_wp2_with (first | (go_at_call 41; (with_reducible refine Calls.mono HPR2.out ?_); rintro e w2 ⟨rfl, ve2, hm2⟩; have Z0 := Lib.hid (mkeep hm2 HS.out H0.out (by decide) (by decide)); have Z1 := Lib.hid (mkeep hm2 HS.out H1.out (by decide) (by decide)); have Z2 := Lib.hid (mkeep hm2 HS.out H2.out (by decide) (by decide)); have HB2 := Lib.hid (mout hm2 HS.out); clear hm2))
  refine leaves_cons (f := 40) (args := #[.pointer (some ⟨w.heap.size, 0, none⟩), .pointer (some ⟨w.heap.size + 1, 0, none⟩), .pointer (some ⟨w.heap.size + 1 + 1, 0, none⟩)]) (by simp) (by simp [go_sem]) ?_
  refine (catch_wrong _ _ _ _ _ _ _ _ _ Z0.out rfl Z1.out Z2.out (by omega)).mono ?_
  obtain ⟨V8, hV8, r0, r1, r2, hb8⟩ := wrong_after Z0.out rfl Z1.out Z2.out (by omega) (allP newPar l).2.1 (allP newPar l).2.2 HB2.out (Nat.le_refl _) (by omega) (by omega)
  rw [hV8]
  rintro e u' w8 ⟨rfl, rfl, rfl⟩
  clear hV8
  have e1 : w8.cell? ⟨w.heap.size + 1, 0, none⟩ = some (.int .i64 (allP newPar l).2.1) := cell_of_row _ _ 0 _ _ _ r1
  have e2 : w8.cell? ⟨w.heap.size + 1 + 1, 0, none⟩ = some (.int .i64 (allP newPar l).2.2) := cell_of_row _ _ 0 _ _ _ r2
  obtain ⟨x0, x1, x2, x3, x4, x5, x6, x7⟩ := Tr.cells8 r0
  simp only [settle, Leaves, List.dropWhile_nil]
  refine ⟨.tuple #[ndAgg Tr.noNd (.slice none 0 0), .int .i64 (allP newPar l).2.1, .int .i64 (allP newPar l).2.2], ?_, ?_⟩
  ·simp [results, Try.results17, go_sem, x0, x1, x2, x3, x4, x5, x6, x7, e1, e2, Tr.noNd, Tr.noTk]
  ·have h1 : prNd l = Tr.noNd := by unfold prNd; rw [if_neg HE.out]
   have h3 : progA l = (allP newPar l).2.2 := by unfold progA; rw [if_neg HE.out]
   refine ⟨.slice none 0 0, ?_, ?_, hb8⟩
   ·rw [h1, h3]; rfl
   ·rw [h1]; exact Tr.ownS_nil _ _ _
end Go.Proofs.Ytmjbpgnjgblnmaa
namespace Go.Proofs.Ytmjbpgnjgblnmaa
open Go.RowKit Go.Proofs.YtmjbpgnjgblnmaaW.PrintWords Go.Proofs.YtmjbpgnjgblnmaaW.PrintLast Go.Proofs.YtmjbpgnjgblnmaaW.PrintMore
theorem akey_any (s : ByteArray) (w : World) : Calls Try.prog 37 #[.string s] w fun e w' => e = .returned (.agg #[.int .u8 2, .string s, .int .i64 0, .int .i64 0, .int .i64 0, .int .i64 0]) ∧ Below w.heap.size w w' := PSyntaxWhole.colophonlaw14_key.calls s 2 s 0 0 0 0 w rfl
theorem asign_any (s : ByteArray) (w : World) : Calls Try.prog 39 #[.string s] w fun e w' => e = .returned (.agg #[.int .u8 6, .string s, .int .i64 0, .int .i64 0, .int .i64 0, .int .i64 0]) ∧ Below w.heap.size w w' := PSyntaxWhole.colophonlaw14_sign.calls s 6 s 0 0 0 0 w rfl
theorem aname_any (s : ByteArray) (w : World) : Calls Try.prog 38 #[.string s] w fun e w' => e = .returned (.agg #[.int .u8 1, .string s, .int .i64 0, .int .i64 0, .int .i64 0, .int .i64 0]) ∧ Below w.heap.size w w' := PSyntaxWhole.colophonlaw14_name.calls s 1 s 0 0 0 0 w rfl
def awkL : List Tk := [⟨2, ⟨#[112, 114, 111, 103, 114, 97, 109]⟩, ⟨0, 0, 0⟩, 0⟩, ⟨1, ⟨#[112]⟩, ⟨0, 0, 0⟩, 0⟩, ⟨6, ⟨#[59]⟩, ⟨0, 0, 0⟩, 0⟩, ⟨2, ⟨#[98, 101, 103, 105, 110]⟩, ⟨0, 0, 0⟩, 0⟩, ⟨2, ⟨#[115, 107, 105, 112]⟩, ⟨0, 0, 0⟩, 0⟩, ⟨2, ⟨#[101, 110, 100]⟩, ⟨0, 0, 0⟩, 0⟩, ⟨6, ⟨#[46]⟩, ⟨0, 0, 0⟩, 0⟩]
def tkCells (t : Tk) : List Value := [.int .u8 t.f0, .string t.f1, .int .i64 t.f2.f0, .int .i64 t.f2.f1, .int .i64 t.f2.f2, .int .i64 t.f3]
theorem aw_1 : (progE awkL == 0 && (prNd awkL).f0 == 1 && (prNd awkL).f2.length == 5) = true := by kernel_rfl
theorem aw_2 : (progE (awkL.drop 1) == 120 && progA (awkL.drop 1) == 0) = true := by kernel_rfl
theorem aw_3 : (progE (awkL.take 3) == 121 && progA (awkL.take 3) == 3) = true := by kernel_rfl
theorem progA_ok {l : List Tk} (h : progE l = 0) : progA l = 0 := by unfold progA; unfold progE at h; rw [if_pos h]
theorem prNd_bad {l : List Tk} (h : progE l ≠ 0) : prNd l = Tr.noNd := by unfold prNd; unfold progE at h; rw [if_neg h]
theorem aw_C {V : World} {g : Nat} (h : V.heap[g]? = some (.cells (awkL.flatMap tkCells).toArray 35 (0, 0))) : Kd.C kTk V (some ⟨g, 0, none⟩) awkL.length awkL := by
 have hrow : V.ownsRow 0 35 6 (.slice (some ⟨g, 0, none⟩) 7 7) 7 (awkL.flatMap tkCells) := ⟨rfl, .inr ⟨g, 7, _, rfl, Nat.zero_le _, h, Nat.le_refl _, by decide, rfl, rfl⟩⟩
 have hreps : Reps (kTk.K V) 6 awkL (awkL.flatMap tkCells) := by
  have key : ∀ l : List Tk, Reps (kTk.K V) 6 l (l.flatMap tkCells) := fun l => by
   induction l with
   | nil => exact Reps.none _ _
   | cons x l ih =>
    have := Kd.reps_append ((Reps.none (kTk.K V) 6).snoc (PSyntaxWhole.k35_mk V x) rfl) ih
    rw [List.nil_append, List.nil_append, List.singleton_append] at this
    exact this
  exact key _
 obtain ⟨A, c1, hv, hr⟩ := own_reads_row (size := 6) hrow hreps rfl
 injection hv with h1 h2 h3
 subst h1
 exact hr
theorem prog_1 {V : World} {g : Nat} (h : Kd.C kTk V (some ⟨g, 0, none⟩) awkL.length awkL) : Calls Try.prog 17 #[.slice (some ⟨g, 0, none⟩) 7 7] V fun e w' => ∃ (x : Tr.Nd) (A : Option Addr) (c : Nat), e = .returned (.tuple #[ndAgg x (.slice A x.f2.length c), .int .i64 0, .int .i64 0]) ∧ x.f0 = 1 ∧ x.f2.length = 5 ∧ Below V.heap.size V w' := by
 refine (prog_any (some ⟨g, 0, none⟩) 7 awkL V h (by decide)).mono ?_
 rintro e w' ⟨v, rfl, ho, hb⟩
 obtain ⟨A, c, rfl⟩ := owns_slice ho
 have h1 := aw_1
 simp only [Bool.and_eq_true, beq_iff_eq] at h1
 refine ⟨prNd awkL, A, c, ?_, h1.1.2, h1.2, hb⟩
 rw [progA_ok h1.1.1, h1.1.1]
 rfl
theorem prog_2 {V : World} {g : Nat} (h : Kd.C kTk V (some ⟨g, 0, none⟩) awkL.length awkL) : Calls Try.prog 17 #[.slice (some ⟨g, 6, none⟩) 6 6] V fun e w' => ∃ (A : Option Addr) (c : Nat), e = .returned (.tuple #[ndAgg Tr.noNd (.slice A 0 c), .int .i64 120, .int .i64 0]) ∧ Below V.heap.size V w' := by
 have hd := Kd.C_drop (m := 1) (c := 7) h (by decide) (by decide)
 rw [if_neg (by decide)] at hd
 refine (prog_any (some ⟨g, 6, none⟩) 6 (awkL.drop 1) V hd (by decide)).mono ?_
 rintro e w' ⟨v, rfl, ho, hb⟩
 have h1 := aw_2
 simp only [Bool.and_eq_true, beq_iff_eq] at h1
 rw [prNd_bad (by rw [h1.1]; decide)] at ho ⊢
 obtain ⟨A, c, rfl⟩ := owns_slice ho
 refine ⟨A, c, ?_, hb⟩
 rw [h1.1, h1.2]
 rfl
theorem prog_3 {V : World} {g : Nat} (h : Kd.C kTk V (some ⟨g, 0, none⟩) awkL.length awkL) : Calls Try.prog 17 #[.slice (some ⟨g, 0, none⟩) 3 7] V fun e w' => ∃ (A : Option Addr) (c : Nat), e = .returned (.tuple #[ndAgg Tr.noNd (.slice A 0 c), .int .i64 121, .int .i64 3]) ∧ Below V.heap.size V w' := by
 have hd := Kd.C_take (m := 3) h (by decide)
 refine (prog_any (some ⟨g, 0, none⟩) 7 (awkL.take 3) V hd (by decide)).mono ?_
 rintro e w' ⟨v, rfl, ho, hb⟩
 have h1 := aw_3
 simp only [Bool.and_eq_true, beq_iff_eq] at h1
 rw [prNd_bad (by rw [h1.1]; decide)] at ho ⊢
 obtain ⟨A, c, rfl⟩ := owns_slice ho
 refine ⟨A, c, ?_, hb⟩
 rw [h1.1, h1.2]
 rfl
theorem box_up {w3 w4 : World} {o : Obj} (h : Tr.Upd w3.heap.size (w3.alloc o) w4) : Below w3.heap.size w3 w4 := h.below ((Below.refl w3.heap.size w3).alloc (Nat.le_refl _) o) (Nat.le_refl _)
set_option maxRecDepth 100000 in
set_option maxHeartbeats 1000000 in
theorem awake_any (w : World) : Calls Try.prog 16 #[] w fun e w' => e = .returned (.bool true) ∧ Below w.heap.size w w' := by
 have HB := Lib.hid (Below.refl w.heap.size w)
 go_enter Try.func16, Try.ntmps16
 go_upto_region 2 with (first
  | (go_at_call 37; (with_reducible refine Calls.mono (akey_any _ _) ?_); rintro e w9 ⟨rfl, hb⟩; replace HB := Lib.hid (HB.out.trans (hb.mono HB.out.size)); clear hb)
  | (go_at_call 39; (with_reducible refine Calls.mono (asign_any _ _) ?_); rintro e w9 ⟨rfl, hb⟩; replace HB := Lib.hid (HB.out.trans (hb.mono HB.out.size)); clear hb)
  | (go_at_call 38; (with_reducible refine Calls.mono (aname_any _ _) ?_); rintro e w9 ⟨rfl, hb⟩; replace HB := Lib.hid (HB.out.trans (hb.mono HB.out.size)); clear hb))
 obtain ⟨W2, hW2⟩ : ∃ V, w9.alloc (.cells (awkL.flatMap tkCells).toArray 35) = V := ⟨_, rfl⟩
 have hg2 : W2.heap[w9.heap.size]? = some (.cells (awkL.flatMap tkCells).toArray 35 (0, 0)) := by rw [← hW2]; exact World.alloc_heap_new _ _
 have hb2 : Below w9.heap.size w9 W2 := by rw [← hW2]; exact (Below.refl _ _).alloc (Nat.le_refl _) _
 replace hW2 : w9.alloc (.cells #[.int .u8 2, .string ⟨#[112, 114, 111, 103, 114, 97, 109]⟩, .int .i64 0, .int .i64 0, .int .i64 0, .int .i64 0, .int .u8 1, .string ⟨#[112]⟩, .int .i64 0, .int .i64 0, .int .i64 0, .int .i64 0, .int .u8 6, .string ⟨#[59]⟩, .int .i64 0, .int .i64 0, .int .i64 0, .int .i64 0, .int .u8 2, .string ⟨#[98, 101, 103, 105, 110]⟩, .int .i64 0, .int .i64 0, .int .i64 0, .int .i64 0, .int .u8 2, .string ⟨#[115, 107, 105, 112]⟩, .int .i64 0, .int .i64 0, .int .i64 0, .int .i64 0, .int .u8 2, .string ⟨#[101, 110, 100]⟩, .int .i64 0, .int .i64 0, .int .i64 0, .int .i64 0, .int .u8 6, .string ⟨#[46]⟩, .int .i64 0, .int .i64 0, .int .i64 0, .int .i64 0] 35) = W2 := hW2
 rw [hW2]
 clear hW2
 have HB2 := Lib.hid (HB.out.trans (hb2.mono HB.out.size))
 have HC2 := Lib.hid (aw_C hg2)
 clear hg2 hb2 HB
 obtain ⟨g, hg⟩ : ∃ g, w9.heap.size = g := ⟨_, rfl⟩
 rw [hg] at HC2 ⊢
 clear hg
 have HP1 := Lib.hid (prog_1 HC2.out)
 go_upto_region 3 with (first
  | (go_at_call 17; (with_reducible refine Calls.mono HP1.out ?_); rintro e w3 ⟨x1, A1, ca1, rfl, hx0, hx2, hb⟩; have HX0 := Lib.hid hx0; have HX2 := Lib.hid hx2; have HB3 := Lib.hid (HB2.out.trans (hb.mono HB2.out.size)); have HC3 := Lib.hid (Kd.C_below HC2.out hb); clear hb hx0 hx2)
  | ((with_reducible refine gate_ (.store 51 (.tmp 2) (.tmp 22)) rfl ?_); refine Tr.wl_box rfl rfl _ _ _ rfl (ndAgg x1 (.slice A1 x1.f2.length ca1)) (Tr.ndCells x1.f0 x1.f1 (.slice A1 x1.f2.length ca1)) rfl rfl rfl Tr.infoNd8 (Tr.ndCells_one _ _ rfl) (World.alloc_heap_new w3 _) rfl ?_; intro w4 h4 hu4; have X4 := Lib.hid h4; have U4 := Lib.hid hu4; clear h4 hu4))
 have hu4 := box_up U4.out
 have HB4 := Lib.hid (HB3.out.trans (hu4.mono HB3.out.size))
 have HC4 := Lib.hid (Kd.C_below HC3.out hu4)
 have HP2 := Lib.hid (prog_2 HC4.out)
 obtain ⟨g2, hg2⟩ : ∃ g2, w3.heap.size = g2 := ⟨_, rfl⟩
 rw [hg2] at X4 ⊢
 clear hu4 U4 HP1 HC2 HC3 HB2 HB3 hg2
 go_upto_region 4 with (first
  | (go_at_call 17; (with_reducible refine Calls.mono HP2.out ?_); rintro e w5 ⟨A2, ca2, rfl, hb⟩; have HB5 := Lib.hid (HB4.out.trans (hb.mono HB4.out.size)); have HC5 := Lib.hid (Kd.C_below HC4.out hb); have X5 := Lib.hid ((hb.block _ (blk_lt X4.out)).trans X4.out); clear hb)
  | ((with_reducible refine gate_ (.store 51 (.tmp 5) (.tmp 29)) rfl ?_); refine Tr.wl_box rfl rfl _ _ _ rfl (ndAgg Tr.noNd (.slice A2 0 ca2)) (Tr.ndCells 0 Tr.noTk (.slice A2 0 ca2)) rfl rfl rfl Tr.infoNd8 (Tr.ndCells_one _ _ rfl) (World.alloc_heap_new w5 _) rfl ?_; intro w6 h6 hu6; have X6 := Lib.hid h6; have U6 := Lib.hid hu6; clear h6 hu6))
 have hu6 := box_up U6.out
 have HB6 := Lib.hid (HB5.out.trans (hu6.mono HB5.out.size))
 have HC6 := Lib.hid (Kd.C_below HC5.out hu6)
 have Y6 := Lib.hid ((hu6.block _ (blk_lt X5.out)).trans X5.out)
 have HP3 := Lib.hid (prog_3 HC6.out)
 obtain ⟨g5, hg5⟩ : ∃ g5, w5.heap.size = g5 := ⟨_, rfl⟩
 rw [hg5] at X6 ⊢
 clear hu6 U6 HP2 HC4 HC5 HB4 HB5 hg5 X4 X5
 go_upto_region 5 with (first
  | (go_at_call 17; (with_reducible refine Calls.mono HP3.out ?_); rintro e w7 ⟨A3, ca3, rfl, hb⟩; have HB7 := Lib.hid (HB6.out.trans (hb.mono HB6.out.size)); have X7 := Lib.hid ((hb.block _ (blk_lt X6.out)).trans X6.out); have Y7 := Lib.hid ((hb.block _ (blk_lt Y6.out)).trans Y6.out); clear hb)
  | ((with_reducible refine gate_ (.store 51 (.tmp 8) (.tmp 36)) rfl ?_); refine Tr.wl_box rfl rfl _ _ _ rfl (ndAgg Tr.noNd (.slice A3 0 ca3)) (Tr.ndCells 0 Tr.noTk (.slice A3 0 ca3)) rfl rfl rfl Tr.infoNd8 (Tr.ndCells_one _ _ rfl) (World.alloc_heap_new w7 _) rfl ?_; intro w8 h8 hu8; have U8 := Lib.hid hu8; clear h8 hu8))
 have hu8 := box_up U8.out
 have HB8 := Lib.hid (HB7.out.trans (hu8.mono HB7.out.size))
 have k0 := (Tr.cells8 ((hu8.block _ (blk_lt Y7.out)).trans Y7.out)).1
 have k7 := (Tr.cells8 ((hu8.block _ (blk_lt Y7.out)).trans Y7.out)).2.2.2.2.2.2.2
 have m0 := (Tr.cells8 ((hu8.block _ (blk_lt X7.out)).trans X7.out)).1
 rw [HX0.out] at k0
 rw [HX2.out] at k7
 clear hu8 U8 HP3 HC6 HB6 HB7 X6 X7 Y6 Y7
 go_wp2
 go_ret
 exact ⟨rfl, HB8.out⟩
end Go.Proofs.Ytmjbpgnjgblnmaa
namespace Go.Proofs.Ytmjbpgnjgblnmaa
open Go.RowKit Go.ChangeShapes Go.Deep Go.Proofs.YtmjbpgnjgblnmaaW.PrintWords Go.Proofs.YtmjbpgnjgblnmaaW.PrintLast Go.Proofs.YtmjbpgnjgblnmaaW.PrintMore
section
variable {H : Type} {enc : TypeId × Value → H} {W : World} {base : Nat} {spare : Nat → Bool} {held : Bool}
set_option maxRecDepth 100000 in
theorem place_open {fuel : Nat} {cs : List Value} {x : DataW H × List MemPlace} (h : DataW.trod enc Try.prog W base spare held fuel 33 cs = some x) : ∃ p : PSyntaxWhole.S33, cs = [.int .i64 p.f0, .int .i64 p.f1, .int .i64 p.f2] := by
 obtain ⟨xs, n, _, _, hl, hx, hf⟩ := DataW.trod_struct Try.underlying33 h
 have hc : Try.prog.cellsOf 33 = 3 := by kernel_rfl
 have hci : Try.prog.cellsOf 3 = 1 := by kernel_rfl
 rw [hc] at hl
 have g0 := hf 0 ⟨"At", 3, 0, false, "", "", 0⟩ rfl
 have g1 := hf 1 ⟨"Line", 3, 1, false, "", "", 8⟩ rfl
 have g2 := hf 2 ⟨"Column", 3, 2, false, "", "", 16⟩ rfl
 match cs, hl, xs, hx with
 | [c0, c1, c2], _, [x0, x1, x2], _ =>
  dsimp only at g0 g1 g2
  rw [hci] at g0 g1 g2
  obtain ⟨z0, e0, _⟩ := DataW.trod_int Try.underlying3 g0
  obtain ⟨z1, e1, _⟩ := DataW.trod_int Try.underlying3 g1
  obtain ⟨z2, e2, _⟩ := DataW.trod_int Try.underlying3 g2
  simp at e0 e1 e2
  subst e0 e1 e2
  exact ⟨⟨z0, z1, z2⟩, rfl⟩
set_option maxRecDepth 100000 in
theorem tok_open {fuel : Nat} {cs : List Value} {x : DataW H × List MemPlace} (h : DataW.trod enc Try.prog W base spare held fuel 35 cs = some x) : ∃ t : Tk, cs = tkCells t := by
 obtain ⟨xs, n, _, _, hl, hx, hf⟩ := DataW.trod_struct Try.underlying35 h
 have hc : Try.prog.cellsOf 35 = 6 := by kernel_rfl
 have hcp : Try.prog.cellsOf 33 = 3 := by kernel_rfl
 have hci : Try.prog.cellsOf 3 = 1 := by kernel_rfl
 have hck : Try.prog.cellsOf 31 = 1 := by kernel_rfl
 have hcs : Try.prog.cellsOf 9 = 1 := by kernel_rfl
 rw [hc] at hl
 have g0 := hf 0 ⟨"Kind", 31, 0, false, "", "", 0⟩ rfl
 have g1 := hf 1 ⟨"Text", 9, 1, false, "", "", 8⟩ rfl
 have g2 := hf 2 ⟨"Place", 33, 2, false, "", "", 24⟩ rfl
 have g3 := hf 3 ⟨"Feeds", 3, 5, false, "", "", 48⟩ rfl
 match cs, hl, xs, hx with
 | [c0, c1, c2, c3, c4, c5], _, [x0, x1, x2, x3], _ =>
  dsimp only at g0 g1 g2 g3
  rw [hck] at g0
  rw [hcs] at g1
  rw [hcp] at g2
  rw [hci] at g3
  obtain ⟨z0, e0, _⟩ := DataW.trod_int Try.underlying31 g0
  obtain ⟨z1, e1, _⟩ := DataW.trod_string Try.underlying9 g1
  obtain ⟨p, e2⟩ := place_open g2
  obtain ⟨z3, e3, _⟩ := DataW.trod_int Try.underlying3 g3
  simp at e0 e1 e2 e3
  obtain ⟨e4, e5, e6⟩ := e2
  subst e0 e1 e3 e4 e5 e6
  exact ⟨⟨z0, z1, p, z3⟩, rfl⟩
theorem addr_add2 (a : Addr) (i j : Nat) : (a.add i).add j = a.add (i + j) := by
 unfold Addr.add
 by_cases hi : i = 0
 ·subst hi; simp
 ·by_cases hj : j = 0
  ·subst hj; simp
  ·simp [hi, hj, Nat.add_assoc]
theorem row_open {α : Type} {k : Kd α} (d0 : α) {e T : TypeId} (ht : Try.prog.underlying T = some (.slice e)) (hsz : Try.prog.cellsOf e = k.sz) {n fuel : Nat} (hn : fuel ≤ n + 1) (ih : ∀ m, m ≤ n → ∀ cs x, DataW.trod enc Try.prog W base spare held m e cs = some x → ∃ y : α, k.K W y cs)
  {cs : List Value} {x : DataW H × List MemPlace} (h : DataW.trod enc Try.prog W base spare held fuel T cs = some x) : ∃ (A : Option Addr) (l : List α) (c : Nat), cs = [.slice A l.length c] ∧ l.length ≤ c ∧ Kd.C k W A l.length l := by
 rcases DataW.trod_slice ht h with ⟨rfl, _⟩ | ⟨a, len, cap, elems, rest, m, hm, rfl, _, _, hl, hc, hlen, hel, _, _⟩
 ·exact ⟨none, [], 0, rfl, Nat.le_refl _, ⟨rfl, by simp, fun h => absurd h (by simp)⟩⟩
 ·have hy : ∀ i, ∃ y : α, i < len → ∃ c : List Value, c.length = k.sz ∧ k.K W y c ∧ ∀ j u, c[j]? = some u → W.cell? (a.add (i * k.sz + j)) = some u := by
   intro i
   by_cases hi : i < len
   ·have h1 := hel i hi
    rw [List.getElem?_eq_getElem (by omega)] at h1
    obtain ⟨cs', hcs, htr⟩ := Option.bind_eq_some_iff.1 h1
    obtain ⟨y, hy⟩ := ih m (by omega) cs' _ htr
    obtain ⟨_, hcl, hcell⟩ := World.cells?_some hcs
    refine ⟨y, fun _ => ⟨cs', by rw [hcl, hsz], hy, fun j u hu => ?_⟩⟩
    have hj : j < Try.prog.cellsOf e := by rw [← hcl]; exact (List.getElem?_eq_some_iff.1 hu).1
    have := hcell j hj
    rw [hu] at this
    rw [← this, hsz, addr_add2]
   ·exact ⟨d0, fun h => absurd h hi⟩
  obtain ⟨f, hf⟩ := (⟨fun i => (hy i).choose, fun i => (hy i).choose_spec⟩ : ∃ f : Nat → α, ∀ i, i < len → ∃ c : List Value, c.length = k.sz ∧ k.K W (f i) c ∧ ∀ j u, c[j]? = some u → W.cell? (a.add (i * k.sz + j)) = some u)
  refine ⟨some a, (List.range len).map f, cap, by simp, by simpa using hl, ⟨rfl, ?_, fun _ => ⟨a, rfl, fun j p hp => ?_⟩⟩⟩
  ·have : maxLen ≤ 9223372036854775807 := by decide
   simp
   omega
  ·rw [List.getElem?_map] at hp
   obtain ⟨i, hi, rfl⟩ := Option.map_eq_some_iff.1 hp
   obtain ⟨hlt, he⟩ := List.getElem?_eq_some_iff.1 hi
   rw [List.getElem_range] at he
   subst he
   exact hf j (by simpa using hlt)
theorem toks_arg {A : Option Addr} {n c : Nat} {d : DataW H} {ps : List MemPlace} (h : DataW.Trod enc Try.prog W base spare held 22 (.slice A n c) d ps) : ∃ l : List Tk, l.length = n ∧ n ≤ c ∧ Kd.C kTk W A n l := by
 obtain ⟨fuel, hf⟩ := h
 obtain ⟨A', l, c', e, hlc, hC⟩ := row_open (k := kTk) noTk Try.underlying22 (by kernel_rfl) (n := fuel) (by omega) (fun m _ cs x h => by
  obtain ⟨t, rfl⟩ := tok_open h
  exact ⟨t, PSyntaxWhole.k35_mk W t⟩) hf
 simp [Value.cells] at e
 obtain ⟨rfl, rfl, rfl⟩ := e
 exact ⟨l, rfl, hlc, hC⟩
theorem laidOut0 : laidOutB Try.prog = true := by kernel_rfl
end
end Go.Proofs.Ytmjbpgnjgblnmaa
