/- Same: the walk. (Printed by gensame.py.) -/
import Derived.Test.YtfefldkljbbbpaaG5
set_option linter.unusedVariables false
set_option linter.unusedSimpArgs false
namespace Go.Proofs.Ytfefldkljbbbpaa
open Go.RowKit Go.Shelf Go.Proofs.YtfefldkljbbbpaaW.PrintWords Go.Proofs.YtfefldkljbbbpaaW.PrintLast Go.Proofs.YtfefldkljbbbpaaW.PrintMore
attribute [local go_sem] Oper.semAt_some

set_option maxRecDepth 100000 in
set_option maxHeartbeats 8000000 in
theorem same_any : ∀ (k : Nat) (w : World) (x y : Nd) (A B : Option Addr) (c d : Nat), nds x ≤ k → x.f2.length ≤ c → y.f2.length ≤ d → Kd.C kNd w A x.f2.length x.f2 → Kd.C kNd w B y.f2.length y.f2 → nds x ≤ 1073741824 → nds y ≤ 1073741824 →
    Calls Try.prog 17 #[.agg #[.int .u8 x.f0, .int .u8 x.f1.f0, .string x.f1.f1, .int .i64 x.f1.f2.f0, .int .i64 x.f1.f2.f1, .int .i64 x.f1.f2.f2, .int .i64 x.f1.f3, .slice A x.f2.length c], .agg #[.int .u8 y.f0, .int .u8 y.f1.f0, .string y.f1.f1, .int .i64 y.f1.f2.f0, .int .i64 y.f1.f2.f1, .int .i64 y.f1.f2.f2, .int .i64 y.f1.f3, .slice B y.f2.length d]] w fun e w' => e = .returned (.bool (sameN k x y)) ∧ Below w.heap.size w w' := by
  intro k
  induction k with
  | zero => intro w x y A B c d hk; have := nds_pos x; omega
  | succ k ih =>
    intro w x y A B c d hk hlc hld hCx hCy hl24 hl24'
    by_cases hleaf : x.f0 ≠ y.f0 ∨ x.f0 = 0
    · exact same_leaf w x y A B c d k hleaf
    · have h0 : x.f0 = y.f0 := Classical.not_not.1 fun h => hleaf (.inl h)
      have h1 : x.f0 ≠ 0 := fun h => hleaf (.inr h)
      have hs : sameN (k + 1) x y = ((plainL x.f2).length == (plainL y.f2).length && ((plainL x.f2).zip (plainL y.f2)).all fun p => sameN k p.1 p.2) := by rw [sameN, if_pos h0, if_neg h1]
      rw [hs]
      have dk : (y.f0 == (0 : Int)) = false := beq_eq_false_iff_ne.2 (h0 ▸ h1)
      have IH := Lib.hid ih
      have HCX := Lib.hid hCx
      have HCY := Lib.hid hCy
      have HLX := Lib.hid hlc
      have HLY := Lib.hid hld
      have HNX := Lib.hid hk
      have HMX := Lib.hid hl24
      have HMY := Lib.hid hl24'
      rw [h0]
      clear hleaf hs h0 h1 ih hCx hCy hlc hld hk hl24 hl24'
      refine (callsIn_wide (n := 8)).1 ?_
      refine callsIn_of_wp_marks Try.func17 rfl trivial ?_ rfl
      simp only [Try.ntmps17, List.size_toArray, List.length_cons, List.length_nil, Nat.reduceAdd, Nat.reduceSub, Array.replicate_succ, Array.replicate_zero, List.push_toArray, List.append_toArray, List.nil_append, List.cons_append]
      gi_wp2_with (refine ⟨trivial, ?_⟩; gi_at_call 28; refine (kids_in _ y B y.f2.length d _).mono ?_; rintro e w' ⟨rfl, rfl⟩)
      obtain ⟨W0, hW0⟩ : ∃ W0, ((((w.alloc (.cells #[.int .u8 y.f0, .int .u8 x.f1.f0, .string x.f1.f1, .int .i64 x.f1.f2.f0, .int .i64 x.f1.f2.f1, .int .i64 x.f1.f2.f2, .int .i64 x.f1.f3, .slice A x.f2.length c] TN)).alloc (.cells #[.int .u8 y.f0, .int .u8 y.f1.f0, .string y.f1.f1, .int .i64 y.f1.f2.f0, .int .i64 y.f1.f2.f1, .int .i64 y.f1.f2.f2, .int .i64 y.f1.f3, .slice B y.f2.length d] TN)).alloc (.cells #[.bool false] 4)).alloc (.cells #[.slice none 0 0] 33)).alloc (.cells #[.int .u8 y.f0, .int .u8 y.f1.f0, .string y.f1.f1, .int .i64 y.f1.f2.f0, .int .i64 y.f1.f2.f1, .int .i64 y.f1.f2.f2, .int .i64 y.f1.f3, .slice B y.f2.length d] TN) = W0 := ⟨_, rfl⟩
      have hz0 : W0.heap.size = w.heap.size + 1 + 1 + 1 + 1 + 1 := by rw [← hW0]; simp
      have hb0 : Below w.heap.size w W0 := by
        rw [← hW0]
        exact ((((((Below.refl _ w).alloc (Nat.le_refl _) _).alloc (by simp) _).alloc (by simp; omega) _).alloc (by simp; omega) _).alloc (by simp; omega) _)
      have g3 : Boxed W0 (w.heap.size + 1 + 1 + 1) 33 (.slice none 0 0) := by
        rw [← hW0]
        have := (Boxed.new (((w.alloc (.cells #[.int .u8 y.f0, .int .u8 x.f1.f0, .string x.f1.f1, .int .i64 x.f1.f2.f0, .int .i64 x.f1.f2.f1, .int .i64 x.f1.f2.f2, .int .i64 x.f1.f3, .slice A x.f2.length c] TN)).alloc (.cells #[.int .u8 y.f0, .int .u8 y.f1.f0, .string y.f1.f1, .int .i64 y.f1.f2.f0, .int .i64 y.f1.f2.f1, .int .i64 y.f1.f2.f2, .int .i64 y.f1.f3, .slice B y.f2.length d] TN)).alloc (.cells #[.bool false] 4)) 33 (.slice none 0 0)).alloc (.cells #[.int .u8 y.f0, .int .u8 y.f1.f0, .string y.f1.f1, .int .i64 y.f1.f2.f0, .int .i64 y.f1.f2.f1, .int .i64 y.f1.f2.f2, .int .i64 y.f1.f3, .slice B y.f2.length d] TN)
        simpa only [World.size_alloc] using this
      have g2 : Boxed W0 (w.heap.size + 1 + 1) 4 (.bool false) := by
        rw [← hW0]
        have := ((Boxed.new ((w.alloc (.cells #[.int .u8 y.f0, .int .u8 x.f1.f0, .string x.f1.f1, .int .i64 x.f1.f2.f0, .int .i64 x.f1.f2.f1, .int .i64 x.f1.f2.f2, .int .i64 x.f1.f3, .slice A x.f2.length c] TN)).alloc (.cells #[.int .u8 y.f0, .int .u8 y.f1.f0, .string y.f1.f1, .int .i64 y.f1.f2.f0, .int .i64 y.f1.f2.f1, .int .i64 y.f1.f2.f2, .int .i64 y.f1.f3, .slice B y.f2.length d] TN)) 4 (.bool false)).alloc (.cells #[.slice none 0 0] 33)).alloc (.cells #[.int .u8 y.f0, .int .u8 y.f1.f0, .string y.f1.f1, .int .i64 y.f1.f2.f0, .int .i64 y.f1.f2.f1, .int .i64 y.f1.f2.f2, .int .i64 y.f1.f3, .slice B y.f2.length d] TN)
        simpa only [World.size_alloc] using this
      have g4 : W0.heap[w.heap.size + 1 + 1 + 1 + 1]? = some (.cells #[.int .u8 y.f0, .int .u8 y.f1.f0, .string y.f1.f1, .int .i64 y.f1.f2.f0, .int .i64 y.f1.f2.f1, .int .i64 y.f1.f2.f2, .int .i64 y.f1.f3, .slice B y.f2.length d] TN) := by
        rw [← hW0]
        have := World.alloc_heap_new ((((w.alloc (.cells #[.int .u8 y.f0, .int .u8 x.f1.f0, .string x.f1.f1, .int .i64 x.f1.f2.f0, .int .i64 x.f1.f2.f1, .int .i64 x.f1.f2.f2, .int .i64 x.f1.f3, .slice A x.f2.length c] TN)).alloc (.cells #[.int .u8 y.f0, .int .u8 y.f1.f0, .string y.f1.f1, .int .i64 y.f1.f2.f0, .int .i64 y.f1.f2.f1, .int .i64 y.f1.f2.f2, .int .i64 y.f1.f3, .slice B y.f2.length d] TN)).alloc (.cells #[.bool false] 4)).alloc (.cells #[.slice none 0 0] 33)) (.cells #[.int .u8 y.f0, .int .u8 y.f1.f0, .string y.f1.f1, .int .i64 y.f1.f2.f0, .int .i64 y.f1.f2.f1, .int .i64 y.f1.f2.f2, .int .i64 y.f1.f3, .slice B y.f2.length d] TN)
        simpa only [World.size_alloc] using this
      have g0 : W0.heap[w.heap.size]? = some (.cells #[.int .u8 y.f0, .int .u8 x.f1.f0, .string x.f1.f1, .int .i64 x.f1.f2.f0, .int .i64 x.f1.f2.f1, .int .i64 x.f1.f2.f2, .int .i64 x.f1.f3, .slice A x.f2.length c] TN) := by
        rw [← hW0]
        refine Eq.trans (((((Below.refl (w.heap.size + 1) (w.alloc (.cells #[.int .u8 y.f0, .int .u8 x.f1.f0, .string x.f1.f1, .int .i64 x.f1.f2.f0, .int .i64 x.f1.f2.f1, .int .i64 x.f1.f2.f2, .int .i64 x.f1.f3, .slice A x.f2.length c] TN))).alloc (by simp) _).alloc (by simp) _).alloc (by simp <;> omega) _).alloc (by simp <;> omega) _ |>.block w.heap.size (by omega)) ?_
        exact World.alloc_heap_new w _
      rw [hW0]
      clear hW0
      obtain ⟨s0, hs0⟩ : ∃ s, w.heap.size = s := ⟨_, rfl⟩
      obtain ⟨s1, hs1⟩ : ∃ s, s0 + 1 = s := ⟨_, rfl⟩
      obtain ⟨s2, hs2⟩ : ∃ s, s1 + 1 = s := ⟨_, rfl⟩
      obtain ⟨s3, hs3⟩ : ∃ s, s2 + 1 = s := ⟨_, rfl⟩
      obtain ⟨s4, hs4⟩ : ∃ s, s3 + 1 = s := ⟨_, rfl⟩
      obtain ⟨XV, hXV⟩ : ∃ v, Value.agg #[.int .u8 y.f0, .int .u8 x.f1.f0, .string x.f1.f1, .int .i64 x.f1.f2.f0, .int .i64 x.f1.f2.f1, .int .i64 x.f1.f2.f2, .int .i64 x.f1.f3, .slice A x.f2.length c] = v := ⟨_, rfl⟩
      obtain ⟨YV, hYV⟩ : ∃ v, Value.agg #[.int .u8 y.f0, .int .u8 y.f1.f0, .string y.f1.f1, .int .i64 y.f1.f2.f0, .int .i64 y.f1.f2.f1, .int .i64 y.f1.f2.f2, .int .i64 y.f1.f3, .slice B y.f2.length d] = v := ⟨_, rfl⟩
      rw [hs0, hs1, hs2, hs3, hs4] at hz0
      rw [hs0, hs1, hs2, hs3] at g3
      rw [hs0, hs1, hs2] at g2
      rw [hs0, hs1, hs2, hs3, hs4] at g4
      rw [hs0] at g0
      rw [hXV, hYV, hs0, hs1, hs2, hs3, hs4]
      have hk7 : W0.cell? ⟨s4, 7, none⟩ = some (.slice B y.f2.length d) := cell_of_row _ _ _ _ _ _ g4
      have hmy : y.f2.length ≤ 1073741824 := by have := HMY.out; rw [nds_eq] at this; have := ndsL_len y.f2; omega
      have HZ := Lib.hid (show s0 + 1 = s1 ∧ s1 + 1 = s2 ∧ s2 + 1 = s3 ∧ s3 + 1 = s4 ∧ W0.heap.size = s4 + 1 ∧ w.heap.size = s0 from ⟨hs1, hs2, hs3, hs4, hz0, hs0⟩)
      have HXV := Lib.hid hXV
      have HYV := Lib.hid hYV
      have HG0 := Lib.hid g0
      have HG2 := Lib.hid g2
      have HB0 := Lib.hid hb0
      clear hXV hYV hs0 hs1 hs2 hs3 hs4 g0 g2 g4
      refine wpIn_rangeFunc_ownH rfl (by decide) (gf := 36) (lb := #[.pointer (some ⟨s4, 0, none⟩)]) rfl trivial (enters_of Try.func36 (by kernel_rfl) rfl)
        (kids_stops 7 (by decide) w y B d HCY.out (nds y) (by have := nds_eq y; omega) W0 hb0 s4 hk7 (by omega) hmy) belowK_t (belowK_b hb0.size) (Below.refl _ _) (fun _ => rfl)
        (Coll w W0 (nds y) s3) (fun _ _ _ => False) (coll_own (Nat.le_refl _)) (fun _ _ _ _ _ h _ _ => h)
        ⟨World.grownBy.refl _ _, _, g3, by simp [kvCells], .inl ⟨rfl, rfl⟩⟩
        (fun k a' W => ∃ Bx, W0.heap.size ≤ Bx ∧ W.heap[Bx]? = some (.cells #[.int .u8 k.x.f0, .int .u8 k.x.f1.f0, .string k.x.f1.f1, .int .i64 k.x.f1.f2.f0, .int .i64 k.x.f1.f2.f1, .int .i64 k.x.f1.f2.f2, .int .i64 k.x.f1.f3, .slice k.A k.x.f2.length k.c] TN) ∧ a' = { tmps := #[XV, YV, .pointer (some ⟨s0, 0, none⟩), .pointer (some ⟨s1, 0, none⟩), .pointer (some ⟨s2, 0, none⟩), .pointer (some ⟨s3, 0, none⟩), .pointer (some ⟨Bx, 0, none⟩), undef, undef, .pointer (some ⟨s0, 0, none⟩), .int .u8 y.f0, .pointer (some ⟨s1, 0, none⟩), .int .u8 y.f0, .bool false, .pointer (some ⟨s0, 0, none⟩), .int .u8 y.f0, .bool false, undef, undef, undef, undef, undef, undef, undef, undef, undef, undef, undef, undef, undef, undef, undef, undef, YV, .func (.func 36) #[] #[.pointer (some ⟨s4, 0, none⟩)], KV.val k, undef, undef, undef, undef, undef, undef, undef, undef, undef, undef, undef, undef, undef, undef, undef, undef, undef, undef, undef, undef, undef, undef, undef, undef, undef, undef, undef, undef], defers := [] }) ?hAx ?assign ?body ?done ?stop
      case hAx =>
        rintro k a' _ X Y row ⟨Bx, h1, h2, h3⟩ hg hr
        refine ⟨Bx, h1, (hg.block Bx (Array.getElem?_eq_some_iff.1 h2).1 fun e => ?_).trans h2, h3⟩
        obtain ⟨_, o, ho, hc⟩ := hr Bx e.symm
        rw [h2] at ho; cases ho; cases hc
      case assign =>
        rintro l pre k W K hI hK
        unfold KV.val
        gi_wp2
        exact hK _ _ ((KeepsOthers.alloc _ _).from _) ((Below.refl _ W).alloc (Nat.le_trans HB0.out.size hI.1.size) _) ((coll_own (Nat.le_refl _)).alloc _ hI) ⟨W.heap.size, hI.1.size, World.alloc_heap_new _ _, rfl⟩
      case body =>
        rintro l pre k a' W hl hloop ⟨hg, u, hu, ho⟩ ⟨Bx, hBx, hcx, rfl⟩ hlt
        obtain ⟨A5, c5, rfl⟩ : ∃ A5 c5, u = .slice A5 pre.length c5 := by
          rcases ho.2 with ⟨rfl, h0⟩ | ⟨g, cap, cur, rfl, _⟩
          · exact ⟨none, 0, by rw [h0]⟩
          · exact ⟨_, cap, rfl⟩
        obtain ⟨Wd, hWd⟩ : ∃ V, W.drew = V := ⟨_, rfl⟩
        have hrel : KeepsFrom W0.heap.size W Wd ∧ Below w.heap.size W Wd := by rw [← hWd]; exact ⟨(KeepsOthers.drew W).from _, (Below.refl _ W).drew⟩
        have hgd : W0.grownBy Wd (some s3) := by rw [← hWd]; exact ⟨hg.os, hg.tape, hg.output, hg.size, hg.block⟩
        have hbd : Boxed Wd s3 33 (.slice A5 pre.length c5) := by rw [← hWd]; exact hu
        have hod : Wd.ownsRow W0.heap.size TN 8 (.slice A5 pre.length c5) pre.length (kvCells pre) := by rw [← hWd]; exact ho.drew
        have hcd : Wd.heap[Bx]? = some (.cells #[.int .u8 k.x.f0, .int .u8 k.x.f1.f0, .string k.x.f1.f1, .int .i64 k.x.f1.f2.f0, .int .i64 k.x.f1.f2.f1, .int .i64 k.x.f1.f2.f2, .int .i64 k.x.f1.f3, .slice k.A k.x.f2.length k.c] TN) := by rw [← hWd]; exact hcx
        have hSall : ∀ V, Below Wd.heap.size Wd V → V.cell? ⟨s3, 0, none⟩ = some (.slice A5 pre.length c5) ∧ V.cell? ⟨Bx, 0, none⟩ = some (.int .u8 k.x.f0) ∧ V.cell? ⟨Bx, 1, none⟩ = some (.int .u8 k.x.f1.f0) ∧ V.cell? ⟨Bx, 2, none⟩ = some (.string k.x.f1.f1) ∧ V.cell? ⟨Bx, 3, none⟩ = some (.int .i64 k.x.f1.f2.f0) ∧ V.cell? ⟨Bx, 4, none⟩ = some (.int .i64 k.x.f1.f2.f1) ∧ V.cell? ⟨Bx, 5, none⟩ = some (.int .i64 k.x.f1.f2.f2) ∧ V.cell? ⟨Bx, 6, none⟩ = some (.int .i64 k.x.f1.f3) ∧ V.cell? ⟨Bx, 7, none⟩ = some (.slice k.A k.x.f2.length k.c) := fun V hV => ⟨(hV.cell (p := ⟨s3, 0, none⟩) hbd.lt).trans hbd.cell, (hV.cell (p := ⟨Bx, 0, none⟩) (Array.getElem?_eq_some_iff.1 hcd).1).trans (cell_of_row _ _ _ _ _ _ hcd), (hV.cell (p := ⟨Bx, 1, none⟩) (Array.getElem?_eq_some_iff.1 hcd).1).trans (cell_of_row _ _ _ _ _ _ hcd), (hV.cell (p := ⟨Bx, 2, none⟩) (Array.getElem?_eq_some_iff.1 hcd).1).trans (cell_of_row _ _ _ _ _ _ hcd), (hV.cell (p := ⟨Bx, 3, none⟩) (Array.getElem?_eq_some_iff.1 hcd).1).trans (cell_of_row _ _ _ _ _ _ hcd), (hV.cell (p := ⟨Bx, 4, none⟩) (Array.getElem?_eq_some_iff.1 hcd).1).trans (cell_of_row _ _ _ _ _ _ hcd), (hV.cell (p := ⟨Bx, 5, none⟩) (Array.getElem?_eq_some_iff.1 hcd).1).trans (cell_of_row _ _ _ _ _ _ hcd), (hV.cell (p := ⟨Bx, 6, none⟩) (Array.getElem?_eq_some_iff.1 hcd).1).trans (cell_of_row _ _ _ _ _ _ hcd), (hV.cell (p := ⟨Bx, 7, none⟩) (Array.getElem?_eq_some_iff.1 hcd).1).trans (cell_of_row _ _ _ _ _ _ hcd)⟩
        have HSA := Lib.hid hSall
        have HS := Lib.hid (hSall Wd (Below.refl _ _))
        have HREL := Lib.hid hrel
        have HGD := Lib.hid hgd
        have HBD := Lib.hid hbd
        have HOD := Lib.hid hod
        have HWd := Lib.hid hWd
        have HQ8 : Hid ((pre.length + 1) * 88 ≤ 140737488355328) := Lib.hid (by omega)
        have HBA : Hid (W0.heap.size ≤ Wd.heap.size) := Lib.hid hgd.size
        clear hrel hgd hbd hod hcd hSall hg hu ho hcx hWd hloop
        refine wpIn_block ?_
        refine wp_region_RIn (fun w' => w'.cell? ⟨s3, 0, none⟩ = some (.slice A5 pre.length c5) ∧ w'.cell? ⟨Bx, 0, none⟩ = some (.int .u8 k.x.f0) ∧ w'.cell? ⟨Bx, 1, none⟩ = some (.int .u8 k.x.f1.f0) ∧ w'.cell? ⟨Bx, 2, none⟩ = some (.string k.x.f1.f1) ∧ w'.cell? ⟨Bx, 3, none⟩ = some (.int .i64 k.x.f1.f2.f0) ∧ w'.cell? ⟨Bx, 4, none⟩ = some (.int .i64 k.x.f1.f2.f1) ∧ w'.cell? ⟨Bx, 5, none⟩ = some (.int .i64 k.x.f1.f2.f2) ∧ w'.cell? ⟨Bx, 6, none⟩ = some (.int .i64 k.x.f1.f3) ∧ w'.cell? ⟨Bx, 7, none⟩ = some (.slice k.A k.x.f2.length k.c)) (fun j => Nat.ble j 3) (by kernel_rfl) (by kernel_rfl) ?_
        rw [HWd.out]
        refine anyR_take (i := 0) (oi := { dst := some 36, op := Go.Op.load 33 (Go.Operand.tmp 5), type := 33, pos := "tree.go:93", after := #[], guard := none }) (v := ?_) rfl (by kernel_rfl) (fun _ _ _ h => h) (Or.inl ⟨by rfl, ?_⟩) HS.out ?_
        rotate_left
        · intro w9 hSw; (try dsimp only at hSw); go_simp; try (with_reducible rfl)
        try simp only [Act.put, List.setIfInBounds_toArray, List.set_cons_zero, List.set_cons_succ]
        refine anyR_take (i := 1) (oi := { dst := some 37, op := Go.Op.load 35 (Go.Operand.tmp 6), type := 35, pos := "tree.go:93", after := #[], guard := none }) (v := ?_) rfl (by kernel_rfl) (fun _ _ _ h => h) (Or.inl ⟨by rfl, ?_⟩) HS.out ?_
        rotate_left
        · intro w9 hSw; (try dsimp only at hSw); go_simp; try (with_reducible rfl)
        try simp only [Act.put, List.setIfInBounds_toArray, List.set_cons_zero, List.set_cons_succ]
        refine anyR_take (i := 2) (oi := { dst := some 38, op := Go.Op.call { callee := Go.Callee.builtin Go.Builtin.len, args := #[Go.Operand.tmp 36], argTypes := #[33] }, type := 3, pos := "tree.go:93", after := #[{ on := 0, ground := Go.Ground.data }], guard := none }) (v := ?_) rfl (by kernel_rfl) (fun _ _ _ h => h) (Or.inl ⟨by rfl, ?_⟩) HS.out ?_
        rotate_left
        · intro w9 hSw; (try dsimp only at hSw); go_simp; try (with_reducible rfl)
        try simp only [Act.put, List.setIfInBounds_toArray, List.set_cons_zero, List.set_cons_succ]
        refine anyR_ready (rs := [3]) (by kernel_rfl) (by simp) ?_
        refine ReadyR.cons (o := { dst := some 39, op := Go.Op.buildSlice 33 1 #[(0, Go.Operand.const (Go.Value.agg #[Go.Value.int Go.IntKind.u8 0, Go.Value.int Go.IntKind.u8 0, Go.Value.string { data := #[] }, Go.Value.int Go.IntKind.i64 0, Go.Value.int Go.IntKind.i64 0, Go.Value.int Go.IntKind.i64 0, Go.Value.int Go.IntKind.i64 0, Go.Value.slice none 0 0]))], type := 33, pos := "tree.go:93", after := #[], guard := none }) rfl (fun K hK => ?_) ReadyR.nil
        go_simp
        refine hK.out _ _ (fun _ => ?_) ?_
        · exact HSA.out _ ((Below.refl Wd.heap.size Wd).alloc (Nat.le_refl _) _)
        clear hK K
        try simp only [Act.put, List.setIfInBounds_toArray, List.set_cons_zero, List.set_cons_succ]
        refine anyR_ready (rs := [4]) (by kernel_rfl) (by simp) ?_
        refine ReadyR.cons (o := { dst := some 40, op := Go.Op.call { callee := Go.Callee.builtin Go.Builtin.append, args := #[Go.Operand.tmp 36, Go.Operand.tmp 39], argTypes := #[33, 33] }, type := 33, pos := "tree.go:93", after := #[{ on := 0, ground := Go.Ground.data }, { on := 3, ground := Go.Ground.data }, { on := 0, ground := Go.Ground.phase }, { on := 1, ground := Go.Ground.phase }, { on := 2, ground := Go.Ground.phase }, { on := 3, ground := Go.Ground.phase }], guard := none }) rfl (fun K hK => ?_) ReadyR.nil
        refine step_kid rfl (.tmp 36) (.tmp 39) rfl W0.heap.size (cs := zNd) rfl rfl HOD.out rfl zNd_one HBA.out HQ8.out ?_
        intro g1 c1 w1 ho hg hat
        refine hK.out _ _ (fun h => absurd h (by decide)) ?_
        clear hK K
        try simp only [Act.put, List.setIfInBounds_toArray, List.set_cons_zero, List.set_cons_succ]
        obtain ⟨⟨cur1, hh1, hf1⟩, ⟨cur4, hh4, hf4⟩, hb3, hb2, finA, finB⟩ := coll_push (k := k) (s3 := s3) (by have := HZ.out; omega) (by have := HZ.out; omega) HREL.out HGD.out HBD.out HOD.out hg ho
        have HH1 := Lib.hid hh1
        have HH4 := Lib.hid hh4
        have HH3 := Lib.hid hb3
        have HH2 := Lib.hid hb2
        have HF1 := Lib.hid hf1
        have HF4 := Lib.hid hf4
        have FA := Lib.hid finA
        have FB := Lib.hid finB
        clear hh1 hh4 hb3 hb2 hf1 hf4 finA finB ho hg hat
        have hqq : (pre.length : Int) < (pre.length : Int) + 1 := by omega
        refine anyR_take0 (i := 5) (oi := { dst := some 41, op := Go.Op.indexAddr 33 (Go.Operand.tmp 40) (Go.Operand.tmp 38), type := 0, pos := "tree.go:93", after := #[{ on := 4, ground := Go.Ground.data }, { on := 2, ground := Go.Ground.data }, { on := 0, ground := Go.Ground.phase }, { on := 1, ground := Go.Ground.phase }, { on := 2, ground := Go.Ground.phase }, { on := 3, ground := Go.Ground.phase }, { on := 4, ground := Go.Ground.phase }, { on := 7, ground := Go.Ground.gcOnly Go.Departure.appendInPlace }], guard := none }) (v := ?_) rfl (by kernel_rfl) (fun _ _ _ h => h) (Or.inl ⟨by rfl, ?_⟩) ?_
        rotate_left
        · intro w9; go_simp; try (with_reducible rfl)
        try simp only [Act.put, List.setIfInBounds_toArray, List.set_cons_zero, List.set_cons_succ]
        refine anyR_ready (rs := [6, 7]) (by kernel_rfl) (by simp) ?_
        refine ReadyR.cons (o := { dst := none, op := Go.Op.store 35 (Go.Operand.tmp 41) (Go.Operand.tmp 37), type := 0, pos := "tree.go:93", after := #[{ on := 5, ground := Go.Ground.data }, { on := 1, ground := Go.Ground.data }, { on := 4, ground := Go.Ground.chain }, { on := 0, ground := Go.Ground.phase }, { on := 1, ground := Go.Ground.phase }, { on := 2, ground := Go.Ground.phase }, { on := 3, ground := Go.Ground.phase }, { on := 4, ground := Go.Ground.phase }, { on := 7, ground := Go.Ground.gcOnly Go.Departure.appendInPlace }], guard := none }) rfl (fun K hK => ?_) (ReadyR.cons (o := { dst := none, op := Go.Op.store 33 (Go.Operand.tmp 5) (Go.Operand.tmp 40), type := 0, pos := "tree.go:93", after := #[{ on := 4, ground := Go.Ground.data }, { on := 4, ground := Go.Ground.chain }, { on := 6, ground := Go.Ground.textOnly Go.Departure.appendInPlace }, { on := 0, ground := Go.Ground.phase }, { on := 1, ground := Go.Ground.phase }, { on := 2, ground := Go.Ground.phase }, { on := 3, ground := Go.Ground.phase }, { on := 4, ground := Go.Ground.phase }, { on := 5, ground := Go.Ground.textOnly Go.Departure.appendInPlace }, { on := 6, ground := Go.Ground.textOnly Go.Departure.appendInPlace }], guard := none }) rfl (fun K hK => ?_) ReadyR.nil)
        · refine step_store rfl rfl 35 (.tmp 41) (.tmp 37) rfl _ (ndCells k.x.f0 k.x.f1 (.slice k.A k.x.f2.length k.c)) rfl rfl rfl infoNd8 (ndCells_one _ _ rfl) HH1.out HF1.out ?_
          refine hK.out _ _ (fun h => absurd h (by decide)) ?_
          clear hK K
          generalize w1.setCells g1 (pre.length * 8) (ndCells k.x.f0 k.x.f1 (.slice k.A k.x.f2.length k.c)) = w2x at HH2 FA ⊢
          refine anyR_ready (rs := [7]) (by kernel_rfl) (by simp) ?_
          refine ReadyR.cons (o := { dst := none, op := Go.Op.store 33 (Go.Operand.tmp 5) (Go.Operand.tmp 40), type := 0, pos := "tree.go:93", after := #[{ on := 4, ground := Go.Ground.data }, { on := 4, ground := Go.Ground.chain }, { on := 6, ground := Go.Ground.textOnly Go.Departure.appendInPlace }, { on := 0, ground := Go.Ground.phase }, { on := 1, ground := Go.Ground.phase }, { on := 2, ground := Go.Ground.phase }, { on := 3, ground := Go.Ground.phase }, { on := 4, ground := Go.Ground.phase }, { on := 5, ground := Go.Ground.textOnly Go.Departure.appendInPlace }, { on := 6, ground := Go.Ground.textOnly Go.Departure.appendInPlace }], guard := none }) rfl (fun K hK => ?_) ReadyR.nil
          refine step_store rfl rfl 33 (.tmp 5) (.tmp 40) rfl _ [.slice (some ⟨g1, 0, none⟩) (pre.length + 1) c1] rfl rfl rfl infoNdS (fun u hu => by rw [List.mem_singleton.1 hu]; rfl) HH2.out (Nat.le_refl 1) ?_
          refine hK.out _ _ (fun h => absurd h (by decide)) ?_
          clear hK K
          refine anyR_done (by kernel_rfl) ?_ _
          exact FA.out
        · refine step_store rfl rfl 33 (.tmp 5) (.tmp 40) rfl _ [.slice (some ⟨g1, 0, none⟩) (pre.length + 1) c1] rfl rfl rfl infoNdS (fun u hu => by rw [List.mem_singleton.1 hu]; rfl) HH3.out (Nat.le_refl 1) ?_
          refine hK.out _ _ (fun h => absurd h (by decide)) ?_
          clear hK K
          generalize w1.setCells s3 0 [.slice (some ⟨g1, 0, none⟩) (pre.length + 1) c1] = w2x at HH4 FB ⊢
          refine anyR_ready (rs := [6]) (by kernel_rfl) (by simp) ?_
          refine ReadyR.cons (o := { dst := none, op := Go.Op.store 35 (Go.Operand.tmp 41) (Go.Operand.tmp 37), type := 0, pos := "tree.go:93", after := #[{ on := 5, ground := Go.Ground.data }, { on := 1, ground := Go.Ground.data }, { on := 4, ground := Go.Ground.chain }, { on := 0, ground := Go.Ground.phase }, { on := 1, ground := Go.Ground.phase }, { on := 2, ground := Go.Ground.phase }, { on := 3, ground := Go.Ground.phase }, { on := 4, ground := Go.Ground.phase }, { on := 7, ground := Go.Ground.gcOnly Go.Departure.appendInPlace }], guard := none }) rfl (fun K hK => ?_) ReadyR.nil
          refine step_store rfl rfl 35 (.tmp 41) (.tmp 37) rfl _ (ndCells k.x.f0 k.x.f1 (.slice k.A k.x.f2.length k.c)) rfl rfl rfl infoNd8 (ndCells_one _ _ rfl) HH4.out HF4.out ?_
          refine hK.out _ _ (fun h => absurd h (by decide)) ?_
          clear hK K
          refine anyR_done (by kernel_rfl) ?_ _
          exact FB.out
      case done =>
        rintro D ys W hD hS ⟨hg, u, hu, ho⟩ hDef
        obtain ⟨A5, c5, rfl⟩ : ∃ A5 c5, u = .slice A5 ys.length c5 := by
          rcases ho.2 with ⟨rfl, h0⟩ | ⟨g, cap, cur, rfl, _⟩
          · exact ⟨none, 0, by rw [h0]⟩
          · exact ⟨_, cap, rfl⟩
        have hz := HZ.out
        have hn03 : some s0 ≠ some s3 := by simp; omega
        have hn23 : some s2 ≠ some s3 := by simp; omega
        have hxs : W.heap[s0]? = some (.cells #[.int .u8 y.f0, .int .u8 x.f1.f0, .string x.f1.f1, .int .i64 x.f1.f2.f0, .int .i64 x.f1.f2.f1, .int .i64 x.f1.f2.f2, .int .i64 x.f1.f3, .slice A x.f2.length c] TN) := (hg.block s0 (by omega) hn03).trans HG0.out
        have hb2 : Boxed W s2 4 (.bool false) := HG2.out.kept hg hn23
        have hBW : Below w.heap.size w W := HB0.out.grown hg HB0.out.size (fun j e => by cases e; omega)
        obtain ⟨W6, hW6⟩ : ∃ V, W.alloc (.cells #[.int .i64 0] 3) = V := ⟨_, rfl⟩
        obtain ⟨W7, hW7⟩ : ∃ V, W6.setCell ⟨W.heap.size, 0, none⟩ (.int .i64 0) = V := ⟨_, rfl⟩
        have b6 : Boxed W6 W.heap.size 3 (.int .i64 0) := by rw [← hW6]; exact Boxed.new _ _ _
        have c6 := b6.cell
        have f6 := b6.frozen
        have b7 : Boxed W7 W.heap.size 3 (.int .i64 0) := by rw [← hW7]; exact b6.set _
        have hg7 : W.grownBy W7 none := by
          rw [← hW7, ← hW6]
          exact ⟨rfl, rfl, rfl, by simp, fun k hk _ => (Below.heap_setCell _ _ _ k (by show k ≠ W.heap.size; omega)).trans (Below.heap_alloc W _ k hk)⟩
        have hz7 : W7.heap.size = W.heap.size + 1 := by rw [← hW7, ← hW6]; simp
        replace hxs : W7.heap[s0]? = some (.cells #[.int .u8 y.f0, .int .u8 x.f1.f0, .string x.f1.f1, .int .i64 x.f1.f2.f0, .int .i64 x.f1.f2.f1, .int .i64 x.f1.f2.f2, .int .i64 x.f1.f3, .slice A x.f2.length c] TN) := (hg7.block s0 (Array.getElem?_eq_some_iff.1 hxs).1 (by simp)).trans hxs
        replace ho := ho.kept hg7 (Classical.em _)
        replace hb2 := hb2.kept hg7 (by simp)
        obtain ⟨q0, q1, q2, q3, q4, q5, q6, q7⟩ : W7.cell? ⟨s0, 0, none⟩ = some (.int .u8 y.f0) ∧ W7.cell? ⟨s0, 1, none⟩ = some (.int .u8 x.f1.f0) ∧ W7.cell? ⟨s0, 2, none⟩ = some (.string x.f1.f1) ∧ W7.cell? ⟨s0, 3, none⟩ = some (.int .i64 x.f1.f2.f0) ∧ W7.cell? ⟨s0, 4, none⟩ = some (.int .i64 x.f1.f2.f1) ∧ W7.cell? ⟨s0, 5, none⟩ = some (.int .i64 x.f1.f2.f2) ∧ W7.cell? ⟨s0, 6, none⟩ = some (.int .i64 x.f1.f3) ∧ W7.cell? ⟨s0, 7, none⟩ = some (.slice A x.f2.length c) := ⟨cell_of_row _ _ _ _ _ _ hxs, cell_of_row _ _ _ _ _ _ hxs, cell_of_row _ _ _ _ _ _ hxs, cell_of_row _ _ _ _ _ _ hxs, cell_of_row _ _ _ _ _ _ hxs, cell_of_row _ _ _ _ _ _ hxs, cell_of_row _ _ _ _ _ _ hxs, cell_of_row _ _ _ _ _ _ hxs⟩
        have HG := Lib.hid hg
        have HU := Lib.hid hu
        have HO := Lib.hid ho
        have HD := Lib.hid (And.intro hD hDef)
        have HSS := Lib.hid hS
        have HBW := Lib.hid hBW
        have HB2 := Lib.hid hb2
        have HB7 := Lib.hid b7
        have HG7 := Lib.hid hg7
        have HZ7 := Lib.hid hz7
        clear b6 b7 hg7 hz7 hn03 hn23 hg hu ho hD hDef hS hz hxs hBW hb2 hb0 g3 hz0 hk7 hmy
        gi_wp2_with (refine ⟨trivial, ?_⟩; gi_at_call 28; refine (kids_in _ ⟨y.f0, x.f1, x.f2⟩ A x.f2.length c _).mono ?_; rintro e w' ⟨rfl, rfl⟩)
        clear q0 q1 q2 q3 q4 q5 q6 q7
        have hz7 := HZ7.out
        have b7 := HB7.out
        obtain ⟨s7, hs7⟩ : ∃ s, W.heap.size = s := ⟨_, rfl⟩
        obtain ⟨s8, hs8⟩ : ∃ s, W7.heap.size = s := ⟨_, rfl⟩
        rw [hs7] at b7
        rw [hs7, hs8] at hz7
        rw [HXV.out, hs7, hs8]
        obtain ⟨W1, hW1⟩ : ∃ V, W7.alloc (.cells #[.int .u8 y.f0, .int .u8 x.f1.f0, .string x.f1.f1, .int .i64 x.f1.f2.f0, .int .i64 x.f1.f2.f1, .int .i64 x.f1.f2.f2, .int .i64 x.f1.f3, .slice A x.f2.length c] TN) = V := ⟨_, rfl⟩
        have hz1 : W1.heap.size = s8 + 1 := by rw [← hW1, World.size_alloc, hs8]
        have hg71 : W7.grownBy W1 none := by rw [← hW1]; exact World.grownBy_alloc _ _ _
        have hk1 : W1.heap[s8]? = some (.cells #[.int .u8 y.f0, .int .u8 x.f1.f0, .string x.f1.f1, .int .i64 x.f1.f2.f0, .int .i64 x.f1.f2.f1, .int .i64 x.f1.f2.f2, .int .i64 x.f1.f3, .slice A x.f2.length c] TN) := by rw [← hW1, ← hs8]; exact World.alloc_heap_new _ _
        have hkc : W1.cell? ⟨s8, 7, none⟩ = some (.slice A x.f2.length c) := cell_of_row _ _ _ _ _ _ hk1
        have b71 := b7.kept hg71 (by simp)
        have b21 := HB2.out.kept hg71 (by simp)
        have b31 : Boxed W1 s3 33 (.slice A5 ys.length c5) := (HU.out.kept HG7.out (by simp)).kept hg71 (by simp)
        have ho1 := HO.out.kept hg71 (Classical.em _)
        have hB1 : Below w.heap.size w W1 := (HBW.out.grown HG7.out HBW.out.size (fun _ e => nomatch e)).grown hg71 (Nat.le_trans HBW.out.size HG7.out.size) (fun _ e => nomatch e)
        have hdl : D < W.heap.size := (Array.getElem?_eq_some_iff.1 HD.out.2).1
        have hd1 : W1.heap[D]? = some (.deferred (some [])) := (hg71.block D (Nat.lt_of_lt_of_le hdl HG7.out.size) (by simp)).trans ((HG7.out.block D hdl (by simp)).trans HD.out.2)
        have hlx : x.f2.length ≤ 1073741824 := by have := HMX.out; rw [nds_eq] at this; have := ndsL_len x.f2; omega
        have hmx : ndsL x.f2 ≤ nds x - 1 := by rw [nds_eq]; omega
        have hz := HZ.out
        have hgs := HG.out.size
        have hs37 : s3 < s7 := by omega
        rw [hW1]
        clear hW1 hg71 hk1
        have HZB := Lib.hid (And.intro hz7 (And.intro hz1 (And.intro hgs hs37)))
        have hs23 : s2 < W1.heap.size ∧ s3 < W1.heap.size ∧ s7 < W1.heap.size ∧ s2 ≠ s3 ∧ s3 ≠ s7 ∧ s2 ≠ s7 ∧ w.heap.size ≤ s2 ∧ w.heap.size ≤ s7 := by omega
        have hs8W : s8 < W1.heap.size := by omega
        have HNE := Lib.hid hs23
        clear hz7 hz1 hs37 hgs hz hs23
        refine wpIn_rangeFunc_ownH rfl (by decide) (gf := 36) (lb := #[.pointer (some ⟨s8, 0, none⟩)]) rfl trivial (enters_of Try.func36 (by kernel_rfl) rfl)
          (kids_stops 7 (by decide) w x A c HCX.out (nds x - 1) hmx W1 hB1 s8 hkc hs8W hlx) belowK_t (belowK_b hB1.size) (Below.refl _ _) (fun _ => rfl)
          (fun pre V => Rel2 W1 s2 s7 V ∧ Boxed V s2 4 (.bool false) ∧ Boxed V s7 3 (.int .i64 (pre.length : Nat)) ∧ okL (sameN k) (pre.map (·.x)) (ys.map (·.x)))
          (fun e pre V => e = .ret ∧ Rel2 W1 s2 s7 V ∧ Boxed V s2 4 (.bool false) ∧ ¬ okL (sameN k) (pre.map (·.x)) (ys.map (·.x)))
          (OwnFrom.and (rel2_own (Nat.le_refl _)) (OwnFrom.and (Own.from (boxed_own s2 _ (fun _ => .bool false)) _) (OwnFrom.and (Own.from (boxed_own s7 _ (fun pre : List (KV w (nds x - 1)) => .int .i64 (pre.length : Nat))) _) (ownFrom_pure _ _))))
          (fun e => OwnFrom.and (ownFrom_pure _ _) (OwnFrom.and (rel2_own (Nat.le_refl _)) (OwnFrom.and (Own.from (boxed_own s2 _ (fun _ => .bool false)) _) (ownFrom_pure _ _))))
          ⟨Rel2.refl _ _ _, b21, b71, okL_nil _ _⟩
          (fun q a' V => ∃ Bx, W1.heap.size ≤ Bx ∧ V.heap[Bx]? = some (.cells #[.int .u8 q.x.f0, .int .u8 q.x.f1.f0, .string q.x.f1.f1, .int .i64 q.x.f1.f2.f0, .int .i64 q.x.f1.f2.f1, .int .i64 q.x.f1.f2.f2, .int .i64 q.x.f1.f3, .slice q.A q.x.f2.length q.c] TN) ∧ a' = { tmps := #[XV, YV, .pointer (some ⟨s0, 0, none⟩), .pointer (some ⟨s1, 0, none⟩), .pointer (some ⟨s2, 0, none⟩), .pointer (some ⟨s3, 0, none⟩), undef, .pointer (some ⟨s7, 0, none⟩), .pointer (some ⟨Bx, 0, none⟩), .pointer (some ⟨s0, 0, none⟩), .int .u8 y.f0, .pointer (some ⟨s1, 0, none⟩), .int .u8 y.f0, .bool false, .pointer (some ⟨s0, 0, none⟩), .int .u8 y.f0, .bool false, undef, undef, undef, undef, undef, undef, undef, undef, undef, undef, undef, undef, undef, undef, undef, undef, YV, .func (.func 36) #[] #[.pointer (some ⟨s4, 0, none⟩)], undef, undef, undef, undef, undef, undef, undef, XV, .func (.func 36) #[] #[.pointer (some ⟨s8, 0, none⟩)], KV.val q, undef, undef, undef, undef, undef, undef, undef, undef, undef, undef, undef, undef, undef, undef, undef, undef, undef, undef, undef], defers := [] }) ?hAx2 ?assign2 ?body2 ?done2 ?stop2
        case hAx2 =>
          rintro q a' _ X Y row ⟨Bx, h1, h2, h3⟩ hg hr
          refine ⟨Bx, h1, (hg.block Bx (Array.getElem?_eq_some_iff.1 h2).1 fun e => ?_).trans h2, h3⟩
          obtain ⟨_, o, ho, hc⟩ := hr Bx e.symm
          rw [h2] at ho; cases ho; cases hc
        case assign2 =>
          rintro l pre q V K hI hK
          unfold KV.val
          gi_wp2
          exact hK _ _ ((KeepsOthers.alloc _ _).from _) ((Below.refl _ V).alloc (Nat.le_trans hB1.size hI.1.size) _) ⟨hI.1.grown (World.grownBy_alloc _ _ none) (fun _ e => nomatch e), hI.2.1.alloc _, hI.2.2.1.alloc _, hI.2.2.2⟩ ⟨V.heap.size, hI.1.size, World.alloc_heap_new _ _, rfl⟩
        case body2 =>
          rintro l pre q a' V hl hloop ⟨hR, v2, v7, hok⟩ ⟨Bx, hBx, hcx, rfl⟩ hlt
          have hne := HNE.out
          have v3 : Boxed V s3 33 (.slice A5 ys.length c5) := (hR.block s3 b31.lt (by omega) (by omega)).trans b31
          have hoV := hR.row ho1 b21 (by decide) b71 (by decide)
          have hbv := hR.below hB1 (by omega) (by omega)
          obtain ⟨Vd, hVd⟩ : ∃ U, V.drew = U := ⟨_, rfl⟩
          have hrd : Rel2 W1 s2 s7 Vd := by rw [← hVd]; exact ⟨hR.os, hR.tape, hR.output, hR.size, hR.block⟩
          have hkd : KeepsOthers V Vd := by rw [← hVd]; exact KeepsOthers.drew V
          have hbd : Below w.heap.size V Vd := by rw [← hVd]; exact (Below.refl _ V).drew
          have d2 : Boxed Vd s2 4 (.bool false) := by rw [← hVd]; exact v2
          have d7 : Boxed Vd s7 3 (.int .i64 (pre.length : Nat)) := by rw [← hVd]; exact v7
          have d3 : Boxed Vd s3 33 (.slice A5 ys.length c5) := by rw [← hVd]; exact v3
          have hod : Vd.ownsRow W0.heap.size TN 8 (.slice A5 ys.length c5) ys.length (kvCells ys) := by rw [← hVd]; exact hoV.drew
          have hcd : Vd.heap[Bx]? = some (.cells #[.int .u8 q.x.f0, .int .u8 q.x.f1.f0, .string q.x.f1.f1, .int .i64 q.x.f1.f2.f0, .int .i64 q.x.f1.f2.f1, .int .i64 q.x.f1.f2.f2, .int .i64 q.x.f1.f3, .slice q.A q.x.f2.length q.c] TN) := by rw [← hVd]; exact hcx
          have hub : pre.length ≤ 1073741824 := by omega
          have hok1 := hok.1
          rw [List.length_map, List.length_map] at hok1
          have HNE := Lib.hid hne
          have HOK := Lib.hid hok
          have HREL := Lib.hid (And.intro hrd (And.intro hkd hbd))
          have HD2 := Lib.hid d2
          have HD7 := Lib.hid d7
          have HD3 := Lib.hid d3
          have HOD := Lib.hid hod
          have HCD := Lib.hid hcd
          have HBVD := Lib.hid (hbv.trans hbd)
          have HVd := Lib.hid hVd
          clear hne hbv hR v2 v3 v7 hok hrd hkd hbd d2 d7 d3 hoV hcx hVd hloop hd1 hB1 b71 b21 b31 ho1 hkc hlx hmx hdl
          by_cases hi : pre.length < ys.length
          · obtain ⟨z, hz⟩ : ∃ z, ys[pre.length]? = some z := ⟨ys[pre.length], List.getElem?_eq_getElem hi⟩
            obtain ⟨g5, rfl⟩ : ∃ g5, A5 = some ⟨g5, 0, none⟩ := by
              rcases HOD.out.2 with ⟨he, h0⟩ | ⟨g, cap, cur, he, _⟩
              · omega
              · injection he with he; exact ⟨g, he⟩
            have hel : ∀ U, Below Vd.heap.size Vd U → ∀ (j : Nat) v, (ndCells z.x.f0 z.x.f1 (.slice z.A z.x.f2.length z.c))[j]? = some v → U.cell? ⟨g5, pre.length * 8 + j, none⟩ = some v := by
              intro U hU j v hj
              have hg5 : g5 < Vd.heap.size := own_lt HOD.out g5 rfl
              refine (hU.cell (p := ⟨g5, pre.length * 8 + j, none⟩) hg5).trans ?_
              have hj8 : j < 8 := (List.getElem?_eq_some_iff.1 hj).1
              rw [HOD.out.cellAt (pre.length * 8 + j) (by omega)]
              exact kv_at ys pre.length z hz j v hj
            have hSall : ∀ U, Below Vd.heap.size Vd U → U.cell? ⟨s7, 0, none⟩ = some (.int .i64 (pre.length : Nat)) ∧ U.cell? ⟨s3, 0, none⟩ = some (.slice (some ⟨g5, 0, none⟩) ys.length c5) ∧ U.cell? ⟨Bx, 0, none⟩ = some (.int .u8 q.x.f0) ∧ U.cell? ⟨Bx, 1, none⟩ = some (.int .u8 q.x.f1.f0) ∧ U.cell? ⟨Bx, 2, none⟩ = some (.string q.x.f1.f1) ∧ U.cell? ⟨Bx, 3, none⟩ = some (.int .i64 q.x.f1.f2.f0) ∧ U.cell? ⟨Bx, 4, none⟩ = some (.int .i64 q.x.f1.f2.f1) ∧ U.cell? ⟨Bx, 5, none⟩ = some (.int .i64 q.x.f1.f2.f2) ∧ U.cell? ⟨Bx, 6, none⟩ = some (.int .i64 q.x.f1.f3) ∧ U.cell? ⟨Bx, 7, none⟩ = some (.slice q.A q.x.f2.length q.c) ∧ U.cell? ⟨g5, pre.length * 8, none⟩ = some (.int .u8 z.x.f0) ∧ U.cell? ⟨g5, pre.length * 8 + 1, none⟩ = some (.int .u8 z.x.f1.f0) ∧ U.cell? ⟨g5, pre.length * 8 + 2, none⟩ = some (.string z.x.f1.f1) ∧ U.cell? ⟨g5, pre.length * 8 + 3, none⟩ = some (.int .i64 z.x.f1.f2.f0) ∧ U.cell? ⟨g5, pre.length * 8 + 4, none⟩ = some (.int .i64 z.x.f1.f2.f1) ∧ U.cell? ⟨g5, pre.length * 8 + 5, none⟩ = some (.int .i64 z.x.f1.f2.f2) ∧ U.cell? ⟨g5, pre.length * 8 + 6, none⟩ = some (.int .i64 z.x.f1.f3) ∧ U.cell? ⟨g5, pre.length * 8 + 7, none⟩ = some (.slice z.A z.x.f2.length z.c) := fun U hU => ⟨(hU.cell (p := ⟨s7, 0, none⟩) HD7.out.lt).trans HD7.out.cell, (hU.cell (p := ⟨s3, 0, none⟩) HD3.out.lt).trans HD3.out.cell, (hU.cell (p := ⟨Bx, 0, none⟩) (Array.getElem?_eq_some_iff.1 HCD.out).1).trans (cell_of_row _ _ _ _ _ _ HCD.out), (hU.cell (p := ⟨Bx, 1, none⟩) (Array.getElem?_eq_some_iff.1 HCD.out).1).trans (cell_of_row _ _ _ _ _ _ HCD.out), (hU.cell (p := ⟨Bx, 2, none⟩) (Array.getElem?_eq_some_iff.1 HCD.out).1).trans (cell_of_row _ _ _ _ _ _ HCD.out), (hU.cell (p := ⟨Bx, 3, none⟩) (Array.getElem?_eq_some_iff.1 HCD.out).1).trans (cell_of_row _ _ _ _ _ _ HCD.out), (hU.cell (p := ⟨Bx, 4, none⟩) (Array.getElem?_eq_some_iff.1 HCD.out).1).trans (cell_of_row _ _ _ _ _ _ HCD.out), (hU.cell (p := ⟨Bx, 5, none⟩) (Array.getElem?_eq_some_iff.1 HCD.out).1).trans (cell_of_row _ _ _ _ _ _ HCD.out), (hU.cell (p := ⟨Bx, 6, none⟩) (Array.getElem?_eq_some_iff.1 HCD.out).1).trans (cell_of_row _ _ _ _ _ _ HCD.out), (hU.cell (p := ⟨Bx, 7, none⟩) (Array.getElem?_eq_some_iff.1 HCD.out).1).trans (cell_of_row _ _ _ _ _ _ HCD.out), hel U hU 0 _ rfl, hel U hU 1 _ rfl, hel U hU 2 _ rfl, hel U hU 3 _ rfl, hel U hU 4 _ rfl, hel U hU 5 _ rfl, hel U hU 6 _ rfl, hel U hU 7 _ rfl⟩
            have HSA := Lib.hid hSall
            have HS := Lib.hid (hSall Vd (Below.refl _ _))
            have HI := Lib.hid hi
            have HZI := Lib.hid hz
            have dn : ((pre.length : Int) == (ys.length : Int)) = false := by rw [beq_cast]; exact beq_eq_false_iff_ne.2 (by omega)
            have hpi : (pre.length : Int) < (ys.length : Int) := by omega
            clear hel hSall hi hz
            refine wpIn_block ?_
            refine wpIn_seq ?_
            refine wpIn_seq ?_
            refine wp_region_RIn (fun w' => w'.cell? ⟨s7, 0, none⟩ = some (.int .i64 (pre.length : Nat)) ∧ w'.cell? ⟨s3, 0, none⟩ = some (.slice (some ⟨g5, 0, none⟩) ys.length c5) ∧ w'.cell? ⟨Bx, 0, none⟩ = some (.int .u8 q.x.f0) ∧ w'.cell? ⟨Bx, 1, none⟩ = some (.int .u8 q.x.f1.f0) ∧ w'.cell? ⟨Bx, 2, none⟩ = some (.string q.x.f1.f1) ∧ w'.cell? ⟨Bx, 3, none⟩ = some (.int .i64 q.x.f1.f2.f0) ∧ w'.cell? ⟨Bx, 4, none⟩ = some (.int .i64 q.x.f1.f2.f1) ∧ w'.cell? ⟨Bx, 5, none⟩ = some (.int .i64 q.x.f1.f2.f2) ∧ w'.cell? ⟨Bx, 6, none⟩ = some (.int .i64 q.x.f1.f3) ∧ w'.cell? ⟨Bx, 7, none⟩ = some (.slice q.A q.x.f2.length q.c) ∧ w'.cell? ⟨g5, pre.length * 8, none⟩ = some (.int .u8 z.x.f0) ∧ w'.cell? ⟨g5, pre.length * 8 + 1, none⟩ = some (.int .u8 z.x.f1.f0) ∧ w'.cell? ⟨g5, pre.length * 8 + 2, none⟩ = some (.string z.x.f1.f1) ∧ w'.cell? ⟨g5, pre.length * 8 + 3, none⟩ = some (.int .i64 z.x.f1.f2.f0) ∧ w'.cell? ⟨g5, pre.length * 8 + 4, none⟩ = some (.int .i64 z.x.f1.f2.f1) ∧ w'.cell? ⟨g5, pre.length * 8 + 5, none⟩ = some (.int .i64 z.x.f1.f2.f2) ∧ w'.cell? ⟨g5, pre.length * 8 + 6, none⟩ = some (.int .i64 z.x.f1.f3) ∧ w'.cell? ⟨g5, pre.length * 8 + 7, none⟩ = some (.slice z.A z.x.f2.length z.c)) (fun _ => true) (by kernel_rfl) (by kernel_rfl) ?_
            rw [HVd.out]
            refine anyR_take (i := 0) (oi := { dst := some 45, op := Go.Op.load 3 (Go.Operand.tmp 7), type := 3, pos := "tree.go:97", after := #[], guard := none }) (v := ?_) rfl (by kernel_rfl) (fun _ _ _ h => h) (Or.inl ⟨by rfl, ?_⟩) HS.out ?_
            rotate_left
            · intro w9 hSw; (try dsimp only at hSw); go_simp; try (with_reducible rfl)
            try simp only [Act.put, List.setIfInBounds_toArray, List.set_cons_zero, List.set_cons_succ]
            refine anyR_take (i := 1) (oi := { dst := some 46, op := Go.Op.load 33 (Go.Operand.tmp 5), type := 33, pos := "tree.go:97", after := #[], guard := none }) (v := ?_) rfl (by kernel_rfl) (fun _ _ _ h => h) (Or.inl ⟨by rfl, ?_⟩) HS.out ?_
            rotate_left
            · intro w9 hSw; (try dsimp only at hSw); go_simp; try (with_reducible rfl)
            try simp only [Act.put, List.setIfInBounds_toArray, List.set_cons_zero, List.set_cons_succ]
            refine anyR_take (i := 2) (oi := { dst := some 47, op := Go.Op.call { callee := Go.Callee.builtin Go.Builtin.len, args := #[Go.Operand.tmp 46], argTypes := #[33] }, type := 3, pos := "tree.go:97", after := #[{ on := 1, ground := Go.Ground.data }], guard := none }) (v := ?_) rfl (by kernel_rfl) (fun _ _ _ h => h) (Or.inl ⟨by rfl, ?_⟩) HS.out ?_
            rotate_left
            · intro w9 hSw; (try dsimp only at hSw); go_simp; try (with_reducible rfl)
            try simp only [Act.put, List.setIfInBounds_toArray, List.set_cons_zero, List.set_cons_succ]
            refine anyR_take (i := 3) (oi := { dst := some 48, op := Go.Op.binOp Go.BinOp.eql 3 (Go.Operand.tmp 45) (Go.Operand.tmp 47) 3, type := 4, pos := "tree.go:97", after := #[{ on := 0, ground := Go.Ground.data }, { on := 2, ground := Go.Ground.data }], guard := none }) (v := ?_) rfl (by kernel_rfl) (fun _ _ _ h => h) (Or.inl ⟨by rfl, ?_⟩) HS.out ?_
            rotate_left
            · intro w9 hSw; (try dsimp only at hSw); go_simp; try (with_reducible rfl)
            try simp only [Act.put, List.setIfInBounds_toArray, List.set_cons_zero, List.set_cons_succ]
            refine anyR_take (i := 4) (oi := { dst := some 49, op := Go.Op.move (Go.Operand.tmp 48), type := 4, pos := "tree.go:97", after := #[{ on := 3, ground := Go.Ground.data }], guard := none }) (v := ?_) rfl (by kernel_rfl) (fun _ _ _ h => h) (Or.inl ⟨by rfl, ?_⟩) HS.out ?_
            rotate_left
            · intro w9 hSw; (try dsimp only at hSw); go_simp; try (with_reducible rfl)
            try simp only [Act.put, List.setIfInBounds_toArray, List.set_cons_zero, List.set_cons_succ]
            refine anyR_take (i := 5) (oi := { dst := some 50, op := Go.Op.load 35 (Go.Operand.tmp 8), type := 35, pos := "tree.go:97", after := #[{ on := 4, ground := Go.Ground.guard }], guard := some (4, false) }) (v := ?_) rfl (by kernel_rfl) (fun _ _ _ h => h) (Or.inl ⟨by rfl, ?_⟩) HS.out ?_
            rotate_left
            · intro w9 hSw; (try dsimp only at hSw); go_simp; try (with_reducible rfl)
            try simp only [Act.put, List.setIfInBounds_toArray, List.set_cons_zero, List.set_cons_succ]
            refine anyR_take (i := 6) (oi := { dst := some 51, op := Go.Op.load 33 (Go.Operand.tmp 5), type := 33, pos := "tree.go:97", after := #[{ on := 4, ground := Go.Ground.guard }], guard := some (4, false) }) (v := ?_) rfl (by kernel_rfl) (fun _ _ _ h => h) (Or.inl ⟨by rfl, ?_⟩) HS.out ?_
            rotate_left
            · intro w9 hSw; (try dsimp only at hSw); go_simp; try (with_reducible rfl)
            try simp only [Act.put, List.setIfInBounds_toArray, List.set_cons_zero, List.set_cons_succ]
            refine anyR_take (i := 7) (oi := { dst := some 52, op := Go.Op.load 3 (Go.Operand.tmp 7), type := 3, pos := "tree.go:97", after := #[{ on := 4, ground := Go.Ground.guard }], guard := some (4, false) }) (v := ?_) rfl (by kernel_rfl) (fun _ _ _ h => h) (Or.inl ⟨by rfl, ?_⟩) HS.out ?_
            rotate_left
            · intro w9 hSw; (try dsimp only at hSw); go_simp; try (with_reducible rfl)
            try simp only [Act.put, List.setIfInBounds_toArray, List.set_cons_zero, List.set_cons_succ]
            refine anyR_take (i := 8) (oi := { dst := some 53, op := Go.Op.indexAddr 33 (Go.Operand.tmp 51) (Go.Operand.tmp 52), type := 0, pos := "tree.go:97", after := #[{ on := 6, ground := Go.Ground.data }, { on := 7, ground := Go.Ground.data }, { on := 4, ground := Go.Ground.guard }], guard := some (4, false) }) (v := ?_) rfl (by kernel_rfl) (fun _ _ _ h => h) (Or.inl ⟨by rfl, ?_⟩) HS.out ?_
            rotate_left
            · intro w9 hSw; (try dsimp only at hSw); go_simp; try (with_reducible rfl)
            try simp only [Act.put, List.setIfInBounds_toArray, List.set_cons_zero, List.set_cons_succ]
            refine anyR_take (i := 9) (oi := { dst := some 54, op := Go.Op.load 35 (Go.Operand.tmp 53), type := 35, pos := "tree.go:97", after := #[{ on := 8, ground := Go.Ground.data }, { on := 4, ground := Go.Ground.guard }], guard := some (4, false) }) (v := ?_) rfl (by kernel_rfl) (fun _ _ _ h => h) (Or.inl ⟨by rfl, ?_⟩) HS.out ?_
            rotate_left
            · intro w9 hSw; (try dsimp only at hSw); go_simp; try (with_reducible rfl)
            try simp only [Act.put, List.setIfInBounds_toArray, List.set_cons_zero, List.set_cons_succ]
            refine anyR_ready (rs := [10]) (by kernel_rfl) (by simp) ?_
            refine ReadyR.cons (o := { dst := some 55, op := Go.Op.call { callee := Go.Callee.value (Go.Operand.func 17), args := #[Go.Operand.tmp 50, Go.Operand.tmp 54], argTypes := #[35, 35] }, type := 4, pos := "tree.go:97", after := #[{ on := 5, ground := Go.Ground.data }, { on := 9, ground := Go.Ground.data }, { on := 4, ground := Go.Ground.chain }, { on := 4, ground := Go.Ground.guard }], guard := some (4, false) }) rfl (fun K hK => ?_) ReadyR.nil
            go_simp
            refine (IH.out Vd q.x z.x q.A z.A q.c z.c (by have := q.hm; have := HNX.out; omega) q.hc z.hc (Kd.C_below q.hC HBVD.out) (Kd.C_below z.hC HBVD.out) (by have := q.hm; have := HMX.out; omega) (by have := z.hm; have := HMY.out; omega)).mono ?_
            rintro e w2 ⟨rfl, hb2⟩
            refine hK.out _ _ (fun _ => HSA.out w2 hb2) ?_
            clear hK K
            try simp only [Act.put, List.setIfInBounds_toArray, List.set_cons_zero, List.set_cons_succ]
            have HS2 := Lib.hid (HSA.out w2 hb2)
            have hgw := grown_of_below hb2 none
            have e7 := HD7.out.kept hgw (by simp)
            have e2 := HD2.out.kept hgw (by simp)
            have hrw := HREL.out.1.grown hgw (fun _ e => nomatch e)
            have hkw : KeepsOthers V w2 := HREL.out.2.1.trans (KeepsOthers.of_grownBy hgw (fun _ _ e => nomatch e))
            have hbw : Below w.heap.size V w2 := HREL.out.2.2.trans (hb2.mono HBVD.out.size)
            have c7 := e7.cell
            have f7 := e7.frozen
            have c2 := e2.cell
            have f2 := e2.frozen
            have HE := Lib.hid (And.intro e7 (And.intro e2 (And.intro hrw (And.intro hkw hbw))))
            clear hb2 hgw e7 e2 hrw hkw hbw
            have hsn : okL (sameN k) ((pre ++ [q]).map (·.x)) (ys.map (·.x)) ↔ sameN k q.x z.x = true := by
              rw [List.map_append]
              exact okL_snoc HOK.out (by rw [List.getElem?_map, List.length_map, HZI.out]; rfl)
            have HSN := Lib.hid hsn
            clear hsn
            cases hsz : sameN k q.x z.x with
            | true =>
              refine anyR_take (i := 11) (oi := { dst := some 56, op := Go.Op.unOp Go.UnOp.not 4 (Go.Operand.tmp 55), type := 4, pos := "tree.go:97", after := #[{ on := 10, ground := Go.Ground.data }, { on := 4, ground := Go.Ground.guard }], guard := some (4, false) }) (v := ?_) rfl (by kernel_rfl) (fun _ _ _ h => h) (Or.inl ⟨by rfl, ?_⟩) HS2.out ?_
              rotate_left
              · intro w9 hSw; (try dsimp only at hSw); go_simp; try (with_reducible rfl)
              try simp only [Act.put, List.setIfInBounds_toArray, List.set_cons_zero, List.set_cons_succ]
              refine anyR_take (i := 12) (oi := { dst := some 57, op := Go.Op.pick (Go.Operand.tmp 49) (Go.Operand.const (Go.Value.bool true)) (Go.Operand.tmp 56), type := 4, pos := "tree.go:97", after := #[{ on := 4, ground := Go.Ground.data }, { on := 11, ground := Go.Ground.data }], guard := none }) (v := ?_) rfl (by kernel_rfl) (fun _ _ _ h => h) (Or.inl ⟨by rfl, ?_⟩) HS2.out ?_
              rotate_left
              · intro w9 hSw; (try dsimp only at hSw); go_simp; try (with_reducible rfl)
              try simp only [Act.put, List.setIfInBounds_toArray, List.set_cons_zero, List.set_cons_succ]
              refine anyR_done (by kernel_rfl) ?_ _
              simp only [Exit.then]
              gi_wp2
              have hl' : (((pre ++ [q]).length : Nat) : Int) = (pre.length : Int) + 1 := by simp
              obtain ⟨e7, e2, hrw, hkw, hbw⟩ := HE.out
              have hne := HNE.out
              refine ⟨(hkw.trans (KeepsOthers.setCell _ _ _)).from _, hbw.setCell (p := ⟨s7, 0, none⟩) hne.2.2.2.2.2.2.2 _, hrw.grown (grownBy_setCell' w2 s7 _) (fun j e => by cases e; exact .inr (.inl rfl)), e2.other hne.2.2.2.2.2.1 _, ?_, HSN.out.2 hsz⟩
              rw [hl']
              exact e7.set _
            | false =>
              refine anyR_take (i := 11) (oi := { dst := some 56, op := Go.Op.unOp Go.UnOp.not 4 (Go.Operand.tmp 55), type := 4, pos := "tree.go:97", after := #[{ on := 10, ground := Go.Ground.data }, { on := 4, ground := Go.Ground.guard }], guard := some (4, false) }) (v := ?_) rfl (by kernel_rfl) (fun _ _ _ h => h) (Or.inl ⟨by rfl, ?_⟩) HS2.out ?_
              rotate_left
              · intro w9 hSw; (try dsimp only at hSw); go_simp; try (with_reducible rfl)
              try simp only [Act.put, List.setIfInBounds_toArray, List.set_cons_zero, List.set_cons_succ]
              refine anyR_take (i := 12) (oi := { dst := some 57, op := Go.Op.pick (Go.Operand.tmp 49) (Go.Operand.const (Go.Value.bool true)) (Go.Operand.tmp 56), type := 4, pos := "tree.go:97", after := #[{ on := 4, ground := Go.Ground.data }, { on := 11, ground := Go.Ground.data }], guard := none }) (v := ?_) rfl (by kernel_rfl) (fun _ _ _ h => h) (Or.inl ⟨by rfl, ?_⟩) HS2.out ?_
              rotate_left
              · intro w9 hSw; (try dsimp only at hSw); go_simp; try (with_reducible rfl)
              try simp only [Act.put, List.setIfInBounds_toArray, List.set_cons_zero, List.set_cons_succ]
              refine anyR_done (by kernel_rfl) ?_ _
              simp only [Exit.then]
              gi_wp2
              obtain ⟨e7, e2, hrw, hkw, hbw⟩ := HE.out
              exact ⟨(hkw.trans (KeepsOthers.setCell _ _ _)).from _, rfl, hrw.grown (grownBy_setCell' w2 s2 _) (fun j e => by cases e; exact .inl rfl), e2.set _, fun h => by rw [HSN.out.1 h] at hsz; cases hsz⟩
          · have hpe : pre.length = ys.length := by omega
            have dn : ((pre.length : Int) == (ys.length : Int)) = true := by rw [hpe]; exact beq_self_eq_true _
            have HS : Hid (Vd.cell? ⟨s7, 0, none⟩ = some (.int .i64 (pre.length : Nat)) ∧ Vd.cell? ⟨s3, 0, none⟩ = some (.slice A5 ys.length c5)) := Lib.hid ⟨HD7.out.cell, HD3.out.cell⟩
            have HPE := Lib.hid hpe
            have c2 := HD2.out.cell
            have f2 := HD2.out.frozen
            clear hpe hi
            refine wpIn_block ?_
            refine wpIn_seq ?_
            refine wpIn_seq ?_
            refine wp_region_RIn (fun w' => w'.cell? ⟨s7, 0, none⟩ = some (.int .i64 (pre.length : Nat)) ∧ w'.cell? ⟨s3, 0, none⟩ = some (.slice A5 ys.length c5)) (fun _ => true) (by kernel_rfl) (by kernel_rfl) ?_
            rw [HVd.out]
            refine anyR_take (i := 0) (oi := { dst := some 45, op := Go.Op.load 3 (Go.Operand.tmp 7), type := 3, pos := "tree.go:97", after := #[], guard := none }) (v := ?_) rfl (by kernel_rfl) (fun _ _ _ h => h) (Or.inl ⟨by rfl, ?_⟩) HS.out ?_
            rotate_left
            · intro w9 hSw; (try dsimp only at hSw); go_simp; try (with_reducible rfl)
            try simp only [Act.put, List.setIfInBounds_toArray, List.set_cons_zero, List.set_cons_succ]
            refine anyR_take (i := 1) (oi := { dst := some 46, op := Go.Op.load 33 (Go.Operand.tmp 5), type := 33, pos := "tree.go:97", after := #[], guard := none }) (v := ?_) rfl (by kernel_rfl) (fun _ _ _ h => h) (Or.inl ⟨by rfl, ?_⟩) HS.out ?_
            rotate_left
            · intro w9 hSw; (try dsimp only at hSw); go_simp; try (with_reducible rfl)
            try simp only [Act.put, List.setIfInBounds_toArray, List.set_cons_zero, List.set_cons_succ]
            refine anyR_take (i := 2) (oi := { dst := some 47, op := Go.Op.call { callee := Go.Callee.builtin Go.Builtin.len, args := #[Go.Operand.tmp 46], argTypes := #[33] }, type := 3, pos := "tree.go:97", after := #[{ on := 1, ground := Go.Ground.data }], guard := none }) (v := ?_) rfl (by kernel_rfl) (fun _ _ _ h => h) (Or.inl ⟨by rfl, ?_⟩) HS.out ?_
            rotate_left
            · intro w9 hSw; (try dsimp only at hSw); go_simp; try (with_reducible rfl)
            try simp only [Act.put, List.setIfInBounds_toArray, List.set_cons_zero, List.set_cons_succ]
            refine anyR_take (i := 3) (oi := { dst := some 48, op := Go.Op.binOp Go.BinOp.eql 3 (Go.Operand.tmp 45) (Go.Operand.tmp 47) 3, type := 4, pos := "tree.go:97", after := #[{ on := 0, ground := Go.Ground.data }, { on := 2, ground := Go.Ground.data }], guard := none }) (v := ?_) rfl (by kernel_rfl) (fun _ _ _ h => h) (Or.inl ⟨by rfl, ?_⟩) HS.out ?_
            rotate_left
            · intro w9 hSw; (try dsimp only at hSw); go_simp; try (with_reducible rfl)
            try simp only [Act.put, List.setIfInBounds_toArray, List.set_cons_zero, List.set_cons_succ]
            refine anyR_take (i := 4) (oi := { dst := some 49, op := Go.Op.move (Go.Operand.tmp 48), type := 4, pos := "tree.go:97", after := #[{ on := 3, ground := Go.Ground.data }], guard := none }) (v := ?_) rfl (by kernel_rfl) (fun _ _ _ h => h) (Or.inl ⟨by rfl, ?_⟩) HS.out ?_
            rotate_left
            · intro w9 hSw; (try dsimp only at hSw); go_simp; try (with_reducible rfl)
            try simp only [Act.put, List.setIfInBounds_toArray, List.set_cons_zero, List.set_cons_succ]
            refine anyR_take (i := 5) (oi := { dst := some 50, op := Go.Op.load 35 (Go.Operand.tmp 8), type := 35, pos := "tree.go:97", after := #[{ on := 4, ground := Go.Ground.guard }], guard := some (4, false) }) (v := undef) rfl (by kernel_rfl) (fun _ _ _ h => h) (Or.inr ⟨by rfl, rfl⟩) HS.out ?_
            try simp only [Act.put, List.setIfInBounds_toArray, List.set_cons_zero, List.set_cons_succ]
            refine anyR_take (i := 6) (oi := { dst := some 51, op := Go.Op.load 33 (Go.Operand.tmp 5), type := 33, pos := "tree.go:97", after := #[{ on := 4, ground := Go.Ground.guard }], guard := some (4, false) }) (v := undef) rfl (by kernel_rfl) (fun _ _ _ h => h) (Or.inr ⟨by rfl, rfl⟩) HS.out ?_
            try simp only [Act.put, List.setIfInBounds_toArray, List.set_cons_zero, List.set_cons_succ]
            refine anyR_take (i := 7) (oi := { dst := some 52, op := Go.Op.load 3 (Go.Operand.tmp 7), type := 3, pos := "tree.go:97", after := #[{ on := 4, ground := Go.Ground.guard }], guard := some (4, false) }) (v := undef) rfl (by kernel_rfl) (fun _ _ _ h => h) (Or.inr ⟨by rfl, rfl⟩) HS.out ?_
            try simp only [Act.put, List.setIfInBounds_toArray, List.set_cons_zero, List.set_cons_succ]
            refine anyR_take (i := 8) (oi := { dst := some 53, op := Go.Op.indexAddr 33 (Go.Operand.tmp 51) (Go.Operand.tmp 52), type := 0, pos := "tree.go:97", after := #[{ on := 6, ground := Go.Ground.data }, { on := 7, ground := Go.Ground.data }, { on := 4, ground := Go.Ground.guard }], guard := some (4, false) }) (v := undef) rfl (by kernel_rfl) (fun _ _ _ h => h) (Or.inr ⟨by rfl, rfl⟩) HS.out ?_
            try simp only [Act.put, List.setIfInBounds_toArray, List.set_cons_zero, List.set_cons_succ]
            refine anyR_take (i := 9) (oi := { dst := some 54, op := Go.Op.load 35 (Go.Operand.tmp 53), type := 35, pos := "tree.go:97", after := #[{ on := 8, ground := Go.Ground.data }, { on := 4, ground := Go.Ground.guard }], guard := some (4, false) }) (v := undef) rfl (by kernel_rfl) (fun _ _ _ h => h) (Or.inr ⟨by rfl, rfl⟩) HS.out ?_
            try simp only [Act.put, List.setIfInBounds_toArray, List.set_cons_zero, List.set_cons_succ]
            refine anyR_take (i := 10) (oi := { dst := some 55, op := Go.Op.call { callee := Go.Callee.value (Go.Operand.func 17), args := #[Go.Operand.tmp 50, Go.Operand.tmp 54], argTypes := #[35, 35] }, type := 4, pos := "tree.go:97", after := #[{ on := 5, ground := Go.Ground.data }, { on := 9, ground := Go.Ground.data }, { on := 4, ground := Go.Ground.chain }, { on := 4, ground := Go.Ground.guard }], guard := some (4, false) }) (v := undef) rfl (by kernel_rfl) (fun _ _ _ h => h) (Or.inr ⟨by rfl, rfl⟩) HS.out ?_
            try simp only [Act.put, List.setIfInBounds_toArray, List.set_cons_zero, List.set_cons_succ]
            refine anyR_take (i := 11) (oi := { dst := some 56, op := Go.Op.unOp Go.UnOp.not 4 (Go.Operand.tmp 55), type := 4, pos := "tree.go:97", after := #[{ on := 10, ground := Go.Ground.data }, { on := 4, ground := Go.Ground.guard }], guard := some (4, false) }) (v := undef) rfl (by kernel_rfl) (fun _ _ _ h => h) (Or.inr ⟨by rfl, rfl⟩) HS.out ?_
            try simp only [Act.put, List.setIfInBounds_toArray, List.set_cons_zero, List.set_cons_succ]
            refine anyR_take (i := 12) (oi := { dst := some 57, op := Go.Op.pick (Go.Operand.tmp 49) (Go.Operand.const (Go.Value.bool true)) (Go.Operand.tmp 56), type := 4, pos := "tree.go:97", after := #[{ on := 4, ground := Go.Ground.data }, { on := 11, ground := Go.Ground.data }], guard := none }) (v := ?_) rfl (by kernel_rfl) (fun _ _ _ h => h) (Or.inl ⟨by rfl, ?_⟩) HS.out ?_
            rotate_left
            · intro w9 hSw; (try dsimp only at hSw); go_simp; try (with_reducible rfl)
            try simp only [Act.put, List.setIfInBounds_toArray, List.set_cons_zero, List.set_cons_succ]
            refine anyR_done (by kernel_rfl) ?_ _
            simp only [Exit.then]
            gi_wp2
            obtain ⟨hrd, hkd, hbd⟩ := HREL.out
            refine ⟨(hkd.trans (KeepsOthers.setCell _ _ _)).from _, rfl, hrd.grown (grownBy_setCell' Vd s2 _) (fun j e => by cases e; exact .inl rfl), HD2.out.set _, ?_⟩
            rw [List.map_append]
            exact okL_long (Nat.le_of_eq (by rw [List.length_map, List.length_map, HPE.out]))
        case done2 =>
          rintro D2 zs V hD2 hzs ⟨hR, v2, v7, hok⟩ hDef2
          have hne := HNE.out
          have v3 : Boxed V s3 33 (.slice A5 ys.length c5) := (hR.block s3 b31.lt (by omega) (by omega)).trans b31
          have hvD : V.heap[D]? = some (.deferred (some [])) := (hR.block D (Array.getElem?_eq_some_iff.1 hd1).1 (fun e => by rw [e, show W1.heap[s2]? = _ from b21] at hd1; cases hd1) (fun e => by rw [e, show W1.heap[s7]? = _ from b71] at hd1; cases hd1)).trans hd1
          have hDD : D ≠ D2 := by have := (Array.getElem?_eq_some_iff.1 hd1).1; omega
          have c7 := v7.cell
          have c3 := v3.cell
          have c2 := v2.cell
          have f2 := v2.frozen
          have hbv := hR.below hB1 (by omega) (by omega)
          have hres := okL_all hok
          rw [hzs, HSS.out] at hres
          have hl1 : zs.length = (plainL x.f2).length := by rw [← hzs, List.length_map]
          have hl2 : ys.length = (plainL y.f2).length := by rw [← HSS.out, List.length_map]
          have g2 := grownBy_setCell' V s2 (.bool ((zs.length : Int) == (ys.length : Int)))
          have w2 := v2.set (.bool ((zs.length : Int) == (ys.length : Int)))
          have hn2 : D2 ≠ s2 := fun e => by rw [e, show V.heap[s2]? = _ from v2] at hDef2; cases hDef2
          have hn1 : D ≠ s2 := fun e => by rw [e, show V.heap[s2]? = _ from v2] at hvD; cases hvD
          have hD2w : (V.setCell ⟨s2, 0, none⟩ (.bool ((zs.length : Int) == (ys.length : Int)))).heap[D2]? = some (.deferred (some [])) := (g2.block D2 (Array.getElem?_eq_some_iff.1 hDef2).1 (by simpa using hn2)).trans hDef2
          have hDw : (V.setCell ⟨s2, 0, none⟩ (.bool ((zs.length : Int) == (ys.length : Int)))).heap[D]? = some (.deferred (some [])) := (g2.block D (Array.getElem?_eq_some_iff.1 hvD).1 (by simpa using hn1)).trans hvD
          have HW2 := Lib.hid w2
          have HD2w := Lib.hid hD2w
          have HDw := Lib.hid hDw
          have HDD := Lib.hid hDD
          have HBV := Lib.hid hbv
          have HRES := Lib.hid hres
          have HL := Lib.hid (And.intro hl1 hl2)
          have HDG := Lib.hid (And.intro hD2 HD.out.1)
          clear hn1 hn2 w2 hD2w hDw hDD hbv hres hl1 hl2 g2 hvD hne v2 v3 v7 hR hok hD2 hDef2 hd1 hzs hB1 b71 b21 b31 ho1 hkc hlx hmx hdl
          gi_wp2
          refine same_leave (b := ((zs.length : Int) == (ys.length : Int))) rfl rfl HD2w.out HDw.out HDD.out HW2.out ⟨?_, ?_⟩
          · rw [HRES.out, ← HL.out.1, ← HL.out.2, beq_cast]
          · have h0 := HZ.out
            have h1 := HNE.out
            have h2 := HDG.out
            exact ((HBV.out.setCell (p := ⟨s2, 0, none⟩) h1.2.2.2.2.2.2.1 _).grown (grownBy_putObj' _ D2 _) (Nat.le_trans HBV.out.size (grownBy_setCell' V s2 _).size) (fun j e => by cases e; omega)).grown (grownBy_putObj' _ D _) (Nat.le_trans HBV.out.size (Nat.le_trans (grownBy_setCell' V s2 _).size (grownBy_putObj' _ D2 _).size)) (fun j e => by cases e; omega)
        case stop2 =>
          rintro D2 e pre V hD2 hpre ⟨rfl, hR, v2, hbad⟩ hDef2
          have hne := HNE.out
          have hvD : V.heap[D]? = some (.deferred (some [])) := (hR.block D (Array.getElem?_eq_some_iff.1 hd1).1 (fun e => by rw [e, show W1.heap[s2]? = _ from b21] at hd1; cases hd1) (fun e => by rw [e, show W1.heap[s7]? = _ from b71] at hd1; cases hd1)).trans hd1
          have hDD : D ≠ D2 := by have := (Array.getElem?_eq_some_iff.1 hd1).1; omega
          have hbv := hR.below hB1 (by omega) (by omega)
          rw [HSS.out] at hbad
          have hres := okL_bad hbad hpre
          have h0 := HZ.out
          have hd0 := HD.out.1
          have hfin := (hbv.grown (grownBy_putObj' V D2 (.deferred none)) hbv.size (fun j e => by cases e; omega)).grown (grownBy_putObj' _ D (.deferred none)) (Nat.le_trans hbv.size (by simp)) (fun j e => by cases e; omega)
          gi_wp2
          exact same_leave (b := false) rfl rfl hDef2 hvD hDD v2 ⟨by rw [hres], hfin⟩
      case stop =>
        rintro D e pre W _ _ h _
        exact h.elim

end Go.Proofs.Ytfefldkljbbbpaa
