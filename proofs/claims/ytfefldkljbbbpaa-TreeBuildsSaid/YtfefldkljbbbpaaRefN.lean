/- The document's node: the walk. (Printed by gennode.py.) -/
import Derived.Test.YtfefldkljbbbpaaRefK
import Derived.BigQuiet
import Derived.Deep.QuietTactic
set_option linter.unusedVariables false
set_option linter.unusedSimpArgs false
namespace Go.Proofs.Ytfefldkljbbbpaa
open Go.RowKit Go.Shelf Go.Proofs.YtfefldkljbbbpaaW.PrintWords Go.Proofs.YtfefldkljbbbpaaW.PrintLast Go.Proofs.YtfefldkljbbbpaaW.PrintMore

/-- node's memory under way. -/
structure NMem (w wr : World) (k : Int) (acc : List Nd) (v : Value) : Prop where
  b0 : wr.heap[w.heap.size]? = some (.cells #[.int .u8 0, .int .u8 0, .string ⟨#[]⟩, .int .i64 0, .int .i64 0, .int .i64 0, .int .i64 0, .slice none 0 0, .int .i64 0, .bool false] TB (0, 0))
  b1 : wr.heap[w.heap.size + 1]? = some (.cells #[.int .u8 k, .int .u8 0, .string ⟨#[]⟩, .int .i64 0, .int .i64 0, .int .i64 0, .int .i64 0, v] TN (0, 0))
  own : OwnS wr (w.heap.size + 2) v acc (fun _ => True)
  below : Below w.heap.size w wr
  size : w.heap.size + 2 ≤ wr.heap.size
theorem NMem.later {w wr wr' : World} {k : Int} {acc : List Nd} {v : Value} (h : NMem w wr k acc v) (hb : Below wr.heap.size wr wr') : NMem w wr' k acc v :=
  ⟨(hb.block _ (blk_lt h.b0)).trans h.b0, (hb.block _ (blk_lt h.b1)).trans h.b1, ownS_below h.own hb, h.below.trans (hb.mono (by have := h.size; omega)), Nat.le_trans h.size hb.size⟩
theorem NMem.start (w : World) (k : Int) : NMem w ((w.alloc (.cells #[.int .u8 0, .int .u8 0, .string ⟨#[]⟩, .int .i64 0, .int .i64 0, .int .i64 0, .int .i64 0, .slice none 0 0, .int .i64 0, .bool false] TB)).alloc (.cells #[.int .u8 k, .int .u8 0, .string ⟨#[]⟩, .int .i64 0, .int .i64 0, .int .i64 0, .int .i64 0, .slice none 0 0] TN)) k [] (.slice none 0 0) := by
  refine ⟨(Below.heap_alloc _ _ _ (by simp)).trans (World.alloc_heap_new w _), ?_, ownS_nil _ _ _, ((Below.refl _ w).alloc (Nat.le_refl _) _).alloc (by simp) _, by simp⟩
  have := World.alloc_heap_new (w.alloc (.cells #[.int .u8 0, .int .u8 0, .string ⟨#[]⟩, .int .i64 0, .int .i64 0, .int .i64 0, .int .i64 0, .slice none 0 0, .int .i64 0, .bool false] TB)) (.cells #[.int .u8 k, .int .u8 0, .string ⟨#[]⟩, .int .i64 0, .int .i64 0, .int .i64 0, .int .i64 0, .slice none 0 0] TN)
  rwa [World.size_alloc] at this
/-- A kid is appended: W is wr and what kid has laid; base2: where that begins. -/
theorem NMem.push {w W w1 : World} {k : Int} {acc : List Nd} {v v1 : Value} {cells : List Value} {G : Nat → Prop} {base2 : Nat} {x : Nd} {u : Value} (h : NMem w W k acc v)
    (h2 : W.ownsRow (w.heap.size + 2) TN 8 v acc.length cells) (h3 : OwnL W (w.heap.size + 2) acc cells G) (h4 : ∀ b, v.ownBlock = some b → b < base2 ∧ ¬ G b) (h5 : ∀ b, G b → b < base2)
    (hx : OwnS W base2 u x.f2 (fun _ => True)) (hb2 : w.heap.size + 2 ≤ base2)
    (ho : w1.ownsRow (w.heap.size + 2) TN 8 v1 (acc.length + 1) (cells ++ ndCells x.f0 x.f1 u)) (hg : W.grownBy w1 v.ownBlock) (hat : v1.ownBlock = v.ownBlock ∨ ∃ b, v1.ownBlock = some b ∧ W.heap.size ≤ b) :
    NMem w (w1.setCell ⟨w.heap.size + 1, 7, none⟩ v1) k (acc ++ [x]) v1 := by
  have hvb : ∀ b, v.ownBlock = some b → w.heap.size + 2 ≤ b := fun b hb => own_base h2 b hb
  have hx' : Own W (w.heap.size + 2) x (ndCells x.f0 x.f1 u) (fun b => True ∧ Lies W base2 b) := own_iff.2 ⟨u, rfl, ownS_lower hb2 (ownS_bound hx)⟩
  have hs := grown_S (F := fun b => b < base2) h2 h3 h4 h5 hx' (fun b hb hl => by have := hl.2.1; omega) ho hg hat
  have keep : ∀ b, b ≠ w.heap.size + 1 → (w1.setCell ⟨w.heap.size + 1, 7, none⟩ v1).heap[b]? = w1.heap[b]? := fun b hb => Below.heap_setCell w1 ⟨w.heap.size + 1, 7, none⟩ v1 b hb
  have far : ∀ b, b < w.heap.size + 2 → w1.heap[b]? = W.heap[b]? := fun b hb => hg.block b (by have := h.size; omega) (fun e => by have := hvb b e.symm; omega)
  refine ⟨(keep _ (by omega)).trans ((far _ (by omega)).trans h.b0), ?_, ?_, ?_, ?_⟩
  · exact Go.heap_setCell_same w1 (w.heap.size + 1) 7 _ TN v1 ((far _ (by omega)).trans h.b1)
  · exact ownS_mono (ownS_step hs (fun b _ hl => keep b (by have := hl.1; omega))) (fun _ _ => trivial)
  · exact (h.below.grown hg (by have := h.size; omega) (fun b hb => by have := hvb b hb; omega)).setCell (p := ⟨w.heap.size + 1, 7, none⟩) (by show w.heap.size ≤ w.heap.size + 1; omega) _
  · rw [World.size_setCell]; exact Nat.le_trans h.size hg.size

theorem bt_new {W : World} {cs : Array Value} : ∃ V, W.alloc (.cells cs TB) = V ∧ V.heap[W.heap.size]? = some (.cells cs TB (0, 0)) ∧ Below W.heap.size W V ∧ V.heap.size = W.heap.size + 1 :=
  ⟨_, rfl, World.alloc_heap_new _ _, (Below.refl _ W).alloc (Nat.le_refl _) _, World.size_alloc _ _⟩
set_option maxRecDepth 100000 in
set_option maxHeartbeats 4000000 in
theorem node_any (l : List Ev) (A : Option Addr) (n c : Nat) (hn : l.length = n) (hbig : n ≤ 16777216) : ∀ N, NodeAll l A n c N := by
  intro N
  induction N with
  | zero => intro i wi e w hN he; have := (List.getElem?_eq_some_iff.1 he).1; omega
  | succ N ih =>
    intro i wi e w hN he h1 hw1 hw2 hC
    have hkid := kid_of l A n c N hn hbig ih
    have hlt0 := (List.getElem?_eq_some_iff.1 he).1
    rw [hn] at hlt0
    have HC := Lib.hid hC
    have HL := Lib.hid hn
    have HN := Lib.hid hN
    have HKID := Lib.hid hkid
    have HE := Lib.hid (And.intro he h1)
    clear hC hkid ih
    have hE := evAt_of (Kd.C_below HC.out ((Below.refl _ w).alloc (Nat.le_refl _) (.cells #[.int .u8 0, .int .u8 0, .string ⟨#[]⟩, .int .i64 0, .int .i64 0, .int .i64 0, .int .i64 0, .slice none 0 0, .int .i64 0, .bool false] TB))) i e hlt0 he
    obtain ⟨k0, k, tk⟩ := e
    obtain ⟨ad, rfl, e0, e1, -⟩ := hE.cell
    dsimp only at e0 e1 h1
    subst h1
    have g1 : (0 : Int) ≤ (i : Int) := by omega
    have g2 : (i : Int) < (n : Int) := by omega
    obtain ⟨W0, hW0⟩ : ∃ V, (w.alloc (.cells #[.int .u8 0, .int .u8 0, .string ⟨#[]⟩, .int .i64 0, .int .i64 0, .int .i64 0, .int .i64 0, .slice none 0 0, .int .i64 0, .bool false] TB)).alloc (.cells #[.int .u8 k, .int .u8 0, .string ⟨#[]⟩, .int .i64 0, .int .i64 0, .int .i64 0, .int .i64 0, .slice none 0 0] TN) = V := ⟨_, rfl⟩
    have HI0 : Hid (NMem w W0 k [] (.slice none 0 0)) := Lib.hid (hW0 ▸ NMem.start w k)
    have HW0 := Lib.hid hW0
    clear hW0 hN hn hE
    by_cases hk0 : k = 0
    · subst hk0
      have HNO := Lib.hid (node_bad he rfl (.inl rfl) hw2)
      clear he
      go_enter Try.func26, Try.ntmps26
      go_upto_region 2 with (fail)
      rw [HW0.out]
      obtain ⟨q0, q1, q2, q3, q4, q5, q6, q7⟩ := nd_box HI0.out.b1 W0 (Below.refl _ _)
      go_wp2_with ((with_reducible refine gate_ (.store TB (.tmp 6) (.tmp 22)) rfl ?_); refine wl_box rfl rfl _ _ _ rfl (.agg (btCells noNd (.slice none 0 0) 0 false).toArray) (btCells noNd (.slice none 0 0) 0 false) rfl rfl rfl infoBt (btCells_one _ _ _ rfl) HI0.out.b0 rfl ?_; intro w5 h5 hu5; have HU := Lib.hid hu5; obtain ⟨r0, r1, r2, r3, r4, r5, r6, r7, r8, r9⟩ := bt_box h5 w5 (Below.refl _ _); clear h5 hu5)
      refine bodyPost_ret (v := .agg (btCells noNd (.slice none 0 0) 0 false).toArray) ?_ rfl (.inr ⟨HNO.out, noNd, 0, rfl, HU.out.below HI0.out.below (Nat.le_refl _)⟩)
      · unfold results
        rw [show Try.f26.results = #[.cell 6 TB] from rfl]
        go_simp
        rfl
    · have dk0 : (k == 0) = false := beq_eq_false_iff_ne.2 hk0
      by_cases hdeep : 1000 < wi
      · have dw : decide ((1000 : Int) < (wi : Int)) = true := decide_eq_true (by omega)
        have dw2 : decide (1000 < wi) = true := decide_eq_true (by omega)
        have HNO := Lib.hid (node_bad he rfl (.inr hdeep) hw2)
        clear he
        go_enter Try.func26, Try.ntmps26
        go_upto_region 2 with (fail)
        rw [HW0.out]
        obtain ⟨q0, q1, q2, q3, q4, q5, q6, q7⟩ := nd_box HI0.out.b1 W0 (Below.refl _ _)
        go_wp2_with ((with_reducible refine gate_ (.store TB (.tmp 6) (.tmp 22)) rfl ?_); refine wl_box rfl rfl _ _ _ rfl (.agg (btCells noNd (.slice none 0 0) 0 false).toArray) (btCells noNd (.slice none 0 0) 0 false) rfl rfl rfl infoBt (btCells_one _ _ _ rfl) HI0.out.b0 rfl ?_; intro w5 h5 hu5; have HU := Lib.hid hu5; obtain ⟨r0, r1, r2, r3, r4, r5, r6, r7, r8, r9⟩ := bt_box h5 w5 (Below.refl _ _); clear h5 hu5)
        refine bodyPost_ret (v := .agg (btCells noNd (.slice none 0 0) 0 false).toArray) ?_ rfl (.inr ⟨HNO.out, noNd, 0, rfl, HU.out.below HI0.out.below (Nat.le_refl _)⟩)
        · unfold results
          rw [show Try.f26.results = #[.cell 6 TB] from rfl]
          go_simp
          rfl
      · have dw : decide ((1000 : Int) < (wi : Int)) = false := decide_eq_false (by omega)
        have dw2 : decide (1000 < wi) = false := decide_eq_false (by omega)
        have HLA := Lib.hid (loop_start he rfl hk0 (by omega : wi ≤ 1000))
        have hw3 : wi ≤ 1000 := by omega
        clear he hdeep dk0
        have dk0 : (k == 0) = false := beq_eq_false_iff_ne.2 hk0
        go_enter Try.func26, Try.ntmps26
        go_upto_region 2 with (fail)
        rw [HW0.out]
        obtain ⟨q0, q1, q2, q3, q4, q5, q6, q7⟩ := nd_box HI0.out.b1 W0 (Below.refl _ _)
        clear HW0
        go_wp2
        go_loopw [1] (fun jv wr => ∃ (j : Nat) (acc : List Nd) (v : Value), j ≤ n ∧ jv = .int .i64 j ∧ Hid (LoopAt l i wi k acc j ∧ acc.length ≤ j ∧ NMem w wr k acc v)) (fun jv _ => n - (intOf jv).toNat)
        case atStart => exact ⟨i + 1, [], _, by omega, by go_num, Lib.hid ⟨HLA.out, Nat.zero_le _, HI0.out⟩⟩
        case round =>
          obtain ⟨j, acc, v, hj, rfl, H⟩ := hrel
          obtain ⟨q0, q1, q2, q3, q4, q5, q6, q7⟩ := nd_box H.out.2.2.b1 wr (Below.refl _ _)
          by_cases hlt : j < n
          · have dlt : decide (j < n) = true := decide_eq_true hlt
            have dge : decide (n ≤ j) = false := decide_eq_false (by omega)
            have j1 : (0 : Int) ≤ (j : Int) := by omega
            have j2 : (j : Int) < (n : Int) := by omega
            obtain ⟨f, hf⟩ : ∃ f, l[j]? = some f := ⟨_, List.getElem?_eq_getElem (by have := HL.out; omega)⟩
            have hF := evAt_of (Kd.C_below HC.out H.out.2.2.below) j f hlt hf
            obtain ⟨f0, fk, ft⟩ := f
            obtain ⟨ad', hA', y0, y1, -⟩ := hF.cell
            obtain rfl := Option.some.inj hA'
            dsimp only at y0 y1
            by_cases hf3 : f0 = 3
            · subst hf3
              have hcl := loop_close H.out.1 hf rfl
              have HCLS := Lib.hid hcl
              clear hf hF hcl
              have hkk : fk = k ∨ fk ≠ k := by omega
              rcases hkk with hkk | hkk
              · subst hkk
                have HY := Lib.hid (HCLS.out.1 rfl)
                obtain ⟨A5, c5, rfl, -, -⟩ := ownS_C H.out.2.2.own
                clear HCLS
                go_wp2
                go_quiet (fail)
                obtain ⟨w5, hw5⟩ : ∃ V, wr.drewN nq = V := ⟨_, rfl⟩
                have HM := Lib.hid (show NMem w w5 fk acc (.slice A5 acc.length c5) from hw5 ▸ H.out.2.2.later ⟨rfl, rfl, rfl, Nat.le_refl _, fun _ _ => rfl⟩)
                rw [hw5]
                clear hw5
                obtain ⟨p0, p1, p2, p3, p4, p5, p6, p7⟩ := nd_box HM.out.b1 w5 (Below.refl _ _)
                go_wp2_with ((with_reducible refine gate_ (.store TB (.tmp 6) (.tmp 72)) rfl ?_); refine wl_box rfl rfl _ _ _ rfl (.agg (btCells ⟨fk, noTk, acc⟩ (.slice A5 acc.length c5) ((j + 1 : Nat) : Int) true).toArray) (btCells ⟨fk, noTk, acc⟩ (.slice A5 acc.length c5) ((j + 1 : Nat) : Int) true) rfl rfl rfl infoBt (btCells_one _ _ _ rfl) HM.out.b0 rfl ?_; intro w5 h5 hu5; have HU := Lib.hid hu5; obtain ⟨r0, r1, r2, r3, r4, r5, r6, r7, r8, r9⟩ := bt_box h5 w5 (Below.refl _ _); clear h5 hu5)
                refine bodyPost_ret (v := .agg (btCells ⟨fk, noTk, acc⟩ (.slice A5 acc.length c5) ((j + 1 : Nat) : Int) true).toArray) ?_ rfl (.inl ⟨⟨fk, noTk, acc⟩, j + 1, HY.out, A5, c5, rfl, ?_, HU.out.below HM.out.below (Nat.le_refl _)⟩)
                · unfold results
                  rw [show Try.f26.results = #[.cell 6 TB] from rfl]
                  go_simp
                  rfl
                · exact ownS_step HM.out.own (fun b _ hl => HU.out.far b (by have := hl.1; omega)) |> ownS_lower (by omega)
              · have dkk : (fk == k) = false := beq_eq_false_iff_ne.2 hkk
                have HNO := Lib.hid (HCLS.out.2 hkk)
                clear HCLS
                go_wp2
                go_quiet (fail)
                obtain ⟨w5, hw5⟩ : ∃ V, wr.drewN nq = V := ⟨_, rfl⟩
                have HM := Lib.hid (show NMem w w5 k acc v from hw5 ▸ H.out.2.2.later ⟨rfl, rfl, rfl, Nat.le_refl _, fun _ _ => rfl⟩)
                rw [hw5]
                clear hw5
                go_wp2_with ((with_reducible refine gate_ (.store TB (.tmp 6) (.tmp 68)) rfl ?_); refine wl_box rfl rfl _ _ _ rfl (.agg (btCells noNd (.slice none 0 0) 0 false).toArray) (btCells noNd (.slice none 0 0) 0 false) rfl rfl rfl infoBt (btCells_one _ _ _ rfl) HM.out.b0 rfl ?_; intro w5 h5 hu5; have HU := Lib.hid hu5; obtain ⟨r0, r1, r2, r3, r4, r5, r6, r7, r8, r9⟩ := bt_box h5 w5 (Below.refl _ _); clear h5 hu5)
                refine bodyPost_ret (v := .agg (btCells noNd (.slice none 0 0) 0 false).toArray) ?_ rfl (.inr ⟨HNO.out, noNd, 0, rfl, HU.out.below HM.out.below (Nat.le_refl _)⟩)
                · unfold results
                  rw [show Try.f26.results = #[.cell 6 TB] from rfl]
                  go_simp
                  rfl
            · have d3 : (f0 == 3) = false := beq_eq_false_iff_ne.2 hf3
              have HKJ := Lib.hid (HKID.out j wi wr (by have := HN.out; have := H.out.1.1; omega) (by omega) (fun e' he' => by rw [hf] at he'; cases he'; exact hf3) (by omega) (by omega) (Kd.C_below HC.out H.out.2.2.below))
              clear hf hF
              go_wp2_with (fail)
              refine (HKJ.out).mono ?_
              rintro e w2 (⟨x, a2, hy, A3, c3, he, ho, hb2⟩ | ⟨hno, y, z, he, hb2⟩)
              · have he2 : e = .returned (.agg #[.int .u8 x.f0, .int .u8 x.f1.f0, .string x.f1.f1, .int .i64 x.f1.f2.f0, .int .i64 x.f1.f2.f1, .int .i64 x.f1.f2.f2, .int .i64 x.f1.f3, .slice A3 x.f2.length c3, .int .i64 a2, .bool true]) := he
                clear he
                subst he2
                have HY := Lib.hid hy
                have HO2 := Lib.hid ho
                have HB2 := Lib.hid hb2
                clear hy ho hb2 HKJ q0 q1 q2 q3 q4 q5 q6 q7
                go_upto_region 9 with (fail)
                obtain ⟨w3, hw3, h3, hb3, hz3⟩ := bt_new (W := w2) (cs := #[.int .u8 x.f0, .int .u8 x.f1.f0, .string x.f1.f1, .int .i64 x.f1.f2.f0, .int .i64 x.f1.f2.f1, .int .i64 x.f1.f2.f2, .int .i64 x.f1.f3, .slice A3 x.f2.length c3, .int .i64 a2, .bool true])
                rw [hw3]
                have hb13 : Below wr.heap.size wr w3 := HB2.out.trans (hb3.mono HB2.out.size)
                have HM := Lib.hid (H.out.2.2.later hb13)
                obtain ⟨cells, G, r2, r3, r4, r5⟩ := ownS_below (ownS_bound H.out.2.2.own) hb13
                have HP := Lib.hid (And.intro r3 (And.intro r4 r5))
                have R2 := Lib.hid r2
                have HX := Lib.hid (ownS_below HO2.out hb3)
                have HBX := Lib.hid h3
                have HB13 := Lib.hid hb13
                have HZ3 := Lib.hid hz3
                have HS3 : Hid (w.heap.size + 2 ≤ w3.heap.size) := Lib.hid HM.out.size
                have HF : Hid ((acc.length + 1) * 88 ≤ 140737488355328) := Lib.hid (by have := H.out.2.1; omega)
                clear hw3 h3 hb3 hz3 hb13 r2 r3 r4 r5
                obtain ⟨p0, p1, p2, p3, p4, p5, p6, p7⟩ := nd_box HM.out.b1 w3 (Below.refl _ _)
                obtain ⟨r0, r1, r2, r3, r4, r5, r6, r7, r8, r9⟩ := bt_box HBX.out w3 (Below.refl _ _)
                go_upto_region 10 with ((with_reducible refine gate_dst (N := 50) rfl ?_); refine print_append_cells (w0 := w3) (w.heap.size + 2) rfl (.tmp 46) (.tmp 49) 33 35 _ 8 88 rfl Try.underlying33 infoNd rfl (by decide) (by decide) v acc.length cells (ndCells x.f0 x.f1 (.slice A3 x.f2.length c3)) rfl rfl rfl (ndCells_one _ _ rfl) R2.out (Below.refl _ _) HS3.out HF.out ?_; intro v5 w5 ho5 hb5 hg5 hat5; obtain ⟨A6, c6, rfl⟩ := own_slice ho5; have H5 := Lib.hid (And.intro ho5 (And.intro hg5 hat5)); have hb1 := (hb5.block (w.heap.size + 1) (by omega)).trans HM.out.b1; have c7 : w5.cell? ⟨w.heap.size + 1, 7, none⟩ = some v := cell_of_row _ _ _ _ _ _ hb1; have f7 : w5.frozen? ⟨w.heap.size + 1, 7, none⟩ = false := (by simp [World.frozen?, hb1]); clear ho5 hb5 hg5 hat5 hb1 p0 p1 p2 p3 p4 p5 p6 p7 r0 r1 r2 r3 r4 r5 r6 r7 r8 r9)
                obtain ⟨w6, hw6⟩ : ∃ V, w5.setCell ⟨w.heap.size + 1, 7, none⟩ (.slice A6 (acc.length + 1) c6) = V := ⟨_, rfl⟩
                have HM6 : Hid (NMem w w6 k (acc ++ [x]) (.slice A6 (acc.length + 1) c6)) := Lib.hid (by
                  rw [← hw6]
                  exact HM.out.push R2.out HP.out.1 (fun b hb => ⟨(HP.out.2.1 b hb).1.2.2.1, (HP.out.2.1 b hb).2⟩) (fun b hb => (HP.out.2.2 b hb).2.2.1) HX.out H.out.2.2.size H5.out.1 H5.out.2.1 H5.out.2.2)
                have a8 : w6.cell? ⟨w2.heap.size, 8, none⟩ = some (.int .i64 a2) := by
                  have hne : some w2.heap.size ≠ v.ownBlock := fun e => by have := (HP.out.2.1 _ e.symm).1.2.2.1; have := HB2.out.size; omega
                  have h1 := (H5.out.2.1.block w2.heap.size (blk_lt HBX.out) hne).trans HBX.out
                  have h2 : w6.heap[w2.heap.size]? = w5.heap[w2.heap.size]? := by rw [← hw6]; exact Below.heap_setCell w5 _ _ _ (by have := HB2.out.size; have := H.out.2.2.size; show w2.heap.size ≠ w.heap.size + 1; omega)
                  exact cell_of_row _ _ _ _ _ _ (h2.trans h1)
                rw [hw6]
                clear hw6 c7 f7
                go_wp2
                go_roundw
                case rel => exact ⟨a2, acc ++ [x], _, by have := HY.out.2.1; have := HL.out; omega, by rfl, Lib.hid ⟨loop_kid H.out.1 HY.out, by have := HY.out.1; have := H.out.2.1; simp only [List.length_append, List.length_singleton]; omega, HM6.out⟩⟩
                case measure => have := HY.out.1; have := HY.out.2.1; have := HL.out; simp [intOf]; omega
              · have he2 : e = .returned (.agg #[.int .u8 y.f0, .int .u8 y.f1.f0, .string y.f1.f1, .int .i64 y.f1.f2.f0, .int .i64 y.f1.f2.f1, .int .i64 y.f1.f2.f2, .int .i64 y.f1.f3, .slice none 0 0, .int .i64 z, .bool false]) := he
                clear he
                subst he2
                have HNO := Lib.hid (loop_no H.out.1 hno)
                have HB2 := Lib.hid hb2
                clear hno hb2 HKJ q0 q1 q2 q3 q4 q5 q6 q7
                go_upto_region 8 with (fail)
                obtain ⟨w3, hw3, h3, hb3, hz3⟩ := bt_new (W := w2) (cs := #[.int .u8 y.f0, .int .u8 y.f1.f0, .string y.f1.f1, .int .i64 y.f1.f2.f0, .int .i64 y.f1.f2.f1, .int .i64 y.f1.f2.f2, .int .i64 y.f1.f3, .slice none 0 0, .int .i64 z, .bool false])
                rw [hw3]
                have HM := Lib.hid (H.out.2.2.later (HB2.out.trans (hb3.mono HB2.out.size)))
                clear hw3 h3 hb3 hz3
                go_wp2_with ((with_reducible refine gate_ (.store TB (.tmp 6) (.tmp 44)) rfl ?_); refine wl_box rfl rfl _ _ _ rfl (.agg (btCells noNd (.slice none 0 0) 0 false).toArray) (btCells noNd (.slice none 0 0) 0 false) rfl rfl rfl infoBt (btCells_one _ _ _ rfl) HM.out.b0 rfl ?_; intro w5 h5 hu5; have HU := Lib.hid hu5; obtain ⟨r0, r1, r2, r3, r4, r5, r6, r7, r8, r9⟩ := bt_box h5 w5 (Below.refl _ _); clear h5 hu5)
                refine bodyPost_ret (v := .agg (btCells noNd (.slice none 0 0) 0 false).toArray) ?_ rfl (.inr ⟨HNO.out, noNd, 0, rfl, HU.out.below HM.out.below (Nat.le_refl _)⟩)
                · unfold results
                  rw [show Try.f26.results = #[.cell 6 TB] from rfl]
                  go_simp
                  rfl
          · have dlt : decide (j < n) = false := decide_eq_false hlt
            have dge : decide (n ≤ j) = true := decide_eq_true (by omega)
            have HNO := Lib.hid (loop_end H.out.1 (by have := HL.out; omega))
            go_wp2
            go_quiet (fail)
            obtain ⟨w5, hw5⟩ : ∃ V, wr.drewN nq = V := ⟨_, rfl⟩
            have HM := Lib.hid (show NMem w w5 k acc v from hw5 ▸ H.out.2.2.later ⟨rfl, rfl, rfl, Nat.le_refl _, fun _ _ => rfl⟩)
            rw [hw5]
            clear hw5
            go_wp2_with ((with_reducible refine gate_ (.store TB (.tmp 6) (.tmp 68)) rfl ?_); refine wl_box rfl rfl _ _ _ rfl (.agg (btCells noNd (.slice none 0 0) 0 false).toArray) (btCells noNd (.slice none 0 0) 0 false) rfl rfl rfl infoBt (btCells_one _ _ _ rfl) HM.out.b0 rfl ?_; intro w5 h5 hu5; have HU := Lib.hid hu5; obtain ⟨r0, r1, r2, r3, r4, r5, r6, r7, r8, r9⟩ := bt_box h5 w5 (Below.refl _ _); clear h5 hu5)
            refine bodyPost_ret (v := .agg (btCells noNd (.slice none 0 0) 0 false).toArray) ?_ rfl (.inr ⟨HNO.out, noNd, 0, rfl, HU.out.below HM.out.below (Nat.le_refl _)⟩)
            · unfold results
              rw [show Try.f26.results = #[.cell 6 TB] from rfl]
              go_simp
              rfl
end Go.Proofs.Ytfefldkljbbbpaa
