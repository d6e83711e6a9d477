/- The document's kid: the walk. (Printed by genkid.py.) -/
import Derived.Test.YtfefldkljbbbpaaRefP
set_option linter.unusedVariables false
set_option linter.unusedSimpArgs false
namespace Go.Proofs.Ytfefldkljbbbpaa
open Go.RowKit Go.Shelf Go.Proofs.YtfefldkljbbbpaaW.PrintWords Go.Proofs.YtfefldkljbbbpaaW.PrintLast Go.Proofs.YtfefldkljbbbpaaW.PrintMore

theorem comment2 (t : Tk) (w : World) : Calls Try.prog 35 #[.agg #[.int .u8 t.f0, .string t.f1, .int .i64 t.f2.f0, .int .i64 t.f2.f1, .int .i64 t.f2.f2, .int .i64 t.f3]] w fun e w' => e = .returned (.bool (isNote t)) ∧ Below w.heap.size w w' := by
  refine PTreeSame.colophonref13_Comment.calls t.f0 t.f1 t.f2.f0 t.f2.f1 t.f2.f2 t.f3 (isNote t) w ?_
  unfold PTreeSame.colophonref13_Comment.f isNote
  by_cases h : t.f0 = 7
  · rw [if_pos h, h]; rfl
  · rw [if_neg h]
    by_cases h8 : t.f0 = 8
    · simp [h8]
    · simp [h, h8]
def NodeAll (l : List Ev) (A : Option Addr) (n c N : Nat) : Prop := ∀ (i wi : Nat) (e : Ev) (w : World), n - i ≤ N → l[i]? = some e → e.f0 = 1 → 1 ≤ wi → wi ≤ 1001 → Kd.C kEv w A n l → Calls Try.prog 26 #[.slice A n c, .int .i64 i, .int .i64 wi] w fun e w' => NodePost l i wi w e w'
def KidAll (l : List Ev) (A : Option Addr) (n c N : Nat) : Prop := ∀ (i wi : Nat) (w : World), n - i ≤ N → i ≤ n → (∀ e, l[i]? = some e → e.f0 ≠ 3) → 1 ≤ wi → wi ≤ 1000 → Kd.C kEv w A n l → Calls Try.prog 34 #[.slice A n c, .int .i64 i, .int .i64 wi] w fun e w' => KidPost l i wi w e w'

set_option maxRecDepth 100000 in
set_option maxHeartbeats 4000000 in
theorem kid_of (l : List Ev) (A : Option Addr) (n c N : Nat) (hn : l.length = n) (hbig : n ≤ 16777216) (hnode : NodeAll l A n c N) : KidAll l A n c N := by
  intro i wi w hN hin h3 hw1 hw2 hC
  have HNO := Lib.hid hnode
  have HC := Lib.hid hC
  have H3 := Lib.hid h3
  have HL := Lib.hid hn
  have HN := Lib.hid hN
  clear hnode hC h3 hn hN
  by_cases hlt : i < n
  · have dlt : decide (n ≤ i) = false := decide_eq_false (by omega)
    obtain ⟨e, he⟩ : ∃ e, l[i]? = some e := ⟨_, List.getElem?_eq_getElem (by have := HL.out; omega)⟩
    have hE := evAt_of (Kd.C_below HC.out ((Below.refl _ w).alloc (Nat.le_refl _) (.cells #[.int .u8 0, .int .u8 0, .string ⟨#[]⟩, .int .i64 0, .int .i64 0, .int .i64 0, .int .i64 0, .slice none 0 0, .int .i64 0, .bool false] TB))) i e hlt he
    have hk3 := H3.out e he
    obtain ⟨k, nd, k0, tx, ⟨p0, p1, p2⟩, fd⟩ := e
    obtain ⟨ad, rfl, e0, e1, e2, e3, e4, e5, e6, e7⟩ := hE.cell
    dsimp only at e0 e1 e2 e3 e4 e5 e6 e7 hk3
    obtain ⟨W1, hW1⟩ : ∃ V, (w.alloc (.cells #[.int .u8 0, .int .u8 0, .string ⟨#[]⟩, .int .i64 0, .int .i64 0, .int .i64 0, .int .i64 0, .slice none 0 0, .int .i64 0, .bool false] TB)).alloc (.cells #[.int .u8 k, .int .u8 nd, .int .u8 k0, .string tx, .int .i64 p0, .int .i64 p1, .int .i64 p2, .int .i64 fd] 32) = V := ⟨_, rfl⟩
    have hb1 : Below w.heap.size w W1 := by rw [← hW1]; exact ((Below.refl _ w).alloc (Nat.le_refl _) _).alloc (by simp) _
    have hz1 : W1.heap[w.heap.size]? = some (.cells #[.int .u8 0, .int .u8 0, .string ⟨#[]⟩, .int .i64 0, .int .i64 0, .int .i64 0, .int .i64 0, .slice none 0 0, .int .i64 0, .bool false] TB (0, 0)) := by rw [← hW1]; exact (Below.heap_alloc _ _ _ (by simp)).trans (World.alloc_heap_new w _)
    have hev : W1.heap[w.heap.size + 1]? = some (.cells #[.int .u8 k, .int .u8 nd, .int .u8 k0, .string tx, .int .i64 p0, .int .i64 p1, .int .i64 p2, .int .i64 fd] 32 (0, 0)) := by
      rw [← hW1]
      have := World.alloc_heap_new (w.alloc (.cells #[.int .u8 0, .int .u8 0, .string ⟨#[]⟩, .int .i64 0, .int .i64 0, .int .i64 0, .int .i64 0, .slice none 0 0, .int .i64 0, .bool false] TB)) (.cells #[.int .u8 k, .int .u8 nd, .int .u8 k0, .string tx, .int .i64 p0, .int .i64 p1, .int .i64 p2, .int .i64 fd] 32)
      rwa [World.size_alloc] at this
    have HB1 := Lib.hid hb1
    have HZ1 := Lib.hid hz1
    have HEB := Lib.hid (ev_box hev)
    have HW1 := Lib.hid hW1
    have g1 : (0 : Int) ≤ (i : Int) := by omega
    have g2 : (i : Int) < (n : Int) := by omega
    clear hb1 hz1 hev hE hW1
    by_cases hk2 : k = 2
    · subst hk2
      have hk : (⟨2, nd, k0, tx, ⟨p0, p1, p2⟩, fd⟩ : Ev).f0 = 2 ∨ (⟨2, nd, k0, tx, ⟨p0, p1, p2⟩, fd⟩ : Ev).f0 = 4 := by simp
      have ht := kid_tok (wi := wi) he hk
      have HT := Lib.hid ht
      obtain ⟨nb, hnb⟩ : ∃ b, isNote ⟨k0, tx, ⟨p0, p1, p2⟩, fd⟩ = b := ⟨_, rfl⟩
      have HCM := Lib.hid (comment2 ⟨k0, tx, ⟨p0, p1, p2⟩, fd⟩)
      have HNB := Lib.hid hnb
      clear he hk ht hnb
      cases nb with
      | false =>
        go_enter Try.func34, Try.ntmps34
        go_upto_region 4 with (fail)
        rw [HW1.out]
        obtain ⟨q0, q1, q2, q3, q4, q5, q6, q7⟩ := HEB.out W1 (Below.refl _ _)
        clear HW1
        go_wp2_with (first
          | (go_at_call 35; refine (HCM.out W1).mono ?_; rintro e w2 ⟨rfl, hb2⟩; rw [HNB.out]; have HB2 := Lib.hid hb2; have HZ2 := Lib.hid ((hb2.block _ (blk_lt HZ1.out)).trans HZ1.out); obtain ⟨q0, q1, q2, q3, q4, q5, q6, q7⟩ := HEB.out w2 hb2; clear hb2)
          | ((with_reducible refine gate_ (.store TB (.tmp 6) (.tmp 32)) rfl ?_); refine wl_box rfl rfl _ _ _ rfl (.agg (btCells ⟨0, ⟨k0, tx, ⟨p0, p1, p2⟩, fd⟩, []⟩ (.slice none 0 0) ((i + 1 : Nat) : Int) true).toArray) (btCells ⟨0, ⟨k0, tx, ⟨p0, p1, p2⟩, fd⟩, []⟩ (.slice none 0 0) ((i + 1 : Nat) : Int) true) rfl rfl rfl infoBt (btCells_one _ _ _ rfl) HZ2.out rfl ?_; intro w5 h5 hu5; have HU := Lib.hid hu5; obtain ⟨r0, r1, r2, r3, r4, r5, r6, r7, r8, r9⟩ := bt_box h5 w5 (Below.refl _ _); clear h5 hu5))
        refine bodyPost_ret (v := .agg (btCells ⟨0, ⟨k0, tx, ⟨p0, p1, p2⟩, fd⟩, []⟩ (.slice none 0 0) ((i + 1 : Nat) : Int) true).toArray) ?_ rfl (.inl ⟨⟨0, ⟨k0, tx, ⟨p0, p1, p2⟩, fd⟩, []⟩, i + 1, HT.out.1 (by rw [HNB.out]; rfl), none, 0, rfl, ownS_nil _ _ _, HU.out.below (HB1.out.trans (HB2.out.mono HB1.out.size)) (Nat.le_refl _)⟩)
        · unfold results
          rw [show Try.f34.results = #[.cell 6 TB] from rfl]
          go_simp
          rfl
      | true =>
        go_enter Try.func34, Try.ntmps34
        go_upto_region 4 with (fail)
        rw [HW1.out]
        obtain ⟨q0, q1, q2, q3, q4, q5, q6, q7⟩ := HEB.out W1 (Below.refl _ _)
        clear HW1
        go_wp2_with (first
          | (go_at_call 35; refine (HCM.out W1).mono ?_; rintro e w2 ⟨rfl, hb2⟩; rw [HNB.out]; have HB2 := Lib.hid hb2; have HZ2 := Lib.hid ((hb2.block _ (blk_lt HZ1.out)).trans HZ1.out); obtain ⟨q0, q1, q2, q3, q4, q5, q6, q7⟩ := HEB.out w2 hb2; clear hb2)
          | ((with_reducible refine gate_ (.store TB (.tmp 6) (.tmp 32)) rfl ?_); refine wl_box rfl rfl _ _ _ rfl (.agg (btCells ⟨0, ⟨k0, tx, ⟨p0, p1, p2⟩, fd⟩, []⟩ (.slice none 0 0) ((i + 1 : Nat) : Int) false).toArray) (btCells ⟨0, ⟨k0, tx, ⟨p0, p1, p2⟩, fd⟩, []⟩ (.slice none 0 0) ((i + 1 : Nat) : Int) false) rfl rfl rfl infoBt (btCells_one _ _ _ rfl) HZ2.out rfl ?_; intro w5 h5 hu5; have HU := Lib.hid hu5; obtain ⟨r0, r1, r2, r3, r4, r5, r6, r7, r8, r9⟩ := bt_box h5 w5 (Below.refl _ _); clear h5 hu5))
        refine bodyPost_ret (v := .agg (btCells ⟨0, ⟨k0, tx, ⟨p0, p1, p2⟩, fd⟩, []⟩ (.slice none 0 0) ((i + 1 : Nat) : Int) false).toArray) ?_ rfl (.inr ⟨HT.out.2 (by rw [HNB.out]; decide), ⟨0, ⟨k0, tx, ⟨p0, p1, p2⟩, fd⟩, []⟩, (i + 1 : Nat), rfl, HU.out.below (HB1.out.trans (HB2.out.mono HB1.out.size)) (Nat.le_refl _)⟩)
        · unfold results
          rw [show Try.f34.results = #[.cell 6 TB] from rfl]
          go_simp
          rfl
    · by_cases hk4 : k = 4
      · subst hk4
        have hk : (⟨4, nd, k0, tx, ⟨p0, p1, p2⟩, fd⟩ : Ev).f0 = 2 ∨ (⟨4, nd, k0, tx, ⟨p0, p1, p2⟩, fd⟩ : Ev).f0 = 4 := by simp
        have ht := kid_tok (wi := wi) he hk
        have HT := Lib.hid ht
        obtain ⟨nb, hnb⟩ : ∃ b, isNote ⟨k0, tx, ⟨p0, p1, p2⟩, fd⟩ = b := ⟨_, rfl⟩
        have HCM := Lib.hid (comment2 ⟨k0, tx, ⟨p0, p1, p2⟩, fd⟩)
        have HNB := Lib.hid hnb
        clear he hk ht hnb
        cases nb with
        | false =>
          go_enter Try.func34, Try.ntmps34
          go_upto_region 4 with (fail)
          rw [HW1.out]
          obtain ⟨q0, q1, q2, q3, q4, q5, q6, q7⟩ := HEB.out W1 (Below.refl _ _)
          clear HW1
          go_wp2_with (first
            | (go_at_call 35; refine (HCM.out W1).mono ?_; rintro e w2 ⟨rfl, hb2⟩; rw [HNB.out]; have HB2 := Lib.hid hb2; have HZ2 := Lib.hid ((hb2.block _ (blk_lt HZ1.out)).trans HZ1.out); obtain ⟨q0, q1, q2, q3, q4, q5, q6, q7⟩ := HEB.out w2 hb2; clear hb2)
            | ((with_reducible refine gate_ (.store TB (.tmp 6) (.tmp 41)) rfl ?_); refine wl_box rfl rfl _ _ _ rfl (.agg (btCells ⟨0, ⟨k0, tx, ⟨p0, p1, p2⟩, fd⟩, []⟩ (.slice none 0 0) ((i + 1 : Nat) : Int) false).toArray) (btCells ⟨0, ⟨k0, tx, ⟨p0, p1, p2⟩, fd⟩, []⟩ (.slice none 0 0) ((i + 1 : Nat) : Int) false) rfl rfl rfl infoBt (btCells_one _ _ _ rfl) HZ2.out rfl ?_; intro w5 h5 hu5; have HU := Lib.hid hu5; obtain ⟨r0, r1, r2, r3, r4, r5, r6, r7, r8, r9⟩ := bt_box h5 w5 (Below.refl _ _); clear h5 hu5))
          refine bodyPost_ret (v := .agg (btCells ⟨0, ⟨k0, tx, ⟨p0, p1, p2⟩, fd⟩, []⟩ (.slice none 0 0) ((i + 1 : Nat) : Int) false).toArray) ?_ rfl (.inr ⟨HT.out.2 (by rw [HNB.out]; decide), ⟨0, ⟨k0, tx, ⟨p0, p1, p2⟩, fd⟩, []⟩, (i + 1 : Nat), rfl, HU.out.below (HB1.out.trans (HB2.out.mono HB1.out.size)) (Nat.le_refl _)⟩)
          · unfold results
            rw [show Try.f34.results = #[.cell 6 TB] from rfl]
            go_simp
            rfl
        | true =>
          go_enter Try.func34, Try.ntmps34
          go_upto_region 4 with (fail)
          rw [HW1.out]
          obtain ⟨q0, q1, q2, q3, q4, q5, q6, q7⟩ := HEB.out W1 (Below.refl _ _)
          clear HW1
          go_wp2_with (first
            | (go_at_call 35; refine (HCM.out W1).mono ?_; rintro e w2 ⟨rfl, hb2⟩; rw [HNB.out]; have HB2 := Lib.hid hb2; have HZ2 := Lib.hid ((hb2.block _ (blk_lt HZ1.out)).trans HZ1.out); obtain ⟨q0, q1, q2, q3, q4, q5, q6, q7⟩ := HEB.out w2 hb2; clear hb2)
            | ((with_reducible refine gate_ (.store TB (.tmp 6) (.tmp 41)) rfl ?_); refine wl_box rfl rfl _ _ _ rfl (.agg (btCells ⟨0, ⟨k0, tx, ⟨p0, p1, p2⟩, fd⟩, []⟩ (.slice none 0 0) ((i + 1 : Nat) : Int) true).toArray) (btCells ⟨0, ⟨k0, tx, ⟨p0, p1, p2⟩, fd⟩, []⟩ (.slice none 0 0) ((i + 1 : Nat) : Int) true) rfl rfl rfl infoBt (btCells_one _ _ _ rfl) HZ2.out rfl ?_; intro w5 h5 hu5; have HU := Lib.hid hu5; obtain ⟨r0, r1, r2, r3, r4, r5, r6, r7, r8, r9⟩ := bt_box h5 w5 (Below.refl _ _); clear h5 hu5))
          refine bodyPost_ret (v := .agg (btCells ⟨0, ⟨k0, tx, ⟨p0, p1, p2⟩, fd⟩, []⟩ (.slice none 0 0) ((i + 1 : Nat) : Int) true).toArray) ?_ rfl (.inl ⟨⟨0, ⟨k0, tx, ⟨p0, p1, p2⟩, fd⟩, []⟩, i + 1, HT.out.1 (by rw [HNB.out]; rfl), none, 0, rfl, ownS_nil _ _ _, HU.out.below (HB1.out.trans (HB2.out.mono HB1.out.size)) (Nat.le_refl _)⟩)
          · unfold results
            rw [show Try.f34.results = #[.cell 6 TB] from rfl]
            go_simp
            rfl
      · have d2 : (k == 2) = false := beq_eq_false_iff_ne.2 hk2
        have d4 : (k == 4) = false := beq_eq_false_iff_ne.2 hk4
        obtain ⟨nb, hnb⟩ : ∃ b, isNote ⟨k0, tx, ⟨p0, p1, p2⟩, fd⟩ = b := ⟨_, rfl⟩
        have HCM := Lib.hid (comment2 ⟨k0, tx, ⟨p0, p1, p2⟩, fd⟩)
        have HNB := Lib.hid hnb
        clear hnb
        by_cases hk1 : k = 1
        · subst hk1
          have HIH := Lib.hid (fun V (hV : Below w.heap.size w V) => HNO.out i (wi + 1) _ V HN.out he rfl (by omega) (by omega) (Kd.C_below HC.out hV))
          clear he
          go_enter Try.func34, Try.ntmps34
          go_upto_region 4 with (fail)
          rw [HW1.out]
          obtain ⟨q0, q1, q2, q3, q4, q5, q6, q7⟩ := HEB.out W1 (Below.refl _ _)
          clear HW1
          go_wp2_with (first
            | (go_at_call 35; refine (HCM.out W1).mono ?_; rintro e w2 ⟨rfl, hb2⟩; rw [HNB.out]; have HB2 := Lib.hid (HB1.out.trans (hb2.mono HB1.out.size)); have HZ2 := Lib.hid ((hb2.block _ (blk_lt HZ1.out)).trans HZ1.out); obtain ⟨q0, q1, q2, q3, q4, q5, q6, q7⟩ := HEB.out w2 hb2; clear hb2))
          refine (HIH.out w2 HB2.out).mono ?_
          rintro e w3 (⟨x, a2, hy, A3, c3, he, ho, hb3⟩ | ⟨hno, y, z, he, hb3⟩)
          · subst he
            have HB3 := Lib.hid (HB2.out.trans (hb3.mono HB2.out.size))
            have HZ3 := Lib.hid ((hb3.block _ (blk_lt HZ2.out)).trans HZ2.out)
            have HO := Lib.hid ho
            have HYS := Lib.hid (kid_node hy)
            have HLT := Lib.hid (blk_lt HZ2.out)
            clear hb3 ho hy
            go_wp2_with ((with_reducible refine gate_ (.store TB (.tmp 6) (.tmp 48)) rfl ?_); refine wl_box rfl rfl _ _ _ rfl (.agg (btCells x (.slice A3 x.f2.length c3) a2 true).toArray) (btCells x (.slice A3 x.f2.length c3) a2 true) rfl rfl rfl infoBt (btCells_one _ _ _ rfl) HZ3.out rfl ?_; intro w5 h5 hu5; have HU := Lib.hid hu5; obtain ⟨r0, r1, r2, r3, r4, r5, r6, r7, r8, r9⟩ := bt_box h5 w5 (Below.refl _ _); clear h5 hu5)
            refine bodyPost_ret (v := .agg (btCells x (.slice A3 x.f2.length c3) a2 true).toArray) ?_ rfl (.inl ⟨x, a2, HYS.out, A3, c3, rfl, ?_, HU.out.below HB3.out (Nat.le_refl _)⟩)
            · unfold results
              rw [show Try.f34.results = #[.cell 6 TB] from rfl]
              go_simp
              rfl
            · exact ownS_lower HB2.out.size (ownS_step HO.out (fun b _ hl => HU.out.far b (by have := hl.1; have := HLT.out; omega)))
          · subst he
            have HB3 := Lib.hid (HB2.out.trans (hb3.mono HB2.out.size))
            have HZ3 := Lib.hid ((hb3.block _ (blk_lt HZ2.out)).trans HZ2.out)
            have HNN := Lib.hid (kid_nodeNo hno)
            clear hb3 hno
            go_wp2_with ((with_reducible refine gate_ (.store TB (.tmp 6) (.tmp 48)) rfl ?_); refine wl_box rfl rfl _ _ _ rfl (.agg (btCells y (.slice none 0 0) z false).toArray) (btCells y (.slice none 0 0) z false) rfl rfl rfl infoBt (btCells_one _ _ _ rfl) HZ3.out rfl ?_; intro w5 h5 hu5; have HU := Lib.hid hu5; obtain ⟨r0, r1, r2, r3, r4, r5, r6, r7, r8, r9⟩ := bt_box h5 w5 (Below.refl _ _); clear h5 hu5)
            refine bodyPost_ret (v := .agg (btCells y (.slice none 0 0) z false).toArray) ?_ rfl (.inr ⟨HNN.out, y, z, rfl, HU.out.below HB3.out (Nat.le_refl _)⟩)
            · unfold results
              rw [show Try.f34.results = #[.cell 6 TB] from rfl]
              go_simp
              rfl
        · have d1 : (k == 1) = false := beq_eq_false_iff_ne.2 hk1
          have HNN := Lib.hid (kid_other (wi := wi) he hk1 hk2 hk4 hk3)
          clear he
          go_enter Try.func34, Try.ntmps34
          go_upto_region 4 with (fail)
          rw [HW1.out]
          obtain ⟨q0, q1, q2, q3, q4, q5, q6, q7⟩ := HEB.out W1 (Below.refl _ _)
          clear HW1
          go_wp2_with (first
            | (go_at_call 35; refine (HCM.out W1).mono ?_; rintro e w2 ⟨rfl, hb2⟩; rw [HNB.out]; have HB2 := Lib.hid (HB1.out.trans (hb2.mono HB1.out.size)); have HZ2 := Lib.hid ((hb2.block _ (blk_lt HZ1.out)).trans HZ1.out); obtain ⟨q0, q1, q2, q3, q4, q5, q6, q7⟩ := HEB.out w2 hb2; clear hb2)
            | ((with_reducible refine gate_ (.store TB (.tmp 6) (.tmp 49)) rfl ?_); refine wl_box rfl rfl _ _ _ rfl (.agg (btCells noNd (.slice none 0 0) 0 false).toArray) (btCells noNd (.slice none 0 0) 0 false) rfl rfl rfl infoBt (btCells_one _ _ _ rfl) HZ2.out rfl ?_; intro w5 h5 hu5; have HU := Lib.hid hu5; obtain ⟨r0, r1, r2, r3, r4, r5, r6, r7, r8, r9⟩ := bt_box h5 w5 (Below.refl _ _); clear h5 hu5))
          refine bodyPost_ret (v := .agg (btCells noNd (.slice none 0 0) 0 false).toArray) ?_ rfl (.inr ⟨HNN.out, noNd, 0, rfl, HU.out.below HB2.out (Nat.le_refl _)⟩)
          · unfold results
            rw [show Try.f34.results = #[.cell 6 TB] from rfl]
            go_simp
            rfl
  · have dlt : decide (n ≤ i) = true := decide_eq_true (by omega)
    have HNN := Lib.hid (kid_end (l := l) (i := i) (wi := wi) (by have := HL.out; omega))
    go_enter Try.func34, Try.ntmps34
    go_wp2
    refine bodyPost_ret (v := .agg (btCells noNd (.slice none 0 0) 0 false).toArray) ?_ rfl (.inr ⟨HNN.out, noNd, 0, rfl, (Below.refl _ w).alloc (Nat.le_refl _) _⟩)
    · unfold results
      rw [show Try.f34.results = #[.cell 6 TB] from rfl]
      go_simp
      rfl
end Go.Proofs.Ytfefldkljbbbpaa
