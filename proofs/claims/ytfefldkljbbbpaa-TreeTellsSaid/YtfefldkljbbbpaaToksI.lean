/- tree.Toks: the iterator. -/
import Derived.Test.YtfefldkljbbbpaaG5
import Derived.Test.YtfefldkljbbbpaaGrew
set_option linter.unusedVariables false
set_option linter.unusedSimpArgs false
namespace Go.Proofs.Ytfefldkljbbbpaa
open Go.RowKit Go.Shelf Go.Proofs.YtfefldkljbbbpaaW.PrintWords Go.Proofs.YtfefldkljbbbpaaW.PrintLast Go.Proofs.YtfefldkljbbbpaaW.PrintMore
attribute [local go_sem] Oper.semAt_some

def TY : TypeId := 54
def TW : TypeId := 65
/-- What a round leaves: all below w0, and the boxes of functions. -/
structure KpT (w0 W W' : World) : Prop where
  below : Below w0.heap.size W W'
  y : ∀ (b : Nat) (C : Array Value), W.heap[b]? = some (.cells C 54 (0, 0)) → W'.heap[b]? = some (.cells C 54 (0, 0))
  w : ∀ (b : Nat) (C : Array Value), W.heap[b]? = some (.cells C 65 (0, 0)) → W'.heap[b]? = some (.cells C 65 (0, 0))
theorem KpT.trans {w0 A B C : World} (h : KpT w0 A B) (h' : KpT w0 B C) : KpT w0 A C := ⟨h.below.trans h'.below, fun b D hb => h'.y b D (h.y b D hb), fun b D hb => h'.w b D (h.w b D hb)⟩
theorem KpT.refl (w0 A : World) : KpT w0 A A := ⟨Below.refl _ _, fun _ _ h => h, fun _ _ h => h⟩
theorem KpT.of_below {w0 A B : World} (h : Below A.heap.size A B) (hs : w0.heap.size ≤ A.heap.size) : KpT w0 A B := ⟨h.mono hs, fun b C hb => (h.block b (blk_lt hb)).trans hb, fun b C hb => (h.block b (blk_lt hb)).trans hb⟩
def tkV (t : Tk) : Value := .agg #[.int .u8 t.f0, .string t.f1, .int .i64 t.f2.f0, .int .i64 t.f2.f1, .int .i64 t.f2.f2, .int .i64 t.f3]

set_option maxRecDepth 100000 in
set_option maxHeartbeats 4000000 in
theorem walkT (n : Nat) (hn : 1 ≤ n) (w0 : World) (l M B : Nat) (J Jx : List Tk → World → Prop) (hJ : AbidesFrom B J)
    (hY : ∀ pre t W1, J pre W1 → pre.length < M → YieldAt Fence.wide (n - 1) Try.prog l #[tkV t] W1 fun e W' =>
      (e = .returned (.bool true) ∧ J (pre ++ [t]) W' ∧ KpT w0 W1 W') ∨ (e = .returned (.bool false) ∧ Jx (pre ++ [t]) W')) :
    ∀ (N : Nat) (x : Nd) (A : Option Addr) (c by_ bw : Nat) (W : World) (pre : List Tk), nds x ≤ N → nds x ≤ 1073741824 → x.f2.length ≤ c → Kd.C kNd w0 A x.f2.length x.f2 → Below w0.heap.size w0 W → J pre W → pre.length + (toks x).length ≤ M →
      W.heap[by_]? = some (.cells #[.func (.yield l) #[] #[]] 54 (0, 0)) → W.heap[bw]? = some (.cells #[.func (.func 33) #[] #[.pointer (some ⟨by_, 0, none⟩), .pointer (some ⟨bw, 0, none⟩)]] 65 (0, 0)) →
      CallsIn Fence.wide n Try.prog 33 #[.agg #[.int .u8 x.f0, .int .u8 x.f1.f0, .string x.f1.f1, .int .i64 x.f1.f2.f0, .int .i64 x.f1.f2.f1, .int .i64 x.f1.f2.f2, .int .i64 x.f1.f3, .slice A x.f2.length c], .pointer (some ⟨by_, 0, none⟩), .pointer (some ⟨bw, 0, none⟩)] W fun e W' =>
        (e = .returned (.bool true) ∧ J (pre ++ toks x) W' ∧ KpT w0 W W') ∨ (e = .returned (.bool false) ∧ ∃ q, q <+: toks x ∧ Jx (pre ++ q) W') := by
  intro N
  induction N with
  | zero => intro x A c by_ bw W pre hN; have := nds_pos x; omega
  | succ N ih =>
    intro x A c by_ bw W pre hN hbig hlc hC hbW hJ0 hM hby hbw
    have hlen : x.f2.length ≤ 1073741823 := by rw [nds_eq] at hbig; have := ndsL_len x.f2; omega
    have HJ := Lib.hid hJ
    have HY := Lib.hid hY
    have IH := Lib.hid ih
    have HC := Lib.hid hC
    have HLC := Lib.hid hlc
    have HNN := Lib.hid (And.intro hN hbig)
    have HM := Lib.hid hM
    obtain ⟨W1, hW1, h1, hb1, hz1⟩ := nd_new (W := W) (cs := #[.int .u8 x.f0, .int .u8 x.f1.f0, .string x.f1.f1, .int .i64 x.f1.f2.f0, .int .i64 x.f1.f2.f1, .int .i64 x.f1.f2.f2, .int .i64 x.f1.f3, .slice A x.f2.length c])
    have HBX := Lib.hid h1
    have HB1 := Lib.hid hb1
    have HJ1 : Hid (J pre W1) := Lib.hid (hJ pre W W1 none hJ0 (hW1 ▸ World.grownBy_alloc _ _ _) (fun r e => by cases e))
    have HBY := Lib.hid ((hb1.block _ (blk_lt hby)).trans hby)
    have HBW := Lib.hid ((hb1.block _ (blk_lt hbw)).trans hbw)
    have HB0 := Lib.hid (hbW.trans (hb1.mono hbW.size))
    have HS0 := Lib.hid hbW.size
    clear hJ hY ih hC hlc hN hbig hM h1 hb1 hz1 hJ0 hby hbw hbW
    refine callsIn_of_wp Try.func33 rfl trivial ?_ rfl
    simp only [Try.ntmps33, List.size_toArray, List.length_cons, List.length_nil, Nat.reduceAdd, Nat.reduceSub, Array.replicate_succ, Array.replicate_zero, List.push_toArray, List.append_toArray, List.nil_append, List.cons_append]
    by_cases h0 : x.f0 = 0
    · have e0 : (x.f0 == 0) = true := by simp [h0]
      have HT : Hid (toks x = [x.f1]) := Lib.hid (by rw [toks_eq, if_pos h0])
      clear h0
      obtain ⟨fn, tmps, assign, body, hyr, hR⟩ := HY.out pre x.f1 W1 HJ1.out (by have := HM.out; rw [HT.out] at this; simp at this; omega)
      have HR := Lib.hid hR
      unfold tkV at hyr
      have cy := blk_cell HBY.out 0
      simp only [List.getElem?_toArray, List.getElem?_cons_zero] at cy
      obtain ⟨q0, q1, q2, q3, q4, q5, q6, q7⟩ := nd_box HBX.out W1 (Below.refl _ _)
      clear hR
      gi_wp2
      refine HR.out.mono ?_
      rintro e W3 (⟨rfl, hJ3, hk3⟩ | ⟨rfl, hJx3⟩)
      · have HF := Lib.hid (And.intro hJ3 ((KpT.of_below HB1.out HS0.out).trans hk3))
        clear hJ3 hk3
        gi_wp2
        go_ret
        exact .inl ⟨rfl, by rw [HT.out]; exact HF.out.1, HF.out.2⟩
      · gi_wp2
        go_ret
        exact .inr ⟨rfl, [x.f1], by rw [HT.out]; exact List.prefix_refl _, hJx3⟩
    · have e0 : (x.f0 == 0) = false := beq_eq_false_iff_ne.2 h0
      have HT : Hid (toks x = toksL x.f2) := Lib.hid (by rw [toks_eq, if_neg h0])
      clear h0
      obtain ⟨q0, q1, q2, q3, q4, q5, q6, q7⟩ := nd_box HBX.out W1 (Below.refl _ _)
      gi_wp2
      gi_loopw [17] (fun iv wr => ∃ i : Nat, i ≤ x.f2.length ∧ iv = .int .i64 i ∧ Hid (J (pre ++ toksL (x.f2.take i)) wr ∧ KpT w0 W1 wr)) (fun iv _ => x.f2.length - (intOf iv).toNat)
      case atStart => exact ⟨0, by omega, rfl, Lib.hid ⟨by rw [List.take_zero, toksL, List.append_nil]; exact HJ1.out, KpT.refl _ _⟩⟩
      case round =>
        obtain ⟨i, hi, rfl, HL⟩ := hrel
        clear q0 q1 q2 q3 q4 q5 q6 q7
        by_cases hlt : i < x.f2.length
        · obtain ⟨y, hy⟩ : ∃ y, x.f2[i]? = some y := ⟨x.f2[i], List.getElem?_eq_getElem hlt⟩
          obtain ⟨ad, A1, c1, rfl, hcs, hl1, hC1⟩ := kid_at HC.out i y hlt hy
          obtain ⟨k0, k1, k2, k3, k4, k5, k6, k7⟩ := hcs
          have hbw := HB0.out.trans HL.out.2.below
          replace k0 := pw_cell_below hbw k0
          replace k1 := pw_cell_below hbw k1
          replace k2 := pw_cell_below hbw k2
          replace k3 := pw_cell_below hbw k3
          replace k4 := pw_cell_below hbw k4
          replace k5 := pw_cell_below hbw k5
          replace k6 := pw_cell_below hbw k6
          replace k7 := pw_cell_below hbw k7
          obtain ⟨W5, hW5, h5, hb5, hz5⟩ := nd_new (W := wr) (cs := #[.int .u8 y.f0, .int .u8 y.f1.f0, .string y.f1.f1, .int .i64 y.f1.f2.f0, .int .i64 y.f1.f2.f1, .int .i64 y.f1.f2.f2, .int .i64 y.f1.f3, .slice A1 y.f2.length c1])
          have hk5 : KpT w0 W1 W5 := HL.out.2.trans (KpT.of_below hb5 (Nat.le_trans HB0.out.size (HL.out.2.below.size)))
          have hJ5 : J (pre ++ toksL (x.f2.take i)) W5 := HJ.out _ wr W5 none HL.out.1 (hW5 ▸ World.grownBy_alloc _ _ _) (fun r e => by cases e)
          have hby5 := hk5.y _ _ HBY.out
          have hbw5 := hk5.w _ _ HBW.out
          have hny : nds y ≤ ndsL x.f2 := ndsL_mem (List.mem_of_getElem? hy)
          have hpre : (pre ++ toksL (x.f2.take i)).length + (toks y).length ≤ M := by
            have h1 := HM.out
            rw [HT.out] at h1
            have h2 : (toksL (x.f2.take (i + 1))).length ≤ (toksL x.f2).length := by
              have h3 := toksL_append (x.f2.take (i + 1)) (x.f2.drop (i + 1))
              rw [List.take_append_drop] at h3
              rw [h3, List.length_append]; omega
            rw [take_toks hy, List.length_append] at h2
            rw [List.length_append]
            omega
          have HIH := Lib.hid (IH.out y A1 c1 by_ bw W5 (pre ++ toksL (x.f2.take i)) (by have := HNN.out.1; rw [nds_eq] at this; omega) (by have := HNN.out.2; rw [nds_eq] at this; omega) hl1 hC1 (HB0.out.trans hk5.below) hJ5 hpre hby5 hbw5)
          have HK5 := Lib.hid hk5
          have HTK := Lib.hid (take_toks hy)
          have HPX : Hid (toksL (x.f2.take i) ++ toks y <+: toks x) := Lib.hid (by
            rw [HT.out, ← take_toks hy]
            have h3 := toksL_append (x.f2.take (i + 1)) (x.f2.drop (i + 1))
            rw [List.take_append_drop] at h3
            rw [h3]; exact List.prefix_append _ _)
          have cw := blk_cell hbw5 0
          simp only [List.getElem?_toArray, List.getElem?_cons_zero] at cw
          obtain ⟨q0, q1, q2, q3, q4, q5, q6, q7⟩ := nd_box h5 W5 (Below.refl _ _)
          have g1 : (0 : Int) ≤ (i : Int) := by omega
          have g2 : (i : Int) < (x.f2.length : Int) := by omega
          clear hl1 hC1 hbw h5 hb5 hz5 hk5 hJ5 hby5 hbw5 hny hpre hy HL
          gi_wp2
          refine ⟨trivial, ?_⟩
          refine (callsIn_wide.2 (callsIn_wide.1 HIH.out)).mono ?_
          rintro e W6 (⟨rfl, hJ6, hk6⟩ | ⟨rfl, q, hq, hjx⟩)
          · have HF := Lib.hid (And.intro hJ6 (HK5.out.trans hk6))
            clear hJ6 hk6 q0 q1 q2 q3 q4 q5 q6 q7 cw
            gi_wp2
            refine ⟨⟨i + 1, by omega, by push_cast; rfl, Lib.hid ⟨by rw [HTK.out, ← List.append_assoc]; exact HF.out.1, HF.out.2⟩⟩, by simp only [intOf]; omega⟩
          · have HF := Lib.hid (And.intro hq hjx)
            clear hq hjx q0 q1 q2 q3 q4 q5 q6 q7 cw
            gi_wp2
            go_ret
            refine .inr ⟨rfl, toksL (x.f2.take i) ++ q, ?_, by rw [← List.append_assoc]; exact HF.out.2⟩
            obtain ⟨r, hr⟩ := HF.out.1
            exact List.IsPrefix.trans ⟨r, by rw [List.append_assoc, hr]⟩ HPX.out
        · obtain rfl : i = x.f2.length := by omega
          have hf := HL.out
          rw [List.take_length] at hf
          have HF := Lib.hid hf
          clear hf HL
          gi_wp2
          go_ret
          exact .inl ⟨rfl, by rw [HT.out]; exact HF.out.1, (KpT.of_below HB1.out HS0.out).trans HF.out.2⟩

set_option maxRecDepth 100000 in
set_option maxHeartbeats 4000000 in
/-- Toks(x) hands back an iterator that holds to the contract. -/
theorem toks_stops (n : Nat) (hn : 1 ≤ n) (w0 : World) (x : Nd) (A : Option Addr) (c : Nat) (hlc : x.f2.length ≤ c) (hbig : nds x ≤ 1073741824) (hC : Kd.C kNd w0 A x.f2.length x.f2) (w : World) (hb : Below w0.heap.size w0 w) (Bn : Nat) (hBn : w.heap[Bn]? = some (.cells #[.int .u8 x.f0, .int .u8 x.f1.f0, .string x.f1.f1, .int .i64 x.f1.f2.f0, .int .i64 x.f1.f2.f1, .int .i64 x.f1.f2.f2, .int .i64 x.f1.f3, .slice A x.f2.length c] TN (0, 0))) :
    SeqStopsK Fence.wide n Try.prog 32 #[.pointer (some ⟨Bn, 0, none⟩)] (fun t : Tk => #[tkV t]) (KpT w0) (fun ys => ys = toks x) (fun pre => pre <+: toks x) (toks x).length w := by
  intro l J Jx W hW hJ hJx hY h0
  have hBnW := (hW.block Bn (blk_lt hBn)).trans hBn
  obtain ⟨W2, hW2⟩ : ∃ V, ((W.alloc (.cells #[.func (.yield l) #[] #[]] 54)).alloc (.cells #[.func (.func 33) #[] #[.pointer (some ⟨W.heap.size, 0, none⟩), .pointer (some ⟨W.heap.size + 1, 0, none⟩)]] 65)) = V := ⟨_, rfl⟩
  have hb2 : Below W.heap.size W W2 := by rw [← hW2]; exact ((Below.refl _ W).alloc (Nat.le_refl _) _).alloc (by simp) _
  have hy2 : W2.heap[W.heap.size]? = some (.cells #[.func (.yield l) #[] #[]] 54 (0, 0)) := by rw [← hW2]; exact (Below.heap_alloc _ _ _ (by simp)).trans (World.alloc_heap_new W _)
  have hw2 : W2.heap[W.heap.size + 1]? = some (.cells #[.func (.func 33) #[] #[.pointer (some ⟨W.heap.size, 0, none⟩), .pointer (some ⟨W.heap.size + 1, 0, none⟩)]] 65 (0, 0)) := by
    rw [← hW2]
    have := World.alloc_heap_new (W.alloc (.cells #[.func (.yield l) #[] #[]] 54)) (.cells #[.func (.func 33) #[] #[.pointer (some ⟨W.heap.size, 0, none⟩), .pointer (some ⟨W.heap.size + 1, 0, none⟩)]] 65)
    rwa [World.size_alloc] at this
  have hJ2 : J [] W2 := hJ [] W W2 none h0 (hW2 ▸ World.grownBy.trans (World.grownBy_alloc _ _ _) (World.grownBy_alloc _ _ _)) (fun r e => by cases e)
  have HWK := Lib.hid (walkT n hn w0 l (toks x).length W.heap.size J Jx hJ hY (nds x) x A c W.heap.size (W.heap.size + 1) W2 [] (Nat.le_refl _) hbig hlc hC (hb.trans ((hW.trans (hb2.mono hW.size)).mono hb.size)) hJ2 (by simp) hy2 hw2)
  obtain ⟨q0, q1, q2, q3, q4, q5, q6, q7⟩ := nd_box hBnW W2 hb2
  have HW2 := Lib.hid hW2
  have cw := blk_cell hw2 0
  simp only [List.getElem?_toArray, List.getElem?_cons_zero] at cw
  clear hJ hJx hY h0 hb2 hy2 hw2 hJ2 hBnW hW hC hBn
  refine callsIn_of_wp Try.func32 rfl trivial ?_ rfl
  simp only [Try.ntmps32, List.size_toArray, List.length_cons, List.length_nil, Nat.reduceAdd, Nat.reduceSub, Array.replicate_succ, Array.replicate_zero, List.push_toArray, List.append_toArray, List.nil_append, List.cons_append]
  gi_wp2
  refine ⟨trivial, ?_⟩
  refine (callsIn_wide.2 (callsIn_wide.1 HWK.out)).mono ?_
  rintro e W6 (⟨rfl, hJ6, -⟩ | ⟨rfl, q, hq, hjx⟩)
  · have HF := Lib.hid hJ6
    clear hJ6 q0 q1 q2 q3 q4 q5 q6 q7 cw
    gi_wp2
    go_end0
    exact ⟨⟨_, rfl⟩, .inl ⟨toks x, rfl, by simpa using HF.out⟩⟩
  · have HF := Lib.hid (And.intro hq hjx)
    clear hq hjx q0 q1 q2 q3 q4 q5 q6 q7 cw
    gi_wp2
    go_end0
    exact ⟨⟨_, rfl⟩, .inr ⟨q, HF.out.1, by simpa using HF.out.2⟩⟩
theorem toks_in (n : Nat) (x : Nd) (A : Option Addr) (len c : Nat) (w : World) :
    CallsIn Fence.wide n Try.prog 23 #[.agg #[.int .u8 x.f0, .int .u8 x.f1.f0, .string x.f1.f1, .int .i64 x.f1.f2.f0, .int .i64 x.f1.f2.f1, .int .i64 x.f1.f2.f2, .int .i64 x.f1.f3, .slice A len c]] w fun e w' => e = .returned (.func (.func 32) #[] #[.pointer (some ⟨w.heap.size, 0, none⟩)]) ∧ w' = w.alloc (.cells #[.int .u8 x.f0, .int .u8 x.f1.f0, .string x.f1.f1, .int .i64 x.f1.f2.f0, .int .i64 x.f1.f2.f1, .int .i64 x.f1.f2.f2, .int .i64 x.f1.f3, .slice A len c] TN) := by
  refine callsIn_wide.2 ?_
  go_enter Try.func23, Try.ntmps23
  go_wp2
  go_ret
  exact ⟨rfl, rfl⟩
end Go.Proofs.Ytfefldkljbbbpaa
