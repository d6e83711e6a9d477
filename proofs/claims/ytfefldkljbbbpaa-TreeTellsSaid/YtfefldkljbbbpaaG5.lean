/- kids, and the list that Same collects. -/
import Derived.Test.YtfefldkljbbbpaaG4
import Derived.RangeFuncNested
import Derived.RangeFuncBound
import Derived.RangeFuncCalls
import Derived.RangeFuncLeaves
import Derived.RangeFuncBox
import Derived.Shelf.Abstract
import Derived.OwnWalkIn
import Derived.TacticsInMore
import Derived.LoopNIn
import Derived.LoopIn
import Derived.Test.YtfefldkljbbbpaaG2
import Derived.Test.YtfefldkljbbbpaaG1
/- kids: the iterator over a node's kids that are no comments. -/
set_option linter.unusedVariables false
set_option linter.unusedSimpArgs false
namespace Go.Proofs.Ytfefldkljbbbpaa
open Go.RowKit Go.Shelf Go.Proofs.YtfefldkljbbbpaaW.PrintWords Go.Proofs.YtfefldkljbbbpaaW.PrintLast Go.Proofs.YtfefldkljbbbpaaW.PrintMore
attribute [local go_sem] Oper.semAt_some

/-- A node that lies in w0, as a value. -/
structure KV (w0 : World) (m : Nat) where
  x : Nd
  A : Option Addr
  c : Nat
  hc : x.f2.length ≤ c
  hC : Kd.C kNd w0 A x.f2.length x.f2
  hm : nds x ≤ m
def KV.val {w0 : World} {m : Nat} (k : KV w0 m) : Value := .agg #[.int .u8 k.x.f0, .int .u8 k.x.f1.f0, .string k.x.f1.f1, .int .i64 k.x.f1.f2.f0, .int .i64 k.x.f1.f2.f1, .int .i64 k.x.f1.f2.f2, .int .i64 k.x.f1.f3, .slice k.A k.x.f2.length k.c]
def isKid (x : Nd) : Bool := x.f0 != 0 || !isNote x.f1
def plainL (l : List Nd) : List Nd := l.filter isKid
theorem plainL_prefix (l : List Nd) (i : Nat) : plainL (l.take i) <+: plainL l := by
  conv => rhs; rw [← List.take_append_drop i l]
  unfold plainL
  rw [List.filter_append]
  exact List.prefix_append _ _

set_option maxRecDepth 100000 in
set_option maxHeartbeats 4000000 in
theorem kids_in (n : Nat) (x : Nd) (A : Option Addr) (len c : Nat) (w : World) :
    CallsIn Fence.wide n Try.prog 28 #[.agg #[.int .u8 x.f0, .int .u8 x.f1.f0, .string x.f1.f1, .int .i64 x.f1.f2.f0, .int .i64 x.f1.f2.f1, .int .i64 x.f1.f2.f2, .int .i64 x.f1.f3, .slice A len c]] w fun e w' => e = .returned (.func (.func 36) #[] #[.pointer (some ⟨w.heap.size, 0, none⟩)]) ∧ w' = w.alloc (.cells #[.int .u8 x.f0, .int .u8 x.f1.f0, .string x.f1.f1, .int .i64 x.f1.f2.f0, .int .i64 x.f1.f2.f1, .int .i64 x.f1.f2.f2, .int .i64 x.f1.f3, .slice A len c] TN) := by
  refine callsIn_wide.2 ?_
  go_enter Try.func28, Try.ntmps28
  go_wp2
  go_ret
  exact ⟨rfl, rfl⟩

set_option maxRecDepth 100000 in
set_option maxHeartbeats 4000000 in
/-- The iterator: for every loop body that keeps what lay below w0. -/
theorem kids1_in (n : Nat) (hn : 1 ≤ n) (w0 : World) (x : Nd) (A : Option Addr) (len c : Nat) (hlen : x.f2.length = len) (hC : Kd.C kNd w0 A len x.f2) (m : Nat) (hm : ndsL x.f2 ≤ m) (l Bn : Nat) (J Jx : List (KV w0 m) → World → Prop) (W : World) (hJ : AbidesFrom W.heap.size J)
    (hY : ∀ pre k W1, J pre W1 → pre.length < len → YieldAt Fence.wide (n - 1) Try.prog l #[KV.val k] W1 fun e W' =>
      (e = .returned (.bool true) ∧ J (pre ++ [k]) W' ∧ Below w0.heap.size W1 W') ∨ (e = .returned (.bool false) ∧ Jx (pre ++ [k]) W'))
    (hb : Below w0.heap.size w0 W) (hBn : W.cell? ⟨Bn, 7, none⟩ = some (.slice A len c)) (hl24 : len ≤ 1073741824) (h0 : J [] W) :
    CallsIn Fence.wide n Try.prog 36 #[.func (.yield l) #[] #[], .pointer (some ⟨Bn, 0, none⟩)] W fun e W' => (∃ v, e = .returned v) ∧
      ((∃ ys : List (KV w0 m), ys.map (·.x) = plainL x.f2 ∧ J ys W') ∨ (∃ pre : List (KV w0 m), pre.map (·.x) <+: plainL x.f2 ∧ Jx pre W')) := by
  refine callsIn_of_wp Try.func36 rfl trivial ?_ rfl
  simp only [Try.ntmps36, List.size_toArray, List.length_cons, List.length_nil, Nat.reduceAdd, Nat.reduceSub, Array.replicate_succ, Array.replicate_zero, List.push_toArray, List.append_toArray, List.nil_append, List.cons_append]
  gi_wp2
  gi_loopw [8] (fun iv wr => ∃ i : Nat, i ≤ len ∧ iv = .int .i64 i ∧ Hid (∃ ys : List (KV w0 m), ys.map (·.x) = plainL (x.f2.take i) ∧ ys.length ≤ i ∧ J ys wr ∧ Below w0.heap.size w0 wr)) (fun iv _ => len - (intOf iv).toNat)
  case atStart => exact ⟨0, by omega, rfl, Lib.hid ⟨[], by simp [plainL], by simp, h0, hb⟩⟩
  case round =>
    obtain ⟨i, hi, rfl, HL⟩ := hrel
    have HJ := Lib.hid hJ
    have HY := Lib.hid hY
    have HLEN := Lib.hid hlen
    have HC := Lib.hid hC
    clear hJ hY hlen hC hBn h0
    by_cases hlt : i < len
    · obtain ⟨y, hy⟩ : ∃ y, x.f2[i]? = some y := ⟨x.f2[i]'(by rw [HLEN.out]; exact hlt), List.getElem?_eq_getElem _⟩
      obtain ⟨ad, A1, c1, rfl, hcs, hl1, hC1⟩ := kid_at HC.out i y hlt hy
      obtain ⟨k0, k1, k2, k3, k4, k5, k6, k7⟩ := hcs
      obtain ⟨ys, hys, hyl, hJy, hbw⟩ := HL.out
      replace k0 := pw_cell_below hbw k0
      replace k1 := pw_cell_below hbw k1
      replace k2 := pw_cell_below hbw k2
      replace k3 := pw_cell_below hbw k3
      replace k4 := pw_cell_below hbw k4
      replace k5 := pw_cell_below hbw k5
      replace k6 := pw_cell_below hbw k6
      replace k7 := pw_cell_below hbw k7
      obtain ⟨kv, hkx, hkv⟩ : ∃ kv : KV w0 m, kv.x = y ∧ KV.val kv = .agg #[.int .u8 y.f0, .int .u8 y.f1.f0, .string y.f1.f1, .int .i64 y.f1.f2.f0, .int .i64 y.f1.f2.f1, .int .i64 y.f1.f2.f2, .int .i64 y.f1.f3, .slice A1 y.f2.length c1] := ⟨⟨y, A1, c1, hl1, hC1, Nat.le_trans (ndsL_mem (List.mem_of_getElem? hy)) hm⟩, rfl, rfl⟩
      have HKV := Lib.hid hkv
      have HKX := Lib.hid hkx
      have HYS : Hid (plainL (x.f2.take (i + 1)) = plainL (x.f2.take i) ++ plainL [y]) := Lib.hid (by rw [List.take_add_one, hy]; simp [plainL, List.filter_append])
      have HY0 : Hid (ys.map (·.x) = plainL (x.f2.take i)) := Lib.hid hys
      have HBW := Lib.hid hbw
      have HJY := Lib.hid hJy
      clear hy hkv hkx hys hbw hJy HL hl1 hC1
      by_cases hk : y.f0 = 0
      · have hpl : plainL [y] = if isNote y.f1 then [] else [y] := by
          cases hbn : isNote y.f1 <;> simp [plainL, isKid, hk, hbn]
        have HPL := Lib.hid hpl
        have CC := Lib.hid (comment_any y.f1)
        have HK0 := Lib.hid hk
        rw [hk] at k0
        obtain ⟨W6, hW6⟩ : ∃ W6, wr.alloc (.cells #[.int .u8 0, .int .u8 y.f1.f0, .string y.f1.f1, .int .i64 y.f1.f2.f0, .int .i64 y.f1.f2.f1, .int .i64 y.f1.f2.f2, .int .i64 y.f1.f3, .slice A1 y.f2.length c1] TN) = W6 := ⟨_, rfl⟩
        have hs6 : W6.heap.size = wr.heap.size + 1 := by rw [← hW6, World.size_alloc]
        have hby : ∀ w2, Below W6.heap.size W6 w2 → _ := fun w2 hb2 => box8 (w := wr) (w1 := w2) (a := .int .u8 0) (b := .int .u8 y.f1.f0) (c := .string y.f1.f1) (d := .int .i64 y.f1.f2.f0) (e := .int .i64 y.f1.f2.f1) (f := .int .i64 y.f1.f2.f2) (g := .int .i64 y.f1.f3) (h := .slice A1 y.f2.length c1) (T := TN) (by rw [hW6, ← hs6]; exact hb2)
        have hJ6 : J ys W6 := by rw [← hW6]; exact HJ.out ys wr _ none HJY.out (World.grownBy_alloc _ _ _) (fun r e => by cases e)
        have hB6 : Below w0.heap.size w0 W6 := by rw [← hW6]; exact HBW.out.alloc HBW.out.size _
        have HJ6 := Lib.hid hJ6
        have HB6 := Lib.hid hB6
        have HBY := Lib.hid hby
        obtain ⟨q0, q1, q2, q3, q4, q5, q6, q7⟩ := hby W6 (Below.refl _ _)
        clear hk hpl hJ6 hB6 hby
        gi_wp2
        refine ⟨trivial, ?_⟩
        gi_at_call 25
        refine (callsIn_wide.2 (CC.out W6)).mono ?_
        rintro e w2 ⟨rfl, hb2⟩
        clear q0 q1 q2 q3 q4 q5 q6 q7
        obtain ⟨q0, q1, q2, q3, q4, q5, q6, q7⟩ := HBY.out w2 hb2
        have hJ2 : J ys w2 := HJ.out ys W6 w2 none HJ6.out (grown_of_below hb2 none) (fun r e => by cases e)
        have hB2 : Below w0.heap.size w0 w2 := HB6.out.trans (hb2.mono HB6.out.size)
        have HB2 := Lib.hid hB2
        have HJ2 := Lib.hid hJ2
        cases hbn : isNote y.f1 with
        | true =>
          rw [hbn, if_pos rfl] at HPL
          clear hb2 hJ2 hB2
          gi_wp2
          refine ⟨fun _ h => (by cases h), ?_⟩
          gi_wp2
          refine ⟨⟨i + 1, by omega, by push_cast; rfl, Lib.hid ⟨ys, ?_, by omega, HJ2.out, HB2.out⟩⟩, by simp only [intOf]; omega⟩
          rw [HY0.out, HYS.out, HPL.out, List.append_nil]
        | false =>
          rw [hbn, if_neg (by decide)] at HPL
          obtain ⟨fn, tmps, assign, body, hyr, hR⟩ := HY.out ys kv w2 hJ2 (by omega)
          have HR := Lib.hid hR
          rw [HKV.out, HK0.out] at hyr
          clear hb2 hJ2 hB2 hR
          gi_wp2
          refine HR.out.mono ?_
          rintro e W3 (⟨rfl, hJ3, hk3⟩ | ⟨rfl, hJx3⟩)
          · gi_wp2
            refine ⟨⟨i + 1, by omega, by push_cast; rfl, Lib.hid ⟨ys ++ [kv], ?_, by simp; omega, hJ3, HB2.out.trans hk3⟩⟩, by simp only [intOf]; omega⟩
            rw [List.map_append, HY0.out, HYS.out, HPL.out, List.map_cons, List.map_nil, HKX.out]
          · gi_wp2
            refine bodyPost_ret (results_none rfl _ _ _) rfl ?_
            refine ⟨⟨_, rfl⟩, .inr ⟨ys ++ [kv], ?_, hJx3⟩⟩
            rw [List.map_append, HY0.out, List.map_cons, List.map_nil, HKX.out, ← HPL.out, ← HYS.out]
            exact plainL_prefix x.f2 (i + 1)
      · have dk : (y.f0 != 0) = true := bne_iff_ne.2 hk
        have hpl : plainL [y] = [y] := by simp [plainL, isKid, dk]
        have HPL := Lib.hid hpl
        obtain ⟨W6, hW6⟩ : ∃ W6, wr.alloc (.cells #[.int .u8 y.f0, .int .u8 y.f1.f0, .string y.f1.f1, .int .i64 y.f1.f2.f0, .int .i64 y.f1.f2.f1, .int .i64 y.f1.f2.f2, .int .i64 y.f1.f3, .slice A1 y.f2.length c1] TN) = W6 := ⟨_, rfl⟩
        have hJ6 : J ys W6 := by rw [← hW6]; exact HJ.out ys wr _ none HJY.out (World.grownBy_alloc _ _ _) (fun r e => by cases e)
        have hB6 : Below w0.heap.size w0 W6 := by rw [← hW6]; exact HBW.out.alloc HBW.out.size _
        obtain ⟨fn, tmps, assign, body, hyr, hR⟩ := HY.out ys kv W6 hJ6 (by omega)
        have HR := Lib.hid hR
        have HB6 := Lib.hid hB6
        rw [HKV.out] at hyr
        have hs6 : W6.heap.size = wr.heap.size + 1 := by rw [← hW6, World.size_alloc]
        have hby : Below (wr.heap.size + 1) (wr.alloc (.cells #[.int .u8 y.f0, .int .u8 y.f1.f0, .string y.f1.f1, .int .i64 y.f1.f2.f0, .int .i64 y.f1.f2.f1, .int .i64 y.f1.f2.f2, .int .i64 y.f1.f3, .slice A1 y.f2.length c1] TN)) W6 := by rw [hW6]; exact Below.refl _ _
        obtain ⟨q0, q1, q2, q3, q4, q5, q6, q7⟩ := box8 hby
        clear hk hpl hR hJ6 hB6 hby
        gi_wp2
        refine ⟨trivial, ?_⟩
        gi_wp2
        refine HR.out.mono ?_
        rintro e W3 (⟨rfl, hJ3, hk3⟩ | ⟨rfl, hJx3⟩)
        · gi_wp2
          refine ⟨⟨i + 1, by omega, by push_cast; rfl, Lib.hid ⟨ys ++ [kv], ?_, by simp; omega, hJ3, HB6.out.trans hk3⟩⟩, by simp only [intOf]; omega⟩
          rw [List.map_append, HY0.out, HYS.out, HPL.out, List.map_cons, List.map_nil, HKX.out]
        · gi_wp2
          refine bodyPost_ret (results_none rfl _ _ _) rfl ?_
          refine ⟨⟨_, rfl⟩, .inr ⟨ys ++ [kv], ?_, hJx3⟩⟩
          rw [List.map_append, HY0.out, List.map_cons, List.map_nil, HKX.out, ← HPL.out, ← HYS.out]
          exact plainL_prefix x.f2 (i + 1)
    · obtain rfl : len = i := by omega
      obtain ⟨ys, hys, hyl, hJy, hbw⟩ := HL.out
      rw [List.take_of_length_le (by rw [HLEN.out]; exact Nat.le_refl _)] at hys
      have HYS := Lib.hid (And.intro hys hJy)
      clear hys hyl hJy hbw HL
      gi_wp2
      go_end0
      exact ⟨⟨_, rfl⟩, .inl ⟨ys, HYS.out.1, HYS.out.2⟩⟩
/-- kids(x) hands back an iterator that holds to the contract. -/
theorem kids_stops (n : Nat) (hn : 1 ≤ n) (w0 : World) (x : Nd) (A : Option Addr) (c : Nat) (hC : Kd.C kNd w0 A x.f2.length x.f2) (m : Nat) (hm : ndsL x.f2 ≤ m) (w : World) (hb : Below w0.heap.size w0 w) (Bn : Nat) (hBn : w.cell? ⟨Bn, 7, none⟩ = some (.slice A x.f2.length c)) (hB : Bn < w.heap.size) (hl : x.f2.length ≤ 1073741824) :
    SeqStopsK Fence.wide n Try.prog 36 #[.pointer (some ⟨Bn, 0, none⟩)] (fun k : KV w0 m => #[KV.val k]) (Below w0.heap.size) (fun ys => ys.map (·.x) = plainL x.f2) (fun pre => pre.map (·.x) <+: plainL x.f2) x.f2.length w := fun l J Jx W hW hJ _ hY h0 =>
  kids1_in n hn w0 x A x.f2.length c rfl hC m hm l Bn J Jx W hJ hY (hb.trans (hW.mono hb.size)) ((hW.cell (p := ⟨Bn, 7, none⟩) hB).trans hBn) hl h0
end Go.Proofs.Ytfefldkljbbbpaa

/- Same: its leaves; the list that it collects. -/
set_option linter.unusedVariables false
set_option linter.unusedSimpArgs false
namespace Go.Proofs.Ytfefldkljbbbpaa
open Go.RowKit Go.Shelf Go.Proofs.YtfefldkljbbbpaaW.PrintWords Go.Proofs.YtfefldkljbbbpaaW.PrintLast Go.Proofs.YtfefldkljbbbpaaW.PrintMore
attribute [local go_sem] Oper.semAt_some

def sameN : Nat → Nd → Nd → Bool
  | 0, _, _ => true
  | k + 1, x, y => if x.f0 = y.f0 then (if x.f0 = 0 then x.f1.f0 == y.f1.f0 && x.f1.f1.toList == y.f1.f1.toList
      else (plainL x.f2).length == (plainL y.f2).length && ((plainL x.f2).zip (plainL y.f2)).all fun p => sameN k p.1 p.2) else false

theorem results_cellB {fn : Func} (hr : fn.results = #[.cell 4 4]) (tmps : Array Value) (w : World) (B : Nat) (b : Bool) (hp : tmps.getD 4 undef = .pointer (some ⟨B, 0, none⟩)) (hc : w.cell? ⟨B, 0, none⟩ = some (.bool b)) :
    (results fn tmps).run Try.prog w = .ok (.bool b) w := by
  have hp' : tmps[4]?.getD undef = .pointer (some ⟨B, 0, none⟩) := by simpa using hp
  simp [results, hr, hp', asAddr, loadVar, go_sem, hc]

set_option maxRecDepth 100000 in
set_option maxHeartbeats 4000000 in
theorem same_leaf (w : World) (x y : Nd) (A B : Option Addr) (c d : Nat) (k : Nat) (h : x.f0 ≠ y.f0 ∨ x.f0 = 0) :
    Calls Try.prog 17 #[.agg #[.int .u8 x.f0, .int .u8 x.f1.f0, .string x.f1.f1, .int .i64 x.f1.f2.f0, .int .i64 x.f1.f2.f1, .int .i64 x.f1.f2.f2, .int .i64 x.f1.f3, .slice A x.f2.length c], .agg #[.int .u8 y.f0, .int .u8 y.f1.f0, .string y.f1.f1, .int .i64 y.f1.f2.f0, .int .i64 y.f1.f2.f1, .int .i64 y.f1.f2.f2, .int .i64 y.f1.f3, .slice B y.f2.length d]] w fun e w' => e = .returned (.bool (sameN (k + 1) x y)) ∧ Below w.heap.size w w' := by
  have H := Lib.hid h
  by_cases h0 : x.f0 = y.f0
  · have hx : x.f0 = 0 := by rcases h with h | h; exact absurd h0 h; exact h
    have dk : (x.f0 != y.f0) = false := by simp [h0]
    have hs : sameN (k + 1) x y = (x.f1.f0 == y.f1.f0 && x.f1.f1.toList == y.f1.f1.toList) := by rw [sameN, if_pos h0, if_pos hx]
    rw [hs]
    have hy : y.f0 = 0 := by rw [← h0]; exact hx
    rw [hx, hy]
    clear H h hs h0 hx hy dk
    by_cases h1 : x.f1.f0 = y.f1.f0
    · have d1 : (x.f1.f0 == y.f1.f0) = true := by simp [h1]
      rw [d1]
      go_enter Try.func17, Try.ntmps17
      go_wp2
      refine bodyPost_ret (results_cellB rfl _ _ (w.heap.size + 1 + 1) (x.f1.f1.toList == y.f1.f1.toList) rfl ?_) rfl ?_
      · go_simp
      · exact ⟨rfl, (((Below.refl _ w).alloc (Nat.le_refl _) _).alloc (by simp) _).alloc (by simp; omega) _⟩
    · have d1 : (x.f1.f0 == y.f1.f0) = false := by simp [h1]
      rw [d1]
      go_enter Try.func17, Try.ntmps17
      go_wp2
      refine bodyPost_ret (results_cellB rfl _ _ (w.heap.size + 1 + 1) false rfl ?_) rfl ?_
      · go_simp
      · exact ⟨rfl, (((Below.refl _ w).alloc (Nat.le_refl _) _).alloc (by simp) _).alloc (by simp; omega) _⟩
  · have dk : (x.f0 != y.f0) = true := by simp [h0]
    have hs : sameN (k + 1) x y = false := by rw [sameN, if_neg h0]
    rw [hs]
    clear H h hs h0
    go_enter Try.func17, Try.ntmps17
    go_wp2
    refine bodyPost_ret (results_cellB rfl _ _ (w.heap.size + 1 + 1) false rfl ?_) rfl ?_
    · go_simp
    · exact ⟨rfl, (((Below.refl _ w).alloc (Nat.le_refl _) _).alloc (by simp) _).alloc (by simp; omega) _⟩

/-- The cells of the kids that are collected. -/
def kvCells {w0 : World} {m : Nat} (ks : List (KV w0 m)) : List Value := ks.flatMap fun k => [.int .u8 k.x.f0, .int .u8 k.x.f1.f0, .string k.x.f1.f1, .int .i64 k.x.f1.f2.f0, .int .i64 k.x.f1.f2.f1, .int .i64 k.x.f1.f2.f2, .int .i64 k.x.f1.f3, .slice k.A k.x.f2.length k.c]
/-- The list under way: a box (block B) holds a slice that owns the kids' cells. -/
def Coll (w0 W0 : World) (m B : Nat) (ks : List (KV w0 m)) (W : World) : Prop :=
  W0.grownBy W (some B) ∧ ∃ u, Boxed W B 33 u ∧ W.ownsRow W0.heap.size TN 8 u ks.length (kvCells ks)

theorem coll_own {w0 W0 : World} {m B Bd : Nat} (hB : W0.heap.size ≤ Bd) : OwnFrom Bd (Coll w0 W0 m B) := by
  rintro s X Y row ⟨h1, u, hu, ho⟩ hg hr
  have hrow : ∀ r, row = some r → ∃ o : Obj, X.heap[r]? = some o ∧ o.isCells = false := fun r e => (hr r e).2
  refine ⟨⟨hg.os.trans h1.os, hg.tape.trans h1.tape, hg.output.trans h1.output, Nat.le_trans h1.size hg.size, fun k hk hne => ?_⟩, ?_⟩
  · rw [hg.block k (Nat.lt_of_lt_of_le hk h1.size) (fun e => by have := (hr k e.symm).1; omega), h1.block k hk hne]
  · obtain ⟨v, a, b, _⟩ := holdsRow_own W0.heap.size B 33 TN 8 (fun ks : List (KV w0 m) => ks.length) kvCells (fun _ _ => True) s X Y row ⟨u, hu, ho, trivial⟩ hg hrow
    exact ⟨v, a, b⟩

/-- From V to V': what is no cells lies as it lay (from W0 on), what lay below w0 too, and what lay below W0 but the box. -/
structure Rel3 (w0 W0 : World) (B : Nat) (V V' : World) : Prop where
  kf : KeepsFrom W0.heap.size V V'
  bl : Below w0.heap.size V V'
  lo : ∀ j, j < W0.heap.size → j ≠ B → V'.heap[j]? = V.heap[j]?
theorem Rel3.trans {w0 W0 : World} {B : Nat} {X Y Z : World} (h : Rel3 w0 W0 B X Y) (h' : Rel3 w0 W0 B Y Z) : Rel3 w0 W0 B X Z := ⟨h.kf.trans h'.kf, h.bl.trans h'.bl, fun j a b => (h'.lo j a b).trans (h.lo j a b)⟩
theorem rel3_row {w0 W0 : World} {B g : Nat} {V V' : World} (hz : w0.heap.size ≤ W0.heap.size) (hg : V.grownBy V' (some g)) (hge : W0.heap.size ≤ g) (hz' : W0.heap.size ≤ V.heap.size) (hc : ∀ o, V.heap[g]? = some o → o.isCells = true) : Rel3 w0 W0 B V V' :=
  ⟨(KeepsOthers.of_grownBy hg (fun j o e ho => by cases e; exact hc o ho)).from _, (Below.refl _ V).grown hg (Nat.le_trans hz hz') (fun j e => by cases e; omega), fun j hj _ => hg.block j (Nat.lt_of_lt_of_le hj hz') (fun e => by cases e; omega)⟩
theorem rel3_new {w0 W0 : World} {B : Nat} {V V' : World} (hz : w0.heap.size ≤ W0.heap.size) (hg : V.grownBy V' none) (hz' : W0.heap.size ≤ V.heap.size) : Rel3 w0 W0 B V V' :=
  ⟨(KeepsOthers.of_grownBy hg (fun j o e ho => nomatch e)).from _, (Below.refl _ V).grown hg (Nat.le_trans hz hz') (fun j e => nomatch e), fun j hj _ => hg.block j (Nat.lt_of_lt_of_le hj hz') (fun e => nomatch e)⟩
theorem rel3_box {w0 W0 : World} {B : Nat} {V : World} (v : Value) (h0 : w0.heap.size ≤ B) : Rel3 w0 W0 B V (V.setCell ⟨B, 0, none⟩ v) :=
  ⟨(KeepsOthers.setCell _ _ _).from _, (Below.refl _ V).setCell (p := ⟨B, 0, none⟩) h0 _, fun j _ hne => Below.heap_setCell V ⟨B, 0, none⟩ v j hne⟩

theorem kv_len {w0 : World} {m : Nat} (k : KV w0 m) : (ndCells k.x.f0 k.x.f1 (.slice k.A k.x.f2.length k.c)).length = 8 := rfl
theorem kvCells_snoc {w0 : World} {m : Nat} (pre : List (KV w0 m)) (k : KV w0 m) : kvCells (pre ++ [k]) = kvCells pre ++ ndCells k.x.f0 k.x.f1 (.slice k.A k.x.f2.length k.c) := by
  simp [kvCells, ndCells]

/-- What is behind a round in which one kid has been put to the list. -/
def Fin3 (w0 W0 : World) (m B : Nat) (W : World) (ks : List (KV w0 m)) (V : World) : Prop := KeepsFrom W0.heap.size W V ∧ Below w0.heap.size W V ∧ Coll w0 W0 m B ks V
theorem coll_push {w0 W0 W Wd w1 : World} {s3 g1 c1 c5 : Nat} {A5 : Option Addr} {m : Nat} {pre : List (KV w0 m)} {k : KV w0 m} (h3 : s3 < W0.heap.size) (h3' : w0.heap.size ≤ s3)
    (hrel : KeepsFrom W0.heap.size W Wd ∧ Below w0.heap.size W Wd) (hgd : W0.grownBy Wd (some s3)) (hbd : Boxed Wd s3 33 (.slice A5 pre.length c5)) (hod : Wd.ownsRow W0.heap.size TN 8 (.slice A5 pre.length c5) pre.length (kvCells pre))
    (hg : Wd.grownBy w1 (Value.slice A5 pre.length c5).ownBlock) (ho : w1.ownsRow W0.heap.size TN 8 (.slice (some ⟨g1, 0, none⟩) (pre.length + 1) c1) (pre.length + 1) (kvCells pre ++ zNd)) :
    (∃ cur, w1.heap[g1]? = some (.cells cur TN (0, 0)) ∧ pre.length * 8 + 8 ≤ cur.size) ∧
    (∃ cur, (w1.setCells s3 0 [.slice (some ⟨g1, 0, none⟩) (pre.length + 1) c1]).heap[g1]? = some (.cells cur TN (0, 0)) ∧ pre.length * 8 + 8 ≤ cur.size) ∧
    w1.heap[s3]? = some (.cells #[.slice A5 pre.length c5] 33 (0, 0)) ∧
    (w1.setCells g1 (pre.length * 8) (ndCells k.x.f0 k.x.f1 (.slice k.A k.x.f2.length k.c))).heap[s3]? = some (.cells #[.slice A5 pre.length c5] 33 (0, 0)) ∧
    Fin3 w0 W0 m s3 W (pre ++ [k]) ((w1.setCells g1 (pre.length * 8) (ndCells k.x.f0 k.x.f1 (.slice k.A k.x.f2.length k.c))).setCells s3 0 [.slice (some ⟨g1, 0, none⟩) (pre.length + 1) c1]) ∧
    Fin3 w0 W0 m s3 W (pre ++ [k]) ((w1.setCells s3 0 [.slice (some ⟨g1, 0, none⟩) (pre.length + 1) c1]).setCells g1 (pre.length * 8) (ndCells k.x.f0 k.x.f1 (.slice k.A k.x.f2.length k.c))) := by
  have hz : w0.heap.size ≤ W0.heap.size := by omega
  have hb1 : Boxed w1 s3 33 (.slice A5 pre.length c5) := hbd.kept hg (hbd.not_row (by decide) hod)
  have hkl : (kvCells pre).length = pre.length * 8 := hod.1
  have hge : W0.heap.size ≤ g1 := by
    rcases ho.2 with ⟨_, h⟩ | ⟨g, cap, cur, he, h, _⟩
    · omega
    · injection he with he _ _
      injection he with he
      injection he with he
      omega
  have hne : s3 ≠ g1 := by omega
  have r0 : Rel3 w0 W0 s3 Wd w1 := by
    rcases hod.2 with ⟨he, _⟩ | ⟨g, cap, cur, he, h, hh, _⟩
    · rw [he] at hg
      exact rel3_new hz hg hgd.size
    · rw [he] at hg
      exact rel3_row hz hg h hgd.size (fun o ho => by rw [hh] at ho; cases ho; rfl)
  have hs1 : W0.heap.size ≤ w1.heap.size := Nat.le_trans hgd.size hg.size
  obtain ⟨hoA, cur1, hh1, hf1⟩ := row_set_end ho (pre.length * 8) (ndCells k.x.f0 k.x.f1 (.slice k.A k.x.f2.length k.c)) hkl rfl
  have hoB : (w1.setCell ⟨s3, 0, none⟩ (.slice (some ⟨g1, 0, none⟩) (pre.length + 1) c1)).ownsRow W0.heap.size TN 8 (.slice (some ⟨g1, 0, none⟩) (pre.length + 1) c1) (pre.length + 1) (kvCells pre ++ zNd) :=
    ho.kept (grownBy_setCell' w1 s3 _) (.inr (fun e => hne (by simpa [Value.ownBlock] using e.symm)))
  obtain ⟨hoB', cur4, hh4, hf4⟩ := row_set_end hoB (pre.length * 8) (ndCells k.x.f0 k.x.f1 (.slice k.A k.x.f2.length k.c)) hkl rfl
  have hbA : Boxed (w1.setCells g1 (pre.length * 8) (ndCells k.x.f0 k.x.f1 (.slice k.A k.x.f2.length k.c))) s3 33 (.slice A5 pre.length c5) := hb1.kept (setCells_grown _ _ _ _) (fun e => hne (by simpa using e))
  have hsA : w1.heap.size ≤ (w1.setCells g1 (pre.length * 8) (ndCells k.x.f0 k.x.f1 (.slice k.A k.x.f2.length k.c))).heap.size := (setCells_grown _ _ _ _).size
  have fin : ∀ V, Rel3 w0 W0 s3 w1 V → Boxed V s3 33 (.slice (some ⟨g1, 0, none⟩) (pre.length + 1) c1) → V.ownsRow W0.heap.size TN 8 (.slice (some ⟨g1, 0, none⟩) (pre.length + 1) c1) (pre.length + 1) (kvCells pre ++ ndCells k.x.f0 k.x.f1 (.slice k.A k.x.f2.length k.c)) → Fin3 w0 W0 m s3 W (pre ++ [k]) V := by
    intro V hr hb ho
    have hR := r0.trans hr
    refine ⟨hrel.1.trans hR.kf, hrel.2.trans hR.bl, ⟨hR.bl.os.trans hgd.os, hR.bl.tape.trans hgd.tape, hR.bl.output.trans hgd.output, Nat.le_trans hgd.size hR.bl.size, fun j hj hne => (hR.lo j hj (fun e => hne (by rw [e]))).trans (hgd.block j hj hne)⟩, _, hb, ?_⟩
    rw [kvCells_snoc, List.length_append]
    exact ho
  refine ⟨⟨cur1, hh1, hf1⟩, ⟨cur4, hh4, hf4⟩, hb1, hbA, fin _ ?_ ?_ ?_, fin _ ?_ ?_ ?_⟩
  · exact (rel3_row hz (setCells_grown _ _ _ _) hge hs1 (fun o h => by rw [hh1] at h; cases h; rfl)).trans (rel3_box _ h3')
  · exact hbA.set _
  · exact hoA.kept (grownBy_setCell' _ s3 _) (.inr (fun e => hne (by simpa [Value.ownBlock] using e.symm)))
  · exact (rel3_box (B := s3) _ h3').trans (rel3_row hz (setCells_grown _ _ _ _) hge (Nat.le_trans hs1 (grownBy_setCell' w1 s3 _).size) (fun o h => by rw [hh4] at h; cases h; rfl))
  · exact (hb1.set _).kept (setCells_grown _ _ _ _) (fun e => hne (by simpa using e))
  · exact hoB'
end Go.Proofs.Ytfefldkljbbbpaa

/- Same: plain laws of lists; what a round may write. -/
set_option linter.unusedVariables false
set_option linter.unusedSimpArgs false
namespace Go.Proofs.Ytfefldkljbbbpaa
open Go.RowKit Go.Shelf Go.Proofs.YtfefldkljbbbpaaW.PrintWords Go.Proofs.YtfefldkljbbbpaaW.PrintLast Go.Proofs.YtfefldkljbbbpaaW.PrintMore

theorem beq_cast (a b : Nat) : ((a : Int) == (b : Int)) = (a == b) := by
  by_cases h : a = b
  · rw [h, beq_self_eq_true, beq_self_eq_true]
  · have h' : (a : Int) ≠ (b : Int) := by omega
    rw [beq_eq_false_iff_ne.2 h, beq_eq_false_iff_ne.2 h']
/-- So far each node of xs has its like in ys. -/
def okL (p : Nd → Nd → Bool) (xs ys : List Nd) : Prop := xs.length ≤ ys.length ∧ ∀ (i : Nat) a b, xs[i]? = some a → ys[i]? = some b → p a b = true
theorem okL_nil (p : Nd → Nd → Bool) (ys : List Nd) : okL p [] ys := ⟨by simp, fun i a b h => by simp at h⟩
theorem okL_snoc {p : Nd → Nd → Bool} {xs ys : List Nd} {a b : Nd} (h : okL p xs ys) (hb : ys[xs.length]? = some b) : okL p (xs ++ [a]) ys ↔ p a b = true := by
  have hlt := (List.getElem?_eq_some_iff.1 hb).1
  constructor
  · intro h'
    exact h'.2 xs.length a b (by simp) hb
  · intro hp
    refine ⟨by simp; omega, fun i a' b' ha hb' => ?_⟩
    by_cases hi : i < xs.length
    · exact h.2 i a' b' (by rwa [List.getElem?_append_left hi] at ha) hb'
    · have : i < (xs ++ [a]).length := (List.getElem?_eq_some_iff.1 ha).1
      have hi' : i = xs.length := by simp at this; omega
      subst hi'
      simp at ha
      rw [hb] at hb'
      cases hb'
      rw [← ha]
      exact hp
theorem okL_long {p : Nd → Nd → Bool} {xs ys : List Nd} {a : Nd} (h : ys.length ≤ xs.length) : ¬ okL p (xs ++ [a]) ys := fun h' => by
  have := h'.1
  simp at this
  omega
theorem okL_all {p : Nd → Nd → Bool} {xs ys : List Nd} (h : okL p xs ys) : (xs.length == ys.length && (xs.zip ys).all fun q => p q.1 q.2) = (xs.length == ys.length) := by
  have : ((xs.zip ys).all fun q => p q.1 q.2) = true := by
    rw [List.all_eq_true]
    intro q hq
    obtain ⟨i, hi⟩ := List.mem_iff_getElem?.1 hq
    rw [List.getElem?_zip_eq_some] at hi
    exact h.2 i _ _ hi.1 hi.2
  rw [this, Bool.and_true]
theorem okL_bad {p : Nd → Nd → Bool} {pre xs ys : List Nd} (h : ¬ okL p pre ys) (hp : pre <+: xs) : (xs.length == ys.length && (xs.zip ys).all fun q => p q.1 q.2) = false := by
  rw [Bool.and_eq_false_iff]
  by_cases hl : xs.length = ys.length
  · right
    rw [← Bool.not_eq_true]
    intro ha
    rw [List.all_eq_true] at ha
    obtain ⟨t, rfl⟩ := hp
    refine h ⟨by simp at hl; omega, fun i a b h1 h2 => ?_⟩
    have hi := (List.getElem?_eq_some_iff.1 h1).1
    exact ha (a, b) (List.mem_iff_getElem?.2 ⟨i, by rw [List.getElem?_zip_eq_some]; exact ⟨by rw [List.getElem?_append_left hi]; exact h1, h2⟩⟩)
  · left
    exact beq_eq_false_iff_ne.2 hl

/-- From W1 to V: all but two boxes lies as it lay. -/
structure Rel2 (W1 : World) (b1 b2 : Nat) (V : World) : Prop where
  os : V.os = W1.os
  tape : V.tape = W1.tape
  output : V.output = W1.output
  size : W1.heap.size ≤ V.heap.size
  block : ∀ k, k < W1.heap.size → k ≠ b1 → k ≠ b2 → V.heap[k]? = W1.heap[k]?
theorem Rel2.refl (W1 : World) (b1 b2 : Nat) : Rel2 W1 b1 b2 W1 := ⟨rfl, rfl, rfl, Nat.le_refl _, fun _ _ _ _ => rfl⟩
theorem Rel2.grown {W1 V V' : World} {b1 b2 : Nat} {row : Option Nat} (h : Rel2 W1 b1 b2 V) (hg : V.grownBy V' row) (hr : ∀ j, row = some j → j = b1 ∨ j = b2 ∨ W1.heap.size ≤ j) : Rel2 W1 b1 b2 V' :=
  ⟨hg.os.trans h.os, hg.tape.trans h.tape, hg.output.trans h.output, Nat.le_trans h.size hg.size, fun k hk h1 h2 => (hg.block k (Nat.lt_of_lt_of_le hk h.size) (fun e => by rcases hr k e.symm with h | h | h <;> omega)).trans (h.block k hk h1 h2)⟩
theorem rel2_own {β : Type} {W1 : World} {b1 b2 Bd : Nat} (hB : W1.heap.size ≤ Bd) : OwnFrom Bd (fun (_ : β) V => Rel2 W1 b1 b2 V) := fun s X Y row h hg hr =>
  h.grown hg fun j e => .inr (.inr (Nat.le_trans hB (hr j e).1))
theorem Rel2.below {w W1 V : World} {b1 b2 : Nat} (h : Rel2 W1 b1 b2 V) (hb : Below w.heap.size w W1) (h1 : w.heap.size ≤ b1) (h2 : w.heap.size ≤ b2) : Below w.heap.size w V :=
  ⟨h.os.trans hb.os, h.tape.trans hb.tape, h.output.trans hb.output, Nat.le_trans hb.size h.size, fun k hk => (h.block k (Nat.lt_of_lt_of_le hk hb.size) (by omega) (by omega)).trans (hb.block k hk)⟩
theorem Rel2.row {W1 V : World} {b1 b2 base : Nat} {v : Value} {n : Nat} {xs : List Value} (h : Rel2 W1 b1 b2 V) (ho : W1.ownsRow base TN 8 v n xs) {t1 t2 : TypeId} {v1 v2 : Value} (h1 : Boxed W1 b1 t1 v1) (ht1 : t1 ≠ TN) (h2 : Boxed W1 b2 t2 v2) (ht2 : t2 ≠ TN) : V.ownsRow base TN 8 v n xs := by
  have n1 := h1.not_row ht1 ho
  have n2 := h2.not_row ht2 ho
  refine Go.Proofs.YtfefldkljbbbpaaW.PrintWords.own_move ho fun k hk => h.block k ?_ (fun e => n1 (by rw [hk, e])) (fun e => n2 (by rw [hk, e]))
  obtain ⟨cells, hc⟩ := own_typed ho k hk
  exact (Array.getElem?_eq_some_iff.1 hc).1

/-- The i-th of the kids that are collected. -/
theorem kv_at {w0 : World} {m : Nat} : ∀ (ys : List (KV w0 m)) (i : Nat) (k : KV w0 m), ys[i]? = some k → ∀ (j : Nat) (v : Value), (ndCells k.x.f0 k.x.f1 (.slice k.A k.x.f2.length k.c))[j]? = some v → (kvCells ys)[i * 8 + j]? = some v
  | [], i, k, h, _, _, _ => by simp at h
  | y :: ys, i, k, h, j, v, hj => by
    have hlt : j < 8 := (List.getElem?_eq_some_iff.1 hj).1
    have he : kvCells (y :: ys) = ndCells y.x.f0 y.x.f1 (.slice y.A y.x.f2.length y.c) ++ kvCells ys := by simp [kvCells, ndCells]
    rw [he]
    cases i with
    | zero =>
      simp at h
      subst h
      rw [List.getElem?_append_left (by rw [ndCells_len]; omega), Nat.zero_mul, Nat.zero_add]
      exact hj
    | succ i =>
      rw [List.getElem?_append_right (by rw [ndCells_len]; omega), ndCells_len, show (i + 1) * 8 + j - 8 = i * 8 + j by omega]
      exact kv_at ys i k (by simpa using h) j v hj

/-- The way out, past the two loops' marks. -/
theorem same_leave {fn : Func} (hr : fn.results = #[.cell 4 4]) {tmps : Array Value} {V : World} {D D2 s2 : Nat} {b : Bool} {R : Ending → World → Prop} (ht : tmps.getD 4 undef = .pointer (some ⟨s2, 0, none⟩)) (h2 : V.heap[D2]? = some (.deferred (some []))) (h1 : V.heap[D]? = some (.deferred (some []))) (hne : D ≠ D2) (hb : Boxed V s2 4 (.bool b))
    (hR : R (.returned (.bool b)) ((V.putObj D2 (.deferred none)).putObj D (.deferred none))) : bodyPostM Fence.wide 8 Try.prog fn R .ret { tmps := tmps, defers := [{ target := .collected D2, args := #[] }, { target := .collected D, args := #[] }] } V := by
  have hd : s2 ≠ D ∧ s2 ≠ D2 := by
    constructor
    · rintro rfl
      rw [show V.heap[s2]? = _ from hb] at h1
      cases h1
    · rintro rfl
      rw [show V.heap[s2]? = _ from hb] at h2
      cases h2
  have g2 := grownBy_putObj' V D2 (.deferred none)
  have h1' : (V.putObj D2 (.deferred none)).heap[D]? = some (.deferred (some [])) := (g2.block D (Array.getElem?_eq_some_iff.1 h1).1 (by simpa using hne)).trans h1
  have hb2 := hb.kept g2 (by simpa using hd.2)
  have hb3 := hb2.kept (grownBy_putObj' (V.putObj D2 (.deferred none)) D (.deferred none)) (by simpa using hd.1)
  refine ⟨by simp, .inl ⟨_, _, rfl, run_takeDeferred h2, ?_⟩⟩
  refine ⟨by simp, .inl ⟨_, _, rfl, run_takeDeferred h1', ?_⟩⟩
  exact ⟨_, results_cellB hr _ _ s2 b ht hb3.cell, hR⟩
end Go.Proofs.Ytfefldkljbbbpaa
