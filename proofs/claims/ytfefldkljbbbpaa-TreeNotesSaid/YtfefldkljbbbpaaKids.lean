/- kids: the iterator over a node's kids that are no comments. -/
import Derived.Test.YtfefldkljbbbpaaEvW
import Derived.RangeFuncNested
import Derived.RangeFuncBound
import Derived.RangeFuncCalls
import Derived.RangeFuncLeaves
import Derived.RangeFuncBox
import Derived.Shelf.Abstract
import Derived.OwnWalkIn
import Derived.TacticsInMore
import Derived.LoopNIn
import Derived.LoopIn
set_option linter.unusedVariables false
set_option linter.unusedSimpArgs false
namespace Go.Proofs.Ytfefldkljbbbpaa
open Go.RowKit Go.Shelf Go.Proofs.YtfefldkljbbbpaaW.PrintWords Go.Proofs.YtfefldkljbbbpaaW.PrintLast Go.Proofs.YtfefldkljbbbpaaW.PrintMore
attribute [local go_sem] Oper.semAt_some

/-- A node that lies in w0, as a value. -/
structure KV (w0 : World) (m : Nat) where
  x : Nd
  A : Option Addr
  c : Nat
  hc : x.f2.length ≤ c
  hC : Kd.C kNd w0 A x.f2.length x.f2
  hm : nds x ≤ m
def KV.val {w0 : World} {m : Nat} (k : KV w0 m) : Value := .agg #[.int .u8 k.x.f0, .int .u8 k.x.f1.f0, .string k.x.f1.f1, .int .i64 k.x.f1.f2.f0, .int .i64 k.x.f1.f2.f1, .int .i64 k.x.f1.f2.f2, .int .i64 k.x.f1.f3, .slice k.A k.x.f2.length k.c]
def isKid (x : Nd) : Bool := x.f0 != 0 || !isNote x.f1
def plainL (l : List Nd) : List Nd := l.filter isKid
theorem plainL_prefix (l : List Nd) (i : Nat) : plainL (l.take i) <+: plainL l := by
  conv => rhs; rw [← List.take_append_drop i l]
  unfold plainL
  rw [List.filter_append]
  exact List.prefix_append _ _

set_option maxRecDepth 100000 in
set_option maxHeartbeats 4000000 in
theorem kids_in (n : Nat) (x : Nd) (A : Option Addr) (len c : Nat) (w : World) :
    CallsIn Fence.wide n Try.prog 28 #[.agg #[.int .u8 x.f0, .int .u8 x.f1.f0, .string x.f1.f1, .int .i64 x.f1.f2.f0, .int .i64 x.f1.f2.f1, .int .i64 x.f1.f2.f2, .int .i64 x.f1.f3, .slice A len c]] w fun e w' => e = .returned (.func (.func 36) #[] #[.pointer (some ⟨w.heap.size, 0, none⟩)]) ∧ w' = w.alloc (.cells #[.int .u8 x.f0, .int .u8 x.f1.f0, .string x.f1.f1, .int .i64 x.f1.f2.f0, .int .i64 x.f1.f2.f1, .int .i64 x.f1.f2.f2, .int .i64 x.f1.f3, .slice A len c] TN) := by
  refine callsIn_wide.2 ?_
  go_enter Try.func28, Try.ntmps28
  go_wp2
  go_ret
  exact ⟨rfl, rfl⟩

set_option maxRecDepth 100000 in
set_option maxHeartbeats 4000000 in
/-- The iterator: for every loop body that keeps what lay below w0. -/
theorem kids1_in (n : Nat) (hn : 1 ≤ n) (w0 : World) (x : Nd) (A : Option Addr) (len c : Nat) (hlen : x.f2.length = len) (hC : Kd.C kNd w0 A len x.f2) (m : Nat) (hm : ndsL x.f2 ≤ m) (l Bn : Nat) (J Jx : List (KV w0 m) → World → Prop) (W : World) (hJ : AbidesFrom W.heap.size J)
    (hY : ∀ pre k W1, J pre W1 → pre.length < len → YieldAt Fence.wide (n - 1) Try.prog l #[KV.val k] W1 fun e W' =>
      (e = .returned (.bool true) ∧ J (pre ++ [k]) W' ∧ Below w0.heap.size W1 W') ∨ (e = .returned (.bool false) ∧ Jx (pre ++ [k]) W'))
    (hb : Below w0.heap.size w0 W) (hBn : W.cell? ⟨Bn, 7, none⟩ = some (.slice A len c)) (hl24 : len ≤ 1073741824) (h0 : J [] W) :
    CallsIn Fence.wide n Try.prog 36 #[.func (.yield l) #[] #[], .pointer (some ⟨Bn, 0, none⟩)] W fun e W' => (∃ v, e = .returned v) ∧
      ((∃ ys : List (KV w0 m), ys.map (·.x) = plainL x.f2 ∧ J ys W') ∨ (∃ pre : List (KV w0 m), pre.map (·.x) <+: plainL x.f2 ∧ Jx pre W')) := by
  refine callsIn_of_wp Try.func36 rfl trivial ?_ rfl
  simp only [Try.ntmps36, List.size_toArray, List.length_cons, List.length_nil, Nat.reduceAdd, Nat.reduceSub, Array.replicate_succ, Array.replicate_zero, List.push_toArray, List.append_toArray, List.nil_append, List.cons_append]
  gi_wp2
  gi_loopw [8] (fun iv wr => ∃ i : Nat, i ≤ len ∧ iv = .int .i64 i ∧ Hid (∃ ys : List (KV w0 m), ys.map (·.x) = plainL (x.f2.take i) ∧ ys.length ≤ i ∧ J ys wr ∧ Below w0.heap.size w0 wr)) (fun iv _ => len - (intOf iv).toNat)
  case atStart => exact ⟨0, by omega, rfl, Lib.hid ⟨[], by simp [plainL], by simp, h0, hb⟩⟩
  case round =>
    obtain ⟨i, hi, rfl, HL⟩ := hrel
    have HJ := Lib.hid hJ
    have HY := Lib.hid hY
    have HLEN := Lib.hid hlen
    have HC := Lib.hid hC
    clear hJ hY hlen hC hBn h0
    by_cases hlt : i < len
    · obtain ⟨y, hy⟩ : ∃ y, x.f2[i]? = some y := ⟨x.f2[i]'(by rw [HLEN.out]; exact hlt), List.getElem?_eq_getElem _⟩
      obtain ⟨ad, A1, c1, rfl, hcs, hl1, hC1⟩ := kid_at HC.out i y hlt hy
      obtain ⟨k0, k1, k2, k3, k4, k5, k6, k7⟩ := hcs
      obtain ⟨ys, hys, hyl, hJy, hbw⟩ := HL.out
      replace k0 := pw_cell_below hbw k0
      replace k1 := pw_cell_below hbw k1
      replace k2 := pw_cell_below hbw k2
      replace k3 := pw_cell_below hbw k3
      replace k4 := pw_cell_below hbw k4
      replace k5 := pw_cell_below hbw k5
      replace k6 := pw_cell_below hbw k6
      replace k7 := pw_cell_below hbw k7
      obtain ⟨kv, hkx, hkv⟩ : ∃ kv : KV w0 m, kv.x = y ∧ KV.val kv = .agg #[.int .u8 y.f0, .int .u8 y.f1.f0, .string y.f1.f1, .int .i64 y.f1.f2.f0, .int .i64 y.f1.f2.f1, .int .i64 y.f1.f2.f2, .int .i64 y.f1.f3, .slice A1 y.f2.length c1] := ⟨⟨y, A1, c1, hl1, hC1, Nat.le_trans (ndsL_mem (List.mem_of_getElem? hy)) hm⟩, rfl, rfl⟩
      have HKV := Lib.hid hkv
      have HKX := Lib.hid hkx
      have HYS : Hid (plainL (x.f2.take (i + 1)) = plainL (x.f2.take i) ++ plainL [y]) := Lib.hid (by rw [List.take_add_one, hy]; simp [plainL, List.filter_append])
      have HY0 : Hid (ys.map (·.x) = plainL (x.f2.take i)) := Lib.hid hys
      have HBW := Lib.hid hbw
      have HJY := Lib.hid hJy
      clear hy hkv hkx hys hbw hJy HL hl1 hC1
      by_cases hk : y.f0 = 0
      · have hpl : plainL [y] = if isNote y.f1 then [] else [y] := by
          cases hbn : isNote y.f1 <;> simp [plainL, isKid, hk, hbn]
        have HPL := Lib.hid hpl
        have CC := Lib.hid (comment_any y.f1)
        have HK0 := Lib.hid hk
        rw [hk] at k0
        obtain ⟨W6, hW6⟩ : ∃ W6, wr.alloc (.cells #[.int .u8 0, .int .u8 y.f1.f0, .string y.f1.f1, .int .i64 y.f1.f2.f0, .int .i64 y.f1.f2.f1, .int .i64 y.f1.f2.f2, .int .i64 y.f1.f3, .slice A1 y.f2.length c1] TN) = W6 := ⟨_, rfl⟩
        have hs6 : W6.heap.size = wr.heap.size + 1 := by rw [← hW6, World.size_alloc]
        have hby : ∀ w2, Below W6.heap.size W6 w2 → _ := fun w2 hb2 => box8 (w := wr) (w1 := w2) (a := .int .u8 0) (b := .int .u8 y.f1.f0) (c := .string y.f1.f1) (d := .int .i64 y.f1.f2.f0) (e := .int .i64 y.f1.f2.f1) (f := .int .i64 y.f1.f2.f2) (g := .int .i64 y.f1.f3) (h := .slice A1 y.f2.length c1) (T := TN) (by rw [hW6, ← hs6]; exact hb2)
        have hJ6 : J ys W6 := by rw [← hW6]; exact HJ.out ys wr _ none HJY.out (World.grownBy_alloc _ _ _) (fun r e => by cases e)
        have hB6 : Below w0.heap.size w0 W6 := by rw [← hW6]; exact HBW.out.alloc HBW.out.size _
        have HJ6 := Lib.hid hJ6
        have HB6 := Lib.hid hB6
        have HBY := Lib.hid hby
        obtain ⟨q0, q1, q2, q3, q4, q5, q6, q7⟩ := hby W6 (Below.refl _ _)
        clear hk hpl hJ6 hB6 hby
        gi_wp2
        refine ⟨trivial, ?_⟩
        gi_at_call 25
        refine (callsIn_wide.2 (CC.out W6)).mono ?_
        rintro e w2 ⟨rfl, hb2⟩
        clear q0 q1 q2 q3 q4 q5 q6 q7
        obtain ⟨q0, q1, q2, q3, q4, q5, q6, q7⟩ := HBY.out w2 hb2
        have hJ2 : J ys w2 := HJ.out ys W6 w2 none HJ6.out (grown_of_below hb2 none) (fun r e => by cases e)
        have hB2 : Below w0.heap.size w0 w2 := HB6.out.trans (hb2.mono HB6.out.size)
        have HB2 := Lib.hid hB2
        have HJ2 := Lib.hid hJ2
        cases hbn : isNote y.f1 with
        | true =>
          rw [hbn, if_pos rfl] at HPL
          clear hb2 hJ2 hB2
          gi_wp2
          refine ⟨fun _ h => (by cases h), ?_⟩
          gi_wp2
          refine ⟨⟨i + 1, by omega, by push_cast; rfl, Lib.hid ⟨ys, ?_, by omega, HJ2.out, HB2.out⟩⟩, by simp only [intOf]; omega⟩
          rw [HY0.out, HYS.out, HPL.out, List.append_nil]
        | false =>
          rw [hbn, if_neg (by decide)] at HPL
          obtain ⟨fn, tmps, assign, body, hyr, hR⟩ := HY.out ys kv w2 hJ2 (by omega)
          have HR := Lib.hid hR
          rw [HKV.out, HK0.out] at hyr
          clear hb2 hJ2 hB2 hR
          gi_wp2
          refine HR.out.mono ?_
          rintro e W3 (⟨rfl, hJ3, hk3⟩ | ⟨rfl, hJx3⟩)
          · gi_wp2
            refine ⟨⟨i + 1, by omega, by push_cast; rfl, Lib.hid ⟨ys ++ [kv], ?_, by simp; omega, hJ3, HB2.out.trans hk3⟩⟩, by simp only [intOf]; omega⟩
            rw [List.map_append, HY0.out, HYS.out, HPL.out, List.map_cons, List.map_nil, HKX.out]
          · gi_wp2
            refine bodyPost_ret (results_none rfl _ _ _) rfl ?_
            refine ⟨⟨_, rfl⟩, .inr ⟨ys ++ [kv], ?_, hJx3⟩⟩
            rw [List.map_append, HY0.out, List.map_cons, List.map_nil, HKX.out, ← HPL.out, ← HYS.out]
            exact plainL_prefix x.f2 (i + 1)
      · have dk : (y.f0 != 0) = true := bne_iff_ne.2 hk
        have hpl : plainL [y] = [y] := by simp [plainL, isKid, dk]
        have HPL := Lib.hid hpl
        obtain ⟨W6, hW6⟩ : ∃ W6, wr.alloc (.cells #[.int .u8 y.f0, .int .u8 y.f1.f0, .string y.f1.f1, .int .i64 y.f1.f2.f0, .int .i64 y.f1.f2.f1, .int .i64 y.f1.f2.f2, .int .i64 y.f1.f3, .slice A1 y.f2.length c1] TN) = W6 := ⟨_, rfl⟩
        have hJ6 : J ys W6 := by rw [← hW6]; exact HJ.out ys wr _ none HJY.out (World.grownBy_alloc _ _ _) (fun r e => by cases e)
        have hB6 : Below w0.heap.size w0 W6 := by rw [← hW6]; exact HBW.out.alloc HBW.out.size _
        obtain ⟨fn, tmps, assign, body, hyr, hR⟩ := HY.out ys kv W6 hJ6 (by omega)
        have HR := Lib.hid hR
        have HB6 := Lib.hid hB6
        rw [HKV.out] at hyr
        have hs6 : W6.heap.size = wr.heap.size + 1 := by rw [← hW6, World.size_alloc]
        have hby : Below (wr.heap.size + 1) (wr.alloc (.cells #[.int .u8 y.f0, .int .u8 y.f1.f0, .string y.f1.f1, .int .i64 y.f1.f2.f0, .int .i64 y.f1.f2.f1, .int .i64 y.f1.f2.f2, .int .i64 y.f1.f3, .slice A1 y.f2.length c1] TN)) W6 := by rw [hW6]; exact Below.refl _ _
        obtain ⟨q0, q1, q2, q3, q4, q5, q6, q7⟩ := box8 hby
        clear hk hpl hR hJ6 hB6 hby
        gi_wp2
        refine ⟨trivial, ?_⟩
        gi_wp2
        refine HR.out.mono ?_
        rintro e W3 (⟨rfl, hJ3, hk3⟩ | ⟨rfl, hJx3⟩)
        · gi_wp2
          refine ⟨⟨i + 1, by omega, by push_cast; rfl, Lib.hid ⟨ys ++ [kv], ?_, by simp; omega, hJ3, HB6.out.trans hk3⟩⟩, by simp only [intOf]; omega⟩
          rw [List.map_append, HY0.out, HYS.out, HPL.out, List.map_cons, List.map_nil, HKX.out]
        · gi_wp2
          refine bodyPost_ret (results_none rfl _ _ _) rfl ?_
          refine ⟨⟨_, rfl⟩, .inr ⟨ys ++ [kv], ?_, hJx3⟩⟩
          rw [List.map_append, HY0.out, List.map_cons, List.map_nil, HKX.out, ← HPL.out, ← HYS.out]
          exact plainL_prefix x.f2 (i + 1)
    · obtain rfl : len = i := by omega
      obtain ⟨ys, hys, hyl, hJy, hbw⟩ := HL.out
      rw [List.take_of_length_le (by rw [HLEN.out]; exact Nat.le_refl _)] at hys
      have HYS := Lib.hid (And.intro hys hJy)
      clear hys hyl hJy hbw HL
      gi_wp2
      go_end0
      exact ⟨⟨_, rfl⟩, .inl ⟨ys, HYS.out.1, HYS.out.2⟩⟩
/-- kids(x) hands back an iterator that holds to the contract. -/
theorem kids_stops (n : Nat) (hn : 1 ≤ n) (w0 : World) (x : Nd) (A : Option Addr) (c : Nat) (hC : Kd.C kNd w0 A x.f2.length x.f2) (m : Nat) (hm : ndsL x.f2 ≤ m) (w : World) (hb : Below w0.heap.size w0 w) (Bn : Nat) (hBn : w.cell? ⟨Bn, 7, none⟩ = some (.slice A x.f2.length c)) (hB : Bn < w.heap.size) (hl : x.f2.length ≤ 1073741824) :
    SeqStopsK Fence.wide n Try.prog 36 #[.pointer (some ⟨Bn, 0, none⟩)] (fun k : KV w0 m => #[KV.val k]) (Below w0.heap.size) (fun ys => ys.map (·.x) = plainL x.f2) (fun pre => pre.map (·.x) <+: plainL x.f2) x.f2.length w := fun l J Jx W hW hJ _ hY h0 =>
  kids1_in n hn w0 x A x.f2.length c rfl hC m hm l Bn J Jx W hJ hY (hb.trans (hW.mono hb.size)) ((hW.cell (p := ⟨Bn, 7, none⟩) hB).trans hBn) hl h0
end Go.Proofs.Ytfefldkljbbbpaa
