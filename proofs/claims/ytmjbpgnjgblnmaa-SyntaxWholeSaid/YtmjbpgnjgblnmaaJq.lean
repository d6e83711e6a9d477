/- What the claim stands on: part Jq. -/
import Derived.Test.YtmjbpgnjgblnmaaJn
import Derived.RangeFuncNested
import Derived.RangeFuncBound
import Derived.RangeFuncCalls
import Derived.RangeFuncLeaves
import Derived.RangeFuncBox
import Derived.Shelf.Abstract
import Derived.OwnWalkIn
import Derived.TacticsInMore
import Derived.LoopNIn
import Derived.LoopIn
set_option linter.unusedVariables false
set_option linter.unusedSimpArgs false
set_option maxRecDepth 100000
namespace Go.Proofs.Ytmjbpgnjgblnmaa.Tr
open Go.RowKit Go.Shelf Go.Proofs.YtmjbpgnjgblnmaaW.PrintWords Go.Proofs.YtmjbpgnjgblnmaaW.PrintLast Go.Proofs.YtmjbpgnjgblnmaaW.PrintMore
attribute [local go_sem] Oper.semAt_some
theorem kid_at {w : World} {A : Option Addr} {n : Nat} {l : List Nd} (h : Kd.C kNd w A n l) (i : Nat) (x : Nd) (hi : i < n) (hx : l[i]? = some x) : ∃ ad A1 c1, A = some ad ∧ (w.cell? (ad.add (i * 8)) = some (.int .u8 x.f0) ∧ w.cell? ⟨(ad.add (i * 8)).block, (ad.add (i * 8)).off + 1, none⟩ = some (.int .u8 x.f1.f0) ∧ w.cell? ⟨(ad.add (i * 8)).block, (ad.add (i * 8)).off + 2, none⟩ = some (.string x.f1.f1) ∧ w.cell? ⟨(ad.add (i * 8)).block, (ad.add (i * 8)).off + 3, none⟩ = some (.int .i64 x.f1.f2.f0) ∧ w.cell? ⟨(ad.add (i * 8)).block, (ad.add (i * 8)).off + 4, none⟩ = some (.int .i64 x.f1.f2.f1) ∧ w.cell? ⟨(ad.add (i * 8)).block, (ad.add (i * 8)).off + 5, none⟩ = some (.int .i64 x.f1.f2.f2) ∧ w.cell? ⟨(ad.add (i * 8)).block, (ad.add (i * 8)).off + 6, none⟩ = some (.int .i64 x.f1.f3) ∧ w.cell? ⟨(ad.add (i * 8)).block, (ad.add (i * 8)).off + 7, none⟩ = some (.slice A1 x.f2.length c1)) ∧ x.f2.length ≤ c1 ∧ Kd.C kNd w A1 x.f2.length x.f2 := by
 obtain ⟨ad, A1, c1, h0, k0, k1, k2, k3, k4, k5, k6, k7, hl, hc⟩ := PSyntaxWhole.at_T51 h (i : Int) (by omega) (by omega)
 have hr : PSyntaxWhole.rd_T51 l (i : Int) = x := by simp [PSyntaxWhole.rd_T51, List.getD, hx]
 rw [hr] at k0 k1 k2 k3 k4 k5 k6 k7 hl hc
 rw [Int.toNat_natCast] at k0 k1 k2 k3 k4 k5 k6 k7
 exact ⟨ad, A1, c1, h0, ⟨k0, k1, k2, k3, k4, k5, k6, k7⟩, hl, hc⟩
structure KV (w0 : World) (m : Nat) where
 x : Nd
 A : Option Addr
 c : Nat
 hc : x.f2.length ≤ c
 hC : Kd.C kNd w0 A x.f2.length x.f2
 hm : nds x ≤ m
def KV.val {w0 : World} {m : Nat} (k : KV w0 m) : Value := .agg #[.int .u8 k.x.f0, .int .u8 k.x.f1.f0, .string k.x.f1.f1, .int .i64 k.x.f1.f2.f0, .int .i64 k.x.f1.f2.f1, .int .i64 k.x.f1.f2.f2, .int .i64 k.x.f1.f3, .slice k.A k.x.f2.length k.c]
def isKid (x : Nd) : Bool := x.f0 != 0 || !isNote x.f1
def plainL (l : List Nd) : List Nd := l.filter isKid
theorem plainL_prefix (l : List Nd) (i : Nat) : plainL (l.take i) <+: plainL l := by
 conv => rhs; rw [← List.take_append_drop i l]
 unfold plainL
 rw [List.filter_append]
 exact List.prefix_append _ _
set_option maxRecDepth 100000 in
set_option maxHeartbeats 4000000 in
theorem kids_in (n : Nat) (x : Nd) (A : Option Addr) (len c : Nat) (w : World) :
  CallsIn Fence.wide n Try.prog 45 #[.agg #[.int .u8 x.f0, .int .u8 x.f1.f0, .string x.f1.f1, .int .i64 x.f1.f2.f0, .int .i64 x.f1.f2.f1, .int .i64 x.f1.f2.f2, .int .i64 x.f1.f3, .slice A len c]] w fun e w' => e = .returned (.func (.func 63) #[] #[.pointer (some ⟨w.heap.size, 0, none⟩)]) ∧ w' = w.alloc (.cells #[.int .u8 x.f0, .int .u8 x.f1.f0, .string x.f1.f1, .int .i64 x.f1.f2.f0, .int .i64 x.f1.f2.f1, .int .i64 x.f1.f2.f2, .int .i64 x.f1.f3, .slice A len c] TN) := by
 refine callsIn_wide.2 ?_
 go_enter Try.func45, Try.ntmps45
 go_wp2
 go_ret
 exact ⟨rfl, rfl⟩
set_option maxRecDepth 100000 in
set_option maxHeartbeats 4000000 in
theorem kids1_in (n : Nat) (hn : 1 ≤ n) (w0 : World) (x : Nd) (A : Option Addr) (len c : Nat) (hlen : x.f2.length = len) (hC : Kd.C kNd w0 A len x.f2) (m : Nat) (hm : ndsL x.f2 ≤ m) (l Bn : Nat) (J Jx : List (KV w0 m) → World → Prop) (W : World) (hJ : AbidesFrom W.heap.size J)
  (hY : ∀ pre k W1, J pre W1 → pre.length < len → YieldAt Fence.wide (n - 1) Try.prog l #[KV.val k] W1 fun e W' =>
   (e = .returned (.bool true) ∧ J (pre ++ [k]) W' ∧ Below w0.heap.size W1 W') ∨ (e = .returned (.bool false) ∧ Jx (pre ++ [k]) W'))
  (hb : Below w0.heap.size w0 W) (hBn : W.cell? ⟨Bn, 7, none⟩ = some (.slice A len c)) (hl24 : len ≤ 274877906946) (h0 : J [] W) :
  CallsIn Fence.wide n Try.prog 63 #[.func (.yield l) #[] #[], .pointer (some ⟨Bn, 0, none⟩)] W fun e W' => (∃ v, e = .returned v) ∧
   ((∃ ys : List (KV w0 m), ys.map (·.x) = plainL x.f2 ∧ J ys W') ∨ (∃ pre : List (KV w0 m), pre.map (·.x) <+: plainL x.f2 ∧ Jx pre W')) := by
 refine callsIn_of_wp Try.func63 rfl trivial ?_ rfl
 simp only [Try.ntmps63, List.size_toArray, List.length_cons, List.length_nil, Nat.reduceAdd, Nat.reduceSub, Array.replicate_succ, Array.replicate_zero, List.push_toArray, List.append_toArray, List.nil_append, List.cons_append]
 gi_wp2
 gi_loopw [8] (fun iv wr => ∃ i : Nat, i ≤ len ∧ iv = .int .i64 i ∧ Hid (∃ ys : List (KV w0 m), ys.map (·.x) = plainL (x.f2.take i) ∧ ys.length ≤ i ∧ J ys wr ∧ Below w0.heap.size w0 wr)) (fun iv _ => len - (intOf iv).toNat)
 case atStart => exact ⟨0, by omega, rfl, Lib.hid ⟨[], by simp [plainL], by simp, h0, hb⟩⟩
 case round =>
  obtain ⟨i, hi, rfl, HL⟩ := hrel
  have HJ := Lib.hid hJ
  have HY := Lib.hid hY
  have HLEN := Lib.hid hlen
  have HC := Lib.hid hC
  clear hJ hY hlen hC hBn h0
  by_cases hlt : i < len
  ·obtain ⟨y, hy⟩ : ∃ y, x.f2[i]? = some y := ⟨x.f2[i]'(by rw [HLEN.out]; exact hlt), List.getElem?_eq_getElem _⟩
   obtain ⟨ad, A1, c1, rfl, hcs, hl1, hC1⟩ := kid_at HC.out i y hlt hy
   obtain ⟨k0, k1, k2, k3, k4, k5, k6, k7⟩ := hcs
   obtain ⟨ys, hys, hyl, hJy, hbw⟩ := HL.out
   replace k0 := pw_cell_below hbw k0
   replace k1 := pw_cell_below hbw k1
   replace k2 := pw_cell_below hbw k2
   replace k3 := pw_cell_below hbw k3
   replace k4 := pw_cell_below hbw k4
   replace k5 := pw_cell_below hbw k5
   replace k6 := pw_cell_below hbw k6
   replace k7 := pw_cell_below hbw k7
   obtain ⟨kv, hkx, hkv⟩ : ∃ kv : KV w0 m, kv.x = y ∧ KV.val kv = .agg #[.int .u8 y.f0, .int .u8 y.f1.f0, .string y.f1.f1, .int .i64 y.f1.f2.f0, .int .i64 y.f1.f2.f1, .int .i64 y.f1.f2.f2, .int .i64 y.f1.f3, .slice A1 y.f2.length c1] := ⟨⟨y, A1, c1, hl1, hC1, Nat.le_trans (ndsL_mem (List.mem_of_getElem? hy)) hm⟩, rfl, rfl⟩
   have HKV := Lib.hid hkv
   have HKX := Lib.hid hkx
   have HYS : Hid (plainL (x.f2.take (i + 1)) = plainL (x.f2.take i) ++ plainL [y]) := Lib.hid (by rw [List.take_add_one, hy]; simp [plainL, List.filter_append])
   have HY0 : Hid (ys.map (·.x) = plainL (x.f2.take i)) := Lib.hid hys
   have HBW := Lib.hid hbw
   have HJY := Lib.hid hJy
   clear hy hkv hkx hys hbw hJy HL hl1 hC1
   by_cases hk : y.f0 = 0
   ·have hpl : plainL [y] = if isNote y.f1 then [] else [y] := by
     cases hbn : isNote y.f1 <;> simp [plainL, isKid, hk, hbn]
    have HPL := Lib.hid hpl
    have CC := Lib.hid (comment_any y.f1)
    have HK0 := Lib.hid hk
    rw [hk] at k0
    obtain ⟨W6, hW6⟩ : ∃ W6, wr.alloc (.cells #[.int .u8 0, .int .u8 y.f1.f0, .string y.f1.f1, .int .i64 y.f1.f2.f0, .int .i64 y.f1.f2.f1, .int .i64 y.f1.f2.f2, .int .i64 y.f1.f3, .slice A1 y.f2.length c1] TN) = W6 := ⟨_, rfl⟩
    have hs6 : W6.heap.size = wr.heap.size + 1 := by rw [← hW6, World.size_alloc]
    have hby : ∀ w2, Below W6.heap.size W6 w2 → _ := fun w2 hb2 => box8 (w := wr) (w1 := w2) (a := .int .u8 0) (b := .int .u8 y.f1.f0) (c := .string y.f1.f1) (d := .int .i64 y.f1.f2.f0) (e := .int .i64 y.f1.f2.f1) (f := .int .i64 y.f1.f2.f2) (g := .int .i64 y.f1.f3) (h := .slice A1 y.f2.length c1) (T := TN) (by rw [hW6, ← hs6]; exact hb2)
    have hJ6 : J ys W6 := by rw [← hW6]; exact HJ.out ys wr _ none HJY.out (World.grownBy_alloc _ _ _) (fun r e => by cases e)
    have hB6 : Below w0.heap.size w0 W6 := by rw [← hW6]; exact HBW.out.alloc HBW.out.size _
    have HJ6 := Lib.hid hJ6
    have HB6 := Lib.hid hB6
    have HBY := Lib.hid hby
    obtain ⟨q0, q1, q2, q3, q4, q5, q6, q7⟩ := hby W6 (Below.refl _ _)
    clear hk hpl hJ6 hB6 hby
    gi_wp2
    refine ⟨trivial, ?_⟩
    gi_at_call 62
    refine (callsIn_wide.2 (CC.out W6)).mono ?_
    rintro e w2 ⟨rfl, hb2⟩
    clear q0 q1 q2 q3 q4 q5 q6 q7
    obtain ⟨q0, q1, q2, q3, q4, q5, q6, q7⟩ := HBY.out w2 hb2
    have hJ2 : J ys w2 := HJ.out ys W6 w2 none HJ6.out (grown_of_below hb2 none) (fun r e => by cases e)
    have hB2 : Below w0.heap.size w0 w2 := HB6.out.trans (hb2.mono HB6.out.size)
    have HB2 := Lib.hid hB2
    have HJ2 := Lib.hid hJ2
    cases hbn : isNote y.f1 with
    | true =>
     rw [hbn, if_pos rfl] at HPL
     clear hb2 hJ2 hB2
     gi_wp2
     refine ⟨fun _ h => (by cases h), ?_⟩
     gi_wp2
     refine ⟨⟨i + 1, by omega, by push_cast; rfl, Lib.hid ⟨ys, ?_, by omega, HJ2.out, HB2.out⟩⟩, by simp only [intOf]; omega⟩
     rw [HY0.out, HYS.out, HPL.out, List.append_nil]
    | false =>
     rw [hbn, if_neg (by decide)] at HPL
     obtain ⟨fn, tmps, assign, body, hyr, hR⟩ := HY.out ys kv w2 hJ2 (by omega)
     have HR := Lib.hid hR
     rw [HKV.out, HK0.out] at hyr
     clear hb2 hJ2 hB2 hR
     gi_wp2
     refine HR.out.mono ?_
     rintro e W3 (⟨rfl, hJ3, hk3⟩ | ⟨rfl, hJx3⟩)
     ·gi_wp2
      refine ⟨⟨i + 1, by omega, by push_cast; rfl, Lib.hid ⟨ys ++ [kv], ?_, by simp; omega, hJ3, HB2.out.trans hk3⟩⟩, by simp only [intOf]; omega⟩
      rw [List.map_append, HY0.out, HYS.out, HPL.out, List.map_cons, List.map_nil, HKX.out]
     ·gi_wp2
      refine bodyPost_ret (results_none rfl _ _ _) rfl ?_
      refine ⟨⟨_, rfl⟩, .inr ⟨ys ++ [kv], ?_, hJx3⟩⟩
      rw [List.map_append, HY0.out, List.map_cons, List.map_nil, HKX.out, ← HPL.out, ← HYS.out]
      exact plainL_prefix x.f2 (i + 1)
   ·have dk : (y.f0 != 0) = true := bne_iff_ne.2 hk
    have hpl : plainL [y] = [y] := by simp [plainL, isKid, dk]
    have HPL := Lib.hid hpl
    obtain ⟨W6, hW6⟩ : ∃ W6, wr.alloc (.cells #[.int .u8 y.f0, .int .u8 y.f1.f0, .string y.f1.f1, .int .i64 y.f1.f2.f0, .int .i64 y.f1.f2.f1, .int .i64 y.f1.f2.f2, .int .i64 y.f1.f3, .slice A1 y.f2.length c1] TN) = W6 := ⟨_, rfl⟩
    have hJ6 : J ys W6 := by rw [← hW6]; exact HJ.out ys wr _ none HJY.out (World.grownBy_alloc _ _ _) (fun r e => by cases e)
    have hB6 : Below w0.heap.size w0 W6 := by rw [← hW6]; exact HBW.out.alloc HBW.out.size _
    obtain ⟨fn, tmps, assign, body, hyr, hR⟩ := HY.out ys kv W6 hJ6 (by omega)
    have HR := Lib.hid hR
    have HB6 := Lib.hid hB6
    rw [HKV.out] at hyr
    have hs6 : W6.heap.size = wr.heap.size + 1 := by rw [← hW6, World.size_alloc]
    have hby : Below (wr.heap.size + 1) (wr.alloc (.cells #[.int .u8 y.f0, .int .u8 y.f1.f0, .string y.f1.f1, .int .i64 y.f1.f2.f0, .int .i64 y.f1.f2.f1, .int .i64 y.f1.f2.f2, .int .i64 y.f1.f3, .slice A1 y.f2.length c1] TN)) W6 := by rw [hW6]; exact Below.refl _ _
    obtain ⟨q0, q1, q2, q3, q4, q5, q6, q7⟩ := box8 hby
    clear hk hpl hR hJ6 hB6 hby
    gi_wp2
    refine ⟨trivial, ?_⟩
    gi_wp2
    refine HR.out.mono ?_
    rintro e W3 (⟨rfl, hJ3, hk3⟩ | ⟨rfl, hJx3⟩)
    ·gi_wp2
     refine ⟨⟨i + 1, by omega, by push_cast; rfl, Lib.hid ⟨ys ++ [kv], ?_, by simp; omega, hJ3, HB6.out.trans hk3⟩⟩, by simp only [intOf]; omega⟩
     rw [List.map_append, HY0.out, HYS.out, HPL.out, List.map_cons, List.map_nil, HKX.out]
    ·gi_wp2
     refine bodyPost_ret (results_none rfl _ _ _) rfl ?_
     refine ⟨⟨_, rfl⟩, .inr ⟨ys ++ [kv], ?_, hJx3⟩⟩
     rw [List.map_append, HY0.out, List.map_cons, List.map_nil, HKX.out, ← HPL.out, ← HYS.out]
     exact plainL_prefix x.f2 (i + 1)
  ·obtain rfl : len = i := by omega
   obtain ⟨ys, hys, hyl, hJy, hbw⟩ := HL.out
   rw [List.take_of_length_le (by rw [HLEN.out]; exact Nat.le_refl _)] at hys
   have HYS := Lib.hid (And.intro hys hJy)
   clear hys hyl hJy hbw HL
   gi_wp2
   go_end0
   exact ⟨⟨_, rfl⟩, .inl ⟨ys, HYS.out.1, HYS.out.2⟩⟩
theorem kids_stops (n : Nat) (hn : 1 ≤ n) (w0 : World) (x : Nd) (A : Option Addr) (c : Nat) (hC : Kd.C kNd w0 A x.f2.length x.f2) (m : Nat) (hm : ndsL x.f2 ≤ m) (w : World) (hb : Below w0.heap.size w0 w) (Bn : Nat) (hBn : w.cell? ⟨Bn, 7, none⟩ = some (.slice A x.f2.length c)) (hB : Bn < w.heap.size) (hl : x.f2.length ≤ 274877906946) :
  SeqStopsK Fence.wide n Try.prog 63 #[.pointer (some ⟨Bn, 0, none⟩)] (fun k : KV w0 m => #[KV.val k]) (Below w0.heap.size) (fun ys => ys.map (·.x) = plainL x.f2) (fun pre => pre.map (·.x) <+: plainL x.f2) x.f2.length w := fun l J Jx W hW hJ _ hY h0 =>
 kids1_in n hn w0 x A x.f2.length c rfl hC m hm l Bn J Jx W hJ hY (hb.trans (hW.mono hb.size)) ((hW.cell (p := ⟨Bn, 7, none⟩) hB).trans hBn) hl h0
end Go.Proofs.Ytmjbpgnjgblnmaa.Tr
set_option maxRecDepth 100000
namespace Go.Proofs.Ytmjbpgnjgblnmaa.Tr
open Go.RowKit Go.Shelf Go.Proofs.YtmjbpgnjgblnmaaW.PrintWords Go.Proofs.YtmjbpgnjgblnmaaW.PrintLast Go.Proofs.YtmjbpgnjgblnmaaW.PrintMore
attribute [local go_sem] Oper.semAt_some
def sameN : Nat → Nd → Nd → Bool
 | 0, _, _ => true
 | k + 1, x, y => if x.f0 = y.f0 then (if x.f0 = 0 then x.f1.f0 == y.f1.f0 && x.f1.f1.toList == y.f1.f1.toList
   else (plainL x.f2).length == (plainL y.f2).length && ((plainL x.f2).zip (plainL y.f2)).all fun p => sameN k p.1 p.2) else false
theorem results_cellB {fn : Func} (hr : fn.results = #[.cell 4 4]) (tmps : Array Value) (w : World) (B : Nat) (b : Bool) (hp : tmps.getD 4 undef = .pointer (some ⟨B, 0, none⟩)) (hc : w.cell? ⟨B, 0, none⟩ = some (.bool b)) :
  (results fn tmps).run Try.prog w = .ok (.bool b) w := by
 have hp' : tmps[4]?.getD undef = .pointer (some ⟨B, 0, none⟩) := by simpa using hp
 simp [results, hr, hp', asAddr, loadVar, go_sem, hc]
set_option maxRecDepth 100000 in
set_option maxHeartbeats 4000000 in
theorem same_leaf (w : World) (x y : Nd) (A B : Option Addr) (c d : Nat) (k : Nat) (h : x.f0 ≠ y.f0 ∨ x.f0 = 0) :
  Calls Try.prog 20 #[.agg #[.int .u8 x.f0, .int .u8 x.f1.f0, .string x.f1.f1, .int .i64 x.f1.f2.f0, .int .i64 x.f1.f2.f1, .int .i64 x.f1.f2.f2, .int .i64 x.f1.f3, .slice A x.f2.length c], .agg #[.int .u8 y.f0, .int .u8 y.f1.f0, .string y.f1.f1, .int .i64 y.f1.f2.f0, .int .i64 y.f1.f2.f1, .int .i64 y.f1.f2.f2, .int .i64 y.f1.f3, .slice B y.f2.length d]] w fun e w' => e = .returned (.bool (sameN (k + 1) x y)) ∧ Below w.heap.size w w' := by
 have H := Lib.hid h
 by_cases h0 : x.f0 = y.f0
 ·have hx : x.f0 = 0 := by rcases h with h | h; exact absurd h0 h; exact h
  have dk : (x.f0 != y.f0) = false := by simp [h0]
  have hs : sameN (k + 1) x y = (x.f1.f0 == y.f1.f0 && x.f1.f1.toList == y.f1.f1.toList) := by rw [sameN, if_pos h0, if_pos hx]
  rw [hs]
  have hy : y.f0 = 0 := by rw [← h0]; exact hx
  rw [hx, hy]
  clear H h hs h0 hx hy dk
  by_cases h1 : x.f1.f0 = y.f1.f0
  ·have d1 : (x.f1.f0 == y.f1.f0) = true := by simp [h1]
   rw [d1]
   go_enter Try.func20, Try.ntmps20
   go_wp2
   refine bodyPost_ret (results_cellB rfl _ _ (w.heap.size + 1 + 1) (x.f1.f1.toList == y.f1.f1.toList) rfl ?_) rfl ?_
   ·go_simp
   ·exact ⟨rfl, (((Below.refl _ w).alloc (Nat.le_refl _) _).alloc (by simp) _).alloc (by simp; omega) _⟩
  ·have d1 : (x.f1.f0 == y.f1.f0) = false := by simp [h1]
   rw [d1]
   go_enter Try.func20, Try.ntmps20
   go_wp2
   refine bodyPost_ret (results_cellB rfl _ _ (w.heap.size + 1 + 1) false rfl ?_) rfl ?_
   ·go_simp
   ·exact ⟨rfl, (((Below.refl _ w).alloc (Nat.le_refl _) _).alloc (by simp) _).alloc (by simp; omega) _⟩
 ·have dk : (x.f0 != y.f0) = true := by simp [h0]
  have hs : sameN (k + 1) x y = false := by rw [sameN, if_neg h0]
  rw [hs]
  clear H h hs h0
  go_enter Try.func20, Try.ntmps20
  go_wp2
  refine bodyPost_ret (results_cellB rfl _ _ (w.heap.size + 1 + 1) false rfl ?_) rfl ?_
  ·go_simp
  ·exact ⟨rfl, (((Below.refl _ w).alloc (Nat.le_refl _) _).alloc (by simp) _).alloc (by simp; omega) _⟩
def kvCells {w0 : World} {m : Nat} (ks : List (KV w0 m)) : List Value := ks.flatMap fun k => [.int .u8 k.x.f0, .int .u8 k.x.f1.f0, .string k.x.f1.f1, .int .i64 k.x.f1.f2.f0, .int .i64 k.x.f1.f2.f1, .int .i64 k.x.f1.f2.f2, .int .i64 k.x.f1.f3, .slice k.A k.x.f2.length k.c]
def Coll (w0 W0 : World) (m B : Nat) (ks : List (KV w0 m)) (W : World) : Prop :=
 W0.grownBy W (some B) ∧ ∃ u, Boxed W B 49 u ∧ W.ownsRow W0.heap.size TN 8 u ks.length (kvCells ks)
theorem coll_own {w0 W0 : World} {m B Bd : Nat} (hB : W0.heap.size ≤ Bd) : OwnFrom Bd (Coll w0 W0 m B) := by
 rintro s X Y row ⟨h1, u, hu, ho⟩ hg hr
 have hrow : ∀ r, row = some r → ∃ o : Obj, X.heap[r]? = some o ∧ o.isCells = false := fun r e => (hr r e).2
 refine ⟨⟨hg.os.trans h1.os, hg.tape.trans h1.tape, hg.output.trans h1.output, Nat.le_trans h1.size hg.size, fun k hk hne => ?_⟩, ?_⟩
 ·rw [hg.block k (Nat.lt_of_lt_of_le hk h1.size) (fun e => by have := (hr k e.symm).1; omega), h1.block k hk hne]
 ·obtain ⟨v, a, b, _⟩ := holdsRow_own W0.heap.size B 49 TN 8 (fun ks : List (KV w0 m) => ks.length) kvCells (fun _ _ => True) s X Y row ⟨u, hu, ho, trivial⟩ hg hrow
  exact ⟨v, a, b⟩
structure Rel3 (w0 W0 : World) (B : Nat) (V V' : World) : Prop where
 kf : KeepsFrom W0.heap.size V V'
 bl : Below w0.heap.size V V'
 lo : ∀ j, j < W0.heap.size → j ≠ B → V'.heap[j]? = V.heap[j]?
theorem Rel3.trans {w0 W0 : World} {B : Nat} {X Y Z : World} (h : Rel3 w0 W0 B X Y) (h' : Rel3 w0 W0 B Y Z) : Rel3 w0 W0 B X Z := ⟨h.kf.trans h'.kf, h.bl.trans h'.bl, fun j a b => (h'.lo j a b).trans (h.lo j a b)⟩
theorem rel3_row {w0 W0 : World} {B g : Nat} {V V' : World} (hz : w0.heap.size ≤ W0.heap.size) (hg : V.grownBy V' (some g)) (hge : W0.heap.size ≤ g) (hz' : W0.heap.size ≤ V.heap.size) (hc : ∀ o, V.heap[g]? = some o → o.isCells = true) : Rel3 w0 W0 B V V' :=
 ⟨(KeepsOthers.of_grownBy hg (fun j o e ho => by cases e; exact hc o ho)).from _, (Below.refl _ V).grown hg (Nat.le_trans hz hz') (fun j e => by cases e; omega), fun j hj _ => hg.block j (Nat.lt_of_lt_of_le hj hz') (fun e => by cases e; omega)⟩
theorem rel3_new {w0 W0 : World} {B : Nat} {V V' : World} (hz : w0.heap.size ≤ W0.heap.size) (hg : V.grownBy V' none) (hz' : W0.heap.size ≤ V.heap.size) : Rel3 w0 W0 B V V' :=
 ⟨(KeepsOthers.of_grownBy hg (fun j o e ho => nomatch e)).from _, (Below.refl _ V).grown hg (Nat.le_trans hz hz') (fun j e => nomatch e), fun j hj _ => hg.block j (Nat.lt_of_lt_of_le hj hz') (fun e => nomatch e)⟩
theorem rel3_box {w0 W0 : World} {B : Nat} {V : World} (v : Value) (h0 : w0.heap.size ≤ B) : Rel3 w0 W0 B V (V.setCell ⟨B, 0, none⟩ v) :=
 ⟨(KeepsOthers.setCell _ _ _).from _, (Below.refl _ V).setCell (p := ⟨B, 0, none⟩) h0 _, fun j _ hne => Below.heap_setCell V ⟨B, 0, none⟩ v j hne⟩
theorem kvCells_snoc {w0 : World} {m : Nat} (pre : List (KV w0 m)) (k : KV w0 m) : kvCells (pre ++ [k]) = kvCells pre ++ ndCells k.x.f0 k.x.f1 (.slice k.A k.x.f2.length k.c) := by
 simp [kvCells, ndCells]
def Fin3 (w0 W0 : World) (m B : Nat) (W : World) (ks : List (KV w0 m)) (V : World) : Prop := KeepsFrom W0.heap.size W V ∧ Below w0.heap.size W V ∧ Coll w0 W0 m B ks V
theorem coll_push {w0 W0 W Wd w1 : World} {s3 g1 c1 c5 : Nat} {A5 : Option Addr} {m : Nat} {pre : List (KV w0 m)} {k : KV w0 m} (h3 : s3 < W0.heap.size) (h3' : w0.heap.size ≤ s3)
  (hrel : KeepsFrom W0.heap.size W Wd ∧ Below w0.heap.size W Wd) (hgd : W0.grownBy Wd (some s3)) (hbd : Boxed Wd s3 49 (.slice A5 pre.length c5)) (hod : Wd.ownsRow W0.heap.size TN 8 (.slice A5 pre.length c5) pre.length (kvCells pre))
  (hg : Wd.grownBy w1 (Value.slice A5 pre.length c5).ownBlock) (ho : w1.ownsRow W0.heap.size TN 8 (.slice (some ⟨g1, 0, none⟩) (pre.length + 1) c1) (pre.length + 1) (kvCells pre ++ zNd)) :
  (∃ cur, w1.heap[g1]? = some (.cells cur TN (0, 0)) ∧ pre.length * 8 + 8 ≤ cur.size) ∧
  (∃ cur, (w1.setCells s3 0 [.slice (some ⟨g1, 0, none⟩) (pre.length + 1) c1]).heap[g1]? = some (.cells cur TN (0, 0)) ∧ pre.length * 8 + 8 ≤ cur.size) ∧
  w1.heap[s3]? = some (.cells #[.slice A5 pre.length c5] 49 (0, 0)) ∧
  (w1.setCells g1 (pre.length * 8) (ndCells k.x.f0 k.x.f1 (.slice k.A k.x.f2.length k.c))).heap[s3]? = some (.cells #[.slice A5 pre.length c5] 49 (0, 0)) ∧
  Fin3 w0 W0 m s3 W (pre ++ [k]) ((w1.setCells g1 (pre.length * 8) (ndCells k.x.f0 k.x.f1 (.slice k.A k.x.f2.length k.c))).setCells s3 0 [.slice (some ⟨g1, 0, none⟩) (pre.length + 1) c1]) ∧
  Fin3 w0 W0 m s3 W (pre ++ [k]) ((w1.setCells s3 0 [.slice (some ⟨g1, 0, none⟩) (pre.length + 1) c1]).setCells g1 (pre.length * 8) (ndCells k.x.f0 k.x.f1 (.slice k.A k.x.f2.length k.c))) := by
 have hz : w0.heap.size ≤ W0.heap.size := by omega
 have hb1 : Boxed w1 s3 49 (.slice A5 pre.length c5) := hbd.kept hg (hbd.not_row (by decide) hod)
 have hkl : (kvCells pre).length = pre.length * 8 := hod.1
 have hge : W0.heap.size ≤ g1 := by
  rcases ho.2 with ⟨_, h⟩ | ⟨g, cap, cur, he, h, _⟩
  ·omega
  ·injection he with he _ _
   injection he with he
   injection he with he
   omega
 have hne : s3 ≠ g1 := by omega
 have r0 : Rel3 w0 W0 s3 Wd w1 := by
  rcases hod.2 with ⟨he, _⟩ | ⟨g, cap, cur, he, h, hh, _⟩
  ·rw [he] at hg
   exact rel3_new hz hg hgd.size
  ·rw [he] at hg
   exact rel3_row hz hg h hgd.size (fun o ho => by rw [hh] at ho; cases ho; rfl)
 have hs1 : W0.heap.size ≤ w1.heap.size := Nat.le_trans hgd.size hg.size
 obtain ⟨hoA, cur1, hh1, hf1⟩ := row_set_end ho (pre.length * 8) (ndCells k.x.f0 k.x.f1 (.slice k.A k.x.f2.length k.c)) hkl rfl
 have hoB : (w1.setCell ⟨s3, 0, none⟩ (.slice (some ⟨g1, 0, none⟩) (pre.length + 1) c1)).ownsRow W0.heap.size TN 8 (.slice (some ⟨g1, 0, none⟩) (pre.length + 1) c1) (pre.length + 1) (kvCells pre ++ zNd) :=
  ho.kept (grownBy_setCell' w1 s3 _) (.inr (fun e => hne (by simpa [Value.ownBlock] using e.symm)))
 obtain ⟨hoB', cur4, hh4, hf4⟩ := row_set_end hoB (pre.length * 8) (ndCells k.x.f0 k.x.f1 (.slice k.A k.x.f2.length k.c)) hkl rfl
 have hbA : Boxed (w1.setCells g1 (pre.length * 8) (ndCells k.x.f0 k.x.f1 (.slice k.A k.x.f2.length k.c))) s3 49 (.slice A5 pre.length c5) := hb1.kept (setCells_grown _ _ _ _) (fun e => hne (by simpa using e))
 have hsA : w1.heap.size ≤ (w1.setCells g1 (pre.length * 8) (ndCells k.x.f0 k.x.f1 (.slice k.A k.x.f2.length k.c))).heap.size := (setCells_grown _ _ _ _).size
 have fin : ∀ V, Rel3 w0 W0 s3 w1 V → Boxed V s3 49 (.slice (some ⟨g1, 0, none⟩) (pre.length + 1) c1) → V.ownsRow W0.heap.size TN 8 (.slice (some ⟨g1, 0, none⟩) (pre.length + 1) c1) (pre.length + 1) (kvCells pre ++ ndCells k.x.f0 k.x.f1 (.slice k.A k.x.f2.length k.c)) → Fin3 w0 W0 m s3 W (pre ++ [k]) V := by
  intro V hr hb ho
  have hR := r0.trans hr
  refine ⟨hrel.1.trans hR.kf, hrel.2.trans hR.bl, ⟨hR.bl.os.trans hgd.os, hR.bl.tape.trans hgd.tape, hR.bl.output.trans hgd.output, Nat.le_trans hgd.size hR.bl.size, fun j hj hne => (hR.lo j hj (fun e => hne (by rw [e]))).trans (hgd.block j hj hne)⟩, _, hb, ?_⟩
  rw [kvCells_snoc, List.length_append]
  exact ho
 refine ⟨⟨cur1, hh1, hf1⟩, ⟨cur4, hh4, hf4⟩, hb1, hbA, fin _ ?_ ?_ ?_, fin _ ?_ ?_ ?_⟩
 ·exact (rel3_row hz (setCells_grown _ _ _ _) hge hs1 (fun o h => by rw [hh1] at h; cases h; rfl)).trans (rel3_box _ h3')
 ·exact hbA.set _
 ·exact hoA.kept (grownBy_setCell' _ s3 _) (.inr (fun e => hne (by simpa [Value.ownBlock] using e.symm)))
 ·exact (rel3_box (B := s3) _ h3').trans (rel3_row hz (setCells_grown _ _ _ _) hge (Nat.le_trans hs1 (grownBy_setCell' w1 s3 _).size) (fun o h => by rw [hh4] at h; cases h; rfl))
 ·exact (hb1.set _).kept (setCells_grown _ _ _ _) (fun e => hne (by simpa using e))
 ·exact hoB'
end Go.Proofs.Ytmjbpgnjgblnmaa.Tr
set_option maxRecDepth 100000
namespace Go.Proofs.Ytmjbpgnjgblnmaa.Tr
open Go.RowKit Go.Shelf Go.Proofs.YtmjbpgnjgblnmaaW.PrintWords Go.Proofs.YtmjbpgnjgblnmaaW.PrintLast Go.Proofs.YtmjbpgnjgblnmaaW.PrintMore
theorem beq_cast (a b : Nat) : ((a : Int) == (b : Int)) = (a == b) := by
 by_cases h : a = b
 ·rw [h, beq_self_eq_true, beq_self_eq_true]
 ·have h' : (a : Int) ≠ (b : Int) := by omega
  rw [beq_eq_false_iff_ne.2 h, beq_eq_false_iff_ne.2 h']
def okL (p : Nd → Nd → Bool) (xs ys : List Nd) : Prop := xs.length ≤ ys.length ∧ ∀ (i : Nat) a b, xs[i]? = some a → ys[i]? = some b → p a b = true
theorem okL_nil (p : Nd → Nd → Bool) (ys : List Nd) : okL p [] ys := ⟨by simp, fun i a b h => by simp at h⟩
theorem okL_snoc {p : Nd → Nd → Bool} {xs ys : List Nd} {a b : Nd} (h : okL p xs ys) (hb : ys[xs.length]? = some b) : okL p (xs ++ [a]) ys ↔ p a b = true := by
 have hlt := (List.getElem?_eq_some_iff.1 hb).1
 constructor
 ·intro h'
  exact h'.2 xs.length a b (by simp) hb
 ·intro hp
  refine ⟨by simp; omega, fun i a' b' ha hb' => ?_⟩
  by_cases hi : i < xs.length
  ·exact h.2 i a' b' (by rwa [List.getElem?_append_left hi] at ha) hb'
  ·have : i < (xs ++ [a]).length := (List.getElem?_eq_some_iff.1 ha).1
   have hi' : i = xs.length := by simp at this; omega
   subst hi'
   simp at ha
   rw [hb] at hb'
   cases hb'
   rw [← ha]
   exact hp
theorem okL_long {p : Nd → Nd → Bool} {xs ys : List Nd} {a : Nd} (h : ys.length ≤ xs.length) : ¬ okL p (xs ++ [a]) ys := fun h' => by
 have := h'.1
 simp at this
 omega
theorem okL_all {p : Nd → Nd → Bool} {xs ys : List Nd} (h : okL p xs ys) : (xs.length == ys.length && (xs.zip ys).all fun q => p q.1 q.2) = (xs.length == ys.length) := by
 have : ((xs.zip ys).all fun q => p q.1 q.2) = true := by
  rw [List.all_eq_true]
  intro q hq
  obtain ⟨i, hi⟩ := List.mem_iff_getElem?.1 hq
  rw [List.getElem?_zip_eq_some] at hi
  exact h.2 i _ _ hi.1 hi.2
 rw [this, Bool.and_true]
theorem okL_bad {p : Nd → Nd → Bool} {pre xs ys : List Nd} (h : ¬ okL p pre ys) (hp : pre <+: xs) : (xs.length == ys.length && (xs.zip ys).all fun q => p q.1 q.2) = false := by
 rw [Bool.and_eq_false_iff]
 by_cases hl : xs.length = ys.length
 ·right
  rw [← Bool.not_eq_true]
  intro ha
  rw [List.all_eq_true] at ha
  obtain ⟨t, rfl⟩ := hp
  refine h ⟨by simp at hl; omega, fun i a b h1 h2 => ?_⟩
  have hi := (List.getElem?_eq_some_iff.1 h1).1
  exact ha (a, b) (List.mem_iff_getElem?.2 ⟨i, by rw [List.getElem?_zip_eq_some]; exact ⟨by rw [List.getElem?_append_left hi]; exact h1, h2⟩⟩)
 ·left
  exact beq_eq_false_iff_ne.2 hl
structure Rel2 (W1 : World) (b1 b2 : Nat) (V : World) : Prop where
 os : V.os = W1.os
 tape : V.tape = W1.tape
 output : V.output = W1.output
 size : W1.heap.size ≤ V.heap.size
 block : ∀ k, k < W1.heap.size → k ≠ b1 → k ≠ b2 → V.heap[k]? = W1.heap[k]?
theorem Rel2.refl (W1 : World) (b1 b2 : Nat) : Rel2 W1 b1 b2 W1 := ⟨rfl, rfl, rfl, Nat.le_refl _, fun _ _ _ _ => rfl⟩
theorem Rel2.grown {W1 V V' : World} {b1 b2 : Nat} {row : Option Nat} (h : Rel2 W1 b1 b2 V) (hg : V.grownBy V' row) (hr : ∀ j, row = some j → j = b1 ∨ j = b2 ∨ W1.heap.size ≤ j) : Rel2 W1 b1 b2 V' :=
 ⟨hg.os.trans h.os, hg.tape.trans h.tape, hg.output.trans h.output, Nat.le_trans h.size hg.size, fun k hk h1 h2 => (hg.block k (Nat.lt_of_lt_of_le hk h.size) (fun e => by rcases hr k e.symm with h | h | h <;> omega)).trans (h.block k hk h1 h2)⟩
theorem rel2_own {β : Type} {W1 : World} {b1 b2 Bd : Nat} (hB : W1.heap.size ≤ Bd) : OwnFrom Bd (fun (_ : β) V => Rel2 W1 b1 b2 V) := fun s X Y row h hg hr =>
 h.grown hg fun j e => .inr (.inr (Nat.le_trans hB (hr j e).1))
theorem Rel2.below {w W1 V : World} {b1 b2 : Nat} (h : Rel2 W1 b1 b2 V) (hb : Below w.heap.size w W1) (h1 : w.heap.size ≤ b1) (h2 : w.heap.size ≤ b2) : Below w.heap.size w V :=
 ⟨h.os.trans hb.os, h.tape.trans hb.tape, h.output.trans hb.output, Nat.le_trans hb.size h.size, fun k hk => (h.block k (Nat.lt_of_lt_of_le hk hb.size) (by omega) (by omega)).trans (hb.block k hk)⟩
theorem Rel2.row {W1 V : World} {b1 b2 base : Nat} {v : Value} {n : Nat} {xs : List Value} (h : Rel2 W1 b1 b2 V) (ho : W1.ownsRow base TN 8 v n xs) {t1 t2 : TypeId} {v1 v2 : Value} (h1 : Boxed W1 b1 t1 v1) (ht1 : t1 ≠ TN) (h2 : Boxed W1 b2 t2 v2) (ht2 : t2 ≠ TN) : V.ownsRow base TN 8 v n xs := by
 have n1 := h1.not_row ht1 ho
 have n2 := h2.not_row ht2 ho
 refine Go.Proofs.YtmjbpgnjgblnmaaW.PrintWords.own_move ho fun k hk => h.block k ?_ (fun e => n1 (by rw [hk, e])) (fun e => n2 (by rw [hk, e]))
 obtain ⟨cells, hc⟩ := own_typed ho k hk
 exact (Array.getElem?_eq_some_iff.1 hc).1
theorem kv_at {w0 : World} {m : Nat} : ∀ (ys : List (KV w0 m)) (i : Nat) (k : KV w0 m), ys[i]? = some k → ∀ (j : Nat) (v : Value), (ndCells k.x.f0 k.x.f1 (.slice k.A k.x.f2.length k.c))[j]? = some v → (kvCells ys)[i * 8 + j]? = some v
 | [], i, k, h, _, _, _ => by simp at h
 | y :: ys, i, k, h, j, v, hj => by
  have hlt : j < 8 := (List.getElem?_eq_some_iff.1 hj).1
  have he : kvCells (y :: ys) = ndCells y.x.f0 y.x.f1 (.slice y.A y.x.f2.length y.c) ++ kvCells ys := by simp [kvCells, ndCells]
  rw [he]
  cases i with
  | zero =>
   simp at h
   subst h
   rw [List.getElem?_append_left (by rw [ndCells_len]; omega), Nat.zero_mul, Nat.zero_add]
   exact hj
  | succ i =>
   rw [List.getElem?_append_right (by rw [ndCells_len]; omega), ndCells_len, show (i + 1) * 8 + j - 8 = i * 8 + j by omega]
   exact kv_at ys i k (by simpa using h) j v hj
theorem same_leave {fn : Func} (hr : fn.results = #[.cell 4 4]) {tmps : Array Value} {V : World} {D D2 s2 : Nat} {b : Bool} {R : Ending → World → Prop} (ht : tmps.getD 4 undef = .pointer (some ⟨s2, 0, none⟩)) (h2 : V.heap[D2]? = some (.deferred (some []))) (h1 : V.heap[D]? = some (.deferred (some []))) (hne : D ≠ D2) (hb : Boxed V s2 4 (.bool b))
  (hR : R (.returned (.bool b)) ((V.putObj D2 (.deferred none)).putObj D (.deferred none))) : bodyPostM Fence.wide 8 Try.prog fn R .ret { tmps := tmps, defers := [{ target := .collected D2, args := #[] }, { target := .collected D, args := #[] }] } V := by
 have hd : s2 ≠ D ∧ s2 ≠ D2 := by
  constructor
  ·rintro rfl
   rw [show V.heap[s2]? = _ from hb] at h1
   cases h1
  ·rintro rfl
   rw [show V.heap[s2]? = _ from hb] at h2
   cases h2
 have g2 := grownBy_putObj' V D2 (.deferred none)
 have h1' : (V.putObj D2 (.deferred none)).heap[D]? = some (.deferred (some [])) := (g2.block D (Array.getElem?_eq_some_iff.1 h1).1 (by simpa using hne)).trans h1
 have hb2 := hb.kept g2 (by simpa using hd.2)
 have hb3 := hb2.kept (grownBy_putObj' (V.putObj D2 (.deferred none)) D (.deferred none)) (by simpa using hd.1)
 refine ⟨by simp, .inl ⟨_, _, rfl, run_takeDeferred h2, ?_⟩⟩
 refine ⟨by simp, .inl ⟨_, _, rfl, run_takeDeferred h1', ?_⟩⟩
 exact ⟨_, results_cellB hr _ _ s2 b ht hb3.cell, hR⟩
end Go.Proofs.Ytmjbpgnjgblnmaa.Tr
set_option maxRecDepth 100000
namespace Go.Proofs.Ytmjbpgnjgblnmaa.Tr
open Go.RowKit Go.Shelf Go.Proofs.YtmjbpgnjgblnmaaW.PrintWords Go.Proofs.YtmjbpgnjgblnmaaW.PrintLast Go.Proofs.YtmjbpgnjgblnmaaW.PrintMore
attribute [local go_sem] Oper.semAt_some
set_option maxRecDepth 100000 in
set_option maxHeartbeats 8000000 in
theorem same_any : ∀ (k : Nat) (w : World) (x y : Nd) (A B : Option Addr) (c d : Nat), nds x ≤ k → x.f2.length ≤ c → y.f2.length ≤ d → Kd.C kNd w A x.f2.length x.f2 → Kd.C kNd w B y.f2.length y.f2 → nds x ≤ 274877906946 → nds y ≤ 274877906946 →
  Calls Try.prog 20 #[.agg #[.int .u8 x.f0, .int .u8 x.f1.f0, .string x.f1.f1, .int .i64 x.f1.f2.f0, .int .i64 x.f1.f2.f1, .int .i64 x.f1.f2.f2, .int .i64 x.f1.f3, .slice A x.f2.length c], .agg #[.int .u8 y.f0, .int .u8 y.f1.f0, .string y.f1.f1, .int .i64 y.f1.f2.f0, .int .i64 y.f1.f2.f1, .int .i64 y.f1.f2.f2, .int .i64 y.f1.f3, .slice B y.f2.length d]] w fun e w' => e = .returned (.bool (sameN k x y)) ∧ Below w.heap.size w w' := by
 intro k
 induction k with
 | zero => intro w x y A B c d hk; have := nds_pos x; omega
 | succ k ih =>
  intro w x y A B c d hk hlc hld hCx hCy hl24 hl24'
  by_cases hleaf : x.f0 ≠ y.f0 ∨ x.f0 = 0
  ·exact same_leaf w x y A B c d k hleaf
  ·have h0 : x.f0 = y.f0 := Classical.not_not.1 fun h => hleaf (.inl h)
   have h1 : x.f0 ≠ 0 := fun h => hleaf (.inr h)
   have hs : sameN (k + 1) x y = ((plainL x.f2).length == (plainL y.f2).length && ((plainL x.f2).zip (plainL y.f2)).all fun p => sameN k p.1 p.2) := by rw [sameN, if_pos h0, if_neg h1]
   rw [hs]
   have dk : (y.f0 == (0 : Int)) = false := beq_eq_false_iff_ne.2 (h0 ▸ h1)
   have IH := Lib.hid ih
   have HCX := Lib.hid hCx
   have HCY := Lib.hid hCy
   have HLX := Lib.hid hlc
   have HLY := Lib.hid hld
   have HNX := Lib.hid hk
   have HMX := Lib.hid hl24
   have HMY := Lib.hid hl24'
   rw [h0]
   clear hleaf hs h0 h1 ih hCx hCy hlc hld hk hl24 hl24'
   refine (callsIn_wide (n := 8)).1 ?_
   refine callsIn_of_wp_marks Try.func20 rfl trivial ?_ rfl
   simp only [Try.ntmps20, List.size_toArray, List.length_cons, List.length_nil, Nat.reduceAdd, Nat.reduceSub, Array.replicate_succ, Array.replicate_zero, List.push_toArray, List.append_toArray, List.nil_append, List.cons_append]
   gi_wp2_with (refine ⟨trivial, ?_⟩; gi_at_call 45; refine (kids_in _ y B y.f2.length d _).mono ?_; rintro e w' ⟨rfl, rfl⟩)
   obtain ⟨W0, hW0⟩ : ∃ W0, ((((w.alloc (.cells #[.int .u8 y.f0, .int .u8 x.f1.f0, .string x.f1.f1, .int .i64 x.f1.f2.f0, .int .i64 x.f1.f2.f1, .int .i64 x.f1.f2.f2, .int .i64 x.f1.f3, .slice A x.f2.length c] TN)).alloc (.cells #[.int .u8 y.f0, .int .u8 y.f1.f0, .string y.f1.f1, .int .i64 y.f1.f2.f0, .int .i64 y.f1.f2.f1, .int .i64 y.f1.f2.f2, .int .i64 y.f1.f3, .slice B y.f2.length d] TN)).alloc (.cells #[.bool false] 4)).alloc (.cells #[.slice none 0 0] 49)).alloc (.cells #[.int .u8 y.f0, .int .u8 y.f1.f0, .string y.f1.f1, .int .i64 y.f1.f2.f0, .int .i64 y.f1.f2.f1, .int .i64 y.f1.f2.f2, .int .i64 y.f1.f3, .slice B y.f2.length d] TN) = W0 := ⟨_, rfl⟩
   have hz0 : W0.heap.size = w.heap.size + 1 + 1 + 1 + 1 + 1 := by rw [← hW0]; simp
   have hb0 : Below w.heap.size w W0 := by
    rw [← hW0]
    exact ((((((Below.refl _ w).alloc (Nat.le_refl _) _).alloc (by simp) _).alloc (by simp; omega) _).alloc (by simp; omega) _).alloc (by simp; omega) _)
   have g3 : Boxed W0 (w.heap.size + 1 + 1 + 1) 49 (.slice none 0 0) := by
    rw [← hW0]
    have := (Boxed.new (((w.alloc (.cells #[.int .u8 y.f0, .int .u8 x.f1.f0, .string x.f1.f1, .int .i64 x.f1.f2.f0, .int .i64 x.f1.f2.f1, .int .i64 x.f1.f2.f2, .int .i64 x.f1.f3, .slice A x.f2.length c] TN)).alloc (.cells #[.int .u8 y.f0, .int .u8 y.f1.f0, .string y.f1.f1, .int .i64 y.f1.f2.f0, .int .i64 y.f1.f2.f1, .int .i64 y.f1.f2.f2, .int .i64 y.f1.f3, .slice B y.f2.length d] TN)).alloc (.cells #[.bool false] 4)) 49 (.slice none 0 0)).alloc (.cells #[.int .u8 y.f0, .int .u8 y.f1.f0, .string y.f1.f1, .int .i64 y.f1.f2.f0, .int .i64 y.f1.f2.f1, .int .i64 y.f1.f2.f2, .int .i64 y.f1.f3, .slice B y.f2.length d] TN)
    simpa only [World.size_alloc] using this
   have g2 : Boxed W0 (w.heap.size + 1 + 1) 4 (.bool false) := by
    rw [← hW0]
    have := ((Boxed.new ((w.alloc (.cells #[.int .u8 y.f0, .int .u8 x.f1.f0, .string x.f1.f1, .int .i64 x.f1.f2.f0, .int .i64 x.f1.f2.f1, .int .i64 x.f1.f2.f2, .int .i64 x.f1.f3, .slice A x.f2.length c] TN)).alloc (.cells #[.int .u8 y.f0, .int .u8 y.f1.f0, .string y.f1.f1, .int .i64 y.f1.f2.f0, .int .i64 y.f1.f2.f1, .int .i64 y.f1.f2.f2, .int .i64 y.f1.f3, .slice B y.f2.length d] TN)) 4 (.bool false)).alloc (.cells #[.slice none 0 0] 49)).alloc (.cells #[.int .u8 y.f0, .int .u8 y.f1.f0, .string y.f1.f1, .int .i64 y.f1.f2.f0, .int .i64 y.f1.f2.f1, .int .i64 y.f1.f2.f2, .int .i64 y.f1.f3, .slice B y.f2.length d] TN)
    simpa only [World.size_alloc] using this
   have g4 : W0.heap[w.heap.size + 1 + 1 + 1 + 1]? = some (.cells #[.int .u8 y.f0, .int .u8 y.f1.f0, .string y.f1.f1, .int .i64 y.f1.f2.f0, .int .i64 y.f1.f2.f1, .int .i64 y.f1.f2.f2, .int .i64 y.f1.f3, .slice B y.f2.length d] TN) := by
    rw [← hW0]
    have := World.alloc_heap_new ((((w.alloc (.cells #[.int .u8 y.f0, .int .u8 x.f1.f0, .string x.f1.f1, .int .i64 x.f1.f2.f0, .int .i64 x.f1.f2.f1, .int .i64 x.f1.f2.f2, .int .i64 x.f1.f3, .slice A x.f2.length c] TN)).alloc (.cells #[.int .u8 y.f0, .int .u8 y.f1.f0, .string y.f1.f1, .int .i64 y.f1.f2.f0, .int .i64 y.f1.f2.f1, .int .i64 y.f1.f2.f2, .int .i64 y.f1.f3, .slice B y.f2.length d] TN)).alloc (.cells #[.bool false] 4)).alloc (.cells #[.slice none 0 0] 49)) (.cells #[.int .u8 y.f0, .int .u8 y.f1.f0, .string y.f1.f1, .int .i64 y.f1.f2.f0, .int .i64 y.f1.f2.f1, .int .i64 y.f1.f2.f2, .int .i64 y.f1.f3, .slice B y.f2.length d] TN)
    simpa only [World.size_alloc] using this
   have g0 : W0.heap[w.heap.size]? = some (.cells #[.int .u8 y.f0, .int .u8 x.f1.f0, .string x.f1.f1, .int .i64 x.f1.f2.f0, .int .i64 x.f1.f2.f1, .int .i64 x.f1.f2.f2, .int .i64 x.f1.f3, .slice A x.f2.length c] TN) := by
    rw [← hW0]
    refine Eq.trans (((((Below.refl (w.heap.size + 1) (w.alloc (.cells #[.int .u8 y.f0, .int .u8 x.f1.f0, .string x.f1.f1, .int .i64 x.f1.f2.f0, .int .i64 x.f1.f2.f1, .int .i64 x.f1.f2.f2, .int .i64 x.f1.f3, .slice A x.f2.length c] TN))).alloc (by simp) _).alloc (by simp) _).alloc (by simp <;> omega) _).alloc (by simp <;> omega) _ |>.block w.heap.size (by omega)) ?_
    exact World.alloc_heap_new w _
   rw [hW0]
   clear hW0
   obtain ⟨s0, hs0⟩ : ∃ s, w.heap.size = s := ⟨_, rfl⟩
   obtain ⟨s1, hs1⟩ : ∃ s, s0 + 1 = s := ⟨_, rfl⟩
   obtain ⟨s2, hs2⟩ : ∃ s, s1 + 1 = s := ⟨_, rfl⟩
   obtain ⟨s3, hs3⟩ : ∃ s, s2 + 1 = s := ⟨_, rfl⟩
   obtain ⟨s4, hs4⟩ : ∃ s, s3 + 1 = s := ⟨_, rfl⟩
   obtain ⟨XV, hXV⟩ : ∃ v, Value.agg #[.int .u8 y.f0, .int .u8 x.f1.f0, .string x.f1.f1, .int .i64 x.f1.f2.f0, .int .i64 x.f1.f2.f1, .int .i64 x.f1.f2.f2, .int .i64 x.f1.f3, .slice A x.f2.length c] = v := ⟨_, rfl⟩
   obtain ⟨YV, hYV⟩ : ∃ v, Value.agg #[.int .u8 y.f0, .int .u8 y.f1.f0, .string y.f1.f1, .int .i64 y.f1.f2.f0, .int .i64 y.f1.f2.f1, .int .i64 y.f1.f2.f2, .int .i64 y.f1.f3, .slice B y.f2.length d] = v := ⟨_, rfl⟩
   rw [hs0, hs1, hs2, hs3, hs4] at hz0
   rw [hs0, hs1, hs2, hs3] at g3
   rw [hs0, hs1, hs2] at g2
   rw [hs0, hs1, hs2, hs3, hs4] at g4
   rw [hs0] at g0
   rw [hXV, hYV, hs0, hs1, hs2, hs3, hs4]
   have hk7 : W0.cell? ⟨s4, 7, none⟩ = some (.slice B y.f2.length d) := cell_of_row _ _ _ _ _ _ g4
   have hmy : y.f2.length ≤ 274877906946 := by have := HMY.out; rw [nds_eq] at this; have := ndsL_len y.f2; omega
   have HZ := Lib.hid (show s0 + 1 = s1 ∧ s1 + 1 = s2 ∧ s2 + 1 = s3 ∧ s3 + 1 = s4 ∧ W0.heap.size = s4 + 1 ∧ w.heap.size = s0 from ⟨hs1, hs2, hs3, hs4, hz0, hs0⟩)
   have HXV := Lib.hid hXV
   have HYV := Lib.hid hYV
   have HG0 := Lib.hid g0
   have HG2 := Lib.hid g2
   have HB0 := Lib.hid hb0
   clear hXV hYV hs0 hs1 hs2 hs3 hs4 g0 g2 g4
   refine wpIn_rangeFunc_ownH rfl (by decide) (gf := 63) (lb := #[.pointer (some ⟨s4, 0, none⟩)]) rfl trivial (enters_of Try.func63 (by kernel_rfl) rfl)
    (kids_stops 7 (by decide) w y B d HCY.out (nds y) (by have := nds_eq y; omega) W0 hb0 s4 hk7 (by omega) hmy) belowK_t (belowK_b hb0.size) (Below.refl _ _) (fun _ => rfl)
    (Coll w W0 (nds y) s3) (fun _ _ _ => False) (coll_own (Nat.le_refl _)) (fun _ _ _ _ _ h _ _ => h)
    ⟨World.grownBy.refl _ _, _, g3, by simp [kvCells], .inl ⟨rfl, rfl⟩⟩
    (fun k a' W => ∃ Bx, W0.heap.size ≤ Bx ∧ W.heap[Bx]? = some (.cells #[.int .u8 k.x.f0, .int .u8 k.x.f1.f0, .string k.x.f1.f1, .int .i64 k.x.f1.f2.f0, .int .i64 k.x.f1.f2.f1, .int .i64 k.x.f1.f2.f2, .int .i64 k.x.f1.f3, .slice k.A k.x.f2.length k.c] TN) ∧ a' = { tmps := #[XV, YV, .pointer (some ⟨s0, 0, none⟩), .pointer (some ⟨s1, 0, none⟩), .pointer (some ⟨s2, 0, none⟩), .pointer (some ⟨s3, 0, none⟩), .pointer (some ⟨Bx, 0, none⟩), undef, undef, .pointer (some ⟨s0, 0, none⟩), .int .u8 y.f0, .pointer (some ⟨s1, 0, none⟩), .int .u8 y.f0, .bool false, .pointer (some ⟨s0, 0, none⟩), .int .u8 y.f0, .bool false, undef, undef, undef, undef, undef, undef, undef, undef, undef, undef, undef, undef, undef, undef, undef, undef, YV, .func (.func 63) #[] #[.pointer (some ⟨s4, 0, none⟩)], KV.val k, undef, undef, undef, undef, undef, undef, undef, undef, undef, undef, undef, undef, undef, undef, undef, undef, undef, undef, undef, undef, undef, undef, undef, undef, undef, undef, undef, undef], defers := [] }) ?hAx ?assign ?body ?done ?stop
   case hAx =>
    rintro k a' _ X Y row ⟨Bx, h1, h2, h3⟩ hg hr
    refine ⟨Bx, h1, (hg.block Bx (Array.getElem?_eq_some_iff.1 h2).1 fun e => ?_).trans h2, h3⟩
    obtain ⟨_, o, ho, hc⟩ := hr Bx e.symm
    rw [h2] at ho; cases ho; cases hc
   case assign =>
    rintro l pre k W K hI hK
    unfold KV.val
    gi_wp2
    exact hK _ _ ((KeepsOthers.alloc _ _).from _) ((Below.refl _ W).alloc (Nat.le_trans HB0.out.size hI.1.size) _) ((coll_own (Nat.le_refl _)).alloc _ hI) ⟨W.heap.size, hI.1.size, World.alloc_heap_new _ _, rfl⟩
   case body =>
    rintro l pre k a' W hl hloop ⟨hg, u, hu, ho⟩ ⟨Bx, hBx, hcx, rfl⟩ hlt
    obtain ⟨A5, c5, rfl⟩ : ∃ A5 c5, u = .slice A5 pre.length c5 := by
     rcases ho.2 with ⟨rfl, h0⟩ | ⟨g, cap, cur, rfl, _⟩
     ·exact ⟨none, 0, by rw [h0]⟩
     ·exact ⟨_, cap, rfl⟩
    obtain ⟨Wd, hWd⟩ : ∃ V, W.drew = V := ⟨_, rfl⟩
    have hrel : KeepsFrom W0.heap.size W Wd ∧ Below w.heap.size W Wd := by rw [← hWd]; exact ⟨(KeepsOthers.drew W).from _, (Below.refl _ W).drew⟩
    have hgd : W0.grownBy Wd (some s3) := by rw [← hWd]; exact ⟨hg.os, hg.tape, hg.output, hg.size, hg.block⟩
    have hbd : Boxed Wd s3 49 (.slice A5 pre.length c5) := by rw [← hWd]; exact hu
    have hod : Wd.ownsRow W0.heap.size TN 8 (.slice A5 pre.length c5) pre.length (kvCells pre) := by rw [← hWd]; exact ho.drew
    have hcd : Wd.heap[Bx]? = some (.cells #[.int .u8 k.x.f0, .int .u8 k.x.f1.f0, .string k.x.f1.f1, .int .i64 k.x.f1.f2.f0, .int .i64 k.x.f1.f2.f1, .int .i64 k.x.f1.f2.f2, .int .i64 k.x.f1.f3, .slice k.A k.x.f2.length k.c] TN) := by rw [← hWd]; exact hcx
    have hSall : ∀ V, Below Wd.heap.size Wd V → V.cell? ⟨s3, 0, none⟩ = some (.slice A5 pre.length c5) ∧ V.cell? ⟨Bx, 0, none⟩ = some (.int .u8 k.x.f0) ∧ V.cell? ⟨Bx, 1, none⟩ = some (.int .u8 k.x.f1.f0) ∧ V.cell? ⟨Bx, 2, none⟩ = some (.string k.x.f1.f1) ∧ V.cell? ⟨Bx, 3, none⟩ = some (.int .i64 k.x.f1.f2.f0) ∧ V.cell? ⟨Bx, 4, none⟩ = some (.int .i64 k.x.f1.f2.f1) ∧ V.cell? ⟨Bx, 5, none⟩ = some (.int .i64 k.x.f1.f2.f2) ∧ V.cell? ⟨Bx, 6, none⟩ = some (.int .i64 k.x.f1.f3) ∧ V.cell? ⟨Bx, 7, none⟩ = some (.slice k.A k.x.f2.length k.c) := fun V hV => ⟨(hV.cell (p := ⟨s3, 0, none⟩) hbd.lt).trans hbd.cell, (hV.cell (p := ⟨Bx, 0, none⟩) (Array.getElem?_eq_some_iff.1 hcd).1).trans (cell_of_row _ _ _ _ _ _ hcd), (hV.cell (p := ⟨Bx, 1, none⟩) (Array.getElem?_eq_some_iff.1 hcd).1).trans (cell_of_row _ _ _ _ _ _ hcd), (hV.cell (p := ⟨Bx, 2, none⟩) (Array.getElem?_eq_some_iff.1 hcd).1).trans (cell_of_row _ _ _ _ _ _ hcd), (hV.cell (p := ⟨Bx, 3, none⟩) (Array.getElem?_eq_some_iff.1 hcd).1).trans (cell_of_row _ _ _ _ _ _ hcd), (hV.cell (p := ⟨Bx, 4, none⟩) (Array.getElem?_eq_some_iff.1 hcd).1).trans (cell_of_row _ _ _ _ _ _ hcd), (hV.cell (p := ⟨Bx, 5, none⟩) (Array.getElem?_eq_some_iff.1 hcd).1).trans (cell_of_row _ _ _ _ _ _ hcd), (hV.cell (p := ⟨Bx, 6, none⟩) (Array.getElem?_eq_some_iff.1 hcd).1).trans (cell_of_row _ _ _ _ _ _ hcd), (hV.cell (p := ⟨Bx, 7, none⟩) (Array.getElem?_eq_some_iff.1 hcd).1).trans (cell_of_row _ _ _ _ _ _ hcd)⟩
    have HSA := Lib.hid hSall
    have HS := Lib.hid (hSall Wd (Below.refl _ _))
    have HREL := Lib.hid hrel
    have HGD := Lib.hid hgd
    have HBD := Lib.hid hbd
    have HOD := Lib.hid hod
    have HWd := Lib.hid hWd
    have HQ8 : Hid ((pre.length + 1) * 88 ≤ 140737488355328) := Lib.hid (by omega)
    have HBA : Hid (W0.heap.size ≤ Wd.heap.size) := Lib.hid hgd.size
    clear hrel hgd hbd hod hcd hSall hg hu ho hcx hWd hloop
    refine wpIn_block ?_
    refine wp_region_RIn (fun w' => w'.cell? ⟨s3, 0, none⟩ = some (.slice A5 pre.length c5) ∧ w'.cell? ⟨Bx, 0, none⟩ = some (.int .u8 k.x.f0) ∧ w'.cell? ⟨Bx, 1, none⟩ = some (.int .u8 k.x.f1.f0) ∧ w'.cell? ⟨Bx, 2, none⟩ = some (.string k.x.f1.f1) ∧ w'.cell? ⟨Bx, 3, none⟩ = some (.int .i64 k.x.f1.f2.f0) ∧ w'.cell? ⟨Bx, 4, none⟩ = some (.int .i64 k.x.f1.f2.f1) ∧ w'.cell? ⟨Bx, 5, none⟩ = some (.int .i64 k.x.f1.f2.f2) ∧ w'.cell? ⟨Bx, 6, none⟩ = some (.int .i64 k.x.f1.f3) ∧ w'.cell? ⟨Bx, 7, none⟩ = some (.slice k.A k.x.f2.length k.c)) (fun j => Nat.ble j 3) (by kernel_rfl) (by kernel_rfl) ?_
    rw [HWd.out]
    refine anyR_take (i := 0) (oi := { dst := some 36, op := .load 49 (.tmp 5), type := 49, pos := "tree.go:93", after := #[], guard := none }) (v := ?_) rfl (by kernel_rfl) (fun _ _ _ h => h) (Or.inl ⟨by rfl, ?_⟩) HS.out ?_
    rotate_left
    ·intro x h; (try dsimp only at h); go_simp; try (with_reducible rfl)
    try simp only [Act.put, List.setIfInBounds_toArray, List.set]
    refine anyR_take (i := 1) (oi := { dst := some 37, op := .load 51 (.tmp 6), type := 51, pos := "tree.go:93", after := #[], guard := none }) (v := ?_) rfl (by kernel_rfl) (fun _ _ _ h => h) (Or.inl ⟨by rfl, ?_⟩) HS.out ?_
    rotate_left
    ·intro x h; (try dsimp only at h); go_simp; try (with_reducible rfl)
    try simp only [Act.put, List.setIfInBounds_toArray, List.set]
    refine anyR_take (i := 2) (oi := { dst := some 38, op := .call { callee := .builtin .len, args := #[.tmp 36], argTypes := #[49] }, type := 3, pos := "tree.go:93", after := #[{ on := 0, ground := .data }], guard := none }) (v := ?_) rfl (by kernel_rfl) (fun _ _ _ h => h) (Or.inl ⟨by rfl, ?_⟩) HS.out ?_
    rotate_left
    ·intro x h; (try dsimp only at h); go_simp; try (with_reducible rfl)
    try simp only [Act.put, List.setIfInBounds_toArray, List.set]
    refine anyR_ready (rs := [3]) (by kernel_rfl) (by simp) ?_
    refine ReadyR.cons (o := { dst := some 39, op := .buildSlice 49 1 #[(0, .const (.agg #[.int .u8 0, .int .u8 0, .string { data := #[] }, .int .i64 0, .int .i64 0, .int .i64 0, .int .i64 0, .slice none 0 0]))], type := 49, pos := "tree.go:93", after := #[], guard := none }) rfl (fun K hK => ?_) ReadyR.nil
    go_simp
    refine hK.out _ _ (fun _ => ?_) ?_
    ·exact HSA.out _ ((Below.refl Wd.heap.size Wd).alloc (Nat.le_refl _) _)
    clear hK K
    try simp only [Act.put, List.setIfInBounds_toArray, List.set]
    refine anyR_ready (rs := [4]) (by kernel_rfl) (by simp) ?_
    refine ReadyR.cons (o := { dst := some 40, op := .call { callee := .builtin .append, args := #[.tmp 36, .tmp 39], argTypes := #[49, 49] }, type := 49, pos := "tree.go:93", after := #[{ on := 0, ground := .data }, { on := 3, ground := .data }, { on := 0, ground := .phase }, { on := 1, ground := .phase }, { on := 2, ground := .phase }, { on := 3, ground := .phase }], guard := none }) rfl (fun K hK => ?_) ReadyR.nil
    refine step_kid rfl (.tmp 36) (.tmp 39) rfl W0.heap.size (cs := zNd) rfl rfl HOD.out rfl zNd_one HBA.out HQ8.out ?_
    intro g1 c1 w1 ho hg hat
    refine hK.out _ _ (fun h => absurd h (by decide)) ?_
    clear hK K
    try simp only [Act.put, List.setIfInBounds_toArray, List.set]
    obtain ⟨⟨cur1, hh1, hf1⟩, ⟨cur4, hh4, hf4⟩, hb3, hb2, finA, finB⟩ := coll_push (k := k) (s3 := s3) (by have := HZ.out; omega) (by have := HZ.out; omega) HREL.out HGD.out HBD.out HOD.out hg ho
    have HH1 := Lib.hid hh1
    have HH4 := Lib.hid hh4
    have HH3 := Lib.hid hb3
    have HH2 := Lib.hid hb2
    have HF1 := Lib.hid hf1
    have HF4 := Lib.hid hf4
    have FA := Lib.hid finA
    have FB := Lib.hid finB
    clear hh1 hh4 hb3 hb2 hf1 hf4 finA finB ho hg hat
    have hqq : (pre.length : Int) < (pre.length : Int) + 1 := by omega
    refine anyR_take0 (i := 5) (oi := { dst := some 41, op := .indexAddr 49 (.tmp 40) (.tmp 38), type := 0, pos := "tree.go:93", after := #[{ on := 4, ground := .data }, { on := 2, ground := .data }, { on := 0, ground := .phase }, { on := 1, ground := .phase }, { on := 2, ground := .phase }, { on := 3, ground := .phase }, { on := 4, ground := .phase }, { on := 7, ground := .gcOnly .appendInPlace }], guard := none }) (v := ?_) rfl (by kernel_rfl) (fun _ _ _ h => h) (Or.inl ⟨by rfl, ?_⟩) ?_
    rotate_left
    ·intro w9; go_simp; try (with_reducible rfl)
    try simp only [Act.put, List.setIfInBounds_toArray, List.set]
    refine anyR_ready (rs := [6, 7]) (by kernel_rfl) (by simp) ?_
    refine ReadyR.cons (o := { dst := none, op := .store 51 (.tmp 41) (.tmp 37), type := 0, pos := "tree.go:93", after := #[{ on := 5, ground := .data }, { on := 1, ground := .data }, { on := 4, ground := .chain }, { on := 0, ground := .phase }, { on := 1, ground := .phase }, { on := 2, ground := .phase }, { on := 3, ground := .phase }, { on := 4, ground := .phase }, { on := 7, ground := .gcOnly .appendInPlace }], guard := none }) rfl (fun K hK => ?_) (ReadyR.cons (o := { dst := none, op := .store 49 (.tmp 5) (.tmp 40), type := 0, pos := "tree.go:93", after := #[{ on := 4, ground := .data }, { on := 4, ground := .chain }, { on := 6, ground := .textOnly .appendInPlace }, { on := 0, ground := .phase }, { on := 1, ground := .phase }, { on := 2, ground := .phase }, { on := 3, ground := .phase }, { on := 4, ground := .phase }, { on := 5, ground := .textOnly .appendInPlace }, { on := 6, ground := .textOnly .appendInPlace }], guard := none }) rfl (fun K hK => ?_) ReadyR.nil)
    ·refine step_store rfl rfl 51 (.tmp 41) (.tmp 37) rfl _ (ndCells k.x.f0 k.x.f1 (.slice k.A k.x.f2.length k.c)) rfl rfl rfl infoNd8 (ndCells_one _ _ rfl) HH1.out HF1.out ?_
     refine hK.out _ _ (fun h => absurd h (by decide)) ?_
     clear hK K
     generalize w1.setCells g1 (pre.length * 8) (ndCells k.x.f0 k.x.f1 (.slice k.A k.x.f2.length k.c)) = w2x at HH2 FA ⊢
     refine anyR_ready (rs := [7]) (by kernel_rfl) (by simp) ?_
     refine ReadyR.cons (o := { dst := none, op := .store 49 (.tmp 5) (.tmp 40), type := 0, pos := "tree.go:93", after := #[{ on := 4, ground := .data }, { on := 4, ground := .chain }, { on := 6, ground := .textOnly .appendInPlace }, { on := 0, ground := .phase }, { on := 1, ground := .phase }, { on := 2, ground := .phase }, { on := 3, ground := .phase }, { on := 4, ground := .phase }, { on := 5, ground := .textOnly .appendInPlace }, { on := 6, ground := .textOnly .appendInPlace }], guard := none }) rfl (fun K hK => ?_) ReadyR.nil
     refine step_store rfl rfl 49 (.tmp 5) (.tmp 40) rfl _ [.slice (some ⟨g1, 0, none⟩) (pre.length + 1) c1] rfl rfl rfl infoNdS (fun u hu => by rw [List.mem_singleton.1 hu]; rfl) HH2.out (Nat.le_refl 1) ?_
     refine hK.out _ _ (fun h => absurd h (by decide)) ?_
     clear hK K
     refine anyR_done (by kernel_rfl) ?_ _
     exact FA.out
    ·refine step_store rfl rfl 49 (.tmp 5) (.tmp 40) rfl _ [.slice (some ⟨g1, 0, none⟩) (pre.length + 1) c1] rfl rfl rfl infoNdS (fun u hu => by rw [List.mem_singleton.1 hu]; rfl) HH3.out (Nat.le_refl 1) ?_
     refine hK.out _ _ (fun h => absurd h (by decide)) ?_
     clear hK K
     generalize w1.setCells s3 0 [.slice (some ⟨g1, 0, none⟩) (pre.length + 1) c1] = w2x at HH4 FB ⊢
     refine anyR_ready (rs := [6]) (by kernel_rfl) (by simp) ?_
     refine ReadyR.cons (o := { dst := none, op := .store 51 (.tmp 41) (.tmp 37), type := 0, pos := "tree.go:93", after := #[{ on := 5, ground := .data }, { on := 1, ground := .data }, { on := 4, ground := .chain }, { on := 0, ground := .phase }, { on := 1, ground := .phase }, { on := 2, ground := .phase }, { on := 3, ground := .phase }, { on := 4, ground := .phase }, { on := 7, ground := .gcOnly .appendInPlace }], guard := none }) rfl (fun K hK => ?_) ReadyR.nil
     refine step_store rfl rfl 51 (.tmp 41) (.tmp 37) rfl _ (ndCells k.x.f0 k.x.f1 (.slice k.A k.x.f2.length k.c)) rfl rfl rfl infoNd8 (ndCells_one _ _ rfl) HH4.out HF4.out ?_
     refine hK.out _ _ (fun h => absurd h (by decide)) ?_
     clear hK K
     refine anyR_done (by kernel_rfl) ?_ _
     exact FB.out
   case done =>
    rintro D ys W hD hS ⟨hg, u, hu, ho⟩ hDef
    obtain ⟨A5, c5, rfl⟩ : ∃ A5 c5, u = .slice A5 ys.length c5 := by
     rcases ho.2 with ⟨rfl, h0⟩ | ⟨g, cap, cur, rfl, _⟩
     ·exact ⟨none, 0, by rw [h0]⟩
     ·exact ⟨_, cap, rfl⟩
    have hz := HZ.out
    have hn03 : some s0 ≠ some s3 := by simp; omega
    have hn23 : some s2 ≠ some s3 := by simp; omega
    have hxs : W.heap[s0]? = some (.cells #[.int .u8 y.f0, .int .u8 x.f1.f0, .string x.f1.f1, .int .i64 x.f1.f2.f0, .int .i64 x.f1.f2.f1, .int .i64 x.f1.f2.f2, .int .i64 x.f1.f3, .slice A x.f2.length c] TN) := (hg.block s0 (by omega) hn03).trans HG0.out
    have hb2 : Boxed W s2 4 (.bool false) := HG2.out.kept hg hn23
    have hBW : Below w.heap.size w W := HB0.out.grown hg HB0.out.size (fun j e => by cases e; omega)
    obtain ⟨W6, hW6⟩ : ∃ V, W.alloc (.cells #[.int .i64 0] 3) = V := ⟨_, rfl⟩
    obtain ⟨W7, hW7⟩ : ∃ V, W6.setCell ⟨W.heap.size, 0, none⟩ (.int .i64 0) = V := ⟨_, rfl⟩
    have b6 : Boxed W6 W.heap.size 3 (.int .i64 0) := by rw [← hW6]; exact Boxed.new _ _ _
    have c6 := b6.cell
    have f6 := b6.frozen
    have b7 : Boxed W7 W.heap.size 3 (.int .i64 0) := by rw [← hW7]; exact b6.set _
    have hg7 : W.grownBy W7 none := by
     rw [← hW7, ← hW6]
     exact ⟨rfl, rfl, rfl, by simp, fun k hk _ => (Below.heap_setCell _ _ _ k (by show k ≠ W.heap.size; omega)).trans (Below.heap_alloc W _ k hk)⟩
    have hz7 : W7.heap.size = W.heap.size + 1 := by rw [← hW7, ← hW6]; simp
    replace hxs : W7.heap[s0]? = some (.cells #[.int .u8 y.f0, .int .u8 x.f1.f0, .string x.f1.f1, .int .i64 x.f1.f2.f0, .int .i64 x.f1.f2.f1, .int .i64 x.f1.f2.f2, .int .i64 x.f1.f3, .slice A x.f2.length c] TN) := (hg7.block s0 (Array.getElem?_eq_some_iff.1 hxs).1 (by simp)).trans hxs
    replace ho := ho.kept hg7 (Classical.em _)
    replace hb2 := hb2.kept hg7 (by simp)
    obtain ⟨q0, q1, q2, q3, q4, q5, q6, q7⟩ : W7.cell? ⟨s0, 0, none⟩ = some (.int .u8 y.f0) ∧ W7.cell? ⟨s0, 1, none⟩ = some (.int .u8 x.f1.f0) ∧ W7.cell? ⟨s0, 2, none⟩ = some (.string x.f1.f1) ∧ W7.cell? ⟨s0, 3, none⟩ = some (.int .i64 x.f1.f2.f0) ∧ W7.cell? ⟨s0, 4, none⟩ = some (.int .i64 x.f1.f2.f1) ∧ W7.cell? ⟨s0, 5, none⟩ = some (.int .i64 x.f1.f2.f2) ∧ W7.cell? ⟨s0, 6, none⟩ = some (.int .i64 x.f1.f3) ∧ W7.cell? ⟨s0, 7, none⟩ = some (.slice A x.f2.length c) := ⟨cell_of_row _ _ _ _ _ _ hxs, cell_of_row _ _ _ _ _ _ hxs, cell_of_row _ _ _ _ _ _ hxs, cell_of_row _ _ _ _ _ _ hxs, cell_of_row _ _ _ _ _ _ hxs, cell_of_row _ _ _ _ _ _ hxs, cell_of_row _ _ _ _ _ _ hxs, cell_of_row _ _ _ _ _ _ hxs⟩
    have HG := Lib.hid hg
    have HU := Lib.hid hu
    have HO := Lib.hid ho
    have HD := Lib.hid (And.intro hD hDef)
    have HSS := Lib.hid hS
    have HBW := Lib.hid hBW
    have HB2 := Lib.hid hb2
    have HB7 := Lib.hid b7
    have HG7 := Lib.hid hg7
    have HZ7 := Lib.hid hz7
    clear b6 b7 hg7 hz7 hn03 hn23 hg hu ho hD hDef hS hz hxs hBW hb2 hb0 g3 hz0 hk7 hmy
    gi_wp2_with (refine ⟨trivial, ?_⟩; gi_at_call 45; refine (kids_in _ ⟨y.f0, x.f1, x.f2⟩ A x.f2.length c _).mono ?_; rintro e w' ⟨rfl, rfl⟩)
    clear q0 q1 q2 q3 q4 q5 q6 q7
    have hz7 := HZ7.out
    have b7 := HB7.out
    obtain ⟨s7, hs7⟩ : ∃ s, W.heap.size = s := ⟨_, rfl⟩
    obtain ⟨s8, hs8⟩ : ∃ s, W7.heap.size = s := ⟨_, rfl⟩
    rw [hs7] at b7
    rw [hs7, hs8] at hz7
    rw [HXV.out, hs7, hs8]
    obtain ⟨W1, hW1⟩ : ∃ V, W7.alloc (.cells #[.int .u8 y.f0, .int .u8 x.f1.f0, .string x.f1.f1, .int .i64 x.f1.f2.f0, .int .i64 x.f1.f2.f1, .int .i64 x.f1.f2.f2, .int .i64 x.f1.f3, .slice A x.f2.length c] TN) = V := ⟨_, rfl⟩
    have hz1 : W1.heap.size = s8 + 1 := by rw [← hW1, World.size_alloc, hs8]
    have hg71 : W7.grownBy W1 none := by rw [← hW1]; exact World.grownBy_alloc _ _ _
    have hk1 : W1.heap[s8]? = some (.cells #[.int .u8 y.f0, .int .u8 x.f1.f0, .string x.f1.f1, .int .i64 x.f1.f2.f0, .int .i64 x.f1.f2.f1, .int .i64 x.f1.f2.f2, .int .i64 x.f1.f3, .slice A x.f2.length c] TN) := by rw [← hW1, ← hs8]; exact World.alloc_heap_new _ _
    have hkc : W1.cell? ⟨s8, 7, none⟩ = some (.slice A x.f2.length c) := cell_of_row _ _ _ _ _ _ hk1
    have b71 := b7.kept hg71 (by simp)
    have b21 := HB2.out.kept hg71 (by simp)
    have b31 : Boxed W1 s3 49 (.slice A5 ys.length c5) := (HU.out.kept HG7.out (by simp)).kept hg71 (by simp)
    have ho1 := HO.out.kept hg71 (Classical.em _)
    have hB1 : Below w.heap.size w W1 := (HBW.out.grown HG7.out HBW.out.size (fun _ e => nomatch e)).grown hg71 (Nat.le_trans HBW.out.size HG7.out.size) (fun _ e => nomatch e)
    have hdl : D < W.heap.size := (Array.getElem?_eq_some_iff.1 HD.out.2).1
    have hd1 : W1.heap[D]? = some (.deferred (some [])) := (hg71.block D (Nat.lt_of_lt_of_le hdl HG7.out.size) (by simp)).trans ((HG7.out.block D hdl (by simp)).trans HD.out.2)
    have hlx : x.f2.length ≤ 274877906946 := by have := HMX.out; rw [nds_eq] at this; have := ndsL_len x.f2; omega
    have hmx : ndsL x.f2 ≤ nds x - 1 := by rw [nds_eq]; omega
    have hz := HZ.out
    have hgs := HG.out.size
    have hs37 : s3 < s7 := by omega
    rw [hW1]
    clear hW1 hg71 hk1
    have HZB := Lib.hid (And.intro hz7 (And.intro hz1 (And.intro hgs hs37)))
    have hs23 : s2 < W1.heap.size ∧ s3 < W1.heap.size ∧ s7 < W1.heap.size ∧ s2 ≠ s3 ∧ s3 ≠ s7 ∧ s2 ≠ s7 ∧ w.heap.size ≤ s2 ∧ w.heap.size ≤ s7 := by omega
    have hs8W : s8 < W1.heap.size := by omega
    have HNE := Lib.hid hs23
    clear hz7 hz1 hs37 hgs hz hs23
    refine wpIn_rangeFunc_ownH rfl (by decide) (gf := 63) (lb := #[.pointer (some ⟨s8, 0, none⟩)]) rfl trivial (enters_of Try.func63 (by kernel_rfl) rfl)
     (kids_stops 7 (by decide) w x A c HCX.out (nds x - 1) hmx W1 hB1 s8 hkc hs8W hlx) belowK_t (belowK_b hB1.size) (Below.refl _ _) (fun _ => rfl)
     (fun pre V => Rel2 W1 s2 s7 V ∧ Boxed V s2 4 (.bool false) ∧ Boxed V s7 3 (.int .i64 (pre.length : Nat)) ∧ okL (sameN k) (pre.map (·.x)) (ys.map (·.x)))
     (fun e pre V => e = .ret ∧ Rel2 W1 s2 s7 V ∧ Boxed V s2 4 (.bool false) ∧ ¬ okL (sameN k) (pre.map (·.x)) (ys.map (·.x)))
     (OwnFrom.and (rel2_own (Nat.le_refl _)) (OwnFrom.and (Own.from (boxed_own s2 _ (fun _ => .bool false)) _) (OwnFrom.and (Own.from (boxed_own s7 _ (fun pre : List (KV w (nds x - 1)) => .int .i64 (pre.length : Nat))) _) (ownFrom_pure _ _))))
     (fun e => OwnFrom.and (ownFrom_pure _ _) (OwnFrom.and (rel2_own (Nat.le_refl _)) (OwnFrom.and (Own.from (boxed_own s2 _ (fun _ => .bool false)) _) (ownFrom_pure _ _))))
     ⟨Rel2.refl _ _ _, b21, b71, okL_nil _ _⟩
     (fun q a' V => ∃ Bx, W1.heap.size ≤ Bx ∧ V.heap[Bx]? = some (.cells #[.int .u8 q.x.f0, .int .u8 q.x.f1.f0, .string q.x.f1.f1, .int .i64 q.x.f1.f2.f0, .int .i64 q.x.f1.f2.f1, .int .i64 q.x.f1.f2.f2, .int .i64 q.x.f1.f3, .slice q.A q.x.f2.length q.c] TN) ∧ a' = { tmps := #[XV, YV, .pointer (some ⟨s0, 0, none⟩), .pointer (some ⟨s1, 0, none⟩), .pointer (some ⟨s2, 0, none⟩), .pointer (some ⟨s3, 0, none⟩), undef, .pointer (some ⟨s7, 0, none⟩), .pointer (some ⟨Bx, 0, none⟩), .pointer (some ⟨s0, 0, none⟩), .int .u8 y.f0, .pointer (some ⟨s1, 0, none⟩), .int .u8 y.f0, .bool false, .pointer (some ⟨s0, 0, none⟩), .int .u8 y.f0, .bool false, undef, undef, undef, undef, undef, undef, undef, undef, undef, undef, undef, undef, undef, undef, undef, undef, YV, .func (.func 63) #[] #[.pointer (some ⟨s4, 0, none⟩)], undef, undef, undef, undef, undef, undef, undef, XV, .func (.func 63) #[] #[.pointer (some ⟨s8, 0, none⟩)], KV.val q, undef, undef, undef, undef, undef, undef, undef, undef, undef, undef, undef, undef, undef, undef, undef, undef, undef, undef, undef], defers := [] }) ?hAx2 ?assign2 ?body2 ?done2 ?stop2
    case hAx2 =>
     rintro q a' _ X Y row ⟨Bx, h1, h2, h3⟩ hg hr
     refine ⟨Bx, h1, (hg.block Bx (Array.getElem?_eq_some_iff.1 h2).1 fun e => ?_).trans h2, h3⟩
     obtain ⟨_, o, ho, hc⟩ := hr Bx e.symm
     rw [h2] at ho; cases ho; cases hc
    case assign2 =>
     rintro l pre q V K hI hK
     unfold KV.val
     gi_wp2
     exact hK _ _ ((KeepsOthers.alloc _ _).from _) ((Below.refl _ V).alloc (Nat.le_trans hB1.size hI.1.size) _) ⟨hI.1.grown (World.grownBy_alloc _ _ none) (fun _ e => nomatch e), hI.2.1.alloc _, hI.2.2.1.alloc _, hI.2.2.2⟩ ⟨V.heap.size, hI.1.size, World.alloc_heap_new _ _, rfl⟩
    case body2 =>
     rintro l pre q a' V hl hloop ⟨hR, v2, v7, hok⟩ ⟨Bx, hBx, hcx, rfl⟩ hlt
     have hne := HNE.out
     have v3 : Boxed V s3 49 (.slice A5 ys.length c5) := (hR.block s3 b31.lt (by omega) (by omega)).trans b31
     have hoV := hR.row ho1 b21 (by decide) b71 (by decide)
     have hbv := hR.below hB1 (by omega) (by omega)
     obtain ⟨Vd, hVd⟩ : ∃ U, V.drew = U := ⟨_, rfl⟩
     have hrd : Rel2 W1 s2 s7 Vd := by rw [← hVd]; exact ⟨hR.os, hR.tape, hR.output, hR.size, hR.block⟩
     have hkd : KeepsOthers V Vd := by rw [← hVd]; exact KeepsOthers.drew V
     have hbd : Below w.heap.size V Vd := by rw [← hVd]; exact (Below.refl _ V).drew
     have d2 : Boxed Vd s2 4 (.bool false) := by rw [← hVd]; exact v2
     have d7 : Boxed Vd s7 3 (.int .i64 (pre.length : Nat)) := by rw [← hVd]; exact v7
     have d3 : Boxed Vd s3 49 (.slice A5 ys.length c5) := by rw [← hVd]; exact v3
     have hod : Vd.ownsRow W0.heap.size TN 8 (.slice A5 ys.length c5) ys.length (kvCells ys) := by rw [← hVd]; exact hoV.drew
     have hcd : Vd.heap[Bx]? = some (.cells #[.int .u8 q.x.f0, .int .u8 q.x.f1.f0, .string q.x.f1.f1, .int .i64 q.x.f1.f2.f0, .int .i64 q.x.f1.f2.f1, .int .i64 q.x.f1.f2.f2, .int .i64 q.x.f1.f3, .slice q.A q.x.f2.length q.c] TN) := by rw [← hVd]; exact hcx
     have hub : pre.length ≤ 274877906946 := by omega
     have hok1 := hok.1
     rw [List.length_map, List.length_map] at hok1
     have HNE := Lib.hid hne
     have HOK := Lib.hid hok
     have HREL := Lib.hid (And.intro hrd (And.intro hkd hbd))
     have HD2 := Lib.hid d2
     have HD7 := Lib.hid d7
     have HD3 := Lib.hid d3
     have HOD := Lib.hid hod
     have HCD := Lib.hid hcd
     have HBVD := Lib.hid (hbv.trans hbd)
     have HVd := Lib.hid hVd
     clear hne hbv hR v2 v3 v7 hok hrd hkd hbd d2 d7 d3 hoV hcx hVd hloop hd1 hB1 b71 b21 b31 ho1 hkc hlx hmx hdl
     by_cases hi : pre.length < ys.length
     ·obtain ⟨z, hz⟩ : ∃ z, ys[pre.length]? = some z := ⟨ys[pre.length], List.getElem?_eq_getElem hi⟩
      obtain ⟨g5, rfl⟩ : ∃ g5, A5 = some ⟨g5, 0, none⟩ := by
       rcases HOD.out.2 with ⟨he, h0⟩ | ⟨g, cap, cur, he, _⟩
       ·omega
       ·injection he with he; exact ⟨g, he⟩
      have hel : ∀ U, Below Vd.heap.size Vd U → ∀ (j : Nat) v, (ndCells z.x.f0 z.x.f1 (.slice z.A z.x.f2.length z.c))[j]? = some v → U.cell? ⟨g5, pre.length * 8 + j, none⟩ = some v := by
       intro U hU j v hj
       have hg5 : g5 < Vd.heap.size := own_lt HOD.out g5 rfl
       refine (hU.cell (p := ⟨g5, pre.length * 8 + j, none⟩) hg5).trans ?_
       have hj8 : j < 8 := (List.getElem?_eq_some_iff.1 hj).1
       rw [HOD.out.cellAt (pre.length * 8 + j) (by omega)]
       exact kv_at ys pre.length z hz j v hj
      have hSall : ∀ U, Below Vd.heap.size Vd U → U.cell? ⟨s7, 0, none⟩ = some (.int .i64 (pre.length : Nat)) ∧ U.cell? ⟨s3, 0, none⟩ = some (.slice (some ⟨g5, 0, none⟩) ys.length c5) ∧ U.cell? ⟨Bx, 0, none⟩ = some (.int .u8 q.x.f0) ∧ U.cell? ⟨Bx, 1, none⟩ = some (.int .u8 q.x.f1.f0) ∧ U.cell? ⟨Bx, 2, none⟩ = some (.string q.x.f1.f1) ∧ U.cell? ⟨Bx, 3, none⟩ = some (.int .i64 q.x.f1.f2.f0) ∧ U.cell? ⟨Bx, 4, none⟩ = some (.int .i64 q.x.f1.f2.f1) ∧ U.cell? ⟨Bx, 5, none⟩ = some (.int .i64 q.x.f1.f2.f2) ∧ U.cell? ⟨Bx, 6, none⟩ = some (.int .i64 q.x.f1.f3) ∧ U.cell? ⟨Bx, 7, none⟩ = some (.slice q.A q.x.f2.length q.c) ∧ U.cell? ⟨g5, pre.length * 8, none⟩ = some (.int .u8 z.x.f0) ∧ U.cell? ⟨g5, pre.length * 8 + 1, none⟩ = some (.int .u8 z.x.f1.f0) ∧ U.cell? ⟨g5, pre.length * 8 + 2, none⟩ = some (.string z.x.f1.f1) ∧ U.cell? ⟨g5, pre.length * 8 + 3, none⟩ = some (.int .i64 z.x.f1.f2.f0) ∧ U.cell? ⟨g5, pre.length * 8 + 4, none⟩ = some (.int .i64 z.x.f1.f2.f1) ∧ U.cell? ⟨g5, pre.length * 8 + 5, none⟩ = some (.int .i64 z.x.f1.f2.f2) ∧ U.cell? ⟨g5, pre.length * 8 + 6, none⟩ = some (.int .i64 z.x.f1.f3) ∧ U.cell? ⟨g5, pre.length * 8 + 7, none⟩ = some (.slice z.A z.x.f2.length z.c) := fun U hU => ⟨(hU.cell (p := ⟨s7, 0, none⟩) HD7.out.lt).trans HD7.out.cell, (hU.cell (p := ⟨s3, 0, none⟩) HD3.out.lt).trans HD3.out.cell, (hU.cell (p := ⟨Bx, 0, none⟩) (Array.getElem?_eq_some_iff.1 HCD.out).1).trans (cell_of_row _ _ _ _ _ _ HCD.out), (hU.cell (p := ⟨Bx, 1, none⟩) (Array.getElem?_eq_some_iff.1 HCD.out).1).trans (cell_of_row _ _ _ _ _ _ HCD.out), (hU.cell (p := ⟨Bx, 2, none⟩) (Array.getElem?_eq_some_iff.1 HCD.out).1).trans (cell_of_row _ _ _ _ _ _ HCD.out), (hU.cell (p := ⟨Bx, 3, none⟩) (Array.getElem?_eq_some_iff.1 HCD.out).1).trans (cell_of_row _ _ _ _ _ _ HCD.out), (hU.cell (p := ⟨Bx, 4, none⟩) (Array.getElem?_eq_some_iff.1 HCD.out).1).trans (cell_of_row _ _ _ _ _ _ HCD.out), (hU.cell (p := ⟨Bx, 5, none⟩) (Array.getElem?_eq_some_iff.1 HCD.out).1).trans (cell_of_row _ _ _ _ _ _ HCD.out), (hU.cell (p := ⟨Bx, 6, none⟩) (Array.getElem?_eq_some_iff.1 HCD.out).1).trans (cell_of_row _ _ _ _ _ _ HCD.out), (hU.cell (p := ⟨Bx, 7, none⟩) (Array.getElem?_eq_some_iff.1 HCD.out).1).trans (cell_of_row _ _ _ _ _ _ HCD.out), hel U hU 0 _ rfl, hel U hU 1 _ rfl, hel U hU 2 _ rfl, hel U hU 3 _ rfl, hel U hU 4 _ rfl, hel U hU 5 _ rfl, hel U hU 6 _ rfl, hel U hU 7 _ rfl⟩
      have HSA := Lib.hid hSall
      have HS := Lib.hid (hSall Vd (Below.refl _ _))
      have HI := Lib.hid hi
      have HZI := Lib.hid hz
      have dn : ((pre.length : Int) == (ys.length : Int)) = false := by rw [beq_cast]; exact beq_eq_false_iff_ne.2 (by omega)
      have hpi : (pre.length : Int) < (ys.length : Int) := by omega
      clear hel hSall hi hz
      refine wpIn_block ?_
      refine wpIn_seq ?_
      refine wpIn_seq ?_
      refine wp_region_RIn (fun w' => w'.cell? ⟨s7, 0, none⟩ = some (.int .i64 (pre.length : Nat)) ∧ w'.cell? ⟨s3, 0, none⟩ = some (.slice (some ⟨g5, 0, none⟩) ys.length c5) ∧ w'.cell? ⟨Bx, 0, none⟩ = some (.int .u8 q.x.f0) ∧ w'.cell? ⟨Bx, 1, none⟩ = some (.int .u8 q.x.f1.f0) ∧ w'.cell? ⟨Bx, 2, none⟩ = some (.string q.x.f1.f1) ∧ w'.cell? ⟨Bx, 3, none⟩ = some (.int .i64 q.x.f1.f2.f0) ∧ w'.cell? ⟨Bx, 4, none⟩ = some (.int .i64 q.x.f1.f2.f1) ∧ w'.cell? ⟨Bx, 5, none⟩ = some (.int .i64 q.x.f1.f2.f2) ∧ w'.cell? ⟨Bx, 6, none⟩ = some (.int .i64 q.x.f1.f3) ∧ w'.cell? ⟨Bx, 7, none⟩ = some (.slice q.A q.x.f2.length q.c) ∧ w'.cell? ⟨g5, pre.length * 8, none⟩ = some (.int .u8 z.x.f0) ∧ w'.cell? ⟨g5, pre.length * 8 + 1, none⟩ = some (.int .u8 z.x.f1.f0) ∧ w'.cell? ⟨g5, pre.length * 8 + 2, none⟩ = some (.string z.x.f1.f1) ∧ w'.cell? ⟨g5, pre.length * 8 + 3, none⟩ = some (.int .i64 z.x.f1.f2.f0) ∧ w'.cell? ⟨g5, pre.length * 8 + 4, none⟩ = some (.int .i64 z.x.f1.f2.f1) ∧ w'.cell? ⟨g5, pre.length * 8 + 5, none⟩ = some (.int .i64 z.x.f1.f2.f2) ∧ w'.cell? ⟨g5, pre.length * 8 + 6, none⟩ = some (.int .i64 z.x.f1.f3) ∧ w'.cell? ⟨g5, pre.length * 8 + 7, none⟩ = some (.slice z.A z.x.f2.length z.c)) (fun _ => true) (by kernel_rfl) (by kernel_rfl) ?_
      rw [HVd.out]
      refine anyR_take (i := 0) (oi := { dst := some 45, op := .load 3 (.tmp 7), type := 3, pos := "tree.go:97", after := #[], guard := none }) (v := ?_) rfl (by kernel_rfl) (fun _ _ _ h => h) (Or.inl ⟨by rfl, ?_⟩) HS.out ?_
      rotate_left
      ·intro x h; (try dsimp only at h); go_simp; try (with_reducible rfl)
      try simp only [Act.put, List.setIfInBounds_toArray, List.set]
      refine anyR_take (i := 1) (oi := { dst := some 46, op := .load 49 (.tmp 5), type := 49, pos := "tree.go:97", after := #[], guard := none }) (v := ?_) rfl (by kernel_rfl) (fun _ _ _ h => h) (Or.inl ⟨by rfl, ?_⟩) HS.out ?_
      rotate_left
      ·intro x h; (try dsimp only at h); go_simp; try (with_reducible rfl)
      try simp only [Act.put, List.setIfInBounds_toArray, List.set]
      refine anyR_take (i := 2) (oi := { dst := some 47, op := .call { callee := .builtin .len, args := #[.tmp 46], argTypes := #[49] }, type := 3, pos := "tree.go:97", after := #[{ on := 1, ground := .data }], guard := none }) (v := ?_) rfl (by kernel_rfl) (fun _ _ _ h => h) (Or.inl ⟨by rfl, ?_⟩) HS.out ?_
      rotate_left
      ·intro x h; (try dsimp only at h); go_simp; try (with_reducible rfl)
      try simp only [Act.put, List.setIfInBounds_toArray, List.set]
      refine anyR_take (i := 3) (oi := { dst := some 48, op := .binOp .eql 3 (.tmp 45) (.tmp 47) 3, type := 4, pos := "tree.go:97", after := #[{ on := 0, ground := .data }, { on := 2, ground := .data }], guard := none }) (v := ?_) rfl (by kernel_rfl) (fun _ _ _ h => h) (Or.inl ⟨by rfl, ?_⟩) HS.out ?_
      rotate_left
      ·intro x h; (try dsimp only at h); go_simp; try (with_reducible rfl)
      try simp only [Act.put, List.setIfInBounds_toArray, List.set]
      refine anyR_take (i := 4) (oi := { dst := some 49, op := .move (.tmp 48), type := 4, pos := "tree.go:97", after := #[{ on := 3, ground := .data }], guard := none }) (v := ?_) rfl (by kernel_rfl) (fun _ _ _ h => h) (Or.inl ⟨by rfl, ?_⟩) HS.out ?_
      rotate_left
      ·intro x h; (try dsimp only at h); go_simp; try (with_reducible rfl)
      try simp only [Act.put, List.setIfInBounds_toArray, List.set]
      refine anyR_take (i := 5) (oi := { dst := some 50, op := .load 51 (.tmp 8), type := 51, pos := "tree.go:97", after := #[{ on := 4, ground := .guard }], guard := some (4, false) }) (v := ?_) rfl (by kernel_rfl) (fun _ _ _ h => h) (Or.inl ⟨by rfl, ?_⟩) HS.out ?_
      rotate_left
      ·intro x h; (try dsimp only at h); go_simp; try (with_reducible rfl)
      try simp only [Act.put, List.setIfInBounds_toArray, List.set]
      refine anyR_take (i := 6) (oi := { dst := some 51, op := .load 49 (.tmp 5), type := 49, pos := "tree.go:97", after := #[{ on := 4, ground := .guard }], guard := some (4, false) }) (v := ?_) rfl (by kernel_rfl) (fun _ _ _ h => h) (Or.inl ⟨by rfl, ?_⟩) HS.out ?_
      rotate_left
      ·intro x h; (try dsimp only at h); go_simp; try (with_reducible rfl)
      try simp only [Act.put, List.setIfInBounds_toArray, List.set]
      refine anyR_take (i := 7) (oi := { dst := some 52, op := .load 3 (.tmp 7), type := 3, pos := "tree.go:97", after := #[{ on := 4, ground := .guard }], guard := some (4, false) }) (v := ?_) rfl (by kernel_rfl) (fun _ _ _ h => h) (Or.inl ⟨by rfl, ?_⟩) HS.out ?_
      rotate_left
      ·intro x h; (try dsimp only at h); go_simp; try (with_reducible rfl)
      try simp only [Act.put, List.setIfInBounds_toArray, List.set]
      refine anyR_take (i := 8) (oi := { dst := some 53, op := .indexAddr 49 (.tmp 51) (.tmp 52), type := 0, pos := "tree.go:97", after := #[{ on := 6, ground := .data }, { on := 7, ground := .data }, { on := 4, ground := .guard }], guard := some (4, false) }) (v := ?_) rfl (by kernel_rfl) (fun _ _ _ h => h) (Or.inl ⟨by rfl, ?_⟩) HS.out ?_
      rotate_left
      ·intro x h; (try dsimp only at h); go_simp; try (with_reducible rfl)
      try simp only [Act.put, List.setIfInBounds_toArray, List.set]
      refine anyR_take (i := 9) (oi := { dst := some 54, op := .load 51 (.tmp 53), type := 51, pos := "tree.go:97", after := #[{ on := 8, ground := .data }, { on := 4, ground := .guard }], guard := some (4, false) }) (v := ?_) rfl (by kernel_rfl) (fun _ _ _ h => h) (Or.inl ⟨by rfl, ?_⟩) HS.out ?_
      rotate_left
      ·intro x h; (try dsimp only at h); go_simp; try (with_reducible rfl)
      try simp only [Act.put, List.setIfInBounds_toArray, List.set]
      refine anyR_ready (rs := [10]) (by kernel_rfl) (by simp) ?_
      refine ReadyR.cons (o := { dst := some 55, op := .call { callee := .value (.func 20), args := #[.tmp 50, .tmp 54], argTypes := #[51, 51] }, type := 4, pos := "tree.go:97", after := #[{ on := 5, ground := .data }, { on := 9, ground := .data }, { on := 4, ground := .chain }, { on := 4, ground := .guard }], guard := some (4, false) }) rfl (fun K hK => ?_) ReadyR.nil
      go_simp
      refine (IH.out Vd q.x z.x q.A z.A q.c z.c (by have := q.hm; have := HNX.out; omega) q.hc z.hc (Kd.C_below q.hC HBVD.out) (Kd.C_below z.hC HBVD.out) (by have := q.hm; have := HMX.out; omega) (by have := z.hm; have := HMY.out; omega)).mono ?_
      rintro e w2 ⟨rfl, hb2⟩
      refine hK.out _ _ (fun _ => HSA.out w2 hb2) ?_
      clear hK K
      try simp only [Act.put, List.setIfInBounds_toArray, List.set]
      have HS2 := Lib.hid (HSA.out w2 hb2)
      have hgw := grown_of_below hb2 none
      have e7 := HD7.out.kept hgw (by simp)
      have e2 := HD2.out.kept hgw (by simp)
      have hrw := HREL.out.1.grown hgw (fun _ e => nomatch e)
      have hkw : KeepsOthers V w2 := HREL.out.2.1.trans (KeepsOthers.of_grownBy hgw (fun _ _ e => nomatch e))
      have hbw : Below w.heap.size V w2 := HREL.out.2.2.trans (hb2.mono HBVD.out.size)
      have c7 := e7.cell
      have f7 := e7.frozen
      have c2 := e2.cell
      have f2 := e2.frozen
      have HE := Lib.hid (And.intro e7 (And.intro e2 (And.intro hrw (And.intro hkw hbw))))
      clear hb2 hgw e7 e2 hrw hkw hbw
      have hsn : okL (sameN k) ((pre ++ [q]).map (·.x)) (ys.map (·.x)) ↔ sameN k q.x z.x = true := by
       rw [List.map_append]
       exact okL_snoc HOK.out (by rw [List.getElem?_map, List.length_map, HZI.out]; rfl)
      have HSN := Lib.hid hsn
      clear hsn
      cases hsz : sameN k q.x z.x with
      | true =>
       refine anyR_take (i := 11) (oi := { dst := some 56, op := .unOp .not 4 (.tmp 55), type := 4, pos := "tree.go:97", after := #[{ on := 10, ground := .data }, { on := 4, ground := .guard }], guard := some (4, false) }) (v := ?_) rfl (by kernel_rfl) (fun _ _ _ h => h) (Or.inl ⟨by rfl, ?_⟩) HS2.out ?_
       rotate_left
       ·intro x h; (try dsimp only at h); go_simp; try (with_reducible rfl)
       try simp only [Act.put, List.setIfInBounds_toArray, List.set]
       refine anyR_take (i := 12) (oi := { dst := some 57, op := .pick (.tmp 49) (.const (.bool true)) (.tmp 56), type := 4, pos := "tree.go:97", after := #[{ on := 4, ground := .data }, { on := 11, ground := .data }], guard := none }) (v := ?_) rfl (by kernel_rfl) (fun _ _ _ h => h) (Or.inl ⟨by rfl, ?_⟩) HS2.out ?_
       rotate_left
       ·intro x h; (try dsimp only at h); go_simp; try (with_reducible rfl)
       try simp only [Act.put, List.setIfInBounds_toArray, List.set]
       refine anyR_done (by kernel_rfl) ?_ _
       simp only [Exit.then]
       gi_wp2
       have hl' : (((pre ++ [q]).length : Nat) : Int) = (pre.length : Int) + 1 := by simp
       obtain ⟨e7, e2, hrw, hkw, hbw⟩ := HE.out
       have hne := HNE.out
       refine ⟨(hkw.trans (KeepsOthers.setCell _ _ _)).from _, hbw.setCell (p := ⟨s7, 0, none⟩) hne.2.2.2.2.2.2.2 _, hrw.grown (grownBy_setCell' w2 s7 _) (fun j e => by cases e; exact .inr (.inl rfl)), e2.other hne.2.2.2.2.2.1 _, ?_, HSN.out.2 hsz⟩
       rw [hl']
       exact e7.set _
      | false =>
       refine anyR_take (i := 11) (oi := { dst := some 56, op := .unOp .not 4 (.tmp 55), type := 4, pos := "tree.go:97", after := #[{ on := 10, ground := .data }, { on := 4, ground := .guard }], guard := some (4, false) }) (v := ?_) rfl (by kernel_rfl) (fun _ _ _ h => h) (Or.inl ⟨by rfl, ?_⟩) HS2.out ?_
       rotate_left
       ·intro x h; (try dsimp only at h); go_simp; try (with_reducible rfl)
       try simp only [Act.put, List.setIfInBounds_toArray, List.set]
       refine anyR_take (i := 12) (oi := { dst := some 57, op := .pick (.tmp 49) (.const (.bool true)) (.tmp 56), type := 4, pos := "tree.go:97", after := #[{ on := 4, ground := .data }, { on := 11, ground := .data }], guard := none }) (v := ?_) rfl (by kernel_rfl) (fun _ _ _ h => h) (Or.inl ⟨by rfl, ?_⟩) HS2.out ?_
       rotate_left
       ·intro x h; (try dsimp only at h); go_simp; try (with_reducible rfl)
       try simp only [Act.put, List.setIfInBounds_toArray, List.set]
       refine anyR_done (by kernel_rfl) ?_ _
       simp only [Exit.then]
       gi_wp2
       obtain ⟨e7, e2, hrw, hkw, hbw⟩ := HE.out
       exact ⟨(hkw.trans (KeepsOthers.setCell _ _ _)).from _, rfl, hrw.grown (grownBy_setCell' w2 s2 _) (fun j e => by cases e; exact .inl rfl), e2.set _, fun h => by rw [HSN.out.1 h] at hsz; cases hsz⟩
     ·have hpe : pre.length = ys.length := by omega
      have dn : ((pre.length : Int) == (ys.length : Int)) = true := by rw [hpe]; exact beq_self_eq_true _
      have HS : Hid (Vd.cell? ⟨s7, 0, none⟩ = some (.int .i64 (pre.length : Nat)) ∧ Vd.cell? ⟨s3, 0, none⟩ = some (.slice A5 ys.length c5)) := Lib.hid ⟨HD7.out.cell, HD3.out.cell⟩
      have HPE := Lib.hid hpe
      have c2 := HD2.out.cell
      have f2 := HD2.out.frozen
      clear hpe hi
      refine wpIn_block ?_
      refine wpIn_seq ?_
      refine wpIn_seq ?_
      refine wp_region_RIn (fun w' => w'.cell? ⟨s7, 0, none⟩ = some (.int .i64 (pre.length : Nat)) ∧ w'.cell? ⟨s3, 0, none⟩ = some (.slice A5 ys.length c5)) (fun _ => true) (by kernel_rfl) (by kernel_rfl) ?_
      rw [HVd.out]
      refine anyR_take (i := 0) (oi := { dst := some 45, op := .load 3 (.tmp 7), type := 3, pos := "tree.go:97", after := #[], guard := none }) (v := ?_) rfl (by kernel_rfl) (fun _ _ _ h => h) (Or.inl ⟨by rfl, ?_⟩) HS.out ?_
      rotate_left
      ·intro x h; (try dsimp only at h); go_simp; try (with_reducible rfl)
      try simp only [Act.put, List.setIfInBounds_toArray, List.set]
      refine anyR_take (i := 1) (oi := { dst := some 46, op := .load 49 (.tmp 5), type := 49, pos := "tree.go:97", after := #[], guard := none }) (v := ?_) rfl (by kernel_rfl) (fun _ _ _ h => h) (Or.inl ⟨by rfl, ?_⟩) HS.out ?_
      rotate_left
      ·intro x h; (try dsimp only at h); go_simp; try (with_reducible rfl)
      try simp only [Act.put, List.setIfInBounds_toArray, List.set]
      refine anyR_take (i := 2) (oi := { dst := some 47, op := .call { callee := .builtin .len, args := #[.tmp 46], argTypes := #[49] }, type := 3, pos := "tree.go:97", after := #[{ on := 1, ground := .data }], guard := none }) (v := ?_) rfl (by kernel_rfl) (fun _ _ _ h => h) (Or.inl ⟨by rfl, ?_⟩) HS.out ?_
      rotate_left
      ·intro x h; (try dsimp only at h); go_simp; try (with_reducible rfl)
      try simp only [Act.put, List.setIfInBounds_toArray, List.set]
      refine anyR_take (i := 3) (oi := { dst := some 48, op := .binOp .eql 3 (.tmp 45) (.tmp 47) 3, type := 4, pos := "tree.go:97", after := #[{ on := 0, ground := .data }, { on := 2, ground := .data }], guard := none }) (v := ?_) rfl (by kernel_rfl) (fun _ _ _ h => h) (Or.inl ⟨by rfl, ?_⟩) HS.out ?_
      rotate_left
      ·intro x h; (try dsimp only at h); go_simp; try (with_reducible rfl)
      try simp only [Act.put, List.setIfInBounds_toArray, List.set]
      refine anyR_take (i := 4) (oi := { dst := some 49, op := .move (.tmp 48), type := 4, pos := "tree.go:97", after := #[{ on := 3, ground := .data }], guard := none }) (v := ?_) rfl (by kernel_rfl) (fun _ _ _ h => h) (Or.inl ⟨by rfl, ?_⟩) HS.out ?_
      rotate_left
      ·intro x h; (try dsimp only at h); go_simp; try (with_reducible rfl)
      try simp only [Act.put, List.setIfInBounds_toArray, List.set]
      refine anyR_take (i := 5) (oi := { dst := some 50, op := .load 51 (.tmp 8), type := 51, pos := "tree.go:97", after := #[{ on := 4, ground := .guard }], guard := some (4, false) }) (v := undef) rfl (by kernel_rfl) (fun _ _ _ h => h) (Or.inr ⟨by rfl, rfl⟩) HS.out ?_
      try simp only [Act.put, List.setIfInBounds_toArray, List.set]
      refine anyR_take (i := 6) (oi := { dst := some 51, op := .load 49 (.tmp 5), type := 49, pos := "tree.go:97", after := #[{ on := 4, ground := .guard }], guard := some (4, false) }) (v := undef) rfl (by kernel_rfl) (fun _ _ _ h => h) (Or.inr ⟨by rfl, rfl⟩) HS.out ?_
      try simp only [Act.put, List.setIfInBounds_toArray, List.set]
      refine anyR_take (i := 7) (oi := { dst := some 52, op := .load 3 (.tmp 7), type := 3, pos := "tree.go:97", after := #[{ on := 4, ground := .guard }], guard := some (4, false) }) (v := undef) rfl (by kernel_rfl) (fun _ _ _ h => h) (Or.inr ⟨by rfl, rfl⟩) HS.out ?_
      try simp only [Act.put, List.setIfInBounds_toArray, List.set]
      refine anyR_take (i := 8) (oi := { dst := some 53, op := .indexAddr 49 (.tmp 51) (.tmp 52), type := 0, pos := "tree.go:97", after := #[{ on := 6, ground := .data }, { on := 7, ground := .data }, { on := 4, ground := .guard }], guard := some (4, false) }) (v := undef) rfl (by kernel_rfl) (fun _ _ _ h => h) (Or.inr ⟨by rfl, rfl⟩) HS.out ?_
      try simp only [Act.put, List.setIfInBounds_toArray, List.set]
      refine anyR_take (i := 9) (oi := { dst := some 54, op := .load 51 (.tmp 53), type := 51, pos := "tree.go:97", after := #[{ on := 8, ground := .data }, { on := 4, ground := .guard }], guard := some (4, false) }) (v := undef) rfl (by kernel_rfl) (fun _ _ _ h => h) (Or.inr ⟨by rfl, rfl⟩) HS.out ?_
      try simp only [Act.put, List.setIfInBounds_toArray, List.set]
      refine anyR_take (i := 10) (oi := { dst := some 55, op := .call { callee := .value (.func 20), args := #[.tmp 50, .tmp 54], argTypes := #[51, 51] }, type := 4, pos := "tree.go:97", after := #[{ on := 5, ground := .data }, { on := 9, ground := .data }, { on := 4, ground := .chain }, { on := 4, ground := .guard }], guard := some (4, false) }) (v := undef) rfl (by kernel_rfl) (fun _ _ _ h => h) (Or.inr ⟨by rfl, rfl⟩) HS.out ?_
      try simp only [Act.put, List.setIfInBounds_toArray, List.set]
      refine anyR_take (i := 11) (oi := { dst := some 56, op := .unOp .not 4 (.tmp 55), type := 4, pos := "tree.go:97", after := #[{ on := 10, ground := .data }, { on := 4, ground := .guard }], guard := some (4, false) }) (v := undef) rfl (by kernel_rfl) (fun _ _ _ h => h) (Or.inr ⟨by rfl, rfl⟩) HS.out ?_
      try simp only [Act.put, List.setIfInBounds_toArray, List.set]
      refine anyR_take (i := 12) (oi := { dst := some 57, op := .pick (.tmp 49) (.const (.bool true)) (.tmp 56), type := 4, pos := "tree.go:97", after := #[{ on := 4, ground := .data }, { on := 11, ground := .data }], guard := none }) (v := ?_) rfl (by kernel_rfl) (fun _ _ _ h => h) (Or.inl ⟨by rfl, ?_⟩) HS.out ?_
      rotate_left
      ·intro x h; (try dsimp only at h); go_simp; try (with_reducible rfl)
      try simp only [Act.put, List.setIfInBounds_toArray, List.set]
      refine anyR_done (by kernel_rfl) ?_ _
      simp only [Exit.then]
      gi_wp2
      obtain ⟨hrd, hkd, hbd⟩ := HREL.out
      refine ⟨(hkd.trans (KeepsOthers.setCell _ _ _)).from _, rfl, hrd.grown (grownBy_setCell' Vd s2 _) (fun j e => by cases e; exact .inl rfl), HD2.out.set _, ?_⟩
      rw [List.map_append]
      exact okL_long (Nat.le_of_eq (by rw [List.length_map, List.length_map, HPE.out]))
    case done2 =>
     rintro D2 zs V hD2 hzs ⟨hR, v2, v7, hok⟩ hDef2
     have hne := HNE.out
     have v3 : Boxed V s3 49 (.slice A5 ys.length c5) := (hR.block s3 b31.lt (by omega) (by omega)).trans b31
     have hvD : V.heap[D]? = some (.deferred (some [])) := (hR.block D (Array.getElem?_eq_some_iff.1 hd1).1 (fun e => by rw [e, show W1.heap[s2]? = _ from b21] at hd1; cases hd1) (fun e => by rw [e, show W1.heap[s7]? = _ from b71] at hd1; cases hd1)).trans hd1
     have hDD : D ≠ D2 := by have := (Array.getElem?_eq_some_iff.1 hd1).1; omega
     have c7 := v7.cell
     have c3 := v3.cell
     have c2 := v2.cell
     have f2 := v2.frozen
     have hbv := hR.below hB1 (by omega) (by omega)
     have hres := okL_all hok
     rw [hzs, HSS.out] at hres
     have hl1 : zs.length = (plainL x.f2).length := by rw [← hzs, List.length_map]
     have hl2 : ys.length = (plainL y.f2).length := by rw [← HSS.out, List.length_map]
     have g2 := grownBy_setCell' V s2 (.bool ((zs.length : Int) == (ys.length : Int)))
     have w2 := v2.set (.bool ((zs.length : Int) == (ys.length : Int)))
     have hn2 : D2 ≠ s2 := fun e => by rw [e, show V.heap[s2]? = _ from v2] at hDef2; cases hDef2
     have hn1 : D ≠ s2 := fun e => by rw [e, show V.heap[s2]? = _ from v2] at hvD; cases hvD
     have hD2w : (V.setCell ⟨s2, 0, none⟩ (.bool ((zs.length : Int) == (ys.length : Int)))).heap[D2]? = some (.deferred (some [])) := (g2.block D2 (Array.getElem?_eq_some_iff.1 hDef2).1 (by simpa using hn2)).trans hDef2
     have hDw : (V.setCell ⟨s2, 0, none⟩ (.bool ((zs.length : Int) == (ys.length : Int)))).heap[D]? = some (.deferred (some [])) := (g2.block D (Array.getElem?_eq_some_iff.1 hvD).1 (by simpa using hn1)).trans hvD
     have HW2 := Lib.hid w2
     have HD2w := Lib.hid hD2w
     have HDw := Lib.hid hDw
     have HDD := Lib.hid hDD
     have HBV := Lib.hid hbv
     have HRES := Lib.hid hres
     have HL := Lib.hid (And.intro hl1 hl2)
     have HDG := Lib.hid (And.intro hD2 HD.out.1)
     clear hn1 hn2 w2 hD2w hDw hDD hbv hres hl1 hl2 g2 hvD hne v2 v3 v7 hR hok hD2 hDef2 hd1 hzs hB1 b71 b21 b31 ho1 hkc hlx hmx hdl
     gi_wp2
     refine same_leave (b := ((zs.length : Int) == (ys.length : Int))) rfl rfl HD2w.out HDw.out HDD.out HW2.out ⟨?_, ?_⟩
     ·rw [HRES.out, ← HL.out.1, ← HL.out.2, beq_cast]
     ·have h0 := HZ.out
      have h1 := HNE.out
      have h2 := HDG.out
      exact ((HBV.out.setCell (p := ⟨s2, 0, none⟩) h1.2.2.2.2.2.2.1 _).grown (grownBy_putObj' _ D2 _) (Nat.le_trans HBV.out.size (grownBy_setCell' V s2 _).size) (fun j e => by cases e; omega)).grown (grownBy_putObj' _ D _) (Nat.le_trans HBV.out.size (Nat.le_trans (grownBy_setCell' V s2 _).size (grownBy_putObj' _ D2 _).size)) (fun j e => by cases e; omega)
    case stop2 =>
     rintro D2 e pre V hD2 hpre ⟨rfl, hR, v2, hbad⟩ hDef2
     have hne := HNE.out
     have hvD : V.heap[D]? = some (.deferred (some [])) := (hR.block D (Array.getElem?_eq_some_iff.1 hd1).1 (fun e => by rw [e, show W1.heap[s2]? = _ from b21] at hd1; cases hd1) (fun e => by rw [e, show W1.heap[s7]? = _ from b71] at hd1; cases hd1)).trans hd1
     have hDD : D ≠ D2 := by have := (Array.getElem?_eq_some_iff.1 hd1).1; omega
     have hbv := hR.below hB1 (by omega) (by omega)
     rw [HSS.out] at hbad
     have hres := okL_bad hbad hpre
     have h0 := HZ.out
     have hd0 := HD.out.1
     have hfin := (hbv.grown (grownBy_putObj' V D2 (.deferred none)) hbv.size (fun j e => by cases e; omega)).grown (grownBy_putObj' _ D (.deferred none)) (Nat.le_trans hbv.size (by simp)) (fun j e => by cases e; omega)
     gi_wp2
     exact same_leave (b := false) rfl rfl hDef2 hvD hDD v2 ⟨by rw [hres], hfin⟩
   case stop =>
    rintro D e pre W _ _ h _
    exact h.elim
end Go.Proofs.Ytmjbpgnjgblnmaa.Tr
