/- What the claim stands on: part Jb. -/
import Derived.Test.YtmjbpgnjgblnmaaJa
import Derived.Test.YtmjbpgnjgblnmaaProg
import Derived.Below
import Derived.Deep.Draws
import Derived.Deep.AppendLies
import Derived.Maps.AppendAt
import Derived.OwnWalk
import Derived.Laws.BytesArg
import Derived.Laws.MakeOwn
import Derived.Laws.OwnMore
import Derived.Deep.OwnRows
import Derived.Tactics
import Derived.Lib.ConvBytes
import Derived.Laws.Slices
import Derived.WalkKit
import Derived.KernelRfl
import Derived.RowKit3
import Derived.Deep.LoopGhost
import Derived.Deep.QuietTactic
import Derived.BigQuiet
import Derived.WideLaws
import Derived.Deep.DeepCutAuto
import Derived.Deep.CutBlock
import Derived.Deep.RegionHeld3
import Derived.Laws.Rows
import Derived.Lib.AppendStr
import Derived.ArgAppend
import Derived.Laws.IdiomCopy
import Derived.OrdersHeld
import Derived.Laws.BitsLemmas
import Derived.RowKit
set_option linter.unusedVariables false
set_option linter.unusedSimpArgs false
namespace Go.Proofs.Ytmjbpgnjgblnmaa.PSyntaxWhole
open Go.RowKit Go.Proofs.YtmjbpgnjgblnmaaW.PrintWords Go.Proofs.YtmjbpgnjgblnmaaW.PrintLast Go.Proofs.YtmjbpgnjgblnmaaW.PrintMore
attribute [local go_sem] max2_int max_two
structure S33 where
 f0 : Int
 f1 : Int
 f2 : Int
def z33 : S33 := ⟨(0 : Int), (0 : Int), (0 : Int)⟩
def k33 : Kd S33 := Kd.iso (Kd.pair (Kd.int .i64) (Kd.pair (Kd.int .i64) (Kd.int .i64))) (fun x : S33 => (x.f0, x.f1, x.f2))
theorem k33_open {w : World} {x : S33} {cs : List Value} (h : k33.K w x cs) : cs = [.int .i64 x.f0, .int .i64 x.f1, .int .i64 x.f2] := by
 obtain ⟨_, _, rfl, rfl, ⟨_, _, rfl, rfl, rfl⟩⟩ := h
 exact rfl
theorem k33_mk (w : World) (x : S33)  : k33.K w x [.int .i64 x.f0, .int .i64 x.f1, .int .i64 x.f2] := ⟨[.int .i64 x.f0], [.int .i64 x.f1, .int .i64 x.f2], rfl, rfl, ⟨[.int .i64 x.f1], [.int .i64 x.f2], rfl, rfl, rfl⟩⟩
structure S35 where
 f0 : Int
 f1 : ByteArray
 f2 : S33
 f3 : Int
def z35 : S35 := ⟨(0 : Int), (⟨#[]⟩ : ByteArray), z33, (0 : Int)⟩
def k35 : Kd S35 := Kd.iso (Kd.pair (Kd.int .u8) (Kd.pair Kd.string (Kd.pair k33 (Kd.int .i64)))) (fun x : S35 => (x.f0, x.f1, x.f2, x.f3))
theorem k35_open {w : World} {x : S35} {cs : List Value} (h : k35.K w x cs) : cs = [.int .u8 x.f0, .string x.f1, .int .i64 x.f2.f0, .int .i64 x.f2.f1, .int .i64 x.f2.f2, .int .i64 x.f3] := by
 obtain ⟨_, _, rfl, rfl, ⟨_, _, rfl, rfl, ⟨_, _, rfl, s2, rfl⟩⟩⟩ := h
 obtain rfl := k33_open s2
 exact rfl
theorem k35_mk (w : World) (x : S35)  : k35.K w x [.int .u8 x.f0, .string x.f1, .int .i64 x.f2.f0, .int .i64 x.f2.f1, .int .i64 x.f2.f2, .int .i64 x.f3] := ⟨[.int .u8 x.f0], [.string x.f1, .int .i64 x.f2.f0, .int .i64 x.f2.f1, .int .i64 x.f2.f2, .int .i64 x.f3], rfl, rfl, ⟨[.string x.f1], [.int .i64 x.f2.f0, .int .i64 x.f2.f1, .int .i64 x.f2.f2, .int .i64 x.f3], rfl, rfl, ⟨[.int .i64 x.f2.f0, .int .i64 x.f2.f1, .int .i64 x.f2.f2], [.int .i64 x.f3], rfl, (k33_mk w x.f2 ), rfl⟩⟩⟩
def rd_T35 (xs : List S35) (i : Int) : S35 := xs.getD i.toNat z35
theorem at_T35 {w : World} {A : Option Addr} {n : Nat} {xs : List S35} (h : Kd.C k35 w A n xs) (i : Int) (h0 : 0 ≤ i) (h1 : i < n) : ∃ ad , A = some ad ∧ w.cell? (ad.add (i.toNat * 6)) = some (.int .u8 (rd_T35 xs i).f0) ∧ w.cell? ⟨(ad.add (i.toNat * 6)).block, (ad.add (i.toNat * 6)).off + 1, none⟩ = some (.string (rd_T35 xs i).f1) ∧ w.cell? ⟨(ad.add (i.toNat * 6)).block, (ad.add (i.toNat * 6)).off + 2, none⟩ = some (.int .i64 (rd_T35 xs i).f2.f0) ∧ w.cell? ⟨(ad.add (i.toNat * 6)).block, (ad.add (i.toNat * 6)).off + 3, none⟩ = some (.int .i64 (rd_T35 xs i).f2.f1) ∧ w.cell? ⟨(ad.add (i.toNat * 6)).block, (ad.add (i.toNat * 6)).off + 4, none⟩ = some (.int .i64 (rd_T35 xs i).f2.f2) ∧ w.cell? ⟨(ad.add (i.toNat * 6)).block, (ad.add (i.toNat * 6)).off + 5, none⟩ = some (.int .i64 (rd_T35 xs i).f3) := by
 obtain ⟨ad, c, e, _, hK, hc0⟩ := Kd.C_get h z35 i h0 h1
 have hc : ∀ j u, c[j]? = some u → w.cell? (ad.add (i.toNat * 6 + j)) = some u := hc0
 obtain rfl := k35_open hK
 exact ⟨ad, e, hc 0 _ rfl, by rw [← add_field _ _ 1 (by omega)]; exact hc 1 _ rfl, by rw [← add_field _ _ 2 (by omega)]; exact hc 2 _ rfl, by rw [← add_field _ _ 3 (by omega)]; exact hc 3 _ rfl, by rw [← add_field _ _ 4 (by omega)]; exact hc 4 _ rfl, by rw [← add_field _ _ 5 (by omega)]; exact hc 5 _ rfl⟩
structure S46 where
 f0 : Int
 f1 : Int
 f2 : S35
def z46 : S46 := ⟨(0 : Int), (0 : Int), z35⟩
def k46 : Kd S46 := Kd.iso (Kd.pair (Kd.int .u8) (Kd.pair (Kd.int .u8) k35)) (fun x : S46 => (x.f0, x.f1, x.f2))
theorem k46_open {w : World} {x : S46} {cs : List Value} (h : k46.K w x cs) : cs = [.int .u8 x.f0, .int .u8 x.f1, .int .u8 x.f2.f0, .string x.f2.f1, .int .i64 x.f2.f2.f0, .int .i64 x.f2.f2.f1, .int .i64 x.f2.f2.f2, .int .i64 x.f2.f3] := by
 obtain ⟨_, _, rfl, rfl, ⟨_, _, rfl, rfl, s2⟩⟩ := h
 obtain rfl := k35_open s2
 exact rfl
theorem k46_mk (w : World) (x : S46)  : k46.K w x [.int .u8 x.f0, .int .u8 x.f1, .int .u8 x.f2.f0, .string x.f2.f1, .int .i64 x.f2.f2.f0, .int .i64 x.f2.f2.f1, .int .i64 x.f2.f2.f2, .int .i64 x.f2.f3] := ⟨[.int .u8 x.f0], [.int .u8 x.f1, .int .u8 x.f2.f0, .string x.f2.f1, .int .i64 x.f2.f2.f0, .int .i64 x.f2.f2.f1, .int .i64 x.f2.f2.f2, .int .i64 x.f2.f3], rfl, rfl, ⟨[.int .u8 x.f1], [.int .u8 x.f2.f0, .string x.f2.f1, .int .i64 x.f2.f2.f0, .int .i64 x.f2.f2.f1, .int .i64 x.f2.f2.f2, .int .i64 x.f2.f3], rfl, rfl, (k35_mk w x.f2 )⟩⟩
def rd_T46 (xs : List S46) (i : Int) : S46 := xs.getD i.toNat z46
theorem at_T46 {w : World} {A : Option Addr} {n : Nat} {xs : List S46} (h : Kd.C k46 w A n xs) (i : Int) (h0 : 0 ≤ i) (h1 : i < n) : ∃ ad , A = some ad ∧ w.cell? (ad.add (i.toNat * 8)) = some (.int .u8 (rd_T46 xs i).f0) ∧ w.cell? ⟨(ad.add (i.toNat * 8)).block, (ad.add (i.toNat * 8)).off + 1, none⟩ = some (.int .u8 (rd_T46 xs i).f1) ∧ w.cell? ⟨(ad.add (i.toNat * 8)).block, (ad.add (i.toNat * 8)).off + 2, none⟩ = some (.int .u8 (rd_T46 xs i).f2.f0) ∧ w.cell? ⟨(ad.add (i.toNat * 8)).block, (ad.add (i.toNat * 8)).off + 3, none⟩ = some (.string (rd_T46 xs i).f2.f1) ∧ w.cell? ⟨(ad.add (i.toNat * 8)).block, (ad.add (i.toNat * 8)).off + 4, none⟩ = some (.int .i64 (rd_T46 xs i).f2.f2.f0) ∧ w.cell? ⟨(ad.add (i.toNat * 8)).block, (ad.add (i.toNat * 8)).off + 5, none⟩ = some (.int .i64 (rd_T46 xs i).f2.f2.f1) ∧ w.cell? ⟨(ad.add (i.toNat * 8)).block, (ad.add (i.toNat * 8)).off + 6, none⟩ = some (.int .i64 (rd_T46 xs i).f2.f2.f2) ∧ w.cell? ⟨(ad.add (i.toNat * 8)).block, (ad.add (i.toNat * 8)).off + 7, none⟩ = some (.int .i64 (rd_T46 xs i).f2.f3) := by
 obtain ⟨ad, c, e, _, hK, hc0⟩ := Kd.C_get h z46 i h0 h1
 have hc : ∀ j u, c[j]? = some u → w.cell? (ad.add (i.toNat * 8 + j)) = some u := hc0
 obtain rfl := k46_open hK
 exact ⟨ad, e, hc 0 _ rfl, by rw [← add_field _ _ 1 (by omega)]; exact hc 1 _ rfl, by rw [← add_field _ _ 2 (by omega)]; exact hc 2 _ rfl, by rw [← add_field _ _ 3 (by omega)]; exact hc 3 _ rfl, by rw [← add_field _ _ 4 (by omega)]; exact hc 4 _ rfl, by rw [← add_field _ _ 5 (by omega)]; exact hc 5 _ rfl, by rw [← add_field _ _ 6 (by omega)]; exact hc 6 _ rfl, by rw [← add_field _ _ 7 (by omega)]; exact hc 7 _ rfl⟩
structure S51 where
 f0 : Int
 f1 : S35
 f2 : (List S51)
def z51 : S51 := ⟨(0 : Int), z35, ([] : List S51)⟩
def F51 (d : Kd S51) : Kd S51 := Kd.iso (Kd.pair (Kd.int .u8) (Kd.pair k35 (Kd.slice 51 d))) (fun x : S51 => (x.f0, x.f1, x.f2))
theorem mono51 : Kd.Mono F51 := Kd.mono_iso _ (Kd.mono_pair (Kd.mono_const _) (Kd.mono_pair (Kd.mono_const _) (Kd.mono_slice 51 Kd.mono_id)))
theorem sub51 : Kd.Sub F51 [51] := Kd.sub_iso _ (Kd.sub_pair (Kd.sub_const _ (by decide)) (Kd.sub_pair (Kd.sub_const _ (by decide)) (Kd.sub_slice 51 (by decide) Kd.sub_id)))
theorem sz51 : ∀ n, (Kd.upto F51 8 [51] n).sz = 8 := Kd.upto_sz (fun _ => rfl)
def k51 : Kd S51 := Kd.fix F51 8 [51] sz51 (Kd.upto_E sub51)
theorem k51_open {w : World} {x : S51} {cs : List Value} (h : k51.K w x cs) : ∃ A7 c7, cs = [.int .u8 x.f0, .int .u8 x.f1.f0, .string x.f1.f1, .int .i64 x.f1.f2.f0, .int .i64 x.f1.f2.f1, .int .i64 x.f1.f2.f2, .int .i64 x.f1.f3, .slice A7 x.f2.length c7] ∧ x.f2.length ≤ c7 ∧ k51.C w A7 x.f2.length x.f2 := by
 obtain ⟨n, h⟩ := h
 cases n with
 | zero => exact h.elim
 | succ n =>
  obtain ⟨_, _, rfl, rfl, ⟨_, _, rfl, s1, ⟨A7, c7, rfl, l7, g7⟩⟩⟩ := h
  obtain rfl := k35_open s1
  exact ⟨A7, c7, rfl, l7, Kd.fix_C g7⟩
theorem k51_mk (w : World) (x : S51) {A7 : Option Addr} {c7 : Nat} (l7 : x.f2.length ≤ c7) (g7 : k51.C w A7 x.f2.length x.f2) : k51.K w x [.int .u8 x.f0, .int .u8 x.f1.f0, .string x.f1.f1, .int .i64 x.f1.f2.f0, .int .i64 x.f1.f2.f1, .int .i64 x.f1.f2.f2, .int .i64 x.f1.f3, .slice A7 x.f2.length c7] := by
 obtain ⟨n7, q7⟩ := Kd.fix_C_back mono51 g7
 have r7 := Kd.upto_C_le mono51 sz51 (show n7 ≤ n7 by omega) q7
 exact ⟨n7 + 1, ⟨[.int .u8 x.f0], [.int .u8 x.f1.f0, .string x.f1.f1, .int .i64 x.f1.f2.f0, .int .i64 x.f1.f2.f1, .int .i64 x.f1.f2.f2, .int .i64 x.f1.f3, .slice A7 x.f2.length c7], rfl, rfl, ⟨[.int .u8 x.f1.f0, .string x.f1.f1, .int .i64 x.f1.f2.f0, .int .i64 x.f1.f2.f1, .int .i64 x.f1.f2.f2, .int .i64 x.f1.f3], [.slice A7 x.f2.length c7], rfl, (k35_mk w x.f1 ), ⟨A7, c7, rfl, l7, r7⟩⟩⟩⟩
def rd_T51 (xs : List S51) (i : Int) : S51 := xs.getD i.toNat z51
theorem at_T51 {w : World} {A : Option Addr} {n : Nat} {xs : List S51} (h : Kd.C k51 w A n xs) (i : Int) (h0 : 0 ≤ i) (h1 : i < n) : ∃ ad A7 c7, A = some ad ∧ w.cell? (ad.add (i.toNat * 8)) = some (.int .u8 (rd_T51 xs i).f0) ∧ w.cell? ⟨(ad.add (i.toNat * 8)).block, (ad.add (i.toNat * 8)).off + 1, none⟩ = some (.int .u8 (rd_T51 xs i).f1.f0) ∧ w.cell? ⟨(ad.add (i.toNat * 8)).block, (ad.add (i.toNat * 8)).off + 2, none⟩ = some (.string (rd_T51 xs i).f1.f1) ∧ w.cell? ⟨(ad.add (i.toNat * 8)).block, (ad.add (i.toNat * 8)).off + 3, none⟩ = some (.int .i64 (rd_T51 xs i).f1.f2.f0) ∧ w.cell? ⟨(ad.add (i.toNat * 8)).block, (ad.add (i.toNat * 8)).off + 4, none⟩ = some (.int .i64 (rd_T51 xs i).f1.f2.f1) ∧ w.cell? ⟨(ad.add (i.toNat * 8)).block, (ad.add (i.toNat * 8)).off + 5, none⟩ = some (.int .i64 (rd_T51 xs i).f1.f2.f2) ∧ w.cell? ⟨(ad.add (i.toNat * 8)).block, (ad.add (i.toNat * 8)).off + 6, none⟩ = some (.int .i64 (rd_T51 xs i).f1.f3) ∧ w.cell? ⟨(ad.add (i.toNat * 8)).block, (ad.add (i.toNat * 8)).off + 7, none⟩ = some (.slice A7 (rd_T51 xs i).f2.length c7) ∧ (rd_T51 xs i).f2.length ≤ c7 ∧ k51.C w A7 (rd_T51 xs i).f2.length (rd_T51 xs i).f2 := by
 obtain ⟨ad, c, e, _, hK, hc0⟩ := Kd.C_get h z51 i h0 h1
 have hc : ∀ j u, c[j]? = some u → w.cell? (ad.add (i.toNat * 8 + j)) = some u := hc0
 obtain ⟨A7, c7, rfl, l7, g7⟩ := k51_open hK
 exact ⟨ad, A7, c7, e, hc 0 _ rfl, by rw [← add_field _ _ 1 (by omega)]; exact hc 1 _ rfl, by rw [← add_field _ _ 2 (by omega)]; exact hc 2 _ rfl, by rw [← add_field _ _ 3 (by omega)]; exact hc 3 _ rfl, by rw [← add_field _ _ 4 (by omega)]; exact hc 4 _ rfl, by rw [← add_field _ _ 5 (by omega)]; exact hc 5 _ rfl, by rw [← add_field _ _ 6 (by omega)]; exact hc 6 _ rfl, by rw [← add_field _ _ 7 (by omega)]; exact hc 7 _ rfl, l7, g7⟩
end Go.Proofs.Ytmjbpgnjgblnmaa.PSyntaxWhole
namespace Go.Proofs.Ytmjbpgnjgblnmaa.PSyntaxWhole
open Go.RowKit Go.Proofs.YtmjbpgnjgblnmaaW.PrintWords Go.Proofs.YtmjbpgnjgblnmaaW.PrintLast Go.Proofs.YtmjbpgnjgblnmaaW.PrintMore
attribute [local go_sem] max2_int max_two
theorem eqA33 (d : Nat) (w : World) (x0 y0 : Int) (x1 y1 : Int) (x2 y2 : Int) :
  (Op.equalIn (d + 2) 33 (.agg #[.int .i64 x0, .int .i64 x1, .int .i64 x2]) (.agg #[.int .i64 y0, .int .i64 y1, .int .i64 y2])).run Try.prog w = .ok (x0 == y0 && (x1 == y1 && (x2 == y2))) w := by
 refine eqA_of Try.underlying33 (by kernel_rfl) ?_
 refine eqf_cons (by rfl) (by go_simp; rfl) (by go_simp; rfl) (by go_simp) ?_
 refine eqf_cons (by rfl) (by go_simp; rfl) (by go_simp; rfl) (by go_simp) ?_
 exact eqf_last (by rfl) (by go_simp; rfl) (by go_simp; rfl) (by go_simp)
theorem eqA35 (d : Nat) (w : World) (x0 y0 : Int) (x1 y1 : ByteArray) (x2 y2 : Int) (x3 y3 : Int) (x4 y4 : Int) (x5 y5 : Int) :
  (Op.equalIn (d + 3) 35 (.agg #[.int .u8 x0, .string x1, .int .i64 x2, .int .i64 x3, .int .i64 x4, .int .i64 x5]) (.agg #[.int .u8 y0, .string y1, .int .i64 y2, .int .i64 y3, .int .i64 y4, .int .i64 y5])).run Try.prog w = .ok (x0 == y0 && (x1.toList == y1.toList && ((x2 == y2 && (x3 == y3 && (x4 == y4))) && (x5 == y5)))) w := by
 refine eqA_of Try.underlying35 (by kernel_rfl) ?_
 refine eqf_cons (by rfl) (by go_simp; rfl) (by go_simp; rfl) (by go_simp) ?_
 refine eqf_cons (by rfl) (by go_simp; rfl) (by go_simp; rfl) (by go_simp) ?_
 refine eqf_cons (by rfl) (by go_simp) (by go_simp) (eqA33 (d + 0) w _ _ _ _ _ _) ?_
 exact eqf_last (by rfl) (by go_simp; rfl) (by go_simp; rfl) (by go_simp)
end Go.Proofs.Ytmjbpgnjgblnmaa.PSyntaxWhole
namespace Go.Proofs.Ytmjbpgnjgblnmaa.PSyntaxWhole
open Go.RowKit Go.Proofs.YtmjbpgnjgblnmaaW.PrintWords Go.Proofs.YtmjbpgnjgblnmaaW.PrintLast Go.Proofs.YtmjbpgnjgblnmaaW.PrintMore
attribute [local go_sem] max2_int max_two
attribute [local go_sem high] eqA35
def tree_comment.f (a0_0 : Int) (a0_1 : ByteArray) (a0_2 : Int) (a0_3 : Int) (a0_4 : Int) (a0_5 : Int) : Option (Bool) := if a0_0 = 7 then (some true) else (some (a0_0 == 8))
set_option maxHeartbeats 8000000 in
set_option maxRecDepth 100000 in
theorem tree_comment.calls (a0_0 : Int) (a0_1 : ByteArray) (a0_2 : Int) (a0_3 : Int) (a0_4 : Int) (a0_5 : Int) (r : Bool) (w : World) (h : tree_comment.f a0_0 a0_1 a0_2 a0_3 a0_4 a0_5 = some r) :
  Calls Try.prog 62 #[.agg #[.int .u8 a0_0, .string a0_1, .int .i64 a0_2, .int .i64 a0_3, .int .i64 a0_4, .int .i64 a0_5]] w fun e w' => e = .returned (.bool r) ∧ Below w.heap.size w w' := by
 have hu35 := Try.underlying35
 have HB := Aside0.mk (Below.refl w.heap.size w)
 have H : (if a0_0 = 7 then (some true) else (some (a0_0 == 8))) = some r := h
 clear h
 by_cases c2 : a0_0 = 7
 ·rw [if_pos c2] at H
  have c2b0 : (a0_0 == 7) = true := beq_iff_eq.mpr c2
  have c2b1 : (a0_0 != 7) = false := bne_eq_false_iff_eq.mpr c2
  clear c2
  obtain rfl := Option.some.inj H
  go_enter Try.func62, Try.ntmps62
  go_wp2_with (first | ((with_reducible refine gate_dst (N := 1) rfl ?_); refine box_event ?hg (N := 1) ?hd (cs := #[.int .u8 a0_0, .string a0_1, .int .i64 a0_2, .int .i64 a0_3, .int .i64 a0_4, .int .i64 a0_5]) (t := 35) ?hr ?_; (case hd => rfl); (case hg => rfl); (case hr => first | (go_simp; done) | (go_simp; rfl)); intro gb101 hg w3 hbox hb; have n0_ := Aside0.mk (below_step (by repeat (first | (with_reducible first | exact HB.out | apply below_alloc | apply pw_below_drewN | apply below_drew1) | exact HB.out)) hb); have n1_ := Aside0.mk (hbox); have n2_ := Aside0.mk ((by rw [hg]; exact (below_size (by repeat (first | (with_reducible first | exact HB.out | apply below_alloc | apply pw_below_drewN | apply below_drew1) | exact HB.out))) : w.heap.size ≤ gb101)); have n3_ := Aside0.mk ((by rw [hg]; exact (below_size (by repeat (first | (with_reducible first | exact HB.out | apply below_alloc | apply pw_below_drewN | apply below_drew1) | exact HB.out))) : w.heap.size ≤ gb101)); clear HB; have HB := n0_; have BK101 := n1_; have GW101 := n2_; have GE101 := n3_; clear n0_ n1_ n2_ n3_; clear hb hbox hg; have hcz4_0 : w3.cell? ⟨gb101, 0, none⟩ = some (.int .u8 a0_0) := (blk_cell BK101.out 0).trans rfl; have hcz4_1 : w3.cell? ⟨gb101, 1, none⟩ = some (.string a0_1) := (blk_cell BK101.out 1).trans rfl; have hcz4_2 : w3.cell? ⟨gb101, 2, none⟩ = some (.int .i64 a0_2) := (blk_cell BK101.out 2).trans rfl; have hcz4_3 : w3.cell? ⟨gb101, 3, none⟩ = some (.int .i64 a0_3) := (blk_cell BK101.out 3).trans rfl; have hcz4_4 : w3.cell? ⟨gb101, 4, none⟩ = some (.int .i64 a0_4) := (blk_cell BK101.out 4).trans rfl; have hcz4_5 : w3.cell? ⟨gb101, 5, none⟩ = some (.int .i64 a0_5) := (blk_cell BK101.out 5).trans rfl; have hfz4_0 := blk_frozen BK101.out 0; have hfz4_1 := blk_frozen BK101.out 1; have hfz4_2 := blk_frozen BK101.out 2; have hfz4_3 := blk_frozen BK101.out 3; have hfz4_4 := blk_frozen BK101.out 4; have hfz4_5 := blk_frozen BK101.out 5))
  go_ret
  exact ⟨by first | rfl | (simp [errW_none, errW_some] <;> rfl) | (simp [*, errW_none, errW_some] <;> rfl), by repeat (first | (with_reducible first | exact HB.out | apply below_alloc | apply pw_below_drewN | apply below_drew1 | refine below_set ?_ GE101.out) | exact HB.out)⟩
 ·rw [if_neg c2] at H
  have c2b0 : (a0_0 == 7) = false := beq_eq_false_iff_ne.mpr c2
  have c2b1 : (a0_0 != 7) = true := bne_iff_ne.mpr c2
  obtain rfl := Option.some.inj H
  go_enter Try.func62, Try.ntmps62
  go_wp2_with (first | ((with_reducible refine gate_dst (N := 1) rfl ?_); refine box_event ?hg (N := 1) ?hd (cs := #[.int .u8 a0_0, .string a0_1, .int .i64 a0_2, .int .i64 a0_3, .int .i64 a0_4, .int .i64 a0_5]) (t := 35) ?hr ?_; (case hd => rfl); (case hg => rfl); (case hr => first | (go_simp; done) | (go_simp; rfl)); intro gb101 hg w5 hbox hb; have n0_ := Aside0.mk (below_step (by repeat (first | (with_reducible first | exact HB.out | apply below_alloc | apply pw_below_drewN | apply below_drew1) | exact HB.out)) hb); have n1_ := Aside0.mk (hbox); have n2_ := Aside0.mk ((by rw [hg]; exact (below_size (by repeat (first | (with_reducible first | exact HB.out | apply below_alloc | apply pw_below_drewN | apply below_drew1) | exact HB.out))) : w.heap.size ≤ gb101)); have n3_ := Aside0.mk ((by rw [hg]; exact (below_size (by repeat (first | (with_reducible first | exact HB.out | apply below_alloc | apply pw_below_drewN | apply below_drew1) | exact HB.out))) : w.heap.size ≤ gb101)); clear HB; have HB := n0_; have BK101 := n1_; have GW101 := n2_; have GE101 := n3_; clear n0_ n1_ n2_ n3_; clear hb hbox hg; have hcz6_0 : w5.cell? ⟨gb101, 0, none⟩ = some (.int .u8 a0_0) := (blk_cell BK101.out 0).trans rfl; have hcz6_1 : w5.cell? ⟨gb101, 1, none⟩ = some (.string a0_1) := (blk_cell BK101.out 1).trans rfl; have hcz6_2 : w5.cell? ⟨gb101, 2, none⟩ = some (.int .i64 a0_2) := (blk_cell BK101.out 2).trans rfl; have hcz6_3 : w5.cell? ⟨gb101, 3, none⟩ = some (.int .i64 a0_3) := (blk_cell BK101.out 3).trans rfl; have hcz6_4 : w5.cell? ⟨gb101, 4, none⟩ = some (.int .i64 a0_4) := (blk_cell BK101.out 4).trans rfl; have hcz6_5 : w5.cell? ⟨gb101, 5, none⟩ = some (.int .i64 a0_5) := (blk_cell BK101.out 5).trans rfl; have hfz6_0 := blk_frozen BK101.out 0; have hfz6_1 := blk_frozen BK101.out 1; have hfz6_2 := blk_frozen BK101.out 2; have hfz6_3 := blk_frozen BK101.out 3; have hfz6_4 := blk_frozen BK101.out 4; have hfz6_5 := blk_frozen BK101.out 5))
  go_ret
  exact ⟨by first | rfl | (simp [errW_none, errW_some] <;> rfl) | (simp [*, errW_none, errW_some] <;> rfl), by repeat (first | (with_reducible first | exact HB.out | apply below_alloc | apply pw_below_drewN | apply below_drew1 | refine below_set ?_ GE101.out) | exact HB.out)⟩


def colophonlaw14_key.f (a0 : ByteArray) : Option (Int × ByteArray × Int × Int × Int × Int) := some (2, a0, 0, 0, 0, 0)
set_option maxHeartbeats 8000000 in
set_option maxRecDepth 100000 in
theorem colophonlaw14_key.calls (a0 : ByteArray) (r1 : Int) (r2 : ByteArray) (r3 : Int) (r4 : Int) (r5 : Int) (r6 : Int) (w : World) (h : colophonlaw14_key.f a0 = some (r1, r2, r3, r4, r5, r6)) :
  Calls Try.prog 37 #[.string a0] w fun e w' => e = .returned (.agg #[.int .u8 r1, .string r2, .int .i64 r3, .int .i64 r4, .int .i64 r5, .int .i64 r6]) ∧ Below w.heap.size w w' := by
 have hu35 := Try.underlying35
 have HB := Aside0.mk (Below.refl w.heap.size w)
 have H : (some (2, a0, 0, 0, 0, 0)) = some (r1, r2, r3, r4, r5, r6) := h
 clear h
 simp only [Option.some.injEq, Prod.mk.injEq] at H
 obtain ⟨rfl, rfl, rfl, rfl, rfl, rfl⟩ := H
 go_enter Try.func37, Try.ntmps37
 go_wp2_with (first | ((with_reducible refine gate_dst (N := 2) rfl ?_); refine box_event ?hg (N := 2) ?hd (cs := #[.int .u8 0, .string (⟨#[]⟩ : ByteArray), .int .i64 0, .int .i64 0, .int .i64 0, .int .i64 0]) (t := 35) ?hr ?_; (case hd => rfl); (case hg => rfl); (case hr => first | (go_simp; done) | (go_simp; rfl)); intro gb114 hg w2 hbox hb; have n0_ := Aside0.mk (below_step (by repeat (first | (with_reducible first | exact HB.out | apply below_alloc | apply pw_below_drewN | apply below_drew1) | exact HB.out)) hb); have n1_ := Aside0.mk (hbox); have n2_ := Aside0.mk ((by rw [hg]; exact (below_size (by repeat (first | (with_reducible first | exact HB.out | apply below_alloc | apply pw_below_drewN | apply below_drew1) | exact HB.out))) : w.heap.size ≤ gb114)); have n3_ := Aside0.mk ((by rw [hg]; exact (below_size (by repeat (first | (with_reducible first | exact HB.out | apply below_alloc | apply pw_below_drewN | apply below_drew1) | exact HB.out))) : w.heap.size ≤ gb114)); clear HB; have HB := n0_; have BK114 := n1_; have GW114 := n2_; have GE114 := n3_; clear n0_ n1_ n2_ n3_; clear hb hbox hg; have hcz3_0 : w2.cell? ⟨gb114, 0, none⟩ = some (.int .u8 0) := (blk_cell BK114.out 0).trans rfl; have hcz3_1 : w2.cell? ⟨gb114, 1, none⟩ = some (.string (⟨#[]⟩ : ByteArray)) := (blk_cell BK114.out 1).trans rfl; have hcz3_2 : w2.cell? ⟨gb114, 2, none⟩ = some (.int .i64 0) := (blk_cell BK114.out 2).trans rfl; have hcz3_3 : w2.cell? ⟨gb114, 3, none⟩ = some (.int .i64 0) := (blk_cell BK114.out 3).trans rfl; have hcz3_4 : w2.cell? ⟨gb114, 4, none⟩ = some (.int .i64 0) := (blk_cell BK114.out 4).trans rfl; have hcz3_5 : w2.cell? ⟨gb114, 5, none⟩ = some (.int .i64 0) := (blk_cell BK114.out 5).trans rfl; have hfz3_0 := blk_frozen BK114.out 0; have hfz3_1 := blk_frozen BK114.out 1; have hfz3_2 := blk_frozen BK114.out 2; have hfz3_3 := blk_frozen BK114.out 3; have hfz3_4 := blk_frozen BK114.out 4; have hfz3_5 := blk_frozen BK114.out 5))
 refine bodyPost_ret (results_cell_row rfl _ _ gb114 35 #[.int .u8 2, .string a0, .int .i64 0, .int .i64 0, .int .i64 0, .int .i64 0] (0, 0) _ rfl (by (with_reducible repeat (first | refine blk_drewN ?_ _ | refine blk_drew ?_ | refine blk_alloc ?_ _)); refine blk_put (cs := #[.int .u8 2, .string a0, .int .i64 0, .int .i64 0, .int .i64 0, .int .i64 0]) ?_ 5 _ rfl; (with_reducible repeat (first | refine blk_drewN ?_ _ | refine blk_drew ?_ | refine blk_alloc ?_ _)); refine blk_put (cs := #[.int .u8 2, .string a0, .int .i64 0, .int .i64 0, .int .i64 0, .int .i64 0]) ?_ 4 _ rfl; (with_reducible repeat (first | refine blk_drewN ?_ _ | refine blk_drew ?_ | refine blk_alloc ?_ _)); refine blk_put (cs := #[.int .u8 2, .string a0, .int .i64 0, .int .i64 0, .int .i64 0, .int .i64 0]) ?_ 3 _ rfl; (with_reducible repeat (first | refine blk_drewN ?_ _ | refine blk_drew ?_ | refine blk_alloc ?_ _)); refine blk_put (cs := #[.int .u8 2, .string a0, .int .i64 0, .int .i64 0, .int .i64 0, .int .i64 0]) ?_ 2 _ rfl; (with_reducible repeat (first | refine blk_drewN ?_ _ | refine blk_drew ?_ | refine blk_alloc ?_ _)); refine blk_put (cs := #[.int .u8 2, .string (⟨#[]⟩ : ByteArray), .int .i64 0, .int .i64 0, .int .i64 0, .int .i64 0]) ?_ 1 _ rfl; (with_reducible repeat (first | refine blk_drewN ?_ _ | refine blk_drew ?_ | refine blk_alloc ?_ _)); refine blk_put (cs := #[.int .u8 0, .string (⟨#[]⟩ : ByteArray), .int .i64 0, .int .i64 0, .int .i64 0, .int .i64 0]) ?_ 0 _ rfl; (with_reducible repeat (first | refine blk_drewN ?_ _ | refine blk_drew ?_ | refine blk_alloc ?_ _)); exact BK114.out) Try.underlying35 rfl (by kernel_rfl)) rfl ?_
 exact ⟨by first | rfl | (simp [errW_none, errW_some] <;> rfl) | (simp [*, errW_none, errW_some] <;> rfl), by repeat (first | (with_reducible first | exact HB.out | apply below_alloc | apply pw_below_drewN | apply below_drew1 | refine below_set ?_ GE114.out) | exact HB.out)⟩
def colophonlaw14_name.f (a0 : ByteArray) : Option (Int × ByteArray × Int × Int × Int × Int) := some (1, a0, 0, 0, 0, 0)
set_option maxHeartbeats 8000000 in
set_option maxRecDepth 100000 in
theorem colophonlaw14_name.calls (a0 : ByteArray) (r1 : Int) (r2 : ByteArray) (r3 : Int) (r4 : Int) (r5 : Int) (r6 : Int) (w : World) (h : colophonlaw14_name.f a0 = some (r1, r2, r3, r4, r5, r6)) :
  Calls Try.prog 38 #[.string a0] w fun e w' => e = .returned (.agg #[.int .u8 r1, .string r2, .int .i64 r3, .int .i64 r4, .int .i64 r5, .int .i64 r6]) ∧ Below w.heap.size w w' := by
 have hu35 := Try.underlying35
 have HB := Aside0.mk (Below.refl w.heap.size w)
 have H : (some (1, a0, 0, 0, 0, 0)) = some (r1, r2, r3, r4, r5, r6) := h
 clear h
 simp only [Option.some.injEq, Prod.mk.injEq] at H
 obtain ⟨rfl, rfl, rfl, rfl, rfl, rfl⟩ := H
 go_enter Try.func38, Try.ntmps38
 go_wp2_with (first | ((with_reducible refine gate_dst (N := 2) rfl ?_); refine box_event ?hg (N := 2) ?hd (cs := #[.int .u8 0, .string (⟨#[]⟩ : ByteArray), .int .i64 0, .int .i64 0, .int .i64 0, .int .i64 0]) (t := 35) ?hr ?_; (case hd => rfl); (case hg => rfl); (case hr => first | (go_simp; done) | (go_simp; rfl)); intro gb115 hg w2 hbox hb; have n0_ := Aside0.mk (below_step (by repeat (first | (with_reducible first | exact HB.out | apply below_alloc | apply pw_below_drewN | apply below_drew1) | exact HB.out)) hb); have n1_ := Aside0.mk (hbox); have n2_ := Aside0.mk ((by rw [hg]; exact (below_size (by repeat (first | (with_reducible first | exact HB.out | apply below_alloc | apply pw_below_drewN | apply below_drew1) | exact HB.out))) : w.heap.size ≤ gb115)); have n3_ := Aside0.mk ((by rw [hg]; exact (below_size (by repeat (first | (with_reducible first | exact HB.out | apply below_alloc | apply pw_below_drewN | apply below_drew1) | exact HB.out))) : w.heap.size ≤ gb115)); clear HB; have HB := n0_; have BK115 := n1_; have GW115 := n2_; have GE115 := n3_; clear n0_ n1_ n2_ n3_; clear hb hbox hg; have hcz3_0 : w2.cell? ⟨gb115, 0, none⟩ = some (.int .u8 0) := (blk_cell BK115.out 0).trans rfl; have hcz3_1 : w2.cell? ⟨gb115, 1, none⟩ = some (.string (⟨#[]⟩ : ByteArray)) := (blk_cell BK115.out 1).trans rfl; have hcz3_2 : w2.cell? ⟨gb115, 2, none⟩ = some (.int .i64 0) := (blk_cell BK115.out 2).trans rfl; have hcz3_3 : w2.cell? ⟨gb115, 3, none⟩ = some (.int .i64 0) := (blk_cell BK115.out 3).trans rfl; have hcz3_4 : w2.cell? ⟨gb115, 4, none⟩ = some (.int .i64 0) := (blk_cell BK115.out 4).trans rfl; have hcz3_5 : w2.cell? ⟨gb115, 5, none⟩ = some (.int .i64 0) := (blk_cell BK115.out 5).trans rfl; have hfz3_0 := blk_frozen BK115.out 0; have hfz3_1 := blk_frozen BK115.out 1; have hfz3_2 := blk_frozen BK115.out 2; have hfz3_3 := blk_frozen BK115.out 3; have hfz3_4 := blk_frozen BK115.out 4; have hfz3_5 := blk_frozen BK115.out 5))
 refine bodyPost_ret (results_cell_row rfl _ _ gb115 35 #[.int .u8 1, .string a0, .int .i64 0, .int .i64 0, .int .i64 0, .int .i64 0] (0, 0) _ rfl (by (with_reducible repeat (first | refine blk_drewN ?_ _ | refine blk_drew ?_ | refine blk_alloc ?_ _)); refine blk_put (cs := #[.int .u8 1, .string a0, .int .i64 0, .int .i64 0, .int .i64 0, .int .i64 0]) ?_ 5 _ rfl; (with_reducible repeat (first | refine blk_drewN ?_ _ | refine blk_drew ?_ | refine blk_alloc ?_ _)); refine blk_put (cs := #[.int .u8 1, .string a0, .int .i64 0, .int .i64 0, .int .i64 0, .int .i64 0]) ?_ 4 _ rfl; (with_reducible repeat (first | refine blk_drewN ?_ _ | refine blk_drew ?_ | refine blk_alloc ?_ _)); refine blk_put (cs := #[.int .u8 1, .string a0, .int .i64 0, .int .i64 0, .int .i64 0, .int .i64 0]) ?_ 3 _ rfl; (with_reducible repeat (first | refine blk_drewN ?_ _ | refine blk_drew ?_ | refine blk_alloc ?_ _)); refine blk_put (cs := #[.int .u8 1, .string a0, .int .i64 0, .int .i64 0, .int .i64 0, .int .i64 0]) ?_ 2 _ rfl; (with_reducible repeat (first | refine blk_drewN ?_ _ | refine blk_drew ?_ | refine blk_alloc ?_ _)); refine blk_put (cs := #[.int .u8 1, .string (⟨#[]⟩ : ByteArray), .int .i64 0, .int .i64 0, .int .i64 0, .int .i64 0]) ?_ 1 _ rfl; (with_reducible repeat (first | refine blk_drewN ?_ _ | refine blk_drew ?_ | refine blk_alloc ?_ _)); refine blk_put (cs := #[.int .u8 0, .string (⟨#[]⟩ : ByteArray), .int .i64 0, .int .i64 0, .int .i64 0, .int .i64 0]) ?_ 0 _ rfl; (with_reducible repeat (first | refine blk_drewN ?_ _ | refine blk_drew ?_ | refine blk_alloc ?_ _)); exact BK115.out) Try.underlying35 rfl (by kernel_rfl)) rfl ?_
 exact ⟨by first | rfl | (simp [errW_none, errW_some] <;> rfl) | (simp [*, errW_none, errW_some] <;> rfl), by repeat (first | (with_reducible first | exact HB.out | apply below_alloc | apply pw_below_drewN | apply below_drew1 | refine below_set ?_ GE115.out) | exact HB.out)⟩
def colophonlaw14_sign.f (a0 : ByteArray) : Option (Int × ByteArray × Int × Int × Int × Int) := some (6, a0, 0, 0, 0, 0)
set_option maxHeartbeats 8000000 in
set_option maxRecDepth 100000 in
theorem colophonlaw14_sign.calls (a0 : ByteArray) (r1 : Int) (r2 : ByteArray) (r3 : Int) (r4 : Int) (r5 : Int) (r6 : Int) (w : World) (h : colophonlaw14_sign.f a0 = some (r1, r2, r3, r4, r5, r6)) :
  Calls Try.prog 39 #[.string a0] w fun e w' => e = .returned (.agg #[.int .u8 r1, .string r2, .int .i64 r3, .int .i64 r4, .int .i64 r5, .int .i64 r6]) ∧ Below w.heap.size w w' := by
 have hu35 := Try.underlying35
 have HB := Aside0.mk (Below.refl w.heap.size w)
 have H : (some (6, a0, 0, 0, 0, 0)) = some (r1, r2, r3, r4, r5, r6) := h
 clear h
 simp only [Option.some.injEq, Prod.mk.injEq] at H
 obtain ⟨rfl, rfl, rfl, rfl, rfl, rfl⟩ := H
 go_enter Try.func39, Try.ntmps39
 go_wp2_with (first | ((with_reducible refine gate_dst (N := 2) rfl ?_); refine box_event ?hg (N := 2) ?hd (cs := #[.int .u8 0, .string (⟨#[]⟩ : ByteArray), .int .i64 0, .int .i64 0, .int .i64 0, .int .i64 0]) (t := 35) ?hr ?_; (case hd => rfl); (case hg => rfl); (case hr => first | (go_simp; done) | (go_simp; rfl)); intro gb116 hg w2 hbox hb; have n0_ := Aside0.mk (below_step (by repeat (first | (with_reducible first | exact HB.out | apply below_alloc | apply pw_below_drewN | apply below_drew1) | exact HB.out)) hb); have n1_ := Aside0.mk (hbox); have n2_ := Aside0.mk ((by rw [hg]; exact (below_size (by repeat (first | (with_reducible first | exact HB.out | apply below_alloc | apply pw_below_drewN | apply below_drew1) | exact HB.out))) : w.heap.size ≤ gb116)); have n3_ := Aside0.mk ((by rw [hg]; exact (below_size (by repeat (first | (with_reducible first | exact HB.out | apply below_alloc | apply pw_below_drewN | apply below_drew1) | exact HB.out))) : w.heap.size ≤ gb116)); clear HB; have HB := n0_; have BK116 := n1_; have GW116 := n2_; have GE116 := n3_; clear n0_ n1_ n2_ n3_; clear hb hbox hg; have hcz3_0 : w2.cell? ⟨gb116, 0, none⟩ = some (.int .u8 0) := (blk_cell BK116.out 0).trans rfl; have hcz3_1 : w2.cell? ⟨gb116, 1, none⟩ = some (.string (⟨#[]⟩ : ByteArray)) := (blk_cell BK116.out 1).trans rfl; have hcz3_2 : w2.cell? ⟨gb116, 2, none⟩ = some (.int .i64 0) := (blk_cell BK116.out 2).trans rfl; have hcz3_3 : w2.cell? ⟨gb116, 3, none⟩ = some (.int .i64 0) := (blk_cell BK116.out 3).trans rfl; have hcz3_4 : w2.cell? ⟨gb116, 4, none⟩ = some (.int .i64 0) := (blk_cell BK116.out 4).trans rfl; have hcz3_5 : w2.cell? ⟨gb116, 5, none⟩ = some (.int .i64 0) := (blk_cell BK116.out 5).trans rfl; have hfz3_0 := blk_frozen BK116.out 0; have hfz3_1 := blk_frozen BK116.out 1; have hfz3_2 := blk_frozen BK116.out 2; have hfz3_3 := blk_frozen BK116.out 3; have hfz3_4 := blk_frozen BK116.out 4; have hfz3_5 := blk_frozen BK116.out 5))
 refine bodyPost_ret (results_cell_row rfl _ _ gb116 35 #[.int .u8 6, .string a0, .int .i64 0, .int .i64 0, .int .i64 0, .int .i64 0] (0, 0) _ rfl (by (with_reducible repeat (first | refine blk_drewN ?_ _ | refine blk_drew ?_ | refine blk_alloc ?_ _)); refine blk_put (cs := #[.int .u8 6, .string a0, .int .i64 0, .int .i64 0, .int .i64 0, .int .i64 0]) ?_ 5 _ rfl; (with_reducible repeat (first | refine blk_drewN ?_ _ | refine blk_drew ?_ | refine blk_alloc ?_ _)); refine blk_put (cs := #[.int .u8 6, .string a0, .int .i64 0, .int .i64 0, .int .i64 0, .int .i64 0]) ?_ 4 _ rfl; (with_reducible repeat (first | refine blk_drewN ?_ _ | refine blk_drew ?_ | refine blk_alloc ?_ _)); refine blk_put (cs := #[.int .u8 6, .string a0, .int .i64 0, .int .i64 0, .int .i64 0, .int .i64 0]) ?_ 3 _ rfl; (with_reducible repeat (first | refine blk_drewN ?_ _ | refine blk_drew ?_ | refine blk_alloc ?_ _)); refine blk_put (cs := #[.int .u8 6, .string a0, .int .i64 0, .int .i64 0, .int .i64 0, .int .i64 0]) ?_ 2 _ rfl; (with_reducible repeat (first | refine blk_drewN ?_ _ | refine blk_drew ?_ | refine blk_alloc ?_ _)); refine blk_put (cs := #[.int .u8 6, .string (⟨#[]⟩ : ByteArray), .int .i64 0, .int .i64 0, .int .i64 0, .int .i64 0]) ?_ 1 _ rfl; (with_reducible repeat (first | refine blk_drewN ?_ _ | refine blk_drew ?_ | refine blk_alloc ?_ _)); refine blk_put (cs := #[.int .u8 0, .string (⟨#[]⟩ : ByteArray), .int .i64 0, .int .i64 0, .int .i64 0, .int .i64 0]) ?_ 0 _ rfl; (with_reducible repeat (first | refine blk_drewN ?_ _ | refine blk_drew ?_ | refine blk_alloc ?_ _)); exact BK116.out) Try.underlying35 rfl (by kernel_rfl)) rfl ?_
 exact ⟨by first | rfl | (simp [errW_none, errW_some] <;> rfl) | (simp [*, errW_none, errW_some] <;> rfl), by repeat (first | (with_reducible first | exact HB.out | apply below_alloc | apply pw_below_drewN | apply below_drew1 | refine below_set ?_ GE116.out) | exact HB.out)⟩


mutual
def colophonlaw14_full.j0 : Nat → Bool → Int → Int → ByteArray → Int → Int → Int → Int → List (S51) → Option (Bool)
 | 0, _, _, _, _, _, _, _, _, _ => none
 | k + 1, x21, x163000, x163001, x163002, x163003, x163004, x163005, x163006, x163007 => if x21 = true then (some false) else (colophonlaw14_full.l0 k 0 x163000 x163001 x163002 x163003 x163004 x163005 x163006 x163007)
def colophonlaw14_full.l0 : Nat → Int → Int → Int → ByteArray → Int → Int → Int → Int → List (S51) → Option (Bool)
 | 0, _, _, _, _, _, _, _, _, _ => none
 | k + 1, x3, x163000, x163001, x163002, x163003, x163004, x163005, x163006, x163007 => if x3 < (x163007.length : Int) then (if 0 ≤ x3 then ((colophonlaw14_full.f k ((rd_T51 x163007 x3).f0) ((rd_T51 x163007 x3).f1.f0) ((rd_T51 x163007 x3).f1.f1) ((rd_T51 x163007 x3).f1.f2.f0) ((rd_T51 x163007 x3).f1.f2.f1) ((rd_T51 x163007 x3).f1.f2.f2) ((rd_T51 x163007 x3).f1.f3) ((rd_T51 x163007 x3).f2)).bind fun t164 => (if t164 = true then (colophonlaw14_full.l0 k (wrap64 (x3 + 1)) x163000 x163001 x163002 x163003 x163004 x163005 x163006 x163007) else (some false))) else (none)) else (some true)
def colophonlaw14_full.f : Nat → Int → Int → ByteArray → Int → Int → Int → Int → List (S51) → Option (Bool)
 | 0, _, _, _, _, _, _, _, _ => none
 | k + 1, a0_0, a0_1, a0_2, a0_3, a0_4, a0_5, a0_6, l0_7 => if a0_0 = 0 then (some ((l0_7.length : Int) == 0)) else (if (l0_7.length : Int) = 0 then (colophonlaw14_full.j0 k true a0_0 a0_1 a0_2 a0_3 a0_4 a0_5 a0_6 l0_7) else (colophonlaw14_full.j0 k (!(a0_1 == 0) || (!(a0_2.toList == ([] : List UInt8)) || ((!(a0_3 == 0) || (!(a0_4 == 0) || (!(a0_5 == 0)))) || (!(a0_6 == 0))))) a0_0 a0_1 a0_2 a0_3 a0_4 a0_5 a0_6 l0_7))
end
theorem colophonlaw14_full.mono_l : ∀ k, (∀ y0 y1 y2 y3 y4 y5 y6 y7, LeO (colophonlaw14_full.f k y0 y1 y2 y3 y4 y5 y6 y7) (colophonlaw14_full.f (k + 1) y0 y1 y2 y3 y4 y5 y6 y7)) ∧ (∀ y0 y1 y2 y3 y4 y5 y6 y7 y8, LeO (colophonlaw14_full.j0 k y0 y1 y2 y3 y4 y5 y6 y7 y8) (colophonlaw14_full.j0 (k + 1) y0 y1 y2 y3 y4 y5 y6 y7 y8)) ∧ (∀ y0 y1 y2 y3 y4 y5 y6 y7 y8, LeO (colophonlaw14_full.l0 k y0 y1 y2 y3 y4 y5 y6 y7 y8) (colophonlaw14_full.l0 (k + 1) y0 y1 y2 y3 y4 y5 y6 y7 y8))
 | 0 => ⟨fun _ _ _ _ _ _ _ _ r h => by simp [colophonlaw14_full.f] at h, fun _ _ _ _ _ _ _ _ _ r h => by simp [colophonlaw14_full.j0] at h, fun _ _ _ _ _ _ _ _ _ r h => by simp [colophonlaw14_full.l0] at h⟩
 | k + 1 => by
  obtain ⟨ih0, ih1, ih2⟩ := colophonlaw14_full.mono_l k
  refine ⟨?_, ?_, ?_⟩
  ·intro y0 y1 y2 y3 y4 y5 y6 y7
   unfold colophonlaw14_full.f
   repeat' first
   | (with_reducible exact ih0 _ _ _ _ _ _ _ _)
   | (with_reducible exact ih1 _ _ _ _ _ _ _ _ _)
   | (with_reducible exact ih2 _ _ _ _ _ _ _ _ _)
   | (with_reducible exact LeO.refl _)
   | (with_reducible exact LeO.none _)
   | (with_reducible refine LeO.ite ?_ ?_)
   | (with_reducible refine LeO.bind ?_ (fun _ => ?_))
   | exact ih0 _ _ _ _ _ _ _ _
   | exact ih1 _ _ _ _ _ _ _ _ _
   | exact ih2 _ _ _ _ _ _ _ _ _
   | exact LeO.none _
   | refine LeO.ite ?_ ?_
   | refine LeO.bind ?_ (fun _ => ?_)
  ·intro y0 y1 y2 y3 y4 y5 y6 y7 y8
   unfold colophonlaw14_full.j0
   repeat' first
   | (with_reducible exact ih0 _ _ _ _ _ _ _ _)
   | (with_reducible exact ih1 _ _ _ _ _ _ _ _ _)
   | (with_reducible exact ih2 _ _ _ _ _ _ _ _ _)
   | (with_reducible exact LeO.refl _)
   | (with_reducible exact LeO.none _)
   | (with_reducible refine LeO.ite ?_ ?_)
   | (with_reducible refine LeO.bind ?_ (fun _ => ?_))
   | exact ih0 _ _ _ _ _ _ _ _
   | exact ih1 _ _ _ _ _ _ _ _ _
   | exact ih2 _ _ _ _ _ _ _ _ _
   | exact LeO.none _
   | refine LeO.ite ?_ ?_
   | refine LeO.bind ?_ (fun _ => ?_)
  ·intro y0 y1 y2 y3 y4 y5 y6 y7 y8
   unfold colophonlaw14_full.l0
   repeat' first
   | (with_reducible exact ih0 _ _ _ _ _ _ _ _)
   | (with_reducible exact ih1 _ _ _ _ _ _ _ _ _)
   | (with_reducible exact ih2 _ _ _ _ _ _ _ _ _)
   | (with_reducible exact LeO.refl _)
   | (with_reducible exact LeO.none _)
   | (with_reducible refine LeO.ite ?_ ?_)
   | (with_reducible refine LeO.bind ?_ (fun _ => ?_))
   | exact ih0 _ _ _ _ _ _ _ _
   | exact ih1 _ _ _ _ _ _ _ _ _
   | exact ih2 _ _ _ _ _ _ _ _ _
   | exact LeO.none _
   | refine LeO.ite ?_ ?_
   | refine LeO.bind ?_ (fun _ => ?_)
theorem colophonlaw14_full.mono : ∀ a0 a1 a2 a3 a4 a5 a6 a7 k, LeO (colophonlaw14_full.f k a0 a1 a2 a3 a4 a5 a6 a7) (colophonlaw14_full.f (k + 1) a0 a1 a2 a3 a4 a5 a6 a7) := by
 intro a0 a1 a2 a3 a4 a5 a6 a7 k
 obtain ⟨ih0, ih1, ih2⟩ := colophonlaw14_full.mono_l k
 exact ih0 a0 a1 a2 a3 a4 a5 a6 a7
set_option maxHeartbeats 8000000 in
set_option maxRecDepth 100000 in
theorem colophonlaw14_full.calls (k : Nat) : ∀ (a0_0 : Int) (a0_1 : Int) (a0_2 : ByteArray) (a0_3 : Int) (a0_4 : Int) (a0_5 : Int) (a0_6 : Int) (A0_7 : Option Addr) (c0_7 : Nat) (l0_7 : List (S51)) (r : Bool) (w : World) (hr0_7 : Kd.C k51 w A0_7 l0_7.length l0_7) (hc0_7 : l0_7.length ≤ c0_7) (h : colophonlaw14_full.f k a0_0 a0_1 a0_2 a0_3 a0_4 a0_5 a0_6 l0_7 = some r),
  Calls Try.prog 19 #[.agg #[.int .u8 a0_0, .int .u8 a0_1, .string a0_2, .int .i64 a0_3, .int .i64 a0_4, .int .i64 a0_5, .int .i64 a0_6, .slice A0_7 l0_7.length c0_7]] w fun e w' => e = .returned (.bool r) ∧ Below w.heap.size w w' := by
 induction k using Nat.strongRecOn with
 | _ k ih =>
 intro a0_0 a0_1 a0_2 a0_3 a0_4 a0_5 a0_6 A0_7 c0_7 l0_7 r w hr0_7 hc0_7 h
 cases k with
 | zero => exact absurd h (by simp [colophonlaw14_full.f])
 | succ k =>
 simp only [colophonlaw14_full.f] at h
 have hu51 := Try.underlying51
 have hu35 := Try.underlying35
 have HR0_7 := Aside0.mk hr0_7
 have HC0_7 := Aside0.mk hc0_7
 clear hr0_7 hc0_7
 have HB := Aside0.mk (Below.refl w.heap.size w)
 have H : (if a0_0 = 0 then (some ((l0_7.length : Int) == 0)) else (if (l0_7.length : Int) = 0 then (colophonlaw14_full.j0 k true a0_0 a0_1 a0_2 a0_3 a0_4 a0_5 a0_6 l0_7) else (colophonlaw14_full.j0 k (!(a0_1 == 0) || (!(a0_2.toList == ([] : List UInt8)) || ((!(a0_3 == 0) || (!(a0_4 == 0) || (!(a0_5 == 0)))) || (!(a0_6 == 0))))) a0_0 a0_1 a0_2 a0_3 a0_4 a0_5 a0_6 l0_7))) = some r := h
 clear h
 by_cases c2 : a0_0 = 0
 ·rw [if_pos c2] at H
  have c2b0 : (a0_0 == 0) = true := beq_iff_eq.mpr c2
  have c2b1 : (a0_0 != 0) = false := bne_eq_false_iff_eq.mpr c2
  clear c2
  obtain rfl := Option.some.inj H
  go_enter Try.func19, Try.ntmps19
  go_wp2_with (first | ((with_reducible refine gate_dst (N := 1) rfl ?_); refine box_event ?hg (N := 1) ?hd (cs := #[.int .u8 a0_0, .int .u8 a0_1, .string a0_2, .int .i64 a0_3, .int .i64 a0_4, .int .i64 a0_5, .int .i64 a0_6, .slice A0_7 l0_7.length c0_7]) (t := 51) ?hr ?_; (case hd => rfl); (case hg => rfl); (case hr => first | (go_simp; done) | (go_simp; rfl)); intro gb162 hg w3 hbox hb; have n0_ := Aside0.mk (below_step (by repeat (first | (with_reducible first | exact HB.out | apply below_alloc | apply pw_below_drewN | apply below_drew1) | exact HB.out)) hb); have n1_ := Aside0.mk (hbox); have n2_ := Aside0.mk ((by rw [hg]; exact (below_size (by repeat (first | (with_reducible first | exact HB.out | apply below_alloc | apply pw_below_drewN | apply below_drew1) | exact HB.out))) : w.heap.size ≤ gb162)); have n3_ := Aside0.mk ((by rw [hg]; exact (below_size (by repeat (first | (with_reducible first | exact HB.out | apply below_alloc | apply pw_below_drewN | apply below_drew1) | exact HB.out))) : w.heap.size ≤ gb162)); clear HB; have HB := n0_; have BK162 := n1_; have GW162 := n2_; have GE162 := n3_; clear n0_ n1_ n2_ n3_; clear hb hbox hg; have hcz4_0 : w3.cell? ⟨gb162, 0, none⟩ = some (.int .u8 a0_0) := (blk_cell BK162.out 0).trans rfl; have hcz4_1 : w3.cell? ⟨gb162, 1, none⟩ = some (.int .u8 a0_1) := (blk_cell BK162.out 1).trans rfl; have hcz4_2 : w3.cell? ⟨gb162, 2, none⟩ = some (.string a0_2) := (blk_cell BK162.out 2).trans rfl; have hcz4_3 : w3.cell? ⟨gb162, 3, none⟩ = some (.int .i64 a0_3) := (blk_cell BK162.out 3).trans rfl; have hcz4_4 : w3.cell? ⟨gb162, 4, none⟩ = some (.int .i64 a0_4) := (blk_cell BK162.out 4).trans rfl; have hcz4_5 : w3.cell? ⟨gb162, 5, none⟩ = some (.int .i64 a0_5) := (blk_cell BK162.out 5).trans rfl; have hcz4_6 : w3.cell? ⟨gb162, 6, none⟩ = some (.int .i64 a0_6) := (blk_cell BK162.out 6).trans rfl; have hcz4_7 : w3.cell? ⟨gb162, 7, none⟩ = some (.slice A0_7 l0_7.length c0_7) := (blk_cell BK162.out 7).trans rfl; have hfz4_0 := blk_frozen BK162.out 0; have hfz4_1 := blk_frozen BK162.out 1; have hfz4_2 := blk_frozen BK162.out 2; have hfz4_3 := blk_frozen BK162.out 3; have hfz4_4 := blk_frozen BK162.out 4; have hfz4_5 := blk_frozen BK162.out 5; have hfz4_6 := blk_frozen BK162.out 6; have hfz4_7 := blk_frozen BK162.out 7))
  go_ret
  exact ⟨by first | rfl | (simp [errW_none, errW_some] <;> rfl) | (simp [*, errW_none, errW_some] <;> rfl), by repeat (first | (with_reducible first | exact HB.out | apply below_alloc | apply pw_below_drewN | apply below_drew1 | refine below_set ?_ GE162.out) | exact HB.out)⟩
 ·rw [if_neg c2] at H
  have c2b0 : (a0_0 == 0) = false := beq_eq_false_iff_ne.mpr c2
  have c2b1 : (a0_0 != 0) = true := bne_iff_ne.mpr c2
  have HC5 := Aside0.mk H
  clear H
  go_enter Try.func19, Try.ntmps19
  go_upto_region 3 with (first | ((with_reducible refine gate_dst (N := 1) rfl ?_); refine box_event ?hg (N := 1) ?hd (cs := #[.int .u8 a0_0, .int .u8 a0_1, .string a0_2, .int .i64 a0_3, .int .i64 a0_4, .int .i64 a0_5, .int .i64 a0_6, .slice A0_7 l0_7.length c0_7]) (t := 51) ?hr ?_; (case hd => rfl); (case hg => rfl); (case hr => first | (go_simp; done) | (go_simp; rfl)); intro gb162 hg w6 hbox hb; have n0_ := Aside0.mk (below_step (by repeat (first | (with_reducible first | exact HB.out | apply below_alloc | apply pw_below_drewN | apply below_drew1) | exact HB.out)) hb); have n1_ := Aside0.mk (hbox); have n2_ := Aside0.mk ((by rw [hg]; exact (below_size (by repeat (first | (with_reducible first | exact HB.out | apply below_alloc | apply pw_below_drewN | apply below_drew1) | exact HB.out))) : w.heap.size ≤ gb162)); have n3_ := Aside0.mk ((by rw [hg]; exact (below_size (by repeat (first | (with_reducible first | exact HB.out | apply below_alloc | apply pw_below_drewN | apply below_drew1) | exact HB.out))) : w.heap.size ≤ gb162)); clear HB; have HB := n0_; have BK162 := n1_; have GW162 := n2_; have GE162 := n3_; clear n0_ n1_ n2_ n3_; clear hb hbox hg; have hcz7_0 : w6.cell? ⟨gb162, 0, none⟩ = some (.int .u8 a0_0) := (blk_cell BK162.out 0).trans rfl; have hcz7_1 : w6.cell? ⟨gb162, 1, none⟩ = some (.int .u8 a0_1) := (blk_cell BK162.out 1).trans rfl; have hcz7_2 : w6.cell? ⟨gb162, 2, none⟩ = some (.string a0_2) := (blk_cell BK162.out 2).trans rfl; have hcz7_3 : w6.cell? ⟨gb162, 3, none⟩ = some (.int .i64 a0_3) := (blk_cell BK162.out 3).trans rfl; have hcz7_4 : w6.cell? ⟨gb162, 4, none⟩ = some (.int .i64 a0_4) := (blk_cell BK162.out 4).trans rfl; have hcz7_5 : w6.cell? ⟨gb162, 5, none⟩ = some (.int .i64 a0_5) := (blk_cell BK162.out 5).trans rfl; have hcz7_6 : w6.cell? ⟨gb162, 6, none⟩ = some (.int .i64 a0_6) := (blk_cell BK162.out 6).trans rfl; have hcz7_7 : w6.cell? ⟨gb162, 7, none⟩ = some (.slice A0_7 l0_7.length c0_7) := (blk_cell BK162.out 7).trans rfl; have hfz7_0 := blk_frozen BK162.out 0; have hfz7_1 := blk_frozen BK162.out 1; have hfz7_2 := blk_frozen BK162.out 2; have hfz7_3 := blk_frozen BK162.out 3; have hfz7_4 := blk_frozen BK162.out 4; have hfz7_5 := blk_frozen BK162.out 5; have hfz7_6 := blk_frozen BK162.out 6; have hfz7_7 := blk_frozen BK162.out 7))
  (try simp only [Act.put, List.setIfInBounds_toArray, List.set])
  go_cut [21] (fun v21 wc => ∃ (kq : Nat) (x21_4 : Bool), v21 = .bool x21_4 ∧ Aside0 (colophonlaw14_full.j0 kq x21_4 a0_0 a0_1 a0_2 a0_3 a0_4 a0_5 a0_6 l0_7 = some r) ∧ Aside0 (kq ≤ k) ∧ Aside0 (wc.heap[gb162]? = some (.cells #[.int .u8 a0_0, .int .u8 a0_1, .string a0_2, .int .i64 a0_3, .int .i64 a0_4, .int .i64 a0_5, .int .i64 a0_6, (.slice A0_7 l0_7.length c0_7)] 51 (0, 0))) ∧ Aside0 (Below w.heap.size w wc))
  case first =>
   have H := HC5.out
   clear HC5
   by_cases c8 : (l0_7.length : Int) = 0
   ·rw [if_pos c8] at H
    have c8b0 : ((l0_7.length : Int) == 0) = true := beq_iff_eq.mpr c8
    have c8b1 : ((l0_7.length : Int) != 0) = false := bne_eq_false_iff_eq.mpr c8
    clear c8
    (first | rw [c8b0] | (simp only [i64_w, i32_w]; rw [c8b0]) | skip)
    have H' := Aside0.mk H
    clear H
    have hcz9_0 : w6.cell? ⟨gb162, 0, none⟩ = some (.int .u8 a0_0) := (blk_cell BK162.out 0).trans rfl
    have hcz9_1 : w6.cell? ⟨gb162, 1, none⟩ = some (.int .u8 a0_1) := (blk_cell BK162.out 1).trans rfl
    have hcz9_2 : w6.cell? ⟨gb162, 2, none⟩ = some (.string a0_2) := (blk_cell BK162.out 2).trans rfl
    have hcz9_3 : w6.cell? ⟨gb162, 3, none⟩ = some (.int .i64 a0_3) := (blk_cell BK162.out 3).trans rfl
    have hcz9_4 : w6.cell? ⟨gb162, 4, none⟩ = some (.int .i64 a0_4) := (blk_cell BK162.out 4).trans rfl
    have hcz9_5 : w6.cell? ⟨gb162, 5, none⟩ = some (.int .i64 a0_5) := (blk_cell BK162.out 5).trans rfl
    have hcz9_6 : w6.cell? ⟨gb162, 6, none⟩ = some (.int .i64 a0_6) := (blk_cell BK162.out 6).trans rfl
    have hcz9_7 : w6.cell? ⟨gb162, 7, none⟩ = some (.slice A0_7 l0_7.length c0_7) := (blk_cell BK162.out 7).trans rfl
    have hfz9_0 := blk_frozen BK162.out 0
    have hfz9_1 := blk_frozen BK162.out 1
    have hfz9_2 := blk_frozen BK162.out 2
    have hfz9_3 := blk_frozen BK162.out 3
    have hfz9_4 := blk_frozen BK162.out 4
    have hfz9_5 := blk_frozen BK162.out 5
    have hfz9_6 := blk_frozen BK162.out 6
    have hfz9_7 := blk_frozen BK162.out 7
    go_wp2
    go_meet
    case rel => exact ⟨_, (true), (by first | rfl | (simp; done) | (simp [*]; done)), H', ⟨by first | omega | exact Nat.le_refl _⟩, ⟨by (with_reducible repeat (first | refine blk_drewN ?_ _ | refine blk_drew ?_ | refine blk_alloc ?_ _)); exact BK162.out⟩, ⟨by repeat (first | (with_reducible first | exact HB.out | apply below_alloc | apply pw_below_drewN | apply below_drew1 | refine below_set ?_ GE162.out) | exact HB.out)⟩⟩
   ·rw [if_neg c8] at H
    have c8b0 : ((l0_7.length : Int) == 0) = false := beq_eq_false_iff_ne.mpr c8
    have c8b1 : ((l0_7.length : Int) != 0) = true := bne_iff_ne.mpr c8
    have c8b2 : ¬ (l0_7 = []) := fun h_ => c8 (by rw [h_]; rfl)
    (first | rw [c8b0] | (simp only [i64_w, i32_w]; rw [c8b0]) | skip)
    have H' := Aside0.mk H
    clear H
    have hcz10_0 : w6.cell? ⟨gb162, 0, none⟩ = some (.int .u8 a0_0) := (blk_cell BK162.out 0).trans rfl
    have hcz10_1 : w6.cell? ⟨gb162, 1, none⟩ = some (.int .u8 a0_1) := (blk_cell BK162.out 1).trans rfl
    have hcz10_2 : w6.cell? ⟨gb162, 2, none⟩ = some (.string a0_2) := (blk_cell BK162.out 2).trans rfl
    have hcz10_3 : w6.cell? ⟨gb162, 3, none⟩ = some (.int .i64 a0_3) := (blk_cell BK162.out 3).trans rfl
    have hcz10_4 : w6.cell? ⟨gb162, 4, none⟩ = some (.int .i64 a0_4) := (blk_cell BK162.out 4).trans rfl
    have hcz10_5 : w6.cell? ⟨gb162, 5, none⟩ = some (.int .i64 a0_5) := (blk_cell BK162.out 5).trans rfl
    have hcz10_6 : w6.cell? ⟨gb162, 6, none⟩ = some (.int .i64 a0_6) := (blk_cell BK162.out 6).trans rfl
    have hcz10_7 : w6.cell? ⟨gb162, 7, none⟩ = some (.slice A0_7 l0_7.length c0_7) := (blk_cell BK162.out 7).trans rfl
    have hfz10_0 := blk_frozen BK162.out 0
    have hfz10_1 := blk_frozen BK162.out 1
    have hfz10_2 := blk_frozen BK162.out 2
    have hfz10_3 := blk_frozen BK162.out 3
    have hfz10_4 := blk_frozen BK162.out 4
    have hfz10_5 := blk_frozen BK162.out 5
    have hfz10_6 := blk_frozen BK162.out 6
    have hfz10_7 := blk_frozen BK162.out 7
    go_wp2
    go_meet
    case rel => exact ⟨_, ((!(a0_1 == 0) || (!(a0_2.toList == ([] : List UInt8)) || ((!(a0_3 == 0) || (!(a0_4 == 0) || (!(a0_5 == 0)))) || (!(a0_6 == 0)))))), (by first | rfl | (simp; done) | (simp [*]; done)), H', ⟨by first | omega | exact Nat.le_refl _⟩, ⟨by (with_reducible repeat (first | refine blk_drewN ?_ _ | refine blk_drew ?_ | refine blk_alloc ?_ _)); exact BK162.out⟩, ⟨by repeat (first | (with_reducible first | exact HB.out | apply below_alloc | apply pw_below_drewN | apply below_drew1 | refine below_set ?_ GE162.out) | exact HB.out)⟩⟩
  case rest =>
   clear HC5
   try clear c1
   try clear c2
   try clear c2b0
   try clear c2b1
   try clear p2
   try clear c8
   try clear c8b0
   try clear c8b1
   try clear c8b2
   try clear hcz10_0
   try clear hcz10_1
   try clear hcz10_2
   try clear hcz10_3
   try clear hcz10_4
   try clear hcz10_5
   try clear hcz10_6
   try clear hcz10_7
   try clear hcz4_0
   try clear hcz4_1
   try clear hcz4_2
   try clear hcz4_3
   try clear hcz4_4
   try clear hcz4_5
   try clear hcz4_6
   try clear hcz4_7
   try clear hcz7_0
   try clear hcz7_1
   try clear hcz7_2
   try clear hcz7_3
   try clear hcz7_4
   try clear hcz7_5
   try clear hcz7_6
   try clear hcz7_7
   try clear hcz9_0
   try clear hcz9_1
   try clear hcz9_2
   try clear hcz9_3
   try clear hcz9_4
   try clear hcz9_5
   try clear hcz9_6
   try clear hcz9_7
   try clear hfz10_0
   try clear hfz10_1
   try clear hfz10_2
   try clear hfz10_3
   try clear hfz10_4
   try clear hfz10_5
   try clear hfz10_6
   try clear hfz10_7
   try clear hfz4_0
   try clear hfz4_1
   try clear hfz4_2
   try clear hfz4_3
   try clear hfz4_4
   try clear hfz4_5
   try clear hfz4_6
   try clear hfz4_7
   try clear hfz7_0
   try clear hfz7_1
   try clear hfz7_2
   try clear hfz7_3
   try clear hfz7_4
   try clear hfz7_5
   try clear hfz7_6
   try clear hfz7_7
   try clear hfz9_0
   try clear hfz9_1
   try clear hfz9_2
   try clear hfz9_3
   try clear hfz9_4
   try clear hfz9_5
   try clear hfz9_6
   try clear hfz9_7
   obtain ⟨kq, x21_4, rfl, HA, HJ4, BK162, HB⟩ := hcut
   cases kq with
   | zero => exact absurd HA.out (by simp [colophonlaw14_full.j0])
   | succ kj4 =>
    have H := HA.out
    clear HA
    simp only [colophonlaw14_full.j0] at H
    by_cases c11 : x21_4 = true
    ·subst c11
     have H1 : (some false) = some r := by rw [if_pos rfl] at H; exact H
     clear H
     have H := H1
     clear H1
     obtain rfl := Option.some.inj H
     go_wp2
     go_ret
     exact ⟨by first | rfl | (simp [errW_none, errW_some] <;> rfl) | (simp [*, errW_none, errW_some] <;> rfl), by repeat (first | (with_reducible first | exact HB.out | apply below_alloc | apply pw_below_drewN | apply below_drew1 | refine below_set ?_ GE162.out) | exact HB.out)⟩
    ·replace c11 := Bool.eq_false_iff.mpr c11
     subst c11
     have H1 : (colophonlaw14_full.l0 kj4 0 a0_0 a0_1 a0_2 a0_3 a0_4 a0_5 a0_6 l0_7) = some r := by rw [if_neg (show ¬ (false = true) by decide)] at H; exact H
     clear H
     have H := H1
     clear H1
     have H' := Aside0.mk H
     clear H
     go_wp2
     go_loopg [3] kj4 (fun kq v3 w' => ∃ (x3_2 : Int), v3 = .int .i64 x3_2 ∧ Aside0 (colophonlaw14_full.l0 kq x3_2 a0_0 a0_1 a0_2 a0_3 a0_4 a0_5 a0_6 l0_7 = some r) ∧ Aside0 (kq ≤ kj4) ∧ Aside0 (w'.heap[gb162]? = some (.cells #[.int .u8 a0_0, .int .u8 a0_1, .string a0_2, .int .i64 a0_3, .int .i64 a0_4, .int .i64 a0_5, .int .i64 a0_6, (.slice A0_7 l0_7.length c0_7)] 51 (0, 0))) ∧ Aside0 (Below w.heap.size w w'))
     case atStart => exact ⟨(0), (by first | rfl | (simp; done) | (simp [*]; done)), H', ⟨Nat.le_refl _⟩, ⟨by (with_reducible repeat (first | refine blk_drewN ?_ _ | refine blk_drew ?_ | refine blk_alloc ?_ _)); exact BK162.out⟩, ⟨by repeat (first | (with_reducible first | exact HB.out | apply below_alloc | apply pw_below_drewN | apply below_drew1 | refine below_set ?_ GE162.out) | exact HB.out)⟩⟩
     case round =>
      clear H'
      try clear c1
      try clear c2
      try clear c2b0
      try clear c2b1
      try clear p2
      try clear c8
      try clear c8b0
      try clear c8b1
      try clear c8b2
      try clear c11
      try clear hcz10_0
      try clear hcz10_1
      try clear hcz10_2
      try clear hcz10_3
      try clear hcz10_4
      try clear hcz10_5
      try clear hcz10_6
      try clear hcz10_7
      try clear hcz4_0
      try clear hcz4_1
      try clear hcz4_2
      try clear hcz4_3
      try clear hcz4_4
      try clear hcz4_5
      try clear hcz4_6
      try clear hcz4_7
      try clear hcz7_0
      try clear hcz7_1
      try clear hcz7_2
      try clear hcz7_3
      try clear hcz7_4
      try clear hcz7_5
      try clear hcz7_6
      try clear hcz7_7
      try clear hcz9_0
      try clear hcz9_1
      try clear hcz9_2
      try clear hcz9_3
      try clear hcz9_4
      try clear hcz9_5
      try clear hcz9_6
      try clear hcz9_7
      try clear hfz10_0
      try clear hfz10_1
      try clear hfz10_2
      try clear hfz10_3
      try clear hfz10_4
      try clear hfz10_5
      try clear hfz10_6
      try clear hfz10_7
      try clear hfz4_0
      try clear hfz4_1
      try clear hfz4_2
      try clear hfz4_3
      try clear hfz4_4
      try clear hfz4_5
      try clear hfz4_6
      try clear hfz4_7
      try clear hfz7_0
      try clear hfz7_1
      try clear hfz7_2
      try clear hfz7_3
      try clear hfz7_4
      try clear hfz7_5
      try clear hfz7_6
      try clear hfz7_7
      try clear hfz9_0
      try clear hfz9_1
      try clear hfz9_2
      try clear hfz9_3
      try clear hfz9_4
      try clear hfz9_5
      try clear hfz9_6
      try clear hfz9_7
      try clear p2
      obtain ⟨x3_2, rfl, HA, HK2, BK162, HB⟩ := hrel
      cases gk with
      | zero => exact absurd HA.out (by simp [colophonlaw14_full.l0])
      | succ k2 =>
       have H := HA.out
       clear HA
       simp only [colophonlaw14_full.l0] at H
       by_cases c12 : x3_2 < (l0_7.length : Int)
       ·rw [if_pos c12] at H
        have c12b0 : decide (x3_2 < (l0_7.length : Int)) = true := decide_eq_true c12
        clear c12
        by_cases c13 : 0 ≤ x3_2
        ·rw [if_pos c13] at H
         have c13b0 : decide (0 ≤ x3_2) = true := decide_eq_true c13
         clear c13
         replace H := Option.bind_eq_some_iff.mp H
         obtain ⟨t164, A140, H⟩ := H
         replace H : (if t164 = true then (colophonlaw14_full.l0 k2 (wrap64 (x3_2 + 1)) a0_0 a0_1 a0_2 a0_3 a0_4 a0_5 a0_6 l0_7) else (some false)) = some r := H
         have A14 := Aside0.mk A140
         clear A140
         by_cases c15 : t164 = true
         ·subst c15
          have H1 : (colophonlaw14_full.l0 k2 (wrap64 (x3_2 + 1)) a0_0 a0_1 a0_2 a0_3 a0_4 a0_5 a0_6 l0_7) = some r := by rw [if_pos rfl] at H; exact H
          clear H
          have H := H1
          clear H1
          have H' := Aside0.mk H
          clear H
          have hcz16_0 : wr.cell? ⟨gb162, 0, none⟩ = some (.int .u8 a0_0) := (blk_cell BK162.out 0).trans rfl
          have hcz16_1 : wr.cell? ⟨gb162, 1, none⟩ = some (.int .u8 a0_1) := (blk_cell BK162.out 1).trans rfl
          have hcz16_2 : wr.cell? ⟨gb162, 2, none⟩ = some (.string a0_2) := (blk_cell BK162.out 2).trans rfl
          have hcz16_3 : wr.cell? ⟨gb162, 3, none⟩ = some (.int .i64 a0_3) := (blk_cell BK162.out 3).trans rfl
          have hcz16_4 : wr.cell? ⟨gb162, 4, none⟩ = some (.int .i64 a0_4) := (blk_cell BK162.out 4).trans rfl
          have hcz16_5 : wr.cell? ⟨gb162, 5, none⟩ = some (.int .i64 a0_5) := (blk_cell BK162.out 5).trans rfl
          have hcz16_6 : wr.cell? ⟨gb162, 6, none⟩ = some (.int .i64 a0_6) := (blk_cell BK162.out 6).trans rfl
          have hcz16_7 : wr.cell? ⟨gb162, 7, none⟩ = some (.slice A0_7 l0_7.length c0_7) := (blk_cell BK162.out 7).trans rfl
          have hfz16_0 := blk_frozen BK162.out 0
          have hfz16_1 := blk_frozen BK162.out 1
          have hfz16_2 := blk_frozen BK162.out 2
          have hfz16_3 := blk_frozen BK162.out 3
          have hfz16_4 := blk_frozen BK162.out 4
          have hfz16_5 := blk_frozen BK162.out 5
          have hfz16_6 := blk_frozen BK162.out 6
          have hfz16_7 := blk_frozen BK162.out 7
          have p163 : 0 ≤ (x3_2 : Int) := of_decide_eq_true (by first | (with_reducible assumption) | assumption)
          have q163 : x3_2 < (l0_7.length : Int) := of_decide_eq_true (by first | (with_reducible assumption) | assumption)
          obtain ⟨ad163, A163_7, c163_7, e163, hx163_0, hx163_1, hx163_2, hx163_3, hx163_4, hx163_5, hx163_6, hx163_7, hl163_7, hi163_7⟩ := at_T51 HR0_7.out x3_2 p163 q163
          cases e163
          replace hx163_0 := (HB.out.cell (World.block_lt_of_cell? w _ hx163_0)).trans hx163_0
          replace hx163_1 := (HB.out.cell (World.block_lt_of_cell? w _ hx163_1)).trans hx163_1
          replace hx163_2 := (HB.out.cell (World.block_lt_of_cell? w _ hx163_2)).trans hx163_2
          replace hx163_3 := (HB.out.cell (World.block_lt_of_cell? w _ hx163_3)).trans hx163_3
          replace hx163_4 := (HB.out.cell (World.block_lt_of_cell? w _ hx163_4)).trans hx163_4
          replace hx163_5 := (HB.out.cell (World.block_lt_of_cell? w _ hx163_5)).trans hx163_5
          replace hx163_6 := (HB.out.cell (World.block_lt_of_cell? w _ hx163_6)).trans hx163_6
          replace hx163_7 := (HB.out.cell (World.block_lt_of_cell? w _ hx163_7)).trans hx163_7
          have HR163_7 := Aside0.mk hi163_7
          have HC163_7 := Aside0.mk hl163_7
          clear hi163_7 hl163_7
          replace p163 := eq_true p163
          replace q163 := eq_true q163
          go_wp2_with (first | ((with_reducible refine gate_callee (f := 19) rfl ?_); refine goesL_ (some 34) rfl rfl Try.func19 (by kernel_rfl) rfl #[.agg #[.int .u8 ((rd_T51 l0_7 x3_2).f0), .int .u8 ((rd_T51 l0_7 x3_2).f1.f0), .string ((rd_T51 l0_7 x3_2).f1.f1), .int .i64 ((rd_T51 l0_7 x3_2).f1.f2.f0), .int .i64 ((rd_T51 l0_7 x3_2).f1.f2.f1), .int .i64 ((rd_T51 l0_7 x3_2).f1.f2.f2), .int .i64 ((rd_T51 l0_7 x3_2).f1.f3), .slice A163_7 ((rd_T51 l0_7 x3_2).f2).length c163_7]] rfl (by (try simp only [List.map_toArray, List.map_cons, List.map_nil]); first | done | rfl | (simp only [List.length_drop, List.length_take]; rfl)) ?_; (with_reducible refine (ih k2 (by have := HJ4.out; have := HK2.out; omega) ((rd_T51 l0_7 x3_2).f0) ((rd_T51 l0_7 x3_2).f1.f0) ((rd_T51 l0_7 x3_2).f1.f1) ((rd_T51 l0_7 x3_2).f1.f2.f0) ((rd_T51 l0_7 x3_2).f1.f2.f1) ((rd_T51 l0_7 x3_2).f1.f2.f2) ((rd_T51 l0_7 x3_2).f1.f3) _ _ ((rd_T51 l0_7 x3_2).f2) true _ ?side1 ?side2 A14.out).mono ?_); (case side1 => repeat (first | exact (Kd.C_below HR163_7.out HB.out) | (with_reducible refine Kd.C_alloc ?_ _) | (with_reducible refine Kd.C_drewN ?_ _) | (with_reducible refine Kd.C_drew ?_))); (case side2 => exact HC163_7.out); rintro e w17 ⟨rfl, hb⟩; refine ⟨_, rfl, ?_⟩; have n0_ := Aside0.mk (blk_below (g := gb162) (o := .cells #[.int .u8 a0_0, .int .u8 a0_1, .string a0_2, .int .i64 a0_3, .int .i64 a0_4, .int .i64 a0_5, .int .i64 a0_6, .slice (some ad163) l0_7.length c0_7] 51 (0, 0)) (by (with_reducible repeat (first | refine blk_drewN ?_ _ | refine blk_drew ?_ | refine blk_alloc ?_ _)); exact BK162.out) hb); have n1_ := Aside0.mk (below_step (by repeat (first | (with_reducible first | exact HB.out | apply below_alloc | apply pw_below_drewN | apply below_drew1 | refine below_set ?_ GE162.out) | exact HB.out)) hb); clear BK162; clear HB; have BK162 := n0_; have HB := n1_; clear n0_ n1_; (try clear hb); (try clear hb2); (try clear hk); (try clear hi)))
          go_roundg k2
          case measure => have := HJ4.out; have := HK2.out; omega
          case rel => exact ⟨(wrap64 (x3_2 + 1)), (by first | rfl | (simp; done) | (simp [*]; done)), H', ⟨by have := HJ4.out; have := HK2.out; omega⟩, ⟨by (with_reducible repeat (first | refine blk_drewN ?_ _ | refine blk_drew ?_ | refine blk_alloc ?_ _)); exact BK162.out⟩, ⟨by repeat (first | (with_reducible first | exact HB.out | apply below_alloc | apply pw_below_drewN | apply below_drew1 | refine below_set ?_ GE162.out) | exact HB.out)⟩⟩
         ·replace c15 := Bool.eq_false_iff.mpr c15
          subst c15
          have H1 : (some false) = some r := by rw [if_neg (show ¬ (false = true) by decide)] at H; exact H
          clear H
          have H := H1
          clear H1
          obtain rfl := Option.some.inj H
          have hcz18_0 : wr.cell? ⟨gb162, 0, none⟩ = some (.int .u8 a0_0) := (blk_cell BK162.out 0).trans rfl
          have hcz18_1 : wr.cell? ⟨gb162, 1, none⟩ = some (.int .u8 a0_1) := (blk_cell BK162.out 1).trans rfl
          have hcz18_2 : wr.cell? ⟨gb162, 2, none⟩ = some (.string a0_2) := (blk_cell BK162.out 2).trans rfl
          have hcz18_3 : wr.cell? ⟨gb162, 3, none⟩ = some (.int .i64 a0_3) := (blk_cell BK162.out 3).trans rfl
          have hcz18_4 : wr.cell? ⟨gb162, 4, none⟩ = some (.int .i64 a0_4) := (blk_cell BK162.out 4).trans rfl
          have hcz18_5 : wr.cell? ⟨gb162, 5, none⟩ = some (.int .i64 a0_5) := (blk_cell BK162.out 5).trans rfl
          have hcz18_6 : wr.cell? ⟨gb162, 6, none⟩ = some (.int .i64 a0_6) := (blk_cell BK162.out 6).trans rfl
          have hcz18_7 : wr.cell? ⟨gb162, 7, none⟩ = some (.slice A0_7 l0_7.length c0_7) := (blk_cell BK162.out 7).trans rfl
          have hfz18_0 := blk_frozen BK162.out 0
          have hfz18_1 := blk_frozen BK162.out 1
          have hfz18_2 := blk_frozen BK162.out 2
          have hfz18_3 := blk_frozen BK162.out 3
          have hfz18_4 := blk_frozen BK162.out 4
          have hfz18_5 := blk_frozen BK162.out 5
          have hfz18_6 := blk_frozen BK162.out 6
          have hfz18_7 := blk_frozen BK162.out 7
          have p163 : 0 ≤ (x3_2 : Int) := of_decide_eq_true (by first | (with_reducible assumption) | assumption)
          have q163 : x3_2 < (l0_7.length : Int) := of_decide_eq_true (by first | (with_reducible assumption) | assumption)
          obtain ⟨ad163, A163_7, c163_7, e163, hx163_0, hx163_1, hx163_2, hx163_3, hx163_4, hx163_5, hx163_6, hx163_7, hl163_7, hi163_7⟩ := at_T51 HR0_7.out x3_2 p163 q163
          cases e163
          replace hx163_0 := (HB.out.cell (World.block_lt_of_cell? w _ hx163_0)).trans hx163_0
          replace hx163_1 := (HB.out.cell (World.block_lt_of_cell? w _ hx163_1)).trans hx163_1
          replace hx163_2 := (HB.out.cell (World.block_lt_of_cell? w _ hx163_2)).trans hx163_2
          replace hx163_3 := (HB.out.cell (World.block_lt_of_cell? w _ hx163_3)).trans hx163_3
          replace hx163_4 := (HB.out.cell (World.block_lt_of_cell? w _ hx163_4)).trans hx163_4
          replace hx163_5 := (HB.out.cell (World.block_lt_of_cell? w _ hx163_5)).trans hx163_5
          replace hx163_6 := (HB.out.cell (World.block_lt_of_cell? w _ hx163_6)).trans hx163_6
          replace hx163_7 := (HB.out.cell (World.block_lt_of_cell? w _ hx163_7)).trans hx163_7
          have HR163_7 := Aside0.mk hi163_7
          have HC163_7 := Aside0.mk hl163_7
          clear hi163_7 hl163_7
          replace p163 := eq_true p163
          replace q163 := eq_true q163
          go_wp2_with (first | ((with_reducible refine gate_callee (f := 19) rfl ?_); refine goesL_ (some 34) rfl rfl Try.func19 (by kernel_rfl) rfl #[.agg #[.int .u8 ((rd_T51 l0_7 x3_2).f0), .int .u8 ((rd_T51 l0_7 x3_2).f1.f0), .string ((rd_T51 l0_7 x3_2).f1.f1), .int .i64 ((rd_T51 l0_7 x3_2).f1.f2.f0), .int .i64 ((rd_T51 l0_7 x3_2).f1.f2.f1), .int .i64 ((rd_T51 l0_7 x3_2).f1.f2.f2), .int .i64 ((rd_T51 l0_7 x3_2).f1.f3), .slice A163_7 ((rd_T51 l0_7 x3_2).f2).length c163_7]] rfl (by (try simp only [List.map_toArray, List.map_cons, List.map_nil]); first | done | rfl | (simp only [List.length_drop, List.length_take]; rfl)) ?_; (with_reducible refine (ih k2 (by have := HJ4.out; have := HK2.out; omega) ((rd_T51 l0_7 x3_2).f0) ((rd_T51 l0_7 x3_2).f1.f0) ((rd_T51 l0_7 x3_2).f1.f1) ((rd_T51 l0_7 x3_2).f1.f2.f0) ((rd_T51 l0_7 x3_2).f1.f2.f1) ((rd_T51 l0_7 x3_2).f1.f2.f2) ((rd_T51 l0_7 x3_2).f1.f3) _ _ ((rd_T51 l0_7 x3_2).f2) false _ ?side1 ?side2 A14.out).mono ?_); (case side1 => repeat (first | exact (Kd.C_below HR163_7.out HB.out) | (with_reducible refine Kd.C_alloc ?_ _) | (with_reducible refine Kd.C_drewN ?_ _) | (with_reducible refine Kd.C_drew ?_))); (case side2 => exact HC163_7.out); rintro e w19 ⟨rfl, hb⟩; refine ⟨_, rfl, ?_⟩; have n0_ := Aside0.mk (blk_below (g := gb162) (o := .cells #[.int .u8 a0_0, .int .u8 a0_1, .string a0_2, .int .i64 a0_3, .int .i64 a0_4, .int .i64 a0_5, .int .i64 a0_6, .slice (some ad163) l0_7.length c0_7] 51 (0, 0)) (by (with_reducible repeat (first | refine blk_drewN ?_ _ | refine blk_drew ?_ | refine blk_alloc ?_ _)); exact BK162.out) hb); have n1_ := Aside0.mk (below_step (by repeat (first | (with_reducible first | exact HB.out | apply below_alloc | apply pw_below_drewN | apply below_drew1 | refine below_set ?_ GE162.out) | exact HB.out)) hb); clear BK162; clear HB; have BK162 := n0_; have HB := n1_; clear n0_ n1_; (try clear hb); (try clear hb2); (try clear hk); (try clear hi)))
          go_ret
          exact ⟨by first | rfl | (simp [errW_none, errW_some] <;> rfl) | (simp [*, errW_none, errW_some] <;> rfl), by repeat (first | (with_reducible first | exact HB.out | apply below_alloc | apply pw_below_drewN | apply below_drew1 | refine below_set ?_ GE162.out) | exact HB.out)⟩
        ·rw [if_neg c13] at H
         exact absurd H (by simp)
       ·rw [if_neg c12] at H
        have c12b0 : decide (x3_2 < (l0_7.length : Int)) = false := decide_eq_false c12
        clear c12
        obtain rfl := Option.some.inj H
        have hcz20_0 : wr.cell? ⟨gb162, 0, none⟩ = some (.int .u8 a0_0) := (blk_cell BK162.out 0).trans rfl
        have hcz20_1 : wr.cell? ⟨gb162, 1, none⟩ = some (.int .u8 a0_1) := (blk_cell BK162.out 1).trans rfl
        have hcz20_2 : wr.cell? ⟨gb162, 2, none⟩ = some (.string a0_2) := (blk_cell BK162.out 2).trans rfl
        have hcz20_3 : wr.cell? ⟨gb162, 3, none⟩ = some (.int .i64 a0_3) := (blk_cell BK162.out 3).trans rfl
        have hcz20_4 : wr.cell? ⟨gb162, 4, none⟩ = some (.int .i64 a0_4) := (blk_cell BK162.out 4).trans rfl
        have hcz20_5 : wr.cell? ⟨gb162, 5, none⟩ = some (.int .i64 a0_5) := (blk_cell BK162.out 5).trans rfl
        have hcz20_6 : wr.cell? ⟨gb162, 6, none⟩ = some (.int .i64 a0_6) := (blk_cell BK162.out 6).trans rfl
        have hcz20_7 : wr.cell? ⟨gb162, 7, none⟩ = some (.slice A0_7 l0_7.length c0_7) := (blk_cell BK162.out 7).trans rfl
        have hfz20_0 := blk_frozen BK162.out 0
        have hfz20_1 := blk_frozen BK162.out 1
        have hfz20_2 := blk_frozen BK162.out 2
        have hfz20_3 := blk_frozen BK162.out 3
        have hfz20_4 := blk_frozen BK162.out 4
        have hfz20_5 := blk_frozen BK162.out 5
        have hfz20_6 := blk_frozen BK162.out 6
        have hfz20_7 := blk_frozen BK162.out 7
        go_wp2
        go_ret
        exact ⟨by first | rfl | (simp [errW_none, errW_some] <;> rfl) | (simp [*, errW_none, errW_some] <;> rfl), by repeat (first | (with_reducible first | exact HB.out | apply below_alloc | apply pw_below_drewN | apply below_drew1 | refine below_set ?_ GE162.out) | exact HB.out)⟩


mutual
def tree_Depth.l0 : Nat → Int → List (S51) → Int → Int → Option (Int)
 | 0, _, _, _, _ => none
 | k + 1, x3, x10, x11, x12 => if x12 < x11 then (if 0 ≤ x12 then (if x12 < (x10.length : Int) then ((tree_Depth.f k ((rd_T51 x10 x12).f0) ((rd_T51 x10 x12).f1.f0) ((rd_T51 x10 x12).f1.f1) ((rd_T51 x10 x12).f1.f2.f0) ((rd_T51 x10 x12).f1.f2.f1) ((rd_T51 x10 x12).f1.f2.f2) ((rd_T51 x10 x12).f1.f3) ((rd_T51 x10 x12).f2)).bind fun t170 => (tree_Depth.l0 k (mx x3 t170) x10 x11 (wrap64 (x12 + 1)))) else (none)) else (none)) else (some (wrap64 (x3 + 1)))
def tree_Depth.f : Nat → Int → Int → ByteArray → Int → Int → Int → Int → List (S51) → Option (Int)
 | 0, _, _, _, _, _, _, _, _ => none
 | k + 1, a0_0, a0_1, a0_2, a0_3, a0_4, a0_5, a0_6, l0_7 => if a0_0 = 0 then (some 0) else (tree_Depth.l0 k 0 l0_7 (l0_7.length : Int) 0)
end
theorem tree_Depth.mono_l : ∀ k, (∀ y0 y1 y2 y3 y4 y5 y6 y7, LeO (tree_Depth.f k y0 y1 y2 y3 y4 y5 y6 y7) (tree_Depth.f (k + 1) y0 y1 y2 y3 y4 y5 y6 y7)) ∧ (∀ y0 y1 y2 y3, LeO (tree_Depth.l0 k y0 y1 y2 y3) (tree_Depth.l0 (k + 1) y0 y1 y2 y3))
 | 0 => ⟨fun _ _ _ _ _ _ _ _ r h => by simp [tree_Depth.f] at h, fun _ _ _ _ r h => by simp [tree_Depth.l0] at h⟩
 | k + 1 => by
  obtain ⟨ih0, ih1⟩ := tree_Depth.mono_l k
  refine ⟨?_, ?_⟩
  ·intro y0 y1 y2 y3 y4 y5 y6 y7
   unfold tree_Depth.f
   repeat' first
   | (with_reducible exact ih0 _ _ _ _ _ _ _ _)
   | (with_reducible exact ih1 _ _ _ _)
   | (with_reducible exact LeO.refl _)
   | (with_reducible exact LeO.none _)
   | (with_reducible refine LeO.ite ?_ ?_)
   | (with_reducible refine LeO.bind ?_ (fun _ => ?_))
   | exact ih0 _ _ _ _ _ _ _ _
   | exact ih1 _ _ _ _
   | exact LeO.none _
   | refine LeO.ite ?_ ?_
   | refine LeO.bind ?_ (fun _ => ?_)
  ·intro y0 y1 y2 y3
   unfold tree_Depth.l0
   repeat' first
   | (with_reducible exact ih0 _ _ _ _ _ _ _ _)
   | (with_reducible exact ih1 _ _ _ _)
   | (with_reducible exact LeO.refl _)
   | (with_reducible exact LeO.none _)
   | (with_reducible refine LeO.ite ?_ ?_)
   | (with_reducible refine LeO.bind ?_ (fun _ => ?_))
   | exact ih0 _ _ _ _ _ _ _ _
   | exact ih1 _ _ _ _
   | exact LeO.none _
   | refine LeO.ite ?_ ?_
   | refine LeO.bind ?_ (fun _ => ?_)
theorem tree_Depth.mono : ∀ a0 a1 a2 a3 a4 a5 a6 a7 k, LeO (tree_Depth.f k a0 a1 a2 a3 a4 a5 a6 a7) (tree_Depth.f (k + 1) a0 a1 a2 a3 a4 a5 a6 a7) := by
 intro a0 a1 a2 a3 a4 a5 a6 a7 k
 obtain ⟨ih0, ih1⟩ := tree_Depth.mono_l k
 exact ih0 a0 a1 a2 a3 a4 a5 a6 a7
set_option maxHeartbeats 8000000 in
set_option maxRecDepth 100000 in
theorem tree_Depth.calls (k : Nat) : ∀ (a0_0 : Int) (a0_1 : Int) (a0_2 : ByteArray) (a0_3 : Int) (a0_4 : Int) (a0_5 : Int) (a0_6 : Int) (A0_7 : Option Addr) (c0_7 : Nat) (l0_7 : List (S51)) (r : Int) (w : World) (hr0_7 : Kd.C k51 w A0_7 l0_7.length l0_7) (hc0_7 : l0_7.length ≤ c0_7) (h : tree_Depth.f k a0_0 a0_1 a0_2 a0_3 a0_4 a0_5 a0_6 l0_7 = some r),
  Calls Try.prog 21 #[.agg #[.int .u8 a0_0, .int .u8 a0_1, .string a0_2, .int .i64 a0_3, .int .i64 a0_4, .int .i64 a0_5, .int .i64 a0_6, .slice A0_7 l0_7.length c0_7]] w fun e w' => e = .returned (.int .i64 r) ∧ Below w.heap.size w w' := by
 induction k using Nat.strongRecOn with
 | _ k ih =>
 intro a0_0 a0_1 a0_2 a0_3 a0_4 a0_5 a0_6 A0_7 c0_7 l0_7 r w hr0_7 hc0_7 h
 cases k with
 | zero => exact absurd h (by simp [tree_Depth.f])
 | succ k =>
 simp only [tree_Depth.f] at h
 have hu51 := Try.underlying51
 have HR0_7 := Aside0.mk hr0_7
 have HC0_7 := Aside0.mk hc0_7
 clear hr0_7 hc0_7
 have HB := Aside0.mk (Below.refl w.heap.size w)
 have H : (if a0_0 = 0 then (some 0) else (tree_Depth.l0 k 0 l0_7 (l0_7.length : Int) 0)) = some r := h
 clear h
 by_cases c2 : a0_0 = 0
 ·rw [if_pos c2] at H
  have c2b0 : (a0_0 == 0) = true := beq_iff_eq.mpr c2
  have c2b1 : (a0_0 != 0) = false := bne_eq_false_iff_eq.mpr c2
  clear c2
  obtain rfl := Option.some.inj H
  go_enter Try.func21, Try.ntmps21
  go_wp2_with (first | ((with_reducible refine gate_dst (N := 1) rfl ?_); refine box_event ?hg (N := 1) ?hd (cs := #[.int .u8 a0_0, .int .u8 a0_1, .string a0_2, .int .i64 a0_3, .int .i64 a0_4, .int .i64 a0_5, .int .i64 a0_6, .slice A0_7 l0_7.length c0_7]) (t := 51) ?hr ?_; (case hd => rfl); (case hg => rfl); (case hr => first | (go_simp; done) | (go_simp; rfl)); intro gb167 hg w3 hbox hb; have n0_ := Aside0.mk (below_step (by repeat (first | (with_reducible first | exact HB.out | apply below_alloc | apply pw_below_drewN | apply below_drew1) | exact HB.out)) hb); have n1_ := Aside0.mk (hbox); have n2_ := Aside0.mk ((by rw [hg]; exact (below_size (by repeat (first | (with_reducible first | exact HB.out | apply below_alloc | apply pw_below_drewN | apply below_drew1) | exact HB.out))) : w.heap.size ≤ gb167)); have n3_ := Aside0.mk ((by rw [hg]; exact (below_size (by repeat (first | (with_reducible first | exact HB.out | apply below_alloc | apply pw_below_drewN | apply below_drew1) | exact HB.out))) : w.heap.size ≤ gb167)); clear HB; have HB := n0_; have BK167 := n1_; have GW167 := n2_; have GE167 := n3_; clear n0_ n1_ n2_ n3_; clear hb hbox hg; have hcz4_0 : w3.cell? ⟨gb167, 0, none⟩ = some (.int .u8 a0_0) := (blk_cell BK167.out 0).trans rfl; have hcz4_1 : w3.cell? ⟨gb167, 1, none⟩ = some (.int .u8 a0_1) := (blk_cell BK167.out 1).trans rfl; have hcz4_2 : w3.cell? ⟨gb167, 2, none⟩ = some (.string a0_2) := (blk_cell BK167.out 2).trans rfl; have hcz4_3 : w3.cell? ⟨gb167, 3, none⟩ = some (.int .i64 a0_3) := (blk_cell BK167.out 3).trans rfl; have hcz4_4 : w3.cell? ⟨gb167, 4, none⟩ = some (.int .i64 a0_4) := (blk_cell BK167.out 4).trans rfl; have hcz4_5 : w3.cell? ⟨gb167, 5, none⟩ = some (.int .i64 a0_5) := (blk_cell BK167.out 5).trans rfl; have hcz4_6 : w3.cell? ⟨gb167, 6, none⟩ = some (.int .i64 a0_6) := (blk_cell BK167.out 6).trans rfl; have hcz4_7 : w3.cell? ⟨gb167, 7, none⟩ = some (.slice A0_7 l0_7.length c0_7) := (blk_cell BK167.out 7).trans rfl; have hfz4_0 := blk_frozen BK167.out 0; have hfz4_1 := blk_frozen BK167.out 1; have hfz4_2 := blk_frozen BK167.out 2; have hfz4_3 := blk_frozen BK167.out 3; have hfz4_4 := blk_frozen BK167.out 4; have hfz4_5 := blk_frozen BK167.out 5; have hfz4_6 := blk_frozen BK167.out 6; have hfz4_7 := blk_frozen BK167.out 7))
  go_ret
  exact ⟨by first | rfl | (simp [errW_none, errW_some] <;> rfl) | (simp [*, errW_none, errW_some] <;> rfl), by repeat (first | (with_reducible first | exact HB.out | apply below_alloc | apply pw_below_drewN | apply below_drew1 | refine below_set ?_ GE167.out) | exact HB.out)⟩
 ·rw [if_neg c2] at H
  have c2b0 : (a0_0 == 0) = false := beq_eq_false_iff_ne.mpr c2
  have c2b1 : (a0_0 != 0) = true := bne_iff_ne.mpr c2
  have H' := Aside0.mk H
  clear H
  go_enter Try.func21, Try.ntmps21
  go_wp2_with (first | ((with_reducible refine gate_dst (N := 1) rfl ?_); refine box_event ?hg (N := 1) ?hd (cs := #[.int .u8 a0_0, .int .u8 a0_1, .string a0_2, .int .i64 a0_3, .int .i64 a0_4, .int .i64 a0_5, .int .i64 a0_6, .slice A0_7 l0_7.length c0_7]) (t := 51) ?hr ?_; (case hd => rfl); (case hg => rfl); (case hr => first | (go_simp; done) | (go_simp; rfl)); intro gb167 hg w5 hbox hb; have n0_ := Aside0.mk (below_step (by repeat (first | (with_reducible first | exact HB.out | apply below_alloc | apply pw_below_drewN | apply below_drew1) | exact HB.out)) hb); have n1_ := Aside0.mk (hbox); have n2_ := Aside0.mk ((by rw [hg]; exact (below_size (by repeat (first | (with_reducible first | exact HB.out | apply below_alloc | apply pw_below_drewN | apply below_drew1) | exact HB.out))) : w.heap.size ≤ gb167)); have n3_ := Aside0.mk ((by rw [hg]; exact (below_size (by repeat (first | (with_reducible first | exact HB.out | apply below_alloc | apply pw_below_drewN | apply below_drew1) | exact HB.out))) : w.heap.size ≤ gb167)); clear HB; have HB := n0_; have BK167 := n1_; have GW167 := n2_; have GE167 := n3_; clear n0_ n1_ n2_ n3_; clear hb hbox hg; have hcz6_0 : w5.cell? ⟨gb167, 0, none⟩ = some (.int .u8 a0_0) := (blk_cell BK167.out 0).trans rfl; have hcz6_1 : w5.cell? ⟨gb167, 1, none⟩ = some (.int .u8 a0_1) := (blk_cell BK167.out 1).trans rfl; have hcz6_2 : w5.cell? ⟨gb167, 2, none⟩ = some (.string a0_2) := (blk_cell BK167.out 2).trans rfl; have hcz6_3 : w5.cell? ⟨gb167, 3, none⟩ = some (.int .i64 a0_3) := (blk_cell BK167.out 3).trans rfl; have hcz6_4 : w5.cell? ⟨gb167, 4, none⟩ = some (.int .i64 a0_4) := (blk_cell BK167.out 4).trans rfl; have hcz6_5 : w5.cell? ⟨gb167, 5, none⟩ = some (.int .i64 a0_5) := (blk_cell BK167.out 5).trans rfl; have hcz6_6 : w5.cell? ⟨gb167, 6, none⟩ = some (.int .i64 a0_6) := (blk_cell BK167.out 6).trans rfl; have hcz6_7 : w5.cell? ⟨gb167, 7, none⟩ = some (.slice A0_7 l0_7.length c0_7) := (blk_cell BK167.out 7).trans rfl; have hfz6_0 := blk_frozen BK167.out 0; have hfz6_1 := blk_frozen BK167.out 1; have hfz6_2 := blk_frozen BK167.out 2; have hfz6_3 := blk_frozen BK167.out 3; have hfz6_4 := blk_frozen BK167.out 4; have hfz6_5 := blk_frozen BK167.out 5; have hfz6_6 := blk_frozen BK167.out 6; have hfz6_7 := blk_frozen BK167.out 7))
  go_loopg [3, 12] k (fun kq v3 v12 w' => ∃ (x3_1 : Int) (x12_1 : Int), v3 = .int .i64 x3_1 ∧ v12 = .int .i64 x12_1 ∧ Aside0 (tree_Depth.l0 kq x3_1 l0_7 (l0_7.length : Int) x12_1 = some r) ∧ Aside0 (kq ≤ k) ∧ Aside0 (w'.heap[gb167]? = some (.cells #[.int .u8 a0_0, .int .u8 a0_1, .string a0_2, .int .i64 a0_3, .int .i64 a0_4, .int .i64 a0_5, .int .i64 a0_6, (.slice A0_7 l0_7.length c0_7)] 51 (0, 0))) ∧ Aside0 (Below w.heap.size w w'))
  case atStart => exact ⟨(0), (0), (by first | rfl | (simp; done) | (simp [*]; done)), (by first | rfl | (simp; done) | (simp [*]; done)), H', ⟨Nat.le_refl _⟩, ⟨by (with_reducible repeat (first | refine blk_drewN ?_ _ | refine blk_drew ?_ | refine blk_alloc ?_ _)); exact BK167.out⟩, ⟨by repeat (first | (with_reducible first | exact HB.out | apply below_alloc | apply pw_below_drewN | apply below_drew1 | refine below_set ?_ GE167.out) | exact HB.out)⟩⟩
  case round =>
   clear H'
   try clear c2
   try clear c2b0
   try clear c2b1
   try clear p2
   try clear hcz4_0
   try clear hcz4_1
   try clear hcz4_2
   try clear hcz4_3
   try clear hcz4_4
   try clear hcz4_5
   try clear hcz4_6
   try clear hcz4_7
   try clear hcz6_0
   try clear hcz6_1
   try clear hcz6_2
   try clear hcz6_3
   try clear hcz6_4
   try clear hcz6_5
   try clear hcz6_6
   try clear hcz6_7
   try clear hfz4_0
   try clear hfz4_1
   try clear hfz4_2
   try clear hfz4_3
   try clear hfz4_4
   try clear hfz4_5
   try clear hfz4_6
   try clear hfz4_7
   try clear hfz6_0
   try clear hfz6_1
   try clear hfz6_2
   try clear hfz6_3
   try clear hfz6_4
   try clear hfz6_5
   try clear hfz6_6
   try clear hfz6_7
   obtain ⟨x3_1, x12_1, rfl, rfl, HA, HK1, BK167, HB⟩ := hrel
   cases gk with
   | zero => exact absurd HA.out (by simp [tree_Depth.l0])
   | succ k1 =>
    have H := HA.out
    clear HA
    simp only [tree_Depth.l0] at H
    by_cases c7 : x12_1 < (l0_7.length : Int)
    ·rw [if_pos c7] at H
     have c7b0 : decide (x12_1 < (l0_7.length : Int)) = true := decide_eq_true c7
     clear c7
     by_cases c8 : 0 ≤ x12_1
     ·rw [if_pos c8] at H
      have c8b0 : decide (0 ≤ x12_1) = true := decide_eq_true c8
      clear c8
      by_cases c9 : x12_1 < (l0_7.length : Int)
      ·rw [if_pos c9] at H
       have c9b0 : decide (x12_1 < (l0_7.length : Int)) = true := decide_eq_true c9
       clear c9
       replace H := Option.bind_eq_some_iff.mp H
       obtain ⟨t170, A100, H⟩ := H
       replace H : (tree_Depth.l0 k1 (mx x3_1 t170) l0_7 (l0_7.length : Int) (wrap64 (x12_1 + 1))) = some r := H
       have A10 := Aside0.mk A100
       clear A100
       obtain ⟨ji11, hji11⟩ : ∃ j_ : Int, (mx x3_1 t170) = j_ := ⟨_, rfl⟩
       replace H : (tree_Depth.l0 k1 ji11 l0_7 (l0_7.length : Int) (wrap64 (x12_1 + 1))) = some r := by first | (rw [hji11] at H; exact H) | (simp only [hji11] at H ⊢; exact H)
       (try rw [hji11] at A10)
       have hji11_ : (if x3_1 < t170 then t170 else x3_1) = ji11 := hji11
       have H' := Aside0.mk H
       clear H
       have p168 : 0 ≤ (x12_1 : Int) := of_decide_eq_true (by first | (with_reducible assumption) | assumption)
       have q168 : x12_1 < (l0_7.length : Int) := of_decide_eq_true (by first | (with_reducible assumption) | assumption)
       obtain ⟨ad168, A168_7, c168_7, e168, hx168_0, hx168_1, hx168_2, hx168_3, hx168_4, hx168_5, hx168_6, hx168_7, hl168_7, hi168_7⟩ := at_T51 HR0_7.out x12_1 p168 q168
       cases e168
       replace hx168_0 := (HB.out.cell (World.block_lt_of_cell? w _ hx168_0)).trans hx168_0
       replace hx168_1 := (HB.out.cell (World.block_lt_of_cell? w _ hx168_1)).trans hx168_1
       replace hx168_2 := (HB.out.cell (World.block_lt_of_cell? w _ hx168_2)).trans hx168_2
       replace hx168_3 := (HB.out.cell (World.block_lt_of_cell? w _ hx168_3)).trans hx168_3
       replace hx168_4 := (HB.out.cell (World.block_lt_of_cell? w _ hx168_4)).trans hx168_4
       replace hx168_5 := (HB.out.cell (World.block_lt_of_cell? w _ hx168_5)).trans hx168_5
       replace hx168_6 := (HB.out.cell (World.block_lt_of_cell? w _ hx168_6)).trans hx168_6
       replace hx168_7 := (HB.out.cell (World.block_lt_of_cell? w _ hx168_7)).trans hx168_7
       have HR168_7 := Aside0.mk hi168_7
       have HC168_7 := Aside0.mk hl168_7
       clear hi168_7 hl168_7
       replace p168 := eq_true p168
       replace q168 := eq_true q168
       go_wp2_with (first | ((with_reducible refine gate_dst (N := 5) rfl ?_); refine box_event ?hg (N := 5) ?hd (cs := #[.int .u8 0, .int .u8 0, .string (⟨#[]⟩ : ByteArray), .int .i64 0, .int .i64 0, .int .i64 0, .int .i64 0, .slice none 0 0]) (t := 51) ?hr ?_; (case hd => rfl); (case hg => rfl); (case hr => first | (go_simp; done) | (go_simp; rfl)); intro gb169 hg w12 hbox hb; have n0_ := Aside0.mk (blk_below (g := gb167) (o := .cells #[.int .u8 a0_0, .int .u8 a0_1, .string a0_2, .int .i64 a0_3, .int .i64 a0_4, .int .i64 a0_5, .int .i64 a0_6, .slice (some ad168) l0_7.length c0_7] 51 (0, 0)) (by (with_reducible repeat (first | refine blk_drewN ?_ _ | refine blk_drew ?_ | refine blk_alloc ?_ _)); exact BK167.out) hb); have n1_ := Aside0.mk (below_step (by repeat (first | (with_reducible first | exact HB.out | apply below_alloc | apply pw_below_drewN | apply below_drew1 | refine below_set ?_ GE167.out) | exact HB.out)) hb); have n2_ := Aside0.mk (hbox); have n3_ := Aside0.mk ((by rw [hg]; exact (below_size (by repeat (first | (with_reducible first | exact HB.out | apply below_alloc | apply pw_below_drewN | apply below_drew1 | refine below_set ?_ GE167.out) | exact HB.out))) : w.heap.size ≤ gb169)); have n4_ := Aside0.mk ((by rw [hg]; exact (below_size (by repeat (first | (with_reducible first | exact HB.out | apply below_alloc | apply pw_below_drewN | apply below_drew1 | refine below_set ?_ GE167.out) | exact HB.out))) : w.heap.size ≤ gb169)); have n5_ := Aside0.mk ((by rw [hg]; exact Nat.ne_of_lt (blk_lt (g := gb167) (o := .cells #[.int .u8 a0_0, .int .u8 a0_1, .string a0_2, .int .i64 a0_3, .int .i64 a0_4, .int .i64 a0_5, .int .i64 a0_6, .slice (some ad168) l0_7.length c0_7] 51 (0, 0)) (by (with_reducible repeat (first | refine blk_drewN ?_ _ | refine blk_drew ?_ | refine blk_alloc ?_ _)); exact BK167.out)) : gb167 ≠ gb169)); have n6_ := Aside0.mk ((by rw [hg]; exact Nat.ne_of_gt (blk_lt (g := gb167) (o := .cells #[.int .u8 a0_0, .int .u8 a0_1, .string a0_2, .int .i64 a0_3, .int .i64 a0_4, .int .i64 a0_5, .int .i64 a0_6, .slice (some ad168) l0_7.length c0_7] 51 (0, 0)) (by (with_reducible repeat (first | refine blk_drewN ?_ _ | refine blk_drew ?_ | refine blk_alloc ?_ _)); exact BK167.out)) : gb169 ≠ gb167)); clear BK167; clear HB; have BK167 := n0_; have HB := n1_; have BK169 := n2_; have GW169 := n3_; have GE169 := n4_; have NB167_169 := n5_; have NB169_167 := n6_; clear n0_ n1_ n2_ n3_ n4_ n5_ n6_; clear hb hbox hg; have hnb13 := NB169_167.out; have hnc13 := NB167_169.out; have hcz14_0 : w12.cell? ⟨gb169, 0, none⟩ = some (.int .u8 0) := (blk_cell BK169.out 0).trans rfl; have hcz14_1 : w12.cell? ⟨gb169, 1, none⟩ = some (.int .u8 0) := (blk_cell BK169.out 1).trans rfl; have hcz14_2 : w12.cell? ⟨gb169, 2, none⟩ = some (.string (⟨#[]⟩ : ByteArray)) := (blk_cell BK169.out 2).trans rfl; have hcz14_3 : w12.cell? ⟨gb169, 3, none⟩ = some (.int .i64 0) := (blk_cell BK169.out 3).trans rfl; have hcz14_4 : w12.cell? ⟨gb169, 4, none⟩ = some (.int .i64 0) := (blk_cell BK169.out 4).trans rfl; have hcz14_5 : w12.cell? ⟨gb169, 5, none⟩ = some (.int .i64 0) := (blk_cell BK169.out 5).trans rfl; have hcz14_6 : w12.cell? ⟨gb169, 6, none⟩ = some (.int .i64 0) := (blk_cell BK169.out 6).trans rfl; have hcz14_7 : w12.cell? ⟨gb169, 7, none⟩ = some (.slice none 0 0) := (blk_cell BK169.out 7).trans rfl; have hfz14_0 := blk_frozen BK169.out 0; have hfz14_1 := blk_frozen BK169.out 1; have hfz14_2 := blk_frozen BK169.out 2; have hfz14_3 := blk_frozen BK169.out 3; have hfz14_4 := blk_frozen BK169.out 4; have hfz14_5 := blk_frozen BK169.out 5; have hfz14_6 := blk_frozen BK169.out 6; have hfz14_7 := blk_frozen BK169.out 7) | ((with_reducible refine gate_callee (f := 21) rfl ?_); refine goesL_ (some 18) rfl rfl Try.func21 (by kernel_rfl) rfl #[.agg #[.int .u8 ((rd_T51 l0_7 x12_1).f0), .int .u8 ((rd_T51 l0_7 x12_1).f1.f0), .string ((rd_T51 l0_7 x12_1).f1.f1), .int .i64 ((rd_T51 l0_7 x12_1).f1.f2.f0), .int .i64 ((rd_T51 l0_7 x12_1).f1.f2.f1), .int .i64 ((rd_T51 l0_7 x12_1).f1.f2.f2), .int .i64 ((rd_T51 l0_7 x12_1).f1.f3), .slice A168_7 ((rd_T51 l0_7 x12_1).f2).length c168_7]] rfl (by (try simp only [List.map_toArray, List.map_cons, List.map_nil]); first | done | rfl | (simp only [List.length_drop, List.length_take]; rfl)) ?_; (with_reducible refine (ih k1 (by have := HK1.out; omega) ((rd_T51 l0_7 x12_1).f0) ((rd_T51 l0_7 x12_1).f1.f0) ((rd_T51 l0_7 x12_1).f1.f1) ((rd_T51 l0_7 x12_1).f1.f2.f0) ((rd_T51 l0_7 x12_1).f1.f2.f1) ((rd_T51 l0_7 x12_1).f1.f2.f2) ((rd_T51 l0_7 x12_1).f1.f3) _ _ ((rd_T51 l0_7 x12_1).f2) t170 _ ?side1 ?side2 A10.out).mono ?_); (case side1 => exact Kd.C_below HR168_7.out (by repeat (first | (with_reducible first | exact HB.out | apply below_alloc | apply pw_below_drewN | apply below_drew1 | refine below_set ?_ GE167.out | refine below_set ?_ GE169.out) | exact HB.out))); (case side2 => exact HC168_7.out); rintro e w15 ⟨rfl, hb⟩; refine ⟨_, rfl, ?_⟩; have n0_ := Aside0.mk (blk_below (g := gb167) (o := .cells #[.int .u8 a0_0, .int .u8 a0_1, .string a0_2, .int .i64 a0_3, .int .i64 a0_4, .int .i64 a0_5, .int .i64 a0_6, .slice (some ad168) l0_7.length c0_7] 51 (0, 0)) (by (with_reducible repeat (first | refine blk_drewN ?_ _ | refine blk_drew ?_ | refine blk_alloc ?_ _)); refine blk_far ?_ NB167_169.out _; (with_reducible repeat (first | refine blk_drewN ?_ _ | refine blk_drew ?_ | refine blk_alloc ?_ _)); refine blk_far ?_ NB167_169.out _; (with_reducible repeat (first | refine blk_drewN ?_ _ | refine blk_drew ?_ | refine blk_alloc ?_ _)); refine blk_far ?_ NB167_169.out _; (with_reducible repeat (first | refine blk_drewN ?_ _ | refine blk_drew ?_ | refine blk_alloc ?_ _)); refine blk_far ?_ NB167_169.out _; (with_reducible repeat (first | refine blk_drewN ?_ _ | refine blk_drew ?_ | refine blk_alloc ?_ _)); refine blk_far ?_ NB167_169.out _; (with_reducible repeat (first | refine blk_drewN ?_ _ | refine blk_drew ?_ | refine blk_alloc ?_ _)); refine blk_far ?_ NB167_169.out _; (with_reducible repeat (first | refine blk_drewN ?_ _ | refine blk_drew ?_ | refine blk_alloc ?_ _)); refine blk_far ?_ NB167_169.out _; (with_reducible repeat (first | refine blk_drewN ?_ _ | refine blk_drew ?_ | refine blk_alloc ?_ _)); refine blk_far ?_ NB167_169.out _; (with_reducible repeat (first | refine blk_drewN ?_ _ | refine blk_drew ?_ | refine blk_alloc ?_ _)); exact BK167.out) hb); have n1_ := Aside0.mk (blk_below (g := gb169) (o := .cells #[.int .u8 ((rd_T51 l0_7 x12_1).f0), .int .u8 ((rd_T51 l0_7 x12_1).f1.f0), .string ((rd_T51 l0_7 x12_1).f1.f1), .int .i64 ((rd_T51 l0_7 x12_1).f1.f2.f0), .int .i64 ((rd_T51 l0_7 x12_1).f1.f2.f1), .int .i64 ((rd_T51 l0_7 x12_1).f1.f2.f2), .int .i64 ((rd_T51 l0_7 x12_1).f1.f3), .slice A168_7 ((rd_T51 l0_7 x12_1).f2).length c168_7] 51 (0, 0)) (by (with_reducible repeat (first | refine blk_drewN ?_ _ | refine blk_drew ?_ | refine blk_alloc ?_ _)); refine blk_put (cs := #[.int .u8 ((rd_T51 l0_7 x12_1).f0), .int .u8 ((rd_T51 l0_7 x12_1).f1.f0), .string ((rd_T51 l0_7 x12_1).f1.f1), .int .i64 ((rd_T51 l0_7 x12_1).f1.f2.f0), .int .i64 ((rd_T51 l0_7 x12_1).f1.f2.f1), .int .i64 ((rd_T51 l0_7 x12_1).f1.f2.f2), .int .i64 ((rd_T51 l0_7 x12_1).f1.f3), .slice none 0 0]) ?_ 7 _ rfl; (with_reducible repeat (first | refine blk_drewN ?_ _ | refine blk_drew ?_ | refine blk_alloc ?_ _)); refine blk_put (cs := #[.int .u8 ((rd_T51 l0_7 x12_1).f0), .int .u8 ((rd_T51 l0_7 x12_1).f1.f0), .string ((rd_T51 l0_7 x12_1).f1.f1), .int .i64 ((rd_T51 l0_7 x12_1).f1.f2.f0), .int .i64 ((rd_T51 l0_7 x12_1).f1.f2.f1), .int .i64 ((rd_T51 l0_7 x12_1).f1.f2.f2), .int .i64 0, .slice none 0 0]) ?_ 6 _ rfl; (with_reducible repeat (first | refine blk_drewN ?_ _ | refine blk_drew ?_ | refine blk_alloc ?_ _)); refine blk_put (cs := #[.int .u8 ((rd_T51 l0_7 x12_1).f0), .int .u8 ((rd_T51 l0_7 x12_1).f1.f0), .string ((rd_T51 l0_7 x12_1).f1.f1), .int .i64 ((rd_T51 l0_7 x12_1).f1.f2.f0), .int .i64 ((rd_T51 l0_7 x12_1).f1.f2.f1), .int .i64 0, .int .i64 0, .slice none 0 0]) ?_ 5 _ rfl; (with_reducible repeat (first | refine blk_drewN ?_ _ | refine blk_drew ?_ | refine blk_alloc ?_ _)); refine blk_put (cs := #[.int .u8 ((rd_T51 l0_7 x12_1).f0), .int .u8 ((rd_T51 l0_7 x12_1).f1.f0), .string ((rd_T51 l0_7 x12_1).f1.f1), .int .i64 ((rd_T51 l0_7 x12_1).f1.f2.f0), .int .i64 0, .int .i64 0, .int .i64 0, .slice none 0 0]) ?_ 4 _ rfl; (with_reducible repeat (first | refine blk_drewN ?_ _ | refine blk_drew ?_ | refine blk_alloc ?_ _)); refine blk_put (cs := #[.int .u8 ((rd_T51 l0_7 x12_1).f0), .int .u8 ((rd_T51 l0_7 x12_1).f1.f0), .string ((rd_T51 l0_7 x12_1).f1.f1), .int .i64 0, .int .i64 0, .int .i64 0, .int .i64 0, .slice none 0 0]) ?_ 3 _ rfl; (with_reducible repeat (first | refine blk_drewN ?_ _ | refine blk_drew ?_ | refine blk_alloc ?_ _)); refine blk_put (cs := #[.int .u8 ((rd_T51 l0_7 x12_1).f0), .int .u8 ((rd_T51 l0_7 x12_1).f1.f0), .string (⟨#[]⟩ : ByteArray), .int .i64 0, .int .i64 0, .int .i64 0, .int .i64 0, .slice none 0 0]) ?_ 2 _ rfl; (with_reducible repeat (first | refine blk_drewN ?_ _ | refine blk_drew ?_ | refine blk_alloc ?_ _)); refine blk_put (cs := #[.int .u8 ((rd_T51 l0_7 x12_1).f0), .int .u8 0, .string (⟨#[]⟩ : ByteArray), .int .i64 0, .int .i64 0, .int .i64 0, .int .i64 0, .slice none 0 0]) ?_ 1 _ rfl; (with_reducible repeat (first | refine blk_drewN ?_ _ | refine blk_drew ?_ | refine blk_alloc ?_ _)); refine blk_put (cs := #[.int .u8 0, .int .u8 0, .string (⟨#[]⟩ : ByteArray), .int .i64 0, .int .i64 0, .int .i64 0, .int .i64 0, .slice none 0 0]) ?_ 0 _ rfl; (with_reducible repeat (first | refine blk_drewN ?_ _ | refine blk_drew ?_ | refine blk_alloc ?_ _)); exact BK169.out) hb); have n2_ := Aside0.mk (below_step (by repeat (first | (with_reducible first | exact HB.out | apply below_alloc | apply pw_below_drewN | apply below_drew1 | refine below_set ?_ GE167.out | refine below_set ?_ GE169.out) | exact HB.out)) hb); clear BK167; clear BK169; clear HB; have BK167 := n0_; have BK169 := n1_; have HB := n2_; clear n0_ n1_ n2_; (try clear hb); (try clear hb2); (try clear hk); (try clear hi)))
       go_roundg k1
       case measure => have := HK1.out; omega
       case rel => exact ⟨(ji11), (wrap64 (x12_1 + 1)), (by first | rfl | (simp; done) | (simp only [← hji11] <;> (first | rfl | simp)) | (simp [*]; done)), (by first | rfl | (simp; done) | (simp [*]; done)), H', ⟨by have := HK1.out; omega⟩, ⟨by (with_reducible repeat (first | refine blk_drewN ?_ _ | refine blk_drew ?_ | refine blk_alloc ?_ _)); exact BK167.out⟩, ⟨by repeat (first | (with_reducible first | exact HB.out | apply below_alloc | apply pw_below_drewN | apply below_drew1 | refine below_set ?_ GE167.out | refine below_set ?_ GE169.out) | exact HB.out)⟩⟩
      ·rw [if_neg c9] at H
       exact absurd H (by simp)
     ·rw [if_neg c8] at H
      exact absurd H (by simp)
    ·rw [if_neg c7] at H
     have c7b0 : decide (x12_1 < (l0_7.length : Int)) = false := decide_eq_false c7
     clear c7
     obtain rfl := Option.some.inj H
     go_wp2
     go_ret
     exact ⟨by first | rfl | (simp [errW_none, errW_some] <;> rfl) | (simp [*, errW_none, errW_some] <;> rfl), by repeat (first | (with_reducible first | exact HB.out | apply below_alloc | apply pw_below_drewN | apply below_drew1 | refine below_set ?_ GE167.out) | exact HB.out)⟩

end Go.Proofs.Ytmjbpgnjgblnmaa.PSyntaxWhole
namespace Go.Proofs.Ytmjbpgnjgblnmaa.PSyntaxWhole
open Go.RowKit Go.Proofs.YtmjbpgnjgblnmaaW.PrintWords Go.Proofs.YtmjbpgnjgblnmaaW.PrintLast Go.Proofs.YtmjbpgnjgblnmaaW.PrintMore
attribute [local go_sem] max2_int max_two
end Go.Proofs.Ytmjbpgnjgblnmaa.PSyntaxWhole
