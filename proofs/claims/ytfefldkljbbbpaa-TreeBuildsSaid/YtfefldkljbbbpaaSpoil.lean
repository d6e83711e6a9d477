/- spoil: the walk. (Printed by gensp.py.) -/
import Derived.Test.YtfefldkljbbbpaaSpoilP
set_option linter.unusedVariables false
set_option linter.unusedSimpArgs false
namespace Go.Proofs.Ytfefldkljbbbpaa
open Go.RowKit Go.Shelf Go.Proofs.YtfefldkljbbbpaaW.PrintWords Go.Proofs.YtfefldkljbbbpaaW.PrintLast Go.Proofs.YtfefldkljbbbpaaW.PrintMore

set_option maxRecDepth 100000 in
set_option maxHeartbeats 4000000 in
theorem spoil_any : ∀ (N : Nat) (x : Nd) (A : Option Addr) (c base : Nat) (F : Nat → Prop) (w : World), nds x ≤ N → nds x ≤ 1073741824 → base ≤ w.heap.size → OwnS w base (.slice A x.f2.length c) x.f2 F →
    Calls Try.prog 12 #[.agg #[.int .u8 x.f0, .int .u8 x.f1.f0, .string x.f1.f1, .int .i64 x.f1.f2.f0, .int .i64 x.f1.f2.f1, .int .i64 x.f1.f2.f2, .int .i64 x.f1.f3, .slice A x.f2.length c]] w fun e w' => e = .returned (.tuple #[]) ∧ Spoilt (fun b => F b ∧ b < w.heap.size) w w' := by
  intro N
  induction N with
  | zero => intro x A c base F w hN; have := nds_pos x; omega
  | succ N ih =>
    intro x A c base F w hN hbig hbase hO
    have hn : x.f2.length ≤ 1073741823 := by rw [nds_eq] at hbig; have := ndsL_len x.f2; omega
    have hO2 : OwnS w base (.slice A x.f2.length c) x.f2 (fun b => F b ∧ b < w.heap.size) := ownS_mono (ownS_bound hO) (fun b hb => ⟨hb.1, hb.2.2.1⟩)
    obtain ⟨F2, hF2⟩ : ∃ F2, (fun b => F b ∧ b < w.heap.size) = F2 := ⟨_, rfl⟩
    have hlies : ∀ b, F2 b → b < w.heap.size := fun b hb => by rw [← hF2] at hb; exact hb.2
    rw [hF2] at hO2
    rw [hF2]
    obtain ⟨W0, hW0, h0, hb0, hz0⟩ := nd_new (W := w) (cs := #[.int .u8 x.f0, .int .u8 x.f1.f0, .string x.f1.f1, .int .i64 x.f1.f2.f0, .int .i64 x.f1.f2.f1, .int .i64 x.f1.f2.f2, .int .i64 x.f1.f3, .slice A x.f2.length c])
    have HI0 := Lib.hid (SInv.start hO2 hb0 hz0 h0)
    have IH := Lib.hid ih
    have HNN := Lib.hid (And.intro hN hbig)
    have HW0 := Lib.hid hW0
    have HLI := Lib.hid hlies
    have HBS := Lib.hid hbase
    clear ih hO hO2 hN hbig hW0 h0 hb0 hz0 hlies hF2 hbase
    go_enter Try.func12, Try.ntmps12
    go_upto_region 1 with (fail)
    rw [HW0.out]
    clear HW0
    go_wp2
    go_loopw [2] (fun iv wr => ∃ i : Nat, i ≤ x.f2.length ∧ iv = .int .i64 i ∧ Hid (SInv w wr base x A c F2 i)) (fun iv _ => x.f2.length - (intOf iv).toNat)
    case atStart => exact ⟨0, Nat.zero_le _, rfl, HI0⟩
    case round =>
      obtain ⟨i, hi, rfl, H⟩ := hrel
      obtain ⟨q0, q1, q2, q3, q4, q5, q6, q7⟩ := nd_box H.out.box wr (Below.refl _ _)
      by_cases hlt : i < x.f2.length
      · have dlt : decide (i < x.f2.length) = true := decide_eq_true hlt
        obtain ⟨y, hy⟩ : ∃ y, x.f2[i]? = some y := ⟨_, List.getElem?_eq_getElem hlt⟩
        obtain ⟨g, u, cells, ks, G1, G2, rfl, hk, hrow, hks, hFg, h1g, h2g, h1F, h2F⟩ := H.out.kid hlt hy
        have hko := hk.own
        obtain ⟨Au, cu, rfl⟩ := own_slice hko.choose_spec.choose_spec.1
        have hny : nds y ≤ ndsL x.f2 := ndsL_mem (List.mem_of_getElem? hy)
        have HSP := Lib.hid (IH.out y Au cu base G1 wr (by have := HNN.out.1; rw [nds_eq] at this; omega) (by have := HNN.out.2; rw [nds_eq] at this; omega) (by have := HBS.out; have := H.out.size; omega) hko)
        have c0 : wr.cell? ⟨g, i * 8, none⟩ = some (.int .u8 y.f0) := hk.at_ 0 _ rfl
        have c1 := hk.at_ 1 _ rfl
        have c2 := hk.at_ 2 _ rfl
        have c3 := hk.at_ 3 _ rfl
        have c4 := hk.at_ 4 _ rfl
        have c5 := hk.at_ 5 _ rfl
        have c6 := hk.at_ 6 _ rfl
        have c7 := hk.at_ 7 _ rfl
        have HNX := Lib.hid (fun w2 (seg : List Value) (hs : Spoilt (fun b => G1 b ∧ b < wr.heap.size) wr w2) (h8 : seg.length = 8) => H.out.next hlt hk hrow hks hFg h1g h2g h1F h2F HLI.out hs h8)
        have g1 : (0 : Int) ≤ (i : Int) := by omega
        have g2 : (i : Int) < (x.f2.length : Int) := by omega
        clear hy hk hrow hks hFg h1g h2g h1F h2F hko hny
        go_wp2_with (first
          | (go_at_call 12; refine (HSP.out).mono ?_; rintro e w2 ⟨rfl, hs2⟩; obtain ⟨hbx, ⟨cur, hcur, hfit⟩, hnx⟩ := HNX.out w2 (ndCells 77 noTk (.slice none 0 0)) hs2 rfl; have HCUR := Lib.hid hcur; have HFIT := Lib.hid hfit; have HNX2 := Lib.hid hnx; clear q0 q1 q2 q3 q4 q5 q6 q7 c0 c1 c2 c3 c4 c5 c6 c7 hs2 hcur hfit hnx; obtain ⟨q0, q1, q2, q3, q4, q5, q6, q7⟩ := nd_box hbx w2 (Below.refl _ _); clear hbx)
          | ((with_reducible refine gate_ (.store 35 (.tmp 21) (.tmp 20)) rfl ?_); refine wl_cells rfl rfl _ _ _ rfl (g := g) (off := i * 8) (.agg (ndCells 77 noTk (.slice none 0 0)).toArray) (ndCells 77 noTk (.slice none 0 0)) rfl rfl rfl infoNd8 (ndCells_one _ _ rfl) HCUR.out HFIT.out ?_; intro w3 hw3; have HI3 := Lib.hid (HNX2.out w3 hw3); clear hw3 q0 q1 q2 q3 q4 q5 q6 q7))
        go_roundw
        case rel => exact ⟨i + 1, by omega, by go_num, HI3⟩
        case measure => simp [intOf] <;> omega
      · have dlt : decide (i < x.f2.length) = false := decide_eq_false hlt
        obtain rfl : i = x.f2.length := by omega
        obtain ⟨cells, G, r2, -, r4, -⟩ := H.out.row
        have R2 := Lib.hid r2
        have R4 := Lib.hid r4
        have HS : Hid (base ≤ wr.heap.size) := Lib.hid (by have := HBS.out; have := H.out.size; omega)
        have HF : Hid ((x.f2.length + 1) * 88 ≤ 140737488355328) := Lib.hid (by omega)
        clear r2 r4
        have g2 : (x.f2.length : Int) < (x.f2.length : Int) + 1 := by omega
        go_wp2_with (first
          | ((with_reducible refine gate_dst (N := 26) rfl ?_); refine print_append_cells (w0 := wr) base rfl (.tmp 23) (.tmp 25) 33 35 _ 8 88 rfl Try.underlying33 infoNd rfl (by decide) (by decide) (.slice A x.f2.length c) x.f2.length cells (ndCells 78 noTk (.slice none 0 0)) rfl rfl rfl (ndCells_one _ _ rfl) R2.out (Below.refl _ _) HS.out HF.out ?_; intro v5 w5 ho5 hb5 hg5 hat5; obtain ⟨g5, cap5, rfl⟩ := own_head ho5; have H5 := Lib.hid (And.intro hg5 hat5); obtain ⟨m0, f0⟩ := row_at ho5 (x.f2.length * 8) (.int .u8 78) (by rw [List.getElem?_append_right (by rw [R2.out.1]; exact Nat.le_refl _), R2.out.1, Nat.sub_self]; rfl); clear ho5 hb5 hg5 hat5 q0 q1 q2 q3 q4 q5 q6 q7))
        go_end0
        have hs5 := H.out.sp.trans (.of_grown H5.out.1 (fun k hk => (R4.out k hk).1))
        refine ⟨rfl, spoilt_end (g := g5) hs5 rfl ?_⟩
        rcases H5.out.2 with he | ⟨b, he, hle⟩
        · exact .inl (R4.out g5 he.symm).1
        · obtain rfl : g5 = b := by simpa [Value.ownBlock] using he
          exact .inr (by have := H.out.sp.size; omega)
end Go.Proofs.Ytfefldkljbbbpaa
