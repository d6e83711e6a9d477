/- awake: the walk. (Printed by genawk.py.) -/
import Derived.Test.YtmjbpgnjgblnmaaAwk0
set_option linter.unusedVariables false
set_option linter.unusedSimpArgs false
namespace Go.Proofs.Ytmjbpgnjgblnmaa
open Go.RowKit Go.Proofs.YtmjbpgnjgblnmaaW.PrintWords Go.Proofs.YtmjbpgnjgblnmaaW.PrintLast Go.Proofs.YtmjbpgnjgblnmaaW.PrintMore

theorem key_any (s : ByteArray) (w : World) : Calls Try.prog 22 #[.string s] w fun e w' => e = .returned (.agg #[.int .u8 2, .string s, .int .i64 0, .int .i64 0, .int .i64 0, .int .i64 0]) ∧ Below w.heap.size w w' := PParseNotes.colophonlaw12_key.calls s 2 s 0 0 0 0 w rfl
theorem sign_any (s : ByteArray) (w : World) : Calls Try.prog 13 #[.string s] w fun e w' => e = .returned (.agg #[.int .u8 6, .string s, .int .i64 0, .int .i64 0, .int .i64 0, .int .i64 0]) ∧ Below w.heap.size w w' := PParseNotes.colophonlaw12_sign.calls s 6 s 0 0 0 0 w rfl
theorem name_any (s : ByteArray) (w : World) : Calls Try.prog 23 #[.string s] w fun e w' => e = .returned (.agg #[.int .u8 1, .string s, .int .i64 0, .int .i64 0, .int .i64 0, .int .i64 0]) ∧ Below w.heap.size w w' := PParseNotes.colophonlaw12_name.calls s 1 s 0 0 0 0 w rfl
theorem PStep.out {B p : Nat} {w wr w2 : World} {s : List WT} {es : List Ev} {d : Int} {b : Bool} {wc : Int} {cl : Bool} {vt ve vt2 ve2 : Value} (hs : PStep p vt ve wr vt2 ve2 w2) (H : PAt wr p s es d b wc cl vt ve) (hb : Below B w wr) (hB : B ≤ w.heap.size) (hp : B ≤ p) : Below B w w2 := by
  refine ⟨hs.os.trans hb.os, hs.tape.trans hb.tape, hs.output.trans hb.output, Nat.le_trans hb.size hs.size, fun q hq => ?_⟩
  have hsz := hb.size
  refine (hs.block q (by omega) (by omega) (fun e => ?_) (fun e => ?_)).trans (hb.block q hq)
  · have := own_base H.todo q e.symm
    omega
  · have := own_base H.evs q e.symm
    omega
theorem awk_ends : ∀ i, Ends (awkS i).1.todo
  | 0 => fun k hk => by
    simp only [awkS, newPar, List.mem_cons, List.not_mem_nil, or_false, reduceCtorEq, false_or, WT.fin.injEq] at hk
    omega
  | i + 1 => put_ends _ (awk_ends i)
theorem awk_at {i : Nat} (hi : i < 7) : (put (awkS i).1 (PParseNotes.rd_T35 awkL i)).2.1 = 0 ∧ (awkS i).1.todo.length ≤ 100 ∧ -100 ≤ (awkS i).1.depth ∧ (awkS i).1.depth ≤ 100 ∧ (awkS i).2 ≤ 100 ∧ (put (awkS i).1 (PParseNotes.rd_T35 awkL i)).1.length ≤ 100 := by
  have h := List.all_eq_true.1 awk_all i (List.mem_range.2 (by omega))
  have h7 : (i == 7) = false := by rw [beq_eq_false_iff_ne]; omega
  rw [h7, Bool.false_or] at h
  simp only [awkOk, Bool.and_eq_true, beq_iff_eq, decide_eq_true_eq] at h
  exact ⟨h.1.1.1.1.1, h.1.1.1.1.2, h.1.1.1.2, h.1.1.2, h.1.2, h.2⟩
theorem wrap_ij {n m i : Nat} (hn : n ≤ 100) (hm : m ≤ 100) (hi : i < 7) : (i : Int) < 7 ∧ (0 : Int) ≤ (i : Int) ∧ wrap64 ((i : Int) + 1) = (i : Int) + 1 ∧ IntKind.i64.wrap ((i : Int) + 1) = (i : Int) + 1 ∧ wrap64 ((n : Int) + (m : Int)) = (n : Int) + (m : Int) ∧ IntKind.i64.wrap ((n : Int) + (m : Int)) = (n : Int) + (m : Int) := by
  simp only [IntKind.wrap_i64]
  unfold wrap64
  omega
theorem par_bounds {P : Par} (h2 : P.todo.length ≤ 100) (h3 : -100 ≤ P.depth) (h4 : P.depth ≤ 100) : P.todo.length ≤ 2147483648 ∧ -2147483648 ≤ P.depth ∧ P.depth ≤ 2147483648 := by omega
theorem awk_fin : (awkS 7).2 = 14 ∧ (awkS 7).1.depth = 1 ∧ (awkS 7).1.todo.length = 1 ∧ (awkS 7).1.closed = false ∧ (awkS 7).1.wrong = 0 := by
  have h := awk_end
  simp only [Bool.and_eq_true, beq_iff_eq, Bool.not_eq_true'] at h
  exact ⟨h.1.1.1.1, h.1.1.1.2, h.1.1.2, h.1.2, h.2⟩
theorem awk_C {V : World} {g : Nat} (h : V.heap[g]? = some (.cells (awkL.flatMap tkCells).toArray 35 (0, 0))) : Kd.C kTk V (some ⟨g, 0, none⟩) awkL.length awkL := by
  have hrow : V.ownsRow 0 35 6 (.slice (some ⟨g, 0, none⟩) 7 7) 7 (awkL.flatMap tkCells) := ⟨rfl, .inr ⟨g, 7, _, rfl, Nat.zero_le _, h, Nat.le_refl _, by decide, rfl, rfl⟩⟩
  have hreps : Reps (kTk.K V) 6 awkL (awkL.flatMap tkCells) := by
    have key : ∀ l : List Tk, Reps (kTk.K V) 6 l (l.flatMap tkCells) := fun l => by
      induction l with
      | nil => exact Reps.none _ _
      | cons x l ih =>
        have := Kd.reps_append ((Reps.none (kTk.K V) 6).snoc (PParseNotes.k35_mk V x) rfl) ih
        rw [List.nil_append, List.nil_append, List.singleton_append] at this
        exact this
    exact key _
  obtain ⟨A, c1, hv, hr⟩ := own_reads_row (size := 6) hrow hreps rfl
  injection hv with h1 h2 h3
  subst h1
  exact hr
theorem PIn.below {w w1 : World} {p : Nat} {P : Par} {es : List Ev} {vt ve : Value} (H : PIn w p P es vt ve) (h : Below w.heap.size w w1) : PIn w1 p P es vt ve := ⟨H.at_.below h, H.ends, H.bt, H.bd1, H.bd2⟩
theorem close_one {p : Nat} {td : List WT} {bg : Bool} {es : List Ev} {vt ve : Value} {w : World} (hA : PAt w p td es 1 bg 0 false vt ve) (hE : Ends td) (h1 : td.length = 1) :
    Calls Try.prog 26 #[.pointer (some ⟨p, 0, none⟩)] w fun e w' => ∃ Ax cx es' vt' ve', e = .returned (.tuple #[.slice Ax 1 cx, .int .i64 0]) ∧ PAt w' p td es' 0 bg 0 true vt' ve' ∧ PStep p vt ve w vt' ve' w' := by
  have h := Close_any p ⟨td, 1, bg, 0, false⟩ es vt ve w ⟨hA, hE, (by dsimp only; omega), (by dsimp only; omega), (by dsimp only; omega)⟩
  have hc : closeP ⟨td, 1, bg, 0, false⟩ = ([evOf (3, 1)], 0, ⟨td, 0, bg, 0, true⟩) := by unfold closeP; simp [h1]
  unfold ClosePost at h
  rw [hc] at h
  refine h.mono ?_
  rintro e w' ⟨v, es', vt', ve', he, h2, h3, h4, -⟩
  obtain ⟨Ax, cx, rfl, -⟩ := row_slice h4
  exact ⟨Ax, cx, es', vt', ve', he, h2, h3⟩
theorem close_two {p : Nat} {td : List WT} {bg : Bool} {es : List Ev} {vt ve : Value} {w : World} (hA : PAt w p td es 0 bg 0 true vt ve) (hE : Ends td) (h1 : td.length = 1) :
    Calls Try.prog 26 #[.pointer (some ⟨p, 0, none⟩)] w fun e w' => ∃ es' vt' ve', e = .returned (.tuple #[.slice none 0 0, .int .i64 4]) ∧ PAt w' p td es' 0 bg 0 true vt' ve' ∧ PStep p vt ve w vt' ve' w' := by
  have h := Close_any p ⟨td, 0, bg, 0, true⟩ es vt ve w ⟨hA, hE, (by dsimp only; omega), (by dsimp only; omega), (by dsimp only; omega)⟩
  have hc : closeP ⟨td, 0, bg, 0, true⟩ = ([], 4, ⟨td, 0, bg, 0, true⟩) := by unfold closeP; simp
  unfold ClosePost at h
  rw [hc] at h
  refine h.mono ?_
  rintro e w' ⟨v, es', vt', ve', he, h2, h3, -, h5⟩
  obtain rfl : v = .slice none 0 0 := by
    rcases h5 with ⟨-, h⟩ | h
    · exact absurd h (by simp)
    · exact h
  exact ⟨es', vt', ve', he, h2, h3⟩
theorem put_sign {q : Nat} {vt ve : Value} {w : World} (hq : PIn w q newPar [] vt ve) :
    Calls Try.prog 24 #[.pointer (some ⟨q, 0, none⟩), .agg #[.int .u8 6, .string ⟨#[59]⟩, .int .i64 0, .int .i64 0, .int .i64 0, .int .i64 0]] w fun e w' => ∃ v vt' ve', e = .returned (.tuple #[v, .int .i64 120]) ∧ PStep q vt ve w vt' ve' w' := by
  have h := put_any q newPar [] vt ve ⟨6, ⟨#[59]⟩, ⟨0, 0, 0⟩, 0⟩ w hq
  unfold PutPost at h
  have h1 := awk_sign
  rw [beq_iff_eq] at h1
  rw [h1] at h
  refine h.mono ?_
  rintro e w' ⟨v, es', vt', ve', he, -, h3, -, -⟩
  exact ⟨v, vt', ve', he, h3⟩
theorem Put_nil6 (w : World) : Calls Try.prog 24 #[.pointer none, .agg #[.int .u8 6, .string ⟨#[59]⟩, .int .i64 0, .int .i64 0, .int .i64 0, .int .i64 0]] w fun e w' => e = .returned (.tuple #[.slice none 0 0, .int .i64 3]) ∧ Below w.heap.size w w' := Put_nil ⟨6, ⟨#[59]⟩, ⟨0, 0, 0⟩, 0⟩ w
structure AwkI (p g : Nat) (w W2 wr : World) (vt0 ve0 : Value) (i : Nat) (es : List Ev) (vt ve : Value) : Prop where
  at_ : PAt wr p (awkS i).1.todo es (awkS i).1.depth (awkS i).1.begun (awkS i).1.wrong (awkS i).1.closed vt ve
  step : PStep p vt0 ve0 W2 vt ve wr
set_option maxRecDepth 100000 in
set_option maxHeartbeats 8000000 in
theorem awake_any (w : World) : Calls Try.prog 8 #[] w fun e w' => e = .returned (.bool true) ∧ Below w.heap.size w w' := by
  have HN := Lib.hid (New_any w)
  go_enter Try.func8, Try.ntmps8
  go_upto_region 6 with (first
    | (go_at_call 9; (with_reducible refine Calls.mono HN.out ?_); rintro e w9 ⟨vt0, rfl, hp1, hb1⟩; have HP := Lib.hid hp1.at_; have HB := Lib.hid hb1; clear hp1 hb1)
    | (go_at_call 22; (with_reducible refine Calls.mono (key_any _ _) ?_); rintro e w9 ⟨rfl, hb⟩; replace HP := Lib.hid (HP.out.below hb); replace HB := Lib.hid (HB.out.trans (hb.mono HB.out.size)); clear hb)
    | (go_at_call 13; (with_reducible refine Calls.mono (sign_any _ _) ?_); rintro e w9 ⟨rfl, hb⟩; replace HP := Lib.hid (HP.out.below hb); replace HB := Lib.hid (HB.out.trans (hb.mono HB.out.size)); clear hb)
    | (go_at_call 23; (with_reducible refine Calls.mono (name_any _ _) ?_); rintro e w9 ⟨rfl, hb⟩; replace HP := Lib.hid (HP.out.below hb); replace HB := Lib.hid (HB.out.trans (hb.mono HB.out.size)); clear hb))
  obtain ⟨W2, hW2⟩ : ∃ V, w9.alloc (.cells #[.int .u8 2, .string ⟨#[112, 114, 111, 103, 114, 97, 109]⟩, .int .i64 0, .int .i64 0, .int .i64 0, .int .i64 0, .int .u8 1, .string ⟨#[112]⟩, .int .i64 0, .int .i64 0, .int .i64 0, .int .i64 0, .int .u8 6, .string ⟨#[59]⟩, .int .i64 0, .int .i64 0, .int .i64 0, .int .i64 0, .int .u8 2, .string ⟨#[98, 101, 103, 105, 110]⟩, .int .i64 0, .int .i64 0, .int .i64 0, .int .i64 0, .int .u8 2, .string ⟨#[115, 107, 105, 112]⟩, .int .i64 0, .int .i64 0, .int .i64 0, .int .i64 0, .int .u8 2, .string ⟨#[101, 110, 100]⟩, .int .i64 0, .int .i64 0, .int .i64 0, .int .i64 0, .int .u8 6, .string ⟨#[46]⟩, .int .i64 0, .int .i64 0, .int .i64 0, .int .i64 0] 35) = V := ⟨_, rfl⟩
  have hg2 : W2.heap[w9.heap.size]? = some (.cells (awkL.flatMap tkCells).toArray 35 (0, 0)) := by rw [← hW2]; exact World.alloc_heap_new _ _
  have hb2 : Below w9.heap.size w9 W2 := by rw [← hW2]; exact (Below.refl _ _).alloc (Nat.le_refl _) _
  rw [hW2]
  clear hW2 HN
  have HP2 := Lib.hid (HP.out.below hb2)
  have HB2 := Lib.hid (HB.out.trans (hb2.mono HB.out.size))
  have HG2 := Lib.hid hg2
  clear hg2 hb2 HP HB
  obtain ⟨g, hg⟩ : ∃ g, w9.heap.size = g := ⟨_, rfl⟩
  rw [hg] at HG2 ⊢
  obtain ⟨p, hp⟩ : ∃ p, w.heap.size = p := ⟨_, rfl⟩
  have HPE := Lib.hid hp
  rw [hp] at HP2 ⊢
  clear hg hp
  go_wp2
  go_loopw [2, 4] (fun v2 v4 wr => ∃ i : Nat, i ≤ 7 ∧ v4 = .int .i64 i ∧ v2 = .int .i64 (awkS i).2 ∧ Hid (∃ es vt ve, AwkI p g w W2 wr vt0 (.slice none 0 0) i es vt ve)) (fun v2 v4 _ => 7 - (intOf v4).toNat)
  case atStart => exact ⟨0, by decide, rfl, rfl, Lib.hid ⟨_, _, _, ⟨HP2.out, PStep.refl _ _ _ _⟩⟩⟩
  case round =>
    obtain ⟨i, hi, rfl, rfl, H⟩ := hrel
    obtain ⟨es, vt, ve, H⟩ := H.out
    by_cases hlt : i < 7
    · obtain ⟨h1, h2, h3, h4, h5, h6⟩ := awk_at hlt
      obtain ⟨ad, hae, hcells⟩ := tok_cells (awk_C (H.step.keep HP2.out HG2.out (by decide) (by decide) (by decide))) i hlt
      injection hae with hae
      subst hae
      have hadd : (⟨g, 0, none⟩ : Addr).add (i * 6) = ⟨g, i * 6, none⟩ := by unfold Addr.add; split <;> simp_all
      rw [hadd] at hcells
      clear hadd
      obtain ⟨t, ht⟩ : ∃ t, PParseNotes.rd_T35 awkL i = t := ⟨_, rfl⟩
      have hs1 : awkS (i + 1) = ((put (awkS i).1 t).2.2, (awkS i).2 + (put (awkS i).1 t).1.length) := by rw [← ht]; rfl
      rw [ht] at hcells h1 h6
      obtain ⟨c0, c1, c2, c3, c4, c5⟩ := hcells wr (Below.refl _ _)
      obtain ⟨n, hn⟩ : ∃ n, (awkS i).2 = n := ⟨_, rfl⟩
      have hpt := put_any p (awkS i).1 es vt ve t wr ⟨H.at_, awk_ends i, (par_bounds h2 h3 h4).1, (par_bounds h2 h3 h4).2.1, (par_bounds h2 h3 h4).2.2⟩
      unfold PutPost at hpt
      obtain ⟨m, hm⟩ : ∃ m, (put (awkS i).1 t).1.length = m := ⟨_, rfl⟩
      rw [h1, hm] at hpt
      rw [hm, hn] at hs1
      rw [hm] at h6
      rw [hn] at h5
      obtain ⟨g1, g2, g3, g4, g5, g6⟩ := wrap_ij h5 h6 hlt
      have HPT := Lib.hid hpt
      have HH := Lib.hid H
      have HS1 := Lib.hid hs1
      rw [hn]
      clear hpt H hs1 hm hn ht hcells h1 h2 h3 h4 h5 h6
      go_wp2_with (go_at_call 24; (with_reducible refine Calls.mono HPT.out ?_); rintro e w2 ⟨v, es2, vt2, ve2, rfl, hA2, hs2, hv2, -⟩; obtain ⟨Ax, cx, rfl, -⟩ := row_slice hv2; have HA2 := Lib.hid hA2; have HS2 := Lib.hid (HH.out.step.trans hs2); clear c0 c1 c2 c3 c4 c5 hA2 hs2 hv2)
      go_roundw
      case rel => exact ⟨i + 1, by omega, by go_num, by rw [HS1.out]; go_num, Lib.hid ⟨_, _, _, ⟨by rw [HS1.out]; exact HA2.out, HS2.out⟩⟩⟩
      case measure => simp [intOf] <;> omega
    · obtain rfl : i = 7 := by omega
      obtain ⟨f1, f2, f3, f4, f5⟩ := awk_fin
      rw [f1]
      have HH := Lib.hid H
      obtain ⟨P7, hP7⟩ : ∃ P, (awkS 7).1 = P := ⟨_, rfl⟩
      have he7 := awk_ends 7
      rw [hP7] at f2 f3 f4 f5 he7
      have hat := H.at_
      rw [hP7] at hat
      have hB2 := HB2.out
      rw [HPE.out] at hB2
      have hb7 := H.step.out HP2.out hB2 (Nat.le_of_eq HPE.out.symm) (Nat.le_refl _)
      obtain ⟨td, d7, bg, wg, cl⟩ := P7
      dsimp only at f2 f3 f4 f5 he7 hat
      subst f2; subst f4; subst f5
      have HD := Lib.hid (Depth_any p ⟨td, 1, bg, 0, false⟩ es vt ve wr hat)
      have HC1 := Lib.hid (close_one hat he7 f3)
      have HP7 := Lib.hid hat
      have HB := Lib.hid hb7
      have HE7 := Lib.hid he7
      have HF3 := Lib.hid f3
      have hpw : p ≤ w.heap.size := Nat.le_of_eq HPE.out.symm
      have HPW := Lib.hid hpw
      clear H f1 hP7 he7 hat hb7 hB2 f3 hpw
      go_wp2_with (first
        | (go_at_call 25; (with_reducible refine Calls.mono HD.out ?_); rintro e w2 ⟨rfl, rfl⟩; clear HD)
        | (go_at_call 26; (with_reducible refine Calls.mono HC1.out ?_); rintro e w2 ⟨A1, c1, es1, vt1, ve1, rfl, hA, hS⟩; have HC2 := Lib.hid (close_two hA HE7.out HF3.out); have HA1 := Lib.hid hA; replace HB := Lib.hid (hS.out HP7.out HB.out HPW.out (Nat.le_refl _)); clear hA hS)
        | (go_at_call 26; (with_reducible refine Calls.mono HC2.out ?_); rintro e w2 ⟨es2, vt2, ve2, rfl, hA, hS⟩; replace HB := Lib.hid (hS.out HA1.out HB.out HPW.out (Nat.le_refl _)); clear hA hS)
        | (go_at_call 9; (with_reducible refine Calls.mono (New_any _) ?_); rintro e w2 ⟨vtq, rfl, hq, hb⟩; have HQ := Lib.hid hq; have HQP := Lib.hid (Nat.le_trans HPW.out HB.out.size); replace HB := Lib.hid (HB.out.trans (hb.mono (Nat.le_trans HPW.out HB.out.size))); clear hq hb)
        | (go_at_call 13; (with_reducible refine Calls.mono (sign_any _ _) ?_); rintro e w2 ⟨rfl, hb⟩; replace HQ := Lib.hid (HQ.out.below hb); replace HB := Lib.hid (HB.out.trans (hb.mono (Nat.le_trans HPW.out HB.out.size))); clear hb)
        | (go_at_call 13; (with_reducible refine Calls.mono (sign_any _ _) ?_); rintro e w2 ⟨rfl, hb⟩; replace HB := Lib.hid (HB.out.trans (hb.mono (Nat.le_trans HPW.out HB.out.size))); clear hb)
        | (go_at_call 24; (with_reducible refine Calls.mono (put_sign HQ.out) ?_); rintro e w2 ⟨v, vt8, ve8, rfl, hS⟩; replace HB := Lib.hid (hS.out HQ.out.at_ HB.out HPW.out HQP.out); clear hS HQ HQP)
        | (go_at_call 24; (with_reducible refine Calls.mono (Put_nil6 _) ?_); rintro e w2 ⟨rfl, hb⟩; replace HB := Lib.hid (HB.out.trans (hb.mono (Nat.le_trans HPW.out HB.out.size))); clear hb)
        | (go_at_call 26; (with_reducible refine Calls.mono (Close_nil _) ?_); rintro e w2 ⟨rfl, rfl⟩)
        | (go_at_call 25; (with_reducible refine Calls.mono (Depth_nil _) ?_); rintro e w2 ⟨rfl, rfl⟩))
      go_ret
      exact ⟨rfl, by have h := HB.out; rw [HPE.out]; exact h⟩
end Go.Proofs.Ytmjbpgnjgblnmaa
