/- all: the walk. -/
import Derived.Test.YtmjbpgnjgblnmaaAll0
import Derived.Laws.OwnMore
import Derived.OwnWalk
set_option linter.unusedVariables false
set_option linter.unusedSimpArgs false
namespace Go.Proofs.Ytmjbpgnjgblnmaa
open Go.RowKit Go.Proofs.YtmjbpgnjgblnmaaW.PrintWords Go.Proofs.YtmjbpgnjgblnmaaW.PrintLast Go.Proofs.YtmjbpgnjgblnmaaW.PrintMore

theorem drop_rd (l : List Tk) (i : Nat) (hi : i < l.length) : l.drop i = PParseNotes.rd_T35 l i :: l.drop (i + 1) := by
  rw [List.drop_eq_getElem_cons hi]
  congr 1
  simp [PParseNotes.rd_T35, List.getD_eq_getElem?_getD, hi]
/-- The cells of a token in an argument. -/
theorem tok_cells {w : World} {A : Option Addr} {l : List Tk} (hC : Kd.C kTk w A l.length l) (i : Nat) (hi : i < l.length) : ∃ ad, A = some ad ∧ ∀ V, Below w.heap.size w V → V.cell? (ad.add (i * 6)) = some (.int .u8 (PParseNotes.rd_T35 l i).f0) ∧ V.cell? ⟨(ad.add (i * 6)).block, (ad.add (i * 6)).off + 1, none⟩ = some (.string (PParseNotes.rd_T35 l i).f1) ∧ V.cell? ⟨(ad.add (i * 6)).block, (ad.add (i * 6)).off + 2, none⟩ = some (.int .i64 (PParseNotes.rd_T35 l i).f2.f0) ∧ V.cell? ⟨(ad.add (i * 6)).block, (ad.add (i * 6)).off + 3, none⟩ = some (.int .i64 (PParseNotes.rd_T35 l i).f2.f1) ∧ V.cell? ⟨(ad.add (i * 6)).block, (ad.add (i * 6)).off + 4, none⟩ = some (.int .i64 (PParseNotes.rd_T35 l i).f2.f2) ∧ V.cell? ⟨(ad.add (i * 6)).block, (ad.add (i * 6)).off + 5, none⟩ = some (.int .i64 (PParseNotes.rd_T35 l i).f3) := by
  obtain ⟨ad, h1, h2, h3, h4, h5, h6, h7⟩ := PParseNotes.at_T35 hC (i : Int) (by omega) (by omega)
  simp only [Int.toNat_natCast] at h2 h3 h4 h5 h6 h7
  exact ⟨ad, h1, fun V hV => ⟨pw_cell_below hV h2, pw_cell_below hV h3, pw_cell_below hV h4, pw_cell_below hV h5, pw_cell_below hV h6, pw_cell_below hV h7⟩⟩
section
variable {ops : Array Oper} {rest : List Oper} {o : Oper} {a : Act} {Q : Exit → Act → World → Prop} {W : World}
theorem wl_evs (hgd : o.guard = none) (s x : Operand) (ho : o.op = .call { callee := .builtin .append, args := #[s, x], argTypes := #[38, 38] }) (base : Nat) {v : Value} {n : Nat} {xs : List Value} (hs : a.eval s = v) (hown : W.ownsRow base 46 8 v n xs)
    {gx m cx b2 : Nat} {news : List Value} (hx : a.eval x = .slice (some ⟨gx, 0, none⟩) m cx) (hrow : W.ownsRow b2 46 8 (.slice (some ⟨gx, 0, none⟩) m cx) m news) (h1 : ∀ u ∈ news, u.oneCell' = true) (hm : 0 < m) (hl : (n + m) * 64 ≤ 140737488355328) (hbase : base ≤ W.heap.size)
    (h : ∀ g1 c1 w1, w1.ownsRow base 46 8 (.slice (some ⟨g1, 0, none⟩) (n + m) c1) (n + m) (xs ++ news) → W.grownBy w1 v.ownBlock → (v.ownBlock = some g1 ∨ g1 = W.heap.size) → wpList Try.prog ops Q rest (a.put o.dst (.slice (some ⟨g1, 0, none⟩) (n + m) c1)) w1) : wpList Try.prog ops Q (o :: rest) a W := by
  obtain ⟨i0, hi, hzz⟩ := Option.map_eq_some_iff.1 infoEv
  simp only [Prod.mk.injEq] at hzz
  obtain ⟨hz0, hz1, hz2⟩ := hzz
  exact wpList_append_lies W hgd s x 38 ho base 46 i0 _ 8 64 Try.underlying38 hi hz0 hz1 hz2 rfl (by decide) v n xs hs hown ⟨gx, 0, none⟩ m cx news hx hrow.1 (row_news hrow) h1 hm (by simp only [maxLen]; omega) hl hbase W.heap.size rfl (fun g1 c1 w1 h2 h3 h4 _ => h g1 c1 w1 h2 h3 h4)
theorem wl_evs0 (hgd : o.guard = none) (s x : Operand) (ho : o.op = .call { callee := .builtin .append, args := #[s, x], argTypes := #[38, 38] }) (base : Nat) {v : Value} {n : Nat} {xs : List Value} (hs : a.eval s = v) (hown : W.ownsRow base 46 8 v n xs)
    (hx : a.eval x = .slice none 0 0) (h : wpList Try.prog ops Q rest (a.put o.dst v) W) : wpList Try.prog ops Q (o :: rest) a W := by
  obtain ⟨i0, hi, hzz⟩ := Option.map_eq_some_iff.1 infoEv
  refine wpList_plain hgd fun K hK => ?_
  have hr := run_append_owned_none (P := Try.prog) W base 38 o.type 46 i0 8 Try.underlying38 hi v n xs hown
  unfold Oper.wp execOp
  simp only [ho, resolve, invoke, builtin, Sem.run_bind, Sem.run_pure, Result.andThen_ok, List.map_toArray, List.map_cons, List.map_nil, hs, hx, hr]
  exact hK _ _ h
end
def AllPost (l : List Tk) (w : World) (e : Ending) (w' : World) : Prop :=
  ∃ v, e = .returned (.tuple #[v, .int .i64 (allP newPar l).2.1, .int .i64 (allP newPar l).2.2]) ∧ w'.ownsRow w.heap.size 46 8 v (allP newPar l).1.length ((allP newPar l).1.flatMap evCells) ∧ Below w.heap.size w w'
set_option maxRecDepth 100000 in
set_option maxHeartbeats 8000000 in
theorem all_any (A : Option Addr) (c : Nat) (l : List Tk) (w : World) (hC : Kd.C kTk w A l.length l) (hc : l.length ≤ c) (hl : l.length ≤ 1048576) :
    Calls Try.prog 14 #[.slice A l.length c] w (AllPost l w) := by
  have HC := Lib.hid hC
  have HL := Lib.hid hl
  have HN := Lib.hid (New_any w)
  clear hC hc hl
  go_enter Try.func14, Try.ntmps14
  go_wp2_with (go_at_call 9; (with_reducible refine Calls.mono HN.out ?_); rintro e W1 ⟨vt0, rfl, hp1, hb1⟩; have HP1 := Lib.hid hp1; have HB1 := Lib.hid hb1; clear hp1 hb1)
  have HI0 : Hid (AllI w.heap.size w l 0 W1 newPar [] [] [] vt0 (.slice none 0 0) (.slice none 0 0)) := Lib.hid ⟨by rw [List.drop_zero]; simp, newPar_inv, HP1.out.ends, HP1.out.at_, HB1.out, nil_row _ _ _ _, fun g h => (by cases h), by decide, by decide, Nat.le_refl _⟩
  clear HN
  obtain ⟨p, hp⟩ : ∃ p, w.heap.size = p := ⟨_, rfl⟩
  have HPE := Lib.hid hp
  rw [hp] at HI0 ⊢
  clear hp HP1
  go_loopw [6, 7] (fun v6 v7 wr => ∃ i : Nat, i ≤ l.length ∧ v7 = .int .i64 i ∧ Hid (∃ P op acc es vt ve, AllI p w l i wr P op acc es vt ve v6)) (fun v6 v7 _ => l.length - (intOf v7).toNat)
  case atStart => exact ⟨0, Nat.zero_le _, rfl, Lib.hid ⟨_, _, _, _, _, _, HI0.out⟩⟩
  case round =>
    obtain ⟨i, hi, rfl, H⟩ := hrel
    obtain ⟨P, op, acc, es, vt, ve, H⟩ := H.out
    by_cases hlt : i < l.length
    · obtain ⟨ad, rfl, hcells⟩ := tok_cells HC.out i hlt
      have hdr := drop_rd l i hlt
      obtain ⟨t, ht⟩ : ∃ t, PParseNotes.rd_T35 l i = t := ⟨_, rfl⟩
      rw [ht] at hcells hdr
      obtain ⟨c0, c1, c2, c3, c4, c5⟩ := hcells wr H.below
      have g1 : (i : Int) < (l.length : Int) := by omega
      have g2 : (0 : Int) ≤ (i : Int) := by omega
      have g3 : wrap64 ((i : Int) + 1) = (i : Int) + 1 := by unfold wrap64; have := HL.out; omega
      have g4 : IntKind.i64.wrap ((i : Int) + 1) = (i : Int) + 1 := by rw [IntKind.wrap_i64]; have := HL.out; omega
      have HH := Lib.hid H
      have HDR := Lib.hid hdr
      have hpt := put_any p P es vt ve t wr (H.pin (by have := HL.out; omega))
      unfold PutPost at hpt
      clear ht hdr hcells H HI0
      by_cases he : (put P t).2.1 = 0
      · have hne : (put P t).1 ≠ [] := by
          obtain ⟨_, -, -, h, -⟩ := put_nest HH.out.inv t [] he
          exact h
        have hmb := put_evlen HH.out.inv t he (put_nest HH.out.inv t [] he).choose_spec.1
        obtain ⟨m, hm⟩ : ∃ m, (put P t).1.length = m := ⟨_, rfl⟩
        have hm0 : 0 < m := by rw [← hm]; exact List.length_pos_iff.2 hne
        have HM := Lib.hid (And.intro hm (And.intro hm0 hmb))
        rw [he, hm] at hpt
        have HPT := Lib.hid hpt
        have HE := Lib.hid he
        clear hpt he hne hmb hm hm0
        go_wp2_with (first
          | (go_at_call 24; (with_reducible refine Calls.mono HPT.out ?_); rintro e w2 ⟨v, es2, vt2, ve2, rfl, hA2, hs2, hv2, -⟩; obtain ⟨r1, r2, r3⟩ := HH.out.outs hs2; obtain ⟨gx, cx, rfl, hgx, hgl⟩ := hv2.form HM.out.2.1; have HA2 := Lib.hid hA2; have HS2 := Lib.hid hs2; have HV2 := Lib.hid hv2; have HR2 := Lib.hid (And.intro r1 r2); clear c0 c1 c2 c3 c4 c5 hA2 hs2 hv2 r1 r2 r3 hgx hgl)
          | ((with_reducible refine gate_dst (N := 35) rfl ?_); refine wl_evs rfl (.tmp 33) (.tmp 34) rfl w.heap.size rfl HR2.out.1 rfl HV2.out (evs_one _) HM.out.2.1 (by have := HH.out.ba; have := HL.out; have := HM.out; omega) HR2.out.2.size ?_; intro g3 c3 w3 ho hg hat; obtain ⟨op', hI⟩ := HH.out.next HDR.out HE.out HA2.out HS2.out (g1 := g3) (c1 := c3) (by rw [HM.out.1]; exact ho) hg hat; rw [HM.out.1] at hI; have HI3 := Lib.hid hI; clear ho hg hat hI))
        go_roundw
        case rel => exact ⟨i + 1, by omega, by go_num, Lib.hid ⟨_, _, _, _, _, _, HI3.out⟩⟩
        case measure => simp [intOf] <;> omega
      · have e9 : ((put P t).2.1 != 0) = true := by rw [bne_iff_ne]; exact he
        have heq : allP newPar l = (acc, (put P t).2.1, i) := by
          rw [HH.out.eq, HDR.out, all_cons_bad he]
          simp
        have HEQ := Lib.hid heq
        have HPT := Lib.hid hpt
        clear hpt he heq
        obtain ⟨er, her⟩ : ∃ er, (put P t).2.1 = er := ⟨_, rfl⟩
        rw [her] at e9 HPT HEQ
        clear her
        go_wp2_with (go_at_call 24; (with_reducible refine Calls.mono HPT.out ?_); rintro e w2 ⟨v, es2, vt2, ve2, rfl, hA2, hs2, hv2, -⟩; have HR2 := Lib.hid (HH.out.outs hs2); clear c0 c1 c2 c3 c4 c5 hA2 hs2 hv2)
        go_ret3
        unfold AllPost
        rw [HEQ.out]
        exact ⟨_, rfl, HR2.out.1, HR2.out.2.1⟩
    · obtain rfl : i = l.length := by omega
      have g1 : ¬ ((l.length : Int) < (l.length : Int)) := by omega
      have heq := H.eq
      rw [List.drop_length] at heq
      simp only [allP, Nat.add_zero] at heq
      have hpt := Close_any p P es vt ve wr (H.pin HL.out)
      unfold ClosePost at hpt
      have HH := Lib.hid H
      clear H HI0
      have hcl : closeP P = if P.todo.length ≠ 1 then ([], 121, { P with closed := true, wrong := 121 }) else ([evOf (3, 1)], 0, { P with closed := true, depth := P.depth - 1 }) := by
        unfold closeP
        rw [HH.out.inv.closed, HH.out.inv.wrong]
        simp
      by_cases h1 : P.todo.length = 1
      · rw [if_neg (by simp [h1])] at hcl
        rw [hcl] at hpt heq
        dsimp only at hpt
        have HPT := Lib.hid hpt
        have HEQ := Lib.hid heq
        clear hpt heq hcl
        go_wp2_with (first
          | (go_at_call 26; (with_reducible refine Calls.mono HPT.out ?_); rintro e w2 ⟨v, es2, vt2, ve2, rfl, hA2, hs2, hv2, -⟩; obtain ⟨r1, r2, r3⟩ := HH.out.outs hs2; obtain ⟨gx, cx, rfl, hgx, hgl⟩ := hv2.form (by decide); have HV2 := Lib.hid hv2; have HR2 := Lib.hid (And.intro r1 r2); clear hA2 hs2 hv2 r1 r2 r3 hgx hgl)
          | ((with_reducible refine gate_dst (N := 43) rfl ?_); refine wl_evs rfl (.tmp 41) (.tmp 42) rfl w.heap.size (m := 1) rfl HR2.out.1 rfl HV2.out (evs_one _) (by decide) (by have := HH.out.ba; have := HL.out; omega) HR2.out.2.size ?_; intro g3 c3 w3 ho hg hat; have HB3 := Lib.hid (HR2.out.2.grown hg HR2.out.2.size (own_base HH.out.out)); have HO3 := Lib.hid ho; clear ho hg hat))
        go_ret3
        unfold AllPost
        rw [HEQ.out]
        exact ⟨_, rfl, by simpa using HO3.out, HB3.out⟩
      · rw [if_pos (by simp [h1])] at hcl
        rw [hcl] at hpt heq
        dsimp only at hpt
        have HPT := Lib.hid hpt
        have HEQ := Lib.hid heq
        clear hpt heq hcl
        go_wp2_with (first
          | (go_at_call 26; (with_reducible refine Calls.mono HPT.out ?_); rintro e w2 ⟨v, es2, vt2, ve2, rfl, hA2, hs2, hv2, hnil⟩; obtain rfl : v = .slice none 0 0 := (by rcases hnil with ⟨-, h⟩ | h; (exact absurd h (by decide)); exact h); have HR2 := Lib.hid (HH.out.outs hs2); clear hA2 hs2 hv2 hnil)
          | ((with_reducible refine gate_dst (N := 43) rfl ?_); refine wl_evs0 rfl (.tmp 41) (.tmp 42) rfl w.heap.size rfl HR2.out.1 rfl ?_))
        go_ret3
        unfold AllPost
        rw [HEQ.out]
        exact ⟨_, rfl, by simpa using HR2.out.1, HR2.out.2.1⟩
end Go.Proofs.Ytmjbpgnjgblnmaa
