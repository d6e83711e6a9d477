/- A kid is laid into the innermost open node. -/
import Derived.Test.YtfefldkljbbbpaaStp
import Derived.Test.YtfefldkljbbbpaaBk
set_option linter.unusedVariables false
set_option linter.unusedSimpArgs false
namespace Go.Proofs.Ytfefldkljbbbpaa
open Go.RowKit Go.Proofs.YtfefldkljbbbpaaW.PrintWords Go.Proofs.YtfefldkljbbbpaaW.PrintLast Go.Proofs.YtfefldkljbbbpaaW.PrintMore

def ndPre (k : Int) (t : Tk) : List Value := [.int .u8 k, .int .u8 t.f0, .string t.f1, .int .i64 t.f2.f0, .int .i64 t.f2.f1, .int .i64 t.f2.f2, .int .i64 t.f3]
theorem ndCells_pre (k : Int) (t : Tk) (v : Value) : ndCells k t v = ndPre k t ++ [v] := rfl

/-- What both stores leave, in whichever order they come. -/
structure Two (base g cap m g1 c1 q : Nat) (w1 wf : World) (t : Nd) (cells kc cs : List Value) : Prop where
  row : wf.ownsRow base TN 8 (.slice (some ⟨g, 0, none⟩) (m + 1) cap) (m + 1) (cells ++ ndCells t.f0 t.f1 (.slice (some ⟨g1, 0, none⟩) (q + 1) c1))
  krow : wf.ownsRow base TN 8 (.slice (some ⟨g1, 0, none⟩) (q + 1) c1) (q + 1) (kc ++ cs)
  far : ∀ b, b ≠ g → b ≠ g1 → wf.heap[b]? = w1.heap[b]?
  os : wf.os = w1.os
  tape : wf.tape = w1.tape
  output : wf.output = w1.output
  size : wf.heap.size = w1.heap.size

theorem far_row {w : World} {base g n cap g' : Nat} {xs : List Value} (h : w.ownsRow base TN 8 (.slice (some ⟨g, 0, none⟩) n cap) n xs) (hne : g ≠ g') (off : Nat) (seg : List Value) : (w.setCells g' off seg).ownsRow base TN 8 (.slice (some ⟨g, 0, none⟩) n cap) n xs :=
  row_move h (fun k hk => setCells_far seg off k (fun he => hne (by have : g = k := by simpa [Value.ownBlock] using hk
                                                                    omega)))

section
variable {base g cap m g1 c1 q : Nat} {w1 : World} {t : Nd} {u : Value} {cells kc cs zs : List Value}
theorem two_a (hr : w1.ownsRow base TN 8 (.slice (some ⟨g, 0, none⟩) (m + 1) cap) (m + 1) (cells ++ ndCells t.f0 t.f1 u)) (hc : cells.length = m * 8) (hk : w1.ownsRow base TN 8 (.slice (some ⟨g1, 0, none⟩) (q + 1) c1) (q + 1) (kc ++ zs)) (hq : kc.length = q * 8) (hz : zs.length = 8) (hcs : cs.length = 8) (hne : g ≠ g1) :
    Two base g cap m g1 c1 q w1 ((w1.setCells g1 (q * 8) cs).setCells g (m * 8 + 7) [.slice (some ⟨g1, 0, none⟩) (q + 1) c1]) t cells kc cs := by
  have k1 := (row_set_end hk (q * 8) cs hq (by omega)).1
  have r1 := far_row hr hne (q * 8) cs
  rw [ndCells_pre, ← List.append_assoc] at r1
  have r2 := (row_set_end r1 (m * 8 + 7) [.slice (some ⟨g1, 0, none⟩) (q + 1) c1] (by rw [List.length_append, hc]; rfl) rfl).1
  have s1 := setCells_same g1 cs (q * 8) w1
  have s2 := setCells_same g [.slice (some ⟨g1, 0, none⟩) (q + 1) c1] (m * 8 + 7) (w1.setCells g1 (q * 8) cs)
  refine ⟨by rw [ndCells_pre, ← List.append_assoc]; exact r2, far_row k1 (Ne.symm hne) _ _, fun b hb hb1 => (setCells_far _ _ b hb).trans (setCells_far _ _ b hb1), s2.1.trans s1.1, s2.2.1.trans s1.2.1, s2.2.2.1.trans s1.2.2.1, s2.2.2.2.trans s1.2.2.2⟩
theorem two_b (hr : w1.ownsRow base TN 8 (.slice (some ⟨g, 0, none⟩) (m + 1) cap) (m + 1) (cells ++ ndCells t.f0 t.f1 u)) (hc : cells.length = m * 8) (hk : w1.ownsRow base TN 8 (.slice (some ⟨g1, 0, none⟩) (q + 1) c1) (q + 1) (kc ++ zs)) (hq : kc.length = q * 8) (hz : zs.length = 8) (hcs : cs.length = 8) (hne : g ≠ g1) :
    Two base g cap m g1 c1 q w1 ((w1.setCells g (m * 8 + 7) [.slice (some ⟨g1, 0, none⟩) (q + 1) c1]).setCells g1 (q * 8) cs) t cells kc cs := by
  have hr' := hr
  rw [ndCells_pre, ← List.append_assoc] at hr'
  have r2 := (row_set_end hr' (m * 8 + 7) [.slice (some ⟨g1, 0, none⟩) (q + 1) c1] (by rw [List.length_append, hc]; rfl) rfl).1
  have k0 := far_row hk (Ne.symm hne) (m * 8 + 7) [.slice (some ⟨g1, 0, none⟩) (q + 1) c1]
  have k1 := (row_set_end k0 (q * 8) cs hq (by omega)).1
  have s1 := setCells_same g [.slice (some ⟨g1, 0, none⟩) (q + 1) c1] (m * 8 + 7) w1
  have s2 := setCells_same g1 cs (q * 8) (w1.setCells g (m * 8 + 7) [.slice (some ⟨g1, 0, none⟩) (q + 1) c1])
  refine ⟨?_, k1, fun b hb hb1 => (setCells_far _ _ b hb1).trans (setCells_far _ _ b hb), s2.1.trans s1.1, s2.2.1.trans s1.2.1, s2.2.2.1.trans s1.2.2.1, s2.2.2.2.trans s1.2.2.2⟩
  rw [ndCells_pre, ← List.append_assoc]
  exact far_row r2 hne _ _
end

theorem g_ne {W : World} {base g cap g1 : Nat} {S : List Nd} {t : Nd} {u : Value} {F G1 G2 Gk : Nat → Prop} {cells kc : List Value} (H : TopsX W base g cap S t u F cells G1 G2 kc Gk) (hat : u.ownBlock = some g1 ∨ W.heap.size < g1) : g ≠ g1 := by
  rcases hat with he | he
  · exact fun h => H.n2 (h ▸ (H.own g1 he).1)
  · have := own_lt H.row g rfl
    omega
theorem row_grown {W w1 : World} {base g cap : Nat} {S : List Nd} {t : Nd} {u : Value} {F G1 G2 Gk : Nat → Prop} {cells kc : List Value} (H : TopsX W base g cap S t u F cells G1 G2 kc Gk) (hg : W.grownBy w1 u.ownBlock) : w1.ownsRow base TN 8 (.slice (some ⟨g, 0, none⟩) (S.length + 1) cap) (S.length + 1) (cells ++ ndCells t.f0 t.f1 u) :=
  row_move H.row (fun k hk => hg.block k (own_lt H.row k hk) (fun he => H.n2 (by have : g = k := by simpa [Value.ownBlock] using hk
                                                                                 subst this; exact (H.own g he.symm).1)))

/-- The kid is there. -/
theorem added {W w1 wf : World} {base g cap g1 c1 m q : Nat} {S : List Nd} {t x : Nd} {u : Value} {F G1 G2 Gk Fx : Nat → Prop} {cells kc cs : List Value} (H : TopsX W base g cap S t u F cells G1 G2 kc Gk) (hx : Own W base x cs Fx) (hd1 : ∀ b, Fx b → ¬ G1 b) (hd2 : ∀ b, Fx b → ¬ G2 b) (hdg : ¬ Fx g)
    (hg : W.grownBy w1 u.ownBlock) (hat : u.ownBlock = some g1 ∨ W.heap.size < g1) (hm : S.length = m) (hq : t.f2.length = q) (hT : Two base g cap m g1 c1 q w1 wf t cells kc cs) :
    OwnS wf base (.slice (some ⟨g, 0, none⟩) (m + 1) cap) (S ++ [addKid t x]) (fun _ => True) ∧ (∀ (B : Nat) (w0 : World), B ≤ base → Below B w0 W → Below B w0 wf) := by
  subst hm; subst hq
  have hgl := own_lt H.row g rfl
  have hne := g_ne H hat
  -- what neither store nor append touches
  have keep : ∀ b, Lies W base b → b ≠ g → u.ownBlock ≠ some b → wf.heap[b]? = W.heap[b]? := fun b hb h1 h2 => by
    have h3 : b ≠ g1 := by
      rcases hat with he | he
      · exact fun hc => h2 (by rw [he, hc])
      · have := hb.2.1; omega
    exact (hT.far b h1 h3).trans (hg.block b hb.2.1 (fun he => h2 he.symm))
  have a1 : OwnL wf base S cells (fun b => G1 b ∧ Lies W base b) := ownL_move S (ownL_bound S H.rest) (fun b hb => keep b hb.2 (fun he => H.n1 (he ▸ hb.1)) (fun he => H.apart b hb.1 (H.own b he).1))
  have a2 : OwnL wf base t.f2 kc (fun b => Gk b ∧ Lies W base b) := ownL_move t.f2 (ownL_bound t.f2 H.kids) (fun b hb => keep b hb.2 (fun he => H.n2 (he ▸ H.sub b hb.1)) (fun he => (H.own b he).2 hb.1))
  have a3 : Own wf base x cs (fun b => Fx b ∧ Lies W base b) := own_move x (own_bound x hx) (fun b hb => keep b hb.2 (fun he => hdg (he ▸ hb.1)) (fun he => hd2 b hb.1 (H.own b he).1))
  have hkids := ownL_append a2 (ownL_one.2 a3) (fun b hb hc => hd2 b hc.1 (H.sub b hb.1))
  refine ⟨?_, ?_⟩
  · refine tops_back (S := S) (t := addKid t x) (u := .slice (some ⟨g1, 0, none⟩) (t.f2.length + 1) c1) (F := fun _ => True) ⟨cells, fun b => G1 b ∧ Lies W base b, fun b => (b = g1 ∨ (Gk b ∧ Lies W base b)) ∨ (Fx b ∧ Lies W base b), kc ++ cs, _, ⟨hT.row, a1, ?_, hkids, fun b hb => ?_, fun b hb => ?_, fun b hb hc => ?_, fun h => H.n1 h.1, fun h => ?_, trivial, fun _ _ => trivial, fun _ _ => trivial⟩⟩
    · show wf.ownsRow base TN 8 _ (t.f2 ++ [x]).length (kc ++ cs)
      rw [List.length_append, List.length_singleton]
      exact hT.krow
    · have hb' : g1 = b := by simpa [Value.ownBlock] using hb
      subst hb'
      refine ⟨.inl (.inl rfl), fun hc => ?_⟩
      rcases hc with hc | hc
      · rcases hat with he | he
        · exact (H.own g1 he).2 hc.1
        · have := hc.2.2.1; omega
      · rcases hat with he | he
        · exact hd2 g1 hc.1 (H.own g1 he).1
        · have := hc.2.2.1; omega
    · rcases hb with hb | hb
      · exact .inl (.inr hb)
      · exact .inr hb
    · rcases hc with (hc | hc) | hc
      · subst hc
        rcases hat with he | he
        · exact H.apart b hb.1 (H.own b he).1
        · have := hb.2.2.1; omega
      · exact H.apart b hb.1 (H.sub b hc.1)
      · exact hd1 b hc.1 hb.1
    · rcases h with (h | h) | h
      · exact hne h
      · exact H.n2 (H.sub g h.1)
      · exact hdg h.1
  · intro B w0 hB hb
    have hsz := hg.size
    refine ⟨?_, ?_, ?_, ?_, fun b hlt => ?_⟩
    · rw [hT.os, hg.os]; exact hb.os
    · rw [hT.tape, hg.tape]; exact hb.tape
    · rw [hT.output, hg.output]; exact hb.output
    · rw [hT.size]; exact Nat.le_trans hb.size hsz
    · have hbg : base ≤ g := own_base H.row g rfl
      have h1 : b ≠ g := by omega
      have hu : u.ownBlock ≠ some b := fun he => by have := own_base H.krow b he; omega
      have h2 : b ≠ g1 := by
        rcases hat with he | he
        · intro hc; exact hu (by rw [he, hc])
        · have := own_base H.row g rfl; omega
      rw [hT.far b h1 h2, hg.block b (by omega) (fun he => hu he.symm)]
      exact hb.block b hlt
end Go.Proofs.Ytfefldkljbbbpaa
