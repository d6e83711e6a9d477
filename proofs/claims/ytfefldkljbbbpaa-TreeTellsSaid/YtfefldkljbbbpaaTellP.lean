/- TreeTells: what its loops keep. -/
import Derived.Test.YtfefldkljbbbpaaToksI
import Derived.Test.YtfefldkljbbbpaaRefT
import Derived.Test.YtfefldkljbbbpaaG7
import Derived.Test.YtfefldkljbbbpaaAwake
set_option linter.unusedVariables false
set_option linter.unusedSimpArgs false
namespace Go.Proofs.Ytfefldkljbbbpaa
open Go.RowKit Go.Shelf Go.Proofs.YtfefldkljbbbpaaW.PrintWords Go.Proofs.YtfefldkljbbbpaaW.PrintLast Go.Proofs.YtfefldkljbbbpaaW.PrintMore

macro "tk_t " i:num o:term:max s:term:max : tactic => `(tactic| (refine anyR_take (i := $i) (oi := $o) (v := ?_) rfl (by kernel_rfl) (fun _ _ _ h => h) (Or.inl ⟨by rfl, ?_⟩) $s ?_; rotate_left))
macro "tk_s" : tactic => `(tactic| try simp only [Act.put, List.setIfInBounds_toArray, List.set_cons_zero, List.set_cons_succ])
macro "tk_y" : tactic => `(tactic| (intro w9 hSw; (try dsimp only at hSw); go_simp; try (with_reducible rfl)))
theorem tells_pos (x : Nd) : 0 < (tells x).length := by
  rw [tells_eq]
  split <;> simp
theorem infoE8 : (Try.prog.info? 32).map (·.size) = some 8 := by kernel_rfl
def ev77 : List Value := [.int .u8 77, .int .u8 0, .int .u8 0, .string ⟨#[]⟩, .int .i64 0, .int .i64 0, .int .i64 0, .int .i64 0]
theorem ev77_one : ∀ u ∈ ev77, u.oneCell' = true := by
  intro u hu
  simp only [ev77, List.mem_cons, List.not_mem_nil, or_false] at hu
  rcases hu with h | h | h | h | h | h | h | h <;> subst h <;> rfl
/-- The row of events, overwritten or not; all else as it was. -/
structure EInv (w8 : World) (g n : Nat) (V : World) : Prop where
  grown : w8.grownBy V (some g)
  row : ∃ cs : Array Value, V.heap[g]? = some (.cells cs 32 (0, 0)) ∧ n * 8 ≤ cs.size
theorem EInv.start {w6 w8 : World} {base g n c : Nat} {ok : Nat → Prop} {xs : List Ev} (h : Kd.R kEv 32 w6 base ok (.slice (some ⟨g, 0, none⟩) n c) xs) (hn : xs.length = n) (hp : 0 < n) (hb : Below w6.heap.size w6 w8) : EInv w8 g n w8 := by
  obtain ⟨inner, ho⟩ := Kd.R_own h
  rcases ho.2 with ⟨he, _⟩ | ⟨g', cap, cur, he, _, hh, h1, _, hs, _⟩
  · cases he
  · injection he with he _ hc
    injection he with he
    injection he with he
    subst he
    refine ⟨World.grownBy.refl _ _, cur, (hb.block _ (blk_lt hh)).trans hh, ?_⟩
    rw [hs, ← hn]
    exact Nat.mul_le_mul_right _ h1
theorem EInv.next {w8 V : World} {g n i : Nat} (h : EInv w8 g n V) (hi : i < n) : ∃ cs : Array Value, V.heap[g]? = some (.cells cs 32 (0, 0)) ∧ i * 8 + ev77.length ≤ cs.size ∧ ∀ V', V' = V.setCells g (i * 8) ev77 → EInv w8 g n V' := by
  obtain ⟨cs, hc, hs⟩ := h.row
  have hf : i * 8 + ev77.length ≤ cs.size := by simp only [ev77, List.length_cons, List.length_nil]; omega
  refine ⟨cs, hc, hf, ?_⟩
  rintro _ rfl
  obtain ⟨cur', k1, k2, _⟩ := setCells_row ev77 (i * 8) V _ hc hf
  exact ⟨World.grownBy.trans h.grown (setCells_grown V g (i * 8) ev77), cur', k1, by rw [k2]; exact hs⟩
theorem eq_nilFunc (f : Fn) (ts cs : Array Value) (w : World) : Sem.run Try.prog (binOp BinOp.eql 51 (Value.func f ts cs) Value.nilFunc) w = Result.ok (.bool false) w := by
  first
  | rfl
  | simp [go_sem, binOp]
  | (trace_state; sorry)
def noPanic (Q : Exit → Act → World → Prop) : Exit → Act → World → Prop
  | .panic _, _, _ => False
  | e, a, w => Q e a w
theorem noPanic_out {Q : Exit → Act → World → Prop} (e : Exit) (a : Act) (w : World) (h : noPanic Q e a w) : Q e a w := by
  cases e <;> first | exact h | exact False.elim h

/-- All that the checks read, ahead of them. -/
structure TAt (w : World) (W0 w3 w4 w10 w11 w12 g : Nat) (x : Nd) (A A10 : Option Addr) (c c10 : Nat) (E : Int) : Prop where
  early : Boxed w (W0 + 1) 3 (.int .i64 E)
  res : Boxed w (W0 + 1 + 1) 4 (.bool false)
  tks : Boxed w w10 48 (.slice A10 (toks x).length c10)
  seq : Boxed w w12 51 (.func (.func 32) #[] #[.pointer (some ⟨w11, 0, none⟩)])
  bn : w.heap[w11]? = some (.cells #[.int .u8 x.f0, .int .u8 x.f1.f0, .string x.f1.f1, .int .i64 x.f1.f2.f0, .int .i64 x.f1.f2.f1, .int .i64 x.f1.f2.f2, .int .i64 x.f1.f3, .slice (some ⟨g, 0, none⟩) x.f2.length (x.f2.length + 1)] TN (0, 0))
  bx : w.heap[w4]? = some (.cells #[.int .u8 x.f0, .int .u8 x.f1.f0, .string x.f1.f1, .int .i64 x.f1.f2.f0, .int .i64 x.f1.f2.f1, .int .i64 x.f1.f2.f2, .int .i64 x.f1.f3, .slice (some ⟨g, 0, none⟩) x.f2.length (x.f2.length + 1)] TN (0, 0))
  bm : w.heap[W0]? = some (.cells #[.int .u8 x.f0, .int .u8 x.f1.f0, .string x.f1.f1, .int .i64 x.f1.f2.f0, .int .i64 x.f1.f2.f1, .int .i64 x.f1.f2.f2, .int .i64 x.f1.f3, .slice A x.f2.length c] TN (0, 0))
  cop : Cop w w3 x (ndCells x.f0 x.f1 (.slice (some ⟨g, 0, none⟩) x.f2.length (x.f2.length + 1)))
  row : Kd.C kTk w A10 (toks x).length (toks x)
  kid : Kd.C kNd w A x.f2.length x.f2
theorem TAt.below {w V : World} {W0 w3 w4 w10 w11 w12 g : Nat} {x : Nd} {A A10 : Option Addr} {c c10 : Nat} {E : Int} (h : TAt w W0 w3 w4 w10 w11 w12 g x A A10 c c10 E) (hb : Below w.heap.size w V) : TAt V W0 w3 w4 w10 w11 w12 g x A A10 c c10 E :=
  ⟨(hb.block _ h.early.lt).trans h.early, (hb.block _ h.res.lt).trans h.res, (hb.block _ h.tks.lt).trans h.tks, (hb.block _ h.seq.lt).trans h.seq, (hb.block _ (blk_lt h.bn)).trans h.bn, (hb.block _ (blk_lt h.bx)).trans h.bx, (hb.block _ (blk_lt h.bm)).trans h.bm, cop_below h.cop hb, Kd.C_below h.row hb, Kd.C_below h.kid hb⟩
theorem KpT.setBox {w0 W : World} {b : Nat} {u : Value} (v : Value) (h : Boxed W b 3 u) (hb : w0.heap.size ≤ b) : KpT w0 W (W.setCell ⟨b, 0, none⟩ v) := by
  have hg := grownBy_setCell' W b v
  refine ⟨(Below.refl _ W).setCell (p := ⟨b, 0, none⟩) hb v, fun b' D hD => ?_, fun b' D hD => ?_⟩
  · refine (hg.block b' (blk_lt hD) (fun e => ?_)).trans hD
    cases e
    rw [show W.heap[b]? = _ from h] at hD
    cases hD
  · refine (hg.block b' (blk_lt hD) (fun e => ?_)).trans hD
    cases e
    rw [show W.heap[b]? = _ from h] at hD
    cases hD
theorem KpT.drew (w0 W : World) : KpT w0 W W.drew := ⟨(Below.refl _ W).drew, fun _ _ h => h, fun _ _ h => h⟩
theorem KpT.alloc {w0 W : World} (h : w0.heap.size ≤ W.heap.size) (o : Obj) : KpT w0 W (W.alloc o) := KpT.of_below ((Below.refl _ W).alloc (Nat.le_refl _) o) h
theorem KpT.putObj {w0 W : World} {l : Nat} {o : Obj} (o' : Obj) (hl : w0.heap.size ≤ l) (h : W.heap[l]? = some o) (hc : o.isCells = false) : KpT w0 W (W.putObj l o') := by
  have hg := grownBy_putObj' W l o'
  refine ⟨(Below.refl _ W).grown hg (Nat.le_trans hl (Nat.le_of_lt (blk_lt h))) (fun k e => by cases e; exact hl), fun b' D hD => ?_, fun b' D hD => ?_⟩
  · refine (hg.block b' (blk_lt hD) (fun e => ?_)).trans hD
    cases e
    rw [h] at hD
    cases hD
    cases hc
  · refine (hg.block b' (blk_lt hD) (fun e => ?_)).trans hD
    cases e
    rw [h] at hD
    cases hD
    cases hc
theorem kpt_own {β : Type} {w0 V : World} {B : Nat} (hB : w0.heap.size ≤ B) (hV : w0.heap.size ≤ V.heap.size) : OwnFrom B (fun (_ : β) W => KpT w0 V W) := by
  intro _ X Y row hs hg hr
  refine ⟨hs.below.grown hg (Nat.le_trans hV hs.below.size) (fun k e => Nat.le_trans hB (hr k e).1), fun b D hD => ?_, fun b D hD => ?_⟩
  · have hX := hs.y b D hD
    refine (hg.block b (blk_lt hX) (fun e => ?_)).trans hX
    obtain ⟨_, o, ho, hc⟩ := hr b e.symm
    rw [hX] at ho; cases ho; cases hc
  · have hX := hs.w b D hD
    refine (hg.block b (blk_lt hX) (fun e => ?_)).trans hX
    obtain ⟨_, o, ho, hc⟩ := hr b e.symm
    rw [hX] at ho; cases ho; cases hc
/-- A range over the tokens, with a count in the box b. -/
structure LI (w0 V : World) (B b : Nat) (L pre : List Tk) (W : World) : Prop where
  kp : KpT w0 V W
  keeps : KeepsFrom B V W
  box : Boxed W b 3 (.int .i64 (pre.length : Nat))
  pre : pre <+: L
theorem LI.own {w0 V : World} {B b B' : Nat} {L : List Tk} (h1 : w0.heap.size ≤ V.heap.size) (h2 : V.heap.size ≤ B') : OwnFrom B' (LI w0 V B b L) := by
  intro pre X Y row hs hg hr
  exact ⟨kpt_own (β := Unit) (Nat.le_trans h1 h2) h1 () X Y row hs.kp hg hr, ownFrom_keepsFrom (β := Unit) h2 () X Y row hs.keeps hg hr, Own.from (boxed_own (β := Unit) b _ (fun _ => .int .i64 (pre.length : Nat))) _ () X Y row hs.box hg hr, hs.pre⟩
theorem LI.alloc {w0 V W : World} {B b : Nat} {L pre : List Tk} (h : LI w0 V B b L pre W) (h1 : w0.heap.size ≤ V.heap.size) (o : Obj) : LI w0 V B b L pre (W.alloc o) :=
  ⟨h.kp.trans (KpT.alloc (Nat.le_trans h1 h.kp.below.size) o), h.keeps.trans ((KeepsOthers.alloc _ _).from _), h.box.alloc _, h.pre⟩
theorem LI.next {w0 V W : World} {B b : Nat} {L pre : List Tk} {t : Tk} (h : LI w0 V B b L pre W) (hb : w0.heap.size ≤ b) (hp : pre ++ [t] <+: L) : LI w0 V B b L (pre ++ [t]) (W.setCell ⟨b, 0, none⟩ (.int .i64 ((pre.length : Int) + 1))) :=
  ⟨h.kp.trans (KpT.setBox _ h.box hb), h.keeps.trans ((KeepsOthers.setCell _ _ _).from _), by
    have hl : (((pre ++ [t]).length : Nat) : Int) = (pre.length : Int) + 1 := by simp
    rw [hl]
    exact h.box.set _, hp⟩
theorem LI.drew {w0 V W : World} {B b : Nat} {L pre : List Tk} (h : LI w0 V B b L pre W) : LI w0 V B b L pre W.drew :=
  ⟨h.kp.trans (KpT.drew _ _), h.keeps.trans ((KeepsOthers.drew _).from _), h.box, h.pre⟩
theorem tok_pre {L pre : List Tk} {t u : Tk} (hp : pre <+: L) (hu : L[pre.length]? = some u) : pre ++ [t] <+: L ↔ t = u := by
  obtain ⟨r, rfl⟩ := hp
  have hr : r[0]? = some u := by simpa [List.getElem?_append_right] using hu
  cases r with
  | nil => cases hr
  | cons a r =>
    simp only [List.getElem?_cons_zero, Option.some.injEq] at hr
    subst hr
    constructor
    · rintro ⟨s, hs⟩
      rw [List.append_assoc] at hs
      have := List.append_cancel_left hs
      simp at this
      exact this.1
    · rintro rfl
      exact ⟨r, by simp⟩
theorem tok_at {w : World} {A : Option Addr} {n : Nat} {l : List Tk} (h : Kd.C kTk w A n l) (i : Nat) (x : Tk) (hi : i < n) (hx : l[i]? = some x) : ∃ ad, A = some ad ∧ w.cell? (ad.add (i * 6)) = some (.int .u8 x.f0) ∧ w.cell? ⟨(ad.add (i * 6)).block, (ad.add (i * 6)).off + 1, none⟩ = some (.string x.f1) ∧ w.cell? ⟨(ad.add (i * 6)).block, (ad.add (i * 6)).off + 2, none⟩ = some (.int .i64 x.f2.f0) ∧ w.cell? ⟨(ad.add (i * 6)).block, (ad.add (i * 6)).off + 3, none⟩ = some (.int .i64 x.f2.f1) ∧ w.cell? ⟨(ad.add (i * 6)).block, (ad.add (i * 6)).off + 4, none⟩ = some (.int .i64 x.f2.f2) ∧ w.cell? ⟨(ad.add (i * 6)).block, (ad.add (i * 6)).off + 5, none⟩ = some (.int .i64 x.f3) := by
  obtain ⟨ad, h0, k0, k1, k2, k3, k4, k5⟩ := PTreeSame.at_T30 h (i : Int) (by omega) (by omega)
  have hr : PTreeSame.rd_T30 l (i : Int) = x := by simp [PTreeSame.rd_T30, List.getD, hx]
  rw [hr] at k0 k1 k2 k3 k4 k5
  rw [Int.toNat_natCast] at k0 k1 k2 k3 k4 k5
  exact ⟨ad, h0, k0, k1, k2, k3, k4, k5⟩
theorem own_or {β : Type} {B : Nat} {I : β → World → Prop} (h : OwnFrom B I) (p : Prop) (q r : β → Prop) : OwnFrom B (fun s W => (p ∧ I s W ∧ q s) ∨ r s) := by
  rintro s X Y row (⟨a, b, c⟩ | h') hg hr
  · exact .inl ⟨a, h s X Y row b hg hr, c⟩
  · exact .inr h'
theorem wpIn_post {F : Fence} {n : Nat} {P : Program} {c : Code} {Q : Exit → Act → World → Prop} {a : Act} {w : World} (R : Act → World → Prop) (h2 : ∀ a w, R a w → Q .normal a w) (h3 : ∀ a w, Q .normal a w → Q (.exit 2) a w)
    (h1 : c.wpIn F n P (fun e a w => (e = .normal ∨ e = .exit 2) ∧ R a w) a w) : c.wpIn F n P Q a w := by
  refine wpIn_mono h1 ?_
  rintro e a w ⟨rfl | rfl, h⟩
  · exact h2 a w h
  · exact h3 a w (h2 a w h)
theorem tk_neq {t u : Tk} {b : Bool} (hb : b = false ↔ t = u) (w : World) : (if t.f0 = u.f0 then if t.f1.toList = u.f1.toList then if t.f2.f0 = u.f2.f0 then if t.f2.f1 = u.f2.f1 then if t.f2.f2 = u.f2.f2 then if t.f3 = u.f3 then Result.ok (Next.value (Value.bool false)) w
              else Result.ok (Next.value (Value.bool true)) w
            else Result.ok (Next.value (Value.bool true)) w
          else Result.ok (Next.value (Value.bool true)) w
        else Result.ok (Next.value (Value.bool true)) w
      else Result.ok (Next.value (Value.bool true)) w
    else Result.ok (Next.value (Value.bool true)) w) = Result.ok (Next.value (Value.bool b)) w := by
  cases b with
  | false =>
    have h := hb.1 rfl
    subst h
    simp
  | true =>
    have h : ¬ t = u := fun h => by have := hb.2 h; cases this
    obtain ⟨t0, t1, ⟨t2, t3, t4⟩, t5⟩ := t
    obtain ⟨u0, u1, ⟨u2, u3, u4⟩, u5⟩ := u
    simp only
    repeat' split
    all_goals first | rfl | skip
    rename_i a1 a2 a3 a4 a5 a6
    exact absurd (by rw [a1, (str_eq _ _).1 a2, a3, a4, a5, a6]) h
theorem wpIn_postN {F : Fence} {n : Nat} {P : Program} {c : Code} {Q : Exit → Act → World → Prop} {a : Act} {w : World} (R : Act → World → Prop) (h2 : ∀ a w, R a w → Q .normal a w)
    (h1 : c.wpIn F n P (fun e a w => e = .normal ∧ R a w) a w) : c.wpIn F n P Q a w := by
  refine wpIn_mono h1 ?_
  rintro e a w ⟨rfl, h⟩
  exact h2 a w h
end Go.Proofs.Ytfefldkljbbbpaa
