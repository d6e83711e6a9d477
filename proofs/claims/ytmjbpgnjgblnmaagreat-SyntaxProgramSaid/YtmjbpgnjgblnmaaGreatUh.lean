/- What the claim stands on: part Uh. -/
import Derived.Test.YtmjbpgnjgblnmaaGreatUg
set_option maxRecDepth 100000
set_option maxHeartbeats 8000000
set_option linter.unusedVariables false
set_option linter.unusedSimpArgs false
namespace Go.Proofs.YtmjbpgnjgblnmaaGreat
open Go.RowKit Go.Proofs.YtmjbpgnjgblnmaaGreatW.PrintWords Go.Proofs.YtmjbpgnjgblnmaaGreatW.PrintLast Go.Proofs.YtmjbpgnjgblnmaaGreatW.PrintMore
abbrev begL : List ByteArray := [⟨#[64, 110, 117, 109, 98, 101, 114]⟩, ⟨#[64, 116, 101, 120, 116]⟩, ⟨#[64, 99, 104, 97, 114]⟩, ⟨#[64, 110, 97, 109, 101]⟩, ⟨#[45]⟩, ⟨#[110, 111, 116]⟩, ⟨#[40]⟩]
theorem code_kind {t : Tk} {k : Int} {x : ByteArray} (h : (k = 1 ∧ x = ⟨#[64, 110, 97, 109, 101]⟩) ∨ (k = 3 ∧ x = ⟨#[64, 110, 117, 109, 98, 101, 114]⟩) ∨ (k = 4 ∧ x = ⟨#[64, 116, 101, 120, 116]⟩) ∨ (k = 5 ∧ x = ⟨#[64, 99, 104, 97, 114]⟩)) : (t.f0 == k) = true ↔ codeOf t = x := by
 rw [beq_iff_eq]
 have hx : bt x 0 = 64 := by rcases h with ⟨-, rfl⟩ | ⟨-, rfl⟩ | ⟨-, rfl⟩ | ⟨-, rfl⟩ <;> decide
 constructor
 ·intro h1
  unfold codeOf codeF
  rw [h1]
  rcases h with ⟨rfl, rfl⟩ | ⟨rfl, rfl⟩ | ⟨rfl, rfl⟩ | ⟨rfl, rfl⟩ <;> rfl
 ·intro h1
  have hn : ∀ y : ByteArray, ¬ bt y 0 = 64 → ¬ y = x := fun y hy e => hy (by rw [e]; exact hx)
  unfold codeOf codeF at h1
  by_cases c1 : t.f0 = 1
  ·rw [if_pos c1] at h1
   rcases h with ⟨rfl, rfl⟩ | ⟨rfl, rfl⟩ | ⟨rfl, rfl⟩ | ⟨rfl, rfl⟩
   ·exact c1
   all_goals exact absurd h1 (by decide)
  rw [if_neg c1] at h1
  by_cases c3 : t.f0 = 3
  ·rw [if_pos c3] at h1
   rcases h with ⟨rfl, rfl⟩ | ⟨rfl, rfl⟩ | ⟨rfl, rfl⟩ | ⟨rfl, rfl⟩
   ·exact absurd h1 (by decide)
   ·exact c3
   all_goals exact absurd h1 (by decide)
  rw [if_neg c3] at h1
  by_cases c4 : t.f0 = 4
  ·rw [if_pos c4] at h1
   rcases h with ⟨rfl, rfl⟩ | ⟨rfl, rfl⟩ | ⟨rfl, rfl⟩ | ⟨rfl, rfl⟩
   ·exact absurd h1 (by decide)
   ·exact absurd h1 (by decide)
   ·exact c4
   ·exact absurd h1 (by decide)
  rw [if_neg c4] at h1
  by_cases c5 : t.f0 = 5
  ·rw [if_pos c5] at h1
   rcases h with ⟨rfl, rfl⟩ | ⟨rfl, rfl⟩ | ⟨rfl, rfl⟩ | ⟨rfl, rfl⟩
   ·exact absurd h1 (by decide)
   ·exact absurd h1 (by decide)
   ·exact absurd h1 (by decide)
   ·exact c5
  rw [if_neg c5] at h1
  exfalso
  repeat' split at h1
  all_goals first
   | (simp only [Option.getD_some] at h1; exact hn _ (by omega) h1)
   | (simp only [Option.getD_some] at h1; rcases h with ⟨-, rfl⟩ | ⟨-, rfl⟩ | ⟨-, rfl⟩ | ⟨-, rfl⟩ <;> exact absurd h1 (by decide))
   | (simp only [Option.getD_none] at h1; rcases h with ⟨-, rfl⟩ | ⟨-, rfl⟩ | ⟨-, rfl⟩ | ⟨-, rfl⟩ <;> exact absurd h1 (by decide))
theorem of_in {l : List Tk} {i : Nat} {ks : List Int} {xs : List ByteArray} (h : ∀ t : Tk, (ks.any (fun k => t.f0 == k)) = inL (codeOf t) xs) (hx : inL ⟨#[]⟩ xs = false) : ofL l i ks = inL (cAt l i) xs := by
 unfold ofL cAt
 cases l[i]? with
 | none => exact hx.symm
 | some t => exact h t
theorem eqb {t : Tk} {k : Int} {x : ByteArray} (h : (t.f0 == k) = true ↔ codeOf t = x) : (t.f0 == k) = decide (x = codeOf t) := by
 by_cases hx : codeOf t = x
 ·rw [h.2 hx, decide_eq_true hx.symm]
 ·rw [decide_eq_false (fun e => hx e.symm)]
  cases hk : (t.f0 == k)
  ·rfl
  ·exact absurd (h.1 hk) hx
theorem of_begins (l : List Tk) (i : Nat) : (ofL l i [3, 4, 5, 1] || inL (cAt l i) [⟨#[45]⟩, ⟨#[110, 111, 116]⟩, ⟨#[40]⟩]) = inL (cAt l i) begL := by
 rw [of_in (xs := [⟨#[64, 110, 117, 109, 98, 101, 114]⟩, ⟨#[64, 116, 101, 120, 116]⟩, ⟨#[64, 99, 104, 97, 114]⟩, ⟨#[64, 110, 97, 109, 101]⟩]) (fun t => by
  simp only [List.any_cons, List.any_nil, Bool.or_false, inL]
  rw [eqb (code_kind (k := 3) (.inr (.inl ⟨rfl, rfl⟩))), eqb (code_kind (k := 4) (.inr (.inr (.inl ⟨rfl, rfl⟩)))), eqb (code_kind (k := 5) (.inr (.inr (.inr ⟨rfl, rfl⟩)))), eqb (code_kind (k := 1) (.inl ⟨rfl, rfl⟩))]) (by decide)]
 simp only [inL, begL, List.any_cons, List.any_nil, Bool.or_false, Bool.or_assoc]
theorem of_name (l : List Tk) (i : Nat) : ofL l i [1] = inL (cAt l i) [⟨#[64, 110, 97, 109, 101]⟩] :=
 of_in (fun t => by
  simp only [List.any_cons, List.any_nil, Bool.or_false, inL]
  rw [eqb (code_kind (k := 1) (.inl ⟨rfl, rfl⟩))]) (by decide)
theorem of_value (l : List Tk) (i : Nat) : ofL l i [3, 4, 5] = inL (cAt l i) [⟨#[64, 110, 117, 109, 98, 101, 114]⟩, ⟨#[64, 116, 101, 120, 116]⟩, ⟨#[64, 99, 104, 97, 114]⟩] :=
 of_in (fun t => by
  simp only [List.any_cons, List.any_nil, Bool.or_false, inL]
  rw [eqb (code_kind (k := 3) (.inr (.inl ⟨rfl, rfl⟩))), eqb (code_kind (k := 4) (.inr (.inr (.inl ⟨rfl, rfl⟩)))), eqb (code_kind (k := 5) (.inr (.inr (.inr ⟨rfl, rfl⟩))))]) (by decide)
theorem begins_new {W0 : World} {A : Option Addr} {c : Nat} {l : List Tk} {w : World} {p : Nat} {i : Nat} {d : Int} {out : List Ev} {ve : Value} (H : SAt W0 A c l w p i d out ve) :
  Calls Tryz.prog 124 #[.pointer (some ⟨p, 0, none⟩)] w fun e w' => e = .returned (.bool (inL (cAt l i) begL)) ∧ Below w.heap.size w w' := by
 have HOF := zh (of_new H [3, 4, 5, 1] 4 [.int .u8 3, .int .u8 4, .int .u8 5, .int .u8 1] rfl rfl (by decide))
 have HIS := zh (fun (w1 : World) (hb : Below w.heap.size w w1) => is_new (H.moved hb) [⟨#[45]⟩, ⟨#[110, 111, 116]⟩, ⟨#[40]⟩] 3 [.string ⟨#[45]⟩, .string ⟨#[110, 111, 116]⟩, .string ⟨#[40]⟩] rfl rfl (by decide) (by decide))
 rw [← of_begins]
 obtain ⟨m, hm⟩ : ∃ m, ofL l i [3, 4, 5, 1] = m := ⟨_, rfl⟩
 obtain ⟨m2, hm2⟩ : ∃ m, inL (cAt l i) [⟨#[45]⟩, ⟨#[110, 111, 116]⟩, ⟨#[40]⟩] = m := ⟨_, rfl⟩
 rw [hm] at HOF
 rw [hm2] at HIS
 rw [hm, hm2]
 clear H hm hm2
 go_enter Tryz.func124, Tryz.ntmps124
 cases m with
 | true =>
  go_wp2_with (go_at_call 48; (with_reducible refine cM HOF.out ?_); rintro e w1 ⟨rfl, hb⟩; have HB1 := zh hb; clear hb)
  go_ret
  exact ⟨rfl, HB1.out⟩
 | false =>
  go_wp2_with (first
   | (go_at_call 48; (with_reducible refine cM HOF.out ?_); rintro e w1 ⟨rfl, hb⟩; have HB1 := zh hb; clear hb)
   | (go_at_call 47; (with_reducible refine cM (HIS.out w1 HB1.out) ?_); rintro e w2 ⟨rfl, hb⟩; have HB2 := zh (HB1.out.trans (hb.mono HB1.out.size)); clear hb))
  go_ret
  exact ⟨rfl, HB2.out⟩
theorem if_yes {l : List Tk} {n : Nat} {R : RId} {T S : List WT} {i : Nat} {d : Int} {out : List Ev} {r : SRes} (he : R.expand (cAt l i) = some [.push T]) (hr : srun l n ⟨.rule R :: S, i, d, out⟩ = some r) : srun l n ⟨T ++ S, i, d, out⟩ = some r := by
 obtain ⟨_, m, rfl, h⟩ := srun_on hr (s' := ⟨T ++ S, i, d, out⟩) (by simp [sstep, he, effs, Eff.act])
 exact srun_le h (Nat.le_succ m)
theorem if_no {l : List Tk} {n : Nat} {R : RId} {S : List WT} {i : Nat} {d : Int} {out : List Ev} {r : SRes} (he : R.expand (cAt l i) = some []) (hr : srun l n ⟨.rule R :: S, i, d, out⟩ = some r) : srun l n ⟨S, i, d, out⟩ = some r := by
 obtain ⟨_, m, rfl, h⟩ := srun_on hr (s' := ⟨S, i, d, out⟩) (by simp [sstep, he, effs])
 exact srun_le h (Nat.le_succ m)
section
variable {W0 : World} {A : Option Addr} {c : Nat} {l : List Tk} {w W : World} {p : Nat} {i : Nat} {d : Int} {out : List Ev} {ve : Value}
theorem node_rule (H : SAt W0 A c l w p i d out ve) (k : Nat) (ki : Int) (hk : (k : Int) = ki) (v : Value) (F : FuncId) (x : Value) (hv : v = .func (.func F) #[x] #[] ∨ v = .func (.func F) #[] #[x]) (hen : ∀ w, (callFunc F #[x]).run Tryz.prog w = .ok (.enter F #[x]) w) {T : List WT} {R : RId} (he : R.expand (cAt l i) = some [.opn k T]) {N n : Nat} (hb : BodyOK W0 A c l p ve w N F #[x] T) (hn : n ≤ N + 1) {r : SRes} (hr : srun l n ⟨[.rule R], i, d, out⟩ = some r) :
  Calls Tryz.prog 33 #[.pointer (some ⟨p, 0, none⟩), .int .u8 ki, v] w (SPost W0 A c l p ve w r) := by
 obtain ⟨_, m, rfl, h⟩ := srun_on hr (s' := ⟨T ++ [.fin k], i, d + 1, out ++ [evOf (1, k)]⟩) (by simp [sstep, he, effs, Eff.act])
 exact node_new H k ki hk v F x hv hen hb (by omega) h
theorem node_rule_at (H : SAt W0 A c l w p i d out ve) (k : Nat) (ki : Int) (hk : (k : Int) = ki) (v : Value) (F : FuncId) (x : Value) (hv : v = .func (.func F) #[x] #[] ∨ v = .func (.func F) #[] #[x]) (hen : ∀ w, (callFunc F #[x]).run Tryz.prog w = .ok (.enter F #[x]) w) {T : List WT} {R : RId} (he : R.expand (cAt l i) = some [.opn k T]) {n : Nat} (hb : ∀ (m : Nat) (w1 : World) (ve1 : Value) (r' : SRes), MStep p ve w ve1 w1 → SAt W0 A c l w1 p i (d + 1) (out ++ [evOf (1, k)]) ve1 → srun l m ⟨T, i, d + 1, out ++ [evOf (1, k)]⟩ = some r' → Calls Tryz.prog F #[x] w1 (SPost W0 A c l p ve1 w1 r')) {r : SRes} (hr : srun l n ⟨[.rule R], i, d, out⟩ = some r) :
  Calls Tryz.prog 33 #[.pointer (some ⟨p, 0, none⟩), .int .u8 ki, v] w (SPost W0 A c l p ve w r) := by
 obtain ⟨_, m, rfl, h⟩ := srun_on hr (s' := ⟨T ++ [.fin k], i, d + 1, out ++ [evOf (1, k)]⟩) (by simp [sstep, he, effs, Eff.act])
 subst hk
 exact node_at H k v F x hv hen (fun w1 ve1 r' h1 h2 h3 => hb m w1 ve1 r' h1 h2 h3) h
theorem fail_post (H : SAt W0 A c l w p i d out ve) {R : RId} (he : R.expand (cAt l i) = none) {n : Nat} {r : SRes} (hr : srun l n ⟨[.rule R], i, d, out⟩ = some r) :
  Calls Tryz.prog 39 #[.pointer (some ⟨p, 0, none⟩)] w (SPost W0 A c l p ve w r) := by
 obtain ⟨_, rfl⟩ := srun_fin hr (q := .err (if i = l.length then 121 else 120) i) (by simp [sstep, he])
 refine (fail_any H).mono ?_
 rintro e w' ⟨h1, h2⟩
 exact ⟨h1, ve, PStep.below h2⟩
theorem srun_same {R1 R2 : RId} (he : R1.expand (cAt l i) = R2.expand (cAt l i)) {n : Nat} {r : SRes} (hr : srun l n ⟨[.rule R1], i, d, out⟩ = some r) : srun l n ⟨[.rule R2], i, d, out⟩ = some r := by
 cases n with
 | zero => simp [srun] at hr
 | succ n =>
  rw [srun] at hr ⊢
  have hs : sstep l ⟨[.rule R2], i, d, out⟩ = sstep l ⟨[.rule R1], i, d, out⟩ := by simp only [sstep, he]
  rw [hs]
  exact hr
theorem one_of {cc x : ByteArray} (h : inL cc [x] = true) : cc = x := by simpa using (inL_iff _ _).1 h
theorem none_of {cc : ByteArray} {xs : List ByteArray} (h : inL cc xs = false) : ∀ x ∈ xs, ¬ cc = x := fun x hx e => by
 rw [(inL_iff cc xs).2 (e ▸ hx)] at h
 cases h
end
theorem yes_maybe {cc : ByteArray} (h : inL cc [⟨#[64, 110, 117, 109, 98, 101, 114]⟩, ⟨#[64, 116, 101, 120, 116]⟩, ⟨#[64, 99, 104, 97, 114]⟩, ⟨#[64, 110, 97, 109, 101]⟩, ⟨#[45]⟩, ⟨#[110, 111, 116]⟩, ⟨#[40]⟩] = true) : RId.expand .r_maybe cc = some [.push [.rule .r_expr]] := by
 have h1 : cc = ⟨#[64, 110, 117, 109, 98, 101, 114]⟩ ∨ cc = ⟨#[64, 116, 101, 120, 116]⟩ ∨ cc = ⟨#[64, 99, 104, 97, 114]⟩ ∨ cc = ⟨#[64, 110, 97, 109, 101]⟩ ∨ cc = ⟨#[45]⟩ ∨ cc = ⟨#[110, 111, 116]⟩ ∨ cc = ⟨#[40]⟩ := by simpa using (inL_iff _ _).1 h
 simp only [RId.expand]
 rw [if_pos h1]
theorem no_maybe {cc : ByteArray} (h : inL cc [⟨#[64, 110, 117, 109, 98, 101, 114]⟩, ⟨#[64, 116, 101, 120, 116]⟩, ⟨#[64, 99, 104, 97, 114]⟩, ⟨#[64, 110, 97, 109, 101]⟩, ⟨#[45]⟩, ⟨#[110, 111, 116]⟩, ⟨#[40]⟩] = false) : RId.expand .r_maybe cc = some [] := by
 have h1 : ¬ (cc = ⟨#[64, 110, 117, 109, 98, 101, 114]⟩ ∨ cc = ⟨#[64, 116, 101, 120, 116]⟩ ∨ cc = ⟨#[64, 99, 104, 97, 114]⟩ ∨ cc = ⟨#[64, 110, 97, 109, 101]⟩ ∨ cc = ⟨#[45]⟩ ∨ cc = ⟨#[110, 111, 116]⟩ ∨ cc = ⟨#[40]⟩) := fun hc => by
  have := (inL_iff cc [⟨#[64, 110, 117, 109, 98, 101, 114]⟩, ⟨#[64, 116, 101, 120, 116]⟩, ⟨#[64, 99, 104, 97, 114]⟩, ⟨#[64, 110, 97, 109, 101]⟩, ⟨#[45]⟩, ⟨#[110, 111, 116]⟩, ⟨#[40]⟩]).2 (by simpa using hc)
  rw [this] at h
  cases h
 simp only [RId.expand]
 rw [if_neg h1]
theorem yes_args {cc : ByteArray} (h : inL cc [⟨#[64, 110, 117, 109, 98, 101, 114]⟩, ⟨#[64, 116, 101, 120, 116]⟩, ⟨#[64, 99, 104, 97, 114]⟩, ⟨#[64, 110, 97, 109, 101]⟩, ⟨#[45]⟩, ⟨#[110, 111, 116]⟩, ⟨#[40]⟩] = true) : RId.expand .r_args cc = some [.push [.rule .r_expr, .rule .r_exprs]] := by
 have h1 : cc = ⟨#[64, 110, 117, 109, 98, 101, 114]⟩ ∨ cc = ⟨#[64, 116, 101, 120, 116]⟩ ∨ cc = ⟨#[64, 99, 104, 97, 114]⟩ ∨ cc = ⟨#[64, 110, 97, 109, 101]⟩ ∨ cc = ⟨#[45]⟩ ∨ cc = ⟨#[110, 111, 116]⟩ ∨ cc = ⟨#[40]⟩ := by simpa using (inL_iff _ _).1 h
 simp only [RId.expand]
 rw [if_pos h1]
theorem no_args {cc : ByteArray} (h : inL cc [⟨#[64, 110, 117, 109, 98, 101, 114]⟩, ⟨#[64, 116, 101, 120, 116]⟩, ⟨#[64, 99, 104, 97, 114]⟩, ⟨#[64, 110, 97, 109, 101]⟩, ⟨#[45]⟩, ⟨#[110, 111, 116]⟩, ⟨#[40]⟩] = false) : RId.expand .r_args cc = some [] := by
 have h1 : ¬ (cc = ⟨#[64, 110, 117, 109, 98, 101, 114]⟩ ∨ cc = ⟨#[64, 116, 101, 120, 116]⟩ ∨ cc = ⟨#[64, 99, 104, 97, 114]⟩ ∨ cc = ⟨#[64, 110, 97, 109, 101]⟩ ∨ cc = ⟨#[45]⟩ ∨ cc = ⟨#[110, 111, 116]⟩ ∨ cc = ⟨#[40]⟩) := fun hc => by
  have := (inL_iff cc [⟨#[64, 110, 117, 109, 98, 101, 114]⟩, ⟨#[64, 116, 101, 120, 116]⟩, ⟨#[64, 99, 104, 97, 114]⟩, ⟨#[64, 110, 97, 109, 101]⟩, ⟨#[45]⟩, ⟨#[110, 111, 116]⟩, ⟨#[40]⟩]).2 (by simpa using hc)
  rw [this] at h
  cases h
 simp only [RId.expand]
 rw [if_neg h1]
theorem yes_compared {cc : ByteArray} (h : inL cc [⟨#[61]⟩, ⟨#[35]⟩, ⟨#[60]⟩, ⟨#[60, 61]⟩, ⟨#[62]⟩, ⟨#[62, 61]⟩] = true) : RId.expand .r_compared cc = some [.push [.word cc, .rule .r_sum]] := by
 have h1 : cc = ⟨#[61]⟩ ∨ cc = ⟨#[35]⟩ ∨ cc = ⟨#[60]⟩ ∨ cc = ⟨#[60, 61]⟩ ∨ cc = ⟨#[62]⟩ ∨ cc = ⟨#[62, 61]⟩ := by simpa using (inL_iff _ _).1 h
 simp only [RId.expand]
 rw [if_pos h1]
theorem no_compared {cc : ByteArray} (h : inL cc [⟨#[61]⟩, ⟨#[35]⟩, ⟨#[60]⟩, ⟨#[60, 61]⟩, ⟨#[62]⟩, ⟨#[62, 61]⟩] = false) : RId.expand .r_compared cc = some [] := by
 have h1 : ¬ (cc = ⟨#[61]⟩ ∨ cc = ⟨#[35]⟩ ∨ cc = ⟨#[60]⟩ ∨ cc = ⟨#[60, 61]⟩ ∨ cc = ⟨#[62]⟩ ∨ cc = ⟨#[62, 61]⟩) := fun hc => by
  have := (inL_iff cc [⟨#[61]⟩, ⟨#[35]⟩, ⟨#[60]⟩, ⟨#[60, 61]⟩, ⟨#[62]⟩, ⟨#[62, 61]⟩]).2 (by simpa using hc)
  rw [this] at h
  cases h
 simp only [RId.expand]
 rw [if_neg h1]
theorem yes_assigned {cc : ByteArray} (h : inL cc [⟨#[58, 61]⟩] = true) : RId.expand .r_assigned cc = some [.push [.word ⟨#[58, 61]⟩, .rule .r_expr]] := by
 have h1 : cc = ⟨#[58, 61]⟩ := by simpa using (inL_iff _ _).1 h
 subst h1
 rfl
theorem no_assigned {cc : ByteArray} (h : inL cc [⟨#[58, 61]⟩] = false) : RId.expand .r_assigned cc = some [] := by
 have h1 : ¬ (cc = ⟨#[58, 61]⟩) := fun hc => by subst hc; exact absurd h (by decide)
 simp only [RId.expand]
 rw [if_neg h1]
theorem g_statement_2 (l : List Tk) (N : Nat) (G_object : Good l N 96 [.rule .r_object]) (G_expr : Good l N 65 [.rule .r_expr]) : GoodC l N 95 [.rule .r_object, .rule .r_assigned] := by
 intro n hn W0 A c w0 p g i d out ve r H hg hr
 show Calls Tryz.prog 95 _ w0 _
 have HP0 := zh H
 have HG0 := zh hg
 have HNN := zh hn
 have HS0 := zh (PStep.refl p (.slice none 0 0) ve w0)
 have HT0 := HS0
 have bx := cR 0 hg
 have hr0 : srun l n ⟨([.rule .r_object] ++ [.rule .r_assigned]), i, d, out⟩ = some r := hr
 have HR0 := zh hr0
 clear H hg hn hr hr0
 go_enter Tryz.func95, Tryz.ntmps95
 rcases srun_app l n [.rule .r_object] [.rule .r_assigned] i d out r HR0.out with ⟨er, jj, rfl, h1⟩ | ⟨i1, d1, out1, h1, hr1⟩
 ·skip
  have HX1 := zh h1
  have HC1 := zh (G_object n HNN.out W0 A c w0 p i d out ve _ HP0.out HX1.out)
  clear h1
  go_wp2_with (go_at_call 96; (with_reducible refine cM HC1.out ?_); rintro e w1 ⟨rfl, ve1, h3⟩; have HS1 := zh (HS0.out.trans h3); clear h3)
  exact ⟨rfl, rfl, ve1, HS1.out⟩
 have HR1 := zh hr1
 clear hr1
 have HX1 := zh h1
 have HC1 := zh (G_object n HNN.out W0 A c w0 p i d out ve _ HP0.out HX1.out)
 clear h1
 go_wp2_with (go_at_call 96; (with_reducible refine cM HC1.out ?_); rintro e w1 ⟨rfl, ve1, h2, h3⟩; have HP1 := zh h2; have HS1 := zh (HS0.out.trans h3); have HG1 := zh (mkeep (HT0.out.trans h3) HP0.out HG0.out); have HT1 := zh (HT0.out.trans h3); clear bx; have bx := cR 0 HG1.out; clear h2 h3)
 by_cases hin2' : inL (cAt l i1) [⟨#[58, 61]⟩] = true
 ·have hin2 := hin2'
  clear hin2'
  have hr2 : srun l n ⟨([.word ⟨#[58, 61]⟩] ++ [.rule .r_expr]), i1, d1, out1⟩ = some r := by
   have h := if_yes (S := []) (yes_assigned hin2) HR1.out
   exact (by simpa using h)
  have HR2 := zh hr2
  clear hr2
  have HI2 := zh hin2
  have HC2 := zh ((by have h := is_new HP1.out [⟨#[58, 61]⟩] 1 [.string ⟨#[58, 61]⟩] rfl rfl (by decide) (by decide); rw [HI2.out] at h; exact h))
  clear hin2
  go_wp2_with (go_at_call 47; (with_reducible refine cM HC2.out ?_); rintro e w2 ⟨rfl, hb⟩; have h3 : MStep p ve1 w1 ve1 w2 := PStep.below hb; have HP2 := zh (HP1.out.moved hb); have HS2 := zh (HS1.out.trans h3); have HG2 := zh (mkeep (HT1.out.trans h3) HP0.out HG0.out); have HT2 := zh (HT1.out.trans h3); clear bx; have bx := cR 0 HG2.out; clear hb h3)
  rcases srun_app l n [.word ⟨#[58, 61]⟩] [.rule .r_expr] i1 d1 out1 r HR2.out with ⟨er, jj, rfl, h3⟩ | ⟨i3, d3, out3, h3, hr3⟩
  ·skip
   have HX3 := zh h3
   have HC3 := zh (words_new HP2.out [⟨#[58, 61]⟩] 1 [.string ⟨#[58, 61]⟩] rfl rfl (by decide) (by decide) HX3.out)
   clear h3
   go_wp2_with (go_at_call 36; (with_reducible refine cM HC3.out ?_); rintro e w3 ⟨rfl, ve3, h3⟩; have HS3 := zh (HS2.out.trans h3); clear h3)
   exact ⟨rfl, rfl, ve3, HS3.out⟩
  have HR3 := zh hr3
  clear hr3
  have HX3 := zh h3
  have HC3 := zh (words_new HP2.out [⟨#[58, 61]⟩] 1 [.string ⟨#[58, 61]⟩] rfl rfl (by decide) (by decide) HX3.out)
  clear h3
  go_wp2_with (go_at_call 36; (with_reducible refine cM HC3.out ?_); rintro e w3 ⟨rfl, ve3, h2, h3⟩; have HP3 := zh h2; have HS3 := zh (HS2.out.trans h3); have HG3 := zh (mkeep (HT2.out.trans h3) HP0.out HG0.out); have HT3 := zh (HT2.out.trans h3); clear bx; have bx := cR 0 HG3.out; clear h2 h3)
  have h4 := HR3.out
  cases r with
  | ok i4 d4 out4 =>
   have HX4 := zh h4
   have HC4 := zh (G_expr n HNN.out W0 A c w3 p i3 d3 out3 ve3 _ HP3.out HX4.out)
   clear h4
   go_wp2_with (go_at_call 65; (with_reducible refine cM HC4.out ?_); rintro e w4 ⟨rfl, ve4, h2, h3⟩; have HP4 := zh h2; have HS4 := zh (HS3.out.trans h3); have HG4 := zh (mkeep (HT3.out.trans h3) HP0.out HG0.out); have HT4 := zh (HT3.out.trans h3); clear bx; have bx := cR 0 HG4.out; clear h2 h3)
   go_end0
   exact ⟨rfl, ve4, HP4.out, HS4.out⟩
  | err er jj =>
   have HX4 := zh h4
   have HC4 := zh (G_expr n HNN.out W0 A c w3 p i3 d3 out3 ve3 _ HP3.out HX4.out)
   clear h4
   go_wp2_with (go_at_call 65; (with_reducible refine cM HC4.out ?_); rintro e w4 ⟨rfl, ve4, h3⟩; have HS4 := zh (HS3.out.trans h3); clear h3)
   exact ⟨rfl, rfl, ve4, HS4.out⟩
 ·have hin2 : inL (cAt l i1) [⟨#[58, 61]⟩] = false := by simpa using hin2'
  clear hin2'
  have hr2 : srun l n ⟨[], i1, d1, out1⟩ = some r := if_no (no_assigned hin2) HR1.out
  obtain ⟨_, rfl⟩ := srun_fin hr2 (q := .ok i1 d1 out1) rfl
  (try clear hr2)
  have HI2 := zh hin2
  have HC2 := zh ((by have h := is_new HP1.out [⟨#[58, 61]⟩] 1 [.string ⟨#[58, 61]⟩] rfl rfl (by decide) (by decide); rw [HI2.out] at h; exact h))
  clear hin2
  go_wp2_with (go_at_call 47; (with_reducible refine cM HC2.out ?_); rintro e w2 ⟨rfl, hb⟩; have h3 : MStep p ve1 w1 ve1 w2 := PStep.below hb; have HP2 := zh (HP1.out.moved hb); have HS2 := zh (HS1.out.trans h3); have HG2 := zh (mkeep (HT1.out.trans h3) HP0.out HG0.out); have HT2 := zh (HT1.out.trans h3); clear bx; have bx := cR 0 HG2.out; clear hb h3)
  go_end0
  exact ⟨rfl, ve1, HP2.out, HS2.out⟩
theorem g_other_2 (l : List Tk) (N : Nat) (G_expr : Good l N 65 [.rule .r_expr]) : GoodC l N 123 [.word ⟨#[114, 101, 116, 117, 114, 110]⟩, .rule .r_maybe] := by
 intro n hn W0 A c w0 p g i d out ve r H hg hr
 show Calls Tryz.prog 123 _ w0 _
 have HP0 := zh H
 have HG0 := zh hg
 have HNN := zh hn
 have HS0 := zh (PStep.refl p (.slice none 0 0) ve w0)
 have HT0 := HS0
 have bx := cR 0 hg
 have hr0 : srun l n ⟨([.word ⟨#[114, 101, 116, 117, 114, 110]⟩] ++ [.rule .r_maybe]), i, d, out⟩ = some r := hr
 have HR0 := zh hr0
 clear H hg hn hr hr0
 go_enter Tryz.func123, Tryz.ntmps123
 rcases srun_app l n [.word ⟨#[114, 101, 116, 117, 114, 110]⟩] [.rule .r_maybe] i d out r HR0.out with ⟨er, jj, rfl, h1⟩ | ⟨i1, d1, out1, h1, hr1⟩
 ·skip
  have HX1 := zh h1
  have HC1 := zh (words_new HP0.out [⟨#[114, 101, 116, 117, 114, 110]⟩] 1 [.string ⟨#[114, 101, 116, 117, 114, 110]⟩] rfl rfl (by decide) (by decide) HX1.out)
  clear h1
  go_wp2_with (go_at_call 36; (with_reducible refine cM HC1.out ?_); rintro e w1 ⟨rfl, ve1, h3⟩; have HS1 := zh (HS0.out.trans h3); clear h3)
  exact ⟨rfl, rfl, ve1, HS1.out⟩
 have HR1 := zh hr1
 clear hr1
 have HX1 := zh h1
 have HC1 := zh (words_new HP0.out [⟨#[114, 101, 116, 117, 114, 110]⟩] 1 [.string ⟨#[114, 101, 116, 117, 114, 110]⟩] rfl rfl (by decide) (by decide) HX1.out)
 clear h1
 go_wp2_with (go_at_call 36; (with_reducible refine cM HC1.out ?_); rintro e w1 ⟨rfl, ve1, h2, h3⟩; have HP1 := zh h2; have HS1 := zh (HS0.out.trans h3); have HG1 := zh (mkeep (HT0.out.trans h3) HP0.out HG0.out); have HT1 := zh (HT0.out.trans h3); clear bx; have bx := cR 0 HG1.out; clear h2 h3)
 by_cases hin2' : inL (cAt l i1) [⟨#[64, 110, 117, 109, 98, 101, 114]⟩, ⟨#[64, 116, 101, 120, 116]⟩, ⟨#[64, 99, 104, 97, 114]⟩, ⟨#[64, 110, 97, 109, 101]⟩, ⟨#[45]⟩, ⟨#[110, 111, 116]⟩, ⟨#[40]⟩] = true
 ·have hin2 := hin2'
  clear hin2'
  have hr2 : srun l n ⟨[.rule .r_expr], i1, d1, out1⟩ = some r := by
   have h := if_yes (S := []) (yes_maybe hin2) HR1.out
   exact (by simpa using h)
  have HR2 := zh hr2
  clear hr2
  have HI2 := zh hin2
  have HC2 := zh ((by have h := begins_new HP1.out; rw [HI2.out] at h; exact h))
  clear hin2
  go_wp2_with (go_at_call 124; (with_reducible refine cM HC2.out ?_); rintro e w2 ⟨rfl, hb⟩; have h3 : MStep p ve1 w1 ve1 w2 := PStep.below hb; have HP2 := zh (HP1.out.moved hb); have HS2 := zh (HS1.out.trans h3); have HG2 := zh (mkeep (HT1.out.trans h3) HP0.out HG0.out); have HT2 := zh (HT1.out.trans h3); clear bx; have bx := cR 0 HG2.out; clear hb h3)
  have h3 := HR2.out
  cases r with
  | ok i3 d3 out3 =>
   have HX3 := zh h3
   have HC3 := zh (G_expr n HNN.out W0 A c w2 p i1 d1 out1 ve1 _ HP2.out HX3.out)
   clear h3
   go_wp2_with (go_at_call 65; (with_reducible refine cM HC3.out ?_); rintro e w3 ⟨rfl, ve3, h2, h3⟩; have HP3 := zh h2; have HS3 := zh (HS2.out.trans h3); have HG3 := zh (mkeep (HT2.out.trans h3) HP0.out HG0.out); have HT3 := zh (HT2.out.trans h3); clear bx; have bx := cR 0 HG3.out; clear h2 h3)
   go_end0
   exact ⟨rfl, ve3, HP3.out, HS3.out⟩
  | err er jj =>
   have HX3 := zh h3
   have HC3 := zh (G_expr n HNN.out W0 A c w2 p i1 d1 out1 ve1 _ HP2.out HX3.out)
   clear h3
   go_wp2_with (go_at_call 65; (with_reducible refine cM HC3.out ?_); rintro e w3 ⟨rfl, ve3, h3⟩; have HS3 := zh (HS2.out.trans h3); clear h3)
   exact ⟨rfl, rfl, ve3, HS3.out⟩
 ·have hin2 : inL (cAt l i1) [⟨#[64, 110, 117, 109, 98, 101, 114]⟩, ⟨#[64, 116, 101, 120, 116]⟩, ⟨#[64, 99, 104, 97, 114]⟩, ⟨#[64, 110, 97, 109, 101]⟩, ⟨#[45]⟩, ⟨#[110, 111, 116]⟩, ⟨#[40]⟩] = false := by simpa using hin2'
  clear hin2'
  have hr2 : srun l n ⟨[], i1, d1, out1⟩ = some r := if_no (no_maybe hin2) HR1.out
  obtain ⟨_, rfl⟩ := srun_fin hr2 (q := .ok i1 d1 out1) rfl
  (try clear hr2)
  have HI2 := zh hin2
  have HC2 := zh ((by have h := begins_new HP1.out; rw [HI2.out] at h; exact h))
  clear hin2
  go_wp2_with (go_at_call 124; (with_reducible refine cM HC2.out ?_); rintro e w2 ⟨rfl, hb⟩; have h3 : MStep p ve1 w1 ve1 w2 := PStep.below hb; have HP2 := zh (HP1.out.moved hb); have HS2 := zh (HS1.out.trans h3); have HG2 := zh (mkeep (HT1.out.trans h3) HP0.out HG0.out); have HT2 := zh (HT1.out.trans h3); clear bx; have bx := cR 0 HG2.out; clear hb h3)
  go_end0
  exact ⟨rfl, ve1, HP2.out, HS2.out⟩
theorem g_selected_3 (l : List Tk) (N : Nat) (G_expr : Good l N 65 [.rule .r_expr]) : GoodC l N 138 [.word ⟨#[40]⟩, .rule .r_args, .word ⟨#[41]⟩] := by
 intro n hn W0 A c w0 p g i d out ve r H hg hr
 show Calls Tryz.prog 138 _ w0 _
 have HP0 := zh H
 have HG0 := zh hg
 have HNN := zh hn
 have HS0 := zh (PStep.refl p (.slice none 0 0) ve w0)
 have HT0 := HS0
 have bx := cR 0 hg
 have hr0 : srun l n ⟨([.word ⟨#[40]⟩] ++ ([.rule .r_args] ++ [.word ⟨#[41]⟩])), i, d, out⟩ = some r := hr
 have HR0 := zh hr0
 clear H hg hn hr hr0
 go_enter Tryz.func138, Tryz.ntmps138
 rcases srun_app l n [.word ⟨#[40]⟩] ([.rule .r_args] ++ [.word ⟨#[41]⟩]) i d out r HR0.out with ⟨er, jj, rfl, h1⟩ | ⟨i1, d1, out1, h1, hr1⟩
 ·skip
  have HX1 := zh h1
  have HC1 := zh (words_new HP0.out [⟨#[40]⟩] 1 [.string ⟨#[40]⟩] rfl rfl (by decide) (by decide) HX1.out)
  clear h1
  go_wp2_with (go_at_call 36; (with_reducible refine cM HC1.out ?_); rintro e w1 ⟨rfl, ve1, h3⟩; have HS1 := zh (HS0.out.trans h3); clear h3)
  exact ⟨rfl, rfl, ve1, HS1.out⟩
 have HR1 := zh hr1
 clear hr1
 have HX1 := zh h1
 have HC1 := zh (words_new HP0.out [⟨#[40]⟩] 1 [.string ⟨#[40]⟩] rfl rfl (by decide) (by decide) HX1.out)
 clear h1
 go_wp2_with (go_at_call 36; (with_reducible refine cM HC1.out ?_); rintro e w1 ⟨rfl, ve1, h2, h3⟩; have HP1 := zh h2; have HS1 := zh (HS0.out.trans h3); have HG1 := zh (mkeep (HT0.out.trans h3) HP0.out HG0.out); have HT1 := zh (HT0.out.trans h3); clear bx; have bx := cR 0 HG1.out; clear h2 h3)
 by_cases hin2' : inL (cAt l i1) [⟨#[64, 110, 117, 109, 98, 101, 114]⟩, ⟨#[64, 116, 101, 120, 116]⟩, ⟨#[64, 99, 104, 97, 114]⟩, ⟨#[64, 110, 97, 109, 101]⟩, ⟨#[45]⟩, ⟨#[110, 111, 116]⟩, ⟨#[40]⟩] = true
 ·have hin2 := hin2'
  clear hin2'
  have hr2 : srun l n ⟨([.rule .r_expr, .rule .r_exprs] ++ [.word ⟨#[41]⟩]), i1, d1, out1⟩ = some r := by
   have h := if_yes (S := [.word ⟨#[41]⟩]) (yes_args hin2) HR1.out
   exact h
  have HR2 := zh hr2
  clear hr2
  have HI2 := zh hin2
  have HC2 := zh ((by have h := begins_new HP1.out; rw [HI2.out] at h; exact h))
  clear hin2
  go_wp2_with (go_at_call 124; (with_reducible refine cM HC2.out ?_); rintro e w2 ⟨rfl, hb⟩; have h3 : MStep p ve1 w1 ve1 w2 := PStep.below hb; have HP2 := zh (HP1.out.moved hb); have HS2 := zh (HS1.out.trans h3); have HG2 := zh (mkeep (HT1.out.trans h3) HP0.out HG0.out); have HT2 := zh (HT1.out.trans h3); clear bx; have bx := cR 0 HG2.out; clear hb h3)
  rcases srun_app l n [.rule .r_expr, .rule .r_exprs] [.word ⟨#[41]⟩] i1 d1 out1 r HR2.out with ⟨er, jj, rfl, h3⟩ | ⟨i3, d3, out3, h3, hr3⟩
  ·skip
   have HX3 := zh h3
   have HC3 := zh (row_new HP2.out (.func (.func 65) #[.pointer (some ⟨p, 0, none⟩)] #[]) 65 (.pointer (some ⟨p, 0, none⟩)) (.inl rfl) (fun w => enters_ Tryz.func65 (by kernel_rfl) rfl #[(.pointer (some ⟨p, 0, none⟩))] w) [⟨#[44]⟩] 1 [.string ⟨#[44]⟩] rfl rfl (by decide) (by decide) (T := [.rule .r_expr]) (R := .r_exprs) (fun cc => row_exprs cc) (G_expr.body) HNN.out HX3.out)
   clear h3
   go_wp2_with (go_at_call 68; (with_reducible refine cM HC3.out ?_); rintro e w3 ⟨rfl, ve3, h3⟩; have HS3 := zh (HS2.out.trans h3); clear h3)
   exact ⟨rfl, rfl, ve3, HS3.out⟩
  have HR3 := zh hr3
  clear hr3
  have HX3 := zh h3
  have HC3 := zh (row_new HP2.out (.func (.func 65) #[.pointer (some ⟨p, 0, none⟩)] #[]) 65 (.pointer (some ⟨p, 0, none⟩)) (.inl rfl) (fun w => enters_ Tryz.func65 (by kernel_rfl) rfl #[(.pointer (some ⟨p, 0, none⟩))] w) [⟨#[44]⟩] 1 [.string ⟨#[44]⟩] rfl rfl (by decide) (by decide) (T := [.rule .r_expr]) (R := .r_exprs) (fun cc => row_exprs cc) (G_expr.body) HNN.out HX3.out)
  clear h3
  go_wp2_with (go_at_call 68; (with_reducible refine cM HC3.out ?_); rintro e w3 ⟨rfl, ve3, h2, h3⟩; have HP3 := zh h2; have HS3 := zh (HS2.out.trans h3); have HG3 := zh (mkeep (HT2.out.trans h3) HP0.out HG0.out); have HT3 := zh (HT2.out.trans h3); clear bx; have bx := cR 0 HG3.out; clear h2 h3)
  have h4 := HR3.out
  cases r with
  | ok i4 d4 out4 =>
   have HX4 := zh h4
   have HC4 := zh (words_new HP3.out [⟨#[41]⟩] 1 [.string ⟨#[41]⟩] rfl rfl (by decide) (by decide) HX4.out)
   clear h4
   go_wp2_with (go_at_call 36; (with_reducible refine cM HC4.out ?_); rintro e w4 ⟨rfl, ve4, h2, h3⟩; have HP4 := zh h2; have HS4 := zh (HS3.out.trans h3); have HG4 := zh (mkeep (HT3.out.trans h3) HP0.out HG0.out); have HT4 := zh (HT3.out.trans h3); clear bx; have bx := cR 0 HG4.out; clear h2 h3)
   go_end0
   exact ⟨rfl, ve4, HP4.out, HS4.out⟩
  | err er jj =>
   have HX4 := zh h4
   have HC4 := zh (words_new HP3.out [⟨#[41]⟩] 1 [.string ⟨#[41]⟩] rfl rfl (by decide) (by decide) HX4.out)
   clear h4
   go_wp2_with (go_at_call 36; (with_reducible refine cM HC4.out ?_); rintro e w4 ⟨rfl, ve4, h3⟩; have HS4 := zh (HS3.out.trans h3); clear h3)
   exact ⟨rfl, rfl, ve4, HS4.out⟩
 ·have hin2 : inL (cAt l i1) [⟨#[64, 110, 117, 109, 98, 101, 114]⟩, ⟨#[64, 116, 101, 120, 116]⟩, ⟨#[64, 99, 104, 97, 114]⟩, ⟨#[64, 110, 97, 109, 101]⟩, ⟨#[45]⟩, ⟨#[110, 111, 116]⟩, ⟨#[40]⟩] = false := by simpa using hin2'
  clear hin2'
  have hr2 : srun l n ⟨[.word ⟨#[41]⟩], i1, d1, out1⟩ = some r := if_no (no_args hin2) HR1.out
  have HR2 := zh hr2
  clear hr2
  have HI2 := zh hin2
  have HC2 := zh ((by have h := begins_new HP1.out; rw [HI2.out] at h; exact h))
  clear hin2
  go_wp2_with (go_at_call 124; (with_reducible refine cM HC2.out ?_); rintro e w2 ⟨rfl, hb⟩; have h3 : MStep p ve1 w1 ve1 w2 := PStep.below hb; have HP2 := zh (HP1.out.moved hb); have HS2 := zh (HS1.out.trans h3); have HG2 := zh (mkeep (HT1.out.trans h3) HP0.out HG0.out); have HT2 := zh (HT1.out.trans h3); clear bx; have bx := cR 0 HG2.out; clear hb h3)
  have h3 := HR2.out
  cases r with
  | ok i3 d3 out3 =>
   have HX3 := zh h3
   have HC3 := zh (words_new HP2.out [⟨#[41]⟩] 1 [.string ⟨#[41]⟩] rfl rfl (by decide) (by decide) HX3.out)
   clear h3
   go_wp2_with (go_at_call 36; (with_reducible refine cM HC3.out ?_); rintro e w3 ⟨rfl, ve3, h2, h3⟩; have HP3 := zh h2; have HS3 := zh (HS2.out.trans h3); have HG3 := zh (mkeep (HT2.out.trans h3) HP0.out HG0.out); have HT3 := zh (HT2.out.trans h3); clear bx; have bx := cR 0 HG3.out; clear h2 h3)
   go_end0
   exact ⟨rfl, ve3, HP3.out, HS3.out⟩
  | err er jj =>
   have HX3 := zh h3
   have HC3 := zh (words_new HP2.out [⟨#[41]⟩] 1 [.string ⟨#[41]⟩] rfl rfl (by decide) (by decide) HX3.out)
   clear h3
   go_wp2_with (go_at_call 36; (with_reducible refine cM HC3.out ?_); rintro e w3 ⟨rfl, ve3, h3⟩; have HS3 := zh (HS2.out.trans h3); clear h3)
   exact ⟨rfl, rfl, ve3, HS3.out⟩
theorem g_rel_1 (l : List Tk) (N : Nat) (G_sum : Good l N 119 [.rule .r_sum]) : GoodC l N 118 [.rule .r_sum, .rule .r_compared] := by
 intro n hn W0 A c w0 p g i d out ve r H hg hr
 show Calls Tryz.prog 118 _ w0 _
 have HP0 := zh H
 have HG0 := zh hg
 have HNN := zh hn
 have HS0 := zh (PStep.refl p (.slice none 0 0) ve w0)
 have HT0 := HS0
 have bx := cR 0 hg
 have hr0 : srun l n ⟨([.rule .r_sum] ++ [.rule .r_compared]), i, d, out⟩ = some r := hr
 have HR0 := zh hr0
 clear H hg hn hr hr0
 go_enter Tryz.func118, Tryz.ntmps118
 rcases srun_app l n [.rule .r_sum] [.rule .r_compared] i d out r HR0.out with ⟨er, jj, rfl, h1⟩ | ⟨i1, d1, out1, h1, hr1⟩
 ·skip
  have HX1 := zh h1
  have HC1 := zh (G_sum n HNN.out W0 A c w0 p i d out ve _ HP0.out HX1.out)
  clear h1
  go_wp2_with (go_at_call 119; (with_reducible refine cM HC1.out ?_); rintro e w1 ⟨rfl, ve1, h3⟩; have HS1 := zh (HS0.out.trans h3); clear h3)
  exact ⟨rfl, rfl, ve1, HS1.out⟩
 have HR1 := zh hr1
 clear hr1
 have HX1 := zh h1
 have HC1 := zh (G_sum n HNN.out W0 A c w0 p i d out ve _ HP0.out HX1.out)
 clear h1
 go_wp2_with (go_at_call 119; (with_reducible refine cM HC1.out ?_); rintro e w1 ⟨rfl, ve1, h2, h3⟩; have HP1 := zh h2; have HS1 := zh (HS0.out.trans h3); have HG1 := zh (mkeep (HT0.out.trans h3) HP0.out HG0.out); have HT1 := zh (HT0.out.trans h3); clear bx; have bx := cR 0 HG1.out; clear h2 h3)
 by_cases hin2' : inL (cAt l i1) [⟨#[61]⟩, ⟨#[35]⟩, ⟨#[60]⟩, ⟨#[60, 61]⟩, ⟨#[62]⟩, ⟨#[62, 61]⟩] = true
 ·have hin2 := hin2'
  clear hin2'
  have hr2 : srun l n ⟨([.word (cAt l i1)] ++ [.rule .r_sum]), i1, d1, out1⟩ = some r := by
   have h := if_yes (S := []) (yes_compared hin2) HR1.out
   exact (by simpa using h)
  have HR2 := zh hr2
  clear hr2
  have HI2 := zh hin2
  have HC2 := zh ((by have h := is_new HP1.out [⟨#[61]⟩, ⟨#[35]⟩, ⟨#[60]⟩, ⟨#[60, 61]⟩, ⟨#[62]⟩, ⟨#[62, 61]⟩] 6 [.string ⟨#[61]⟩, .string ⟨#[35]⟩, .string ⟨#[60]⟩, .string ⟨#[60, 61]⟩, .string ⟨#[62]⟩, .string ⟨#[62, 61]⟩] rfl rfl (by decide) (by decide); rw [HI2.out] at h; exact h))
  clear hin2
  go_wp2_with (go_at_call 47; (with_reducible refine cM HC2.out ?_); rintro e w2 ⟨rfl, hb⟩; have h3 : MStep p ve1 w1 ve1 w2 := PStep.below hb; have HP2 := zh (HP1.out.moved hb); have HS2 := zh (HS1.out.trans h3); have HG2 := zh (mkeep (HT1.out.trans h3) HP0.out HG0.out); have HT2 := zh (HT1.out.trans h3); clear bx; have bx := cR 0 HG2.out; clear hb h3)
  rcases srun_app l n [.word (cAt l i1)] [.rule .r_sum] i1 d1 out1 r HR2.out with ⟨er, jj, rfl, h3⟩ | ⟨i3, d3, out3, h3, hr3⟩
  ·skip
   have HX3 := zh h3
   have HC3 := zh (take_word HP2.out (cAt l i1) [] (take_in (List.all_eq_true.1 (by decide : ([⟨#[61]⟩, ⟨#[35]⟩, ⟨#[60]⟩, ⟨#[60, 61]⟩, ⟨#[62]⟩, ⟨#[62, 61]⟩] : List ByteArray).all goodW = true)) HI2.out) HX3.out)
   clear h3
   go_wp2_with (go_at_call 46; (with_reducible refine cM HC3.out ?_); rintro e w3 ⟨rfl, ve3, h3⟩; have HS3 := zh (HS2.out.trans h3); clear h3)
   exact ⟨rfl, rfl, ve3, HS3.out⟩
  have HR3 := zh hr3
  clear hr3
  have HX3 := zh h3
  have HC3 := zh (take_word HP2.out (cAt l i1) [] (take_in (List.all_eq_true.1 (by decide : ([⟨#[61]⟩, ⟨#[35]⟩, ⟨#[60]⟩, ⟨#[60, 61]⟩, ⟨#[62]⟩, ⟨#[62, 61]⟩] : List ByteArray).all goodW = true)) HI2.out) HX3.out)
  clear h3
  go_wp2_with (go_at_call 46; (with_reducible refine cM HC3.out ?_); rintro e w3 ⟨rfl, ve3, h2, h3⟩; have HP3 := zh h2; have HS3 := zh (HS2.out.trans h3); have HG3 := zh (mkeep (HT2.out.trans h3) HP0.out HG0.out); have HT3 := zh (HT2.out.trans h3); clear bx; have bx := cR 0 HG3.out; clear h2 h3)
  have h4 := HR3.out
  cases r with
  | ok i4 d4 out4 =>
   have HX4 := zh h4
   have HC4 := zh (G_sum n HNN.out W0 A c w3 p i3 d3 out3 ve3 _ HP3.out HX4.out)
   clear h4
   go_wp2_with (go_at_call 119; (with_reducible refine cM HC4.out ?_); rintro e w4 ⟨rfl, ve4, h2, h3⟩; have HP4 := zh h2; have HS4 := zh (HS3.out.trans h3); have HG4 := zh (mkeep (HT3.out.trans h3) HP0.out HG0.out); have HT4 := zh (HT3.out.trans h3); clear bx; have bx := cR 0 HG4.out; clear h2 h3)
   go_end0
   exact ⟨rfl, ve4, HP4.out, HS4.out⟩
  | err er jj =>
   have HX4 := zh h4
   have HC4 := zh (G_sum n HNN.out W0 A c w3 p i3 d3 out3 ve3 _ HP3.out HX4.out)
   clear h4
   go_wp2_with (go_at_call 119; (with_reducible refine cM HC4.out ?_); rintro e w4 ⟨rfl, ve4, h3⟩; have HS4 := zh (HS3.out.trans h3); clear h3)
   exact ⟨rfl, rfl, ve4, HS4.out⟩
 ·have hin2 : inL (cAt l i1) [⟨#[61]⟩, ⟨#[35]⟩, ⟨#[60]⟩, ⟨#[60, 61]⟩, ⟨#[62]⟩, ⟨#[62, 61]⟩] = false := by simpa using hin2'
  clear hin2'
  have hr2 : srun l n ⟨[], i1, d1, out1⟩ = some r := if_no (no_compared hin2) HR1.out
  obtain ⟨_, rfl⟩ := srun_fin hr2 (q := .ok i1 d1 out1) rfl
  (try clear hr2)
  have HI2 := zh hin2
  have HC2 := zh ((by have h := is_new HP1.out [⟨#[61]⟩, ⟨#[35]⟩, ⟨#[60]⟩, ⟨#[60, 61]⟩, ⟨#[62]⟩, ⟨#[62, 61]⟩] 6 [.string ⟨#[61]⟩, .string ⟨#[35]⟩, .string ⟨#[60]⟩, .string ⟨#[60, 61]⟩, .string ⟨#[62]⟩, .string ⟨#[62, 61]⟩] rfl rfl (by decide) (by decide); rw [HI2.out] at h; exact h))
  clear hin2
  go_wp2_with (go_at_call 47; (with_reducible refine cM HC2.out ?_); rintro e w2 ⟨rfl, hb⟩; have h3 : MStep p ve1 w1 ve1 w2 := PStep.below hb; have HP2 := zh (HP1.out.moved hb); have HS2 := zh (HS1.out.trans h3); have HG2 := zh (mkeep (HT1.out.trans h3) HP0.out HG0.out); have HT2 := zh (HT1.out.trans h3); clear bx; have bx := cR 0 HG2.out; clear hb h3)
  go_end0
  exact ⟨rfl, ve1, HP2.out, HS2.out⟩
theorem yes_typed {cc : ByteArray} (h : inL cc [⟨#[58]⟩] = true) : RId.expand .r_typed cc = some [.push [.word ⟨#[58]⟩, .rule .r_kind]] := by
 have h1 : cc = ⟨#[58]⟩ := one_of h
 subst h1
 rfl
theorem no_typed {cc : ByteArray} (h : inL cc [⟨#[58]⟩] = false) : RId.expand .r_typed cc = some [] := by
 have h1 : ¬ (cc = ⟨#[58]⟩) := none_of h _ List.mem_cons_self
 simp only [RId.expand]
 rw [if_neg h1]
theorem no_params {cc : ByteArray} (h : inL cc [⟨#[40]⟩] = false) : RId.expand .r_params cc = some [] := by
 have h1 : ¬ (cc = ⟨#[40]⟩) := none_of h _ List.mem_cons_self
 simp only [RId.expand]
 rw [if_neg h1]
theorem g_proc (l : List Tk) (N : Nat) (G_proc_1 : GoodC l N 92 [.word ⟨#[40]⟩, .rule .r_param, .rule .r_moreParams, .word ⟨#[41]⟩]) (G_kind : Good l N 89 [.rule .r_kind]) (G_block : Good l N 38 [.rule .r_block]) : Good l N 66 [.word ⟨#[112, 114, 111, 99]⟩, .word ⟨#[64, 110, 97, 109, 101]⟩, .rule .r_params, .rule .r_typed, .word ⟨#[59]⟩, .rule .r_block, .word ⟨#[59]⟩] := by
 intro n hn W0 A c w p i d out ve r H hr
 show Calls Tryz.prog 66 _ w _
 have HNN := zh hn
 have hr0 : srun l n ⟨([.word ⟨#[112, 114, 111, 99]⟩] ++ ([.word ⟨#[64, 110, 97, 109, 101]⟩] ++ ([.rule .r_params] ++ ([.rule .r_typed] ++ ([.word ⟨#[59]⟩] ++ ([.rule .r_block] ++ [.word ⟨#[59]⟩])))))), i, d, out⟩ = some r := hr
 have HR0 := zh hr0
 clear hn hr hr0
 obtain ⟨w0, hw0⟩ : ∃ V, w.alloc (.cells #[.pointer (some ⟨p, 0, none⟩)] 54) = V := ⟨_, rfl⟩
 have hb0 : Below w.heap.size w w0 := by rw [← hw0]; exact (Below.refl _ w).alloc (Nat.le_refl _) _
 have hg : w0.heap[w.heap.size]? = some (.cells #[.pointer (some ⟨p, 0, none⟩)] 54 (0, 0)) := by rw [← hw0]; exact World.alloc_heap_new _ _
 have HWB := zh hw0
 have HP0 := zh (H.moved hb0)
 have HS0 := zh (PStep.below hb0 : MStep p ve w ve w0)
 have HT0 := zh (PStep.refl p (.slice none 0 0) ve w0)
 obtain ⟨g, hge⟩ : ∃ g, w.heap.size = g := ⟨_, rfl⟩
 rw [hge] at hg
 have HGE := zh hge
 have HG0 := zh hg
 have bx := cR 0 hg
 clear hw0 hb0 hg hge H
 go_enter Tryz.func66, Tryz.ntmps66
 go_upto_region 1 with (fail)
 rw [HWB.out, HGE.out]
 rcases srun_app l n [.word ⟨#[112, 114, 111, 99]⟩] ([.word ⟨#[64, 110, 97, 109, 101]⟩] ++ ([.rule .r_params] ++ ([.rule .r_typed] ++ ([.word ⟨#[59]⟩] ++ ([.rule .r_block] ++ [.word ⟨#[59]⟩]))))) i d out r HR0.out with ⟨er, jj, rfl, h1⟩ | ⟨i1, d1, out1, h1, hr1⟩
 ·skip
  have HX1 := zh h1
  have HC1 := zh (words_new HP0.out [⟨#[112, 114, 111, 99]⟩] 1 [.string ⟨#[112, 114, 111, 99]⟩] rfl rfl (by decide) (by decide) HX1.out)
  clear h1
  go_wp2_with (go_at_call 36; (with_reducible refine cM HC1.out ?_); rintro e w1 ⟨rfl, ve1, h3⟩; have HS1 := zh (HS0.out.trans h3); clear h3)
  exact ⟨rfl, rfl, ve1, HS1.out⟩
 have HR1 := zh hr1
 clear hr1
 have HX1 := zh h1
 have HC1 := zh (words_new HP0.out [⟨#[112, 114, 111, 99]⟩] 1 [.string ⟨#[112, 114, 111, 99]⟩] rfl rfl (by decide) (by decide) HX1.out)
 clear h1
 go_wp2_with (go_at_call 36; (with_reducible refine cM HC1.out ?_); rintro e w1 ⟨rfl, ve1, h2, h3⟩; have HP1 := zh h2; have HS1 := zh (HS0.out.trans h3); have HG1 := zh (mkeep (HT0.out.trans h3) HP0.out HG0.out); have HT1 := zh (HT0.out.trans h3); clear bx; have bx := cR 0 HG1.out; clear h2 h3)
 rcases srun_app l n [.word ⟨#[64, 110, 97, 109, 101]⟩] ([.rule .r_params] ++ ([.rule .r_typed] ++ ([.word ⟨#[59]⟩] ++ ([.rule .r_block] ++ [.word ⟨#[59]⟩])))) i1 d1 out1 r HR1.out with ⟨er, jj, rfl, h2⟩ | ⟨i2, d2, out2, h2, hr2⟩
 ·skip
  have HX2 := zh h2
  have HC2 := zh (name_any l N n HNN.out W0 A c w1 p i1 d1 out1 ve1 _ HP1.out HX2.out)
  clear h2
  go_wp2_with (go_at_call 37; (with_reducible refine cM HC2.out ?_); rintro e w2 ⟨rfl, ve2, h3⟩; have HS2 := zh (HS1.out.trans h3); clear h3)
  exact ⟨rfl, rfl, ve2, HS2.out⟩
 have HR2 := zh hr2
 clear hr2
 have HX2 := zh h2
 have HC2 := zh (name_any l N n HNN.out W0 A c w1 p i1 d1 out1 ve1 _ HP1.out HX2.out)
 clear h2
 go_wp2_with (go_at_call 37; (with_reducible refine cM HC2.out ?_); rintro e w2 ⟨rfl, ve2, h2, h3⟩; have HP2 := zh h2; have HS2 := zh (HS1.out.trans h3); have HG2 := zh (mkeep (HT1.out.trans h3) HP0.out HG0.out); have HT2 := zh (HT1.out.trans h3); clear bx; have bx := cR 0 HG2.out; clear h2 h3)
 by_cases hin3' : inL (cAt l i2) [⟨#[40]⟩] = true
 ·have hin3 := hin3'
  clear hin3'
  have hr3 := HR2.out
  have HR3 := zh hr3
  clear hr3
  have HI3 := zh hin3
  have HC3 := zh ((by have h := is_new HP2.out [⟨#[40]⟩] 1 [.string ⟨#[40]⟩] rfl rfl (by decide) (by decide); rw [HI3.out] at h; exact h))
  clear hin3
  go_wp2_with (go_at_call 47; (with_reducible refine cM HC3.out ?_); rintro e w3 ⟨rfl, hb⟩; have h3 : MStep p ve2 w2 ve2 w3 := PStep.below hb; have HP3 := zh (HP2.out.moved hb); have HS3 := zh (HS2.out.trans h3); have HG3 := zh (mkeep (HT2.out.trans h3) HP0.out HG0.out); have HT3 := zh (HT2.out.trans h3); clear bx; have bx := cR 0 HG3.out; clear hb h3)
  rcases srun_app l n [.rule .r_params] ([.rule .r_typed] ++ ([.word ⟨#[59]⟩] ++ ([.rule .r_block] ++ [.word ⟨#[59]⟩]))) i2 d2 out2 r HR3.out with ⟨er, jj, rfl, h4⟩ | ⟨i4, d4, out4, h4, hr4⟩
  ·skip
   have HX4 := zh h4
   have HC4 := zh (node_rule HP3.out 6 6 rfl (.func (.func 92) #[] #[.pointer (some ⟨g, 0, none⟩)]) 92 (.pointer (some ⟨g, 0, none⟩)) (.inr rfl) (fun w => enters_ Tryz.func92 (by kernel_rfl) rfl #[(.pointer (some ⟨g, 0, none⟩))] w) (T := [.word ⟨#[40]⟩, .rule .r_param, .rule .r_moreParams, .word ⟨#[41]⟩]) (R := .r_params) (by rw [one_of HI3.out]; rfl) (G_proc_1.body HP3.out HG3.out) (Nat.le_succ_of_le HNN.out) HX4.out)
   clear h4
   go_wp2_with (go_at_call 33; (with_reducible refine cM HC4.out ?_); rintro e w4 ⟨rfl, ve4, h3⟩; have HS4 := zh (HS3.out.trans h3); clear h3)
   exact ⟨rfl, rfl, ve4, HS4.out⟩
  have HR4 := zh hr4
  clear hr4
  have HX4 := zh h4
  have HC4 := zh (node_rule HP3.out 6 6 rfl (.func (.func 92) #[] #[.pointer (some ⟨g, 0, none⟩)]) 92 (.pointer (some ⟨g, 0, none⟩)) (.inr rfl) (fun w => enters_ Tryz.func92 (by kernel_rfl) rfl #[(.pointer (some ⟨g, 0, none⟩))] w) (T := [.word ⟨#[40]⟩, .rule .r_param, .rule .r_moreParams, .word ⟨#[41]⟩]) (R := .r_params) (by rw [one_of HI3.out]; rfl) (G_proc_1.body HP3.out HG3.out) (Nat.le_succ_of_le HNN.out) HX4.out)
  clear h4
  go_wp2_with (go_at_call 33; (with_reducible refine cM HC4.out ?_); rintro e w4 ⟨rfl, ve4, h2, h3⟩; have HP4 := zh h2; have HS4 := zh (HS3.out.trans h3); have HG4 := zh (mkeep (HT3.out.trans h3) HP0.out HG0.out); have HT4 := zh (HT3.out.trans h3); clear bx; have bx := cR 0 HG4.out; clear h2 h3)
  by_cases hin5' : inL (cAt l i4) [⟨#[58]⟩] = true
  ·have hin5 := hin5'
   clear hin5'
   have hr5 : srun l n ⟨([.word ⟨#[58]⟩] ++ ([.rule .r_kind] ++ ([.word ⟨#[59]⟩] ++ ([.rule .r_block] ++ [.word ⟨#[59]⟩])))), i4, d4, out4⟩ = some r := by
    have h := if_yes (S := ([.word ⟨#[59]⟩] ++ ([.rule .r_block] ++ [.word ⟨#[59]⟩]))) (yes_typed hin5) HR4.out
    exact h
   have HR5 := zh hr5
   clear hr5
   have HI5 := zh hin5
   have HC5 := zh ((by have h := is_new HP4.out [⟨#[58]⟩] 1 [.string ⟨#[58]⟩] rfl rfl (by decide) (by decide); rw [HI5.out] at h; exact h))
   clear hin5
   go_wp2_with (go_at_call 47; (with_reducible refine cM HC5.out ?_); rintro e w5 ⟨rfl, hb⟩; have h3 : MStep p ve4 w4 ve4 w5 := PStep.below hb; have HP5 := zh (HP4.out.moved hb); have HS5 := zh (HS4.out.trans h3); have HG5 := zh (mkeep (HT4.out.trans h3) HP0.out HG0.out); have HT5 := zh (HT4.out.trans h3); clear bx; have bx := cR 0 HG5.out; clear hb h3)
   rcases srun_app l n [.word ⟨#[58]⟩] ([.rule .r_kind] ++ ([.word ⟨#[59]⟩] ++ ([.rule .r_block] ++ [.word ⟨#[59]⟩]))) i4 d4 out4 r HR5.out with ⟨er, jj, rfl, h6⟩ | ⟨i6, d6, out6, h6, hr6⟩
   ·skip
    have HX6 := zh h6
    have HC6 := zh (words_new HP5.out [⟨#[58]⟩] 1 [.string ⟨#[58]⟩] rfl rfl (by decide) (by decide) HX6.out)
    clear h6
    go_wp2_with (go_at_call 36; (with_reducible refine cM HC6.out ?_); rintro e w6 ⟨rfl, ve6, h3⟩; have HS6 := zh (HS5.out.trans h3); clear h3)
    exact ⟨rfl, rfl, ve6, HS6.out⟩
   have HR6 := zh hr6
   clear hr6
   have HX6 := zh h6
   have HC6 := zh (words_new HP5.out [⟨#[58]⟩] 1 [.string ⟨#[58]⟩] rfl rfl (by decide) (by decide) HX6.out)
   clear h6
   go_wp2_with (go_at_call 36; (with_reducible refine cM HC6.out ?_); rintro e w6 ⟨rfl, ve6, h2, h3⟩; have HP6 := zh h2; have HS6 := zh (HS5.out.trans h3); have HG6 := zh (mkeep (HT5.out.trans h3) HP0.out HG0.out); have HT6 := zh (HT5.out.trans h3); clear bx; have bx := cR 0 HG6.out; clear h2 h3)
   rcases srun_app l n [.rule .r_kind] ([.word ⟨#[59]⟩] ++ ([.rule .r_block] ++ [.word ⟨#[59]⟩])) i6 d6 out6 r HR6.out with ⟨er, jj, rfl, h7⟩ | ⟨i7, d7, out7, h7, hr7⟩
   ·skip
    have HX7 := zh h7
    have HC7 := zh (G_kind n HNN.out W0 A c w6 p i6 d6 out6 ve6 _ HP6.out HX7.out)
    clear h7
    go_wp2_with (go_at_call 89; (with_reducible refine cM HC7.out ?_); rintro e w7 ⟨rfl, ve7, h3⟩; have HS7 := zh (HS6.out.trans h3); clear h3)
    exact ⟨rfl, rfl, ve7, HS7.out⟩
   have HR7 := zh hr7
   clear hr7
   have HX7 := zh h7
   have HC7 := zh (G_kind n HNN.out W0 A c w6 p i6 d6 out6 ve6 _ HP6.out HX7.out)
   clear h7
   go_wp2_with (go_at_call 89; (with_reducible refine cM HC7.out ?_); rintro e w7 ⟨rfl, ve7, h2, h3⟩; have HP7 := zh h2; have HS7 := zh (HS6.out.trans h3); have HG7 := zh (mkeep (HT6.out.trans h3) HP0.out HG0.out); have HT7 := zh (HT6.out.trans h3); clear bx; have bx := cR 0 HG7.out; clear h2 h3)
   rcases srun_app l n [.word ⟨#[59]⟩] ([.rule .r_block] ++ [.word ⟨#[59]⟩]) i7 d7 out7 r HR7.out with ⟨er, jj, rfl, h8⟩ | ⟨i8, d8, out8, h8, hr8⟩
   ·skip
    have HX8 := zh h8
    have HC8 := zh (words_new HP7.out [⟨#[59]⟩] 1 [.string ⟨#[59]⟩] rfl rfl (by decide) (by decide) HX8.out)
    clear h8
    go_wp2_with (go_at_call 36; (with_reducible refine cM HC8.out ?_); rintro e w8 ⟨rfl, ve8, h3⟩; have HS8 := zh (HS7.out.trans h3); clear h3)
    exact ⟨rfl, rfl, ve8, HS8.out⟩
   have HR8 := zh hr8
   clear hr8
   have HX8 := zh h8
   have HC8 := zh (words_new HP7.out [⟨#[59]⟩] 1 [.string ⟨#[59]⟩] rfl rfl (by decide) (by decide) HX8.out)
   clear h8
   go_wp2_with (go_at_call 36; (with_reducible refine cM HC8.out ?_); rintro e w8 ⟨rfl, ve8, h2, h3⟩; have HP8 := zh h2; have HS8 := zh (HS7.out.trans h3); have HG8 := zh (mkeep (HT7.out.trans h3) HP0.out HG0.out); have HT8 := zh (HT7.out.trans h3); clear bx; have bx := cR 0 HG8.out; clear h2 h3)
   rcases srun_app l n [.rule .r_block] [.word ⟨#[59]⟩] i8 d8 out8 r HR8.out with ⟨er, jj, rfl, h9⟩ | ⟨i9, d9, out9, h9, hr9⟩
   ·skip
    have HX9 := zh h9
    have HC9 := zh (G_block n HNN.out W0 A c w8 p i8 d8 out8 ve8 _ HP8.out HX9.out)
    clear h9
    go_wp2_with (go_at_call 38; (with_reducible refine cM HC9.out ?_); rintro e w9 ⟨rfl, ve9, h3⟩; have HS9 := zh (HS8.out.trans h3); clear h3)
    exact ⟨rfl, rfl, ve9, HS9.out⟩
   have HR9 := zh hr9
   clear hr9
   have HX9 := zh h9
   have HC9 := zh (G_block n HNN.out W0 A c w8 p i8 d8 out8 ve8 _ HP8.out HX9.out)
   clear h9
   go_wp2_with (go_at_call 38; (with_reducible refine cM HC9.out ?_); rintro e w9 ⟨rfl, ve9, h2, h3⟩; have HP9 := zh h2; have HS9 := zh (HS8.out.trans h3); have HG9 := zh (mkeep (HT8.out.trans h3) HP0.out HG0.out); have HT9 := zh (HT8.out.trans h3); clear bx; have bx := cR 0 HG9.out; clear h2 h3)
   have h10 := HR9.out
   cases r with
   | ok i10 d10 out10 =>
    have HX10 := zh h10
    have HC10 := zh (words_new HP9.out [⟨#[59]⟩] 1 [.string ⟨#[59]⟩] rfl rfl (by decide) (by decide) HX10.out)
    clear h10
    go_wp2_with (go_at_call 36; (with_reducible refine cM HC10.out ?_); rintro e w10 ⟨rfl, ve10, h2, h3⟩; have HP10 := zh h2; have HS10 := zh (HS9.out.trans h3); have HG10 := zh (mkeep (HT9.out.trans h3) HP0.out HG0.out); have HT10 := zh (HT9.out.trans h3); clear bx; have bx := cR 0 HG10.out; clear h2 h3)
    go_end0
    exact ⟨rfl, ve10, HP10.out, HS10.out⟩
   | err er jj =>
    have HX10 := zh h10
    have HC10 := zh (words_new HP9.out [⟨#[59]⟩] 1 [.string ⟨#[59]⟩] rfl rfl (by decide) (by decide) HX10.out)
    clear h10
    go_wp2_with (go_at_call 36; (with_reducible refine cM HC10.out ?_); rintro e w10 ⟨rfl, ve10, h3⟩; have HS10 := zh (HS9.out.trans h3); clear h3)
    exact ⟨rfl, rfl, ve10, HS10.out⟩
  ·have hin5 : inL (cAt l i4) [⟨#[58]⟩] = false := by simpa using hin5'
   clear hin5'
   have hr5 : srun l n ⟨([.word ⟨#[59]⟩] ++ ([.rule .r_block] ++ [.word ⟨#[59]⟩])), i4, d4, out4⟩ = some r := if_no (no_typed hin5) HR4.out
   have HR5 := zh hr5
   clear hr5
   have HI5 := zh hin5
   have HC5 := zh ((by have h := is_new HP4.out [⟨#[58]⟩] 1 [.string ⟨#[58]⟩] rfl rfl (by decide) (by decide); rw [HI5.out] at h; exact h))
   clear hin5
   go_wp2_with (go_at_call 47; (with_reducible refine cM HC5.out ?_); rintro e w5 ⟨rfl, hb⟩; have h3 : MStep p ve4 w4 ve4 w5 := PStep.below hb; have HP5 := zh (HP4.out.moved hb); have HS5 := zh (HS4.out.trans h3); have HG5 := zh (mkeep (HT4.out.trans h3) HP0.out HG0.out); have HT5 := zh (HT4.out.trans h3); clear bx; have bx := cR 0 HG5.out; clear hb h3)
   rcases srun_app l n [.word ⟨#[59]⟩] ([.rule .r_block] ++ [.word ⟨#[59]⟩]) i4 d4 out4 r HR5.out with ⟨er, jj, rfl, h6⟩ | ⟨i6, d6, out6, h6, hr6⟩
   ·skip
    have HX6 := zh h6
    have HC6 := zh (words_new HP5.out [⟨#[59]⟩] 1 [.string ⟨#[59]⟩] rfl rfl (by decide) (by decide) HX6.out)
    clear h6
    go_wp2_with (go_at_call 36; (with_reducible refine cM HC6.out ?_); rintro e w6 ⟨rfl, ve6, h3⟩; have HS6 := zh (HS5.out.trans h3); clear h3)
    exact ⟨rfl, rfl, ve6, HS6.out⟩
   have HR6 := zh hr6
   clear hr6
   have HX6 := zh h6
   have HC6 := zh (words_new HP5.out [⟨#[59]⟩] 1 [.string ⟨#[59]⟩] rfl rfl (by decide) (by decide) HX6.out)
   clear h6
   go_wp2_with (go_at_call 36; (with_reducible refine cM HC6.out ?_); rintro e w6 ⟨rfl, ve6, h2, h3⟩; have HP6 := zh h2; have HS6 := zh (HS5.out.trans h3); have HG6 := zh (mkeep (HT5.out.trans h3) HP0.out HG0.out); have HT6 := zh (HT5.out.trans h3); clear bx; have bx := cR 0 HG6.out; clear h2 h3)
   rcases srun_app l n [.rule .r_block] [.word ⟨#[59]⟩] i6 d6 out6 r HR6.out with ⟨er, jj, rfl, h7⟩ | ⟨i7, d7, out7, h7, hr7⟩
   ·skip
    have HX7 := zh h7
    have HC7 := zh (G_block n HNN.out W0 A c w6 p i6 d6 out6 ve6 _ HP6.out HX7.out)
    clear h7
    go_wp2_with (go_at_call 38; (with_reducible refine cM HC7.out ?_); rintro e w7 ⟨rfl, ve7, h3⟩; have HS7 := zh (HS6.out.trans h3); clear h3)
    exact ⟨rfl, rfl, ve7, HS7.out⟩
   have HR7 := zh hr7
   clear hr7
   have HX7 := zh h7
   have HC7 := zh (G_block n HNN.out W0 A c w6 p i6 d6 out6 ve6 _ HP6.out HX7.out)
   clear h7
   go_wp2_with (go_at_call 38; (with_reducible refine cM HC7.out ?_); rintro e w7 ⟨rfl, ve7, h2, h3⟩; have HP7 := zh h2; have HS7 := zh (HS6.out.trans h3); have HG7 := zh (mkeep (HT6.out.trans h3) HP0.out HG0.out); have HT7 := zh (HT6.out.trans h3); clear bx; have bx := cR 0 HG7.out; clear h2 h3)
   have h8 := HR7.out
   cases r with
   | ok i8 d8 out8 =>
    have HX8 := zh h8
    have HC8 := zh (words_new HP7.out [⟨#[59]⟩] 1 [.string ⟨#[59]⟩] rfl rfl (by decide) (by decide) HX8.out)
    clear h8
    go_wp2_with (go_at_call 36; (with_reducible refine cM HC8.out ?_); rintro e w8 ⟨rfl, ve8, h2, h3⟩; have HP8 := zh h2; have HS8 := zh (HS7.out.trans h3); have HG8 := zh (mkeep (HT7.out.trans h3) HP0.out HG0.out); have HT8 := zh (HT7.out.trans h3); clear bx; have bx := cR 0 HG8.out; clear h2 h3)
    go_end0
    exact ⟨rfl, ve8, HP8.out, HS8.out⟩
   | err er jj =>
    have HX8 := zh h8
    have HC8 := zh (words_new HP7.out [⟨#[59]⟩] 1 [.string ⟨#[59]⟩] rfl rfl (by decide) (by decide) HX8.out)
    clear h8
    go_wp2_with (go_at_call 36; (with_reducible refine cM HC8.out ?_); rintro e w8 ⟨rfl, ve8, h3⟩; have HS8 := zh (HS7.out.trans h3); clear h3)
    exact ⟨rfl, rfl, ve8, HS8.out⟩
 ·have hin3 : inL (cAt l i2) [⟨#[40]⟩] = false := by simpa using hin3'
  clear hin3'
  have hr3 : srun l n ⟨([.rule .r_typed] ++ ([.word ⟨#[59]⟩] ++ ([.rule .r_block] ++ [.word ⟨#[59]⟩]))), i2, d2, out2⟩ = some r := if_no (no_params hin3) HR2.out
  have HR3 := zh hr3
  clear hr3
  have HI3 := zh hin3
  have HC3 := zh ((by have h := is_new HP2.out [⟨#[40]⟩] 1 [.string ⟨#[40]⟩] rfl rfl (by decide) (by decide); rw [HI3.out] at h; exact h))
  clear hin3
  go_wp2_with (go_at_call 47; (with_reducible refine cM HC3.out ?_); rintro e w3 ⟨rfl, hb⟩; have h3 : MStep p ve2 w2 ve2 w3 := PStep.below hb; have HP3 := zh (HP2.out.moved hb); have HS3 := zh (HS2.out.trans h3); have HG3 := zh (mkeep (HT2.out.trans h3) HP0.out HG0.out); have HT3 := zh (HT2.out.trans h3); clear bx; have bx := cR 0 HG3.out; clear hb h3)
  by_cases hin4' : inL (cAt l i2) [⟨#[58]⟩] = true
  ·have hin4 := hin4'
   clear hin4'
   have hr4 : srun l n ⟨([.word ⟨#[58]⟩] ++ ([.rule .r_kind] ++ ([.word ⟨#[59]⟩] ++ ([.rule .r_block] ++ [.word ⟨#[59]⟩])))), i2, d2, out2⟩ = some r := by
    have h := if_yes (S := ([.word ⟨#[59]⟩] ++ ([.rule .r_block] ++ [.word ⟨#[59]⟩]))) (yes_typed hin4) HR3.out
    exact h
   have HR4 := zh hr4
   clear hr4
   have HI4 := zh hin4
   have HC4 := zh ((by have h := is_new HP3.out [⟨#[58]⟩] 1 [.string ⟨#[58]⟩] rfl rfl (by decide) (by decide); rw [HI4.out] at h; exact h))
   clear hin4
   go_wp2_with (go_at_call 47; (with_reducible refine cM HC4.out ?_); rintro e w4 ⟨rfl, hb⟩; have h3 : MStep p ve2 w3 ve2 w4 := PStep.below hb; have HP4 := zh (HP3.out.moved hb); have HS4 := zh (HS3.out.trans h3); have HG4 := zh (mkeep (HT3.out.trans h3) HP0.out HG0.out); have HT4 := zh (HT3.out.trans h3); clear bx; have bx := cR 0 HG4.out; clear hb h3)
   rcases srun_app l n [.word ⟨#[58]⟩] ([.rule .r_kind] ++ ([.word ⟨#[59]⟩] ++ ([.rule .r_block] ++ [.word ⟨#[59]⟩]))) i2 d2 out2 r HR4.out with ⟨er, jj, rfl, h5⟩ | ⟨i5, d5, out5, h5, hr5⟩
   ·skip
    have HX5 := zh h5
    have HC5 := zh (words_new HP4.out [⟨#[58]⟩] 1 [.string ⟨#[58]⟩] rfl rfl (by decide) (by decide) HX5.out)
    clear h5
    go_wp2_with (go_at_call 36; (with_reducible refine cM HC5.out ?_); rintro e w5 ⟨rfl, ve5, h3⟩; have HS5 := zh (HS4.out.trans h3); clear h3)
    exact ⟨rfl, rfl, ve5, HS5.out⟩
   have HR5 := zh hr5
   clear hr5
   have HX5 := zh h5
   have HC5 := zh (words_new HP4.out [⟨#[58]⟩] 1 [.string ⟨#[58]⟩] rfl rfl (by decide) (by decide) HX5.out)
   clear h5
   go_wp2_with (go_at_call 36; (with_reducible refine cM HC5.out ?_); rintro e w5 ⟨rfl, ve5, h2, h3⟩; have HP5 := zh h2; have HS5 := zh (HS4.out.trans h3); have HG5 := zh (mkeep (HT4.out.trans h3) HP0.out HG0.out); have HT5 := zh (HT4.out.trans h3); clear bx; have bx := cR 0 HG5.out; clear h2 h3)
   rcases srun_app l n [.rule .r_kind] ([.word ⟨#[59]⟩] ++ ([.rule .r_block] ++ [.word ⟨#[59]⟩])) i5 d5 out5 r HR5.out with ⟨er, jj, rfl, h6⟩ | ⟨i6, d6, out6, h6, hr6⟩
   ·skip
    have HX6 := zh h6
    have HC6 := zh (G_kind n HNN.out W0 A c w5 p i5 d5 out5 ve5 _ HP5.out HX6.out)
    clear h6
    go_wp2_with (go_at_call 89; (with_reducible refine cM HC6.out ?_); rintro e w6 ⟨rfl, ve6, h3⟩; have HS6 := zh (HS5.out.trans h3); clear h3)
    exact ⟨rfl, rfl, ve6, HS6.out⟩
   have HR6 := zh hr6
   clear hr6
   have HX6 := zh h6
   have HC6 := zh (G_kind n HNN.out W0 A c w5 p i5 d5 out5 ve5 _ HP5.out HX6.out)
   clear h6
   go_wp2_with (go_at_call 89; (with_reducible refine cM HC6.out ?_); rintro e w6 ⟨rfl, ve6, h2, h3⟩; have HP6 := zh h2; have HS6 := zh (HS5.out.trans h3); have HG6 := zh (mkeep (HT5.out.trans h3) HP0.out HG0.out); have HT6 := zh (HT5.out.trans h3); clear bx; have bx := cR 0 HG6.out; clear h2 h3)
   rcases srun_app l n [.word ⟨#[59]⟩] ([.rule .r_block] ++ [.word ⟨#[59]⟩]) i6 d6 out6 r HR6.out with ⟨er, jj, rfl, h7⟩ | ⟨i7, d7, out7, h7, hr7⟩
   ·skip
    have HX7 := zh h7
    have HC7 := zh (words_new HP6.out [⟨#[59]⟩] 1 [.string ⟨#[59]⟩] rfl rfl (by decide) (by decide) HX7.out)
    clear h7
    go_wp2_with (go_at_call 36; (with_reducible refine cM HC7.out ?_); rintro e w7 ⟨rfl, ve7, h3⟩; have HS7 := zh (HS6.out.trans h3); clear h3)
    exact ⟨rfl, rfl, ve7, HS7.out⟩
   have HR7 := zh hr7
   clear hr7
   have HX7 := zh h7
   have HC7 := zh (words_new HP6.out [⟨#[59]⟩] 1 [.string ⟨#[59]⟩] rfl rfl (by decide) (by decide) HX7.out)
   clear h7
   go_wp2_with (go_at_call 36; (with_reducible refine cM HC7.out ?_); rintro e w7 ⟨rfl, ve7, h2, h3⟩; have HP7 := zh h2; have HS7 := zh (HS6.out.trans h3); have HG7 := zh (mkeep (HT6.out.trans h3) HP0.out HG0.out); have HT7 := zh (HT6.out.trans h3); clear bx; have bx := cR 0 HG7.out; clear h2 h3)
   rcases srun_app l n [.rule .r_block] [.word ⟨#[59]⟩] i7 d7 out7 r HR7.out with ⟨er, jj, rfl, h8⟩ | ⟨i8, d8, out8, h8, hr8⟩
   ·skip
    have HX8 := zh h8
    have HC8 := zh (G_block n HNN.out W0 A c w7 p i7 d7 out7 ve7 _ HP7.out HX8.out)
    clear h8
    go_wp2_with (go_at_call 38; (with_reducible refine cM HC8.out ?_); rintro e w8 ⟨rfl, ve8, h3⟩; have HS8 := zh (HS7.out.trans h3); clear h3)
    exact ⟨rfl, rfl, ve8, HS8.out⟩
   have HR8 := zh hr8
   clear hr8
   have HX8 := zh h8
   have HC8 := zh (G_block n HNN.out W0 A c w7 p i7 d7 out7 ve7 _ HP7.out HX8.out)
   clear h8
   go_wp2_with (go_at_call 38; (with_reducible refine cM HC8.out ?_); rintro e w8 ⟨rfl, ve8, h2, h3⟩; have HP8 := zh h2; have HS8 := zh (HS7.out.trans h3); have HG8 := zh (mkeep (HT7.out.trans h3) HP0.out HG0.out); have HT8 := zh (HT7.out.trans h3); clear bx; have bx := cR 0 HG8.out; clear h2 h3)
   have h9 := HR8.out
   cases r with
   | ok i9 d9 out9 =>
    have HX9 := zh h9
    have HC9 := zh (words_new HP8.out [⟨#[59]⟩] 1 [.string ⟨#[59]⟩] rfl rfl (by decide) (by decide) HX9.out)
    clear h9
    go_wp2_with (go_at_call 36; (with_reducible refine cM HC9.out ?_); rintro e w9 ⟨rfl, ve9, h2, h3⟩; have HP9 := zh h2; have HS9 := zh (HS8.out.trans h3); have HG9 := zh (mkeep (HT8.out.trans h3) HP0.out HG0.out); have HT9 := zh (HT8.out.trans h3); clear bx; have bx := cR 0 HG9.out; clear h2 h3)
    go_end0
    exact ⟨rfl, ve9, HP9.out, HS9.out⟩
   | err er jj =>
    have HX9 := zh h9
    have HC9 := zh (words_new HP8.out [⟨#[59]⟩] 1 [.string ⟨#[59]⟩] rfl rfl (by decide) (by decide) HX9.out)
    clear h9
    go_wp2_with (go_at_call 36; (with_reducible refine cM HC9.out ?_); rintro e w9 ⟨rfl, ve9, h3⟩; have HS9 := zh (HS8.out.trans h3); clear h3)
    exact ⟨rfl, rfl, ve9, HS9.out⟩
  ·have hin4 : inL (cAt l i2) [⟨#[58]⟩] = false := by simpa using hin4'
   clear hin4'
   have hr4 : srun l n ⟨([.word ⟨#[59]⟩] ++ ([.rule .r_block] ++ [.word ⟨#[59]⟩])), i2, d2, out2⟩ = some r := if_no (no_typed hin4) HR3.out
   have HR4 := zh hr4
   clear hr4
   have HI4 := zh hin4
   have HC4 := zh ((by have h := is_new HP3.out [⟨#[58]⟩] 1 [.string ⟨#[58]⟩] rfl rfl (by decide) (by decide); rw [HI4.out] at h; exact h))
   clear hin4
   go_wp2_with (go_at_call 47; (with_reducible refine cM HC4.out ?_); rintro e w4 ⟨rfl, hb⟩; have h3 : MStep p ve2 w3 ve2 w4 := PStep.below hb; have HP4 := zh (HP3.out.moved hb); have HS4 := zh (HS3.out.trans h3); have HG4 := zh (mkeep (HT3.out.trans h3) HP0.out HG0.out); have HT4 := zh (HT3.out.trans h3); clear bx; have bx := cR 0 HG4.out; clear hb h3)
   rcases srun_app l n [.word ⟨#[59]⟩] ([.rule .r_block] ++ [.word ⟨#[59]⟩]) i2 d2 out2 r HR4.out with ⟨er, jj, rfl, h5⟩ | ⟨i5, d5, out5, h5, hr5⟩
   ·skip
    have HX5 := zh h5
    have HC5 := zh (words_new HP4.out [⟨#[59]⟩] 1 [.string ⟨#[59]⟩] rfl rfl (by decide) (by decide) HX5.out)
    clear h5
    go_wp2_with (go_at_call 36; (with_reducible refine cM HC5.out ?_); rintro e w5 ⟨rfl, ve5, h3⟩; have HS5 := zh (HS4.out.trans h3); clear h3)
    exact ⟨rfl, rfl, ve5, HS5.out⟩
   have HR5 := zh hr5
   clear hr5
   have HX5 := zh h5
   have HC5 := zh (words_new HP4.out [⟨#[59]⟩] 1 [.string ⟨#[59]⟩] rfl rfl (by decide) (by decide) HX5.out)
   clear h5
   go_wp2_with (go_at_call 36; (with_reducible refine cM HC5.out ?_); rintro e w5 ⟨rfl, ve5, h2, h3⟩; have HP5 := zh h2; have HS5 := zh (HS4.out.trans h3); have HG5 := zh (mkeep (HT4.out.trans h3) HP0.out HG0.out); have HT5 := zh (HT4.out.trans h3); clear bx; have bx := cR 0 HG5.out; clear h2 h3)
   rcases srun_app l n [.rule .r_block] [.word ⟨#[59]⟩] i5 d5 out5 r HR5.out with ⟨er, jj, rfl, h6⟩ | ⟨i6, d6, out6, h6, hr6⟩
   ·skip
    have HX6 := zh h6
    have HC6 := zh (G_block n HNN.out W0 A c w5 p i5 d5 out5 ve5 _ HP5.out HX6.out)
    clear h6
    go_wp2_with (go_at_call 38; (with_reducible refine cM HC6.out ?_); rintro e w6 ⟨rfl, ve6, h3⟩; have HS6 := zh (HS5.out.trans h3); clear h3)
    exact ⟨rfl, rfl, ve6, HS6.out⟩
   have HR6 := zh hr6
   clear hr6
   have HX6 := zh h6
   have HC6 := zh (G_block n HNN.out W0 A c w5 p i5 d5 out5 ve5 _ HP5.out HX6.out)
   clear h6
   go_wp2_with (go_at_call 38; (with_reducible refine cM HC6.out ?_); rintro e w6 ⟨rfl, ve6, h2, h3⟩; have HP6 := zh h2; have HS6 := zh (HS5.out.trans h3); have HG6 := zh (mkeep (HT5.out.trans h3) HP0.out HG0.out); have HT6 := zh (HT5.out.trans h3); clear bx; have bx := cR 0 HG6.out; clear h2 h3)
   have h7 := HR6.out
   cases r with
   | ok i7 d7 out7 =>
    have HX7 := zh h7
    have HC7 := zh (words_new HP6.out [⟨#[59]⟩] 1 [.string ⟨#[59]⟩] rfl rfl (by decide) (by decide) HX7.out)
    clear h7
    go_wp2_with (go_at_call 36; (with_reducible refine cM HC7.out ?_); rintro e w7 ⟨rfl, ve7, h2, h3⟩; have HP7 := zh h2; have HS7 := zh (HS6.out.trans h3); have HG7 := zh (mkeep (HT6.out.trans h3) HP0.out HG0.out); have HT7 := zh (HT6.out.trans h3); clear bx; have bx := cR 0 HG7.out; clear h2 h3)
    go_end0
    exact ⟨rfl, ve7, HP7.out, HS7.out⟩
   | err er jj =>
    have HX7 := zh h7
    have HC7 := zh (words_new HP6.out [⟨#[59]⟩] 1 [.string ⟨#[59]⟩] rfl rfl (by decide) (by decide) HX7.out)
    clear h7
    go_wp2_with (go_at_call 36; (with_reducible refine cM HC7.out ?_); rintro e w7 ⟨rfl, ve7, h3⟩; have HS7 := zh (HS6.out.trans h3); clear h3)
    exact ⟨rfl, rfl, ve7, HS7.out⟩
theorem g_kind (l : List Tk) (N : Nat) (G_name : Good l N 37 [.word ⟨#[64, 110, 97, 109, 101]⟩]) (G_kind_1 : GoodC l N 115 [.word ⟨#[97, 114, 114, 97, 121]⟩, .word ⟨#[91]⟩, .rule .r_expr, .word ⟨#[46, 46]⟩, .rule .r_expr, .word ⟨#[93]⟩, .word ⟨#[111, 102]⟩, .rule .r_kind]) (G_kind_2 : GoodC l N 116 [.word ⟨#[114, 101, 99, 111, 114, 100]⟩, .rule .r_member, .rule .r_members, .word ⟨#[101, 110, 100]⟩]) : Good l (N + 1) 89 [.rule .r_kind] := by
 intro n hn W0 A c w p i d out ve r H hr
 show Calls Tryz.prog 89 _ w _
 have HNN := zh hn
 have hr0 : srun l n ⟨[.rule .r_kind], i, d, out⟩ = some r := hr
 skip
 have HR0 := zh hr0
 clear hn hr hr0
 obtain ⟨w0, hw0⟩ : ∃ V, w.alloc (.cells #[.pointer (some ⟨p, 0, none⟩)] 54) = V := ⟨_, rfl⟩
 have hb0 : Below w.heap.size w w0 := by rw [← hw0]; exact (Below.refl _ w).alloc (Nat.le_refl _) _
 have hg : w0.heap[w.heap.size]? = some (.cells #[.pointer (some ⟨p, 0, none⟩)] 54 (0, 0)) := by rw [← hw0]; exact World.alloc_heap_new _ _
 have HWB := zh hw0
 have HP0 := zh (H.moved hb0)
 have HS0 := zh (PStep.below hb0 : MStep p ve w ve w0)
 have HT0 := zh (PStep.refl p (.slice none 0 0) ve w0)
 obtain ⟨g, hge⟩ : ∃ g, w.heap.size = g := ⟨_, rfl⟩
 rw [hge] at hg
 have HGE := zh hge
 have HG0 := zh hg
 have bx := cR 0 hg
 clear hw0 hb0 hg hge H
 go_enter Tryz.func89, Tryz.ntmps89
 go_upto_region 2 with (fail)
 rw [HWB.out, HGE.out]
 by_cases hin1' : inL (cAt l i) [⟨#[64, 110, 97, 109, 101]⟩] = true
 ·have hin1 := hin1'
  clear hin1'
  have HI1 := zh hin1
  have HC1 := zh ((by have h := of_new HP0.out [1] 1 [.int .u8 1] rfl rfl (by decide); rw [of_name] at h; rw [HI1.out] at h; exact h))
  clear hin1
  go_wp2_with (go_at_call 48; (with_reducible refine cM HC1.out ?_); rintro e w1 ⟨rfl, hb⟩; have h3 : MStep p ve w0 ve w1 := PStep.below hb; have HP1 := zh (HP0.out.moved hb); have HS1 := zh (HS0.out.trans h3); have HG1 := zh (mkeep (HT0.out.trans h3) HP0.out HG0.out); have HT1 := zh (HT0.out.trans h3); clear bx; have bx := cR 0 HG1.out; clear hb h3)
  have h2 := HR0.out
  cases r with
  | ok i2 d2 out2 =>
   have HX2 := zh h2
   have HC2 := zh (node_rule HP1.out 8 8 rfl (.func (.func 37) #[.pointer (some ⟨p, 0, none⟩)] #[]) 37 (.pointer (some ⟨p, 0, none⟩)) (.inl rfl) (fun w => enters_ Tryz.func37 (by kernel_rfl) rfl #[(.pointer (some ⟨p, 0, none⟩))] w) (T := [.word ⟨#[64, 110, 97, 109, 101]⟩]) (R := .r_kind) (by rw [one_of HI1.out]; rfl) (G_name.body) HNN.out HX2.out)
   clear h2
   go_wp2_with (go_at_call 33; (with_reducible refine cM HC2.out ?_); rintro e w2 ⟨rfl, ve2, h2, h3⟩; have HP2 := zh h2; have HS2 := zh (HS1.out.trans h3); have HG2 := zh (mkeep (HT1.out.trans h3) HP0.out HG0.out); have HT2 := zh (HT1.out.trans h3); clear bx; have bx := cR 0 HG2.out; clear h2 h3)
   go_end0
   exact ⟨rfl, ve2, HP2.out, HS2.out⟩
  | err er jj =>
   have HX2 := zh h2
   have HC2 := zh (node_rule HP1.out 8 8 rfl (.func (.func 37) #[.pointer (some ⟨p, 0, none⟩)] #[]) 37 (.pointer (some ⟨p, 0, none⟩)) (.inl rfl) (fun w => enters_ Tryz.func37 (by kernel_rfl) rfl #[(.pointer (some ⟨p, 0, none⟩))] w) (T := [.word ⟨#[64, 110, 97, 109, 101]⟩]) (R := .r_kind) (by rw [one_of HI1.out]; rfl) (G_name.body) HNN.out HX2.out)
   clear h2
   go_wp2_with (go_at_call 33; (with_reducible refine cM HC2.out ?_); rintro e w2 ⟨rfl, ve2, h3⟩; have HS2 := zh (HS1.out.trans h3); clear h3)
   exact ⟨rfl, rfl, ve2, HS2.out⟩
 have hin1 : inL (cAt l i) [⟨#[64, 110, 97, 109, 101]⟩] = false := by simpa using hin1'
 clear hin1'
 have HI1 := zh hin1
 have HC1 := zh ((by have h := of_new HP0.out [1] 1 [.int .u8 1] rfl rfl (by decide); rw [of_name] at h; rw [HI1.out] at h; exact h))
 clear hin1
 go_wp2_with (go_at_call 48; (with_reducible refine cM HC1.out ?_); rintro e w1 ⟨rfl, hb⟩; have h3 : MStep p ve w0 ve w1 := PStep.below hb; have HP1 := zh (HP0.out.moved hb); have HS1 := zh (HS0.out.trans h3); have HG1 := zh (mkeep (HT0.out.trans h3) HP0.out HG0.out); have HT1 := zh (HT0.out.trans h3); clear bx; have bx := cR 0 HG1.out; clear hb h3)
 by_cases hin2' : inL (cAt l i) [⟨#[97, 114, 114, 97, 121]⟩] = true
 ·have hin2 := hin2'
  clear hin2'
  have HI2 := zh hin2
  have HC2 := zh ((by have h := is_new HP1.out [⟨#[97, 114, 114, 97, 121]⟩] 1 [.string ⟨#[97, 114, 114, 97, 121]⟩] rfl rfl (by decide) (by decide); rw [HI2.out] at h; exact h))
  clear hin2
  go_wp2_with (go_at_call 47; (with_reducible refine cM HC2.out ?_); rintro e w2 ⟨rfl, hb⟩; have h3 : MStep p ve w1 ve w2 := PStep.below hb; have HP2 := zh (HP1.out.moved hb); have HS2 := zh (HS1.out.trans h3); have HG2 := zh (mkeep (HT1.out.trans h3) HP0.out HG0.out); have HT2 := zh (HT1.out.trans h3); clear bx; have bx := cR 0 HG2.out; clear hb h3)
  have h3 := HR0.out
  cases r with
  | ok i3 d3 out3 =>
   have HX3 := zh h3
   have HC3 := zh (node_rule HP2.out 9 9 rfl (.func (.func 115) #[] #[.pointer (some ⟨g, 0, none⟩)]) 115 (.pointer (some ⟨g, 0, none⟩)) (.inr rfl) (fun w => enters_ Tryz.func115 (by kernel_rfl) rfl #[(.pointer (some ⟨g, 0, none⟩))] w) (T := [.word ⟨#[97, 114, 114, 97, 121]⟩, .word ⟨#[91]⟩, .rule .r_expr, .word ⟨#[46, 46]⟩, .rule .r_expr, .word ⟨#[93]⟩, .word ⟨#[111, 102]⟩, .rule .r_kind]) (R := .r_kind) (by rw [one_of HI2.out]; rfl) (G_kind_1.body HP2.out HG2.out) HNN.out HX3.out)
   clear h3
   go_wp2_with (go_at_call 33; (with_reducible refine cM HC3.out ?_); rintro e w3 ⟨rfl, ve3, h2, h3⟩; have HP3 := zh h2; have HS3 := zh (HS2.out.trans h3); have HG3 := zh (mkeep (HT2.out.trans h3) HP0.out HG0.out); have HT3 := zh (HT2.out.trans h3); clear bx; have bx := cR 0 HG3.out; clear h2 h3)
   go_end0
   exact ⟨rfl, ve3, HP3.out, HS3.out⟩
  | err er jj =>
   have HX3 := zh h3
   have HC3 := zh (node_rule HP2.out 9 9 rfl (.func (.func 115) #[] #[.pointer (some ⟨g, 0, none⟩)]) 115 (.pointer (some ⟨g, 0, none⟩)) (.inr rfl) (fun w => enters_ Tryz.func115 (by kernel_rfl) rfl #[(.pointer (some ⟨g, 0, none⟩))] w) (T := [.word ⟨#[97, 114, 114, 97, 121]⟩, .word ⟨#[91]⟩, .rule .r_expr, .word ⟨#[46, 46]⟩, .rule .r_expr, .word ⟨#[93]⟩, .word ⟨#[111, 102]⟩, .rule .r_kind]) (R := .r_kind) (by rw [one_of HI2.out]; rfl) (G_kind_1.body HP2.out HG2.out) HNN.out HX3.out)
   clear h3
   go_wp2_with (go_at_call 33; (with_reducible refine cM HC3.out ?_); rintro e w3 ⟨rfl, ve3, h3⟩; have HS3 := zh (HS2.out.trans h3); clear h3)
   exact ⟨rfl, rfl, ve3, HS3.out⟩
 have hin2 : inL (cAt l i) [⟨#[97, 114, 114, 97, 121]⟩] = false := by simpa using hin2'
 clear hin2'
 have HI2 := zh hin2
 have HC2 := zh ((by have h := is_new HP1.out [⟨#[97, 114, 114, 97, 121]⟩] 1 [.string ⟨#[97, 114, 114, 97, 121]⟩] rfl rfl (by decide) (by decide); rw [HI2.out] at h; exact h))
 clear hin2
 go_wp2_with (go_at_call 47; (with_reducible refine cM HC2.out ?_); rintro e w2 ⟨rfl, hb⟩; have h3 : MStep p ve w1 ve w2 := PStep.below hb; have HP2 := zh (HP1.out.moved hb); have HS2 := zh (HS1.out.trans h3); have HG2 := zh (mkeep (HT1.out.trans h3) HP0.out HG0.out); have HT2 := zh (HT1.out.trans h3); clear bx; have bx := cR 0 HG2.out; clear hb h3)
 by_cases hin3' : inL (cAt l i) [⟨#[114, 101, 99, 111, 114, 100]⟩] = true
 ·have hin3 := hin3'
  clear hin3'
  have HI3 := zh hin3
  have HC3 := zh ((by have h := is_new HP2.out [⟨#[114, 101, 99, 111, 114, 100]⟩] 1 [.string ⟨#[114, 101, 99, 111, 114, 100]⟩] rfl rfl (by decide) (by decide); rw [HI3.out] at h; exact h))
  clear hin3
  go_wp2_with (go_at_call 47; (with_reducible refine cM HC3.out ?_); rintro e w3 ⟨rfl, hb⟩; have h3 : MStep p ve w2 ve w3 := PStep.below hb; have HP3 := zh (HP2.out.moved hb); have HS3 := zh (HS2.out.trans h3); have HG3 := zh (mkeep (HT2.out.trans h3) HP0.out HG0.out); have HT3 := zh (HT2.out.trans h3); clear bx; have bx := cR 0 HG3.out; clear hb h3)
  have h4 := HR0.out
  cases r with
  | ok i4 d4 out4 =>
   have HX4 := zh h4
   have HC4 := zh (node_rule HP3.out 10 10 rfl (.func (.func 116) #[] #[.pointer (some ⟨g, 0, none⟩)]) 116 (.pointer (some ⟨g, 0, none⟩)) (.inr rfl) (fun w => enters_ Tryz.func116 (by kernel_rfl) rfl #[(.pointer (some ⟨g, 0, none⟩))] w) (T := [.word ⟨#[114, 101, 99, 111, 114, 100]⟩, .rule .r_member, .rule .r_members, .word ⟨#[101, 110, 100]⟩]) (R := .r_kind) (by rw [one_of HI3.out]; rfl) (G_kind_2.body HP3.out HG3.out) HNN.out HX4.out)
   clear h4
   go_wp2_with (go_at_call 33; (with_reducible refine cM HC4.out ?_); rintro e w4 ⟨rfl, ve4, h2, h3⟩; have HP4 := zh h2; have HS4 := zh (HS3.out.trans h3); have HG4 := zh (mkeep (HT3.out.trans h3) HP0.out HG0.out); have HT4 := zh (HT3.out.trans h3); clear bx; have bx := cR 0 HG4.out; clear h2 h3)
   go_end0
   exact ⟨rfl, ve4, HP4.out, HS4.out⟩
  | err er jj =>
   have HX4 := zh h4
   have HC4 := zh (node_rule HP3.out 10 10 rfl (.func (.func 116) #[] #[.pointer (some ⟨g, 0, none⟩)]) 116 (.pointer (some ⟨g, 0, none⟩)) (.inr rfl) (fun w => enters_ Tryz.func116 (by kernel_rfl) rfl #[(.pointer (some ⟨g, 0, none⟩))] w) (T := [.word ⟨#[114, 101, 99, 111, 114, 100]⟩, .rule .r_member, .rule .r_members, .word ⟨#[101, 110, 100]⟩]) (R := .r_kind) (by rw [one_of HI3.out]; rfl) (G_kind_2.body HP3.out HG3.out) HNN.out HX4.out)
   clear h4
   go_wp2_with (go_at_call 33; (with_reducible refine cM HC4.out ?_); rintro e w4 ⟨rfl, ve4, h3⟩; have HS4 := zh (HS3.out.trans h3); clear h3)
   exact ⟨rfl, rfl, ve4, HS4.out⟩
 have hin3 : inL (cAt l i) [⟨#[114, 101, 99, 111, 114, 100]⟩] = false := by simpa using hin3'
 clear hin3'
 have HI3 := zh hin3
 have HC3 := zh ((by have h := is_new HP2.out [⟨#[114, 101, 99, 111, 114, 100]⟩] 1 [.string ⟨#[114, 101, 99, 111, 114, 100]⟩] rfl rfl (by decide) (by decide); rw [HI3.out] at h; exact h))
 clear hin3
 go_wp2_with (go_at_call 47; (with_reducible refine cM HC3.out ?_); rintro e w3 ⟨rfl, hb⟩; have h3 : MStep p ve w2 ve w3 := PStep.below hb; have HP3 := zh (HP2.out.moved hb); have HS3 := zh (HS2.out.trans h3); have HG3 := zh (mkeep (HT2.out.trans h3) HP0.out HG0.out); have HT3 := zh (HT2.out.trans h3); clear bx; have bx := cR 0 HG3.out; clear hb h3)
 have h4 := HR0.out
 obtain ⟨_, hre⟩ := srun_fin HR0.out (q := .err (if i = l.length then 121 else 120) i) (by simp [sstep, (show RId.expand .r_kind (cAt l i) = none by simp only [RId.expand]; rw [if_neg (none_of HI1.out _ List.mem_cons_self), if_neg (none_of HI2.out _ List.mem_cons_self), if_neg (none_of HI3.out _ List.mem_cons_self)])])
 cases r with
 | ok i4 d4 out4 => cases hre
 | err er jj =>
  clear hre
  have HX4 := zh h4
  have HC4 := zh (fail_post HP3.out (show RId.expand .r_kind (cAt l i) = none by simp only [RId.expand]; rw [if_neg (none_of HI1.out _ List.mem_cons_self), if_neg (none_of HI2.out _ List.mem_cons_self), if_neg (none_of HI3.out _ List.mem_cons_self)]) HX4.out)
  clear h4
  go_wp2_with (go_at_call 39; (with_reducible refine cM HC4.out ?_); rintro e w4 ⟨rfl, ve4, h3⟩; have HS4 := zh (HS3.out.trans h3); clear h3)
  exact ⟨rfl, rfl, ve4, HS4.out⟩
theorem of3 {cc : ByteArray} (h : inL cc [⟨#[64, 110, 117, 109, 98, 101, 114]⟩, ⟨#[64, 116, 101, 120, 116]⟩, ⟨#[64, 99, 104, 97, 114]⟩] = true) : cc = ⟨#[64, 110, 117, 109, 98, 101, 114]⟩ ∨ cc = ⟨#[64, 116, 101, 120, 116]⟩ ∨ cc = ⟨#[64, 99, 104, 97, 114]⟩ := by simpa using (inL_iff _ _).1 h
theorem no3 {cc : ByteArray} (h : inL cc [⟨#[64, 110, 117, 109, 98, 101, 114]⟩, ⟨#[64, 116, 101, 120, 116]⟩, ⟨#[64, 99, 104, 97, 114]⟩] = false) : ¬ (cc = ⟨#[64, 110, 117, 109, 98, 101, 114]⟩ ∨ cc = ⟨#[64, 116, 101, 120, 116]⟩ ∨ cc = ⟨#[64, 99, 104, 97, 114]⟩) := fun hc => by
 rw [(inL_iff cc [⟨#[64, 110, 117, 109, 98, 101, 114]⟩, ⟨#[64, 116, 101, 120, 116]⟩, ⟨#[64, 99, 104, 97, 114]⟩]).2 (by simpa using hc)] at h
 cases h
theorem take_in2 {l : List Tk} {i : Nat} {ws : List ByteArray} (hw : inL ⟨#[]⟩ ws = false) (h : inL (cAt l i) ws = true) : (∃ t, l[i]? = some t ∧ codeOf t = cAt l i) ↔ true = true := by
 refine ⟨fun _ => rfl, fun _ => ?_⟩
 cases hg : l[i]? with
 | none =>
  rw [show cAt l i = ⟨#[]⟩ by unfold cAt; rw [hg], hw] at h
  cases h
 | some t => exact ⟨t, rfl, (cAt_some hg).symm⟩
theorem g_factor_4 {W0 : World} {A : Option Addr} {c : Nat} {l : List Tk} {w : World} {p g : Nat} {i : Nat} {d : Int} {out : List Ev} {ve : Value} (H : SAt W0 A c l w p i d out ve) (hg : w.heap[g]? = some (.cells #[.pointer (some ⟨p, 0, none⟩)] 54 (0, 0))) (hin : inL (cAt l i) [⟨#[64, 110, 117, 109, 98, 101, 114]⟩, ⟨#[64, 116, 101, 120, 116]⟩, ⟨#[64, 99, 104, 97, 114]⟩] = true) {n : Nat} {r : SRes} (hr : srun l n ⟨[.word (cAt l i)], i, d, out⟩ = some r) :
  Calls Tryz.prog 152 #[.pointer (some ⟨g, 0, none⟩)] w (SPost W0 A c l p ve w r) := by
 have HTK := zh (take_word H (cAt l i) [] (take_in2 (by decide) hin) hr)
 have bx := cR 0 hg
 clear H hg hin hr
 cases r with
 | ok i2 d2 out2 =>
  go_enter Tryz.func152, Tryz.ntmps152
  go_wp2_with (go_at_call 46; (with_reducible refine cM HTK.out ?_); rintro e w2 ⟨rfl, ve2, h2, h3⟩; have HP2 := zh h2; have HS2 := zh h3; clear h2 h3)
  go_end0
  exact ⟨rfl, ve2, HP2.out, HS2.out⟩
 | err er i2 =>
  go_enter Tryz.func152, Tryz.ntmps152
  go_wp2_with (go_at_call 46; (with_reducible refine cM HTK.out ?_); rintro e w2 ⟨rfl, ve2, h3⟩; have HS2 := zh h3; clear h3)
  exact ⟨rfl, rfl, ve2, HS2.out⟩
theorem g_factor (l : List Tk) (N : Nat) (G_factor_1 : GoodC l N 149 [.word ⟨#[45]⟩, .rule .r_factor]) (G_factor_2 : GoodC l N 150 [.word ⟨#[110, 111, 116]⟩, .rule .r_factor]) (G_factor_3 : GoodC l N 151 [.word ⟨#[40]⟩, .rule .r_expr, .word ⟨#[41]⟩]) (G_object : Good l (N + 1) 96 [.rule .r_object]) : Good l (N + 1) 145 [.rule .r_factor] := by
 intro n hn W0 A c w p i d out ve r H hr
 show Calls Tryz.prog 145 _ w _
 have HNN := zh hn
 have hr0 : srun l n ⟨[.rule .r_factor], i, d, out⟩ = some r := hr
 skip
 have HR0 := zh hr0
 clear hn hr hr0
 obtain ⟨w0, hw0⟩ : ∃ V, w.alloc (.cells #[.pointer (some ⟨p, 0, none⟩)] 54) = V := ⟨_, rfl⟩
 have hb0 : Below w.heap.size w w0 := by rw [← hw0]; exact (Below.refl _ w).alloc (Nat.le_refl _) _
 have hg : w0.heap[w.heap.size]? = some (.cells #[.pointer (some ⟨p, 0, none⟩)] 54 (0, 0)) := by rw [← hw0]; exact World.alloc_heap_new _ _
 have HWB := zh hw0
 have HP0 := zh (H.moved hb0)
 have HS0 := zh (PStep.below hb0 : MStep p ve w ve w0)
 have HT0 := zh (PStep.refl p (.slice none 0 0) ve w0)
 obtain ⟨g, hge⟩ : ∃ g, w.heap.size = g := ⟨_, rfl⟩
 rw [hge] at hg
 have HGE := zh hge
 have HG0 := zh hg
 have bx := cR 0 hg
 clear hw0 hb0 hg hge H
 go_enter Tryz.func145, Tryz.ntmps145
 go_upto_region 2 with (fail)
 rw [HWB.out, HGE.out]
 by_cases hin1' : inL (cAt l i) [⟨#[45]⟩] = true
 ·have hin1 := hin1'
  clear hin1'
  have HI1 := zh hin1
  have HC1 := zh ((by have h := is_new HP0.out [⟨#[45]⟩] 1 [.string ⟨#[45]⟩] rfl rfl (by decide) (by decide); rw [HI1.out] at h; exact h))
  clear hin1
  go_wp2_with (go_at_call 47; (with_reducible refine cM HC1.out ?_); rintro e w1 ⟨rfl, hb⟩; have h3 : MStep p ve w0 ve w1 := PStep.below hb; have HP1 := zh (HP0.out.moved hb); have HS1 := zh (HS0.out.trans h3); have HG1 := zh (mkeep (HT0.out.trans h3) HP0.out HG0.out); have HT1 := zh (HT0.out.trans h3); clear bx; have bx := cR 0 HG1.out; clear hb h3)
  have h2 := HR0.out
  cases r with
  | ok i2 d2 out2 =>
   have HX2 := zh h2
   have HC2 := zh (node_rule HP1.out 25 25 rfl (.func (.func 149) #[] #[.pointer (some ⟨g, 0, none⟩)]) 149 (.pointer (some ⟨g, 0, none⟩)) (.inr rfl) (fun w => enters_ Tryz.func149 (by kernel_rfl) rfl #[(.pointer (some ⟨g, 0, none⟩))] w) (T := [.word ⟨#[45]⟩, .rule .r_factor]) (R := .r_factor) (by rw [one_of HI1.out]; rfl) (G_factor_1.body HP1.out HG1.out) HNN.out HX2.out)
   clear h2
   go_wp2_with (go_at_call 33; (with_reducible refine cM HC2.out ?_); rintro e w2 ⟨rfl, ve2, h2, h3⟩; have HP2 := zh h2; have HS2 := zh (HS1.out.trans h3); have HG2 := zh (mkeep (HT1.out.trans h3) HP0.out HG0.out); have HT2 := zh (HT1.out.trans h3); clear bx; have bx := cR 0 HG2.out; clear h2 h3)
   go_end0
   exact ⟨rfl, ve2, HP2.out, HS2.out⟩
  | err er jj =>
   have HX2 := zh h2
   have HC2 := zh (node_rule HP1.out 25 25 rfl (.func (.func 149) #[] #[.pointer (some ⟨g, 0, none⟩)]) 149 (.pointer (some ⟨g, 0, none⟩)) (.inr rfl) (fun w => enters_ Tryz.func149 (by kernel_rfl) rfl #[(.pointer (some ⟨g, 0, none⟩))] w) (T := [.word ⟨#[45]⟩, .rule .r_factor]) (R := .r_factor) (by rw [one_of HI1.out]; rfl) (G_factor_1.body HP1.out HG1.out) HNN.out HX2.out)
   clear h2
   go_wp2_with (go_at_call 33; (with_reducible refine cM HC2.out ?_); rintro e w2 ⟨rfl, ve2, h3⟩; have HS2 := zh (HS1.out.trans h3); clear h3)
   exact ⟨rfl, rfl, ve2, HS2.out⟩
 have hin1 : inL (cAt l i) [⟨#[45]⟩] = false := by simpa using hin1'
 clear hin1'
 have HI1 := zh hin1
 have HC1 := zh ((by have h := is_new HP0.out [⟨#[45]⟩] 1 [.string ⟨#[45]⟩] rfl rfl (by decide) (by decide); rw [HI1.out] at h; exact h))
 clear hin1
 go_wp2_with (go_at_call 47; (with_reducible refine cM HC1.out ?_); rintro e w1 ⟨rfl, hb⟩; have h3 : MStep p ve w0 ve w1 := PStep.below hb; have HP1 := zh (HP0.out.moved hb); have HS1 := zh (HS0.out.trans h3); have HG1 := zh (mkeep (HT0.out.trans h3) HP0.out HG0.out); have HT1 := zh (HT0.out.trans h3); clear bx; have bx := cR 0 HG1.out; clear hb h3)
 by_cases hin2' : inL (cAt l i) [⟨#[110, 111, 116]⟩] = true
 ·have hin2 := hin2'
  clear hin2'
  have HI2 := zh hin2
  have HC2 := zh ((by have h := is_new HP1.out [⟨#[110, 111, 116]⟩] 1 [.string ⟨#[110, 111, 116]⟩] rfl rfl (by decide) (by decide); rw [HI2.out] at h; exact h))
  clear hin2
  go_wp2_with (go_at_call 47; (with_reducible refine cM HC2.out ?_); rintro e w2 ⟨rfl, hb⟩; have h3 : MStep p ve w1 ve w2 := PStep.below hb; have HP2 := zh (HP1.out.moved hb); have HS2 := zh (HS1.out.trans h3); have HG2 := zh (mkeep (HT1.out.trans h3) HP0.out HG0.out); have HT2 := zh (HT1.out.trans h3); clear bx; have bx := cR 0 HG2.out; clear hb h3)
  have h3 := HR0.out
  cases r with
  | ok i3 d3 out3 =>
   have HX3 := zh h3
   have HC3 := zh (node_rule HP2.out 26 26 rfl (.func (.func 150) #[] #[.pointer (some ⟨g, 0, none⟩)]) 150 (.pointer (some ⟨g, 0, none⟩)) (.inr rfl) (fun w => enters_ Tryz.func150 (by kernel_rfl) rfl #[(.pointer (some ⟨g, 0, none⟩))] w) (T := [.word ⟨#[110, 111, 116]⟩, .rule .r_factor]) (R := .r_factor) (by rw [one_of HI2.out]; rfl) (G_factor_2.body HP2.out HG2.out) HNN.out HX3.out)
   clear h3
   go_wp2_with (go_at_call 33; (with_reducible refine cM HC3.out ?_); rintro e w3 ⟨rfl, ve3, h2, h3⟩; have HP3 := zh h2; have HS3 := zh (HS2.out.trans h3); have HG3 := zh (mkeep (HT2.out.trans h3) HP0.out HG0.out); have HT3 := zh (HT2.out.trans h3); clear bx; have bx := cR 0 HG3.out; clear h2 h3)
   go_end0
   exact ⟨rfl, ve3, HP3.out, HS3.out⟩
  | err er jj =>
   have HX3 := zh h3
   have HC3 := zh (node_rule HP2.out 26 26 rfl (.func (.func 150) #[] #[.pointer (some ⟨g, 0, none⟩)]) 150 (.pointer (some ⟨g, 0, none⟩)) (.inr rfl) (fun w => enters_ Tryz.func150 (by kernel_rfl) rfl #[(.pointer (some ⟨g, 0, none⟩))] w) (T := [.word ⟨#[110, 111, 116]⟩, .rule .r_factor]) (R := .r_factor) (by rw [one_of HI2.out]; rfl) (G_factor_2.body HP2.out HG2.out) HNN.out HX3.out)
   clear h3
   go_wp2_with (go_at_call 33; (with_reducible refine cM HC3.out ?_); rintro e w3 ⟨rfl, ve3, h3⟩; have HS3 := zh (HS2.out.trans h3); clear h3)
   exact ⟨rfl, rfl, ve3, HS3.out⟩
 have hin2 : inL (cAt l i) [⟨#[110, 111, 116]⟩] = false := by simpa using hin2'
 clear hin2'
 have HI2 := zh hin2
 have HC2 := zh ((by have h := is_new HP1.out [⟨#[110, 111, 116]⟩] 1 [.string ⟨#[110, 111, 116]⟩] rfl rfl (by decide) (by decide); rw [HI2.out] at h; exact h))
 clear hin2
 go_wp2_with (go_at_call 47; (with_reducible refine cM HC2.out ?_); rintro e w2 ⟨rfl, hb⟩; have h3 : MStep p ve w1 ve w2 := PStep.below hb; have HP2 := zh (HP1.out.moved hb); have HS2 := zh (HS1.out.trans h3); have HG2 := zh (mkeep (HT1.out.trans h3) HP0.out HG0.out); have HT2 := zh (HT1.out.trans h3); clear bx; have bx := cR 0 HG2.out; clear hb h3)
 by_cases hin3' : inL (cAt l i) [⟨#[40]⟩] = true
 ·have hin3 := hin3'
  clear hin3'
  have HI3 := zh hin3
  have HC3 := zh ((by have h := is_new HP2.out [⟨#[40]⟩] 1 [.string ⟨#[40]⟩] rfl rfl (by decide) (by decide); rw [HI3.out] at h; exact h))
  clear hin3
  go_wp2_with (go_at_call 47; (with_reducible refine cM HC3.out ?_); rintro e w3 ⟨rfl, hb⟩; have h3 : MStep p ve w2 ve w3 := PStep.below hb; have HP3 := zh (HP2.out.moved hb); have HS3 := zh (HS2.out.trans h3); have HG3 := zh (mkeep (HT2.out.trans h3) HP0.out HG0.out); have HT3 := zh (HT2.out.trans h3); clear bx; have bx := cR 0 HG3.out; clear hb h3)
  have h4 := HR0.out
  cases r with
  | ok i4 d4 out4 =>
   have HX4 := zh h4
   have HC4 := zh (node_rule HP3.out 27 27 rfl (.func (.func 151) #[] #[.pointer (some ⟨g, 0, none⟩)]) 151 (.pointer (some ⟨g, 0, none⟩)) (.inr rfl) (fun w => enters_ Tryz.func151 (by kernel_rfl) rfl #[(.pointer (some ⟨g, 0, none⟩))] w) (T := [.word ⟨#[40]⟩, .rule .r_expr, .word ⟨#[41]⟩]) (R := .r_factor) (by rw [one_of HI3.out]; rfl) (G_factor_3.body HP3.out HG3.out) HNN.out HX4.out)
   clear h4
   go_wp2_with (go_at_call 33; (with_reducible refine cM HC4.out ?_); rintro e w4 ⟨rfl, ve4, h2, h3⟩; have HP4 := zh h2; have HS4 := zh (HS3.out.trans h3); have HG4 := zh (mkeep (HT3.out.trans h3) HP0.out HG0.out); have HT4 := zh (HT3.out.trans h3); clear bx; have bx := cR 0 HG4.out; clear h2 h3)
   go_end0
   exact ⟨rfl, ve4, HP4.out, HS4.out⟩
  | err er jj =>
   have HX4 := zh h4
   have HC4 := zh (node_rule HP3.out 27 27 rfl (.func (.func 151) #[] #[.pointer (some ⟨g, 0, none⟩)]) 151 (.pointer (some ⟨g, 0, none⟩)) (.inr rfl) (fun w => enters_ Tryz.func151 (by kernel_rfl) rfl #[(.pointer (some ⟨g, 0, none⟩))] w) (T := [.word ⟨#[40]⟩, .rule .r_expr, .word ⟨#[41]⟩]) (R := .r_factor) (by rw [one_of HI3.out]; rfl) (G_factor_3.body HP3.out HG3.out) HNN.out HX4.out)
   clear h4
   go_wp2_with (go_at_call 33; (with_reducible refine cM HC4.out ?_); rintro e w4 ⟨rfl, ve4, h3⟩; have HS4 := zh (HS3.out.trans h3); clear h3)
   exact ⟨rfl, rfl, ve4, HS4.out⟩
 have hin3 : inL (cAt l i) [⟨#[40]⟩] = false := by simpa using hin3'
 clear hin3'
 have HI3 := zh hin3
 have HC3 := zh ((by have h := is_new HP2.out [⟨#[40]⟩] 1 [.string ⟨#[40]⟩] rfl rfl (by decide) (by decide); rw [HI3.out] at h; exact h))
 clear hin3
 go_wp2_with (go_at_call 47; (with_reducible refine cM HC3.out ?_); rintro e w3 ⟨rfl, hb⟩; have h3 : MStep p ve w2 ve w3 := PStep.below hb; have HP3 := zh (HP2.out.moved hb); have HS3 := zh (HS2.out.trans h3); have HG3 := zh (mkeep (HT2.out.trans h3) HP0.out HG0.out); have HT3 := zh (HT2.out.trans h3); clear bx; have bx := cR 0 HG3.out; clear hb h3)
 by_cases hin4' : inL (cAt l i) [⟨#[64, 110, 117, 109, 98, 101, 114]⟩, ⟨#[64, 116, 101, 120, 116]⟩, ⟨#[64, 99, 104, 97, 114]⟩] = true
 ·have hin4 := hin4'
  clear hin4'
  have HI4 := zh hin4
  have HC4 := zh ((by have h := of_new HP3.out [3, 4, 5] 3 [.int .u8 3, .int .u8 4, .int .u8 5] rfl rfl (by decide); rw [of_value] at h; rw [HI4.out] at h; exact h))
  clear hin4
  go_wp2_with (go_at_call 48; (with_reducible refine cM HC4.out ?_); rintro e w4 ⟨rfl, hb⟩; have h3 : MStep p ve w3 ve w4 := PStep.below hb; have HP4 := zh (HP3.out.moved hb); have HS4 := zh (HS3.out.trans h3); have HG4 := zh (mkeep (HT3.out.trans h3) HP0.out HG0.out); have HT4 := zh (HT3.out.trans h3); clear bx; have bx := cR 0 HG4.out; clear hb h3)
  have h5 := HR0.out
  cases r with
  | ok i5 d5 out5 =>
   have HX5 := zh h5
   have HC5 := zh (node_rule_at HP4.out 32 32 rfl (.func (.func 152) #[] #[.pointer (some ⟨g, 0, none⟩)]) 152 (.pointer (some ⟨g, 0, none⟩)) (.inr rfl) (fun w => enters_ Tryz.func152 (by kernel_rfl) rfl #[(.pointer (some ⟨g, 0, none⟩))] w) (T := [.word (cAt l i)]) (R := .r_factor) (by rcases of3 HI4.out with hc | hc | hc <;> rw [hc] <;> rfl) (fun m w1 ve1 r' h1 h2 h3 => g_factor_4 h2 (mkeep h1 HP4.out HG4.out) HI4.out h3) HX5.out)
   clear h5
   go_wp2_with (go_at_call 33; (with_reducible refine cM HC5.out ?_); rintro e w5 ⟨rfl, ve5, h2, h3⟩; have HP5 := zh h2; have HS5 := zh (HS4.out.trans h3); have HG5 := zh (mkeep (HT4.out.trans h3) HP0.out HG0.out); have HT5 := zh (HT4.out.trans h3); clear bx; have bx := cR 0 HG5.out; clear h2 h3)
   go_end0
   exact ⟨rfl, ve5, HP5.out, HS5.out⟩
  | err er jj =>
   have HX5 := zh h5
   have HC5 := zh (node_rule_at HP4.out 32 32 rfl (.func (.func 152) #[] #[.pointer (some ⟨g, 0, none⟩)]) 152 (.pointer (some ⟨g, 0, none⟩)) (.inr rfl) (fun w => enters_ Tryz.func152 (by kernel_rfl) rfl #[(.pointer (some ⟨g, 0, none⟩))] w) (T := [.word (cAt l i)]) (R := .r_factor) (by rcases of3 HI4.out with hc | hc | hc <;> rw [hc] <;> rfl) (fun m w1 ve1 r' h1 h2 h3 => g_factor_4 h2 (mkeep h1 HP4.out HG4.out) HI4.out h3) HX5.out)
   clear h5
   go_wp2_with (go_at_call 33; (with_reducible refine cM HC5.out ?_); rintro e w5 ⟨rfl, ve5, h3⟩; have HS5 := zh (HS4.out.trans h3); clear h3)
   exact ⟨rfl, rfl, ve5, HS5.out⟩
 have hin4 : inL (cAt l i) [⟨#[64, 110, 117, 109, 98, 101, 114]⟩, ⟨#[64, 116, 101, 120, 116]⟩, ⟨#[64, 99, 104, 97, 114]⟩] = false := by simpa using hin4'
 clear hin4'
 have HI4 := zh hin4
 have HC4 := zh ((by have h := of_new HP3.out [3, 4, 5] 3 [.int .u8 3, .int .u8 4, .int .u8 5] rfl rfl (by decide); rw [of_value] at h; rw [HI4.out] at h; exact h))
 clear hin4
 go_wp2_with (go_at_call 48; (with_reducible refine cM HC4.out ?_); rintro e w4 ⟨rfl, hb⟩; have h3 : MStep p ve w3 ve w4 := PStep.below hb; have HP4 := zh (HP3.out.moved hb); have HS4 := zh (HS3.out.trans h3); have HG4 := zh (mkeep (HT3.out.trans h3) HP0.out HG0.out); have HT4 := zh (HT3.out.trans h3); clear bx; have bx := cR 0 HG4.out; clear hb h3)
 have h5 := HR0.out
 cases r with
 | ok i5 d5 out5 =>
  have HX5 := zh h5
  have HC5 := zh (G_object n HNN.out W0 A c w4 p i d out ve _ HP4.out (srun_same (R1 := .r_factor) (R2 := .r_object) (by simp only [RId.expand]; rw [if_neg (none_of HI1.out _ List.mem_cons_self), if_neg (none_of HI2.out _ List.mem_cons_self), if_neg (none_of HI3.out _ List.mem_cons_self), if_neg (no3 HI4.out)]) HX5.out))
  clear h5
  go_wp2_with (go_at_call 96; (with_reducible refine cM HC5.out ?_); rintro e w5 ⟨rfl, ve5, h2, h3⟩; have HP5 := zh h2; have HS5 := zh (HS4.out.trans h3); have HG5 := zh (mkeep (HT4.out.trans h3) HP0.out HG0.out); have HT5 := zh (HT4.out.trans h3); clear bx; have bx := cR 0 HG5.out; clear h2 h3)
  go_end0
  exact ⟨rfl, ve5, HP5.out, HS5.out⟩
 | err er jj =>
  have HX5 := zh h5
  have HC5 := zh (G_object n HNN.out W0 A c w4 p i d out ve _ HP4.out (srun_same (R1 := .r_factor) (R2 := .r_object) (by simp only [RId.expand]; rw [if_neg (none_of HI1.out _ List.mem_cons_self), if_neg (none_of HI2.out _ List.mem_cons_self), if_neg (none_of HI3.out _ List.mem_cons_self), if_neg (no3 HI4.out)]) HX5.out))
  clear h5
  go_wp2_with (go_at_call 96; (with_reducible refine cM HC5.out ?_); rintro e w5 ⟨rfl, ve5, h3⟩; have HS5 := zh (HS4.out.trans h3); clear h3)
  exact ⟨rfl, rfl, ve5, HS5.out⟩
theorem five_no {cc : ByteArray} (h0 : inL cc [⟨#[115, 107, 105, 112]⟩] = false) (h1 : inL cc [⟨#[64, 110, 97, 109, 101]⟩] = false) (h2 : inL cc [⟨#[105, 102]⟩] = false) (h3 : inL cc [⟨#[119, 104, 105, 108, 101]⟩] = false) (h4 : inL cc [⟨#[102, 111, 114]⟩] = false) : inL cc [⟨#[115, 107, 105, 112]⟩, ⟨#[64, 110, 97, 109, 101]⟩, ⟨#[105, 102]⟩, ⟨#[119, 104, 105, 108, 101]⟩, ⟨#[102, 111, 114]⟩] = false := by
 refine inL_no (fun hm => ?_)
 simp only [List.mem_cons, List.not_mem_nil, or_false] at hm
 rcases hm with hm | hm | hm | hm | hm
 ·exact none_of h0 _ List.mem_cons_self hm
 ·exact none_of h1 _ List.mem_cons_self hm
 ·exact none_of h2 _ List.mem_cons_self hm
 ·exact none_of h3 _ List.mem_cons_self hm
 ·exact none_of h4 _ List.mem_cons_self hm
theorem g_statement (l : List Tk) (N : Nat) (G_statement_1 : GoodC l N 94 [.word ⟨#[115, 107, 105, 112]⟩]) (G_statement_2 : GoodC l N 95 [.rule .r_object, .rule .r_assigned]) (G_choice : Good l N 97 [.word ⟨#[105, 102]⟩, .rule .r_expr, .word ⟨#[116, 104, 101, 110]⟩, .rule .r_body, .rule .r_elses, .word ⟨#[101, 110, 100]⟩]) (G_statement_3 : GoodC l N 98 [.word ⟨#[119, 104, 105, 108, 101]⟩, .rule .r_expr, .word ⟨#[100, 111]⟩, .rule .r_body, .word ⟨#[101, 110, 100]⟩]) (G_statement_4 : GoodC l N 99 [.word ⟨#[102, 111, 114]⟩, .word ⟨#[64, 110, 97, 109, 101]⟩, .word ⟨#[58, 61]⟩, .rule .r_expr, .word ⟨#[116, 111]⟩, .rule .r_expr, .word ⟨#[100, 111]⟩, .rule .r_body, .word ⟨#[101, 110, 100]⟩]) (G_other : ∀ n, n ≤ N + 1 → ∀ (W0 : World) (A : Option Addr) (c : Nat) (w : World) (p i : Nat) (d : Int) (out : List Ev) (ve : Value) (r : SRes), SAt W0 A c l w p i d out ve → srun l n ⟨[.rule .r_statement], i, d, out⟩ = some r → inL (cAt l i) [⟨#[115, 107, 105, 112]⟩, ⟨#[64, 110, 97, 109, 101]⟩, ⟨#[105, 102]⟩, ⟨#[119, 104, 105, 108, 101]⟩, ⟨#[102, 111, 114]⟩] = false → Calls Tryz.prog 100 #[.pointer (some ⟨p, 0, none⟩)] w (SPost W0 A c l p ve w r)) : Good l (N + 1) 69 [.rule .r_statement] := by
 intro n hn W0 A c w p i d out ve r H hr
 show Calls Tryz.prog 69 _ w _
 have HNN := zh hn
 have hr0 : srun l n ⟨[.rule .r_statement], i, d, out⟩ = some r := hr
 skip
 have HR0 := zh hr0
 clear hn hr hr0
 obtain ⟨w0, hw0⟩ : ∃ V, w.alloc (.cells #[.pointer (some ⟨p, 0, none⟩)] 54) = V := ⟨_, rfl⟩
 have hb0 : Below w.heap.size w w0 := by rw [← hw0]; exact (Below.refl _ w).alloc (Nat.le_refl _) _
 have hg : w0.heap[w.heap.size]? = some (.cells #[.pointer (some ⟨p, 0, none⟩)] 54 (0, 0)) := by rw [← hw0]; exact World.alloc_heap_new _ _
 have HWB := zh hw0
 have HP0 := zh (H.moved hb0)
 have HS0 := zh (PStep.below hb0 : MStep p ve w ve w0)
 have HT0 := zh (PStep.refl p (.slice none 0 0) ve w0)
 obtain ⟨g, hge⟩ : ∃ g, w.heap.size = g := ⟨_, rfl⟩
 rw [hge] at hg
 have HGE := zh hge
 have HG0 := zh hg
 have bx := cR 0 hg
 clear hw0 hb0 hg hge H
 go_enter Tryz.func69, Tryz.ntmps69
 go_upto_region 2 with (fail)
 rw [HWB.out, HGE.out]
 by_cases hin1' : inL (cAt l i) [⟨#[115, 107, 105, 112]⟩] = true
 ·have hin1 := hin1'
  clear hin1'
  have HI1 := zh hin1
  have HC1 := zh ((by have h := is_new HP0.out [⟨#[115, 107, 105, 112]⟩] 1 [.string ⟨#[115, 107, 105, 112]⟩] rfl rfl (by decide) (by decide); rw [HI1.out] at h; exact h))
  clear hin1
  go_wp2_with (go_at_call 47; (with_reducible refine cM HC1.out ?_); rintro e w1 ⟨rfl, hb⟩; have h3 : MStep p ve w0 ve w1 := PStep.below hb; have HP1 := zh (HP0.out.moved hb); have HS1 := zh (HS0.out.trans h3); have HG1 := zh (mkeep (HT0.out.trans h3) HP0.out HG0.out); have HT1 := zh (HT0.out.trans h3); clear bx; have bx := cR 0 HG1.out; clear hb h3)
  have h2 := HR0.out
  cases r with
  | ok i2 d2 out2 =>
   have HX2 := zh h2
   have HC2 := zh (node_rule HP1.out 13 13 rfl (.func (.func 94) #[] #[.pointer (some ⟨g, 0, none⟩)]) 94 (.pointer (some ⟨g, 0, none⟩)) (.inr rfl) (fun w => enters_ Tryz.func94 (by kernel_rfl) rfl #[(.pointer (some ⟨g, 0, none⟩))] w) (T := [.word ⟨#[115, 107, 105, 112]⟩]) (R := .r_statement) (by rw [one_of HI1.out]; rfl) (G_statement_1.body HP1.out HG1.out) HNN.out HX2.out)
   clear h2
   go_wp2_with (go_at_call 33; (with_reducible refine cM HC2.out ?_); rintro e w2 ⟨rfl, ve2, h2, h3⟩; have HP2 := zh h2; have HS2 := zh (HS1.out.trans h3); have HG2 := zh (mkeep (HT1.out.trans h3) HP0.out HG0.out); have HT2 := zh (HT1.out.trans h3); clear bx; have bx := cR 0 HG2.out; clear h2 h3)
   go_end0
   exact ⟨rfl, ve2, HP2.out, HS2.out⟩
  | err er jj =>
   have HX2 := zh h2
   have HC2 := zh (node_rule HP1.out 13 13 rfl (.func (.func 94) #[] #[.pointer (some ⟨g, 0, none⟩)]) 94 (.pointer (some ⟨g, 0, none⟩)) (.inr rfl) (fun w => enters_ Tryz.func94 (by kernel_rfl) rfl #[(.pointer (some ⟨g, 0, none⟩))] w) (T := [.word ⟨#[115, 107, 105, 112]⟩]) (R := .r_statement) (by rw [one_of HI1.out]; rfl) (G_statement_1.body HP1.out HG1.out) HNN.out HX2.out)
   clear h2
   go_wp2_with (go_at_call 33; (with_reducible refine cM HC2.out ?_); rintro e w2 ⟨rfl, ve2, h3⟩; have HS2 := zh (HS1.out.trans h3); clear h3)
   exact ⟨rfl, rfl, ve2, HS2.out⟩
 have hin1 : inL (cAt l i) [⟨#[115, 107, 105, 112]⟩] = false := by simpa using hin1'
 clear hin1'
 have HI1 := zh hin1
 have HC1 := zh ((by have h := is_new HP0.out [⟨#[115, 107, 105, 112]⟩] 1 [.string ⟨#[115, 107, 105, 112]⟩] rfl rfl (by decide) (by decide); rw [HI1.out] at h; exact h))
 clear hin1
 go_wp2_with (go_at_call 47; (with_reducible refine cM HC1.out ?_); rintro e w1 ⟨rfl, hb⟩; have h3 : MStep p ve w0 ve w1 := PStep.below hb; have HP1 := zh (HP0.out.moved hb); have HS1 := zh (HS0.out.trans h3); have HG1 := zh (mkeep (HT0.out.trans h3) HP0.out HG0.out); have HT1 := zh (HT0.out.trans h3); clear bx; have bx := cR 0 HG1.out; clear hb h3)
 by_cases hin2' : inL (cAt l i) [⟨#[64, 110, 97, 109, 101]⟩] = true
 ·have hin2 := hin2'
  clear hin2'
  have HI2 := zh hin2
  have HC2 := zh ((by have h := of_new HP1.out [1] 1 [.int .u8 1] rfl rfl (by decide); rw [of_name] at h; rw [HI2.out] at h; exact h))
  clear hin2
  go_wp2_with (go_at_call 48; (with_reducible refine cM HC2.out ?_); rintro e w2 ⟨rfl, hb⟩; have h3 : MStep p ve w1 ve w2 := PStep.below hb; have HP2 := zh (HP1.out.moved hb); have HS2 := zh (HS1.out.trans h3); have HG2 := zh (mkeep (HT1.out.trans h3) HP0.out HG0.out); have HT2 := zh (HT1.out.trans h3); clear bx; have bx := cR 0 HG2.out; clear hb h3)
  have h3 := HR0.out
  cases r with
  | ok i3 d3 out3 =>
   have HX3 := zh h3
   have HC3 := zh (node_rule HP2.out 14 14 rfl (.func (.func 95) #[] #[.pointer (some ⟨g, 0, none⟩)]) 95 (.pointer (some ⟨g, 0, none⟩)) (.inr rfl) (fun w => enters_ Tryz.func95 (by kernel_rfl) rfl #[(.pointer (some ⟨g, 0, none⟩))] w) (T := [.rule .r_object, .rule .r_assigned]) (R := .r_statement) (by rw [one_of HI2.out]; rfl) (G_statement_2.body HP2.out HG2.out) HNN.out HX3.out)
   clear h3
   go_wp2_with (go_at_call 33; (with_reducible refine cM HC3.out ?_); rintro e w3 ⟨rfl, ve3, h2, h3⟩; have HP3 := zh h2; have HS3 := zh (HS2.out.trans h3); have HG3 := zh (mkeep (HT2.out.trans h3) HP0.out HG0.out); have HT3 := zh (HT2.out.trans h3); clear bx; have bx := cR 0 HG3.out; clear h2 h3)
   go_end0
   exact ⟨rfl, ve3, HP3.out, HS3.out⟩
  | err er jj =>
   have HX3 := zh h3
   have HC3 := zh (node_rule HP2.out 14 14 rfl (.func (.func 95) #[] #[.pointer (some ⟨g, 0, none⟩)]) 95 (.pointer (some ⟨g, 0, none⟩)) (.inr rfl) (fun w => enters_ Tryz.func95 (by kernel_rfl) rfl #[(.pointer (some ⟨g, 0, none⟩))] w) (T := [.rule .r_object, .rule .r_assigned]) (R := .r_statement) (by rw [one_of HI2.out]; rfl) (G_statement_2.body HP2.out HG2.out) HNN.out HX3.out)
   clear h3
   go_wp2_with (go_at_call 33; (with_reducible refine cM HC3.out ?_); rintro e w3 ⟨rfl, ve3, h3⟩; have HS3 := zh (HS2.out.trans h3); clear h3)
   exact ⟨rfl, rfl, ve3, HS3.out⟩
 have hin2 : inL (cAt l i) [⟨#[64, 110, 97, 109, 101]⟩] = false := by simpa using hin2'
 clear hin2'
 have HI2 := zh hin2
 have HC2 := zh ((by have h := of_new HP1.out [1] 1 [.int .u8 1] rfl rfl (by decide); rw [of_name] at h; rw [HI2.out] at h; exact h))
 clear hin2
 go_wp2_with (go_at_call 48; (with_reducible refine cM HC2.out ?_); rintro e w2 ⟨rfl, hb⟩; have h3 : MStep p ve w1 ve w2 := PStep.below hb; have HP2 := zh (HP1.out.moved hb); have HS2 := zh (HS1.out.trans h3); have HG2 := zh (mkeep (HT1.out.trans h3) HP0.out HG0.out); have HT2 := zh (HT1.out.trans h3); clear bx; have bx := cR 0 HG2.out; clear hb h3)
 by_cases hin3' : inL (cAt l i) [⟨#[105, 102]⟩] = true
 ·have hin3 := hin3'
  clear hin3'
  have HI3 := zh hin3
  have HC3 := zh ((by have h := is_new HP2.out [⟨#[105, 102]⟩] 1 [.string ⟨#[105, 102]⟩] rfl rfl (by decide) (by decide); rw [HI3.out] at h; exact h))
  clear hin3
  go_wp2_with (go_at_call 47; (with_reducible refine cM HC3.out ?_); rintro e w3 ⟨rfl, hb⟩; have h3 : MStep p ve w2 ve w3 := PStep.below hb; have HP3 := zh (HP2.out.moved hb); have HS3 := zh (HS2.out.trans h3); have HG3 := zh (mkeep (HT2.out.trans h3) HP0.out HG0.out); have HT3 := zh (HT2.out.trans h3); clear bx; have bx := cR 0 HG3.out; clear hb h3)
  have h4 := HR0.out
  cases r with
  | ok i4 d4 out4 =>
   have HX4 := zh h4
   have HC4 := zh (node_rule HP3.out 15 15 rfl (.func (.func 97) #[.pointer (some ⟨p, 0, none⟩)] #[]) 97 (.pointer (some ⟨p, 0, none⟩)) (.inl rfl) (fun w => enters_ Tryz.func97 (by kernel_rfl) rfl #[(.pointer (some ⟨p, 0, none⟩))] w) (T := [.word ⟨#[105, 102]⟩, .rule .r_expr, .word ⟨#[116, 104, 101, 110]⟩, .rule .r_body, .rule .r_elses, .word ⟨#[101, 110, 100]⟩]) (R := .r_statement) (by rw [one_of HI3.out]; rfl) (G_choice.body) HNN.out HX4.out)
   clear h4
   go_wp2_with (go_at_call 33; (with_reducible refine cM HC4.out ?_); rintro e w4 ⟨rfl, ve4, h2, h3⟩; have HP4 := zh h2; have HS4 := zh (HS3.out.trans h3); have HG4 := zh (mkeep (HT3.out.trans h3) HP0.out HG0.out); have HT4 := zh (HT3.out.trans h3); clear bx; have bx := cR 0 HG4.out; clear h2 h3)
   go_end0
   exact ⟨rfl, ve4, HP4.out, HS4.out⟩
  | err er jj =>
   have HX4 := zh h4
   have HC4 := zh (node_rule HP3.out 15 15 rfl (.func (.func 97) #[.pointer (some ⟨p, 0, none⟩)] #[]) 97 (.pointer (some ⟨p, 0, none⟩)) (.inl rfl) (fun w => enters_ Tryz.func97 (by kernel_rfl) rfl #[(.pointer (some ⟨p, 0, none⟩))] w) (T := [.word ⟨#[105, 102]⟩, .rule .r_expr, .word ⟨#[116, 104, 101, 110]⟩, .rule .r_body, .rule .r_elses, .word ⟨#[101, 110, 100]⟩]) (R := .r_statement) (by rw [one_of HI3.out]; rfl) (G_choice.body) HNN.out HX4.out)
   clear h4
   go_wp2_with (go_at_call 33; (with_reducible refine cM HC4.out ?_); rintro e w4 ⟨rfl, ve4, h3⟩; have HS4 := zh (HS3.out.trans h3); clear h3)
   exact ⟨rfl, rfl, ve4, HS4.out⟩
 have hin3 : inL (cAt l i) [⟨#[105, 102]⟩] = false := by simpa using hin3'
 clear hin3'
 have HI3 := zh hin3
 have HC3 := zh ((by have h := is_new HP2.out [⟨#[105, 102]⟩] 1 [.string ⟨#[105, 102]⟩] rfl rfl (by decide) (by decide); rw [HI3.out] at h; exact h))
 clear hin3
 go_wp2_with (go_at_call 47; (with_reducible refine cM HC3.out ?_); rintro e w3 ⟨rfl, hb⟩; have h3 : MStep p ve w2 ve w3 := PStep.below hb; have HP3 := zh (HP2.out.moved hb); have HS3 := zh (HS2.out.trans h3); have HG3 := zh (mkeep (HT2.out.trans h3) HP0.out HG0.out); have HT3 := zh (HT2.out.trans h3); clear bx; have bx := cR 0 HG3.out; clear hb h3)
 by_cases hin4' : inL (cAt l i) [⟨#[119, 104, 105, 108, 101]⟩] = true
 ·have hin4 := hin4'
  clear hin4'
  have HI4 := zh hin4
  have HC4 := zh ((by have h := is_new HP3.out [⟨#[119, 104, 105, 108, 101]⟩] 1 [.string ⟨#[119, 104, 105, 108, 101]⟩] rfl rfl (by decide) (by decide); rw [HI4.out] at h; exact h))
  clear hin4
  go_wp2_with (go_at_call 47; (with_reducible refine cM HC4.out ?_); rintro e w4 ⟨rfl, hb⟩; have h3 : MStep p ve w3 ve w4 := PStep.below hb; have HP4 := zh (HP3.out.moved hb); have HS4 := zh (HS3.out.trans h3); have HG4 := zh (mkeep (HT3.out.trans h3) HP0.out HG0.out); have HT4 := zh (HT3.out.trans h3); clear bx; have bx := cR 0 HG4.out; clear hb h3)
  have h5 := HR0.out
  cases r with
  | ok i5 d5 out5 =>
   have HX5 := zh h5
   have HC5 := zh (node_rule HP4.out 16 16 rfl (.func (.func 98) #[] #[.pointer (some ⟨g, 0, none⟩)]) 98 (.pointer (some ⟨g, 0, none⟩)) (.inr rfl) (fun w => enters_ Tryz.func98 (by kernel_rfl) rfl #[(.pointer (some ⟨g, 0, none⟩))] w) (T := [.word ⟨#[119, 104, 105, 108, 101]⟩, .rule .r_expr, .word ⟨#[100, 111]⟩, .rule .r_body, .word ⟨#[101, 110, 100]⟩]) (R := .r_statement) (by rw [one_of HI4.out]; rfl) (G_statement_3.body HP4.out HG4.out) HNN.out HX5.out)
   clear h5
   go_wp2_with (go_at_call 33; (with_reducible refine cM HC5.out ?_); rintro e w5 ⟨rfl, ve5, h2, h3⟩; have HP5 := zh h2; have HS5 := zh (HS4.out.trans h3); have HG5 := zh (mkeep (HT4.out.trans h3) HP0.out HG0.out); have HT5 := zh (HT4.out.trans h3); clear bx; have bx := cR 0 HG5.out; clear h2 h3)
   go_end0
   exact ⟨rfl, ve5, HP5.out, HS5.out⟩
  | err er jj =>
   have HX5 := zh h5
   have HC5 := zh (node_rule HP4.out 16 16 rfl (.func (.func 98) #[] #[.pointer (some ⟨g, 0, none⟩)]) 98 (.pointer (some ⟨g, 0, none⟩)) (.inr rfl) (fun w => enters_ Tryz.func98 (by kernel_rfl) rfl #[(.pointer (some ⟨g, 0, none⟩))] w) (T := [.word ⟨#[119, 104, 105, 108, 101]⟩, .rule .r_expr, .word ⟨#[100, 111]⟩, .rule .r_body, .word ⟨#[101, 110, 100]⟩]) (R := .r_statement) (by rw [one_of HI4.out]; rfl) (G_statement_3.body HP4.out HG4.out) HNN.out HX5.out)
   clear h5
   go_wp2_with (go_at_call 33; (with_reducible refine cM HC5.out ?_); rintro e w5 ⟨rfl, ve5, h3⟩; have HS5 := zh (HS4.out.trans h3); clear h3)
   exact ⟨rfl, rfl, ve5, HS5.out⟩
 have hin4 : inL (cAt l i) [⟨#[119, 104, 105, 108, 101]⟩] = false := by simpa using hin4'
 clear hin4'
 have HI4 := zh hin4
 have HC4 := zh ((by have h := is_new HP3.out [⟨#[119, 104, 105, 108, 101]⟩] 1 [.string ⟨#[119, 104, 105, 108, 101]⟩] rfl rfl (by decide) (by decide); rw [HI4.out] at h; exact h))
 clear hin4
 go_wp2_with (go_at_call 47; (with_reducible refine cM HC4.out ?_); rintro e w4 ⟨rfl, hb⟩; have h3 : MStep p ve w3 ve w4 := PStep.below hb; have HP4 := zh (HP3.out.moved hb); have HS4 := zh (HS3.out.trans h3); have HG4 := zh (mkeep (HT3.out.trans h3) HP0.out HG0.out); have HT4 := zh (HT3.out.trans h3); clear bx; have bx := cR 0 HG4.out; clear hb h3)
 by_cases hin5' : inL (cAt l i) [⟨#[102, 111, 114]⟩] = true
 ·have hin5 := hin5'
  clear hin5'
  have HI5 := zh hin5
  have HC5 := zh ((by have h := is_new HP4.out [⟨#[102, 111, 114]⟩] 1 [.string ⟨#[102, 111, 114]⟩] rfl rfl (by decide) (by decide); rw [HI5.out] at h; exact h))
  clear hin5
  go_wp2_with (go_at_call 47; (with_reducible refine cM HC5.out ?_); rintro e w5 ⟨rfl, hb⟩; have h3 : MStep p ve w4 ve w5 := PStep.below hb; have HP5 := zh (HP4.out.moved hb); have HS5 := zh (HS4.out.trans h3); have HG5 := zh (mkeep (HT4.out.trans h3) HP0.out HG0.out); have HT5 := zh (HT4.out.trans h3); clear bx; have bx := cR 0 HG5.out; clear hb h3)
  have h6 := HR0.out
  cases r with
  | ok i6 d6 out6 =>
   have HX6 := zh h6
   have HC6 := zh (node_rule HP5.out 17 17 rfl (.func (.func 99) #[] #[.pointer (some ⟨g, 0, none⟩)]) 99 (.pointer (some ⟨g, 0, none⟩)) (.inr rfl) (fun w => enters_ Tryz.func99 (by kernel_rfl) rfl #[(.pointer (some ⟨g, 0, none⟩))] w) (T := [.word ⟨#[102, 111, 114]⟩, .word ⟨#[64, 110, 97, 109, 101]⟩, .word ⟨#[58, 61]⟩, .rule .r_expr, .word ⟨#[116, 111]⟩, .rule .r_expr, .word ⟨#[100, 111]⟩, .rule .r_body, .word ⟨#[101, 110, 100]⟩]) (R := .r_statement) (by rw [one_of HI5.out]; rfl) (G_statement_4.body HP5.out HG5.out) HNN.out HX6.out)
   clear h6
   go_wp2_with (go_at_call 33; (with_reducible refine cM HC6.out ?_); rintro e w6 ⟨rfl, ve6, h2, h3⟩; have HP6 := zh h2; have HS6 := zh (HS5.out.trans h3); have HG6 := zh (mkeep (HT5.out.trans h3) HP0.out HG0.out); have HT6 := zh (HT5.out.trans h3); clear bx; have bx := cR 0 HG6.out; clear h2 h3)
   go_end0
   exact ⟨rfl, ve6, HP6.out, HS6.out⟩
  | err er jj =>
   have HX6 := zh h6
   have HC6 := zh (node_rule HP5.out 17 17 rfl (.func (.func 99) #[] #[.pointer (some ⟨g, 0, none⟩)]) 99 (.pointer (some ⟨g, 0, none⟩)) (.inr rfl) (fun w => enters_ Tryz.func99 (by kernel_rfl) rfl #[(.pointer (some ⟨g, 0, none⟩))] w) (T := [.word ⟨#[102, 111, 114]⟩, .word ⟨#[64, 110, 97, 109, 101]⟩, .word ⟨#[58, 61]⟩, .rule .r_expr, .word ⟨#[116, 111]⟩, .rule .r_expr, .word ⟨#[100, 111]⟩, .rule .r_body, .word ⟨#[101, 110, 100]⟩]) (R := .r_statement) (by rw [one_of HI5.out]; rfl) (G_statement_4.body HP5.out HG5.out) HNN.out HX6.out)
   clear h6
   go_wp2_with (go_at_call 33; (with_reducible refine cM HC6.out ?_); rintro e w6 ⟨rfl, ve6, h3⟩; have HS6 := zh (HS5.out.trans h3); clear h3)
   exact ⟨rfl, rfl, ve6, HS6.out⟩
 have hin5 : inL (cAt l i) [⟨#[102, 111, 114]⟩] = false := by simpa using hin5'
 clear hin5'
 have HI5 := zh hin5
 have HC5 := zh ((by have h := is_new HP4.out [⟨#[102, 111, 114]⟩] 1 [.string ⟨#[102, 111, 114]⟩] rfl rfl (by decide) (by decide); rw [HI5.out] at h; exact h))
 clear hin5
 go_wp2_with (go_at_call 47; (with_reducible refine cM HC5.out ?_); rintro e w5 ⟨rfl, hb⟩; have h3 : MStep p ve w4 ve w5 := PStep.below hb; have HP5 := zh (HP4.out.moved hb); have HS5 := zh (HS4.out.trans h3); have HG5 := zh (mkeep (HT4.out.trans h3) HP0.out HG0.out); have HT5 := zh (HT4.out.trans h3); clear bx; have bx := cR 0 HG5.out; clear hb h3)
 have h6 := HR0.out
 cases r with
 | ok i6 d6 out6 =>
  have HX6 := zh h6
  have HC6 := zh (G_other n HNN.out W0 A c w5 p i d out ve _ HP5.out HX6.out (five_no HI1.out HI2.out HI3.out HI4.out HI5.out))
  clear h6
  go_wp2_with (go_at_call 100; (with_reducible refine cM HC6.out ?_); rintro e w6 ⟨rfl, ve6, h2, h3⟩; have HP6 := zh h2; have HS6 := zh (HS5.out.trans h3); have HG6 := zh (mkeep (HT5.out.trans h3) HP0.out HG0.out); have HT6 := zh (HT5.out.trans h3); clear bx; have bx := cR 0 HG6.out; clear h2 h3)
  go_end0
  exact ⟨rfl, ve6, HP6.out, HS6.out⟩
 | err er jj =>
  have HX6 := zh h6
  have HC6 := zh (G_other n HNN.out W0 A c w5 p i d out ve _ HP5.out HX6.out (five_no HI1.out HI2.out HI3.out HI4.out HI5.out))
  clear h6
  go_wp2_with (go_at_call 100; (with_reducible refine cM HC6.out ?_); rintro e w6 ⟨rfl, ve6, h3⟩; have HS6 := zh (HS5.out.trans h3); clear h3)
  exact ⟨rfl, rfl, ve6, HS6.out⟩
theorem g_other (l : List Tk) (N : Nat) (G_other_1 : GoodC l N 122 [.word ⟨#[114, 101, 112, 101, 97, 116]⟩, .rule .r_body, .word ⟨#[117, 110, 116, 105, 108]⟩, .rule .r_expr]) (G_other_2 : GoodC l N 123 [.word ⟨#[114, 101, 116, 117, 114, 110]⟩, .rule .r_maybe]) (G_other_3 : GoodC l N 125 [.word ⟨#[98, 101, 103, 105, 110]⟩, .rule .r_body, .word ⟨#[101, 110, 100]⟩]) : ∀ n, n ≤ N + 1 → ∀ (W0 : World) (A : Option Addr) (c : Nat) (w : World) (p i : Nat) (d : Int) (out : List Ev) (ve : Value) (r : SRes), SAt W0 A c l w p i d out ve → srun l n ⟨[.rule .r_statement], i, d, out⟩ = some r → inL (cAt l i) [⟨#[115, 107, 105, 112]⟩, ⟨#[64, 110, 97, 109, 101]⟩, ⟨#[105, 102]⟩, ⟨#[119, 104, 105, 108, 101]⟩, ⟨#[102, 111, 114]⟩] = false → Calls Tryz.prog 100 #[.pointer (some ⟨p, 0, none⟩)] w (SPost W0 A c l p ve w r) := by
 intro n hn W0 A c w p i d out ve r H hr hpre
 show Calls Tryz.prog 100 _ w _
 have HNN := zh hn
 have hr0 : srun l n ⟨[.rule .r_statement], i, d, out⟩ = some r := hr
 have HPRE := zh hpre
 have HR0 := zh hr0
 clear hn hr hr0 hpre
 obtain ⟨w0, hw0⟩ : ∃ V, w.alloc (.cells #[.pointer (some ⟨p, 0, none⟩)] 54) = V := ⟨_, rfl⟩
 have hb0 : Below w.heap.size w w0 := by rw [← hw0]; exact (Below.refl _ w).alloc (Nat.le_refl _) _
 have hg : w0.heap[w.heap.size]? = some (.cells #[.pointer (some ⟨p, 0, none⟩)] 54 (0, 0)) := by rw [← hw0]; exact World.alloc_heap_new _ _
 have HWB := zh hw0
 have HP0 := zh (H.moved hb0)
 have HS0 := zh (PStep.below hb0 : MStep p ve w ve w0)
 have HT0 := zh (PStep.refl p (.slice none 0 0) ve w0)
 obtain ⟨g, hge⟩ : ∃ g, w.heap.size = g := ⟨_, rfl⟩
 rw [hge] at hg
 have HGE := zh hge
 have HG0 := zh hg
 have bx := cR 0 hg
 clear hw0 hb0 hg hge H
 go_enter Tryz.func100, Tryz.ntmps100
 go_upto_region 2 with (fail)
 rw [HWB.out, HGE.out]
 by_cases hin1' : inL (cAt l i) [⟨#[114, 101, 112, 101, 97, 116]⟩] = true
 ·have hin1 := hin1'
  clear hin1'
  have HI1 := zh hin1
  have HC1 := zh ((by have h := is_new HP0.out [⟨#[114, 101, 112, 101, 97, 116]⟩] 1 [.string ⟨#[114, 101, 112, 101, 97, 116]⟩] rfl rfl (by decide) (by decide); rw [HI1.out] at h; exact h))
  clear hin1
  go_wp2_with (go_at_call 47; (with_reducible refine cM HC1.out ?_); rintro e w1 ⟨rfl, hb⟩; have h3 : MStep p ve w0 ve w1 := PStep.below hb; have HP1 := zh (HP0.out.moved hb); have HS1 := zh (HS0.out.trans h3); have HG1 := zh (mkeep (HT0.out.trans h3) HP0.out HG0.out); have HT1 := zh (HT0.out.trans h3); clear bx; have bx := cR 0 HG1.out; clear hb h3)
  have h2 := HR0.out
  cases r with
  | ok i2 d2 out2 =>
   have HX2 := zh h2
   have HC2 := zh (node_rule HP1.out 18 18 rfl (.func (.func 122) #[] #[.pointer (some ⟨g, 0, none⟩)]) 122 (.pointer (some ⟨g, 0, none⟩)) (.inr rfl) (fun w => enters_ Tryz.func122 (by kernel_rfl) rfl #[(.pointer (some ⟨g, 0, none⟩))] w) (T := [.word ⟨#[114, 101, 112, 101, 97, 116]⟩, .rule .r_body, .word ⟨#[117, 110, 116, 105, 108]⟩, .rule .r_expr]) (R := .r_statement) (by rw [one_of HI1.out]; rfl) (G_other_1.body HP1.out HG1.out) HNN.out HX2.out)
   clear h2
   go_wp2_with (go_at_call 33; (with_reducible refine cM HC2.out ?_); rintro e w2 ⟨rfl, ve2, h2, h3⟩; have HP2 := zh h2; have HS2 := zh (HS1.out.trans h3); have HG2 := zh (mkeep (HT1.out.trans h3) HP0.out HG0.out); have HT2 := zh (HT1.out.trans h3); clear bx; have bx := cR 0 HG2.out; clear h2 h3)
   go_end0
   exact ⟨rfl, ve2, HP2.out, HS2.out⟩
  | err er jj =>
   have HX2 := zh h2
   have HC2 := zh (node_rule HP1.out 18 18 rfl (.func (.func 122) #[] #[.pointer (some ⟨g, 0, none⟩)]) 122 (.pointer (some ⟨g, 0, none⟩)) (.inr rfl) (fun w => enters_ Tryz.func122 (by kernel_rfl) rfl #[(.pointer (some ⟨g, 0, none⟩))] w) (T := [.word ⟨#[114, 101, 112, 101, 97, 116]⟩, .rule .r_body, .word ⟨#[117, 110, 116, 105, 108]⟩, .rule .r_expr]) (R := .r_statement) (by rw [one_of HI1.out]; rfl) (G_other_1.body HP1.out HG1.out) HNN.out HX2.out)
   clear h2
   go_wp2_with (go_at_call 33; (with_reducible refine cM HC2.out ?_); rintro e w2 ⟨rfl, ve2, h3⟩; have HS2 := zh (HS1.out.trans h3); clear h3)
   exact ⟨rfl, rfl, ve2, HS2.out⟩
 have hin1 : inL (cAt l i) [⟨#[114, 101, 112, 101, 97, 116]⟩] = false := by simpa using hin1'
 clear hin1'
 have HI1 := zh hin1
 have HC1 := zh ((by have h := is_new HP0.out [⟨#[114, 101, 112, 101, 97, 116]⟩] 1 [.string ⟨#[114, 101, 112, 101, 97, 116]⟩] rfl rfl (by decide) (by decide); rw [HI1.out] at h; exact h))
 clear hin1
 go_wp2_with (go_at_call 47; (with_reducible refine cM HC1.out ?_); rintro e w1 ⟨rfl, hb⟩; have h3 : MStep p ve w0 ve w1 := PStep.below hb; have HP1 := zh (HP0.out.moved hb); have HS1 := zh (HS0.out.trans h3); have HG1 := zh (mkeep (HT0.out.trans h3) HP0.out HG0.out); have HT1 := zh (HT0.out.trans h3); clear bx; have bx := cR 0 HG1.out; clear hb h3)
 by_cases hin2' : inL (cAt l i) [⟨#[114, 101, 116, 117, 114, 110]⟩] = true
 ·have hin2 := hin2'
  clear hin2'
  have HI2 := zh hin2
  have HC2 := zh ((by have h := is_new HP1.out [⟨#[114, 101, 116, 117, 114, 110]⟩] 1 [.string ⟨#[114, 101, 116, 117, 114, 110]⟩] rfl rfl (by decide) (by decide); rw [HI2.out] at h; exact h))
  clear hin2
  go_wp2_with (go_at_call 47; (with_reducible refine cM HC2.out ?_); rintro e w2 ⟨rfl, hb⟩; have h3 : MStep p ve w1 ve w2 := PStep.below hb; have HP2 := zh (HP1.out.moved hb); have HS2 := zh (HS1.out.trans h3); have HG2 := zh (mkeep (HT1.out.trans h3) HP0.out HG0.out); have HT2 := zh (HT1.out.trans h3); clear bx; have bx := cR 0 HG2.out; clear hb h3)
  have h3 := HR0.out
  cases r with
  | ok i3 d3 out3 =>
   have HX3 := zh h3
   have HC3 := zh (node_rule HP2.out 19 19 rfl (.func (.func 123) #[] #[.pointer (some ⟨g, 0, none⟩)]) 123 (.pointer (some ⟨g, 0, none⟩)) (.inr rfl) (fun w => enters_ Tryz.func123 (by kernel_rfl) rfl #[(.pointer (some ⟨g, 0, none⟩))] w) (T := [.word ⟨#[114, 101, 116, 117, 114, 110]⟩, .rule .r_maybe]) (R := .r_statement) (by rw [one_of HI2.out]; rfl) (G_other_2.body HP2.out HG2.out) HNN.out HX3.out)
   clear h3
   go_wp2_with (go_at_call 33; (with_reducible refine cM HC3.out ?_); rintro e w3 ⟨rfl, ve3, h2, h3⟩; have HP3 := zh h2; have HS3 := zh (HS2.out.trans h3); have HG3 := zh (mkeep (HT2.out.trans h3) HP0.out HG0.out); have HT3 := zh (HT2.out.trans h3); clear bx; have bx := cR 0 HG3.out; clear h2 h3)
   go_end0
   exact ⟨rfl, ve3, HP3.out, HS3.out⟩
  | err er jj =>
   have HX3 := zh h3
   have HC3 := zh (node_rule HP2.out 19 19 rfl (.func (.func 123) #[] #[.pointer (some ⟨g, 0, none⟩)]) 123 (.pointer (some ⟨g, 0, none⟩)) (.inr rfl) (fun w => enters_ Tryz.func123 (by kernel_rfl) rfl #[(.pointer (some ⟨g, 0, none⟩))] w) (T := [.word ⟨#[114, 101, 116, 117, 114, 110]⟩, .rule .r_maybe]) (R := .r_statement) (by rw [one_of HI2.out]; rfl) (G_other_2.body HP2.out HG2.out) HNN.out HX3.out)
   clear h3
   go_wp2_with (go_at_call 33; (with_reducible refine cM HC3.out ?_); rintro e w3 ⟨rfl, ve3, h3⟩; have HS3 := zh (HS2.out.trans h3); clear h3)
   exact ⟨rfl, rfl, ve3, HS3.out⟩
 have hin2 : inL (cAt l i) [⟨#[114, 101, 116, 117, 114, 110]⟩] = false := by simpa using hin2'
 clear hin2'
 have HI2 := zh hin2
 have HC2 := zh ((by have h := is_new HP1.out [⟨#[114, 101, 116, 117, 114, 110]⟩] 1 [.string ⟨#[114, 101, 116, 117, 114, 110]⟩] rfl rfl (by decide) (by decide); rw [HI2.out] at h; exact h))
 clear hin2
 go_wp2_with (go_at_call 47; (with_reducible refine cM HC2.out ?_); rintro e w2 ⟨rfl, hb⟩; have h3 : MStep p ve w1 ve w2 := PStep.below hb; have HP2 := zh (HP1.out.moved hb); have HS2 := zh (HS1.out.trans h3); have HG2 := zh (mkeep (HT1.out.trans h3) HP0.out HG0.out); have HT2 := zh (HT1.out.trans h3); clear bx; have bx := cR 0 HG2.out; clear hb h3)
 by_cases hin3' : inL (cAt l i) [⟨#[98, 101, 103, 105, 110]⟩] = true
 ·have hin3 := hin3'
  clear hin3'
  have HI3 := zh hin3
  have HC3 := zh ((by have h := is_new HP2.out [⟨#[98, 101, 103, 105, 110]⟩] 1 [.string ⟨#[98, 101, 103, 105, 110]⟩] rfl rfl (by decide) (by decide); rw [HI3.out] at h; exact h))
  clear hin3
  go_wp2_with (go_at_call 47; (with_reducible refine cM HC3.out ?_); rintro e w3 ⟨rfl, hb⟩; have h3 : MStep p ve w2 ve w3 := PStep.below hb; have HP3 := zh (HP2.out.moved hb); have HS3 := zh (HS2.out.trans h3); have HG3 := zh (mkeep (HT2.out.trans h3) HP0.out HG0.out); have HT3 := zh (HT2.out.trans h3); clear bx; have bx := cR 0 HG3.out; clear hb h3)
  have h4 := HR0.out
  cases r with
  | ok i4 d4 out4 =>
   have HX4 := zh h4
   have HC4 := zh (node_rule HP3.out 20 20 rfl (.func (.func 125) #[] #[.pointer (some ⟨g, 0, none⟩)]) 125 (.pointer (some ⟨g, 0, none⟩)) (.inr rfl) (fun w => enters_ Tryz.func125 (by kernel_rfl) rfl #[(.pointer (some ⟨g, 0, none⟩))] w) (T := [.word ⟨#[98, 101, 103, 105, 110]⟩, .rule .r_body, .word ⟨#[101, 110, 100]⟩]) (R := .r_statement) (by rw [one_of HI3.out]; rfl) (G_other_3.body HP3.out HG3.out) HNN.out HX4.out)
   clear h4
   go_wp2_with (go_at_call 33; (with_reducible refine cM HC4.out ?_); rintro e w4 ⟨rfl, ve4, h2, h3⟩; have HP4 := zh h2; have HS4 := zh (HS3.out.trans h3); have HG4 := zh (mkeep (HT3.out.trans h3) HP0.out HG0.out); have HT4 := zh (HT3.out.trans h3); clear bx; have bx := cR 0 HG4.out; clear h2 h3)
   go_end0
   exact ⟨rfl, ve4, HP4.out, HS4.out⟩
  | err er jj =>
   have HX4 := zh h4
   have HC4 := zh (node_rule HP3.out 20 20 rfl (.func (.func 125) #[] #[.pointer (some ⟨g, 0, none⟩)]) 125 (.pointer (some ⟨g, 0, none⟩)) (.inr rfl) (fun w => enters_ Tryz.func125 (by kernel_rfl) rfl #[(.pointer (some ⟨g, 0, none⟩))] w) (T := [.word ⟨#[98, 101, 103, 105, 110]⟩, .rule .r_body, .word ⟨#[101, 110, 100]⟩]) (R := .r_statement) (by rw [one_of HI3.out]; rfl) (G_other_3.body HP3.out HG3.out) HNN.out HX4.out)
   clear h4
   go_wp2_with (go_at_call 33; (with_reducible refine cM HC4.out ?_); rintro e w4 ⟨rfl, ve4, h3⟩; have HS4 := zh (HS3.out.trans h3); clear h3)
   exact ⟨rfl, rfl, ve4, HS4.out⟩
 have hin3 : inL (cAt l i) [⟨#[98, 101, 103, 105, 110]⟩] = false := by simpa using hin3'
 clear hin3'
 have HI3 := zh hin3
 have HC3 := zh ((by have h := is_new HP2.out [⟨#[98, 101, 103, 105, 110]⟩] 1 [.string ⟨#[98, 101, 103, 105, 110]⟩] rfl rfl (by decide) (by decide); rw [HI3.out] at h; exact h))
 clear hin3
 go_wp2_with (go_at_call 47; (with_reducible refine cM HC3.out ?_); rintro e w3 ⟨rfl, hb⟩; have h3 : MStep p ve w2 ve w3 := PStep.below hb; have HP3 := zh (HP2.out.moved hb); have HS3 := zh (HS2.out.trans h3); have HG3 := zh (mkeep (HT2.out.trans h3) HP0.out HG0.out); have HT3 := zh (HT2.out.trans h3); clear bx; have bx := cR 0 HG3.out; clear hb h3)
 have h4 := HR0.out
 obtain ⟨_, hre⟩ := srun_fin HR0.out (q := .err (if i = l.length then 121 else 120) i) (by simp [sstep, (show RId.expand .r_statement (cAt l i) = none by simp only [RId.expand]; rw [if_neg (none_of HPRE.out _ (by simp)), if_neg (none_of HPRE.out _ (by simp)), if_neg (none_of HPRE.out _ (by simp)), if_neg (none_of HPRE.out _ (by simp)), if_neg (none_of HPRE.out _ (by simp)), if_neg (none_of HI1.out _ List.mem_cons_self), if_neg (none_of HI2.out _ List.mem_cons_self), if_neg (none_of HI3.out _ List.mem_cons_self)])])
 cases r with
 | ok i4 d4 out4 => cases hre
 | err er jj =>
  clear hre
  have HX4 := zh h4
  have HC4 := zh (fail_post HP3.out (show RId.expand .r_statement (cAt l i) = none by simp only [RId.expand]; rw [if_neg (none_of HPRE.out _ (by simp)), if_neg (none_of HPRE.out _ (by simp)), if_neg (none_of HPRE.out _ (by simp)), if_neg (none_of HPRE.out _ (by simp)), if_neg (none_of HPRE.out _ (by simp)), if_neg (none_of HI1.out _ List.mem_cons_self), if_neg (none_of HI2.out _ List.mem_cons_self), if_neg (none_of HI3.out _ List.mem_cons_self)]) HX4.out)
  clear h4
  go_wp2_with (go_at_call 39; (with_reducible refine cM HC4.out ?_); rintro e w4 ⟨rfl, ve4, h3⟩; have HS4 := zh (HS3.out.trans h3); clear h3)
  exact ⟨rfl, rfl, ve4, HS4.out⟩
theorem third {cc : ByteArray} (h : inL cc [⟨#[118, 97, 114]⟩, ⟨#[99, 111, 110, 115, 116]⟩, ⟨#[112, 114, 111, 99]⟩] = true) (h1 : inL cc [⟨#[118, 97, 114]⟩] = false) (h2 : inL cc [⟨#[99, 111, 110, 115, 116]⟩] = false) : cc = ⟨#[112, 114, 111, 99]⟩ := by
 have hm := (inL_iff _ _).1 h
 simp only [List.mem_cons, List.not_mem_nil, or_false] at hm
 rcases hm with hm | hm | hm
 ·exact absurd hm (none_of h1 _ List.mem_cons_self)
 ·exact absurd hm (none_of h2 _ List.mem_cons_self)
 ·exact hm
theorem g_declaration (l : List Tk) (N : Nat) (G_declaration_1 : GoodC l N 62 [.word ⟨#[118, 97, 114]⟩, .word ⟨#[64, 110, 97, 109, 101]⟩, .rule .r_names, .word ⟨#[58]⟩, .rule .r_kind, .word ⟨#[59]⟩]) (G_declaration_2 : GoodC l N 64 [.word ⟨#[99, 111, 110, 115, 116]⟩, .word ⟨#[64, 110, 97, 109, 101]⟩, .word ⟨#[61]⟩, .rule .r_expr, .word ⟨#[59]⟩]) (G_proc : Good l N 66 [.word ⟨#[112, 114, 111, 99]⟩, .word ⟨#[64, 110, 97, 109, 101]⟩, .rule .r_params, .rule .r_typed, .word ⟨#[59]⟩, .rule .r_block, .word ⟨#[59]⟩]) : ∀ n, n ≤ N + 1 → ∀ (W0 : World) (A : Option Addr) (c : Nat) (w : World) (p i : Nat) (d : Int) (out : List Ev) (ve : Value) (r : SRes), SAt W0 A c l w p i d out ve → srun l n ⟨[.rule .r_declaration], i, d, out⟩ = some r → inL (cAt l i) [⟨#[118, 97, 114]⟩, ⟨#[99, 111, 110, 115, 116]⟩, ⟨#[112, 114, 111, 99]⟩] = true → Calls Tryz.prog 50 #[.pointer (some ⟨p, 0, none⟩)] w (SPost W0 A c l p ve w r) := by
 intro n hn W0 A c w p i d out ve r H hr hpre
 show Calls Tryz.prog 50 _ w _
 have HNN := zh hn
 have hr0 : srun l n ⟨[.rule .r_declaration], i, d, out⟩ = some r := hr
 have HPRE := zh hpre
 have HR0 := zh hr0
 clear hn hr hr0 hpre
 obtain ⟨w0, hw0⟩ : ∃ V, w.alloc (.cells #[.pointer (some ⟨p, 0, none⟩)] 54) = V := ⟨_, rfl⟩
 have hb0 : Below w.heap.size w w0 := by rw [← hw0]; exact (Below.refl _ w).alloc (Nat.le_refl _) _
 have hg : w0.heap[w.heap.size]? = some (.cells #[.pointer (some ⟨p, 0, none⟩)] 54 (0, 0)) := by rw [← hw0]; exact World.alloc_heap_new _ _
 have HWB := zh hw0
 have HP0 := zh (H.moved hb0)
 have HS0 := zh (PStep.below hb0 : MStep p ve w ve w0)
 have HT0 := zh (PStep.refl p (.slice none 0 0) ve w0)
 obtain ⟨g, hge⟩ : ∃ g, w.heap.size = g := ⟨_, rfl⟩
 rw [hge] at hg
 have HGE := zh hge
 have HG0 := zh hg
 have bx := cR 0 hg
 clear hw0 hb0 hg hge H
 go_enter Tryz.func50, Tryz.ntmps50
 go_upto_region 2 with (fail)
 rw [HWB.out, HGE.out]
 by_cases hin1' : inL (cAt l i) [⟨#[118, 97, 114]⟩] = true
 ·have hin1 := hin1'
  clear hin1'
  have HI1 := zh hin1
  have HC1 := zh ((by have h := is_new HP0.out [⟨#[118, 97, 114]⟩] 1 [.string ⟨#[118, 97, 114]⟩] rfl rfl (by decide) (by decide); rw [HI1.out] at h; exact h))
  clear hin1
  go_wp2_with (go_at_call 47; (with_reducible refine cM HC1.out ?_); rintro e w1 ⟨rfl, hb⟩; have h3 : MStep p ve w0 ve w1 := PStep.below hb; have HP1 := zh (HP0.out.moved hb); have HS1 := zh (HS0.out.trans h3); have HG1 := zh (mkeep (HT0.out.trans h3) HP0.out HG0.out); have HT1 := zh (HT0.out.trans h3); clear bx; have bx := cR 0 HG1.out; clear hb h3)
  have h2 := HR0.out
  cases r with
  | ok i2 d2 out2 =>
   have HX2 := zh h2
   have HC2 := zh (node_rule HP1.out 3 3 rfl (.func (.func 62) #[] #[.pointer (some ⟨g, 0, none⟩)]) 62 (.pointer (some ⟨g, 0, none⟩)) (.inr rfl) (fun w => enters_ Tryz.func62 (by kernel_rfl) rfl #[(.pointer (some ⟨g, 0, none⟩))] w) (T := [.word ⟨#[118, 97, 114]⟩, .word ⟨#[64, 110, 97, 109, 101]⟩, .rule .r_names, .word ⟨#[58]⟩, .rule .r_kind, .word ⟨#[59]⟩]) (R := .r_declaration) (by rw [one_of HI1.out]; rfl) (G_declaration_1.body HP1.out HG1.out) HNN.out HX2.out)
   clear h2
   go_wp2_with (go_at_call 33; (with_reducible refine cM HC2.out ?_); rintro e w2 ⟨rfl, ve2, h2, h3⟩; have HP2 := zh h2; have HS2 := zh (HS1.out.trans h3); have HG2 := zh (mkeep (HT1.out.trans h3) HP0.out HG0.out); have HT2 := zh (HT1.out.trans h3); clear bx; have bx := cR 0 HG2.out; clear h2 h3)
   go_end0
   exact ⟨rfl, ve2, HP2.out, HS2.out⟩
  | err er jj =>
   have HX2 := zh h2
   have HC2 := zh (node_rule HP1.out 3 3 rfl (.func (.func 62) #[] #[.pointer (some ⟨g, 0, none⟩)]) 62 (.pointer (some ⟨g, 0, none⟩)) (.inr rfl) (fun w => enters_ Tryz.func62 (by kernel_rfl) rfl #[(.pointer (some ⟨g, 0, none⟩))] w) (T := [.word ⟨#[118, 97, 114]⟩, .word ⟨#[64, 110, 97, 109, 101]⟩, .rule .r_names, .word ⟨#[58]⟩, .rule .r_kind, .word ⟨#[59]⟩]) (R := .r_declaration) (by rw [one_of HI1.out]; rfl) (G_declaration_1.body HP1.out HG1.out) HNN.out HX2.out)
   clear h2
   go_wp2_with (go_at_call 33; (with_reducible refine cM HC2.out ?_); rintro e w2 ⟨rfl, ve2, h3⟩; have HS2 := zh (HS1.out.trans h3); clear h3)
   exact ⟨rfl, rfl, ve2, HS2.out⟩
 have hin1 : inL (cAt l i) [⟨#[118, 97, 114]⟩] = false := by simpa using hin1'
 clear hin1'
 have HI1 := zh hin1
 have HC1 := zh ((by have h := is_new HP0.out [⟨#[118, 97, 114]⟩] 1 [.string ⟨#[118, 97, 114]⟩] rfl rfl (by decide) (by decide); rw [HI1.out] at h; exact h))
 clear hin1
 go_wp2_with (go_at_call 47; (with_reducible refine cM HC1.out ?_); rintro e w1 ⟨rfl, hb⟩; have h3 : MStep p ve w0 ve w1 := PStep.below hb; have HP1 := zh (HP0.out.moved hb); have HS1 := zh (HS0.out.trans h3); have HG1 := zh (mkeep (HT0.out.trans h3) HP0.out HG0.out); have HT1 := zh (HT0.out.trans h3); clear bx; have bx := cR 0 HG1.out; clear hb h3)
 by_cases hin2' : inL (cAt l i) [⟨#[99, 111, 110, 115, 116]⟩] = true
 ·have hin2 := hin2'
  clear hin2'
  have HI2 := zh hin2
  have HC2 := zh ((by have h := is_new HP1.out [⟨#[99, 111, 110, 115, 116]⟩] 1 [.string ⟨#[99, 111, 110, 115, 116]⟩] rfl rfl (by decide) (by decide); rw [HI2.out] at h; exact h))
  clear hin2
  go_wp2_with (go_at_call 47; (with_reducible refine cM HC2.out ?_); rintro e w2 ⟨rfl, hb⟩; have h3 : MStep p ve w1 ve w2 := PStep.below hb; have HP2 := zh (HP1.out.moved hb); have HS2 := zh (HS1.out.trans h3); have HG2 := zh (mkeep (HT1.out.trans h3) HP0.out HG0.out); have HT2 := zh (HT1.out.trans h3); clear bx; have bx := cR 0 HG2.out; clear hb h3)
  have h3 := HR0.out
  cases r with
  | ok i3 d3 out3 =>
   have HX3 := zh h3
   have HC3 := zh (node_rule HP2.out 4 4 rfl (.func (.func 64) #[] #[.pointer (some ⟨g, 0, none⟩)]) 64 (.pointer (some ⟨g, 0, none⟩)) (.inr rfl) (fun w => enters_ Tryz.func64 (by kernel_rfl) rfl #[(.pointer (some ⟨g, 0, none⟩))] w) (T := [.word ⟨#[99, 111, 110, 115, 116]⟩, .word ⟨#[64, 110, 97, 109, 101]⟩, .word ⟨#[61]⟩, .rule .r_expr, .word ⟨#[59]⟩]) (R := .r_declaration) (by rw [one_of HI2.out]; rfl) (G_declaration_2.body HP2.out HG2.out) HNN.out HX3.out)
   clear h3
   go_wp2_with (go_at_call 33; (with_reducible refine cM HC3.out ?_); rintro e w3 ⟨rfl, ve3, h2, h3⟩; have HP3 := zh h2; have HS3 := zh (HS2.out.trans h3); have HG3 := zh (mkeep (HT2.out.trans h3) HP0.out HG0.out); have HT3 := zh (HT2.out.trans h3); clear bx; have bx := cR 0 HG3.out; clear h2 h3)
   go_end0
   exact ⟨rfl, ve3, HP3.out, HS3.out⟩
  | err er jj =>
   have HX3 := zh h3
   have HC3 := zh (node_rule HP2.out 4 4 rfl (.func (.func 64) #[] #[.pointer (some ⟨g, 0, none⟩)]) 64 (.pointer (some ⟨g, 0, none⟩)) (.inr rfl) (fun w => enters_ Tryz.func64 (by kernel_rfl) rfl #[(.pointer (some ⟨g, 0, none⟩))] w) (T := [.word ⟨#[99, 111, 110, 115, 116]⟩, .word ⟨#[64, 110, 97, 109, 101]⟩, .word ⟨#[61]⟩, .rule .r_expr, .word ⟨#[59]⟩]) (R := .r_declaration) (by rw [one_of HI2.out]; rfl) (G_declaration_2.body HP2.out HG2.out) HNN.out HX3.out)
   clear h3
   go_wp2_with (go_at_call 33; (with_reducible refine cM HC3.out ?_); rintro e w3 ⟨rfl, ve3, h3⟩; have HS3 := zh (HS2.out.trans h3); clear h3)
   exact ⟨rfl, rfl, ve3, HS3.out⟩
 have hin2 : inL (cAt l i) [⟨#[99, 111, 110, 115, 116]⟩] = false := by simpa using hin2'
 clear hin2'
 have HI2 := zh hin2
 have HC2 := zh ((by have h := is_new HP1.out [⟨#[99, 111, 110, 115, 116]⟩] 1 [.string ⟨#[99, 111, 110, 115, 116]⟩] rfl rfl (by decide) (by decide); rw [HI2.out] at h; exact h))
 clear hin2
 go_wp2_with (go_at_call 47; (with_reducible refine cM HC2.out ?_); rintro e w2 ⟨rfl, hb⟩; have h3 : MStep p ve w1 ve w2 := PStep.below hb; have HP2 := zh (HP1.out.moved hb); have HS2 := zh (HS1.out.trans h3); have HG2 := zh (mkeep (HT1.out.trans h3) HP0.out HG0.out); have HT2 := zh (HT1.out.trans h3); clear bx; have bx := cR 0 HG2.out; clear hb h3)
 have h3 := HR0.out
 cases r with
 | ok i3 d3 out3 =>
  have HX3 := zh h3
  have HC3 := zh (node_rule HP2.out 5 5 rfl (.func (.func 66) #[.pointer (some ⟨p, 0, none⟩)] #[]) 66 (.pointer (some ⟨p, 0, none⟩)) (.inl rfl) (fun w => enters_ Tryz.func66 (by kernel_rfl) rfl #[(.pointer (some ⟨p, 0, none⟩))] w) (T := [.word ⟨#[112, 114, 111, 99]⟩, .word ⟨#[64, 110, 97, 109, 101]⟩, .rule .r_params, .rule .r_typed, .word ⟨#[59]⟩, .rule .r_block, .word ⟨#[59]⟩]) (R := .r_declaration) (by rw [third HPRE.out HI1.out HI2.out]; rfl) (G_proc.body) HNN.out HX3.out)
  clear h3
  go_wp2_with (go_at_call 33; (with_reducible refine cM HC3.out ?_); rintro e w3 ⟨rfl, ve3, h2, h3⟩; have HP3 := zh h2; have HS3 := zh (HS2.out.trans h3); have HG3 := zh (mkeep (HT2.out.trans h3) HP0.out HG0.out); have HT3 := zh (HT2.out.trans h3); clear bx; have bx := cR 0 HG3.out; clear h2 h3)
  go_end0
  exact ⟨rfl, ve3, HP3.out, HS3.out⟩
 | err er jj =>
  have HX3 := zh h3
  have HC3 := zh (node_rule HP2.out 5 5 rfl (.func (.func 66) #[.pointer (some ⟨p, 0, none⟩)] #[]) 66 (.pointer (some ⟨p, 0, none⟩)) (.inl rfl) (fun w => enters_ Tryz.func66 (by kernel_rfl) rfl #[(.pointer (some ⟨p, 0, none⟩))] w) (T := [.word ⟨#[112, 114, 111, 99]⟩, .word ⟨#[64, 110, 97, 109, 101]⟩, .rule .r_params, .rule .r_typed, .word ⟨#[59]⟩, .rule .r_block, .word ⟨#[59]⟩]) (R := .r_declaration) (by rw [third HPRE.out HI1.out HI2.out]; rfl) (G_proc.body) HNN.out HX3.out)
  clear h3
  go_wp2_with (go_at_call 33; (with_reducible refine cM HC3.out ?_); rintro e w3 ⟨rfl, ve3, h3⟩; have HS3 := zh (HS2.out.trans h3); clear h3)
  exact ⟨rfl, rfl, ve3, HS3.out⟩
theorem sel_29 {cc : ByteArray} (h : cc = ⟨#[91]⟩) {k : Nat} {T : List WT} (he : RId.expand .r_selected cc = some [.push [.rule .r_selected], .opn k T]) : k = 29 ∧ T = [.word ⟨#[91]⟩, .rule .r_expr, .rule .r_exprs, .word ⟨#[93]⟩] := by
 subst h
 have h2 : some [Eff.push [.rule .r_selected], .opn 29 [.word ⟨#[91]⟩, .rule .r_expr, .rule .r_exprs, .word ⟨#[93]⟩]] = some [.push [.rule .r_selected], .opn k T] := he
 injection h2 with h2; injection h2 with _ h2; injection h2 with h2 _; injection h2 with h3 h4
 exact ⟨h3.symm, h4.symm⟩
theorem sel_30 {cc : ByteArray} (h : cc = ⟨#[46]⟩) {k : Nat} {T : List WT} (he : RId.expand .r_selected cc = some [.push [.rule .r_selected], .opn k T]) : k = 30 ∧ T = [.word ⟨#[46]⟩, .word ⟨#[64, 110, 97, 109, 101]⟩] := by
 subst h
 have h2 : some [Eff.push [.rule .r_selected], .opn 30 [.word ⟨#[46]⟩, .word ⟨#[64, 110, 97, 109, 101]⟩]] = some [.push [.rule .r_selected], .opn k T] := he
 injection h2 with h2; injection h2 with _ h2; injection h2 with h2 _; injection h2 with h3 h4
 exact ⟨h3.symm, h4.symm⟩
theorem sel_31 {cc : ByteArray} (h : cc = ⟨#[40]⟩) {k : Nat} {T : List WT} (he : RId.expand .r_selected cc = some [.push [.rule .r_selected], .opn k T]) : k = 31 ∧ T = [.word ⟨#[40]⟩, .rule .r_args, .word ⟨#[41]⟩] := by
 subst h
 have h2 : some [Eff.push [.rule .r_selected], .opn 31 [.word ⟨#[40]⟩, .rule .r_args, .word ⟨#[41]⟩]] = some [.push [.rule .r_selected], .opn k T] := he
 injection h2 with h2; injection h2 with _ h2; injection h2 with h2 _; injection h2 with h3 h4
 exact ⟨h3.symm, h4.symm⟩
theorem sel_out {cc : ByteArray} {k : Nat} {T : List WT} (he : RId.expand .r_selected cc = some [.push [.rule .r_selected], .opn k T]) (h1 : inL cc [⟨#[91]⟩] = false) (h2 : inL cc [⟨#[46]⟩] = false) : cc = ⟨#[40]⟩ := by
 simp only [RId.expand] at he
 rw [if_neg (none_of h1 _ List.mem_cons_self), if_neg (none_of h2 _ List.mem_cons_self)] at he
 by_cases h3 : cc = ⟨#[40]⟩
 ·exact h3
 ·rw [if_neg h3] at he
  cases he
theorem g_selected (l : List Tk) (N : Nat) (G_selected_1 : GoodC l N 136 [.word ⟨#[91]⟩, .rule .r_expr, .rule .r_exprs, .word ⟨#[93]⟩]) (G_selected_2 : GoodC l N 137 [.word ⟨#[46]⟩, .word ⟨#[64, 110, 97, 109, 101]⟩]) (G_selected_3 : GoodC l N 138 [.word ⟨#[40]⟩, .rule .r_args, .word ⟨#[41]⟩]) : ∀ n, n ≤ N → ∀ (W0 : World) (A : Option Addr) (c : Nat) (w : World) (p i : Nat) (d : Int) (out : List Ev) (ve : Value) (r : SRes) (k : Nat) (T : List WT), SAt W0 A c l w p i d out ve → srun l n ⟨T ++ [.fin k], i, d + 1, out ++ [evOf (1, k)]⟩ = some r → RId.expand .r_selected (cAt l i) = some [.push [.rule .r_selected], .opn k T] → Calls Tryz.prog 121 #[.pointer (some ⟨p, 0, none⟩)] w (SPost W0 A c l p ve w r) := by
 intro n hn W0 A c w p i d out ve r k T H hr hex
 show Calls Tryz.prog 121 _ w _
 have HNN := zh hn
 have hr0 := hr
 clear hn hr
 obtain ⟨w0, hw0⟩ : ∃ V, w.alloc (.cells #[.pointer (some ⟨p, 0, none⟩)] 54) = V := ⟨_, rfl⟩
 have hb0 : Below w.heap.size w w0 := by rw [← hw0]; exact (Below.refl _ w).alloc (Nat.le_refl _) _
 have hg : w0.heap[w.heap.size]? = some (.cells #[.pointer (some ⟨p, 0, none⟩)] 54 (0, 0)) := by rw [← hw0]; exact World.alloc_heap_new _ _
 have HWB := zh hw0
 have HP0 := zh (H.moved hb0)
 have HS0 := zh (PStep.below hb0 : MStep p ve w ve w0)
 have HT0 := zh (PStep.refl p (.slice none 0 0) ve w0)
 obtain ⟨g, hge⟩ : ∃ g, w.heap.size = g := ⟨_, rfl⟩
 rw [hge] at hg
 have HGE := zh hge
 have HG0 := zh hg
 have bx := cR 0 hg
 clear hw0 hb0 hg hge H
 by_cases hin1' : inL (cAt l i) [⟨#[91]⟩] = true
 ·have hin1 := hin1'
  obtain ⟨rfl, rfl⟩ := sel_29 (one_of hin1) hex
  clear hin1' hex
  have h2 := hr0
  cases r with
  | ok i2 d2 out2 =>
   have HX2 := zh h2
   have HI1 := zh hin1
   have HC1 := zh ((by have h := is_new HP0.out [⟨#[91]⟩] 1 [.string ⟨#[91]⟩] rfl rfl (by decide) (by decide); rw [HI1.out] at h; exact h))
   clear h2 hin1
   (try clear hr)
   go_enter Tryz.func121, Tryz.ntmps121
   go_upto_region 2 with (fail)
   rw [HWB.out, HGE.out]
   go_wp2_with (first
    | (go_at_call 47; (with_reducible refine cM HC1.out ?_); rintro e w1 ⟨rfl, hb⟩; have h3 : MStep p ve w0 ve w1 := PStep.below hb; have HP1 := zh (HP0.out.moved hb); have HS1 := zh (HS0.out.trans h3); have HG1 := zh (mkeep (HT0.out.trans h3) HP0.out HG0.out); have HT1 := zh (HT0.out.trans h3); clear bx; have bx := cR 0 HG1.out; have HC2 := zh (node_new HP1.out 29 29 rfl (.func (.func 136) #[] #[.pointer (some ⟨g, 0, none⟩)]) 136 (.pointer (some ⟨g, 0, none⟩)) (.inr rfl) (fun w => enters_ Tryz.func136 (by kernel_rfl) rfl #[(.pointer (some ⟨g, 0, none⟩))] w) (T := [.word ⟨#[91]⟩, .rule .r_expr, .rule .r_exprs, .word ⟨#[93]⟩]) (G_selected_1.body HP1.out HG1.out) HNN.out HX2.out); clear hb h3)
    | (go_at_call 33; (with_reducible refine cM HC2.out ?_); rintro e w2 ⟨rfl, ve2, h2, h3⟩; have HP2 := zh h2; have HS2 := zh (HS1.out.trans h3); have HG2 := zh (mkeep (HT1.out.trans h3) HP0.out HG0.out); have HT2 := zh (HT1.out.trans h3); clear bx; have bx := cR 0 HG2.out; clear h2 h3))
   go_end0
   exact ⟨rfl, ve2, HP2.out, HS2.out⟩
  | err er jj =>
   have HX2 := zh h2
   have HI1 := zh hin1
   have HC1 := zh ((by have h := is_new HP0.out [⟨#[91]⟩] 1 [.string ⟨#[91]⟩] rfl rfl (by decide) (by decide); rw [HI1.out] at h; exact h))
   clear h2 hin1
   (try clear hr)
   go_enter Tryz.func121, Tryz.ntmps121
   go_upto_region 2 with (fail)
   rw [HWB.out, HGE.out]
   go_wp2_with (first
    | (go_at_call 47; (with_reducible refine cM HC1.out ?_); rintro e w1 ⟨rfl, hb⟩; have h3 : MStep p ve w0 ve w1 := PStep.below hb; have HP1 := zh (HP0.out.moved hb); have HS1 := zh (HS0.out.trans h3); have HG1 := zh (mkeep (HT0.out.trans h3) HP0.out HG0.out); have HT1 := zh (HT0.out.trans h3); clear bx; have bx := cR 0 HG1.out; have HC2 := zh (node_new HP1.out 29 29 rfl (.func (.func 136) #[] #[.pointer (some ⟨g, 0, none⟩)]) 136 (.pointer (some ⟨g, 0, none⟩)) (.inr rfl) (fun w => enters_ Tryz.func136 (by kernel_rfl) rfl #[(.pointer (some ⟨g, 0, none⟩))] w) (T := [.word ⟨#[91]⟩, .rule .r_expr, .rule .r_exprs, .word ⟨#[93]⟩]) (G_selected_1.body HP1.out HG1.out) HNN.out HX2.out); clear hb h3)
    | (go_at_call 33; (with_reducible refine cM HC2.out ?_); rintro e w2 ⟨rfl, ve2, h3⟩; have HS2 := zh (HS1.out.trans h3); clear h3))
   exact ⟨rfl, rfl, ve2, HS2.out⟩
 ·have hin1 : inL (cAt l i) [⟨#[91]⟩] = false := by simpa using hin1'
  clear hin1'
  by_cases hin2' : inL (cAt l i) [⟨#[46]⟩] = true
  ·have hin2 := hin2'
   obtain ⟨rfl, rfl⟩ := sel_30 (one_of hin2) hex
   clear hin2' hex
   have h3 := hr0
   cases r with
   | ok i3 d3 out3 =>
    have HX3 := zh h3
    have HI1 := zh hin1; have HI2 := zh hin2
    have HC1 := zh ((by have h := is_new HP0.out [⟨#[91]⟩] 1 [.string ⟨#[91]⟩] rfl rfl (by decide) (by decide); rw [HI1.out] at h; exact h))
    clear h3 hin1 hin2
    (try clear hr)
    go_enter Tryz.func121, Tryz.ntmps121
    go_upto_region 2 with (fail)
    rw [HWB.out, HGE.out]
    go_wp2_with (first
     | (go_at_call 47; (with_reducible refine cM HC1.out ?_); rintro e w1 ⟨rfl, hb⟩; have h3 : MStep p ve w0 ve w1 := PStep.below hb; have HP1 := zh (HP0.out.moved hb); have HS1 := zh (HS0.out.trans h3); have HG1 := zh (mkeep (HT0.out.trans h3) HP0.out HG0.out); have HT1 := zh (HT0.out.trans h3); clear bx; have bx := cR 0 HG1.out; have HC2 := zh ((by have h := is_new HP1.out [⟨#[46]⟩] 1 [.string ⟨#[46]⟩] rfl rfl (by decide) (by decide); rw [HI2.out] at h; exact h)); clear hb h3)
     | (go_at_call 47; (with_reducible refine cM HC2.out ?_); rintro e w2 ⟨rfl, hb⟩; have h3 : MStep p ve w1 ve w2 := PStep.below hb; have HP2 := zh (HP1.out.moved hb); have HS2 := zh (HS1.out.trans h3); have HG2 := zh (mkeep (HT1.out.trans h3) HP0.out HG0.out); have HT2 := zh (HT1.out.trans h3); clear bx; have bx := cR 0 HG2.out; have HC3 := zh (node_new HP2.out 30 30 rfl (.func (.func 137) #[] #[.pointer (some ⟨g, 0, none⟩)]) 137 (.pointer (some ⟨g, 0, none⟩)) (.inr rfl) (fun w => enters_ Tryz.func137 (by kernel_rfl) rfl #[(.pointer (some ⟨g, 0, none⟩))] w) (T := [.word ⟨#[46]⟩, .word ⟨#[64, 110, 97, 109, 101]⟩]) (G_selected_2.body HP2.out HG2.out) HNN.out HX3.out); clear hb h3)
     | (go_at_call 33; (with_reducible refine cM HC3.out ?_); rintro e w3 ⟨rfl, ve3, h2, h3⟩; have HP3 := zh h2; have HS3 := zh (HS2.out.trans h3); have HG3 := zh (mkeep (HT2.out.trans h3) HP0.out HG0.out); have HT3 := zh (HT2.out.trans h3); clear bx; have bx := cR 0 HG3.out; clear h2 h3))
    go_end0
    exact ⟨rfl, ve3, HP3.out, HS3.out⟩
   | err er jj =>
    have HX3 := zh h3
    have HI1 := zh hin1; have HI2 := zh hin2
    have HC1 := zh ((by have h := is_new HP0.out [⟨#[91]⟩] 1 [.string ⟨#[91]⟩] rfl rfl (by decide) (by decide); rw [HI1.out] at h; exact h))
    clear h3 hin1 hin2
    (try clear hr)
    go_enter Tryz.func121, Tryz.ntmps121
    go_upto_region 2 with (fail)
    rw [HWB.out, HGE.out]
    go_wp2_with (first
     | (go_at_call 47; (with_reducible refine cM HC1.out ?_); rintro e w1 ⟨rfl, hb⟩; have h3 : MStep p ve w0 ve w1 := PStep.below hb; have HP1 := zh (HP0.out.moved hb); have HS1 := zh (HS0.out.trans h3); have HG1 := zh (mkeep (HT0.out.trans h3) HP0.out HG0.out); have HT1 := zh (HT0.out.trans h3); clear bx; have bx := cR 0 HG1.out; have HC2 := zh ((by have h := is_new HP1.out [⟨#[46]⟩] 1 [.string ⟨#[46]⟩] rfl rfl (by decide) (by decide); rw [HI2.out] at h; exact h)); clear hb h3)
     | (go_at_call 47; (with_reducible refine cM HC2.out ?_); rintro e w2 ⟨rfl, hb⟩; have h3 : MStep p ve w1 ve w2 := PStep.below hb; have HP2 := zh (HP1.out.moved hb); have HS2 := zh (HS1.out.trans h3); have HG2 := zh (mkeep (HT1.out.trans h3) HP0.out HG0.out); have HT2 := zh (HT1.out.trans h3); clear bx; have bx := cR 0 HG2.out; have HC3 := zh (node_new HP2.out 30 30 rfl (.func (.func 137) #[] #[.pointer (some ⟨g, 0, none⟩)]) 137 (.pointer (some ⟨g, 0, none⟩)) (.inr rfl) (fun w => enters_ Tryz.func137 (by kernel_rfl) rfl #[(.pointer (some ⟨g, 0, none⟩))] w) (T := [.word ⟨#[46]⟩, .word ⟨#[64, 110, 97, 109, 101]⟩]) (G_selected_2.body HP2.out HG2.out) HNN.out HX3.out); clear hb h3)
     | (go_at_call 33; (with_reducible refine cM HC3.out ?_); rintro e w3 ⟨rfl, ve3, h3⟩; have HS3 := zh (HS2.out.trans h3); clear h3))
    exact ⟨rfl, rfl, ve3, HS3.out⟩
  ·have hin2 : inL (cAt l i) [⟨#[46]⟩] = false := by simpa using hin2'
   obtain ⟨rfl, rfl⟩ := sel_31 (sel_out hex hin1 hin2) hex
   clear hin2' hex
   have h3 := hr0
   cases r with
   | ok i3 d3 out3 =>
    have HX3 := zh h3
    have HI1 := zh hin1; have HI2 := zh hin2
    have HC1 := zh ((by have h := is_new HP0.out [⟨#[91]⟩] 1 [.string ⟨#[91]⟩] rfl rfl (by decide) (by decide); rw [HI1.out] at h; exact h))
    clear h3 hin1 hin2
    (try clear hr)
    go_enter Tryz.func121, Tryz.ntmps121
    go_upto_region 2 with (fail)
    rw [HWB.out, HGE.out]
    go_wp2_with (first
     | (go_at_call 47; (with_reducible refine cM HC1.out ?_); rintro e w1 ⟨rfl, hb⟩; have h3 : MStep p ve w0 ve w1 := PStep.below hb; have HP1 := zh (HP0.out.moved hb); have HS1 := zh (HS0.out.trans h3); have HG1 := zh (mkeep (HT0.out.trans h3) HP0.out HG0.out); have HT1 := zh (HT0.out.trans h3); clear bx; have bx := cR 0 HG1.out; have HC2 := zh ((by have h := is_new HP1.out [⟨#[46]⟩] 1 [.string ⟨#[46]⟩] rfl rfl (by decide) (by decide); rw [HI2.out] at h; exact h)); clear hb h3)
     | (go_at_call 47; (with_reducible refine cM HC2.out ?_); rintro e w2 ⟨rfl, hb⟩; have h3 : MStep p ve w1 ve w2 := PStep.below hb; have HP2 := zh (HP1.out.moved hb); have HS2 := zh (HS1.out.trans h3); have HG2 := zh (mkeep (HT1.out.trans h3) HP0.out HG0.out); have HT2 := zh (HT1.out.trans h3); clear bx; have bx := cR 0 HG2.out; have HC3 := zh (node_new HP2.out 31 31 rfl (.func (.func 138) #[] #[.pointer (some ⟨g, 0, none⟩)]) 138 (.pointer (some ⟨g, 0, none⟩)) (.inr rfl) (fun w => enters_ Tryz.func138 (by kernel_rfl) rfl #[(.pointer (some ⟨g, 0, none⟩))] w) (T := [.word ⟨#[40]⟩, .rule .r_args, .word ⟨#[41]⟩]) (G_selected_3.body HP2.out HG2.out) HNN.out HX3.out); clear hb h3)
     | (go_at_call 33; (with_reducible refine cM HC3.out ?_); rintro e w3 ⟨rfl, ve3, h2, h3⟩; have HP3 := zh h2; have HS3 := zh (HS2.out.trans h3); have HG3 := zh (mkeep (HT2.out.trans h3) HP0.out HG0.out); have HT3 := zh (HT2.out.trans h3); clear bx; have bx := cR 0 HG3.out; clear h2 h3))
    go_end0
    exact ⟨rfl, ve3, HP3.out, HS3.out⟩
   | err er jj =>
    have HX3 := zh h3
    have HI1 := zh hin1; have HI2 := zh hin2
    have HC1 := zh ((by have h := is_new HP0.out [⟨#[91]⟩] 1 [.string ⟨#[91]⟩] rfl rfl (by decide) (by decide); rw [HI1.out] at h; exact h))
    clear h3 hin1 hin2
    (try clear hr)
    go_enter Tryz.func121, Tryz.ntmps121
    go_upto_region 2 with (fail)
    rw [HWB.out, HGE.out]
    go_wp2_with (first
     | (go_at_call 47; (with_reducible refine cM HC1.out ?_); rintro e w1 ⟨rfl, hb⟩; have h3 : MStep p ve w0 ve w1 := PStep.below hb; have HP1 := zh (HP0.out.moved hb); have HS1 := zh (HS0.out.trans h3); have HG1 := zh (mkeep (HT0.out.trans h3) HP0.out HG0.out); have HT1 := zh (HT0.out.trans h3); clear bx; have bx := cR 0 HG1.out; have HC2 := zh ((by have h := is_new HP1.out [⟨#[46]⟩] 1 [.string ⟨#[46]⟩] rfl rfl (by decide) (by decide); rw [HI2.out] at h; exact h)); clear hb h3)
     | (go_at_call 47; (with_reducible refine cM HC2.out ?_); rintro e w2 ⟨rfl, hb⟩; have h3 : MStep p ve w1 ve w2 := PStep.below hb; have HP2 := zh (HP1.out.moved hb); have HS2 := zh (HS1.out.trans h3); have HG2 := zh (mkeep (HT1.out.trans h3) HP0.out HG0.out); have HT2 := zh (HT1.out.trans h3); clear bx; have bx := cR 0 HG2.out; have HC3 := zh (node_new HP2.out 31 31 rfl (.func (.func 138) #[] #[.pointer (some ⟨g, 0, none⟩)]) 138 (.pointer (some ⟨g, 0, none⟩)) (.inr rfl) (fun w => enters_ Tryz.func138 (by kernel_rfl) rfl #[(.pointer (some ⟨g, 0, none⟩))] w) (T := [.word ⟨#[40]⟩, .rule .r_args, .word ⟨#[41]⟩]) (G_selected_3.body HP2.out HG2.out) HNN.out HX3.out); clear hb h3)
     | (go_at_call 33; (with_reducible refine cM HC3.out ?_); rintro e w3 ⟨rfl, ve3, h3⟩; have HS3 := zh (HS2.out.trans h3); clear h3))
    exact ⟨rfl, rfl, ve3, HS3.out⟩
section
variable {l : List Tk} {n : Nat} {R : RId} {S T : List WT} {i : Nat} {d : Int} {out : List Ev} {r : SRes}
theorem round_push (he : R.expand (cAt l i) = some [.push T]) (hr : srun l (n + 1) ⟨.rule R :: S, i, d, out⟩ = some r) : srun l n ⟨T ++ S, i, d, out⟩ = some r := by
 obtain ⟨_, m, hm, h⟩ := srun_on hr (s' := ⟨T ++ S, i, d, out⟩) (by simp [sstep, he, effs, Eff.act])
 obtain rfl : n = m := by omega
 exact h
theorem round_opn {R2 : RId} {k : Nat} (he : R.expand (cAt l i) = some [.push [.rule R2], .opn k T]) (hr : srun l (n + 1) ⟨.rule R :: S, i, d, out⟩ = some r) : srun l n ⟨(T ++ [.fin k]) ++ (.rule R2 :: S), i, d + 1, out ++ [evOf (1, k)]⟩ = some r := by
 obtain ⟨_, m, hm, h⟩ := srun_on hr (s' := ⟨(T ++ [.fin k]) ++ (.rule R2 :: S), i, d + 1, out ++ [evOf (1, k)]⟩) (by simp [sstep, he, effs, Eff.act])
 obtain rfl : n = m := by omega
 exact h
end
theorem sel_exp {cc : ByteArray} (h : inL cc [⟨#[91]⟩, ⟨#[46]⟩, ⟨#[40]⟩] = true) : ∃ k T, RId.expand .r_selected cc = some [.push [.rule .r_selected], .opn k T] := by
 have hm := (inL_iff _ _).1 h
 simp only [List.mem_cons, List.not_mem_nil, or_false] at hm
 rcases hm with rfl | rfl | rfl <;> exact ⟨_, _, rfl⟩
theorem sel_no {cc : ByteArray} (h : inL cc [⟨#[91]⟩, ⟨#[46]⟩, ⟨#[40]⟩] = false) : RId.expand .r_selected cc = some [] := by
 simp only [RId.expand]
 rw [if_neg (none_of h _ (by simp)), if_neg (none_of h _ (by simp)), if_neg (none_of h _ (by simp))]
theorem g_object_1 (l : List Tk) (N : Nat) (G_selected : ∀ n, n ≤ N → ∀ (W0 : World) (A : Option Addr) (c : Nat) (w : World) (p i : Nat) (d : Int) (out : List Ev) (ve : Value) (r : SRes) (k : Nat) (T : List WT), SAt W0 A c l w p i d out ve → srun l n ⟨T ++ [.fin k], i, d + 1, out ++ [evOf (1, k)]⟩ = some r → RId.expand .r_selected (cAt l i) = some [.push [.rule .r_selected], .opn k T] → Calls Tryz.prog 121 #[.pointer (some ⟨p, 0, none⟩)] w (SPost W0 A c l p ve w r)) : GoodC l N 120 [.word ⟨#[64, 110, 97, 109, 101]⟩, .rule .r_selected] := by
 intro n hn W0 A c w0 p g i d out ve r H hg hr
 show Calls Tryz.prog 120 _ w0 _
 have HP0 := zh H
 have HG0 := zh hg
 have HNN := zh hn
 have HS0 := zh (PStep.refl p (.slice none 0 0) ve w0)
 have HT0 := HS0
 have bx := cR 0 hg
 have hr0 : srun l n ⟨([.word ⟨#[64, 110, 97, 109, 101]⟩] ++ [.rule .r_selected]), i, d, out⟩ = some r := hr
 clear H hg hn hr
 rcases srun_app l n [.word ⟨#[64, 110, 97, 109, 101]⟩] [.rule .r_selected] i d out r hr0 with ⟨er, jj, rfl, h1⟩ | ⟨i1, d1, out1, h1, hr1⟩
 ·skip
  have HX1 := zh h1
  have HC1 := zh (name_any l N n HNN.out W0 A c w0 p i d out ve _ HP0.out HX1.out)
  clear h1
  (try clear hr)
  go_enter Tryz.func120, Tryz.ntmps120
  go_wp2_with (first
   | (go_at_call 37; (with_reducible refine cM HC1.out ?_); rintro e w1 ⟨rfl, ve1, h3⟩; have HS1 := zh (HS0.out.trans h3); clear h3))
  exact ⟨rfl, rfl, ve1, HS1.out⟩
 ·skip
  have HRJ := zh hr1
  clear hr1
  have HX1 := zh h1
  have HC1 := zh (name_any l N n HNN.out W0 A c w0 p i d out ve _ HP0.out HX1.out)
  clear h1
  (try clear hr)
  go_enter Tryz.func120, Tryz.ntmps120
  go_wp2_with (first
   | (go_at_call 37; (with_reducible refine cM HC1.out ?_); rintro e w1 ⟨rfl, ve1, h2, h3⟩; have HP1 := zh h2; have HS1 := zh (HS0.out.trans h3); have HG1 := zh (mkeep (HT0.out.trans h3) HP0.out HG0.out); have HT1 := zh (HT0.out.trans h3); clear bx; have bx := cR 0 HG1.out; clear h2 h3))
  have HI0 : Hid (SAt W0 A c l w1 p i1 d1 out1 ve1 ∧ MStep p ve w0 ve1 w1 ∧ srun l n ⟨(.rule .r_selected :: []), i1, d1, out1⟩ = some r) := zh ⟨HP1.out, HS1.out, HRJ.out⟩
  clear HP1 HS1 HG1 HT1
  clear HRJ
  go_loopg [3] n (fun kq vx wr => Hid (∃ i' d' out' ve', SAt W0 A c l wr p i' d' out' ve' ∧ MStep p ve w0 ve' wr ∧ kq ≤ n ∧ srun l kq ⟨(.rule .r_selected :: []), i', d', out'⟩ = some r))
  case atStart => exact zh ⟨_, _, _, _, HI0.out.1, HI0.out.2.1, Nat.le_refl _, HI0.out.2.2⟩
  case round =>
   obtain ⟨i', d', out', ve', hA, hS, hkn, hrun⟩ := hrel.out
   clear HI0 hrel
   cases gk with
   | zero => exact absurd hrun (by simp [srun])
   | succ m =>
    have HPR := zh hA
    have HSR := zh hS
    have HGR := zh (mkeep hS HP0.out HG0.out)
    have HTR := HSR
    have bx := cR 0 HGR.out
    have HM1 : Hid (m + 1 ≤ N) := zh (Nat.le_trans hkn HNN.out)
    have HMN : Hid (m ≤ N) := zh (Nat.le_trans (Nat.le_succ m) HM1.out)
    have HKN : Hid (m ≤ n) := zh (Nat.le_trans (Nat.le_succ m) hkn)
    clear hA hS hkn
    by_cases hin2' : inL (cAt l i') [⟨#[91]⟩, ⟨#[46]⟩, ⟨#[40]⟩] = true
    ·have hin2 := hin2'
     clear hin2'
     obtain ⟨k, T, hex⟩ := sel_exp hin2
     have hr2 := round_opn hex hrun
     have HEX := zh hex
     clear hrun hex
     rcases srun_app l m (T ++ [.fin k]) [.rule .r_selected] i' (d' + 1) (out' ++ [evOf (1, k)]) r hr2 with ⟨er, jj, rfl, h3⟩ | ⟨i3, d3, out3, h3, hr3⟩
     ·skip
      have HX3 := zh h3
      have HI2 := zh hin2
      have HC2 := zh ((by have h := is_new HPR.out [⟨#[91]⟩, ⟨#[46]⟩, ⟨#[40]⟩] 3 [.string ⟨#[91]⟩, .string ⟨#[46]⟩, .string ⟨#[40]⟩] rfl rfl (by decide) (by decide); rw [HI2.out] at h; exact h))
      clear h3 hin2
      (try clear hr)
      go_wp2_with (first
       | (go_at_call 47; (with_reducible refine cM HC2.out ?_); rintro e w2 ⟨rfl, hb⟩; have h3 : MStep p ve' wr ve' w2 := PStep.below hb; have HP2 := zh (HPR.out.moved hb); have HS2 := zh (HSR.out.trans h3); have HG2 := zh (mkeep (HTR.out.trans h3) HP0.out HG0.out); have HT2 := zh (HTR.out.trans h3); clear bx; have bx := cR 0 HG2.out; have HC3 := zh (G_selected m HMN.out W0 A c w2 p i' d' out' ve' _ k T HP2.out HX3.out HEX.out); clear hb h3)
       | (go_at_call 121; (with_reducible refine cM HC3.out ?_); rintro e w3 ⟨rfl, ve3, h3⟩; have HS3 := zh (HS2.out.trans h3); clear h3))
      exact ⟨rfl, rfl, ve3, HS3.out⟩
     ·skip
      have HRJ := zh hr3
      clear hr3
      have HX3 := zh h3
      have HI2 := zh hin2
      have HC2 := zh ((by have h := is_new HPR.out [⟨#[91]⟩, ⟨#[46]⟩, ⟨#[40]⟩] 3 [.string ⟨#[91]⟩, .string ⟨#[46]⟩, .string ⟨#[40]⟩] rfl rfl (by decide) (by decide); rw [HI2.out] at h; exact h))
      clear h3 hin2
      (try clear hr)
      go_wp2_with (first
       | (go_at_call 47; (with_reducible refine cM HC2.out ?_); rintro e w2 ⟨rfl, hb⟩; have h3 : MStep p ve' wr ve' w2 := PStep.below hb; have HP2 := zh (HPR.out.moved hb); have HS2 := zh (HSR.out.trans h3); have HG2 := zh (mkeep (HTR.out.trans h3) HP0.out HG0.out); have HT2 := zh (HTR.out.trans h3); clear bx; have bx := cR 0 HG2.out; have HC3 := zh (G_selected m HMN.out W0 A c w2 p i' d' out' ve' _ k T HP2.out HX3.out HEX.out); clear hb h3)
       | (go_at_call 121; (with_reducible refine cM HC3.out ?_); rintro e w3 ⟨rfl, ve3, h2, h3⟩; have HP3 := zh h2; have HS3 := zh (HS2.out.trans h3); have HG3 := zh (mkeep (HT2.out.trans h3) HP0.out HG0.out); have HT3 := zh (HT2.out.trans h3); clear bx; have bx := cR 0 HG3.out; clear h2 h3))
      go_roundg m
      case measure => omega
      case rel => exact zh ⟨_, _, _, _, HP3.out, HS3.out, HKN.out, HRJ.out⟩
    ·have hin2 : inL (cAt l i') [⟨#[91]⟩, ⟨#[46]⟩, ⟨#[40]⟩] = false := by simpa using hin2'
     clear hin2'
     have hr2 := if_no (sel_no hin2) hrun
     clear hrun
     obtain ⟨_, rfl⟩ := srun_fin hr2 (q := .ok i' d' out') rfl
     (try clear hr2)
     have HI2 := zh hin2
     have HC2 := zh ((by have h := is_new HPR.out [⟨#[91]⟩, ⟨#[46]⟩, ⟨#[40]⟩] 3 [.string ⟨#[91]⟩, .string ⟨#[46]⟩, .string ⟨#[40]⟩] rfl rfl (by decide) (by decide); rw [HI2.out] at h; exact h))
     clear hin2
     (try clear hr)
     go_wp2_with (first
      | (go_at_call 47; (with_reducible refine cM HC2.out ?_); rintro e w2 ⟨rfl, hb⟩; have h3 : MStep p ve' wr ve' w2 := PStep.below hb; have HP2 := zh (HPR.out.moved hb); have HS2 := zh (HSR.out.trans h3); have HG2 := zh (mkeep (HTR.out.trans h3) HP0.out HG0.out); have HT2 := zh (HTR.out.trans h3); clear bx; have bx := cR 0 HG2.out; clear hb h3))
     go_end0
     exact ⟨rfl, ve', HP2.out, HS2.out⟩
theorem yes_declarations {cc : ByteArray} (h : inL cc [⟨#[118, 97, 114]⟩, ⟨#[99, 111, 110, 115, 116]⟩, ⟨#[112, 114, 111, 99]⟩] = true) : RId.expand .r_declarations cc = some [.push [.rule .r_declaration, .rule .r_declarations]] := by
 have h1 : cc = ⟨#[118, 97, 114]⟩ ∨ cc = ⟨#[99, 111, 110, 115, 116]⟩ ∨ cc = ⟨#[112, 114, 111, 99]⟩ := by simpa using (inL_iff _ _).1 h
 simp only [RId.expand]
 rw [if_pos h1]
theorem no_declarations {cc : ByteArray} (h : inL cc [⟨#[118, 97, 114]⟩, ⟨#[99, 111, 110, 115, 116]⟩, ⟨#[112, 114, 111, 99]⟩] = false) : RId.expand .r_declarations cc = some [] := by
 have h1 : ¬ (cc = ⟨#[118, 97, 114]⟩ ∨ cc = ⟨#[99, 111, 110, 115, 116]⟩ ∨ cc = ⟨#[112, 114, 111, 99]⟩) := fun hc => by
  have := (inL_iff cc [⟨#[118, 97, 114]⟩, ⟨#[99, 111, 110, 115, 116]⟩, ⟨#[112, 114, 111, 99]⟩]).2 (by simpa using hc)
  rw [this] at h
  cases h
 simp only [RId.expand]
 rw [if_neg h1]
theorem g_block_1 (l : List Tk) (N : Nat) (G_declaration : ∀ n, n ≤ N → ∀ (W0 : World) (A : Option Addr) (c : Nat) (w : World) (p i : Nat) (d : Int) (out : List Ev) (ve : Value) (r : SRes), SAt W0 A c l w p i d out ve → srun l n ⟨[.rule .r_declaration], i, d, out⟩ = some r → inL (cAt l i) [⟨#[118, 97, 114]⟩, ⟨#[99, 111, 110, 115, 116]⟩, ⟨#[112, 114, 111, 99]⟩] = true → Calls Tryz.prog 50 #[.pointer (some ⟨p, 0, none⟩)] w (SPost W0 A c l p ve w r)) (G_body : Good l N 51 [.rule .r_body]) : GoodC l N 49 [.rule .r_declarations, .word ⟨#[98, 101, 103, 105, 110]⟩, .rule .r_body, .word ⟨#[101, 110, 100]⟩] := by
 intro n hn W0 A c w0 p g i d out ve r H hg hr
 show Calls Tryz.prog 49 _ w0 _
 have HP0 := zh H
 have HG0 := zh hg
 have HNN := zh hn
 have HS0 := zh (PStep.refl p (.slice none 0 0) ve w0)
 have HT0 := HS0
 have bx := cR 0 hg
 have hr0 : srun l n ⟨(.rule .r_declarations :: ([.word ⟨#[98, 101, 103, 105, 110]⟩] ++ ([.rule .r_body] ++ [.word ⟨#[101, 110, 100]⟩]))), i, d, out⟩ = some r := hr
 clear H hg hn hr
 have HRJ := zh hr0
 clear hr0
 go_enter Tryz.func49, Tryz.ntmps49
 go_wp2
 have HI0 : Hid (SAt W0 A c l w0 p i d out ve ∧ MStep p ve w0 ve w0 ∧ srun l n ⟨(.rule .r_declarations :: ([.word ⟨#[98, 101, 103, 105, 110]⟩] ++ ([.rule .r_body] ++ [.word ⟨#[101, 110, 100]⟩]))), i, d, out⟩ = some r) := zh ⟨HP0.out, HS0.out, HRJ.out⟩
 skip
 clear HRJ
 go_loopg [1] n (fun kq vx wr => Hid (∃ i' d' out' ve', SAt W0 A c l wr p i' d' out' ve' ∧ MStep p ve w0 ve' wr ∧ kq ≤ n ∧ srun l kq ⟨(.rule .r_declarations :: ([.word ⟨#[98, 101, 103, 105, 110]⟩] ++ ([.rule .r_body] ++ [.word ⟨#[101, 110, 100]⟩]))), i', d', out'⟩ = some r))
 case atStart => exact zh ⟨_, _, _, _, HI0.out.1, HI0.out.2.1, Nat.le_refl _, HI0.out.2.2⟩
 case round =>
  obtain ⟨i', d', out', ve', hA, hS, hkn, hrun⟩ := hrel.out
  clear HI0 hrel
  cases gk with
  | zero => exact absurd hrun (by simp [srun])
  | succ m =>
   have HPR := zh hA
   have HSR := zh hS
   have HGR := zh (mkeep hS HP0.out HG0.out)
   have HTR := HSR
   have bx := cR 0 HGR.out
   have HM1 : Hid (m + 1 ≤ N) := zh (Nat.le_trans hkn HNN.out)
   have HMN : Hid (m ≤ N) := zh (Nat.le_trans (Nat.le_succ m) HM1.out)
   have HKN : Hid (m ≤ n) := zh (Nat.le_trans (Nat.le_succ m) hkn)
   clear hA hS hkn
   by_cases hin1' : inL (cAt l i') [⟨#[118, 97, 114]⟩, ⟨#[99, 111, 110, 115, 116]⟩, ⟨#[112, 114, 111, 99]⟩] = true
   ·have hin1 := hin1'
    clear hin1'
    have hr1 : srun l m ⟨[.rule .r_declaration] ++ (.rule .r_declarations :: ([.word ⟨#[98, 101, 103, 105, 110]⟩] ++ ([.rule .r_body] ++ [.word ⟨#[101, 110, 100]⟩]))), i', d', out'⟩ = some r := round_push (S := ([.word ⟨#[98, 101, 103, 105, 110]⟩] ++ ([.rule .r_body] ++ [.word ⟨#[101, 110, 100]⟩]))) (yes_declarations hin1) hrun
    clear hrun
    rcases srun_app l m [.rule .r_declaration] [.rule .r_declarations, .word ⟨#[98, 101, 103, 105, 110]⟩, .rule .r_body, .word ⟨#[101, 110, 100]⟩] i' d' out' r hr1 with ⟨er, jj, rfl, h2⟩ | ⟨i2, d2, out2, h2, hr2⟩
    ·skip
     have HX2 := zh h2
     have HI1 := zh hin1
     have HC1 := zh ((by have h := is_new HPR.out [⟨#[118, 97, 114]⟩, ⟨#[99, 111, 110, 115, 116]⟩, ⟨#[112, 114, 111, 99]⟩] 3 [.string ⟨#[118, 97, 114]⟩, .string ⟨#[99, 111, 110, 115, 116]⟩, .string ⟨#[112, 114, 111, 99]⟩] rfl rfl (by decide) (by decide); rw [HI1.out] at h; exact h))
     clear h2 hin1
     (try clear hr)
     go_wp2_with (first
      | (go_at_call 47; (with_reducible refine cM HC1.out ?_); rintro e w1 ⟨rfl, hb⟩; have h3 : MStep p ve' wr ve' w1 := PStep.below hb; have HP1 := zh (HPR.out.moved hb); have HS1 := zh (HSR.out.trans h3); have HG1 := zh (mkeep (HTR.out.trans h3) HP0.out HG0.out); have HT1 := zh (HTR.out.trans h3); clear bx; have bx := cR 0 HG1.out; have HC2 := zh (G_declaration m HMN.out W0 A c w1 p i' d' out' ve' _ HP1.out HX2.out HI1.out); clear hb h3)
      | (go_at_call 50; (with_reducible refine cM HC2.out ?_); rintro e w2 ⟨rfl, ve2, h3⟩; have HS2 := zh (HS1.out.trans h3); clear h3))
     exact ⟨rfl, rfl, ve2, HS2.out⟩
    ·skip
     have HRJ := zh hr2
     clear hr2
     have HX2 := zh h2
     have HI1 := zh hin1
     have HC1 := zh ((by have h := is_new HPR.out [⟨#[118, 97, 114]⟩, ⟨#[99, 111, 110, 115, 116]⟩, ⟨#[112, 114, 111, 99]⟩] 3 [.string ⟨#[118, 97, 114]⟩, .string ⟨#[99, 111, 110, 115, 116]⟩, .string ⟨#[112, 114, 111, 99]⟩] rfl rfl (by decide) (by decide); rw [HI1.out] at h; exact h))
     clear h2 hin1
     (try clear hr)
     go_wp2_with (first
      | (go_at_call 47; (with_reducible refine cM HC1.out ?_); rintro e w1 ⟨rfl, hb⟩; have h3 : MStep p ve' wr ve' w1 := PStep.below hb; have HP1 := zh (HPR.out.moved hb); have HS1 := zh (HSR.out.trans h3); have HG1 := zh (mkeep (HTR.out.trans h3) HP0.out HG0.out); have HT1 := zh (HTR.out.trans h3); clear bx; have bx := cR 0 HG1.out; have HC2 := zh (G_declaration m HMN.out W0 A c w1 p i' d' out' ve' _ HP1.out HX2.out HI1.out); clear hb h3)
      | (go_at_call 50; (with_reducible refine cM HC2.out ?_); rintro e w2 ⟨rfl, ve2, h2, h3⟩; have HP2 := zh h2; have HS2 := zh (HS1.out.trans h3); have HG2 := zh (mkeep (HT1.out.trans h3) HP0.out HG0.out); have HT2 := zh (HT1.out.trans h3); clear bx; have bx := cR 0 HG2.out; clear h2 h3))
     go_roundg m
     case measure => omega
     case rel => exact zh ⟨_, _, _, _, HP2.out, HS2.out, HKN.out, HRJ.out⟩
   ·have hin1 : inL (cAt l i') [⟨#[118, 97, 114]⟩, ⟨#[99, 111, 110, 115, 116]⟩, ⟨#[112, 114, 111, 99]⟩] = false := by simpa using hin1'
    clear hin1'
    have hr1 := if_no (no_declarations hin1) hrun
    clear hrun
    rcases srun_app l (m + 1) [.word ⟨#[98, 101, 103, 105, 110]⟩] ([.rule .r_body] ++ [.word ⟨#[101, 110, 100]⟩]) i' d' out' r hr1 with ⟨er, jj, rfl, h2⟩ | ⟨i2, d2, out2, h2, hr2⟩
    ·skip
     have HX2 := zh h2
     have HI1 := zh hin1
     have HC1 := zh ((by have h := is_new HPR.out [⟨#[118, 97, 114]⟩, ⟨#[99, 111, 110, 115, 116]⟩, ⟨#[112, 114, 111, 99]⟩] 3 [.string ⟨#[118, 97, 114]⟩, .string ⟨#[99, 111, 110, 115, 116]⟩, .string ⟨#[112, 114, 111, 99]⟩] rfl rfl (by decide) (by decide); rw [HI1.out] at h; exact h))
     clear h2 hin1
     (try clear hr)
     go_wp2_with (first
      | (go_at_call 47; (with_reducible refine cM HC1.out ?_); rintro e w1 ⟨rfl, hb⟩; have h3 : MStep p ve' wr ve' w1 := PStep.below hb; have HP1 := zh (HPR.out.moved hb); have HS1 := zh (HSR.out.trans h3); have HG1 := zh (mkeep (HTR.out.trans h3) HP0.out HG0.out); have HT1 := zh (HTR.out.trans h3); clear bx; have bx := cR 0 HG1.out; have HC2 := zh (words_new HP1.out [⟨#[98, 101, 103, 105, 110]⟩] 1 [.string ⟨#[98, 101, 103, 105, 110]⟩] rfl rfl (by decide) (by decide) HX2.out); clear hb h3)
      | (go_at_call 36; (with_reducible refine cM HC2.out ?_); rintro e w2 ⟨rfl, ve2, h3⟩; have HS2 := zh (HS1.out.trans h3); clear h3))
     exact ⟨rfl, rfl, ve2, HS2.out⟩
    ·skip
     rcases srun_app l (m + 1) [.rule .r_body] [.word ⟨#[101, 110, 100]⟩] i2 d2 out2 r hr2 with ⟨er, jj, rfl, h3⟩ | ⟨i3, d3, out3, h3, hr3⟩
     ·skip
      have HX2 := zh h2; have HX3 := zh h3
      have HI1 := zh hin1
      have HC1 := zh ((by have h := is_new HPR.out [⟨#[118, 97, 114]⟩, ⟨#[99, 111, 110, 115, 116]⟩, ⟨#[112, 114, 111, 99]⟩] 3 [.string ⟨#[118, 97, 114]⟩, .string ⟨#[99, 111, 110, 115, 116]⟩, .string ⟨#[112, 114, 111, 99]⟩] rfl rfl (by decide) (by decide); rw [HI1.out] at h; exact h))
      clear h2 h3 hin1
      (try clear hr)
      go_wp2_with (first
       | (go_at_call 47; (with_reducible refine cM HC1.out ?_); rintro e w1 ⟨rfl, hb⟩; have h3 : MStep p ve' wr ve' w1 := PStep.below hb; have HP1 := zh (HPR.out.moved hb); have HS1 := zh (HSR.out.trans h3); have HG1 := zh (mkeep (HTR.out.trans h3) HP0.out HG0.out); have HT1 := zh (HTR.out.trans h3); clear bx; have bx := cR 0 HG1.out; have HC2 := zh (words_new HP1.out [⟨#[98, 101, 103, 105, 110]⟩] 1 [.string ⟨#[98, 101, 103, 105, 110]⟩] rfl rfl (by decide) (by decide) HX2.out); clear hb h3)
       | (go_at_call 36; (with_reducible refine cM HC2.out ?_); rintro e w2 ⟨rfl, ve2, h2, h3⟩; have HP2 := zh h2; have HS2 := zh (HS1.out.trans h3); have HG2 := zh (mkeep (HT1.out.trans h3) HP0.out HG0.out); have HT2 := zh (HT1.out.trans h3); clear bx; have bx := cR 0 HG2.out; have HC3 := zh (G_body (m + 1) HM1.out W0 A c w2 p i2 d2 out2 ve2 _ HP2.out HX3.out); clear h2 h3)
       | (go_at_call 51; (with_reducible refine cM HC3.out ?_); rintro e w3 ⟨rfl, ve3, h3⟩; have HS3 := zh (HS2.out.trans h3); clear h3))
      exact ⟨rfl, rfl, ve3, HS3.out⟩
     ·skip
      have h4 := hr3
      cases r with
      | ok i4 d4 out4 =>
       have HX2 := zh h2; have HX3 := zh h3; have HX4 := zh h4
       have HI1 := zh hin1
       have HC1 := zh ((by have h := is_new HPR.out [⟨#[118, 97, 114]⟩, ⟨#[99, 111, 110, 115, 116]⟩, ⟨#[112, 114, 111, 99]⟩] 3 [.string ⟨#[118, 97, 114]⟩, .string ⟨#[99, 111, 110, 115, 116]⟩, .string ⟨#[112, 114, 111, 99]⟩] rfl rfl (by decide) (by decide); rw [HI1.out] at h; exact h))
       clear h2 h3 h4 hin1
       (try clear hr)
       go_wp2_with (first
        | (go_at_call 47; (with_reducible refine cM HC1.out ?_); rintro e w1 ⟨rfl, hb⟩; have h3 : MStep p ve' wr ve' w1 := PStep.below hb; have HP1 := zh (HPR.out.moved hb); have HS1 := zh (HSR.out.trans h3); have HG1 := zh (mkeep (HTR.out.trans h3) HP0.out HG0.out); have HT1 := zh (HTR.out.trans h3); clear bx; have bx := cR 0 HG1.out; have HC2 := zh (words_new HP1.out [⟨#[98, 101, 103, 105, 110]⟩] 1 [.string ⟨#[98, 101, 103, 105, 110]⟩] rfl rfl (by decide) (by decide) HX2.out); clear hb h3)
        | (go_at_call 36; (with_reducible refine cM HC2.out ?_); rintro e w2 ⟨rfl, ve2, h2, h3⟩; have HP2 := zh h2; have HS2 := zh (HS1.out.trans h3); have HG2 := zh (mkeep (HT1.out.trans h3) HP0.out HG0.out); have HT2 := zh (HT1.out.trans h3); clear bx; have bx := cR 0 HG2.out; have HC3 := zh (G_body (m + 1) HM1.out W0 A c w2 p i2 d2 out2 ve2 _ HP2.out HX3.out); clear h2 h3)
        | (go_at_call 51; (with_reducible refine cM HC3.out ?_); rintro e w3 ⟨rfl, ve3, h2, h3⟩; have HP3 := zh h2; have HS3 := zh (HS2.out.trans h3); have HG3 := zh (mkeep (HT2.out.trans h3) HP0.out HG0.out); have HT3 := zh (HT2.out.trans h3); clear bx; have bx := cR 0 HG3.out; have HC4 := zh (words_new HP3.out [⟨#[101, 110, 100]⟩] 1 [.string ⟨#[101, 110, 100]⟩] rfl rfl (by decide) (by decide) HX4.out); clear h2 h3)
        | (go_at_call 36; (with_reducible refine cM HC4.out ?_); rintro e w4 ⟨rfl, ve4, h2, h3⟩; have HP4 := zh h2; have HS4 := zh (HS3.out.trans h3); have HG4 := zh (mkeep (HT3.out.trans h3) HP0.out HG0.out); have HT4 := zh (HT3.out.trans h3); clear bx; have bx := cR 0 HG4.out; clear h2 h3))
       go_end0
       exact ⟨rfl, ve4, HP4.out, HS4.out⟩
      | err er jj =>
       have HX2 := zh h2; have HX3 := zh h3; have HX4 := zh h4
       have HI1 := zh hin1
       have HC1 := zh ((by have h := is_new HPR.out [⟨#[118, 97, 114]⟩, ⟨#[99, 111, 110, 115, 116]⟩, ⟨#[112, 114, 111, 99]⟩] 3 [.string ⟨#[118, 97, 114]⟩, .string ⟨#[99, 111, 110, 115, 116]⟩, .string ⟨#[112, 114, 111, 99]⟩] rfl rfl (by decide) (by decide); rw [HI1.out] at h; exact h))
       clear h2 h3 h4 hin1
       (try clear hr)
       go_wp2_with (first
        | (go_at_call 47; (with_reducible refine cM HC1.out ?_); rintro e w1 ⟨rfl, hb⟩; have h3 : MStep p ve' wr ve' w1 := PStep.below hb; have HP1 := zh (HPR.out.moved hb); have HS1 := zh (HSR.out.trans h3); have HG1 := zh (mkeep (HTR.out.trans h3) HP0.out HG0.out); have HT1 := zh (HTR.out.trans h3); clear bx; have bx := cR 0 HG1.out; have HC2 := zh (words_new HP1.out [⟨#[98, 101, 103, 105, 110]⟩] 1 [.string ⟨#[98, 101, 103, 105, 110]⟩] rfl rfl (by decide) (by decide) HX2.out); clear hb h3)
        | (go_at_call 36; (with_reducible refine cM HC2.out ?_); rintro e w2 ⟨rfl, ve2, h2, h3⟩; have HP2 := zh h2; have HS2 := zh (HS1.out.trans h3); have HG2 := zh (mkeep (HT1.out.trans h3) HP0.out HG0.out); have HT2 := zh (HT1.out.trans h3); clear bx; have bx := cR 0 HG2.out; have HC3 := zh (G_body (m + 1) HM1.out W0 A c w2 p i2 d2 out2 ve2 _ HP2.out HX3.out); clear h2 h3)
        | (go_at_call 51; (with_reducible refine cM HC3.out ?_); rintro e w3 ⟨rfl, ve3, h2, h3⟩; have HP3 := zh h2; have HS3 := zh (HS2.out.trans h3); have HG3 := zh (mkeep (HT2.out.trans h3) HP0.out HG0.out); have HT3 := zh (HT2.out.trans h3); clear bx; have bx := cR 0 HG3.out; have HC4 := zh (words_new HP3.out [⟨#[101, 110, 100]⟩] 1 [.string ⟨#[101, 110, 100]⟩] rfl rfl (by decide) (by decide) HX4.out); clear h2 h3)
        | (go_at_call 36; (with_reducible refine cM HC4.out ?_); rintro e w4 ⟨rfl, ve4, h3⟩; have HS4 := zh (HS3.out.trans h3); clear h3))
       exact ⟨rfl, rfl, ve4, HS4.out⟩
end Go.Proofs.YtmjbpgnjgblnmaaGreat
