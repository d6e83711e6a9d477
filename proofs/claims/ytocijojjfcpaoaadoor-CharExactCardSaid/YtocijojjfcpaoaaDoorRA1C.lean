/- The document's Next, as printed, is the model's own reading of characters. -/
import Derived.Test.YtocijojjfcpaoaaDoorPCharExactx4
import Derived.Test.YtocijojjfcpaoaaDoorChr2
set_option linter.unusedVariables false
namespace Go.Proofs.YtocijojjfcpaoaaDoor.PCharExact
open Go.RowKit Go.Proofs.YtocijojjfcpaoaaDoorW.PrintWords
open Go.Proofs.YtocijojjfcpaoaaDoor.Pl (lead lo hi ok good point fits lead_spec lo_spec hi_spec decode_eq)

theorem w64 {x : Int} (h0 : -9223372036854775808 ≤ x) (h1 : x ≤ 9223372036854775807) : wrap64 x = x := by unfold wrap64; omega

theorem bt_pl (s : ByteArray) (i k : Nat) (h : i + k < s.size) : bt s ((i : Int) + k) = (Pl.bt s i k : Int) := by
  have e : ((i : Int) + k).toNat = i + k := by omega
  unfold bt
  have hg := Go.get_at s (i + k) h
  rw [Nat.add_zero] at hg
  rw [e, dif_pos h, Pl.bt, hg]

theorem long_eq (k b : Nat) (hb : b < 256) : colophonref01_Long.f (k + 3) (b : Int) = some (lead b : Int) := by
  have hl := lead_spec b
  unfold colophonref01_Long.f
  rcases hl with hl | hl | hl | hl | hl
  · rw [if_pos (by omega), hl.2]; rfl
  · rw [if_neg (by omega), if_pos (by omega), hl.2.2]
    simp only [colophonref01_Long.j0]
    rw [if_pos (decide_eq_true (by omega))]; rfl
  · rw [if_neg (by omega), if_pos (by omega), hl.2.2]
    simp only [colophonref01_Long.j0]
    rw [if_neg (by rw [decide_eq_true_eq]; omega), if_pos (by omega)]
    simp only [colophonref01_Long.j1]
    rw [if_pos (decide_eq_true (by omega))]; rfl
  · rw [if_neg (by omega), if_pos (by omega), hl.2.2]
    simp only [colophonref01_Long.j0]
    rw [if_neg (by rw [decide_eq_true_eq]; omega), if_pos (by omega)]
    simp only [colophonref01_Long.j1]
    rw [if_neg (by rw [decide_eq_true_eq]; omega), if_pos (by omega), if_pos (by omega)]; rfl
  · rw [if_neg (by omega), hl.2.2]
    by_cases h2 : b < 194
    · rw [if_neg (by omega)]
      simp only [colophonref01_Long.j0]
      rw [if_neg (by decide), if_neg (by omega)]
      simp only [colophonref01_Long.j1]
      rw [if_neg (by decide), if_neg (by omega)]; rfl
    · rw [if_pos (by omega)]
      simp only [colophonref01_Long.j0]
      rw [if_neg (by rw [decide_eq_true_eq]; omega), if_pos (by omega)]
      simp only [colophonref01_Long.j1]
      rw [if_neg (by rw [decide_eq_true_eq]; omega), if_pos (by omega), if_neg (by omega)]; rfl

theorem second_eq (f b : Nat) (h1 : 128 ≤ b) (h2 : b ≤ 191) : colophonref01_second.f (f : Int) (b : Int) = some (decide (lo f ≤ b ∧ b ≤ hi f)) := by
  have hlo := lo_spec f
  have hhi := hi_spec f
  have key : ∀ {p : Prop} [Decidable p], (p ↔ (lo f ≤ b ∧ b ≤ hi f)) → some (decide p) = some (decide (lo f ≤ b ∧ b ≤ hi f)) := fun h => by rw [decide_eq_decide.2 h]
  have keyf : ¬ (lo f ≤ b ∧ b ≤ hi f) → some false = some (decide (lo f ≤ b ∧ b ≤ hi f)) := fun h => by rw [decide_eq_false h]
  unfold colophonref01_second.f
  by_cases c1 : (f : Int) = 224
  · rw [if_pos c1]
    split
    · exact key (by omega)
    · exact keyf (by omega)
  rw [if_neg c1]
  by_cases c2 : (f : Int) = 237
  · rw [if_pos c2]
    split
    · exact key (by omega)
    · exact keyf (by omega)
  rw [if_neg c2]
  by_cases c3 : (f : Int) = 240
  · rw [if_pos c3]
    split
    · exact key (by omega)
    · exact keyf (by omega)
  rw [if_neg c3]
  by_cases c4 : (f : Int) = 244
  · rw [if_pos c4]
    split
    · exact key (by omega)
    · exact keyf (by omega)
  rw [if_neg c4]
  split
  · exact key (by omega)
  · exact keyf (by omega)

/-- Which byte j behind the first may be. -/
def okB (s : ByteArray) (i j : Nat) : Prop := if j = 1 then lo (Pl.bt s i 0) ≤ Pl.bt s i 1 ∧ Pl.bt s i 1 ≤ hi (Pl.bt s i 0) else 128 ≤ Pl.bt s i j ∧ Pl.bt s i j ≤ 191
instance (s : ByteArray) (i j : Nat) : Decidable (okB s i j) := by unfold okB; exact inferInstance
/-- The bytes from j on. -/
def fitsFrom (s : ByteArray) (i n : Nat) : Nat → Nat → Bool
  | 0, _ => true
  | d + 1, j => if j < n ∧ i + j < s.size then (if okB s i j then fitsFrom s i n d (j + 1) else false) else true

theorem fits_loop (s : ByteArray) (i n : Nat) (hs : s.size ≤ 140737488351232) (hii : i < s.size) (hn : n ≤ 4) : ∀ (d j k : Nat), n ≤ j + d → 1 ≤ j → j ≤ 8 → 2 * d + 2 ≤ k →
    colophonref01_fits.l0 k s (i : Int) (n : Int) (Pl.bt s i 0 : Int) (j : Int) = some (fitsFrom s i n d j) := by
  intro d
  induction d with
  | zero =>
    intro j k hd h1 h8 hk
    obtain ⟨k, rfl⟩ : ∃ m, k = m + 2 := ⟨k - 2, by omega⟩
    simp only [colophonref01_fits.l0]
    rw [if_neg (by omega)]
    simp only [colophonref01_fits.j1]
    rw [if_neg (by decide)]; rfl
  | succ d ih =>
    intro j k hd h1 h8 hk
    obtain ⟨k, rfl⟩ : ∃ m, k = m + 2 := ⟨k - 2, by omega⟩
    have e1 : wrap64 ((i : Int) + j) = (i : Int) + j := w64 (by omega) (by omega)
    have e2 : wrap64 ((j : Int) + 1) = ((j + 1 : Nat) : Int) := by rw [w64 (by omega) (by omega)]; omega
    simp only [colophonref01_fits.l0, fitsFrom]
    by_cases hj : j < n
    · rw [if_pos (by omega), e1]
      simp only [colophonref01_fits.j1]
      by_cases hin : i + j < s.size
      · rw [if_pos (by rw [decide_eq_true_eq]; omega), e1, if_pos (by omega), if_pos (by omega), bt_pl s i j hin, if_pos (And.intro hj hin)]
        have hb := Pl.bt_lt s i j
        have e3 : wrap64 (Pl.bt s i j : Int) = (Pl.bt s i j : Int) := w64 (by omega) (by omega)
        rw [e3, e2]
        by_cases hlo : Pl.bt s i j < 128
        · rw [if_pos (by omega), if_neg]
          unfold okB
          have := lo_spec (Pl.bt s i 0)
          split
          · rename_i h; subst h; omega
          · omega
        rw [if_neg (by omega)]
        by_cases hhi : 191 < Pl.bt s i j
        · rw [if_pos (by omega), if_neg]
          unfold okB
          have := hi_spec (Pl.bt s i 0)
          split
          · rename_i h; subst h; omega
          · omega
        rw [if_neg (by omega)]
        by_cases h1' : j = 1
        · subst h1'
          rw [if_pos (show ((1 : Nat) : Int) = 1 from rfl), second_eq _ _ (by omega) (by omega)]
          simp only [Option.bind_some]
          by_cases hk1 : lo (Pl.bt s i 0) ≤ Pl.bt s i 1 ∧ Pl.bt s i 1 ≤ hi (Pl.bt s i 0)
          · rw [if_pos (decide_eq_true hk1), if_pos (by unfold okB; rw [if_pos rfl]; exact hk1)]
            exact ih 2 k (by omega) (by omega) (by omega) (by omega)
          · rw [if_neg (by rw [decide_eq_true_eq]; exact hk1), if_neg (by unfold okB; rw [if_pos rfl]; exact hk1)]
        · rw [if_neg (by omega), if_pos (by unfold okB; rw [if_neg h1']; omega)]
          exact ih (j + 1) k (by omega) (by omega) (by omega) (by omega)
      · rw [if_neg (by rw [decide_eq_true_eq]; omega), if_neg (by omega)]
    · rw [if_neg (by omega), if_neg (by omega)]
      simp only [colophonref01_fits.j1]
      rw [if_neg (by decide)]

theorem fitsFrom_eq (s : ByteArray) (i n : Nat) (hn : n ≤ 4) : fitsFrom s i n 4 1 = decide (fits s i n) := by
  have key : fitsFrom s i n 4 1 = true ↔ fits s i n := by
    simp only [fitsFrom]
    unfold fits
    have o1 : okB s i 1 ↔ lo (Pl.bt s i 0) ≤ Pl.bt s i 1 ∧ Pl.bt s i 1 ≤ hi (Pl.bt s i 0) := by unfold okB; rw [if_pos rfl]
    have o2 : okB s i 2 ↔ 128 ≤ Pl.bt s i 2 ∧ Pl.bt s i 2 ≤ 191 := by unfold okB; rw [if_neg (by omega)]
    have o3 : okB s i 3 ↔ 128 ≤ Pl.bt s i 3 ∧ Pl.bt s i 3 ≤ 191 := by unfold okB; rw [if_neg (by omega)]
    have c4 : ¬ (4 < n ∧ i + 4 < s.size) := by omega
    by_cases h1 : 1 < n ∧ i + 1 < s.size
    · rw [if_pos h1]
      by_cases k1 : okB s i 1
      · rw [if_pos k1]
        by_cases h2 : 2 < n ∧ i + 2 < s.size
        · rw [if_pos h2]
          by_cases k2 : okB s i 2
          · rw [if_pos k2]
            by_cases h3 : 3 < n ∧ i + 3 < s.size
            · rw [if_pos h3]
              by_cases k3 : okB s i 3
              · rw [if_pos k3, if_neg c4]
                exact ⟨fun _ => ⟨fun _ _ => o1.1 k1, fun _ _ => o2.1 k2, fun _ _ => o3.1 k3⟩, fun _ => rfl⟩
              · rw [if_neg k3]
                exact ⟨(fun h => by cases h), fun h => absurd (o3.2 (h.2.2 (by omega) h3.2)) k3⟩
            · rw [if_neg h3]
              exact ⟨fun _ => ⟨fun _ _ => o1.1 k1, fun _ _ => o2.1 k2, fun a b => (h3 ⟨by omega, b⟩).elim⟩, fun _ => rfl⟩
          · rw [if_neg k2]
            exact ⟨(fun h => by cases h), fun h => absurd (o2.2 (h.2.1 (by omega) h2.2)) k2⟩
        · rw [if_neg h2]
          exact ⟨fun _ => ⟨fun _ _ => o1.1 k1, fun a b => (h2 ⟨by omega, b⟩).elim, fun a b => (h2 ⟨by omega, by omega⟩).elim⟩, fun _ => rfl⟩
      · rw [if_neg k1]
        exact ⟨(fun h => by cases h), fun h => absurd (o1.2 (h.1 (by omega) h1.2)) k1⟩
    · rw [if_neg h1]
      exact ⟨fun _ => ⟨fun a b => (h1 ⟨by omega, b⟩).elim, fun a b => (h1 ⟨by omega, by omega⟩).elim, fun a b => (h1 ⟨by omega, by omega⟩).elim⟩, fun _ => rfl⟩
  rw [Bool.eq_iff_iff, key, decide_eq_true_eq]

theorem bt_pl0 (s : ByteArray) (i : Nat) (h : i < s.size) : bt s (i : Int) = (Pl.bt s i 0 : Int) := by
  have := bt_pl s i 0 h
  simpa using this

theorem fits_eq (s : ByteArray) (i n k : Nat) (hs : s.size ≤ 140737488351232) (hi : i < s.size) (hn : n ≤ 4) (hk : 10 ≤ k) : colophonref01_fits.f k s (i : Int) (n : Int) = some (decide (fits s i n)) := by
  unfold colophonref01_fits.f
  have hb := Pl.bt_lt s i 0
  rw [if_pos (by omega), if_pos (by omega), bt_pl0 s i hi, w64 (by omega) (by omega), ← fitsFrom_eq s i n hn]
  exact fits_loop s i n hs hi hn 4 1 k (by omega) (by omega) (by omega) (by omega)

/-- The point, from byte j on. -/
def pointFrom (s : ByteArray) (i : Nat) : Nat → Nat → Nat → Nat
  | 0, _, p => p
  | d + 1, j, p => pointFrom s i d (j + 1) (64 * p + Pl.bt s i j % 64)

theorem tm_nat (b m : Nat) : Int.tmod (b : Int) (m : Int) = ((b % m : Nat) : Int) := by rw [Int.tmod_eq_emod_of_nonneg (Int.natCast_nonneg b)]; rfl

theorem next_loop (s : ByteArray) (i n : Nat) (hs : s.size ≤ 140737488351232) (hin : i + n ≤ s.size) (hn : n ≤ 4) : ∀ (d j k p : Nat), j + d = n → d + 1 ≤ k → (j = 1 ∧ p < 64 ∨ j = 2 ∧ p < 4160 ∨ j = 3 ∧ p < 266304 ∨ j = 4) →
    colophonref01_Next.l0 k s (i : Int) (n : Int) (p : Int) (j : Int) = some ((pointFrom s i d j p : Int), (n : Int), true) := by
  intro d
  induction d with
  | zero =>
    intro j k p hd hk hp
    obtain ⟨k, rfl⟩ : ∃ m, k = m + 1 := ⟨k - 1, by omega⟩
    simp only [colophonref01_Next.l0]
    rw [if_neg (by omega)]; rfl
  | succ d ih =>
    intro j k p hd hk hp
    obtain ⟨k, rfl⟩ : ∃ m, k = m + 1 := ⟨k - 1, by omega⟩
    have hb := Pl.bt_lt s i j
    have e1 : wrap64 ((i : Int) + j) = (i : Int) + j := w64 (by omega) (by omega)
    have e2 : wrap64 ((j : Int) + 1) = ((j + 1 : Nat) : Int) := by rw [w64 (by omega) (by omega)]; omega
    have e3 : wrap64 (Pl.bt s i j : Int) = (Pl.bt s i j : Int) := w64 (by omega) (by omega)
    have e4 : wrap64 (64 * (p : Int)) = 64 * (p : Int) := w64 (by omega) (by omega)
    have e5 : Int.tmod (Pl.bt s i j : Int) 64 = ((Pl.bt s i j % 64 : Nat) : Int) := tm_nat _ 64
    simp only [colophonref01_Next.l0]
    rw [if_pos (by omega), e1, if_pos (by omega), if_pos (by omega), bt_pl s i j (by omega), e3, e4, e5, e2, w64 (by omega) (by omega), show (64 * (p : Int) + ((Pl.bt s i j % 64 : Nat) : Int)) = ((64 * p + Pl.bt s i j % 64 : Nat) : Int) from by omega]
    exact ih (j + 1) k _ (by omega) (by omega) (by omega)

theorem long_at (k b : Nat) (hb : b < 256) (hk : 3 ≤ k) : colophonref01_Long.f k (b : Int) = some (lead b : Int) := by
  obtain ⟨m, rfl⟩ : ∃ m, k = m + 3 := ⟨k - 3, by omega⟩
  exact long_eq m b hb

theorem next_eq (s : ByteArray) (i k : Nat) (hs : s.size ≤ 140737488351232) (hi : i < s.size) (hk : 16 ≤ k) :
    colophonref01_Next.f k s (i : Int) = some (((Utf8.decode s i).1 : Int), ((Utf8.decode s i).2 : Int), good s i) := by
  have hb := Pl.bt_lt s i 0
  have hl := lead_spec (Pl.bt s i 0)
  unfold colophonref01_Next.f
  rw [if_neg (by omega)]
  obtain ⟨k, rfl⟩ : ∃ m, k = m + 1 := ⟨k - 1, by omega⟩
  simp only [colophonref01_Next.j0]
  rw [if_neg (by rw [decide_eq_true_eq]; omega), if_pos (by omega), if_pos (by omega), bt_pl0 s i hi, w64 (by omega) (by omega), long_at k _ hb (by omega)]
  simp only [Option.bind_some]
  rw [decode_eq s i hi]
  by_cases h0 : lead (Pl.bt s i 0) = 0
  · have hno : ¬ ok s i := fun h => h.1 h0
    rw [if_pos (by omega), if_neg hno]
    obtain ⟨k, rfl⟩ : ∃ m, k = m + 1 := ⟨k - 1, by omega⟩
    simp only [colophonref01_Next.j1, if_true]
    rw [show good s i = false from decide_eq_false hno]; rfl
  rw [if_neg (by omega), w64 (by omega) (by omega)]
  by_cases hin : i + lead (Pl.bt s i 0) ≤ s.size
  · rw [if_neg (by omega), fits_eq s i _ _ hs hi (by omega) (by omega)]
    simp only [Option.bind_some]
    by_cases hf : fits s i (lead (Pl.bt s i 0))
    · have hyes : ok s i := ⟨h0, hin, hf⟩
      rw [if_pos hyes, show good s i = true from decide_eq_true hyes, decide_eq_true hf]
      obtain ⟨k, rfl⟩ : ∃ m, k = m + 1 := ⟨k - 1, by omega⟩
      simp only [colophonref01_Next.j1, Bool.not_true]
      rw [if_neg (by decide)]
      have t8 := tm_nat (Pl.bt s i 0) 8; have t16 := tm_nat (Pl.bt s i 0) 16; have t32 := tm_nat (Pl.bt s i 0) 32
      rcases hl with hl | hl | hl | hl | hl
      · rw [hl.2, if_pos (by omega)]
        have : point s i = Pl.bt s i 0 := by unfold point; rw [if_pos hl.2]
        rw [this]; rfl
      · rw [hl.2.2] at hin ⊢
        rw [if_neg (by omega), if_neg (by omega)]
        obtain ⟨k, rfl⟩ : ∃ m, k = m + 1 := ⟨k - 1, by omega⟩
        simp only [colophonref01_Next.j2]
        rw [if_neg (by omega)]
        obtain ⟨k, rfl⟩ : ∃ m, k = m + 1 := ⟨k - 1, by omega⟩
        simp only [colophonref01_Next.j3]
        have e : (Int.tmod (Pl.bt s i 0 : Int) 32) = ((Pl.bt s i 0 % 32 : Nat) : Int) := t32
        rw [e]
        refine (next_loop s i 2 hs hin (by omega) 1 1 _ (Pl.bt s i 0 % 32) (by omega) (by omega) (by omega)).trans ?_
        have hp : point s i = pointFrom s i 1 1 (Pl.bt s i 0 % 32) := by unfold point; rw [if_neg (by omega), if_pos hl.2.2]; rfl
        rw [hp]
      · rw [hl.2.2] at hin ⊢
        rw [if_neg (by omega), if_pos (by omega)]
        obtain ⟨k, rfl⟩ : ∃ m, k = m + 1 := ⟨k - 1, by omega⟩
        simp only [colophonref01_Next.j2]
        rw [if_neg (by omega)]
        obtain ⟨k, rfl⟩ : ∃ m, k = m + 1 := ⟨k - 1, by omega⟩
        simp only [colophonref01_Next.j3]
        have e : (Int.tmod (Pl.bt s i 0 : Int) 16) = ((Pl.bt s i 0 % 16 : Nat) : Int) := t16
        rw [e]
        refine (next_loop s i 3 hs hin (by omega) 2 1 _ (Pl.bt s i 0 % 16) (by omega) (by omega) (by omega)).trans ?_
        have hp : point s i = pointFrom s i 2 1 (Pl.bt s i 0 % 16) := by unfold point; rw [if_neg (by omega), if_neg (by omega), if_pos hl.2.2]; rfl
        rw [hp]
      · rw [hl.2.2] at hin ⊢
        rw [if_neg (by omega), if_neg (by omega)]
        obtain ⟨k, rfl⟩ : ∃ m, k = m + 1 := ⟨k - 1, by omega⟩
        simp only [colophonref01_Next.j2]
        rw [if_pos (by omega)]
        obtain ⟨k, rfl⟩ : ∃ m, k = m + 1 := ⟨k - 1, by omega⟩
        simp only [colophonref01_Next.j3]
        have e : (Int.tmod (Pl.bt s i 0 : Int) 8) = ((Pl.bt s i 0 % 8 : Nat) : Int) := t8
        rw [e]
        refine (next_loop s i 4 hs hin (by omega) 3 1 _ (Pl.bt s i 0 % 8) (by omega) (by omega) (by omega)).trans ?_
        have hp : point s i = pointFrom s i 3 1 (Pl.bt s i 0 % 8) := by unfold point; rw [if_neg (by omega), if_neg (by omega), if_neg (by omega)]; rfl
        rw [hp]
      · omega
    · have hno : ¬ ok s i := fun h => hf h.2.2
      rw [if_neg hno, show good s i = false from decide_eq_false hno, decide_eq_false hf]
      obtain ⟨k, rfl⟩ : ∃ m, k = m + 1 := ⟨k - 1, by omega⟩
      simp only [colophonref01_Next.j1, Bool.not_false, if_true]
      rfl
  · have hno : ¬ ok s i := fun h => hin h.2.1
    rw [if_pos (by omega), if_neg hno, show good s i = false from decide_eq_false hno]
    obtain ⟨k, rfl⟩ : ∃ m, k = m + 1 := ⟨k - 1, by omega⟩
    simp only [colophonref01_Next.j1, if_true]
    rfl

theorem next_out (s : ByteArray) (a : Int) (k : Nat) (h : ¬ (0 ≤ a ∧ a < s.size)) (hk : 1 ≤ k) : colophonref01_Next.f k s a = some (0, 0, false) := by
  obtain ⟨k, rfl⟩ : ∃ m, k = m + 1 := ⟨k - 1, by omega⟩
  unfold colophonref01_Next.f
  split
  · simp only [colophonref01_Next.j0, if_true]
  · simp only [colophonref01_Next.j0]
    rw [if_pos (by rw [decide_eq_true_eq]; omega)]
end Go.Proofs.YtocijojjfcpaoaaDoor.PCharExact
