/- Characters of any bytes: the model's own reading of a string, told by lead bytes and ranges: plain Lean. -/
import Derived.Laws.RangeAny
set_option linter.unusedVariables false
namespace Go.Proofs.YtocijojjfcpaoaaDoor.Pl
open Go (decode_high decode_le)

/-- the byte k behind a place -/
def bt (s : ByteArray) (i k : Nat) : Nat := (s.get! (i + k)).toNat
theorem bt_lt (s : ByteArray) (i k : Nat) : bt s i k < 256 := (s.get! (i + k)).toNat_lt

def lead (b : Nat) : Nat := if b ≤ 127 then 1 else if 194 ≤ b ∧ b ≤ 223 then 2 else if 224 ≤ b ∧ b ≤ 239 then 3 else if 240 ≤ b ∧ b ≤ 244 then 4 else 0
def lo (b : Nat) : Nat := if b = 224 then 160 else if b = 240 then 144 else 128
def hi (b : Nat) : Nat := if b = 237 then 159 else if b = 244 then 143 else 191
/-- do the bytes that are there behind a first one go on with a character of n bytes? -/
def fits (s : ByteArray) (i n : Nat) : Prop :=
  (2 ≤ n → i + 1 < s.size → lo (bt s i 0) ≤ bt s i 1 ∧ bt s i 1 ≤ hi (bt s i 0)) ∧ (3 ≤ n → i + 2 < s.size → 128 ≤ bt s i 2 ∧ bt s i 2 ≤ 191) ∧ (4 ≤ n → i + 3 < s.size → 128 ≤ bt s i 3 ∧ bt s i 3 ≤ 191)
instance (s : ByteArray) (i n : Nat) : Decidable (fits s i n) := by unfold fits; exact inferInstance
def ok (s : ByteArray) (i : Nat) : Prop := lead (bt s i 0) ≠ 0 ∧ i + lead (bt s i 0) ≤ s.size ∧ fits s i (lead (bt s i 0))
instance (s : ByteArray) (i : Nat) : Decidable (ok s i) := by unfold ok; exact inferInstance
def point (s : ByteArray) (i : Nat) : Nat :=
  if lead (bt s i 0) = 1 then bt s i 0
  else if lead (bt s i 0) = 2 then 64 * (bt s i 0 % 32) + bt s i 1 % 64
  else if lead (bt s i 0) = 3 then 64 * (64 * (bt s i 0 % 16) + bt s i 1 % 64) + bt s i 2 % 64
  else 64 * (64 * (64 * (bt s i 0 % 8) + bt s i 1 % 64) + bt s i 2 % 64) + bt s i 3 % 64

theorem lo_spec (b : Nat) : (b = 224 ∧ lo b = 160) ∨ (b = 240 ∧ lo b = 144) ∨ (b ≠ 224 ∧ b ≠ 240 ∧ lo b = 128) := by
  unfold lo
  split
  · omega
  · split <;> omega
theorem hi_spec (b : Nat) : (b = 237 ∧ hi b = 159) ∨ (b = 244 ∧ hi b = 143) ∨ (b ≠ 237 ∧ b ≠ 244 ∧ hi b = 191) := by
  unfold hi
  split
  · omega
  · split <;> omega

theorem pair_ite {c d : Prop} [Decidable c] [Decidable d] {a b : Nat × Nat} {x : Nat × Nat} (h : c ↔ d) (hx : d → a = b) : (if c then a else x) = if d then b else x := by
  by_cases hd : d
  · rw [if_pos hd, if_pos (h.2 hd), hx hd]
  · rw [if_neg hd, if_neg (fun hc => hd (h.1 hc))]

theorem valid_nat (c : Nat) : Utf8.valid (c : Int) = true ↔ c < 55296 ∨ (57344 ≤ c ∧ c ≤ 1114111) := by
  unfold Utf8.valid
  rw [Bool.or_eq_true, Bool.and_eq_true, Bool.and_eq_true, decide_eq_true_eq, decide_eq_true_eq, decide_eq_true_eq, decide_eq_true_eq]
  omega

theorem div64 (b : Nat) (h : b < 256) : b / 64 = 2 ↔ 128 ≤ b ∧ b ≤ 191 := by omega

set_option maxRecDepth 100000 in
set_option maxHeartbeats 1000000 in
theorem decode_eq (s : ByteArray) (i : Nat) (h : i < s.size) : Utf8.decode s i = if ok s i then (point s i, lead (bt s i 0)) else (65533, 1) := by
  have h0 := bt_lt s i 0; have h1 := bt_lt s i 1; have h2 := bt_lt s i 2; have h3 := bt_lt s i 3
  unfold Utf8.decode
  simp only [show ∀ k, (s.get! (i + k)).toNat = bt s i k from fun _ => rfl]
  have hok : ok s i ↔ (lead (bt s i 0) ≠ 0 ∧ i + lead (bt s i 0) ≤ s.size ∧ (2 ≤ lead (bt s i 0) → i + 1 < s.size → lo (bt s i 0) ≤ bt s i 1 ∧ bt s i 1 ≤ hi (bt s i 0)) ∧ (3 ≤ lead (bt s i 0) → i + 2 < s.size → 128 ≤ bt s i 2 ∧ bt s i 2 ≤ 191) ∧ (4 ≤ lead (bt s i 0) → i + 3 < s.size → 128 ≤ bt s i 3 ∧ bt s i 3 ≤ 191)) := Iff.rfl
  have hpt : point s i = if lead (bt s i 0) = 1 then bt s i 0 else if lead (bt s i 0) = 2 then 64 * (bt s i 0 % 32) + bt s i 1 % 64 else if lead (bt s i 0) = 3 then 64 * (64 * (bt s i 0 % 16) + bt s i 1 % 64) + bt s i 2 % 64 else 64 * (64 * (64 * (bt s i 0 % 8) + bt s i 1 % 64) + bt s i 2 % 64) + bt s i 3 % 64 := rfl
  generalize point s i = pt at *
  generalize hO : (if ok s i then (pt, lead (bt s i 0)) else (65533, 1)) = O
  have hyes : ok s i → O = (pt, lead (bt s i 0)) := fun h => by rw [← hO, if_pos h]
  have hno : ¬ ok s i → O = (65533, 1) := fun h => by rw [← hO, if_neg h]
  clear hO
  rw [hok] at hyes hno
  clear hok
  generalize bt s i 0 = b0 at *
  generalize bt s i 1 = b1 at *
  generalize bt s i 2 = b2 at *
  generalize bt s i 3 = b3 at *
  simp only [Bool.and_eq_true, decide_eq_true_eq, beq_iff_eq]
  simp only [valid_nat]
  rw [show Utf8.runeError = 65533 from rfl]
  generalize s.size = n at *
  have hlo := lo_spec b0
  have hhi := hi_spec b0
  by_cases c1 : b0 < 128
  · have hl : lead b0 = 1 := by unfold lead; rw [if_pos (by omega)]
    rw [hl] at hpt hyes
    rw [if_pos rfl] at hpt
    rw [if_pos c1, hyes (by omega), hpt]
  rw [if_neg c1]
  by_cases c2 : b0 / 32 = 6
  · by_cases c2b : 194 ≤ b0
    · have hl : lead b0 = 2 := by unfold lead; rw [if_neg (by omega), if_pos (by omega)]
      have hlo : lo b0 = 128 := by omega
      have hhi : hi b0 = 191 := by omega
      rw [hl, hlo, hhi] at hyes hno
      rw [hl, if_neg (by omega), if_pos rfl] at hpt
      by_cases hb : i + 1 < n ∧ b1 / 64 = 2
      · rw [if_pos ⟨c2, hb⟩, if_pos (by omega), hyes (by omega), hpt, show b0 % 32 * 64 + b1 % 64 = 64 * (b0 % 32) + b1 % 64 from by omega]
      · rw [if_neg (fun hh => hb hh.2), if_neg (by omega), if_neg (by omega), hno (by omega)]
    · have hl : lead b0 = 0 := by unfold lead; rw [if_neg (by omega), if_neg (by omega), if_neg (by omega), if_neg (by omega)]
      rw [hno (fun hh => hh.1 hl)]
      by_cases hb : i + 1 < n ∧ b1 / 64 = 2
      · rw [if_pos ⟨c2, hb⟩, if_neg (by omega)]
      · rw [if_neg (fun hh => hb hh.2), if_neg (by omega), if_neg (by omega)]
  rw [if_neg (fun hh => c2 hh.1)]
  by_cases c3 : b0 / 16 = 14
  · have hl : lead b0 = 3 := by unfold lead; rw [if_neg (by omega), if_neg (by omega), if_pos (by omega)]
    rw [hl] at hyes hno
    rw [hl, if_neg (by omega), if_neg (by omega), if_pos rfl] at hpt
    by_cases hb : (i + 1 < n ∧ b1 / 64 = 2) ∧ i + 2 < n ∧ b2 / 64 = 2
    · rw [if_pos ⟨⟨c3, hb.1⟩, hb.2⟩]
      by_cases hc : lo b0 ≤ b1 ∧ b1 ≤ hi b0
      · rw [hyes (by omega), hpt, if_pos]
        · rw [show b0 % 16 * 4096 + b1 % 64 * 64 + b2 % 64 = 64 * (64 * (b0 % 16) + b1 % 64) + b2 % 64 from by omega]
        · omega
      · rw [hno (by omega), if_neg]
        intro hh
        apply hc
        omega
    · rw [if_neg (fun hh => hb ⟨hh.1.2, hh.2⟩), if_neg (by omega), hno]
      intro hh
      apply hb
      omega
  rw [if_neg (fun hh => c3 hh.1.1)]
  by_cases c4 : b0 / 8 = 30
  · by_cases c4b : b0 ≤ 244
    · have hl : lead b0 = 4 := by unfold lead; rw [if_neg (by omega), if_neg (by omega), if_neg (by omega), if_pos (by omega)]
      rw [hl] at hyes hno
      rw [hl, if_neg (by omega), if_neg (by omega), if_neg (by omega)] at hpt
      by_cases hb : ((i + 1 < n ∧ b1 / 64 = 2) ∧ i + 2 < n ∧ b2 / 64 = 2) ∧ i + 3 < n ∧ b3 / 64 = 2
      · rw [if_pos ⟨⟨⟨c4, hb.1.1⟩, hb.1.2⟩, hb.2⟩]
        by_cases hc : lo b0 ≤ b1 ∧ b1 ≤ hi b0
        · rw [hyes (by omega), hpt, if_pos]
          · rw [show b0 % 8 * 262144 + b1 % 64 * 4096 + b2 % 64 * 64 + b3 % 64 = 64 * (64 * (64 * (b0 % 8) + b1 % 64) + b2 % 64) + b3 % 64 from by omega]
          · omega
        · rw [hno (by omega), if_neg]
          intro hh
          apply hc
          omega
      · rw [if_neg (fun hh => hb ⟨⟨hh.1.1.2, hh.1.2⟩, hh.2⟩), hno]
        intro hh
        apply hb
        omega
    · have hl : lead b0 = 0 := by unfold lead; rw [if_neg (by omega), if_neg (by omega), if_neg (by omega), if_neg (by omega)]
      rw [hno (fun hh => hh.1 hl)]
      by_cases hb : ((i + 1 < n ∧ b1 / 64 = 2) ∧ i + 2 < n ∧ b2 / 64 = 2) ∧ i + 3 < n ∧ b3 / 64 = 2
      · rw [if_pos ⟨⟨⟨c4, hb.1.1⟩, hb.1.2⟩, hb.2⟩, if_neg (by omega)]
      · rw [if_neg (fun hh => hb ⟨⟨hh.1.1.2, hh.1.2⟩, hh.2⟩)]
  have hl : lead b0 = 0 := by unfold lead; rw [if_neg (by omega), if_neg (by omega), if_neg (by omega), if_neg (by omega)]
  rw [if_neg (fun hh => c4 hh.1.1.1), hno (fun hh => hh.1 hl)]

theorem lead_le (b : Nat) : lead b ≤ 4 := by
  unfold lead
  split
  · omega
  · split
    · omega
    · split
      · omega
      · split <;> omega
theorem dec_pos (s : ByteArray) (i : Nat) (h : i < s.size) : 1 ≤ (Utf8.decode s i).2 := by
  rw [decode_eq s i h]; split
  · rename_i hk; have := hk.1; show 1 ≤ lead _; omega
  · exact Nat.le_refl _
theorem dec_le4 (s : ByteArray) (i : Nat) (h : i < s.size) : (Utf8.decode s i).2 ≤ 4 := by
  rw [decode_eq s i h]; split
  · exact lead_le _
  · show 1 ≤ 4; omega
theorem dec_in (s : ByteArray) (i : Nat) (h : i < s.size) : i + (Utf8.decode s i).2 ≤ s.size := by
  rw [decode_eq s i h]; split
  · rename_i hk; exact hk.2.1
  · exact h
theorem dec_point (s : ByteArray) (i : Nat) (h : i < s.size) : (Utf8.decode s i).1 ≤ 1114111 := by
  rw [decode_eq s i h]; split
  · rename_i hk
    have h0 := bt_lt s i 0; have h1 := bt_lt s i 1; have h2 := bt_lt s i 2; have h3 := bt_lt s i 3
    have hl := lead_le (bt s i 0)
    have hf := hk.2.2
    have hn := hk.1
    have hhi := hi_spec (bt s i 0)
    have hlo := lo_spec (bt s i 0)
    show point s i ≤ _
    have hlead : lead (bt s i 0) = 4 → 240 ≤ bt s i 0 ∧ bt s i 0 ≤ 244 := by
      unfold lead; intro h; split at h <;> (try omega)
      split at h <;> (try omega)
      split at h <;> (try omega)
      split at h <;> omega
    unfold point
    split
    · omega
    · split
      · omega
      · split
        · omega
        · have h4 : lead (bt s i 0) = 4 := by omega
          have := hlead h4
          have hb1 := hf.1 (by omega) (by have := hk.2.1; omega)
          omega
  · show 65533 ≤ _; omega

/-- The characters from a place on: where each begins, its point, how many bytes it has. -/
def runesF (s : ByteArray) : Nat → Nat → List (Nat × Nat × Nat)
  | 0, _ => []
  | f + 1, i => if i < s.size then (i, (Utf8.decode s i).1, (Utf8.decode s i).2) :: runesF s f (i + (Utf8.decode s i).2) else []
def runes (s : ByteArray) (i : Nat) : List (Nat × Nat × Nat) := runesF s (s.size - i) i

theorem runesF_fuel (s : ByteArray) : ∀ (f g i : Nat), s.size - i ≤ f → s.size - i ≤ g → runesF s f i = runesF s g i
  | 0, 0, _, _, _ => rfl
  | 0, g + 1, i, hf, _ => by simp [runesF, show ¬ i < s.size from by omega]
  | f + 1, 0, i, _, hg => by simp [runesF, show ¬ i < s.size from by omega]
  | f + 1, g + 1, i, hf, hg => by
    simp only [runesF]
    split
    · rename_i h
      have := dec_pos s i h
      rw [runesF_fuel s f g _ (by omega) (by omega)]
    · rfl
theorem runes_step (s : ByteArray) (i : Nat) (h : i < s.size) : runes s i = (i, (Utf8.decode s i).1, (Utf8.decode s i).2) :: runes s (i + (Utf8.decode s i).2) := by
  unfold runes
  obtain ⟨f, hf⟩ : ∃ f, s.size - i = f + 1 := ⟨s.size - i - 1, by omega⟩
  have := dec_pos s i h
  rw [hf]
  simp only [runesF, h, if_true]
  rw [runesF_fuel s f (s.size - (i + (Utf8.decode s i).2)) _ (by omega) (by omega)]
theorem runes_end (s : ByteArray) (i : Nat) (h : ¬ i < s.size) : runes s i = [] := by
  unfold runes
  rw [show s.size - i = 0 from by omega]; rfl

theorem runes_length (s : ByteArray) : ∀ (d i : Nat), s.size - i = d → (runes s i).length ≤ d := by
  intro d
  induction d using Nat.strongRecOn with
  | _ d ih =>
    intro i hd
    by_cases h : i < s.size
    · have h1 := dec_pos s i h
      have := ih (s.size - (i + (Utf8.decode s i).2)) (by omega) _ rfl
      rw [runes_step s i h, List.length_cons]
      omega
    · rw [runes_end s i h]; exact Nat.zero_le _

/-- points, places, columns -/
def pts (l : List (Nat × Nat × Nat)) : List Int := l.map fun r => (r.2.1 : Int)
def plcs (l : List (Nat × Nat × Nat)) : List Int := l.map fun r => (r.1 : Int)
end Go.Proofs.YtocijojjfcpaoaaDoor.Pl
