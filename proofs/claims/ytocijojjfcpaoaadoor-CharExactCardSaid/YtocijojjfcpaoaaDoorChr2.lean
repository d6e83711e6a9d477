/- More on characters: what stands behind a place, read by itself; the three bytes of the bad point; how many bytes a point has. -/
import Derived.Test.YtocijojjfcpaoaaDoorChr
import Derived.Lib.IndexBytes
import Derived.Lib.Small
import Derived.Lib.Strings
namespace Go.Proofs.YtocijojjfcpaoaaDoor.Pl

theorem lead_spec (b : Nat) : (b ≤ 127 ∧ lead b = 1) ∨ (194 ≤ b ∧ b ≤ 223 ∧ lead b = 2) ∨ (224 ≤ b ∧ b ≤ 239 ∧ lead b = 3) ∨ (240 ≤ b ∧ b ≤ 244 ∧ lead b = 4) ∨ (127 < b ∧ (b < 194 ∨ 244 < b) ∧ lead b = 0) := by
  unfold lead
  split
  · omega
  · split
    · omega
    · split
      · omega
      · split <;> omega

theorem get_list (s : ByteArray) (j : Nat) : s.get! j = s.data.toList.getD j 0 := by
  simp only [ByteArray.get!, Array.getElem!_eq_getD, Array.getD_eq_getD_getElem?, List.getD_eq_getElem?_getD, Array.getElem?_toList]
  rfl
theorem bt_list (s : ByteArray) (i k : Nat) : bt s i k = (s.data.toList.getD (i + k) 0).toNat := by rw [bt, get_list]
theorem size_list (s : ByteArray) : s.data.toList.length = s.size := by rw [Array.length_toList]; rfl

theorem bt_drop (s : ByteArray) (i k : Nat) : bt (s.extract i s.size) 0 k = bt s i k := by
  rw [bt_list, bt_list, Lib.extract_to_end]
  simp only [List.getD_eq_getElem?_getD, List.getElem?_drop, Nat.zero_add]
theorem size_drop (s : ByteArray) (i : Nat) : (s.extract i s.size).size = s.size - i := by
  rw [ByteArray.size_extract]; omega
theorem decode_drop (s : ByteArray) (i : Nat) : Utf8.decode (s.extract i s.size) 0 = Utf8.decode s i := by
  have hb : ∀ k, ((s.extract i s.size).get! (0 + k)).toNat = (s.get! (i + k)).toNat := fun k => bt_drop s i k
  have hs : ∀ k, (0 + k < (s.extract i s.size).size) = (i + k < s.size) := fun k => by rw [size_drop, eq_iff_iff]; omega
  unfold Utf8.decode
  simp only [hb, hs]

/-- Next, as the document has it. -/
def good (s : ByteArray) (i : Nat) : Bool := decide (ok s i)

theorem pre3 (l : List UInt8) : Lib.hasPrefix l [239, 191, 189] = true ↔ (l.getD 0 0).toNat = 239 ∧ (l.getD 1 0).toNat = 191 ∧ (l.getD 2 0).toNat = 189 := by
  have e (x : UInt8) (n : Nat) (hn : n < 256) : x = UInt8.ofNat n ↔ x.toNat = n := by
    constructor
    · rintro rfl; rw [UInt8.toNat_ofNat']; exact Nat.mod_eq_of_lt hn
    · intro h; apply UInt8.toNat_inj.1; rw [h, UInt8.toNat_ofNat']; exact (Nat.mod_eq_of_lt hn).symm
  match l with
  | [] => simp [Lib.hasPrefix, List.isPrefixOf]
  | [a] => simp [Lib.hasPrefix, List.isPrefixOf]
  | [a, b] => simp [Lib.hasPrefix, List.isPrefixOf]
  | a :: b :: c :: r =>
    simp only [Lib.hasPrefix, List.isPrefixOf, Bool.and_true, Bool.and_eq_true, beq_iff_eq, List.getD_cons_zero, List.getD_cons_succ]
    rw [← e a 239 (by omega), ← e b 191 (by omega), ← e c 189 (by omega)]
    constructor
    · rintro ⟨h1, h2, h3⟩; exact ⟨h1.symm, h2.symm, h3.symm⟩
    · rintro ⟨h1, h2, h3⟩; exact ⟨h1.symm, h2.symm, h3.symm⟩

theorem bt_in (s : ByteArray) (i k : Nat) (h : bt s i k ≠ 0) : i + k < s.size := by
  rw [bt_list] at h
  rcases Nat.lt_or_ge (i + k) s.data.toList.length with h1 | h1
  · rwa [size_list] at h1
  · rw [List.getD_eq_getElem?_getD, List.getElem?_eq_none h1] at h
    exact absurd rfl h

/-- The bad point stands for itself just where its three bytes stand. -/
theorem bad_good (s : ByteArray) (i : Nat) (h : i < s.size) (hr : (Utf8.decode s i).1 = 65533) : ok s i ↔ (bt s i 0 = 239 ∧ bt s i 1 = 191 ∧ bt s i 2 = 189) := by
  have h0 := bt_lt s i 0; have h1 := bt_lt s i 1; have h2 := bt_lt s i 2; have h3 := bt_lt s i 3
  constructor
  · intro hk
    rw [decode_eq s i h, if_pos hk] at hr
    have hr' : point s i = 65533 := hr
    have hn := hk.1
    have hf := hk.2.2
    have hin := hk.2.1
    have hl : lead (bt s i 0) = 1 ∨ lead (bt s i 0) = 2 ∨ lead (bt s i 0) = 3 ∨ lead (bt s i 0) = 4 := by have := lead_le (bt s i 0); omega
    unfold point at hr'
    have hlo := lo_spec (bt s i 0)
    have hhi := hi_spec (bt s i 0)
    rcases hl with hl | hl | hl | hl
    · rw [hl, if_pos rfl] at hr'; omega
    · rw [hl, if_neg (by omega), if_pos rfl] at hr'; omega
    · rw [hl, if_neg (by omega), if_neg (by omega), if_pos rfl] at hr'
      rw [hl] at hin
      have hb1 := hf.1 (by omega) (by omega)
      have hb2 := hf.2.1 (by omega) (by omega)
      have hle : 224 ≤ bt s i 0 ∧ bt s i 0 ≤ 239 := by have := lead_spec (bt s i 0); omega
      omega
    · rw [hl, if_neg (by omega), if_neg (by omega), if_neg (by omega)] at hr'
      rw [hl] at hin
      have hb1 := hf.1 (by omega) (by omega)
      have hb2 := hf.2.1 (by omega) (by omega)
      have hb3 := hf.2.2 (by omega) (by omega)
      have hle : 240 ≤ bt s i 0 ∧ bt s i 0 ≤ 244 := by have := lead_spec (bt s i 0); omega
      omega
  · rintro ⟨e0, e1, e2⟩
    have i2 := bt_in s i 2 (by omega)
    have hl : lead (bt s i 0) = 3 := by rw [e0]; rfl
    have hlo := lo_spec (bt s i 0)
    have hhi := hi_spec (bt s i 0)
    unfold ok fits
    rw [hl]
    refine ⟨by omega, by omega, fun _ _ => by omega, fun _ _ => by omega, fun h _ => absurd h (by omega)⟩

theorem runeLen_dec (s : ByteArray) (i : Nat) (h : i < s.size) (hk : ok s i) : Lib.runeLen ((Utf8.decode s i).1 : Int) = ((Utf8.decode s i).2 : Int) := by
  have h0 := bt_lt s i 0; have h1 := bt_lt s i 1; have h2 := bt_lt s i 2; have h3 := bt_lt s i 3
  rw [decode_eq s i h, if_pos hk]
  show Lib.runeLen (point s i : Int) = (lead (bt s i 0) : Int)
  have hn := hk.1
  have hf := hk.2.2
  have hin := hk.2.1
  have hl : lead (bt s i 0) = 1 ∨ lead (bt s i 0) = 2 ∨ lead (bt s i 0) = 3 ∨ lead (bt s i 0) = 4 := by have := lead_le (bt s i 0); omega
  have hlo := lo_spec (bt s i 0)
  have hhi := hi_spec (bt s i 0)
  have hle : (lead (bt s i 0) = 1 ∧ bt s i 0 ≤ 127) ∨ (lead (bt s i 0) = 2 ∧ 194 ≤ bt s i 0 ∧ bt s i 0 ≤ 223) ∨ (lead (bt s i 0) = 3 ∧ 224 ≤ bt s i 0 ∧ bt s i 0 ≤ 239) ∨ (lead (bt s i 0) = 4 ∧ 240 ≤ bt s i 0 ∧ bt s i 0 ≤ 244) := by have := lead_spec (bt s i 0); omega
  generalize hp : point s i = p
  unfold point at hp
  rcases hle with hl | hl | hl | hl
  · rw [hl.1, if_pos rfl] at hp
    rw [hl.1]
    unfold Lib.runeLen
    rw [if_neg (by omega), if_pos (by omega)]; rfl
  · rw [hl.1, if_neg (by omega), if_pos rfl] at hp
    rw [hl.1] at hin hf
    have hb1 := hf.1 (by omega) (by omega)
    rw [hl.1]
    unfold Lib.runeLen
    rw [if_neg (by omega), if_neg (by omega), if_pos (by omega)]; rfl
  · rw [hl.1, if_neg (by omega), if_neg (by omega), if_pos rfl] at hp
    rw [hl.1] at hin hf
    have hb1 := hf.1 (by omega) (by omega)
    have hb2 := hf.2.1 (by omega) (by omega)
    rw [hl.1]
    unfold Lib.runeLen
    rw [if_neg (by omega), if_neg (by omega), if_neg (by omega), if_neg (by omega), if_pos (by omega)]; rfl
  · rw [hl.1, if_neg (by omega), if_neg (by omega), if_neg (by omega)] at hp
    rw [hl.1] at hin hf
    have hb1 := hf.1 (by omega) (by omega)
    have hb2 := hf.2.1 (by omega) (by omega)
    have hb3 := hf.2.2 (by omega) (by omega)
    rw [hl.1]
    unfold Lib.runeLen
    rw [if_neg (by omega), if_neg (by omega), if_neg (by omega), if_neg (by omega), if_neg (by omega), if_pos (by omega)]; rfl
end Go.Proofs.YtocijojjfcpaoaaDoor.Pl
