/- The document's Valid, as printed. -/
import Derived.Test.YtocijojjfcpaoaaDoorRA2C
import Derived.Test.YtocijojjfcpaoaaDoorVal
set_option linter.unusedVariables false
namespace Go.Proofs.YtocijojjfcpaoaaDoor.PCharExact
open Go.RowKit Go.Proofs.YtocijojjfcpaoaaDoorW.PrintWords
open Go.Proofs.YtocijojjfcpaoaaDoor.Pl (pts runes runes_step runes_end dec_pos dec_in valid_step valid_end)

theorem valid_loop (s : ByteArray) (hs : s.size ≤ 2147483648) : ∀ (d k i : Nat), s.size - i ≤ d → i ≤ s.size → d + 20 ≤ k →
    colophonref01_Valid.l0 k s (i : Int) = some (Pl.valid s i) := by
  intro d
  induction d with
  | zero =>
    intro k i hd hi hk
    obtain ⟨k, rfl⟩ : ∃ m, k = m + 1 := ⟨k - 1, by omega⟩
    simp only [colophonref01_Valid.l0]
    rw [if_neg (by omega), valid_end s i (by omega)]
  | succ d ih =>
    intro k i hd hi hk
    obtain ⟨k, rfl⟩ : ∃ m, k = m + 1 := ⟨k - 1, by omega⟩
    simp only [colophonref01_Valid.l0]
    by_cases h : i < s.size
    · have h1 := dec_pos s i h
      have h2 := dec_in s i h
      rw [if_pos (by omega), next_eq s i k (by omega) h (by omega), valid_step s i h]
      simp only [Option.bind_some]
      by_cases hg : Pl.good s i = true
      · rw [if_pos hg, show wrap64 ((i : Int) + ((Utf8.decode s i).2 : Int)) = ((i + (Utf8.decode s i).2 : Nat) : Int) from by rw [w64 (by omega) (by omega)]; omega, ih k _ (by omega) (by omega) (by omega), hg, Bool.true_and]
      · rw [if_neg hg, Bool.eq_false_iff.2 hg, Bool.false_and]
    · rw [if_neg (by omega), valid_end s i h]

theorem valid_eq (s : ByteArray) (k : Nat) (hs : s.size ≤ 2147483648) (hk : s.size + 20 ≤ k) : colophonref01_Valid.f k s = some (Pl.valid s 0) := by
  unfold colophonref01_Valid.f
  exact valid_loop s hs s.size k 0 (by omega) (by omega) hk
end Go.Proofs.YtocijojjfcpaoaaDoor.PCharExact
