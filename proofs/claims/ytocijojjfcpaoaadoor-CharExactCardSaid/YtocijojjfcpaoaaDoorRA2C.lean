/- The document's Points, as printed: the points of the characters. -/
import Derived.Test.YtocijojjfcpaoaaDoorRA1C
set_option linter.unusedVariables false
namespace Go.Proofs.YtocijojjfcpaoaaDoor.PCharExact
open Go.RowKit Go.Proofs.YtocijojjfcpaoaaDoorW.PrintWords
open Go.Proofs.YtocijojjfcpaoaaDoor.Pl (pts runes runes_step runes_end dec_pos dec_in)

theorem points_loop (s : ByteArray) (hs : s.size ≤ 2147483648) : ∀ (d k i : Nat) (xs : List Int), s.size - i ≤ d → i ≤ s.size → xs.length ≤ i → d + 20 ≤ k →
    colophonref01_Points.l0 k s xs (i : Int) = some (xs ++ pts (runes s i)) := by
  intro d
  induction d with
  | zero =>
    intro k i xs hd hi hx hk
    obtain ⟨k, rfl⟩ : ∃ m, k = m + 1 := ⟨k - 1, by omega⟩
    simp only [colophonref01_Points.l0]
    rw [if_neg (by omega), runes_end s i (by omega)]
    simp [pts]
  | succ d ih =>
    intro k i xs hd hi hx hk
    obtain ⟨k, rfl⟩ : ∃ m, k = m + 1 := ⟨k - 1, by omega⟩
    simp only [colophonref01_Points.l0]
    by_cases h : i < s.size
    · have h1 := dec_pos s i h
      have h2 := dec_in s i h
      rw [if_pos (by omega), next_eq s i k (by omega) h (by omega)]
      simp only [Option.bind_some]
      rw [if_pos (by omega), show wrap64 ((i : Int) + ((Utf8.decode s i).2 : Int)) = ((i + (Utf8.decode s i).2 : Nat) : Int) from by rw [w64 (by omega) (by omega)]; omega, ih k _ _ (by omega) (by omega) (by simp; omega) (by omega), runes_step s i h]
      simp [pts]
    · rw [if_neg (by omega), runes_end s i h]
      simp [pts]

theorem points_eq (s : ByteArray) (k : Nat) (hs : s.size ≤ 2147483648) (hk : s.size + 20 ≤ k) : colophonref01_Points.f k s = some (pts (runes s 0)) := by
  unfold colophonref01_Points.f
  have := points_loop s hs s.size k 0 [] (by omega) (by omega) (by simp) hk
  simpa using this
end Go.Proofs.YtocijojjfcpaoaaDoor.PCharExact
