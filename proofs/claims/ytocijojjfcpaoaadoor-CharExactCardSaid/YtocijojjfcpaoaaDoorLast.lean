/- What char.Last answers. -/
import Derived.Test.YtocijojjfcpaoaaDoorBnd
set_option linter.unusedVariables false
set_option linter.unusedSimpArgs false
namespace Go.Proofs.YtocijojjfcpaoaaDoor
open Go.RowKit Go.Proofs.YtocijojjfcpaoaaDoorW.PrintWords

set_option maxRecDepth 100000 in
set_option maxHeartbeats 1000000 in
theorem last_in (s : ByteArray) (e r n : Nat) (w : World) (h1 : 1 ≤ e) (he : e ≤ s.size) (hs : s.size ≤ 140737488351232) (hd : Lib.decodeLastL (s.extract 0 e).data.toList = (r, n)) (hr : r ≤ 1114111) (hn : n ≤ 4) (hu : Lib.Utf8Tabs 4 5 w) :
    Calls Tryd.prog 48 #[.string s, .int .i64 e] w fun e' w' => e' = .returned (.tuple #[.int .i64 r, .int .i64 n, .bool (!((r : Int) == 65533) || decide (1 < (n : Int)))]) ∧ Below w.heap.size w w' := by
  have C1 := Tryd.utf8_DecodeLastRuneInString (s.extract 0 e) w (by rw [size_cut s e he]; omega) hu
  rw [hd] at C1
  have CC := Aside0.mk C1
  clear C1 hd hu
  by_cases h65 : r = 65533
  · have hb : ((r : Int) != 65533) = false := by rw [bne_eq_false_iff_eq]; omega
    have hb2 : ((r : Int) == 65533) = true := by rw [beq_iff_eq]; omega
    clear h65
    go_enter Tryd.func48, Tryd.ntmps48
    go_wp2_with (go_at_call 66; refine CC.out.mono ?_; rintro e' w1 ⟨rfl, hb⟩; have HB1 := Aside0.mk hb; clear hb)
    go_ret3
    exact ⟨ret_three rfl rfl (by rw [hb2]; rfl), HB1.out⟩
  · have hb : ((r : Int) != 65533) = true := by rw [bne_iff_ne]; omega
    have hb2 : ((r : Int) == 65533) = false := by rw [beq_eq_false_iff_ne]; omega
    clear h65
    go_enter Tryd.func48, Tryd.ntmps48
    go_wp2_with (go_at_call 66; refine CC.out.mono ?_; rintro e' w1 ⟨rfl, hb⟩; have HB1 := Aside0.mk hb; clear hb)
    go_ret3
    exact ⟨ret_three rfl rfl (by rw [hb2]; rfl), HB1.out⟩

/-- At the end of a character, char.Last answers what char.Next answers at its beginning. -/
theorem last_rune {s : ByteArray} {p k : Nat} (h : AtRune s p k) (hp : p < s.size) (w : World) (hs : s.size ≤ 140737488351232) (hu : Lib.Utf8Tabs 4 5 w) :
    Calls Tryd.prog 48 #[.string s, .int .i64 ((p + (Utf8.decode s p).2 : Nat) : Int)] w fun e' w' => e' = .returned (.tuple #[.int .i64 (Utf8.decode s p).1, .int .i64 (Utf8.decode s p).2, .bool (Pl.good s p)]) ∧ Below w.heap.size w w' := by
  have h1 := Pl.dec_pos s p hp
  have h2 := Pl.dec_in s p hp
  have h3 := Pl.dec_point s p hp
  have h4 := Pl.dec_le4 s p hp
  have hb := Pl.bad_iff s p hp
  have e : (!(((Utf8.decode s p).1 : Int) == 65533) || decide (1 < ((Utf8.decode s p).2 : Int))) = Pl.good s p := by
    unfold Pl.good
    rw [Bool.eq_iff_iff, Bool.or_eq_true, Bool.not_eq_true', beq_eq_false_iff_ne, decide_eq_true_eq, decide_eq_true_eq]
    constructor
    · intro h
      apply Classical.byContradiction
      intro hk
      have := hb.2 hk
      omega
    · intro hk
      apply Classical.byContradiction
      intro hn
      exact hb.1 (by omega) hk
  rw [← e]
  exact last_in s _ _ _ w (by omega) h2 hs (last_at h hp) h3 h4 hu
end Go.Proofs.YtocijojjfcpaoaaDoor
