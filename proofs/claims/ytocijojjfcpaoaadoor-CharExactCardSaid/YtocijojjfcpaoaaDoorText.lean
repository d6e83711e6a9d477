/- What width.Text answers of any text. -/
import Derived.Test.YtocijojjfcpaoaaDoorOf
import Derived.Test.YtocijojjfcpaoaaDoorChr
import Derived.Lib.OthersKept
namespace Go.Proofs.YtocijojjfcpaoaaDoor
open Go.RowKit

theorem i64_dec (s : ByteArray) (i : Nat) (h : i < s.size) : ((Utf8.decode s i).1 : Int) ≤ 1114111 := by have := Pl.dec_point s i h; omega

/-- An iterator's block stays behind a call that lays blocks. -/
theorem iter_below {w w' : World} {k : Nat} {o : Obj} (hk : w.heap[k]? = some o) (hb : Below w.heap.size w w') : w'.heap[k]? = some o :=
  (hb.block k (Array.getElem?_eq_some_iff.1 hk).1).trans hk

set_option maxRecDepth 100000 in
set_option maxHeartbeats 1000000 in
theorem wtext_any (s : ByteArray) (w : World) (hs : s.size ≤ 140737488351232) (ht : WTabs w) (h2 : 2 ≤ w.heap.size) :
    Calls Tryd.prog 23 #[.string s] w fun e w' => e = .returned (.int .i64 (Pl.wsum (Pl.pts (Pl.runes s 0)))) ∧ Below w.heap.size w w' := by
  have HT := Lib.hid ht
  clear ht
  go_enter Tryd.func23, Tryd.ntmps23
  go_wp2
  go_loopg [3] s.size (fun g v wr => ∃ (i : Nat) (n : Int), v = .int .i64 n ∧ i ≤ s.size ∧ s.size - i ≤ g ∧ 0 ≤ n ∧ n ≤ 2 * i ∧ Hid (n + Pl.wsum (Pl.pts (Pl.runes s i)) = Pl.wsum (Pl.pts (Pl.runes s 0))) ∧ Hid (wr.heap[w.heap.size]? = some (.stringIter s i)) ∧ Hid (Below w.heap.size w wr))
  case atStart => exact ⟨0, 0, rfl, by omega, by omega, by omega, by omega, by show (0 : Int) + _ = _; rw [Int.zero_add], World.iter_heap w s 0, (Below.refl _ _).alloc (Nat.le_refl _) _⟩
  case round =>
    obtain ⟨i, n, rfl, hi, hg, hn0, hn1, HS, HI, HB⟩ := hrel
    by_cases hp : i < s.size
    · have hnx : ∀ ty, (Instr.next (.pointer (some ⟨w.heap.size, 0, none⟩)) true ty).run Tryd.prog wr = _ := fun ty => Lib.run_next_any_at wr w.heap.size s i ty HI.out hp
      have hd1 := Pl.dec_pos s i hp
      have hd2 := Pl.dec_in s i hp
      have hpt := i64_dec s i hp
      have hit2 := Lib.hid (Lib.iterAt_heap wr w.heap.size s i (i + (Utf8.decode s i).2) HI.out)
      have hb2 := Lib.hid (Lib.below_iterAt HB.out (k := w.heap.size) (Nat.le_refl _) s (i + (Utf8.decode s i).2))
      have hw := Pl.widthOf_bd (Utf8.decode s i).1
      have hstep := Lib.hid (Pl.runes_step s i hp)
      go_wp2_with (go_at_call 18; refine (of_any _ _ (HT.out.below hb2.out h2)).mono ?_; rintro e w1 ⟨rfl, hb3⟩; have HB3 := Lib.hid hb3; clear hb3)
      go_roundg (s.size - (i + (Utf8.decode s i).2))
      case measure => have := Pl.dec_pos s i hp; omega
      case rel =>
        refine ⟨i + (Utf8.decode s i).2, n + Pl.widthOf (Utf8.decode s i).1, rfl, by omega, by omega, by omega, ?_, ?_, ?_, ?_⟩
        · have := Pl.dec_pos s i hp; omega
        · show _ = _
          rw [← HS.out, hstep.out]
          show _ = n + (Pl.widthOf ((Utf8.decode s i).1 : Int) + Pl.wsum (Pl.pts (Pl.runes s (i + (Utf8.decode s i).2))))
          omega
        · exact iter_below hit2.out HB3.out
        · exact hb2.out.trans (HB3.out.mono (by rw [Lib.iterAt_size]; exact HB.out.size))
    · have hnx : ∀ ty, (Instr.next (.pointer (some ⟨w.heap.size, 0, none⟩)) true ty).run Tryd.prog wr = _ := fun ty => Lib.run_next_end_at wr w.heap.size s i ty HI.out hp
      have hend := Lib.hid (Pl.runes_end s i hp)
      go_wp2
      go_ret
      refine ⟨ret_int ?_, HB.out⟩
      rw [← HS.out, hend.out]
      show n = n + 0
      omega
end Go.Proofs.YtocijojjfcpaoaaDoor
