/- What width.Cut answers of any text and any number of columns. -/
import Derived.Test.YtocijojjfcpaoaaDoorText
namespace Go.Proofs.YtocijojjfcpaoaaDoor
open Go.RowKit

theorem extract_all (s : ByteArray) : s.extract 0 s.size = s := by
  apply ByteArray.ext
  rw [ByteArray.data_extract]
  exact Array.extract_size

set_option maxRecDepth 100000 in
set_option maxHeartbeats 1000000 in
theorem cut_neg (s : ByteArray) (m : Int) (w : World) (hm : m < 0) :
    Calls Tryd.prog 21 #[.string s, .int .i64 m] w fun e w' => e = .returned (.tuple #[.string ⟨#[]⟩, .int .i64 0]) ∧ Below w.heap.size w w' := by
  go_enter Tryd.func21, Tryd.ntmps21
  go_wp2
  go_ret2
  exact ⟨rfl, Below.refl _ _⟩

theorem ret_str_int {a b : ByteArray} {x y : Int} (h : a = b) (h2 : x = y) : Ending.returned (.tuple #[.string a, .int .i64 x]) = .returned (.tuple #[.string b, .int .i64 y]) := by rw [h, h2]

set_option maxRecDepth 100000 in
set_option maxHeartbeats 1000000 in
theorem cut_any (s : ByteArray) (m : Int) (w : World) (hm : 0 ≤ m) (hm2 : m ≤ 9223372036854775807) (hs : s.size ≤ 140737488351232) (ht : WTabs w) (h2 : 2 ≤ w.heap.size) :
    Calls Tryd.prog 21 #[.string s, .int .i64 m] w fun e w' => e = .returned (.tuple #[.string (s.extract 0 (Pl.cutAt m (Pl.runes s 0) s.size 0).1), .int .i64 (Pl.cutAt m (Pl.runes s 0) s.size 0).2]) ∧ Below w.heap.size w w' := by
  have HT := Lib.hid ht
  clear ht
  go_enter Tryd.func21, Tryd.ntmps21
  go_wp2
  go_loopg [6] s.size (fun g v wr => ∃ (i : Nat) (n : Int), v = .int .i64 n ∧ i ≤ s.size ∧ s.size - i ≤ g ∧ 0 ≤ n ∧ n ≤ 2 * i ∧ Hid (Pl.cutAt m (Pl.runes s i) s.size n = Pl.cutAt m (Pl.runes s 0) s.size 0) ∧ Hid (wr.heap[w.heap.size]? = some (.stringIter s i)) ∧ Hid (Below w.heap.size w wr))
  case atStart => exact ⟨0, 0, rfl, by omega, by omega, by omega, by omega, rfl, World.iter_heap w s 0, (Below.refl _ _).alloc (Nat.le_refl _) _⟩
  case round =>
    obtain ⟨i, n, rfl, hi, hg, hn0, hn1, HS, HI, HB⟩ := hrel
    by_cases hp : i < s.size
    · have hnx : ∀ ty, (Instr.next (.pointer (some ⟨w.heap.size, 0, none⟩)) true ty).run Tryd.prog wr = _ := fun ty => Lib.run_next_any_at wr w.heap.size s i ty HI.out hp
      have hd1 := Pl.dec_point s i hp
      have hd2 := Pl.dec_in s i hp
      have hd3 := Pl.dec_pos s i hp
      have hpt := i64_dec s i hp
      have hit2 := Lib.hid (Lib.iterAt_heap wr w.heap.size s i (i + (Utf8.decode s i).2) HI.out)
      have hb2 := Lib.hid (Lib.below_iterAt HB.out (k := w.heap.size) (Nat.le_refl _) s (i + (Utf8.decode s i).2))
      have hw := Pl.widthOf_bd (Utf8.decode s i).1
      have hstep := Lib.hid (Pl.runes_step s i hp)
      by_cases hgt : m < n + Pl.widthOf (Utf8.decode s i).1
      · go_wp2_with (go_at_call 18; refine (of_any _ _ (HT.out.below hb2.out h2)).mono ?_; rintro e w1 ⟨rfl, hb3⟩; have HB3 := Lib.hid hb3; clear hb3)
        go_ret2
        have hc : Pl.cutAt m (Pl.runes s i) s.size n = (i, n) := by
          rw [hstep.out]
          show (if n + Pl.widthOf ((Utf8.decode s i).1 : Int) > m then (i, n) else _) = _
          rw [if_pos hgt]
        rw [hc] at HS
        refine ⟨ret_str_int ?_ ?_, hb2.out.trans (HB3.out.mono (by rw [Lib.iterAt_size]; exact HB.out.size))⟩
        · rw [← HS.out]
        · rw [← HS.out]
      · go_wp2_with (go_at_call 18; refine (of_any _ _ (HT.out.below hb2.out h2)).mono ?_; rintro e w1 ⟨rfl, hb3⟩; have HB3 := Lib.hid hb3; clear hb3)
        go_roundg (s.size - (i + (Utf8.decode s i).2))
        case measure => omega
        case rel =>
          refine ⟨i + (Utf8.decode s i).2, n + Pl.widthOf (Utf8.decode s i).1, rfl, by omega, by omega, by omega, by omega, ?_, ?_, ?_⟩
          · show _ = _
            rw [← HS.out, hstep.out]
            show _ = (if n + Pl.widthOf ((Utf8.decode s i).1 : Int) > m then (i, n) else Pl.cutAt m (Pl.runes s (i + (Utf8.decode s i).2)) s.size (n + Pl.widthOf ((Utf8.decode s i).1 : Int)))
            rw [if_neg (by omega)]
          · exact iter_below hit2.out HB3.out
          · exact hb2.out.trans (HB3.out.mono (by rw [Lib.iterAt_size]; exact HB.out.size))
    · have hnx : ∀ ty, (Instr.next (.pointer (some ⟨w.heap.size, 0, none⟩)) true ty).run Tryd.prog wr = _ := fun ty => Lib.run_next_end_at wr w.heap.size s i ty HI.out hp
      have hend := Lib.hid (Pl.runes_end s i hp)
      go_wp2
      go_ret2
      have hc : Pl.cutAt m (Pl.runes s i) s.size n = (s.size, n) := by rw [hend.out]; rfl
      rw [hc] at HS
      refine ⟨ret_str_int ?_ ?_, HB.out⟩
      · rw [← HS.out]; exact (extract_all s).symm
      · rw [← HS.out]
end Go.Proofs.YtocijojjfcpaoaaDoor
