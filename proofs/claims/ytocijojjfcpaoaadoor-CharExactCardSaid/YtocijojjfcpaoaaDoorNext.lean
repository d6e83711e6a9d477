/- What char.Next answers of any text and any place. -/
import Derived.Test.YtocijojjfcpaoaaDoorText
import Derived.Test.YtocijojjfcpaoaaDoorChr2
import Derived.Test.YtocijojjfcpaoaaDoorShelf
set_option linter.unusedVariables false
namespace Go.Proofs.YtocijojjfcpaoaaDoor
open Go.RowKit

/-- Next's three answers. -/
def Pl.next (s : ByteArray) (a : Int) : Int × Int × Bool :=
  if 0 ≤ a ∧ a < s.size then (((Utf8.decode s a.toNat).1 : Int), ((Utf8.decode s a.toNat).2 : Int), Pl.good s a.toNat) else (0, 0, false)

theorem ret_three {a b x y : Int} {c d : Bool} (h : a = b) (h2 : x = y) (h3 : c = d) : Ending.returned (.tuple #[.int .i64 a, .int .i64 x, .bool c]) = .returned (.tuple #[.int .i64 b, .int .i64 y, .bool d]) := by rw [h, h2, h3]

set_option maxRecDepth 100000 in
set_option maxHeartbeats 1000000 in
theorem next_out (s : ByteArray) (a : Int) (w : World) (ha : ¬ (0 ≤ a ∧ a < s.size)) (hs : s.size ≤ 140737488351232) :
    Calls Tryd.prog 26 #[.string s, .int .i64 a] w fun e w' => e = .returned (.tuple #[.int .i64 0, .int .i64 0, .bool false]) ∧ Below w.heap.size w w' := by
  by_cases h0 : a < 0
  · go_enter Tryd.func26, Tryd.ntmps26
    go_wp2
    go_ret3
    exact ⟨rfl, Below.refl _ _⟩
  · have h1 : (s.size : Int) ≤ a := by omega
    have h2 : 0 ≤ a := by omega
    clear ha
    go_enter Tryd.func26, Tryd.ntmps26
    go_wp2
    go_ret3
    exact ⟨rfl, Below.refl _ _⟩

theorem prefix_of (s : ByteArray) (i : Nat) : Lib.hasPrefix (s.extract i s.size).data.toList [239, 191, 189] = true ↔ (Pl.bt s i 0 = 239 ∧ Pl.bt s i 1 = 191 ∧ Pl.bt s i 2 = 189) := by
  rw [Pl.pre3]
  have h (k : Nat) : ((s.extract i s.size).data.toList.getD k 0).toNat = Pl.bt s i k := by
    rw [← Pl.bt_drop, Pl.bt_list, Nat.zero_add]
  rw [h 0, h 1, h 2]

set_option maxRecDepth 100000 in
set_option maxHeartbeats 1000000 in
theorem next_in (s : ByteArray) (i : Nat) (w : World) (hi : i < s.size) (hs : s.size ≤ 140737488351232) :
    Calls Tryd.prog 26 #[.string s, .int .i64 i] w fun e w' => e = .returned (.tuple #[.int .i64 (Utf8.decode s i).1, .int .i64 (Utf8.decode s i).2, .bool (Pl.good s i)]) ∧ Below w.heap.size w w' := by
  have hp : 0 < (s.extract i s.size).size := by rw [Pl.size_drop]; omega
  have hd1 := Pl.dec_point s i hi
  have hpt := i64_dec s i hi
  have hnx : ∀ ty, (Instr.next (.pointer (some ⟨w.heap.size, 0, none⟩)) true ty).run Tryd.prog (w.iter (s.extract i s.size) 0) = .ok (.tuple #[.bool true, .int .i64 0, .int .i32 (Utf8.decode s i).1]) ((w.iter (s.extract i s.size) 0).iterAt w.heap.size (s.extract i s.size) ((Utf8.decode s i).2)) := fun ty => by
    have := Lib.run_next_any_at (P := Tryd.prog) (w.iter (s.extract i s.size) 0) w.heap.size (s.extract i s.size) 0 ty (World.iter_heap w _ 0) hp
    rw [Pl.decode_drop, Nat.zero_add] at this
    exact this
  have hB : Hid (Below w.heap.size w ((w.iter (s.extract i s.size) 0).iterAt w.heap.size (s.extract i s.size) ((Utf8.decode s i).2))) := Lib.below_iterAt ((Below.refl w.heap.size w).alloc (Nat.le_refl _) _) (Nat.le_refl _) _ _
  by_cases hk : Pl.ok s i
  · have hrl := Lib.hid (Pl.runeLen_dec s i hi hk)
    have hgd : Hid (Pl.good s i = true) := decide_eq_true hk
    by_cases hb : (Utf8.decode s i).1 = 65533
    · have hpre := Lib.hid ((prefix_of s i).2 ((Pl.bad_good s i hi hb).1 hk))
      have hbb : ((((Utf8.decode s i).1 : Int)) == 65533) = true := by rw [beq_iff_eq]; omega
      clear hb hk
      go_enter Tryd.func26, Tryd.ntmps26
      go_wp2
      refine wp_loop_once ?_
      go_wp2_with (first | (go_at_call 56; refine (Tryd.strings_HasPrefix _ _ _).mono ?_; rw [hpre.out]; rintro e w' ⟨rfl, rfl⟩) | (go_at_call 57; refine (Tryd.utf8_RuneLen _ _).mono ?_; rw [hrl.out]; rintro e w' ⟨rfl, rfl⟩))
      go_ret3
      exact ⟨ret_three rfl rfl hgd.out.symm, hB.out⟩
    · have hbb : ((((Utf8.decode s i).1 : Int)) == 65533) = false := by rw [beq_eq_false_iff_ne]; omega
      clear hb hk
      go_enter Tryd.func26, Tryd.ntmps26
      go_wp2
      refine wp_loop_once ?_
      go_wp2_with (first | (go_at_call 57; refine (Tryd.utf8_RuneLen _ _).mono ?_; rw [hrl.out]; rintro e w' ⟨rfl, rfl⟩))
      go_ret3
      exact ⟨ret_three rfl rfl hgd.out.symm, hB.out⟩
  · have hdd : Utf8.decode s i = (65533, 1) := by rw [Pl.decode_eq s i hi, if_neg hk]
    have hgd : Hid (Pl.good s i = false) := decide_eq_false hk
    have hpre : Hid (Lib.hasPrefix (s.extract i s.size).data.toList [239, 191, 189] = false) := by
      show _ = _
      rw [Bool.eq_false_iff]
      intro h
      exact hk ((Pl.bad_good s i hi (by rw [hdd])).2 ((prefix_of s i).1 h))
    clear hk hd1 hpt
    rw [hdd] at hnx hB ⊢
    clear hdd
    go_enter Tryd.func26, Tryd.ntmps26
    go_wp2
    refine wp_loop_once ?_
    go_wp2_with (first | (go_at_call 56; refine (Tryd.strings_HasPrefix _ _ _).mono ?_; rw [hpre.out]; rintro e w' ⟨rfl, rfl⟩))
    go_ret3
    exact ⟨ret_three rfl rfl hgd.out.symm, hB.out⟩

theorem next_any (s : ByteArray) (a : Int) (w : World) (hs : s.size ≤ 140737488351232) :
    Calls Tryd.prog 26 #[.string s, .int .i64 a] w fun e w' => e = .returned (.tuple #[.int .i64 (Pl.next s a).1, .int .i64 (Pl.next s a).2.1, .bool (Pl.next s a).2.2]) ∧ Below w.heap.size w w' := by
  by_cases h : 0 ≤ a ∧ a < s.size
  · obtain ⟨i, rfl⟩ := Int.eq_ofNat_of_zero_le h.1
    have : Pl.next s i = (((Utf8.decode s i).1 : Int), ((Utf8.decode s i).2 : Int), Pl.good s i) := by rw [Pl.next, if_pos h]; rfl
    rw [this]
    exact next_in s i w (by omega) hs
  · have : Pl.next s a = (0, 0, false) := by rw [Pl.next, if_neg h]
    rw [this]
    exact next_out s a w h hs
end Go.Proofs.YtocijojjfcpaoaaDoor
