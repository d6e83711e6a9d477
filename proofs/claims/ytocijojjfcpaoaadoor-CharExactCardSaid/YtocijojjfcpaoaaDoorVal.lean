/- What char.Valid answers of any text. -/
import Derived.Test.YtocijojjfcpaoaaDoorChr2
import Derived.Test.YtocijojjfcpaoaaDoorShelf
import Derived.Test.YtocijojjfcpaoaaDoorText
import Derived.Shelf.Unicode.ValidAny
set_option linter.unusedSimpArgs false
set_option linter.unusedVariables false
namespace Go.Proofs
open Go.Shelf
def YtocijojjfcpaoaaDoor.lays196_ren : Go.Shelf.Ren := ⟨fun | 196 => 65 | 259 => 81 | n => n, fun | 9 => 9 | 4 => 4 | 3 => 3 | 5 => 5 | 12 => 12 | 119 => 78 | 0 => 0 | 46 => 82 | 139 => 81 | 138 => 80 | 53 => 92 | n => n, fun | 3 => 4 | 4 => 5 | n => n⟩
theorem YtocijojjfcpaoaaDoor.lays196 : Go.Proofs.Lays.n196 Tryd.prog YtocijojjfcpaoaaDoor.lays196_ren := {
  mixed := by kernel_rfl
  f196 := Tryd.func65.trans (congrArg some (by kernel_rfl))
  f259 := Tryd.func81.trans (congrArg some (by kernel_rfl))
  t0 := Tryd.underlying0
  a0 := Tryd.isAgg0
  z0 := Tryd.sizeOf0
  v0 := Tryd.zeroValue0
  t3 := Tryd.underlying3
  a3 := Tryd.isAgg3
  z3 := Tryd.sizeOf3
  v3 := Tryd.zeroValue3
  t4 := Tryd.underlying4
  a4 := Tryd.isAgg4
  z4 := Tryd.sizeOf4
  v4 := Tryd.zeroValue4
  t5 := Tryd.underlying5
  a5 := Tryd.isAgg5
  z5 := Tryd.sizeOf5
  v5 := Tryd.zeroValue5
  t9 := Tryd.underlying9
  a9 := Tryd.isAgg9
  z9 := Tryd.sizeOf9
  v9 := Tryd.zeroValue9
  t12 := Tryd.underlying12
  a12 := Tryd.isAgg12
  z12 := Tryd.sizeOf12
  v12 := Tryd.zeroValue12
  t46 := Tryd.underlying82
  a46 := Tryd.isAgg82
  z46 := Tryd.sizeOf82
  v46 := Tryd.zeroValue82
  t53 := Tryd.underlying92
  a53 := Tryd.isAgg92
  z53 := Tryd.sizeOf92
  v53 := Tryd.zeroValue92
  t119 := Tryd.underlying78
  a119 := Tryd.isAgg78
  z119 := Tryd.sizeOf78
  t138 := Tryd.underlying80
  a138 := Tryd.isAgg80
  z138 := Tryd.sizeOf80
  v138 := Tryd.zeroValue80
  t139 := Tryd.underlying81
  a139 := Tryd.isAgg81
  z139 := Tryd.sizeOf81
  v139 := Tryd.zeroValue81
  g3 := by kernel_rfl
  g4 := by kernel_rfl }
end Go.Proofs
namespace Go.Proofs.YtocijojjfcpaoaaDoor
open Go.RowKit
/-- Are all characters good? -/
def Pl.valid (s : ByteArray) (i : Nat) : Bool := (Pl.runes s i).all fun r => Pl.good s r.1

theorem Pl.drop_decode (s : ByteArray) (i : Nat) : Lib.decodeL (s.data.toList.drop i) = Utf8.decode s i := by
  rw [← Pl.decode_drop]
  unfold Lib.decodeL
  rw [← Lib.extract_to_end]

theorem Pl.bad_iff (s : ByteArray) (i : Nat) (h : i < s.size) : ((Utf8.decode s i).1 = 65533 ∧ (Utf8.decode s i).2 = 1) ↔ ¬ Pl.ok s i := by
  constructor
  · rintro ⟨h1, h2⟩ hk
    have hb := (Pl.bad_good s i h h1).1 hk
    rw [Pl.decode_eq s i h, if_pos hk] at h2
    have : Pl.lead (Pl.bt s i 0) = 3 := by rw [hb.1]; rfl
    have h3 : Pl.lead (Pl.bt s i 0) = 1 := h2
    omega
  · intro hk
    rw [Pl.decode_eq s i h, if_neg hk]
    exact ⟨rfl, rfl⟩

theorem Pl.valid_step (s : ByteArray) (i : Nat) (h : i < s.size) : Pl.valid s i = (Pl.good s i && Pl.valid s (i + (Utf8.decode s i).2)) := by
  unfold Pl.valid
  rw [Pl.runes_step s i h]; rfl
theorem Pl.valid_end (s : ByteArray) (i : Nat) (h : ¬ i < s.size) : Pl.valid s i = true := by
  unfold Pl.valid
  rw [Pl.runes_end s i h]; rfl

theorem Pl.valid_list (s : ByteArray) : ∀ (d i : Nat), s.size - i = d → Lib.validD (s.data.toList.drop i) = Pl.valid s i := by
  intro d
  induction d using Nat.strongRecOn with
  | _ d ih =>
    intro i hd
    by_cases h : i < s.size
    · have h1 := Pl.dec_pos s i h
      have h2 := Pl.dec_in s i h
      rw [Lib.validD_step _ (by intro e; have := congrArg List.length e; rw [List.length_drop, Pl.size_list] at this; simp at this; omega), Pl.drop_decode, List.drop_drop, ih _ (by omega) _ rfl, Pl.valid_step s i h]
      by_cases hk : Pl.ok s i
      · rw [if_neg (fun e => (Pl.bad_iff s i h).1 e hk), show Pl.good s i = true from decide_eq_true hk, Bool.true_and]
      · rw [if_pos ((Pl.bad_iff s i h).2 hk), show Pl.good s i = false from decide_eq_false hk, Bool.false_and]
    · rw [Pl.valid_end s i h, List.drop_of_length_le (by rw [Pl.size_list]; omega)]; rfl

theorem Pl.valid_all (s : ByteArray) : Lib.validD s.data.toList = Pl.valid s 0 := Pl.valid_list s _ 0 rfl

theorem vstr (s : ByteArray) (w : World) (hs : s.size ≤ 140737488351232) (hu : Lib.Utf8Tabs 4 5 w) :
    Calls Tryd.prog 65 #[.string s] w fun e w' => e = .returned (.bool (Pl.valid s 0)) ∧ Below w.heap.size w w' := by
  rw [← Pl.valid_all]
  exact Any.utf8_ValidString YtocijojjfcpaoaaDoor.lays196 s w (by omega) hu

set_option maxRecDepth 100000 in
theorem valid_any (s : ByteArray) (w : World) (hs : s.size ≤ 140737488351232) (hu : Lib.Utf8Tabs 4 5 w) :
    Calls Tryd.prog 47 #[.string s] w fun e w' => e = .returned (.bool (Pl.valid s 0)) ∧ Below w.heap.size w w' := by
  have HU := Lib.hid hu
  clear hu
  go_enter Tryd.func47, Tryd.ntmps47
  have C1 := Lib.hid (vstr s w hs HU.out)
  go_wp2_with (go_at_call 65; refine C1.out.mono ?_; rintro e w1 ⟨rfl, hb⟩; have HB1 := Lib.hid hb; clear hb)
  go_ret
  exact ⟨rfl, HB1.out⟩
end Go.Proofs.YtocijojjfcpaoaaDoor
