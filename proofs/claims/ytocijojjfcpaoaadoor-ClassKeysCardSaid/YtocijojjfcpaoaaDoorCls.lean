/- What class.Letter, class.Part, class.Keys and class.IsKey answer. -/
import Derived.Test.YtocijojjfcpaoaaDoorOf
import Derived.Test.YtocijojjfcpaoaaDoorShelf
set_option linter.unusedSimpArgs false
set_option linter.unusedVariables false
namespace Go.Proofs.YtocijojjfcpaoaaDoor
open Go.RowKit

theorem run_index_rangesT (e t : TypeId) (n : Nat) (hagg : ∀ w, (isAgg e).run Tryd.prog w = .ok true w) (hsz : ∀ w, (sizeOf e).run Tryd.prog w = .ok 2 w) (ht : Tryd.prog.underlying t = some (.array n e)) (l : List (Int × Int)) (k : Nat) (hn : l.length = n) (hk : k < n) (w : World) :
    (Instr.index t (.agg (rangeCells l).toArray) (.int .i64 k)).run Tryd.prog w = .ok (.agg #[.int .i64 (l[k]'(by omega)).1, .int .i64 (l[k]'(by omega)).2]) w := by
  unfold Instr.index
  simp only [asIntOf, Sem.run_bind, Sem.run_pure, Result.andThen_ok, run_underlying ht]
  rw [if_pos ⟨by omega, by omega⟩]
  unfold part
  simp only [Sem.run_bind, hsz, hagg, Result.andThen_ok, if_true, Sem.run_pure]
  simp only [Int.toNat_natCast]
  rw [rangeCells_at l k (by omega)]
def Pl.isLetter (p : Int) : Bool := Pl.inRanges Pl.letters p
def Pl.isPart (p : Int) : Bool := Pl.inRanges Pl.others p || Pl.inRanges Pl.letters p

theorem ret_bool {a b : Bool} (h : a = b) : Ending.returned (.bool a) = .returned (.bool b) := by rw [h]

set_option maxRecDepth 100000 in
set_option maxHeartbeats 1000000 in
theorem letter_any (p : Int) (w : World) (ht : CTabs w) :
    Calls Tryd.prog 36 #[.int .i64 p] w fun e w' => e = .returned (.bool (Pl.isLetter p)) ∧ Below w.heap.size w w' := by
  obtain ⟨⟨t1, fr1, h1⟩, _⟩ := ht
  have HB := Lib.hid (Below.refl w.heap.size w)
  go_enter Tryd.func36, Tryd.ntmps36
  go_wp2_with (refine wpList_load_row rfl 62 _ rfl 2 rfl t1 _ fr1 _ h1 Tryd.underlying62 rfl (by kernel_rfl) ?_)
  clear h1
  go_loopw [6] (fun i wr => ∃ k : Nat, k ≤ 17 ∧ i = .int .i64 k ∧ Hid (Pl.inRanges (Pl.letters.drop k) p = Pl.inRanges Pl.letters p) ∧ Hid (Below w.heap.size w wr)) (fun i _ => 17 - (intOf i).toNat)
  case atStart => exact ⟨0, by omega, rfl, rfl, HB⟩
  case round =>
    obtain ⟨k, hk, rfl, HR, HB⟩ := hrel
    by_cases hlt : k < 17
    · have hix := fun wx => run_index_rangesT 61 62 17 (fun _ => by kernel_rfl) (fun _ => by kernel_rfl) Tryd.underlying62 Pl.letters k rfl hlt wx
      go_wp2
      · go_ret
        rename_i h1 h2
        exact ⟨ret_bool (HR.out.symm.trans (Pl.inRanges_hit _ _ _ hlt h1 h2)).symm, by refine Below.alloc HB.out ?_ _; exact HB.out.size⟩
      · rename_i h1 h2
        have hm := Lib.hid ((Pl.inRanges_miss Pl.letters p k hlt (fun h => by omega)).symm.trans HR.out)
        clear HR
        go_roundw
        case rel => exact ⟨k + 1, by omega, by go_num, hm, Below.alloc HB.out HB.out.size _⟩
        case measure => simp [intOf]; omega
      · rename_i h1
        have hm := Lib.hid ((Pl.inRanges_miss Pl.letters p k hlt (fun h => h1 h.1)).symm.trans HR.out)
        clear HR
        go_roundw
        case rel => exact ⟨k + 1, by omega, by go_num, hm, Below.alloc HB.out HB.out.size _⟩
        case measure => simp [intOf]; omega
    · obtain rfl : k = 17 := by omega
      have hno : Hid (Pl.inRanges Pl.letters p = false) := HR.out.symm
      clear HR
      go_wp2
      go_ret
      exact ⟨ret_bool hno.out.symm, HB.out⟩

set_option maxRecDepth 100000 in
set_option maxHeartbeats 1000000 in
theorem part_any (p : Int) (w : World) (ht : CTabs w) (h4 : 4 ≤ w.heap.size) :
    Calls Tryd.prog 38 #[.int .i64 p] w fun e w' => e = .returned (.bool (Pl.isPart p)) ∧ Below w.heap.size w w' := by
  have HT := Lib.hid ht
  obtain ⟨_, ⟨t1, fr1, h1⟩⟩ := ht
  have HB := Lib.hid (Below.refl w.heap.size w)
  go_enter Tryd.func38, Tryd.ntmps38
  go_wp2_with (refine wpList_load_row rfl 63 _ rfl 3 rfl t1 _ fr1 _ h1 Tryd.underlying63 rfl (by kernel_rfl) ?_)
  clear h1
  go_loopw [6] (fun i wr => ∃ k : Nat, k ≤ 3 ∧ i = .int .i64 k ∧ Hid (Pl.inRanges (Pl.others.drop k) p = Pl.inRanges Pl.others p) ∧ Hid (Below w.heap.size w wr)) (fun i _ => 3 - (intOf i).toNat)
  case atStart => exact ⟨0, by omega, rfl, rfl, HB⟩
  case round =>
    obtain ⟨k, hk, rfl, HR, HB⟩ := hrel
    by_cases hlt : k < 3
    · have hix := fun wx => run_index_rangesT 61 63 3 (fun _ => by kernel_rfl) (fun _ => by kernel_rfl) Tryd.underlying63 Pl.others k rfl hlt wx
      go_wp2
      · go_ret
        rename_i h1 h2
        exact ⟨ret_bool (by unfold Pl.isPart; rw [HR.out.symm.trans (Pl.inRanges_hit _ _ _ hlt h1 h2)]; rfl), by refine Below.alloc HB.out ?_ _; exact HB.out.size⟩
      · rename_i h1 h2
        have hm := Lib.hid ((Pl.inRanges_miss Pl.others p k hlt (fun h => by omega)).symm.trans HR.out)
        clear HR
        go_roundw
        case rel => exact ⟨k + 1, by omega, by go_num, hm, Below.alloc HB.out HB.out.size _⟩
        case measure => simp [intOf]; omega
      · rename_i h1
        have hm := Lib.hid ((Pl.inRanges_miss Pl.others p k hlt (fun h => h1 h.1)).symm.trans HR.out)
        clear HR
        go_roundw
        case rel => exact ⟨k + 1, by omega, by go_num, hm, Below.alloc HB.out HB.out.size _⟩
        case measure => simp [intOf]; omega
    · obtain rfl : k = 3 := by omega
      have hno : Hid (Pl.inRanges Pl.others p = false) := HR.out.symm
      clear HR
      go_wp2_with (go_at_call 36; refine (letter_any _ _ (HT.out.below HB.out h4)).mono ?_; rintro e w1 ⟨rfl, hb⟩; have HB1 := Lib.hid (HB.out.trans (hb.mono HB.out.size)); clear hb)
      go_ret
      exact ⟨ret_bool (by unfold Pl.isPart Pl.isLetter; rw [hno.out]; rfl), HB1.out⟩

/-- The words of the language. -/
def Pl.keys : List ByteArray := [⟨#[97, 110, 100]⟩, ⟨#[97, 114, 114, 97, 121]⟩, ⟨#[98, 101, 103, 105, 110]⟩, ⟨#[99, 111, 110, 115, 116]⟩, ⟨#[100, 111]⟩, ⟨#[101, 108, 105, 102]⟩, ⟨#[101, 108, 115, 101]⟩, ⟨#[101, 110, 100]⟩, ⟨#[102, 111, 114]⟩, ⟨#[105, 102]⟩, ⟨#[110, 111, 116]⟩, ⟨#[111, 102]⟩, ⟨#[111, 114]⟩, ⟨#[112, 114, 111, 99]⟩, ⟨#[112, 114, 111, 103, 114, 97, 109]⟩, ⟨#[114, 101, 99, 111, 114, 100]⟩, ⟨#[114, 101, 112, 101, 97, 116]⟩, ⟨#[114, 101, 116, 117, 114, 110]⟩, ⟨#[115, 107, 105, 112]⟩, ⟨#[116, 104, 101, 110]⟩, ⟨#[116, 111]⟩, ⟨#[117, 110, 116, 105, 108]⟩, ⟨#[118, 97, 114]⟩, ⟨#[119, 104, 105, 108, 101]⟩]
def Pl.isKey (s : ByteArray) : Bool := Lib.containsS Pl.keys s

set_option maxRecDepth 100000 in
set_option maxHeartbeats 1000000 in
theorem keys_any (w : World) : Calls Tryd.prog 30 #[] w fun e w' => e = .returned (.slice (some ⟨w.heap.size, 0, none⟩) 24 24) ∧ w.alloc (.cells (Pl.keys.map Value.string).toArray 9) = w' := by
  go_enter Tryd.func30, Tryd.ntmps30
  go_wp2
  go_ret
  exact ⟨rfl, rfl⟩

theorem keys_cells (w : World) : ∀ j, j < Pl.keys.length → (w.alloc (.cells (Pl.keys.map Value.string).toArray 9)).cell? ⟨w.heap.size, 0 + j, none⟩ = some (.string (Pl.keys.getD j ByteArray.empty)) := by
  intro j hj
  rw [cell_of_row _ _ _ _ _ _ (heap_alloc_new w _), Nat.zero_add]
  simp [hj]

set_option maxRecDepth 100000 in
set_option maxHeartbeats 1000000 in
theorem isKey_any (s : ByteArray) (w : World) : Calls Tryd.prog 33 #[.string s] w fun e w' => e = .returned (.bool (Pl.isKey s)) ∧ Below w.heap.size w w' := by
  have hc := Lib.hid (keys_cells w)
  go_enter Tryd.func33, Tryd.ntmps33
  go_wp2_with (go_at_call 30; refine (keys_any _).mono ?_; rintro e w1 ⟨rfl, rfl⟩)
  go_wp2_with (go_at_call 58; refine (Tryd.slices_Contains_string _ 0 24 24 Pl.keys _ _ (by decide) (by omega) hc.out).mono ?_; rintro e w' ⟨rfl, rfl⟩)
  go_ret
  exact ⟨rfl, (Below.refl _ _).alloc (Nat.le_refl _) _⟩
end Go.Proofs.YtocijojjfcpaoaaDoor
