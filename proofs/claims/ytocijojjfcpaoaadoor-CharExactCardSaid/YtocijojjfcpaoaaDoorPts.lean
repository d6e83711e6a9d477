/- What char.Points, char.Places and char.Count answer of any text. -/
import Derived.Test.YtocijojjfcpaoaaDoorText
import Derived.Test.YtocijojjfcpaoaaDoorWWords
import Derived.Test.YtocijojjfcpaoaaDoorWMore
namespace Go.Proofs.YtocijojjfcpaoaaDoor
open Go.RowKit Go.Proofs.YtocijojjfcpaoaaDoorW.PrintWords Go.Proofs.YtocijojjfcpaoaaDoorW.PrintMore

theorem infoInt : (Tryd.prog.info? 3).map (fun i => (i.zero, i.size, i.bytes)) = some (some (.int .i64 0), 1, 8) := by kernel_rfl

theorem iterAt_block (w : World) (k : Nat) (s : ByteArray) (p j : Nat) (h : j ≠ k) : (w.iterAt k s p).heap[j]? = w.heap[j]? := by
  simp only [World.iterAt]
  rw [Array.getElem?_setIfInBounds, if_neg (fun e => h e.symm)]

theorem R_iter {α : Type} {d : Kd α} {e base : Nat} {w : World} {v : Value} {xs : List α} {k : Nat} (h : d.R e w base (fun j => j ≠ k) v xs) (s : ByteArray) (p : Nat) : d.R e (w.iterAt k s p) base (fun j => j ≠ k) v xs :=
  Kd.R_step h (fun j hj _ => iterAt_block w k s p j hj)

/-- Behind an append to a row that is not the iterator's block, the iterator stands. -/
theorem iter_grown {α : Type} {d : Kd α} {e base : Nat} {w0 w w' : World} {v : Value} {xs : List α} {k : Nat} {o : Obj} (h : d.R e w0 base (fun j => j ≠ k) v xs) (hk : w.heap[k]? = some o) (hg : w.grownBy w' v.ownBlock) : w'.heap[k]? = some o :=
  (hg.block k (Array.getElem?_eq_some_iff.1 hk).1 (fun e => h.1 k e.symm rfl)).trans hk

set_option maxRecDepth 100000 in
set_option maxHeartbeats 1000000 in
theorem points_any (s : ByteArray) (w : World) (hs : s.size ≤ 17592186044416) :
    Calls Tryd.prog 27 #[.string s] w fun e w' => ∃ v, e = .returned v ∧ Kd.R (Kd.int .i64) 3 w' w.heap.size (fun _ => True) v (Pl.pts (Pl.runes s 0)) ∧ Below w.heap.size w w' := by
  go_enter Tryd.func27, Tryd.ntmps27
  go_wp2
  go_loopg [3] s.size (fun g v wr => ∃ (i : Nat) (xs : List Int), i ≤ s.size ∧ s.size - i ≤ g ∧ xs.length ≤ i ∧ Hid (xs ++ Pl.pts (Pl.runes s i) = Pl.pts (Pl.runes s 0)) ∧ Aside0 (Kd.R (Kd.int .i64) 3 wr w.heap.size (fun j => j ≠ w.heap.size) v xs) ∧ Hid (wr.heap[w.heap.size]? = some (.stringIter s i)) ∧ Hid (Below w.heap.size w wr))
  case atStart => exact ⟨0, [], by omega, by omega, by simp, rfl, ⟨Kd.R_nil _ _ _ _ _⟩, World.iter_heap w s 0, (Below.refl _ _).alloc (Nat.le_refl _) _⟩
  case round =>
    obtain ⟨i, xs, hi, hg, hxs, HS, HO, HI, HB⟩ := hrel
    by_cases hp : i < s.size
    · have hnx : ∀ ty, (Instr.next (.pointer (some ⟨w.heap.size, 0, none⟩)) true ty).run Tryd.prog wr = _ := fun ty => Lib.run_next_any_at wr w.heap.size s i ty HI.out hp
      have hd1 := Pl.dec_point s i hp
      have hd2 := Pl.dec_in s i hp
      have hd3 := Pl.dec_pos s i hp
      have hpt := i64_dec s i hp
      have hit2 := Lib.hid (Lib.iterAt_heap wr w.heap.size s i (i + (Utf8.decode s i).2) HI.out)
      have hb2 := Aside0.mk (Lib.below_iterAt HB.out (k := w.heap.size) (Nat.le_refl _) s (i + (Utf8.decode s i).2))
      have HO2 := Aside0.mk (R_iter HO.out s (i + (Utf8.decode s i).2))
      have hstep := Lib.hid (Pl.runes_step s i hp)
      have hlen := Aside0.mk (show (xs.length + 1) * 8 ≤ 140737488355328 by omega)
      go_wp2_with (at_builtin; refine Kd.R_append (Kd.int .i64) (w0 := w) w.heap.size rfl (.tmp 11) (.tmp 14) 33 3 (.int .i64 0) 8 rfl Tryd.underlying33 infoInt rfl (by decide) (by omega) u3 xs ((Utf8.decode s i).1 : Int) [.int .i64 (Utf8.decode s i).1] (fun j => j ≠ w.heap.size) (fun _ => False) rfl rfl ?aP (fun _ hk => hk.elim) ?aF ?aO ?aB ?aS ?aL ?_; (case aP => exact rfl); (case aF => exact (fun k hk => by have := hb2.out.size; have := (Array.getElem?_eq_some_iff.1 hit2.out).1; omega)); (case aO => exact HO2.out); (case aB => exact hb2.out); (case aS => exact hb2.out.size); (case aL => exact hlen.out); intro v1 w1 ho hb hg1 hat; have HO3 := Aside0.mk ho; have HB3 := Aside0.mk hb; have HI3 := Lib.hid (iter_grown HO2.out hit2.out hg1); clear ho hb hg1 hat)
      go_roundg (s.size - (i + (Utf8.decode s i).2))
      case measure => omega
      case rel =>
        refine ⟨i + (Utf8.decode s i).2, xs ++ [((Utf8.decode s i).1 : Int)], by omega, by omega, by simp; omega, ?_, HO3, HI3, HB3.out⟩
        show _ = _
        rw [← HS.out, hstep.out, List.append_assoc]
        rfl
    · have hnx : ∀ ty, (Instr.next (.pointer (some ⟨w.heap.size, 0, none⟩)) true ty).run Tryd.prog wr = _ := fun ty => Lib.run_next_end_at wr w.heap.size s i ty HI.out hp
      have hend := Lib.hid (Pl.runes_end s i hp)
      go_wp2
      go_ret
      refine ⟨_, rfl, ?_, HB.out⟩
      have e : xs = Pl.pts (Pl.runes s 0) := by rw [← HS.out, hend.out]; exact (List.append_nil xs).symm
      rw [← e]
      exact Kd.R_mono HO.out (fun _ _ => trivial)
set_option maxRecDepth 100000 in
set_option maxHeartbeats 1000000 in
theorem places_any (s : ByteArray) (w : World) (hs : s.size ≤ 17592186044416) :
    Calls Tryd.prog 44 #[.string s] w fun e w' => ∃ v, e = .returned v ∧ Kd.R (Kd.int .i64) 3 w' w.heap.size (fun _ => True) v (Pl.plcs (Pl.runes s 0)) ∧ Below w.heap.size w w' := by
  go_enter Tryd.func44, Tryd.ntmps44
  go_wp2
  go_loopg [3] s.size (fun g v wr => ∃ (i : Nat) (xs : List Int), i ≤ s.size ∧ s.size - i ≤ g ∧ xs.length ≤ i ∧ Hid (xs ++ Pl.plcs (Pl.runes s i) = Pl.plcs (Pl.runes s 0)) ∧ Aside0 (Kd.R (Kd.int .i64) 3 wr w.heap.size (fun j => j ≠ w.heap.size) v xs) ∧ Hid (wr.heap[w.heap.size]? = some (.stringIter s i)) ∧ Hid (Below w.heap.size w wr))
  case atStart => exact ⟨0, [], by omega, by omega, by simp, rfl, ⟨Kd.R_nil _ _ _ _ _⟩, World.iter_heap w s 0, (Below.refl _ _).alloc (Nat.le_refl _) _⟩
  case round =>
    obtain ⟨i, xs, hi, hg, hxs, HS, HO, HI, HB⟩ := hrel
    by_cases hp : i < s.size
    · have hnx : ∀ ty, (Instr.next (.pointer (some ⟨w.heap.size, 0, none⟩)) true ty).run Tryd.prog wr = _ := fun ty => Lib.run_next_any_at wr w.heap.size s i ty HI.out hp
      have hd1 := Pl.dec_point s i hp
      have hd2 := Pl.dec_in s i hp
      have hd3 := Pl.dec_pos s i hp
      have hpt := i64_dec s i hp
      have hit2 := Lib.hid (Lib.iterAt_heap wr w.heap.size s i (i + (Utf8.decode s i).2) HI.out)
      have hb2 := Aside0.mk (Lib.below_iterAt HB.out (k := w.heap.size) (Nat.le_refl _) s (i + (Utf8.decode s i).2))
      have HO2 := Aside0.mk (R_iter HO.out s (i + (Utf8.decode s i).2))
      have hstep := Lib.hid (Pl.runes_step s i hp)
      have hlen := Aside0.mk (show (xs.length + 1) * 8 ≤ 140737488355328 by omega)
      go_wp2_with (at_builtin; refine Kd.R_append (Kd.int .i64) (w0 := w) w.heap.size rfl (.tmp 10) (.tmp 12) 33 3 (.int .i64 0) 8 rfl Tryd.underlying33 infoInt rfl (by decide) (by omega) u3 xs (i : Int) [.int .i64 i] (fun j => j ≠ w.heap.size) (fun _ => False) rfl rfl ?aP (fun _ hk => hk.elim) ?aF ?aO ?aB ?aS ?aL ?_; (case aP => exact rfl); (case aF => exact (fun k hk => by have := hb2.out.size; have := (Array.getElem?_eq_some_iff.1 hit2.out).1; omega)); (case aO => exact HO2.out); (case aB => exact hb2.out); (case aS => exact hb2.out.size); (case aL => exact hlen.out); intro v1 w1 ho hb hg1 hat; have HO3 := Aside0.mk ho; have HB3 := Aside0.mk hb; have HI3 := Lib.hid (iter_grown HO2.out hit2.out hg1); clear ho hb hg1 hat)
      go_roundg (s.size - (i + (Utf8.decode s i).2))
      case measure => omega
      case rel =>
        refine ⟨i + (Utf8.decode s i).2, xs ++ [(i : Int)], by omega, by omega, by simp; omega, ?_, HO3, HI3, HB3.out⟩
        show _ = _
        rw [← HS.out, hstep.out, List.append_assoc]
        rfl
    · have hnx : ∀ ty, (Instr.next (.pointer (some ⟨w.heap.size, 0, none⟩)) true ty).run Tryd.prog wr = _ := fun ty => Lib.run_next_end_at wr w.heap.size s i ty HI.out hp
      have hend := Lib.hid (Pl.runes_end s i hp)
      go_wp2
      go_ret
      refine ⟨_, rfl, ?_, HB.out⟩
      have e : xs = Pl.plcs (Pl.runes s 0) := by rw [← HS.out, hend.out]; exact (List.append_nil xs).symm
      rw [← e]
      exact Kd.R_mono HO.out (fun _ _ => trivial)
set_option maxRecDepth 100000 in
set_option maxHeartbeats 1000000 in
theorem count_any (s : ByteArray) (w : World) (hs : s.size ≤ 140737488351232) :
    Calls Tryd.prog 45 #[.string s] w fun e w' => e = .returned (.int .i64 (Pl.runes s 0).length) ∧ Below w.heap.size w w' := by
  go_enter Tryd.func45, Tryd.ntmps45
  go_wp2
  go_loopg [3] s.size (fun g v wr => ∃ (i n : Nat), v = .int .i64 n ∧ i ≤ s.size ∧ s.size - i ≤ g ∧ n ≤ i ∧ Hid (n + (Pl.runes s i).length = (Pl.runes s 0).length) ∧ Hid (wr.heap[w.heap.size]? = some (.stringIter s i)) ∧ Hid (Below w.heap.size w wr))
  case atStart => exact ⟨0, 0, rfl, by omega, by omega, by omega, by show 0 + _ = _; rw [Nat.zero_add], World.iter_heap w s 0, (Below.refl _ _).alloc (Nat.le_refl _) _⟩
  case round =>
    obtain ⟨i, n, rfl, hi, hg, hn, HS, HI, HB⟩ := hrel
    by_cases hp : i < s.size
    · have hnx : ∀ ty, (Instr.next (.pointer (some ⟨w.heap.size, 0, none⟩)) true ty).run Tryd.prog wr = _ := fun ty => Lib.run_next_any_at wr w.heap.size s i ty HI.out hp
      have hd2 := Pl.dec_in s i hp
      have hd3 := Pl.dec_pos s i hp
      have hit2 := Lib.hid (Lib.iterAt_heap wr w.heap.size s i (i + (Utf8.decode s i).2) HI.out)
      have hb2 := Aside0.mk (Lib.below_iterAt HB.out (k := w.heap.size) (Nat.le_refl _) s (i + (Utf8.decode s i).2))
      have hstep := Lib.hid (Pl.runes_step s i hp)
      go_wp2
      go_roundg (s.size - (i + (Utf8.decode s i).2))
      case measure => omega
      case rel =>
        refine ⟨i + (Utf8.decode s i).2, n + 1, by go_num, by omega, by omega, by omega, ?_, hit2, hb2.out⟩
        show _ = _
        rw [← HS.out, hstep.out, List.length_cons]
        omega
    · have hnx : ∀ ty, (Instr.next (.pointer (some ⟨w.heap.size, 0, none⟩)) true ty).run Tryd.prog wr = _ := fun ty => Lib.run_next_end_at wr w.heap.size s i ty HI.out hp
      have hend := Lib.hid (Pl.runes_end s i hp)
      go_wp2
      go_ret
      refine ⟨ret_int ?_, HB.out⟩
      rw [← HS.out, hend.out]
      simp
end Go.Proofs.YtocijojjfcpaoaaDoor
