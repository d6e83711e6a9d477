/- The walk of ClassKeys. -/
import Derived.Test.YtocijojjfcpaoaaDoorAw04
import Derived.ArgAppend
import Derived.BigQuiet
import Derived.Deep.RegionHeld3
import Derived.Deep.AppendLies
import Derived.Deep.Quiet
set_option linter.unusedVariables false
set_option linter.unusedSimpArgs false
namespace Go.Proofs.YtocijojjfcpaoaaDoor
open Go.RowKit

/-- A row of texts in block B. -/
def TX (w : World) (B : Nat) (l : List ByteArray) : Prop := ∃ t, w.heap[B]? = some (.cells (l.map Value.string).toArray t (0, 0))
theorem TX.cell {w : World} {B : Nat} {l : List ByteArray} (h : TX w B l) (j : Nat) (hj : j < l.length) : w.cell? ⟨B, j, none⟩ = some (.string (l.getD j ByteArray.empty)) := by
  obtain ⟨t, ht⟩ := h
  rw [cell_of_row _ _ _ _ _ _ ht]
  simp [hj]
theorem TX.below {w w' : World} {B X : Nat} {l : List ByteArray} (h : TX w B l) (hb : Below X w w') (hB : B < X) : TX w' B l := by
  obtain ⟨t, ht⟩ := h
  exact ⟨t, (hb.block B hB).trans ht⟩
theorem TX.drewN {w : World} {B : Nat} {l : List ByteArray} (h : TX w B l) (n : Nat) : TX (w.drewN n) B l := h

theorem TX.olds {w : World} {B : Nat} {l : List ByteArray} (h : TX w B l) : ∀ b, some (⟨B, 0, none⟩ : Addr) = some b → ∀ j u, (l.map Value.string)[j]? = some u → w.cell? (b.add j) = some u := by
  intro b hb j u hu
  cases hb
  obtain ⟨t, ht⟩ := h
  rw [show (⟨B, 0, none⟩ : Addr).add j = ⟨B, 0 + j, none⟩ from by (unfold Addr.add; split <;> simp_all), cell_of_row _ _ _ _ _ _ ht, Nat.zero_add]
  simpa using hu
theorem one_news (w : World) (v : Value) (t : TypeId) : ∀ j u, [v][j]? = some u → (w.alloc (.cells #[v] t)).cell? ((⟨w.heap.size, 0, none⟩ : Addr).add j) = some u := by
  intro j u hu
  have hj : j = 0 := by
    rcases j with _ | j
    · rfl
    · simp at hu
  subst hj
  rw [show (⟨w.heap.size, 0, none⟩ : Addr).add 0 = ⟨w.heap.size, 0, none⟩ from by simp [Addr.add], cell_of_row _ _ _ _ _ _ (heap_alloc_new w _)]
  simpa using hu
theorem grown_last {w : World} {B : Nat} {v : Value} {l : List Value} {x : Value} {n : Nat} (h : w.ownsRow B 9 1 v (n + 1) (l ++ [x])) (hl : l.length = n := by decide) :
    ∃ g cc, v = .slice (some ⟨g, 0, none⟩) (n + 1) cc ∧ B ≤ g ∧ g < w.heap.size ∧ w.cell? ⟨g, n, none⟩ = some x := by
  have hx := h
  obtain ⟨h1, h2⟩ := h
  rcases h2 with ⟨_, h0⟩ | ⟨g, cap, cur, hv, hg, hh, r⟩
  · cases h0
  · refine ⟨g, cap, hv, hg, (Array.getElem?_eq_some_iff.1 hh).1, ?_⟩
    have := hx.cells (g := g) (by rw [hv]; rfl) n x (by rw [List.getElem?_append_right (by omega), hl]; simp)
    rw [show (⟨g, 0, none⟩ : Addr).add n = ⟨g, 0 + n, none⟩ from by (unfold Addr.add; split <;> simp_all), Nat.zero_add] at this
    exact this
theorem info_string : ∃ i : TypeInfo, Tryd.prog.info? 9 = some i ∧ i.zero = some (.string ⟨#[]⟩) ∧ i.size = 1 ∧ i.bytes = 16 := by
  have h : (Tryd.prog.info? 9).map (fun i => (i.zero, i.size, i.bytes)) = some (some (.string ⟨#[]⟩), 1, 16) := by kernel_rfl
  obtain ⟨i, hi, he⟩ := Option.map_eq_some_iff.1 h
  simp only [Prod.mk.injEq] at he
  exact ⟨i, hi, he.1, he.2.1, he.2.2⟩

set_option maxRecDepth 100000 in
set_option maxHeartbeats 1000000 in
/-- sameTexts of two rows of the same texts. -/
theorem same_texts (B0 c0 B1 c1 n : Nat) (l : List ByteArray) (w : World) (hl : l.length = n) (hb : n ≤ 1000) (h0 : TX w B0 l) (h1 : TX w B1 l) :
    Calls Tryd.prog 32 #[.slice (some ⟨B0, 0, none⟩) n c0, .slice (some ⟨B1, 0, none⟩) n c1] w fun e w' => e = .returned (.bool true) ∧ ∃ q, w' = w.drewN q := by
  have HR0 := Lib.hid h0
  have HR1 := Lib.hid h1
  have HL := Lib.hid hl
  clear h0 h1 hl
  go_enter Tryd.func32, Tryd.ntmps32
  go_wp2
  try (go_quiet (fail))
  try go_wp2
  go_loopw [5] (fun v wr => ∃ i : Nat, i ≤ n ∧ v = .int .i64 i ∧ ∃ q, wr = w.drewN q) (fun v _ => n - (intOf v).toNat)
  case atStart => exact ⟨0, by omega, rfl, 0, rfl⟩
  case round =>
    obtain ⟨i, hi, rfl, q, rfl⟩ := hrel
    by_cases hlt : i < n
    · have hy0 := HR0.out.cell i (by rw [HL.out]; exact hlt)
      have hy1 := HR1.out.cell i (by rw [HL.out]; exact hlt)
      obtain ⟨x, hx⟩ : ∃ x, l.getD i ByteArray.empty = x := ⟨_, rfl⟩
      rw [hx] at hy0 hy1
      clear hx
      have hlt1 : decide ((i : Int) < (n : Int)) = true := decide_eq_true (by omega)
      have hlti : (i : Int) < n := by omega
      have hq : (x.toList == x.toList) = true := by simp
      go_wp2
      repeat (go_quiet (fail); try go_wp2)
      go_roundw
      case rel => exact ⟨i + 1, by omega, by simp, _, rfl⟩
      case measure => simp [intOf]; omega
    · have hlt1 : decide ((i : Int) < (n : Int)) = false := decide_eq_false (by omega)
      go_wp2
      go_ret
      exact ⟨rfl, _, rfl⟩

theorem keys_are : (List.range 24).all (fun i => Pl.isKey (Pl.keys.getD i ByteArray.empty) && !Pl.isName (Pl.keys.getD i ByteArray.empty)) = true := by decide +kernel
theorem keys_rise : (List.range 23).all (fun i => Op.bytesLess (Pl.keys.getD i ByteArray.empty).toList (Pl.keys.getD (i + 1) ByteArray.empty).toList) = true := by decide +kernel
theorem key_at (i : Nat) (h : i < 24) : Pl.isKey (Pl.keys.getD i ByteArray.empty) = true ∧ Pl.isName (Pl.keys.getD i ByteArray.empty) = false := by
  have := List.all_eq_true.1 keys_are i (List.mem_range.2 h)
  simpa using this
theorem keys_short : (List.range 24).all (fun i => decide ((Pl.keys.getD i ByteArray.empty).size ≤ 100)) = true := by decide +kernel
theorem key_size (i : Nat) (h : i < 24) : (Pl.keys.getD i ByteArray.empty).size ≤ 140737488351232 := by
  have := List.all_eq_true.1 keys_short i (List.mem_range.2 h)
  have := of_decide_eq_true this
  omega
theorem key_rise (i : Nat) (h : i < 23) : Op.bytesLess (Pl.keys.getD i ByteArray.empty).toList (Pl.keys.getD (i + 1) ByteArray.empty).toList = true :=
  List.all_eq_true.1 keys_rise i (List.mem_range.2 h)

theorem run_geq_less (w : World) (y x : ByteArray) (h : Op.bytesLess y.toList x.toList = true) : (binOp .geq 9 (.string y) (.string x)).run Tryd.prog w = .ok (.bool false) w := by
  simp [binOp, run_underlying Tryd.underlying9, Op.stringOp, h]

/-- What is written over in block B, all else as in W. -/
structure OverAt (W : World) (B n : Nat) (wr : World) : Prop where
  row : ∃ cs t, wr.heap[B]? = some (.cells cs t (0, 0)) ∧ cs.size = n ∧ ∀ j, j < n → ∃ x, cs[j]? = some (.string x)
  os : wr.os = W.os
  tape : wr.tape = W.tape
  output : wr.output = W.output
  size : wr.heap.size = W.heap.size
  block : ∀ k, k ≠ B → wr.heap[k]? = W.heap[k]?
theorem OverAt.drewN {W : World} {B n : Nat} {wr : World} (h : OverAt W B n wr) (q : Nat) : OverAt W B n (wr.drewN q) := ⟨h.row, h.os, h.tape, h.output, h.size, h.block⟩
theorem OverAt.set {W : World} {B n : Nat} {wr : World} (h : OverAt W B n wr) (i : Nat) (x : ByteArray) : OverAt W B n (wr.setCell ⟨B, i, none⟩ (.string x)) := by
  obtain ⟨⟨cs, t, h1, h2, h3⟩, h4, h5, h6, h7, h8⟩ := h
  refine ⟨⟨cs.setIfInBounds i (.string x), t, by simp [World.setCell, Array.getElem?_modify, h1], by rw [Array.size_setIfInBounds]; exact h2, fun j hj => ?_⟩, h4, h5, h6, by rw [← h7]; simp [World.setCell], fun k hk => (Below.heap_setCell _ _ _ _ hk).trans (h8 k hk)⟩
  rw [Array.getElem?_setIfInBounds]
  split
  · rw [h2, if_pos (by omega)]; exact ⟨x, rfl⟩
  · exact h3 j hj
theorem OverAt.below {W : World} {B n : Nat} {wr : World} (h : OverAt W B n wr) {B0 : Nat} (hB : B0 ≤ B) : Below B0 W wr :=
  ⟨h.os, h.tape, h.output, by rw [h.size]; exact Nat.le_refl _, fun k hk => h.block k (by omega)⟩

set_option maxRecDepth 100000 in
set_option maxHeartbeats 2000000 in
theorem classKeys_walk (w : World) (hc : CTabs w) (hu : UTab4 w) : Calls Tryd.prog 8 #[] w fun e w' => e = .returned (.bool true) ∧ Below w.heap.size w w' := by
  have h6 := utab4_size hu
  have h4 : 4 ≤ w.heap.size := by omega
  have HC := Lib.hid hc
  have HU := Lib.hid hu
  clear hc hu
  have CKY : Hid (∀ w : World, Calls Tryd.prog 30 #[] w fun e w' => ∃ B, e = .returned (.slice (some ⟨B, 0, none⟩) 24 24) ∧ TX w' B Pl.keys ∧ Below w.heap.size w w' ∧ w.heap.size ≤ B ∧ B < w'.heap.size) := by
    refine Lib.hid fun w => (keys_any w).mono ?_
    rintro e w' ⟨rfl, rfl⟩
    exact ⟨_, rfl, ⟨_, heap_alloc_new w _⟩, (Below.refl _ _).alloc (Nat.le_refl _) _, Nat.le_refl _, by simp⟩
  have CKR : Hid (∀ w : World, Calls Tryd.prog 31 #[] w fun e w' => ∃ B, e = .returned (.slice (some ⟨B, 0, none⟩) 24 24) ∧ TX w' B Pl.keys ∧ Below w.heap.size w w' ∧ w.heap.size ≤ B ∧ B < w'.heap.size) := by
    refine Lib.hid fun w => ?_
    go_enter Tryd.func31, Tryd.ntmps31
    go_wp2
    go_ret
    exact ⟨_, rfl, ⟨_, heap_alloc_new w _⟩, (Below.refl _ _).alloc (Nat.le_refl _) _, Nat.le_refl _, by simp⟩
  have CS : Hid (∀ (B0 B1 : Nat) (w : World), TX w B0 Pl.keys → TX w B1 Pl.keys → Calls Tryd.prog 32 #[.slice (some ⟨B0, 0, none⟩) 24 24, .slice (some ⟨B1, 0, none⟩) 24 24] w fun e w' => e = .returned (.bool true) ∧ ∃ q, w' = w.drewN q) :=
    Lib.hid fun B0 B1 w h0 h1 => same_texts B0 24 B1 24 24 Pl.keys w rfl (by omega) h0 h1
  go_enter Tryd.func8, Tryd.ntmps8
  go_wp2_with (first
    | (go_at_call 30; (with_reducible refine (CKY.out w).mono ?_); rintro e w1 ⟨Ba, rfl, ht1, hb1, hle1, hlt1⟩; have HTa1 := Lib.hid ht1; have HB1 := Lib.hid hb1; have HLa := Lib.hid hle1; have HMa := Lib.hid hlt1; clear ht1 hb1 hle1 hlt1)
    | (go_at_call 30; (with_reducible refine (CKY.out w1).mono ?_); rintro e w2 ⟨Bb, rfl, ht2, hb2, hle2, hlt2⟩; have HTb2 := Lib.hid ht2; have HTa2 := Lib.hid (HTa1.out.below hb2 HMa.out); have HB2 := Lib.hid (HB1.out.trans (hb2.mono HB1.out.size)); have HLb := Lib.hid hle2; have HMb := Lib.hid hlt2; clear ht2 hb2 hle2 hlt2)
    | (go_at_call 31; (with_reducible refine (CKR.out w2).mono ?_); rintro e w3 ⟨Bw, rfl, ht3, hb3, hle3, hlt3⟩; have HTw3 := Lib.hid ht3; have HTa3 := Lib.hid (HTa2.out.below hb3 (by have := HMa.out; have := HLb.out; have := HMb.out; omega)); have HTb3 := Lib.hid (HTb2.out.below hb3 HMb.out); have HB3 := Lib.hid (HB2.out.trans (hb3.mono HB2.out.size)); have HLw := Lib.hid hle3; have HMw := Lib.hid hlt3; clear ht3 hb3 hle3 hlt3)
    | (go_at_call 32; (with_reducible refine (CS.out Ba Bw w3 HTa3.out HTw3.out).mono ?_); rintro e w4 ⟨rfl, q4, rfl⟩; have S4 := Lib.hid (CS.out Bb Bw (w3.drewN q4) (HTb3.out.drewN _) (HTw3.out.drewN _)))
    | (go_at_call 32; (with_reducible refine S4.out.mono ?_); rintro e w5 ⟨rfl, q5, rfl⟩))
  have O4 : Hid (OverAt (w3.drewN (q4 + q5)) Ba 24 (w3.drewN (q4 + q5))) := Lib.hid (by
    obtain ⟨t, ht⟩ := HTa3.out
    exact ⟨⟨_, t, ht, rfl, fun j hj => ⟨Pl.keys.getD j ByteArray.empty, by simp [hj, show j < Pl.keys.length from hj]⟩⟩, rfl, rfl, rfl, rfl, fun _ _ => rfl⟩)
  have HTb4 := Lib.hid (HTb3.out.drewN (q4 + q5))
  have HTw4 := Lib.hid (HTw3.out.drewN (q4 + q5))
  have HB4 : Hid (Below w.heap.size w (w3.drewN (q4 + q5))) := Lib.hid ⟨HB3.out.os, HB3.out.tape, HB3.out.output, HB3.out.size, HB3.out.block⟩
  have HS4 : Hid (w.heap.size ≤ Ba ∧ Ba < Bb ∧ Bb < Bw ∧ Bw < (w3.drewN (q4 + q5)).heap.size) := Lib.hid ⟨HLa.out, by have := HMa.out; have := HLb.out; omega, by have := HMb.out; have := HLw.out; omega, HMw.out⟩
  clear S4 HTa3 HTb3 HTw3 HTa2 HTb2 HTa1 HMw HLw HMb HLb HMa HLa HB1 HB2 HB3
  generalize w3.drewN (q4 + q5) = w4 at O4 HTb4 HTw4 HB4 HS4 ⊢
  go_loopw [4] (fun v wr => ∃ i : Nat, i ≤ 24 ∧ v = .int .i64 i ∧ Hid (OverAt w4 Ba 24 wr)) (fun v _ => 24 - (intOf v).toNat)
  case atStart => exact ⟨0, by omega, rfl, O4⟩
  case round =>
    obtain ⟨i, hi, rfl, HO⟩ := hrel
    by_cases hlt : i < 24
    · obtain ⟨cs, t, h1, h2, h3⟩ := HO.out.row
      obtain ⟨x, hx⟩ := h3 i hlt
      have di : wr.cell? ⟨Ba, i, none⟩ = some (.string x) := by rw [cell_of_row _ _ _ _ _ _ h1]; exact hx
      have fi : wr.frozen? ⟨Ba, i, none⟩ = false := by unfold World.frozen?; simp [h1]
      have hlt1 : decide ((i : Int) < 24) = true := decide_eq_true (by omega)
      have hlti : (i : Int) < 24 := by omega
      clear h1 h2 h3 hx
      go_wp2_with (fail)
      go_roundw
      case rel => exact ⟨i + 1, by omega, by simp, Lib.hid (HO.out.set i _)⟩
      case measure => simp [intOf]; omega
    · obtain rfl : i = 24 := by omega
      have HTbr : Hid (TX wr Bb Pl.keys) := Lib.hid (by
        obtain ⟨t, ht⟩ := HTb4.out
        exact ⟨t, (HO.out.block Bb (by have := HS4.out; omega)).trans ht⟩)
      have HTwr : Hid (TX wr Bw Pl.keys) := Lib.hid (by
        obtain ⟨t, ht⟩ := HTw4.out
        exact ⟨t, (HO.out.block Bw (by have := HS4.out; omega)).trans ht⟩)
      have HBr : Hid (Below w.heap.size w wr) := Lib.hid (HB4.out.trans (HO.out.below HS4.out.1))
      have HSr : Hid (w.heap.size ≤ Ba ∧ Ba < Bb ∧ Bb < Bw ∧ Bw < wr.heap.size) := Lib.hid (by rw [HO.out.size]; exact HS4.out)
      clear HO O4 HTb4 HTw4 HB4 HS4 hlt hi CKR
      have HTb5 : Hid (TX (wr.alloc (.cells #[.string ⟨#[109, 111, 114, 101]⟩] 9)) Bb Pl.keys) := Lib.hid (HTbr.out.below ((Below.refl _ _).alloc (Nat.le_refl _) _) (by have := HSr.out; omega))
      obtain ⟨i0, hi0, hz0, hz1, hz2⟩ := info_string
      have HI := Lib.hid hi0
      have HZ := Lib.hid hz0
      have HZ1 := Lib.hid hz1
      have HZ2 := Lib.hid hz2
      clear hi0 hz0 hz1 hz2
      go_wp2_with (at_builtin; refine wpList_append_grows _ rfl (.tmp 30) (.tmp 31) 37 rfl 9 i0 (.string ⟨#[]⟩) 1 16 Tryd.underlying37 HI.out HZ.out HZ1.out HZ2.out rfl (by decide) (some ⟨Bb, 0, none⟩) 24 24 (Pl.keys.map Value.string) rfl (fun h => by cases h) rfl (HTb5.out.olds) ⟨wr.heap.size, 0, none⟩ 1 1 [.string ⟨#[109, 111, 114, 101]⟩] rfl rfl ?c1 ?c2 (by omega) (by unfold maxLen; omega) (by omega) ?grow)
      case c1 => exact one_news _ _ _
      case c2 => intro u hu; simp at hu; subst hu; rfl
      case grow =>
        intro vc w6 hown hgrow
        obtain ⟨g, cc, rfl, hg1, hg2, hc24⟩ := grown_last hown
        have HB6 : Hid (Below w.heap.size w w6) := Lib.hid ((HBr.out.alloc HBr.out.size _).grown hgrow (Nat.le_trans HBr.out.size (by simp)) (fun k hk => by cases hk))
        have HBr6 : Hid (Below wr.heap.size wr w6) := Lib.hid (((Below.refl wr.heap.size wr).alloc (Nat.le_refl _) _).grown hgrow (by simp) (fun k hk => by cases hk))
        have HTb6 : Hid (TX w6 Bb Pl.keys) := Lib.hid (HTbr.out.below HBr6.out (by have := HSr.out; omega))
        have HTw6 : Hid (TX w6 Bw Pl.keys) := Lib.hid (HTwr.out.below HBr6.out (by have := HSr.out; omega))
        have HG : Hid (w.heap.size ≤ Ba ∧ Ba < Bb ∧ Bb < Bw ∧ Bw < g ∧ g < w6.heap.size) := Lib.hid (by have := HSr.out; omega)
        have HC24 := Lib.hid hc24
        clear hown hgrow hg1 hg2 hc24 HTbr HTwr HBr HSr HTb5 HBr6
        go_wp2_with (first
          | (go_at_call 30; (with_reducible refine (CKY.out w6).mono ?_); rintro e w7 ⟨Bd, rfl, ht7, hb7, hle7, hlt7⟩; have HTd7 := Lib.hid ht7; have HTb7 := Lib.hid (HTb6.out.below hb7 (by have := HG.out; omega)); have HTw7 := Lib.hid (HTw6.out.below hb7 (by have := HG.out; omega)); have HB7 := Lib.hid (HB6.out.trans (hb7.mono HB6.out.size)); have HC247 := Lib.hid (hb7.cell (p := ⟨g, 24, none⟩) HG.out.2.2.2.2 |>.trans HC24.out); have HG7 : Hid (w.heap.size ≤ Ba ∧ Ba < Bb ∧ Bb < Bw ∧ Bw < g ∧ g < Bd ∧ Bd < w7.heap.size) := Lib.hid (by have := HG.out; omega); have HTd8 : Hid (TX (w7.alloc (.cells #[.string ⟨#[108, 101, 115, 115]⟩] 9)) Bd Pl.keys) := Lib.hid (HTd7.out.below ((Below.refl _ _).alloc (Nat.le_refl _) _) (by have := HG7.out; omega)); clear ht7 hb7 hle7 hlt7)
          | (at_builtin; refine wpList_append_grows _ rfl (.tmp 33) (.tmp 34) 37 rfl 9 i0 (.string ⟨#[]⟩) 1 16 Tryd.underlying37 HI.out HZ.out HZ1.out HZ2.out rfl (by decide) (some ⟨Bd, 0, none⟩) 24 24 (Pl.keys.map Value.string) rfl (fun h => by cases h) rfl (HTd8.out.olds) ⟨w7.heap.size, 0, none⟩ 1 1 [.string ⟨#[108, 101, 115, 115]⟩] rfl rfl ?d1 ?d2 (by omega) (by unfold maxLen; omega) (by omega) ?growd))
        case d1 => exact one_news _ _ _
        case d2 => intro u hu; simp at hu; subst hu; rfl
        case growd =>
          intro vd w8 hown hgrow
          obtain ⟨gd, cd, rfl, hg1, hg2, hc24⟩ := grown_last hown
          have HB8 : Hid (Below w.heap.size w w8) := Lib.hid ((HB7.out.alloc HB7.out.size _).grown hgrow (Nat.le_trans HB7.out.size (by simp)) (fun k hk => by cases hk))
          have HB78 : Hid (Below w7.heap.size w7 w8) := Lib.hid (((Below.refl w7.heap.size w7).alloc (Nat.le_refl _) _).grown hgrow (by simp) (fun k hk => by cases hk))
          have HTb8 : Hid (TX w8 Bb Pl.keys) := Lib.hid (HTb7.out.below HB78.out (by have := HG7.out; omega))
          have HTw8 : Hid (TX w8 Bw Pl.keys) := Lib.hid (HTw7.out.below HB78.out (by have := HG7.out; omega))
          have HCg := Lib.hid (HB78.out.cell (p := ⟨g, 24, none⟩) (by have := HG7.out; show g < _; omega) |>.trans HC247.out)
          have HCd := Lib.hid hc24
          have HG8 : Hid (w.heap.size ≤ Ba ∧ Ba < Bb ∧ Bb < Bw ∧ Bw < g ∧ g < gd ∧ gd < w8.heap.size) := Lib.hid (by have := HG7.out; omega)
          clear hown hgrow hg1 hg2 hc24 HTb7 HTw7 HB7 HG7 HB78 HC247 HTd7 HTd8 HTb6 HTw6 HB6 HG HC24 HI HZ HZ1 HZ2
          have S8 := Lib.hid (CS.out Bb Bw w8 HTb8.out HTw8.out)
          go_wp2_with (first
            | (go_at_call 32; (with_reducible refine S8.out.mono ?_); rintro e w9 ⟨rfl, q9, rfl⟩)
            | (go_at_call 30; (with_reducible refine (CKY.out (w8.drewN q9)).mono ?_); rintro e w10 ⟨Be, rfl, ht10, hb10, hle10, hlt10⟩; have HTe10 := Lib.hid ht10; have hb10' : Below w8.heap.size w8 w10 := ⟨hb10.os, hb10.tape, hb10.output, hb10.size, hb10.block⟩; have HTw10 := Lib.hid (HTw8.out.below hb10' (by have := HG8.out; omega)); have HB10 := Lib.hid (HB8.out.trans (hb10'.mono HB8.out.size)); have dcg : w10.cell? ⟨g, 24, none⟩ = some (.string ⟨#[109, 111, 114, 101]⟩) := (hb10'.cell (p := ⟨g, 24, none⟩) (by have := HG8.out; show g < _; omega) |>.trans HCg.out); have dcd : w10.cell? ⟨gd, 24, none⟩ = some (.string ⟨#[108, 101, 115, 115]⟩) := (hb10'.cell (p := ⟨gd, 24, none⟩) (by have := HG8.out; show gd < _; omega) |>.trans HCd.out); have HW10 : Hid (w.heap.size ≤ Bw ∧ Bw < w10.heap.size) := Lib.hid (by have := HG8.out; have := hb10'.size; omega); have S10 := Lib.hid (CS.out Be Bw w10 ht10 HTw10.out); clear ht10 hb10 hle10 hlt10 hb10')
            | (go_at_call 32; (with_reducible refine S10.out.mono ?_); rintro e w11 ⟨rfl, q11, rfl⟩))
          have HB11 : Hid (Below w.heap.size w (w10.drewN q11)) := Lib.hid ⟨HB10.out.os, HB10.out.tape, HB10.out.output, HB10.out.size, HB10.out.block⟩
          have HT11 : Hid (TX (w10.drewN q11) Bw Pl.keys) := Lib.hid HTw10.out
          have HW11 : Hid (w.heap.size ≤ Bw ∧ Bw < (w10.drewN q11).heap.size) := Lib.hid HW10.out
          clear HB8 HTb8 HTw8 HCg HCd HG8 S8 HTe10 HTw10 HB10 dcg dcd HW10 S10 CKY CS
          generalize w10.drewN q11 = w11 at HB11 HT11 HW11 ⊢
          go_loopw [7] (fun v wr => ∃ i : Nat, i ≤ 24 ∧ v = .int .i64 i ∧ Hid (Below w.heap.size w wr ∧ Below w11.heap.size w11 wr)) (fun v _ => 24 - (intOf v).toNat)
          case atStart => exact ⟨0, by omega, rfl, Lib.hid ⟨HB11.out, Below.refl _ _⟩⟩
          case round =>
            obtain ⟨i, hi, rfl, HR⟩ := hrel
            by_cases hlt : i < 24
            · have HTr : Hid (TX wr Bw Pl.keys) := Lib.hid (HT11.out.below HR.out.2 HW11.out.2)
              have HSr : Hid (Bw < wr.heap.size) := Lib.hid (Nat.lt_of_lt_of_le HW11.out.2 HR.out.2.size)
              have dx := HTr.out.cell i hlt
              obtain ⟨hk1, hk2⟩ := key_at i hlt
              have hsz : (Pl.keys.getD i ByteArray.empty).size ≤ 140737488351232 := key_size i hlt
              by_cases hz0 : i = 0
              · subst hz0
                obtain ⟨x, hx⟩ : ∃ x, Pl.keys.getD 0 ByteArray.empty = x := ⟨_, rfl⟩
                rw [hx] at dx hk1 hk2 hsz
                rw [show ((0 : Nat) : Int) = 0 from rfl]
                clear hx
                have CK : Hid (∀ w', w'.cell? ⟨Bw, 0, none⟩ = some (.string x) ∧ Hid (Below wr.heap.size wr w') → Calls Tryd.prog 33 #[.string x] w' fun e w'' => e = .returned (.bool true) ∧ (w''.cell? ⟨Bw, 0, none⟩ = some (.string x) ∧ Hid (Below wr.heap.size wr w''))) := Lib.hid fun w' ⟨h1, h2⟩ => by
                  refine (isKey_any x w').mono ?_
                  rw [hk1]
                  rintro e w'' ⟨rfl, hb⟩
                  exact ⟨rfl, ⟨(hb.cell (p := ⟨Bw, 0, none⟩) (Nat.lt_of_lt_of_le HSr.out h2.out.size)).trans h1, Lib.hid (h2.out.trans (hb.mono h2.out.size))⟩⟩
                have CN : Hid (∀ w', w'.cell? ⟨Bw, 0, none⟩ = some (.string x) ∧ Hid (Below wr.heap.size wr w') → Calls Tryd.prog 34 #[.string x] w' fun e w'' => e = .returned (.bool false) ∧ (w''.cell? ⟨Bw, 0, none⟩ = some (.string x) ∧ Hid (Below wr.heap.size wr w''))) := Lib.hid fun w' ⟨h1, h2⟩ => by
                  have hbw := HR.out.1.trans (h2.out.mono HR.out.1.size)
                  refine (isName_any x w' hsz (utf8_below HU.out hbw h6) (HC.out.below hbw h4) (Nat.le_trans h4 hbw.size)).mono ?_
                  rw [hk2]
                  rintro e w'' ⟨rfl, hb⟩
                  exact ⟨rfl, ⟨(hb.cell (p := ⟨Bw, 0, none⟩) (Nat.lt_of_lt_of_le HSr.out h2.out.size)).trans h1, Lib.hid (h2.out.trans (hb.mono h2.out.size))⟩⟩
                have HBrr : Hid (Below wr.heap.size wr wr.drew) := Lib.hid (Below.refl _ _).drew
                clear hk1 hk2 hsz
                go_wp2_with (fail)
                refine wp_region_quiet (C := fun w' => w'.cell? ⟨Bw, 0, none⟩ = some (.string x) ∧ Hid (Below wr.heap.size wr w')) (by kernel_rfl) (by kernel_rfl) ⟨dx, HBrr⟩ ?_
                rw [List.toList_toArray]
                repeat (first
                  | (go_big_quiet_skip; try simp only [Act.put, List.setIfInBounds_toArray, List.set_cons_zero, List.set_cons_succ])
                  | (refine BigFrame.wpQuiet_want (by kernel_rfl) (fun K hK => ?_)
                     apply Exists.intro
                     refine ⟨fun wq hwq => ?_, hK _ ?_⟩
                     · have hcq := hwq.1
                       unfold Oper.quietAt Oper.quietUpon
                       go_simp
                       first | done | rfl | exact CK.out _ hwq | exact CN.out _ hwq
                     clear hK K
                     simp only [Act.put, List.setIfInBounds_toArray, List.set_cons_zero, List.set_cons_succ]))
                refine wpQuiet_nil ?_
                rintro w2 ⟨_, hb2⟩
                have HB2' : Hid (Below w.heap.size w w2 ∧ Below w11.heap.size w11 w2) := Lib.hid ⟨HR.out.1.trans (hb2.out.mono HR.out.1.size), HR.out.2.trans (hb2.out.mono HR.out.2.size)⟩
                clear hb2
                go_wp2_with (fail)
                go_roundw
                case rel => exact ⟨1, by omega, by simp, HB2'⟩
                case measure => simp [intOf]
              · obtain ⟨k, hk⟩ : ∃ k, k + 1 = i := ⟨i - 1, by omega⟩
                have dy := HTr.out.cell k (show k < 24 by omega)
                have hri := key_rise k (by omega)
                rw [hk] at hri
                obtain ⟨x, hx⟩ : ∃ x, Pl.keys.getD i ByteArray.empty = x := ⟨_, rfl⟩
                obtain ⟨y, hy⟩ : ∃ y, Pl.keys.getD k ByteArray.empty = y := ⟨_, rfl⟩
                rw [hx] at dx hk1 hk2 hsz hri
                rw [hy] at dy hri
                clear hx hy
                have g1 : decide ((0 : Int) < (i : Int)) = true := decide_eq_true (by omega)
                have g1' : decide (0 < i) = true := decide_eq_true (by omega)
                have g2 : (i : Int) - 1 = (k : Int) := by omega
                have g3 : IntKind.i64.wrap ((i : Int) - 1) = (k : Int) := by rw [IntKind.wrap_i64]; omega
                have g3' : IntKind.i64.wrap (k : Int) = (k : Int) := by rw [IntKind.wrap_i64]; omega
                have g4 : (k : Int) < 24 := by omega
                have g5 : (i : Int) < 24 := by omega
                have HK1 := Lib.hid hk
                clear hk hz0
                have CK : Hid (∀ w', w'.cell? ⟨Bw, i, none⟩ = some (.string x) ∧ w'.cell? ⟨Bw, k, none⟩ = some (.string y) ∧ Hid (Below wr.heap.size wr w') → Calls Tryd.prog 33 #[.string x] w' fun e w'' => e = .returned (.bool true) ∧ (w''.cell? ⟨Bw, i, none⟩ = some (.string x) ∧ w''.cell? ⟨Bw, k, none⟩ = some (.string y) ∧ Hid (Below wr.heap.size wr w''))) := Lib.hid fun w' ⟨h1, h3, h2⟩ => by
                  refine (isKey_any x w').mono ?_
                  rw [hk1]
                  rintro e w'' ⟨rfl, hb⟩
                  exact ⟨rfl, ⟨(hb.cell (p := ⟨Bw, i, none⟩) (Nat.lt_of_lt_of_le HSr.out h2.out.size)).trans h1, (hb.cell (p := ⟨Bw, k, none⟩) (Nat.lt_of_lt_of_le HSr.out h2.out.size)).trans h3, Lib.hid (h2.out.trans (hb.mono h2.out.size))⟩⟩
                have CN : Hid (∀ w', w'.cell? ⟨Bw, i, none⟩ = some (.string x) ∧ w'.cell? ⟨Bw, k, none⟩ = some (.string y) ∧ Hid (Below wr.heap.size wr w') → Calls Tryd.prog 34 #[.string x] w' fun e w'' => e = .returned (.bool false) ∧ (w''.cell? ⟨Bw, i, none⟩ = some (.string x) ∧ w''.cell? ⟨Bw, k, none⟩ = some (.string y) ∧ Hid (Below wr.heap.size wr w''))) := Lib.hid fun w' ⟨h1, h3, h2⟩ => by
                  have hbw := HR.out.1.trans (h2.out.mono HR.out.1.size)
                  refine (isName_any x w' hsz (utf8_below HU.out hbw h6) (HC.out.below hbw h4) (Nat.le_trans h4 hbw.size)).mono ?_
                  rw [hk2]
                  rintro e w'' ⟨rfl, hb⟩
                  exact ⟨rfl, ⟨(hb.cell (p := ⟨Bw, i, none⟩) (Nat.lt_of_lt_of_le HSr.out h2.out.size)).trans h1, (hb.cell (p := ⟨Bw, k, none⟩) (Nat.lt_of_lt_of_le HSr.out h2.out.size)).trans h3, Lib.hid (h2.out.trans (hb.mono h2.out.size))⟩⟩
                have HBrr : Hid (Below wr.heap.size wr wr.drew) := Lib.hid (Below.refl _ _).drew
                have HGE : ∀ w, (binOp .geq 9 (.string y) (.string x)).run Tryd.prog w = .ok (.bool false) w := fun w => run_geq_less w y x hri
                clear hk1 hk2 hsz hri
                go_wp2_with (fail)
                go_region_held3 (fun w' => w'.cell? ⟨Bw, i, none⟩ = some (.string x) ∧ w'.cell? ⟨Bw, k, none⟩ = some (.string y) ∧ Hid (Below wr.heap.size wr w')) (first | assumption | exact ⟨dx, dy, HBrr⟩ | go_keep)
                  (first
                    | (go_at_call 33; (refine (CK.out _ (by assumption)).mono ?_); rintro e w2 ⟨rfl, hs2⟩)
                    | (go_at_call 34; (refine (CN.out _ (by assumption)).mono ?_); rintro e w2 ⟨rfl, hs2⟩))
                go_wp2_with (fail)
                rename_i hs4
                go_roundw
                case rel => exact ⟨i + 1, by omega, by simp, Lib.hid ⟨HR.out.1.trans (hs4.2.2.out.mono HR.out.1.size), HR.out.2.trans (hs4.2.2.out.mono HR.out.2.size)⟩⟩
                case measure => simp [intOf]; omega
            · obtain rfl : i = 24 := by omega
              have HUr : Hid (UTab4 wr) := Lib.hid (utf8_below HU.out HR.out.1 h6)
              have HCr : Hid (CTabs wr) := Lib.hid (HC.out.below HR.out.1 h4)
              go_wp2_with (go_at_call 35; (with_reducible refine (awake04' _ HCr.out HUr.out).mono ?_); rintro e w12 ⟨rfl, hb⟩; have HB12 := Lib.hid (HR.out.1.trans (hb.mono HR.out.1.size)); clear hb)
              go_ret
              exact ⟨rfl, HB12.out⟩
end Go.Proofs.YtocijojjfcpaoaaDoor
