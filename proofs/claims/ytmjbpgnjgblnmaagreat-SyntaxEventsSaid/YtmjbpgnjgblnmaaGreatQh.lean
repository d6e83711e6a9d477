/- What the claim stands on: part Qh. -/
import Derived.Test.YtmjbpgnjgblnmaaGreatQg
import Derived.Test.YtmjbpgnjgblnmaaGreatQd
set_option linter.unusedVariables false
set_option linter.unusedSimpArgs false
namespace Go.Proofs.YtmjbpgnjgblnmaaGreat
open Go.RowKit Go.Proofs.YtmjbpgnjgblnmaaGreatW.PrintWords Go.Proofs.YtmjbpgnjgblnmaaGreatW.PrintLast Go.Proofs.YtmjbpgnjgblnmaaGreatW.PrintMore
set_option maxRecDepth 100000 in
theorem take_no {W0 : World} {A : Option Addr} {c : Nat} {l : List Tk} {w : World} {p : Nat} {i : Nat} {d : Int} {out : List Ev} {ve : Value} (H : SAt W0 A c l w p i d out ve) :
  Calls Tryz.prog 46 #[.pointer (some ⟨p, 0, none⟩), .bool false] w fun e w' => e = giveUp (if i = l.length then 121 else 120) i ∧ Below w.heap.size w w' := by
 have HF := Lib.hid (fail_any H)
 clear H
 obtain ⟨er, her⟩ : ∃ er, (if i = l.length then (121 : Int) else 120) = er := ⟨_, rfl⟩
 rw [her] at HF ⊢
 clear her
 go_enter Tryz.func46, Tryz.ntmps46
 go_wp2_with (go_at_call 39; (with_reducible refine Calls.mono HF.out ?_); rintro e w5 ⟨rfl, hb5⟩; have HB5 := Lib.hid hb5; clear hb5)
 exact ⟨rfl, rfl, HB5.out⟩
set_option maxRecDepth 100000 in
theorem take_deep {W0 : World} {A : Option Addr} {c : Nat} {l : List Tk} {w : World} {p : Nat} {i : Nat} {d : Int} {out : List Ev} {ve : Value} (H : SAt W0 A c l w p i d out ve) (hd : 1000 < d) :
  Calls Tryz.prog 46 #[.pointer (some ⟨p, 0, none⟩), .bool true] w fun e w' => e = giveUp 122 i ∧ Below w.heap.size w w' := by
 obtain ⟨q0, q1, q2, q3⟩ := H.cell
 clear H
 go_enter Tryz.func46, Tryz.ntmps46
 go_wp2
 exact ⟨rfl, rfl, Below.refl _ w⟩
set_option maxRecDepth 100000 in
set_option maxHeartbeats 8000000 in
theorem take_yes {W0 : World} {A : Option Addr} {c : Nat} {l : List Tk} {w : World} {p : Nat} {i : Nat} {d : Int} {out : List Ev} {ve : Value} (H : SAt W0 A c l w p i d out ve) {t : Tk} (hg : l[i]? = some t) (hd : ¬ 1000 < d) (hout : out.length ≤ 274877906944) :
  Calls Tryz.prog 46 #[.pointer (some ⟨p, 0, none⟩), .bool true] w fun e w' => e = .returned (.tuple #[]) ∧ ∃ ve', SAt W0 A c l w' p (i + 1 + (nAt l (i + 1)).length) d (out ++ [leafE t] ++ (nAt l (i + 1)).map noteE) ve' ∧ MStep p ve w ve' w' := by
 have hj : i < l.length := (List.getElem?_eq_some_iff.1 hg).1
 obtain ⟨ad, hA, htc⟩ := tok_cells H.toks i hj
 rw [rd_of hg] at htc
 subst hA
 obtain ⟨q0, q1, q2, q3⟩ := H.cell
 obtain ⟨c0, c1, c2, c3, c4, c5⟩ := htc w H.below
 obtain ⟨g1, g2, g3, g4⟩ := idx4 hj H.len
 have HH := Lib.hid H
 have HT6 := Lib.hid hj
 have HLO := Lib.hid hout
 have hd1 : decide (1000 < d) = false := decide_eq_false hd
 clear H hg hj htc hout
 go_enter Tryz.func46, Tryz.ntmps46
 go_upto_region 4 with (fail)
 obtain ⟨Wd2, hWd⟩ : ∃ V, w.drew = V := ⟨_, rfl⟩
 have hbd : Below w.heap.size w Wd2 := by rw [← hWd]; exact (Below.refl _ w).drew
 have hSall : ∀ V, Below w.heap.size w V → V.cell? ⟨p, 0, none⟩ = some (.slice (some ad) l.length c) ∧ V.cell? ⟨p, 1, none⟩ = some (.int .i64 i) ∧ V.cell? ⟨p, 3, none⟩ = some (ve) ∧ V.cell? (ad.add (i * 6)) = some (.int .u8 t.f0) ∧ V.cell? ⟨(ad.add (i * 6)).block, (ad.add (i * 6)).off + 1, none⟩ = some (.string t.f1) ∧ V.cell? ⟨(ad.add (i * 6)).block, (ad.add (i * 6)).off + 2, none⟩ = some (.int .i64 t.f2.f0) ∧ V.cell? ⟨(ad.add (i * 6)).block, (ad.add (i * 6)).off + 3, none⟩ = some (.int .i64 t.f2.f1) ∧ V.cell? ⟨(ad.add (i * 6)).block, (ad.add (i * 6)).off + 4, none⟩ = some (.int .i64 t.f2.f2) ∧ V.cell? ⟨(ad.add (i * 6)).block, (ad.add (i * 6)).off + 5, none⟩ = some (.int .i64 t.f3) := fun V hV => ⟨pw_cell_below hV q0, pw_cell_below hV q1, pw_cell_below hV q3, pw_cell_below hV c0, pw_cell_below hV c1, pw_cell_below hV c2, pw_cell_below hV c3, pw_cell_below hV c4, pw_cell_below hV c5⟩
 have HSA := Lib.hid hSall
 have HS := Lib.hid (hSall Wd2 hbd)
 have HBD := Lib.hid hbd
 have HWd := Lib.hid hWd
 clear hSall hbd hWd
 refine wp_region_R (fun w' => w'.cell? ⟨p, 0, none⟩ = some (.slice (some ad) l.length c) ∧ w'.cell? ⟨p, 1, none⟩ = some (.int .i64 i) ∧ w'.cell? ⟨p, 3, none⟩ = some (ve) ∧ w'.cell? (ad.add (i * 6)) = some (.int .u8 t.f0) ∧ w'.cell? ⟨(ad.add (i * 6)).block, (ad.add (i * 6)).off + 1, none⟩ = some (.string t.f1) ∧ w'.cell? ⟨(ad.add (i * 6)).block, (ad.add (i * 6)).off + 2, none⟩ = some (.int .i64 t.f2.f0) ∧ w'.cell? ⟨(ad.add (i * 6)).block, (ad.add (i * 6)).off + 3, none⟩ = some (.int .i64 t.f2.f1) ∧ w'.cell? ⟨(ad.add (i * 6)).block, (ad.add (i * 6)).off + 4, none⟩ = some (.int .i64 t.f2.f2) ∧ w'.cell? ⟨(ad.add (i * 6)).block, (ad.add (i * 6)).off + 5, none⟩ = some (.int .i64 t.f3)) (fun j => !(Nat.beq j 20)) (by kernel_rfl) ?_
 rw [HWd.out]
 refine anyR_take (i := 0) (oi := ⟨some 19, .move (.tmp 0), 54, "syntax.go:101", #[], none⟩) (v := ?_) rfl (by kernel_rfl) (fun _ _ _ h => h) (Or.inl ⟨by rfl, ?_⟩) HS.out ?_
 rotate_left
 ·intro x h; (try dsimp only at h); go_simp; try (with_reducible rfl)
 try simp only [Act.put, List.setIfInBounds_toArray, List.set]
 refine anyR_take (i := 1) (oi := ⟨some 20, .move (.tmp 0), 54, "syntax.go:101", #[], none⟩) (v := ?_) rfl (by kernel_rfl) (fun _ _ _ h => h) (Or.inl ⟨by rfl, ?_⟩) HS.out ?_
 rotate_left
 ·intro x h; (try dsimp only at h); go_simp; try (with_reducible rfl)
 try simp only [Act.put, List.setIfInBounds_toArray, List.set]
 refine anyR_take (i := 2) (oi := ⟨some 21, .nilCheck (.tmp 20), 0, "syntax.go:101", #[⟨1, .data⟩], none⟩) (v := ?_) rfl (by kernel_rfl) (fun _ _ _ h => h) (Or.inl ⟨by rfl, ?_⟩) HS.out ?_
 rotate_left
 ·intro x h; (try dsimp only at h); go_simp; try (with_reducible rfl)
 try simp only [Act.put, List.setIfInBounds_toArray, List.set]
 refine anyR_take (i := 3) (oi := ⟨some 22, .fieldAddr 56 (.tmp 21) 3, 0, "syntax.go:101", #[⟨2, .data⟩], none⟩) (v := ?_) rfl (by kernel_rfl) (fun _ _ _ h => h) (Or.inl ⟨by rfl, ?_⟩) HS.out ?_
 rotate_left
 ·intro x h; (try dsimp only at h); go_simp; try (with_reducible rfl)
 try simp only [Act.put, List.setIfInBounds_toArray, List.set]
 refine anyR_take (i := 4) (oi := ⟨some 23, .load 41 (.tmp 22), 41, "syntax.go:101", #[⟨3, .data⟩], none⟩) (v := ?_) rfl (by kernel_rfl) (fun _ _ _ h => h) (Or.inl ⟨by rfl, ?_⟩) HS.out ?_
 rotate_left
 ·intro x h; (try dsimp only at h); go_simp; try (with_reducible rfl)
 try simp only [Act.put, List.setIfInBounds_toArray, List.set]
 refine anyR_take (i := 5) (oi := ⟨some 24, .move (.tmp 0), 54, "syntax.go:101", #[], none⟩) (v := ?_) rfl (by kernel_rfl) (fun _ _ _ h => h) (Or.inl ⟨by rfl, ?_⟩) HS.out ?_
 rotate_left
 ·intro x h; (try dsimp only at h); go_simp; try (with_reducible rfl)
 try simp only [Act.put, List.setIfInBounds_toArray, List.set]
 refine anyR_take (i := 6) (oi := ⟨some 25, .nilCheck (.tmp 24), 0, "syntax.go:101", #[⟨5, .data⟩], none⟩) (v := ?_) rfl (by kernel_rfl) (fun _ _ _ h => h) (Or.inl ⟨by rfl, ?_⟩) HS.out ?_
 rotate_left
 ·intro x h; (try dsimp only at h); go_simp; try (with_reducible rfl)
 try simp only [Act.put, List.setIfInBounds_toArray, List.set]
 refine anyR_take (i := 7) (oi := ⟨some 26, .fieldAddr 56 (.tmp 25) 0, 0, "syntax.go:101", #[⟨6, .data⟩], none⟩) (v := ?_) rfl (by kernel_rfl) (fun _ _ _ h => h) (Or.inl ⟨by rfl, ?_⟩) HS.out ?_
 rotate_left
 ·intro x h; (try dsimp only at h); go_simp; try (with_reducible rfl)
 try simp only [Act.put, List.setIfInBounds_toArray, List.set]
 refine anyR_take (i := 8) (oi := ⟨some 27, .load 22 (.tmp 26), 22, "syntax.go:101", #[⟨7, .data⟩], none⟩) (v := ?_) rfl (by kernel_rfl) (fun _ _ _ h => h) (Or.inl ⟨by rfl, ?_⟩) HS.out ?_
 rotate_left
 ·intro x h; (try dsimp only at h); go_simp; try (with_reducible rfl)
 try simp only [Act.put, List.setIfInBounds_toArray, List.set]
 refine anyR_take (i := 9) (oi := ⟨some 28, .move (.tmp 0), 54, "syntax.go:101", #[], none⟩) (v := ?_) rfl (by kernel_rfl) (fun _ _ _ h => h) (Or.inl ⟨by rfl, ?_⟩) HS.out ?_
 rotate_left
 ·intro x h; (try dsimp only at h); go_simp; try (with_reducible rfl)
 try simp only [Act.put, List.setIfInBounds_toArray, List.set]
 refine anyR_take (i := 10) (oi := ⟨some 29, .nilCheck (.tmp 28), 0, "syntax.go:101", #[⟨9, .data⟩], none⟩) (v := ?_) rfl (by kernel_rfl) (fun _ _ _ h => h) (Or.inl ⟨by rfl, ?_⟩) HS.out ?_
 rotate_left
 ·intro x h; (try dsimp only at h); go_simp; try (with_reducible rfl)
 try simp only [Act.put, List.setIfInBounds_toArray, List.set]
 refine anyR_take (i := 11) (oi := ⟨some 30, .fieldAddr 56 (.tmp 29) 1, 0, "syntax.go:101", #[⟨10, .data⟩], none⟩) (v := ?_) rfl (by kernel_rfl) (fun _ _ _ h => h) (Or.inl ⟨by rfl, ?_⟩) HS.out ?_
 rotate_left
 ·intro x h; (try dsimp only at h); go_simp; try (with_reducible rfl)
 try simp only [Act.put, List.setIfInBounds_toArray, List.set]
 refine anyR_take (i := 12) (oi := ⟨some 31, .load 3 (.tmp 30), 3, "syntax.go:101", #[⟨11, .data⟩], none⟩) (v := ?_) rfl (by kernel_rfl) (fun _ _ _ h => h) (Or.inl ⟨by rfl, ?_⟩) HS.out ?_
 rotate_left
 ·intro x h; (try dsimp only at h); go_simp; try (with_reducible rfl)
 try simp only [Act.put, List.setIfInBounds_toArray, List.set]
 refine anyR_take (i := 13) (oi := ⟨some 32, .indexAddr 22 (.tmp 27) (.tmp 31), 0, "syntax.go:101", #[⟨8, .data⟩, ⟨12, .data⟩], none⟩) (v := ?_) rfl (by kernel_rfl) (fun _ _ _ h => h) (Or.inl ⟨by rfl, ?_⟩) HS.out ?_
 rotate_left
 ·intro x h; (try dsimp only at h); go_simp; try (with_reducible rfl)
 try simp only [Act.put, List.setIfInBounds_toArray, List.set]
 refine anyR_take (i := 14) (oi := ⟨some 33, .load 28 (.tmp 32), 28, "syntax.go:101", #[⟨13, .data⟩], none⟩) (v := ?_) rfl (by kernel_rfl) (fun _ _ _ h => h) (Or.inl ⟨by rfl, ?_⟩) HS.out ?_
 rotate_left
 ·intro x h; (try dsimp only at h); go_simp; try (with_reducible rfl)
 try simp only [Act.put, List.setIfInBounds_toArray, List.set]
 refine anyR_take (i := 15) (oi := ⟨some 34, .build 48 #[(0, .const (.int .u8 2)), (2, .tmp 33)], 48, "syntax.go:101", #[⟨14, .data⟩], none⟩) (v := ?_) rfl (by kernel_rfl) (fun _ _ _ h => h) (Or.inl ⟨by rfl, ?_⟩) HS.out ?_
 rotate_left
 ·intro x h; (try dsimp only at h); go_simp; try (with_reducible rfl)
 try simp only [Act.put, List.setIfInBounds_toArray, List.set]
 have HP6 := Lib.hid (HH.out.moved HBD.out)
 refine anyR_ready (rs := [16]) (by kernel_rfl) (by simp) ?_
 refine ReadyR.cons (o := ⟨some 35, .buildSlice 41 1 #[(0, .tmp 34)], 41, "syntax.go:101", #[⟨15, .data⟩], none⟩) rfl (fun K hK => ?_) ReadyR.nil
 go_simp
 refine hK.out _ _ (fun _ => HSA.out _ (HBD.out.alloc HBD.out.size _)) ?_
 clear hK K
 try simp only [Act.put, List.setIfInBounds_toArray, List.set]
 refine anyR_ready (rs := [17]) (by kernel_rfl) (by simp) ?_
 refine ReadyR.cons (o := ⟨some 36, .call { callee := .builtin .append, args := #[.tmp 23, .tmp 35], argTypes := #[41, 41] }, 41, "syntax.go:101", #[⟨4, .data⟩, ⟨16, .data⟩], none⟩) rfl (fun K hK => ?_) ReadyR.nil
 refine step_ev (W := Wd2) rfl (.tmp 23) (.tmp 35) rfl p (u := ve) (q := out.length) (kc := out.flatMap evCells) (cs := [.int .u8 2, .int .u8 0, .int .u8 t.f0, .string t.f1, .int .i64 t.f2.f0, .int .i64 t.f2.f1, .int .i64 t.f2.f2, .int .i64 t.f3]) rfl rfl HP6.out.row rfl (evCells_one (leafE t)) (Nat.le_of_lt (blk_lt HP6.out.box)) (by have := HLO.out; omega) ?_
 intro G9 C9 w6 ho hg hat
 obtain ⟨⟨cur6, hcur, hfit⟩, hnx⟩ := HP6.out.next (e := leafE t) ho hg hat
 have hS7 : w6.cell? ⟨p, 0, none⟩ = some (.slice (some ad) l.length c) ∧ w6.cell? ⟨p, 1, none⟩ = some (.int .i64 i) ∧ w6.cell? ⟨p, 3, none⟩ = some (ve) ∧ w6.cell? (ad.add (i * 6)) = some (.int .u8 t.f0) ∧ w6.cell? ⟨(ad.add (i * 6)).block, (ad.add (i * 6)).off + 1, none⟩ = some (.string t.f1) ∧ w6.cell? ⟨(ad.add (i * 6)).block, (ad.add (i * 6)).off + 2, none⟩ = some (.int .i64 t.f2.f0) ∧ w6.cell? ⟨(ad.add (i * 6)).block, (ad.add (i * 6)).off + 3, none⟩ = some (.int .i64 t.f2.f1) ∧ w6.cell? ⟨(ad.add (i * 6)).block, (ad.add (i * 6)).off + 4, none⟩ = some (.int .i64 t.f2.f2) ∧ w6.cell? ⟨(ad.add (i * 6)).block, (ad.add (i * 6)).off + 5, none⟩ = some (.int .i64 t.f3) := sgrown HP6.out ⟨rfl, HT6.out⟩ hg HS.out
 have HS7 := Lib.hid hS7
 have HCU := Lib.hid (And.intro hcur hfit)
 have HNX := Lib.hid hnx
 refine hK.out _ _ (fun _ => hS7) ?_
 clear hK K ho hg hat hS7 hcur hfit hnx
 try simp only [Act.put, List.setIfInBounds_toArray, List.set]
 refine anyR_ready (rs := [18]) (by kernel_rfl) (by simp) ?_
 refine ReadyR.cons (o := ⟨some 37, .nilCheck (.tmp 19), 0, "syntax.go:101", #[⟨0, .data⟩, ⟨0, .phase⟩, ⟨1, .phase⟩, ⟨2, .phase⟩, ⟨3, .phase⟩, ⟨4, .phase⟩, ⟨5, .phase⟩, ⟨6, .phase⟩, ⟨7, .phase⟩, ⟨8, .phase⟩, ⟨9, .phase⟩, ⟨10, .phase⟩, ⟨11, .phase⟩, ⟨12, .phase⟩, ⟨13, .phase⟩, ⟨14, .phase⟩, ⟨15, .phase⟩, ⟨16, .phase⟩, ⟨17, .phase⟩], none⟩) rfl (fun K hK => ?_) ReadyR.nil
 go_simp
 refine hK.out _ _ (fun _ => HS7.out) ?_
 clear hK K
 try simp only [Act.put, List.setIfInBounds_toArray, List.set]
 refine anyR_ready (rs := [19]) (by kernel_rfl) (by simp) ?_
 refine ReadyR.cons (o := ⟨some 38, .fieldAddr 56 (.tmp 37) 3, 0, "syntax.go:101", #[⟨18, .data⟩, ⟨0, .phase⟩, ⟨1, .phase⟩, ⟨2, .phase⟩, ⟨3, .phase⟩, ⟨4, .phase⟩, ⟨5, .phase⟩, ⟨6, .phase⟩, ⟨7, .phase⟩, ⟨8, .phase⟩, ⟨9, .phase⟩, ⟨10, .phase⟩, ⟨11, .phase⟩, ⟨12, .phase⟩, ⟨13, .phase⟩, ⟨14, .phase⟩, ⟨15, .phase⟩, ⟨16, .phase⟩, ⟨17, .phase⟩], none⟩) rfl (fun K hK => ?_) ReadyR.nil
 go_simp
 refine hK.out _ _ (fun _ => HS7.out) ?_
 clear hK K
 try simp only [Act.put, List.setIfInBounds_toArray, List.set]
 refine anyR_ready (rs := [20]) (by kernel_rfl) (by simp) ?_
 refine ReadyR.cons (o := ⟨none, .store 41 (.tmp 38) (.tmp 36), 0, "syntax.go:101", #[⟨19, .data⟩, ⟨17, .data⟩, ⟨17, .chain⟩, ⟨0, .phase⟩, ⟨1, .phase⟩, ⟨2, .phase⟩, ⟨3, .phase⟩, ⟨4, .phase⟩, ⟨5, .phase⟩, ⟨6, .phase⟩, ⟨7, .phase⟩, ⟨8, .phase⟩, ⟨9, .phase⟩, ⟨10, .phase⟩, ⟨11, .phase⟩, ⟨12, .phase⟩, ⟨13, .phase⟩, ⟨14, .phase⟩, ⟨15, .phase⟩, ⟨16, .phase⟩, ⟨17, .phase⟩], none⟩) rfl (fun K hK => ?_) ReadyR.nil
 refine step_store rfl rfl 41 (.tmp 38) (.tmp 36) rfl (g := p) (off := 3) (.slice (some ⟨G9, 0, none⟩) (out.length + 1) C9) [.slice (some ⟨G9, 0, none⟩) (out.length + 1) C9] rfl rfl rfl (by kernel_rfl) (fun v hv => by rw [List.mem_singleton.1 hv]; rfl) HCU.out.1 HCU.out.2 ?_
 have HN7 := Lib.hid (HNX.out _ rfl)
 refine hK.out _ _ (fun h => by cases h) ?_
 clear hK K HNX HCU HS7 HS HSA
 generalize w6.setCells p 3 [.slice (some ⟨G9, 0, none⟩) (out.length + 1) C9] = V7 at HN7 ⊢
 try simp only [Act.put, List.setIfInBounds_toArray, List.set]
 refine anyR_done (by kernel_rfl) ?_ _
 have HP7 := Lib.hid HN7.out.1
 have HQ7 := Lib.hid (((PStep.below HBD.out) : MStep p ve w ve Wd2).trans HN7.out.2)
 clear q0 q1 q2 q3 c0 c1 c2 c3 c4 c5 HN7
 obtain ⟨q0, q1, q2, q3⟩ := HP7.out.cell
 go_wp2_with (first
  | ((with_reducible refine gate_ (.store 3 (.tmp 45) (.tmp 43)) rfl ?_); refine wl_cells rfl rfl _ _ _ rfl (g := p) (off := 1) (.int .i64 ((i : Int) + 1)) [.int .i64 ((i : Int) + 1)] rfl rfl rfl (by kernel_rfl) (fun v hv => by rw [List.mem_singleton.1 hv]; rfl) HP7.out.box (by simp) ?_; intro V8 hV; obtain ⟨hA, hS⟩ := HP7.out.upd 1 (.int .i64 ((i : Int) + 1)) (by decide) (i' := i + 1) (d' := d) rfl HT6.out; rw [← hV] at hA hS; have HQ8 := Lib.hid (HQ7.out.trans hS); have HCM := Lib.hid (comments_any hA (by have := HLO.out; rw [List.length_append, List.length_singleton]; omega)); clear q0 q1 q2 q3 hV hA hS)
  | (go_at_call 35; (with_reducible refine Calls.mono HCM.out ?_); rintro e w9 ⟨rfl, ve9, hP9, hs9⟩; have HP9 := Lib.hid hP9; have HQ9 := Lib.hid (HQ8.out.trans hs9); clear hP9 hs9))
 go_end0
 exact ⟨rfl, ve9, HP9.out, HQ9.out⟩
end Go.Proofs.YtmjbpgnjgblnmaaGreat
namespace Go.Proofs.YtmjbpgnjgblnmaaGreat
open Go.RowKit Go.Proofs.YtmjbpgnjgblnmaaGreatW.PrintWords Go.Proofs.YtmjbpgnjgblnmaaGreatW.PrintLast Go.Proofs.YtmjbpgnjgblnmaaGreatW.PrintMore
def goodW (s : ByteArray) : Bool := decide (0 < s.size) && !(bt s 0 == 64)
def lowW (s : ByteArray) : Bool := decide (97 ≤ bt s 0) && decide (bt s 0 ≤ 122)
theorem code_word {s : ByteArray} (hs : goodW s = true) (t : Tk) : ((t.f0 = (if lowW s then 2 else 6)) ∧ t.f1 = s) ↔ codeOf t = s := by
 simp only [goodW, Bool.and_eq_true, decide_eq_true_eq, Bool.not_eq_true', beq_eq_false_iff_ne, ne_eq] at hs
 obtain ⟨h0, h64⟩ := hs
 have hn : ∀ x : ByteArray, bt x 0 = 64 → ¬ x = s := fun x hx e => h64 (e ▸ hx)
 have e1 : bt ⟨#[64, 110, 97, 109, 101]⟩ 0 = 64 := by decide
 have e2 : bt ⟨#[64, 110, 117, 109, 98, 101, 114]⟩ 0 = 64 := by decide
 have e3 : bt ⟨#[64, 116, 101, 120, 116]⟩ 0 = 64 := by decide
 have e4 : bt ⟨#[64, 99, 104, 97, 114]⟩ 0 = 64 := by decide
 have e5 : bt ⟨#[64]⟩ 0 = 64 := by decide
 unfold codeOf PSyntaxEvents.parse_code.f
 obtain ⟨t0, t1, ⟨t2, t3, t4⟩, t5⟩ := t
 dsimp only
 by_cases c1 : t0 = 1
 ·subst c1
  simp only [if_true, Option.getD_some]
  refine ⟨fun h => ?_, fun h => absurd h (hn _ e1)⟩
  have := h.1; split at this <;> omega
 rw [if_neg c1]
 by_cases c3 : t0 = 3
 ·subst c3
  simp only [if_true, Option.getD_some]
  refine ⟨fun h => ?_, fun h => absurd h (hn _ e2)⟩
  have := h.1; split at this <;> omega
 rw [if_neg c3]
 by_cases c4 : t0 = 4
 ·subst c4
  simp only [if_true, Option.getD_some]
  refine ⟨fun h => ?_, fun h => absurd h (hn _ e3)⟩
  have := h.1; split at this <;> omega
 rw [if_neg c4]
 by_cases c5 : t0 = 5
 ·subst c5
  simp only [if_true, Option.getD_some]
  refine ⟨fun h => ?_, fun h => absurd h (hn _ e4)⟩
  have := h.1; split at this <;> omega
 rw [if_neg c5]
 by_cases c2 : t0 = 2
 ·subst c2
  simp only [if_true]
  by_cases hz : (t1.size : Int) > 0
  ·have hz' : 0 < (t1.size : Int) := hz
   rw [if_pos hz, if_pos hz']
   by_cases ha : bt t1 0 ≥ 97
   ·rw [if_pos ha]
    by_cases hb : bt t1 0 ≤ 122
    ·rw [if_pos hb]
     simp only [Option.getD_some]
     constructor
     ·exact fun h => h.2
     ·intro h
      subst h
      refine ⟨?_, rfl⟩
      rw [if_pos (by simp [lowW]; omega)]
    ·rw [if_neg hb]
     simp only [Option.getD_some]
     refine ⟨fun h => ?_, fun h => absurd h (hn _ e5)⟩
     obtain ⟨h1, h2⟩ := h
     subst h2
     rw [if_neg (by simp [lowW]; omega)] at h1
     omega
   ·rw [if_neg ha]
    simp only [Option.getD_some]
    refine ⟨fun h => ?_, fun h => absurd h (hn _ e5)⟩
    obtain ⟨h1, h2⟩ := h
    subst h2
    rw [if_neg (by simp [lowW]; omega)] at h1
    omega
  ·rw [if_neg hz]
   simp only [Option.getD_some]
   refine ⟨fun h => ?_, fun h => absurd h (hn _ e5)⟩
   obtain ⟨h1, h2⟩ := h
   subst h2
   omega
 rw [if_neg c2]
 by_cases c6 : t0 = 6
 ·subst c6
  simp only [if_true]
  by_cases hz : (t1.size : Int) > 0
  ·have hz' : 0 < (t1.size : Int) := hz
   rw [if_pos hz, if_pos hz']
   by_cases ha : bt t1 0 < 97
   ·rw [if_pos ha]
    by_cases hb : bt t1 0 = 64
    ·rw [if_pos hb]
     simp only [Option.getD_some]
     refine ⟨fun h => ?_, fun h => absurd h (hn _ e5)⟩
     obtain ⟨h1, h2⟩ := h
     subst h2
     exact absurd hb h64
    ·rw [if_neg hb]
     simp only [Option.getD_some]
     constructor
     ·exact fun h => h.2
     ·intro h
      subst h
      refine ⟨?_, rfl⟩
      rw [if_neg (by simp [lowW]; omega)]
   ·rw [if_neg ha]
    by_cases hc : bt t1 0 > 122
    ·rw [if_pos hc]
     by_cases hb : bt t1 0 = 64
     ·omega
     ·rw [if_neg hb]
      simp only [Option.getD_some]
      constructor
      ·exact fun h => h.2
      ·intro h
       subst h
       refine ⟨?_, rfl⟩
       rw [if_neg (by simp [lowW]; omega)]
    ·rw [if_neg hc]
     simp only [Option.getD_some]
     refine ⟨fun h => ?_, fun h => absurd h (hn _ e5)⟩
     obtain ⟨h1, h2⟩ := h
     subst h2
     rw [if_pos (by simp [lowW]; omega)] at h1
     omega
  ·rw [if_neg hz]
   simp only [Option.getD_some]
   refine ⟨fun h => ?_, fun h => absurd h (hn _ e5)⟩
   obtain ⟨h1, h2⟩ := h
   subst h2
   omega
 rw [if_neg c6]
 simp only [Option.getD_some]
 refine ⟨fun h => ?_, fun h => absurd h (hn _ e5)⟩
 have := h.1; split at this <;> omega
theorem cAt_some {l : List Tk} {i : Nat} {t : Tk} (h : l[i]? = some t) : cAt l i = codeOf t := by unfold cAt; rw [h]
theorem cAt_end {l : List Tk} {i : Nat} (h : l.length ≤ i) : cAt l i = ⟨#[]⟩ := by unfold cAt; rw [List.getElem?_eq_none h]
theorem inL_end {ws : List ByteArray} (h : ∀ s ∈ ws, goodW s = true) : inL ⟨#[]⟩ ws = false := by
 refine inL_no (fun hm => ?_)
 have := h _ hm
 revert this
 decide
theorem inL_split {c : ByteArray} {ws : List ByteArray} {j : Nat} {s : ByteArray} (hj : ws[j]? = some s) (h : inL c (ws.take j) = false) : inL c (ws.take (j + 1)) = decide (s = c) := by
 rw [List.take_add_one, hj]
 simp only [inL, Option.toList_some, List.any_append, List.any_cons, List.any_nil, Bool.or_false] at h ⊢
 rw [h, Bool.false_or]
theorem inL_pre {c : ByteArray} {ws : List ByteArray} {j : Nat} (h : inL c (ws.take j) = true) : inL c ws = true := by
 rw [inL_iff] at h ⊢
 exact List.mem_of_mem_take h
theorem word_facts {s : ByteArray} (h : goodW s = true) : (0 : Int) < (s.size : Int) ∧ 0 < s.size := by
 simp only [goodW, Bool.and_eq_true, decide_eq_true_eq] at h
 omega
end Go.Proofs.YtmjbpgnjgblnmaaGreat
namespace Go.Proofs.YtmjbpgnjgblnmaaGreat
open Go.RowKit Go.Proofs.YtmjbpgnjgblnmaaGreatW.PrintWords Go.Proofs.YtmjbpgnjgblnmaaGreatW.PrintLast Go.Proofs.YtmjbpgnjgblnmaaGreatW.PrintMore
theorem tkCells_one2 (t : Tk) : ∀ v ∈ ([.int .u8 t.f0, .string t.f1, .int .i64 t.f2.f0, .int .i64 t.f2.f1, .int .i64 t.f2.f2, .int .i64 t.f3] : List Value), v.oneCell' = true := by
 intro v hv; simp only [List.mem_cons, List.not_mem_nil, or_false] at hv; rcases hv with rfl | rfl | rfl | rfl | rfl | rfl <;> rfl
theorem str_ne {a b : ByteArray} (h : ¬ a = b) : (a.toList == b.toList) = false := by
 rw [beq_eq_false_iff_ne]
 intro e
 apply h
 have := congrArg List.toArray e
 have h2 : a.data = b.data := by simpa [ByteArray.toList_eq] using this
 cases a; cases b
 simpa using h2
theorem wrap_one {j n : Nat} (h : j < n) (hn : n ≤ 16) : (j : Int) < (n : Int) ∧ (0 : Int) ≤ (j : Int) ∧ wrap64 ((j : Int) + 1) = (j : Int) + 1 ∧ IntKind.i64.wrap ((j : Int) + 1) = (j : Int) + 1 := idx4 h (by omega)
set_option maxRecDepth 100000 in
set_option maxHeartbeats 8000000 in
theorem is_any {W0 : World} {A : Option Addr} {c : Nat} {l : List Tk} {w : World} {p : Nat} {i : Nat} {d : Int} {out : List Ev} {ve : Value} (H : SAt W0 A c l w p i d out ve) (A1 : Option Addr) (c1 : Nat) (ws : List ByteArray) (hC : Kd.C Kd.string w A1 ws.length ws) (hws : ∀ s ∈ ws, goodW s = true) (hl : ws.length ≤ 16) :
  Calls Tryz.prog 47 #[.pointer (some ⟨p, 0, none⟩), .slice A1 ws.length c1] w fun e w' => e = .returned (.bool (inL (cAt l i) ws)) ∧ Below w.heap.size w w' := by
 obtain ⟨q0, q1, q2, q3⟩ := H.cell
 by_cases hj : i < l.length
 ·obtain ⟨ad, hA, htc⟩ := tok_cells H.toks i hj
  have hg := rd_get l i hj
  obtain ⟨t, ht⟩ : ∃ t, PSyntaxEvents.rd_T28 l i = t := ⟨_, rfl⟩
  rw [ht] at htc hg
  rw [cAt_some hg]
  subst hA
  obtain ⟨c0, c1, c2, c3, c4, c5⟩ := htc w H.below
  obtain ⟨g1, g2, g3, g4⟩ := idx4 hj H.len
  have e1 : ((i : Int) == (l.length : Int)) = false := by rw [beq_eq_false_iff_ne]; omega
  have e2 : ¬ ((i : Int) = (l.length : Int)) := by omega
  have HWS := Lib.hid hws
  have HC := Lib.hid hC
  have HL := Lib.hid hl
  clear H ht hg htc hj hws hC hl
  go_enter Tryz.func47, Tryz.ntmps47
  go_wp2
  obtain ⟨Wd1, hWd⟩ : ∃ V, w.drew = V := ⟨_, rfl⟩
  have hbd : Below w.heap.size w Wd1 := by rw [← hWd]; exact (Below.refl _ w).drew
  have hSall : ∀ V, Below w.heap.size w V → V.cell? ⟨p, 0, none⟩ = some (.slice (some ad) l.length c) ∧ V.cell? ⟨p, 1, none⟩ = some (.int .i64 i) := fun V hV => ⟨pw_cell_below hV q0, pw_cell_below hV q1⟩
  have HSA := Lib.hid hSall
  have HS := Lib.hid (hSall Wd1 hbd)
  have HBD := Lib.hid hbd
  have HWd := Lib.hid hWd
  clear hSall hbd hWd
  refine wp_region_R (fun w' => w'.cell? ⟨p, 0, none⟩ = some (.slice (some ad) l.length c) ∧ w'.cell? ⟨p, 1, none⟩ = some (.int .i64 i)) (fun j => true) (by kernel_rfl) ?_
  rw [HWd.out]
  refine anyR_take (i := 0) (oi := ⟨some 9, .move (.tmp 0), 54, "syntax.go:67", #[], none⟩) (v := ?_) rfl (by kernel_rfl) (fun _ _ _ h => h) (Or.inl ⟨by rfl, ?_⟩) HS.out ?_
  rotate_left
  ·intro x h; (try dsimp only at h); go_simp; try (with_reducible rfl)
  try simp only [Act.put, List.setIfInBounds_toArray, List.set]
  refine anyR_take (i := 1) (oi := ⟨some 10, .nilCheck (.tmp 9), 0, "syntax.go:67", #[⟨0, .data⟩], none⟩) (v := ?_) rfl (by kernel_rfl) (fun _ _ _ h => h) (Or.inl ⟨by rfl, ?_⟩) HS.out ?_
  rotate_left
  ·intro x h; (try dsimp only at h); go_simp; try (with_reducible rfl)
  try simp only [Act.put, List.setIfInBounds_toArray, List.set]
  refine anyR_take (i := 2) (oi := ⟨some 11, .fieldAddr 56 (.tmp 10) 1, 0, "syntax.go:67", #[⟨1, .data⟩], none⟩) (v := ?_) rfl (by kernel_rfl) (fun _ _ _ h => h) (Or.inl ⟨by rfl, ?_⟩) HS.out ?_
  rotate_left
  ·intro x h; (try dsimp only at h); go_simp; try (with_reducible rfl)
  try simp only [Act.put, List.setIfInBounds_toArray, List.set]
  refine anyR_take (i := 3) (oi := ⟨some 12, .load 3 (.tmp 11), 3, "syntax.go:67", #[⟨2, .data⟩], none⟩) (v := ?_) rfl (by kernel_rfl) (fun _ _ _ h => h) (Or.inl ⟨by rfl, ?_⟩) HS.out ?_
  rotate_left
  ·intro x h; (try dsimp only at h); go_simp; try (with_reducible rfl)
  try simp only [Act.put, List.setIfInBounds_toArray, List.set]
  refine anyR_take (i := 4) (oi := ⟨some 13, .move (.tmp 0), 54, "syntax.go:67", #[], none⟩) (v := ?_) rfl (by kernel_rfl) (fun _ _ _ h => h) (Or.inl ⟨by rfl, ?_⟩) HS.out ?_
  rotate_left
  ·intro x h; (try dsimp only at h); go_simp; try (with_reducible rfl)
  try simp only [Act.put, List.setIfInBounds_toArray, List.set]
  refine anyR_take (i := 5) (oi := ⟨some 14, .nilCheck (.tmp 13), 0, "syntax.go:67", #[⟨4, .data⟩], none⟩) (v := ?_) rfl (by kernel_rfl) (fun _ _ _ h => h) (Or.inl ⟨by rfl, ?_⟩) HS.out ?_
  rotate_left
  ·intro x h; (try dsimp only at h); go_simp; try (with_reducible rfl)
  try simp only [Act.put, List.setIfInBounds_toArray, List.set]
  refine anyR_take (i := 6) (oi := ⟨some 15, .fieldAddr 56 (.tmp 14) 0, 0, "syntax.go:67", #[⟨5, .data⟩], none⟩) (v := ?_) rfl (by kernel_rfl) (fun _ _ _ h => h) (Or.inl ⟨by rfl, ?_⟩) HS.out ?_
  rotate_left
  ·intro x h; (try dsimp only at h); go_simp; try (with_reducible rfl)
  try simp only [Act.put, List.setIfInBounds_toArray, List.set]
  refine anyR_take (i := 7) (oi := ⟨some 16, .load 22 (.tmp 15), 22, "syntax.go:67", #[⟨6, .data⟩], none⟩) (v := ?_) rfl (by kernel_rfl) (fun _ _ _ h => h) (Or.inl ⟨by rfl, ?_⟩) HS.out ?_
  rotate_left
  ·intro x h; (try dsimp only at h); go_simp; try (with_reducible rfl)
  try simp only [Act.put, List.setIfInBounds_toArray, List.set]
  refine anyR_take (i := 8) (oi := ⟨some 17, .call { callee := .builtin .len, args := #[.tmp 16], argTypes := #[22] }, 3, "syntax.go:67", #[⟨7, .data⟩], none⟩) (v := ?_) rfl (by kernel_rfl) (fun _ _ _ h => h) (Or.inl ⟨by rfl, ?_⟩) HS.out ?_
  rotate_left
  ·intro x h; (try dsimp only at h); go_simp; try (with_reducible rfl)
  try simp only [Act.put, List.setIfInBounds_toArray, List.set]
  refine anyR_take (i := 9) (oi := ⟨some 18, .binOp .eql 3 (.tmp 12) (.tmp 17) 3, 4, "syntax.go:67", #[⟨3, .data⟩, ⟨8, .data⟩], none⟩) (v := ?_) rfl (by kernel_rfl) (fun _ _ _ h => h) (Or.inl ⟨by rfl, ?_⟩) HS.out ?_
  rotate_left
  ·intro x h; (try dsimp only at h); go_simp; try (with_reducible rfl)
  try simp only [Act.put, List.setIfInBounds_toArray, List.set]
  refine anyR_done (by kernel_rfl) ?_ _
  have HBW1 := Lib.hid HBD.out
  replace q0 := pw_cell_below HBW1.out q0
  replace q1 := pw_cell_below HBW1.out q1
  replace c0 := pw_cell_below HBW1.out c0
  replace c1 := pw_cell_below HBW1.out c1
  replace c2 := pw_cell_below HBW1.out c2
  replace c3 := pw_cell_below HBW1.out c3
  replace c4 := pw_cell_below HBW1.out c4
  replace c5 := pw_cell_below HBW1.out c5
  clear HS HSA HWd HBD
  go_upto_region 3 with (fail)
  obtain ⟨Wd2, hWd⟩ : ∃ V, Wd1.drew = V := ⟨_, rfl⟩
  have hbd : Below Wd1.heap.size Wd1 Wd2 := by rw [← hWd]; exact (Below.refl _ Wd1).drew
  have hSall : ∀ V, Below Wd1.heap.size Wd1 V → V.cell? ⟨p, 0, none⟩ = some (.slice (some ad) l.length c) ∧ V.cell? ⟨p, 1, none⟩ = some (.int .i64 i) ∧ V.cell? (ad.add (i * 6)) = some (.int .u8 t.f0) ∧ V.cell? ⟨(ad.add (i * 6)).block, (ad.add (i * 6)).off + 1, none⟩ = some (.string t.f1) ∧ V.cell? ⟨(ad.add (i * 6)).block, (ad.add (i * 6)).off + 2, none⟩ = some (.int .i64 t.f2.f0) ∧ V.cell? ⟨(ad.add (i * 6)).block, (ad.add (i * 6)).off + 3, none⟩ = some (.int .i64 t.f2.f1) ∧ V.cell? ⟨(ad.add (i * 6)).block, (ad.add (i * 6)).off + 4, none⟩ = some (.int .i64 t.f2.f2) ∧ V.cell? ⟨(ad.add (i * 6)).block, (ad.add (i * 6)).off + 5, none⟩ = some (.int .i64 t.f3) := fun V hV => ⟨pw_cell_below hV q0, pw_cell_below hV q1, pw_cell_below hV c0, pw_cell_below hV c1, pw_cell_below hV c2, pw_cell_below hV c3, pw_cell_below hV c4, pw_cell_below hV c5⟩
  have HSA := Lib.hid hSall
  have HS := Lib.hid (hSall Wd2 hbd)
  have HBD := Lib.hid hbd
  have HWd := Lib.hid hWd
  clear hSall hbd hWd
  refine wp_region_R (fun w' => w'.cell? ⟨p, 0, none⟩ = some (.slice (some ad) l.length c) ∧ w'.cell? ⟨p, 1, none⟩ = some (.int .i64 i) ∧ w'.cell? (ad.add (i * 6)) = some (.int .u8 t.f0) ∧ w'.cell? ⟨(ad.add (i * 6)).block, (ad.add (i * 6)).off + 1, none⟩ = some (.string t.f1) ∧ w'.cell? ⟨(ad.add (i * 6)).block, (ad.add (i * 6)).off + 2, none⟩ = some (.int .i64 t.f2.f0) ∧ w'.cell? ⟨(ad.add (i * 6)).block, (ad.add (i * 6)).off + 3, none⟩ = some (.int .i64 t.f2.f1) ∧ w'.cell? ⟨(ad.add (i * 6)).block, (ad.add (i * 6)).off + 4, none⟩ = some (.int .i64 t.f2.f2) ∧ w'.cell? ⟨(ad.add (i * 6)).block, (ad.add (i * 6)).off + 5, none⟩ = some (.int .i64 t.f3)) (fun j => !(Nat.beq j 11)) (by kernel_rfl) ?_
  rw [HWd.out]
  refine anyR_take (i := 0) (oi := ⟨some 19, .move (.tmp 0), 54, "syntax.go:70", #[], none⟩) (v := ?_) rfl (by kernel_rfl) (fun _ _ _ h => h) (Or.inl ⟨by rfl, ?_⟩) HS.out ?_
  rotate_left
  ·intro x h; (try dsimp only at h); go_simp; try (with_reducible rfl)
  try simp only [Act.put, List.setIfInBounds_toArray, List.set]
  refine anyR_take (i := 1) (oi := ⟨some 20, .nilCheck (.tmp 19), 0, "syntax.go:70", #[⟨0, .data⟩], none⟩) (v := ?_) rfl (by kernel_rfl) (fun _ _ _ h => h) (Or.inl ⟨by rfl, ?_⟩) HS.out ?_
  rotate_left
  ·intro x h; (try dsimp only at h); go_simp; try (with_reducible rfl)
  try simp only [Act.put, List.setIfInBounds_toArray, List.set]
  refine anyR_take (i := 2) (oi := ⟨some 21, .fieldAddr 56 (.tmp 20) 0, 0, "syntax.go:70", #[⟨1, .data⟩], none⟩) (v := ?_) rfl (by kernel_rfl) (fun _ _ _ h => h) (Or.inl ⟨by rfl, ?_⟩) HS.out ?_
  rotate_left
  ·intro x h; (try dsimp only at h); go_simp; try (with_reducible rfl)
  try simp only [Act.put, List.setIfInBounds_toArray, List.set]
  refine anyR_take (i := 3) (oi := ⟨some 22, .load 22 (.tmp 21), 22, "syntax.go:70", #[⟨2, .data⟩], none⟩) (v := ?_) rfl (by kernel_rfl) (fun _ _ _ h => h) (Or.inl ⟨by rfl, ?_⟩) HS.out ?_
  rotate_left
  ·intro x h; (try dsimp only at h); go_simp; try (with_reducible rfl)
  try simp only [Act.put, List.setIfInBounds_toArray, List.set]
  refine anyR_take (i := 4) (oi := ⟨some 23, .move (.tmp 0), 54, "syntax.go:70", #[], none⟩) (v := ?_) rfl (by kernel_rfl) (fun _ _ _ h => h) (Or.inl ⟨by rfl, ?_⟩) HS.out ?_
  rotate_left
  ·intro x h; (try dsimp only at h); go_simp; try (with_reducible rfl)
  try simp only [Act.put, List.setIfInBounds_toArray, List.set]
  refine anyR_take (i := 5) (oi := ⟨some 24, .nilCheck (.tmp 23), 0, "syntax.go:70", #[⟨4, .data⟩], none⟩) (v := ?_) rfl (by kernel_rfl) (fun _ _ _ h => h) (Or.inl ⟨by rfl, ?_⟩) HS.out ?_
  rotate_left
  ·intro x h; (try dsimp only at h); go_simp; try (with_reducible rfl)
  try simp only [Act.put, List.setIfInBounds_toArray, List.set]
  refine anyR_take (i := 6) (oi := ⟨some 25, .fieldAddr 56 (.tmp 24) 1, 0, "syntax.go:70", #[⟨5, .data⟩], none⟩) (v := ?_) rfl (by kernel_rfl) (fun _ _ _ h => h) (Or.inl ⟨by rfl, ?_⟩) HS.out ?_
  rotate_left
  ·intro x h; (try dsimp only at h); go_simp; try (with_reducible rfl)
  try simp only [Act.put, List.setIfInBounds_toArray, List.set]
  refine anyR_take (i := 7) (oi := ⟨some 26, .load 3 (.tmp 25), 3, "syntax.go:70", #[⟨6, .data⟩], none⟩) (v := ?_) rfl (by kernel_rfl) (fun _ _ _ h => h) (Or.inl ⟨by rfl, ?_⟩) HS.out ?_
  rotate_left
  ·intro x h; (try dsimp only at h); go_simp; try (with_reducible rfl)
  try simp only [Act.put, List.setIfInBounds_toArray, List.set]
  refine anyR_take (i := 8) (oi := ⟨some 27, .indexAddr 22 (.tmp 22) (.tmp 26), 0, "syntax.go:70", #[⟨3, .data⟩, ⟨7, .data⟩], none⟩) (v := ?_) rfl (by kernel_rfl) (fun _ _ _ h => h) (Or.inl ⟨by rfl, ?_⟩) HS.out ?_
  rotate_left
  ·intro x h; (try dsimp only at h); go_simp; try (with_reducible rfl)
  try simp only [Act.put, List.setIfInBounds_toArray, List.set]
  refine anyR_take (i := 9) (oi := ⟨some 28, .load 28 (.tmp 27), 28, "syntax.go:70", #[⟨8, .data⟩], none⟩) (v := ?_) rfl (by kernel_rfl) (fun _ _ _ h => h) (Or.inl ⟨by rfl, ?_⟩) HS.out ?_
  rotate_left
  ·intro x h; (try dsimp only at h); go_simp; try (with_reducible rfl)
  try simp only [Act.put, List.setIfInBounds_toArray, List.set]
  refine anyR_ready (rs := [10]) (by kernel_rfl) (by simp) ?_
  refine ReadyR.cons (o := ⟨some 5, .alloc 28, 0, "syntax.go:70", #[], none⟩) rfl (fun K hK => ?_) ReadyR.nil
  go_simp
  refine hK.out _ _ (fun _ => HSA.out _ (HBD.out.alloc HBD.out.size _)) ?_
  clear hK K
  obtain ⟨⟨cur, hcur, hfit⟩, hbx⟩ := box_new HBD.out 28 [Value.int .u8 0, .string ⟨#[]⟩, .int .i64 0, .int .i64 0, .int .i64 0, .int .i64 0] [.int .u8 t.f0, .string t.f1, .int .i64 t.f2.f0, .int .i64 t.f2.f1, .int .i64 t.f2.f2, .int .i64 t.f3] rfl
  have HCU := Lib.hid (And.intro hcur hfit)
  have HBX := Lib.hid hbx
  clear hcur hfit hbx
  try simp only [Act.put, List.setIfInBounds_toArray, List.set]
  refine anyR_ready (rs := [11]) (by kernel_rfl) (by simp) ?_
  refine ReadyR.cons (o := ⟨none, .store 28 (.tmp 5) (.tmp 28), 0, "syntax.go:70", #[⟨10, .data⟩, ⟨9, .data⟩, ⟨0, .phase⟩, ⟨1, .phase⟩, ⟨2, .phase⟩, ⟨3, .phase⟩, ⟨4, .phase⟩, ⟨5, .phase⟩, ⟨6, .phase⟩, ⟨7, .phase⟩, ⟨8, .phase⟩, ⟨9, .phase⟩, ⟨10, .phase⟩], none⟩) rfl (fun K hK => ?_) ReadyR.nil
  refine step_store rfl rfl 28 (.tmp 5) (.tmp 28) rfl (g := Wd2.heap.size) (off := 0) (.agg #[.int .u8 t.f0, .string t.f1, .int .i64 t.f2.f0, .int .i64 t.f2.f1, .int .i64 t.f2.f2, .int .i64 t.f3]) [.int .u8 t.f0, .string t.f1, .int .i64 t.f2.f0, .int .i64 t.f2.f1, .int .i64 t.f2.f2, .int .i64 t.f3] rfl rfl rfl (by kernel_rfl) (tkCells_one2 t) HCU.out.1 HCU.out.2 ?_
  have HN := Lib.hid (HBX.out _ rfl)
  refine hK.out _ _ (fun h => by cases h) ?_
  clear hK K HBX HCU HSA HS
  generalize (Wd2.alloc (.cells [Value.int .u8 0, .string ⟨#[]⟩, .int .i64 0, .int .i64 0, .int .i64 0, .int .i64 0].toArray 28)).setCells Wd2.heap.size 0 [.int .u8 t.f0, .string t.f1, .int .i64 t.f2.f0, .int .i64 t.f2.f1, .int .i64 t.f2.f2, .int .i64 t.f3] = V3 at HN ⊢
  try simp only [Act.put, List.setIfInBounds_toArray, List.set]
  refine anyR_done (by kernel_rfl) ?_ _
  have HBW := HBW1
  have hCV := Kd.C_below HC.out (HBW.out.trans (HN.out.1.mono HBW.out.size))
  have HCV := Lib.hid hCV
  have HBV := Lib.hid (HBW.out.trans (HN.out.1.mono HBW.out.size))
  obtain ⟨Bx, hBx⟩ : ∃ Bx, Wd2.heap.size = Bx := ⟨_, rfl⟩
  obtain ⟨b0, b1⟩ : V3.cell? ⟨Wd2.heap.size, 0, none⟩ = some (.int .u8 t.f0) ∧ V3.cell? ⟨Wd2.heap.size, 1, none⟩ = some (.string t.f1) := ⟨cell_of_row _ _ _ _ _ _ HN.out.2, cell_of_row _ _ _ _ _ _ HN.out.2⟩
  rw [hBx] at b0 b1 ⊢
  clear hBx hCV HN HBW HC q0 q1 q2 q3 c0 c1 c2 c3 c4 c5
  go_wp2
  go_loopw [31] (fun v31 wr => ∃ j : Nat, j ≤ ws.length ∧ v31 = .int .i64 j ∧ Hid (wr = V3 ∧ inL (codeOf t) (ws.take j) = false)) (fun v31 _ => ws.length - (intOf v31).toNat)
  case atStart => exact ⟨0, Nat.zero_le _, rfl, Lib.hid ⟨rfl, rfl⟩⟩
  case round =>
   obtain ⟨j, hjl, rfl, H⟩ := hrel
   have hwv := H.out.1
   subst hwv
   by_cases hlt : j < ws.length
   ·obtain ⟨k1, k2, k3, k4⟩ := wrap_one hlt HL.out
    obtain ⟨ad1, hA1, hs⟩ := Kd.at_string HCV.out (j : Int) k2 k1
    subst hA1
    have hsj : ws[j]? = some (rdOf ByteArray.empty ws j) := by
     have := List.getElem?_eq_getElem hlt
     rw [this]
     simp [rdOf, this]
    obtain ⟨s, hse⟩ : ∃ s, rdOf ByteArray.empty ws (j : Int) = s := ⟨_, rfl⟩
    rw [hse] at hs hsj
    simp only [Int.toNat_natCast] at hs
    have hgw := HWS.out s (List.mem_of_getElem? hsj)
    obtain ⟨z1, z2⟩ := word_facts hgw
    have hbt : ((s[0]'z2).toNat : Int) = bt s 0 := bt_at s 0 z2
    have hcw := code_word hgw t
    have hsp := inL_split hsj H.out.2
    have HSP := Lib.hid hsp
    obtain ⟨kd, hkd⟩ : ∃ kd : Int, (if lowW s then (2 : Int) else 6) = kd := ⟨_, rfl⟩
    rw [hkd] at hcw
    have HCW := Lib.hid hcw
    have HSJ := Lib.hid hsj
    clear hgw hcw hsp hsj hse H
    by_cases l1 : 97 ≤ bt s 0
    ·have l1b : decide (97 ≤ bt s 0) = true := decide_eq_true l1
     by_cases l2 : bt s 0 ≤ 122
     ·have l2b : decide (bt s 0 ≤ 122) = true := decide_eq_true l2
      obtain rfl : kd = 2 := by rw [← hkd]; simp [lowW, l1, l2]
      by_cases m1 : t.f0 = 2
      ·have n1 : (t.f0 == 2) = true := by rw [beq_iff_eq]; exact m1
       by_cases m2 : t.f1 = s
       ·have n2 : (t.f1.toList == s.toList) = true := by rw [m2]; exact beq_self_eq_true _
        have hin : inL (codeOf t) ws = true := inL_pre (j := j + 1) (by rw [HSP.out]; exact decide_eq_true (HCW.out.1 ⟨m1, m2⟩).symm)
        have HIN := Lib.hid hin
        clear hin m1 m2
        go_wp2
        go_ret
        exact ⟨by rw [HIN.out]; rfl, HBV.out⟩
       ·have n2 : (t.f1.toList == s.toList) = false := str_ne m2
        have HNO : Hid (inL (codeOf t) (ws.take (j + 1)) = false) := Lib.hid (by rw [HSP.out]; exact decide_eq_false (fun e => m2 (HCW.out.2 e.symm).2))
        clear m1 m2
        go_wp2
        go_roundw
        case rel => exact ⟨j + 1, by omega, by go_num, Lib.hid ⟨by trivial, HNO.out⟩⟩
        case measure => simp [intOf] <;> omega
      ·have n1 : (t.f0 == 2) = false := by rw [beq_eq_false_iff_ne]; exact m1
       have HNO : Hid (inL (codeOf t) (ws.take (j + 1)) = false) := Lib.hid (by rw [HSP.out]; exact decide_eq_false (fun e => m1 (HCW.out.2 e.symm).1))
       clear m1
       go_wp2
       go_roundw
       case rel => exact ⟨j + 1, by omega, by go_num, Lib.hid ⟨by trivial, HNO.out⟩⟩
       case measure => simp [intOf] <;> omega
     ·have l2b : decide (bt s 0 ≤ 122) = false := decide_eq_false l2
      obtain rfl : kd = 6 := by rw [← hkd]; simp [lowW, l1, l2]
      by_cases m1 : t.f0 = 6
      ·have n1 : (t.f0 == 6) = true := by rw [beq_iff_eq]; exact m1
       by_cases m2 : t.f1 = s
       ·have n2 : (t.f1.toList == s.toList) = true := by rw [m2]; exact beq_self_eq_true _
        have hin : inL (codeOf t) ws = true := inL_pre (j := j + 1) (by rw [HSP.out]; exact decide_eq_true (HCW.out.1 ⟨m1, m2⟩).symm)
        have HIN := Lib.hid hin
        clear hin m1 m2
        go_wp2
        go_ret
        exact ⟨by rw [HIN.out]; rfl, HBV.out⟩
       ·have n2 : (t.f1.toList == s.toList) = false := str_ne m2
        have HNO : Hid (inL (codeOf t) (ws.take (j + 1)) = false) := Lib.hid (by rw [HSP.out]; exact decide_eq_false (fun e => m2 (HCW.out.2 e.symm).2))
        clear m1 m2
        go_wp2
        go_roundw
        case rel => exact ⟨j + 1, by omega, by go_num, Lib.hid ⟨by trivial, HNO.out⟩⟩
        case measure => simp [intOf] <;> omega
      ·have n1 : (t.f0 == 6) = false := by rw [beq_eq_false_iff_ne]; exact m1
       have HNO : Hid (inL (codeOf t) (ws.take (j + 1)) = false) := Lib.hid (by rw [HSP.out]; exact decide_eq_false (fun e => m1 (HCW.out.2 e.symm).1))
       clear m1
       go_wp2
       go_roundw
       case rel => exact ⟨j + 1, by omega, by go_num, Lib.hid ⟨by trivial, HNO.out⟩⟩
       case measure => simp [intOf] <;> omega
    ·have l1b : decide (97 ≤ bt s 0) = false := decide_eq_false l1
     obtain rfl : kd = 6 := by rw [← hkd]; simp [lowW, l1]
     by_cases m1 : t.f0 = 6
     ·have n1 : (t.f0 == 6) = true := by rw [beq_iff_eq]; exact m1
      by_cases m2 : t.f1 = s
      ·have n2 : (t.f1.toList == s.toList) = true := by rw [m2]; exact beq_self_eq_true _
       have hin : inL (codeOf t) ws = true := inL_pre (j := j + 1) (by rw [HSP.out]; exact decide_eq_true (HCW.out.1 ⟨m1, m2⟩).symm)
       have HIN := Lib.hid hin
       clear hin m1 m2
       go_wp2
       go_ret
       exact ⟨by rw [HIN.out]; rfl, HBV.out⟩
      ·have n2 : (t.f1.toList == s.toList) = false := str_ne m2
       have HNO : Hid (inL (codeOf t) (ws.take (j + 1)) = false) := Lib.hid (by rw [HSP.out]; exact decide_eq_false (fun e => m2 (HCW.out.2 e.symm).2))
       clear m1 m2
       go_wp2
       go_roundw
       case rel => exact ⟨j + 1, by omega, by go_num, Lib.hid ⟨by trivial, HNO.out⟩⟩
       case measure => simp [intOf] <;> omega
     ·have n1 : (t.f0 == 6) = false := by rw [beq_eq_false_iff_ne]; exact m1
      have HNO : Hid (inL (codeOf t) (ws.take (j + 1)) = false) := Lib.hid (by rw [HSP.out]; exact decide_eq_false (fun e => m1 (HCW.out.2 e.symm).1))
      clear m1
      go_wp2
      go_roundw
      case rel => exact ⟨j + 1, by omega, by go_num, Lib.hid ⟨by trivial, HNO.out⟩⟩
      case measure => simp [intOf] <;> omega
   ·obtain rfl : j = ws.length := by omega
    have hfin := H.out.2
    rw [List.take_length] at hfin
    have g9 : ¬ ((ws.length : Int) < (ws.length : Int)) := by omega
    have HBB := Lib.hid HBV.out
    have HFI := Lib.hid hfin
    clear H hfin
    go_wp2
    go_ret
    exact ⟨by rw [HFI.out]; rfl, HBB.out⟩
 ·obtain rfl : i = l.length := by have := H.ile; omega
  rw [cAt_end (Nat.le_refl _), inL_end hws]
  clear H hws hC hl
  go_enter Tryz.func47, Tryz.ntmps47
  go_wp2
  obtain ⟨Wd1, hWd⟩ : ∃ V, w.drew = V := ⟨_, rfl⟩
  have hbd : Below w.heap.size w Wd1 := by rw [← hWd]; exact (Below.refl _ w).drew
  have hSall : ∀ V, Below w.heap.size w V → V.cell? ⟨p, 0, none⟩ = some (.slice (A) l.length c) ∧ V.cell? ⟨p, 1, none⟩ = some (.int .i64 l.length) := fun V hV => ⟨pw_cell_below hV q0, pw_cell_below hV q1⟩
  have HSA := Lib.hid hSall
  have HS := Lib.hid (hSall Wd1 hbd)
  have HBD := Lib.hid hbd
  have HWd := Lib.hid hWd
  clear hSall hbd hWd
  refine wp_region_R (fun w' => w'.cell? ⟨p, 0, none⟩ = some (.slice (A) l.length c) ∧ w'.cell? ⟨p, 1, none⟩ = some (.int .i64 l.length)) (fun j => true) (by kernel_rfl) ?_
  rw [HWd.out]
  refine anyR_take (i := 0) (oi := ⟨some 9, .move (.tmp 0), 54, "syntax.go:67", #[], none⟩) (v := ?_) rfl (by kernel_rfl) (fun _ _ _ h => h) (Or.inl ⟨by rfl, ?_⟩) HS.out ?_
  rotate_left
  ·intro x h; (try dsimp only at h); go_simp; try (with_reducible rfl)
  try simp only [Act.put, List.setIfInBounds_toArray, List.set]
  refine anyR_take (i := 1) (oi := ⟨some 10, .nilCheck (.tmp 9), 0, "syntax.go:67", #[⟨0, .data⟩], none⟩) (v := ?_) rfl (by kernel_rfl) (fun _ _ _ h => h) (Or.inl ⟨by rfl, ?_⟩) HS.out ?_
  rotate_left
  ·intro x h; (try dsimp only at h); go_simp; try (with_reducible rfl)
  try simp only [Act.put, List.setIfInBounds_toArray, List.set]
  refine anyR_take (i := 2) (oi := ⟨some 11, .fieldAddr 56 (.tmp 10) 1, 0, "syntax.go:67", #[⟨1, .data⟩], none⟩) (v := ?_) rfl (by kernel_rfl) (fun _ _ _ h => h) (Or.inl ⟨by rfl, ?_⟩) HS.out ?_
  rotate_left
  ·intro x h; (try dsimp only at h); go_simp; try (with_reducible rfl)
  try simp only [Act.put, List.setIfInBounds_toArray, List.set]
  refine anyR_take (i := 3) (oi := ⟨some 12, .load 3 (.tmp 11), 3, "syntax.go:67", #[⟨2, .data⟩], none⟩) (v := ?_) rfl (by kernel_rfl) (fun _ _ _ h => h) (Or.inl ⟨by rfl, ?_⟩) HS.out ?_
  rotate_left
  ·intro x h; (try dsimp only at h); go_simp; try (with_reducible rfl)
  try simp only [Act.put, List.setIfInBounds_toArray, List.set]
  refine anyR_take (i := 4) (oi := ⟨some 13, .move (.tmp 0), 54, "syntax.go:67", #[], none⟩) (v := ?_) rfl (by kernel_rfl) (fun _ _ _ h => h) (Or.inl ⟨by rfl, ?_⟩) HS.out ?_
  rotate_left
  ·intro x h; (try dsimp only at h); go_simp; try (with_reducible rfl)
  try simp only [Act.put, List.setIfInBounds_toArray, List.set]
  refine anyR_take (i := 5) (oi := ⟨some 14, .nilCheck (.tmp 13), 0, "syntax.go:67", #[⟨4, .data⟩], none⟩) (v := ?_) rfl (by kernel_rfl) (fun _ _ _ h => h) (Or.inl ⟨by rfl, ?_⟩) HS.out ?_
  rotate_left
  ·intro x h; (try dsimp only at h); go_simp; try (with_reducible rfl)
  try simp only [Act.put, List.setIfInBounds_toArray, List.set]
  refine anyR_take (i := 6) (oi := ⟨some 15, .fieldAddr 56 (.tmp 14) 0, 0, "syntax.go:67", #[⟨5, .data⟩], none⟩) (v := ?_) rfl (by kernel_rfl) (fun _ _ _ h => h) (Or.inl ⟨by rfl, ?_⟩) HS.out ?_
  rotate_left
  ·intro x h; (try dsimp only at h); go_simp; try (with_reducible rfl)
  try simp only [Act.put, List.setIfInBounds_toArray, List.set]
  refine anyR_take (i := 7) (oi := ⟨some 16, .load 22 (.tmp 15), 22, "syntax.go:67", #[⟨6, .data⟩], none⟩) (v := ?_) rfl (by kernel_rfl) (fun _ _ _ h => h) (Or.inl ⟨by rfl, ?_⟩) HS.out ?_
  rotate_left
  ·intro x h; (try dsimp only at h); go_simp; try (with_reducible rfl)
  try simp only [Act.put, List.setIfInBounds_toArray, List.set]
  refine anyR_take (i := 8) (oi := ⟨some 17, .call { callee := .builtin .len, args := #[.tmp 16], argTypes := #[22] }, 3, "syntax.go:67", #[⟨7, .data⟩], none⟩) (v := ?_) rfl (by kernel_rfl) (fun _ _ _ h => h) (Or.inl ⟨by rfl, ?_⟩) HS.out ?_
  rotate_left
  ·intro x h; (try dsimp only at h); go_simp; try (with_reducible rfl)
  try simp only [Act.put, List.setIfInBounds_toArray, List.set]
  refine anyR_take (i := 9) (oi := ⟨some 18, .binOp .eql 3 (.tmp 12) (.tmp 17) 3, 4, "syntax.go:67", #[⟨3, .data⟩, ⟨8, .data⟩], none⟩) (v := ?_) rfl (by kernel_rfl) (fun _ _ _ h => h) (Or.inl ⟨by rfl, ?_⟩) HS.out ?_
  rotate_left
  ·intro x h; (try dsimp only at h); go_simp; try (with_reducible rfl)
  try simp only [Act.put, List.setIfInBounds_toArray, List.set]
  refine anyR_done (by kernel_rfl) ?_ _
  go_wp2
  go_ret
  exact ⟨rfl, HBD.out⟩
end Go.Proofs.YtmjbpgnjgblnmaaGreat
namespace Go.Proofs.YtmjbpgnjgblnmaaGreat
open Go.RowKit Go.Proofs.YtmjbpgnjgblnmaaGreatW.PrintWords Go.Proofs.YtmjbpgnjgblnmaaGreatW.PrintLast Go.Proofs.YtmjbpgnjgblnmaaGreatW.PrintMore
def ofL (l : List Tk) (i : Nat) (ks : List Int) : Bool := match l[i]? with
 | some t => ks.any (fun k => t.f0 == k)
 | none => false
theorem any_split {ks : List Int} {f : Int → Bool} {j : Nat} {k : Int} (hj : ks[j]? = some k) (h : (ks.take j).any f = false) : (ks.take (j + 1)).any f = f k := by
 rw [List.take_add_one, hj]
 simp only [Option.toList_some, List.any_append, List.any_cons, List.any_nil, Bool.or_false]
 rw [h, Bool.false_or]
theorem any_pre {ks : List Int} {f : Int → Bool} {j : Nat} (h : (ks.take j).any f = true) : ks.any f = true := by
 rw [List.any_eq_true] at h ⊢
 obtain ⟨x, h1, h2⟩ := h
 exact ⟨x, List.mem_of_mem_take h1, h2⟩
set_option maxRecDepth 100000 in
set_option maxHeartbeats 8000000 in
theorem of_any {W0 : World} {A : Option Addr} {c : Nat} {l : List Tk} {w : World} {p : Nat} {i : Nat} {d : Int} {out : List Ev} {ve : Value} (H : SAt W0 A c l w p i d out ve) (A1 : Option Addr) (c1 : Nat) (ks : List Int) (hC : Kd.C (Kd.int .u8) w A1 ks.length ks) (hl : ks.length ≤ 16) :
  Calls Tryz.prog 48 #[.pointer (some ⟨p, 0, none⟩), .slice A1 ks.length c1] w fun e w' => e = .returned (.bool (ofL l i ks)) ∧ Below w.heap.size w w' := by
 have HH := Lib.hid H
 have HC := Lib.hid hC
 have HL := Lib.hid hl
 clear H hC hl
 go_enter Tryz.func48, Tryz.ntmps48
 go_wp2
 by_cases hj : i < l.length
 ·obtain ⟨ad, hA, htc⟩ := tok_cells HH.out.toks i hj
  have hg := rd_get l i hj
  obtain ⟨t, ht⟩ : ∃ t, PSyntaxEvents.rd_T28 l i = t := ⟨_, rfl⟩
  rw [ht] at htc hg
  subst hA
  obtain ⟨g1, g2, g3, g4⟩ := idx4 hj HH.out.len
  have hof : ofL l i ks = ks.any (fun k => t.f0 == k) := by unfold ofL; rw [hg]
  have HOF := Lib.hid hof
  have HTC := Lib.hid htc
  clear ht hg htc hof
  go_loopw [9] (fun v9 wr => ∃ j : Nat, j ≤ ks.length ∧ v9 = .int .i64 j ∧ Hid (Below w.heap.size w wr ∧ (ks.take j).any (fun k => t.f0 == k) = false)) (fun v9 _ => ks.length - (intOf v9).toNat)
  case atStart => exact ⟨0, Nat.zero_le _, rfl, Lib.hid ⟨Below.refl _ _, rfl⟩⟩
  case round =>
   obtain ⟨j, hjl, rfl, H⟩ := hrel
   by_cases hlt : j < ks.length
   ·obtain ⟨k1, k2, k3, k4⟩ := wrap_one hlt HL.out
    obtain ⟨ad1, hA1, hs⟩ := Kd.at_int (Kd.C_below HC.out H.out.1) (j : Int) k2 k1
    subst hA1
    have hsj : ks[j]? = some (rd ks j) := by
     have := List.getElem?_eq_getElem hlt
     rw [this]
     simp [rd, this]
    obtain ⟨s, hse⟩ : ∃ s, rd ks (j : Int) = s := ⟨_, rfl⟩
    rw [hse] at hs hsj
    simp only [Int.toNat_natCast] at hs
    have hsp := any_split hsj H.out.2
    obtain ⟨q0, q1, q2, q3⟩ := (HH.out.moved H.out.1).cell
    obtain ⟨c0, c1', c2, c3, c4, c5⟩ := HTC.out wr (HH.out.below.trans (H.out.1.mono HH.out.below.size))
    clear c1' c2 c3 c4 c5 hse
    have HSP := Lib.hid hsp
    have HBW := Lib.hid H.out.1
    clear hsp H
    obtain ⟨m, hm⟩ : ∃ m, (t.f0 == s) = m := ⟨_, rfl⟩
    rw [hm] at HSP
    go_wp2
    obtain ⟨Wd1, hWd⟩ : ∃ V, wr.drew = V := ⟨_, rfl⟩
    have hbd : Below wr.heap.size wr Wd1 := by rw [← hWd]; exact (Below.refl _ wr).drew
    have hSall : ∀ V, Below wr.heap.size wr V → V.cell? ⟨p, 0, none⟩ = some (.slice (some ad) l.length c) ∧ V.cell? ⟨p, 1, none⟩ = some (.int .i64 i) ∧ V.cell? (ad.add (i * 6)) = some (.int .u8 t.f0) := fun V hV => ⟨pw_cell_below hV q0, pw_cell_below hV q1, pw_cell_below hV c0⟩
    have HSA := Lib.hid hSall
    have HS := Lib.hid (hSall Wd1 hbd)
    have HBD := Lib.hid hbd
    have HWd := Lib.hid hWd
    clear hSall hbd hWd
    refine wp_region_R (fun w' => w'.cell? ⟨p, 0, none⟩ = some (.slice (some ad) l.length c) ∧ w'.cell? ⟨p, 1, none⟩ = some (.int .i64 i) ∧ w'.cell? (ad.add (i * 6)) = some (.int .u8 t.f0)) (fun j => true) (by kernel_rfl) ?_
    rw [HWd.out]
    refine anyR_take (i := 0) (oi := ⟨some 13, .move (.tmp 0), 54, "syntax.go:86", #[], none⟩) (v := ?_) rfl (by kernel_rfl) (fun _ _ _ h => h) (Or.inl ⟨by rfl, ?_⟩) HS.out ?_
    rotate_left
    ·intro x h; (try dsimp only at h); go_simp; try (with_reducible rfl)
    try simp only [Act.put, List.setIfInBounds_toArray, List.set]
    refine anyR_take (i := 1) (oi := ⟨some 14, .nilCheck (.tmp 13), 0, "syntax.go:86", #[⟨0, .data⟩], none⟩) (v := ?_) rfl (by kernel_rfl) (fun _ _ _ h => h) (Or.inl ⟨by rfl, ?_⟩) HS.out ?_
    rotate_left
    ·intro x h; (try dsimp only at h); go_simp; try (with_reducible rfl)
    try simp only [Act.put, List.setIfInBounds_toArray, List.set]
    refine anyR_take (i := 2) (oi := ⟨some 15, .fieldAddr 56 (.tmp 14) 1, 0, "syntax.go:86", #[⟨1, .data⟩], none⟩) (v := ?_) rfl (by kernel_rfl) (fun _ _ _ h => h) (Or.inl ⟨by rfl, ?_⟩) HS.out ?_
    rotate_left
    ·intro x h; (try dsimp only at h); go_simp; try (with_reducible rfl)
    try simp only [Act.put, List.setIfInBounds_toArray, List.set]
    refine anyR_take (i := 3) (oi := ⟨some 16, .load 3 (.tmp 15), 3, "syntax.go:86", #[⟨2, .data⟩], none⟩) (v := ?_) rfl (by kernel_rfl) (fun _ _ _ h => h) (Or.inl ⟨by rfl, ?_⟩) HS.out ?_
    rotate_left
    ·intro x h; (try dsimp only at h); go_simp; try (with_reducible rfl)
    try simp only [Act.put, List.setIfInBounds_toArray, List.set]
    refine anyR_take (i := 4) (oi := ⟨some 17, .move (.tmp 0), 54, "syntax.go:86", #[], none⟩) (v := ?_) rfl (by kernel_rfl) (fun _ _ _ h => h) (Or.inl ⟨by rfl, ?_⟩) HS.out ?_
    rotate_left
    ·intro x h; (try dsimp only at h); go_simp; try (with_reducible rfl)
    try simp only [Act.put, List.setIfInBounds_toArray, List.set]
    refine anyR_take (i := 5) (oi := ⟨some 18, .nilCheck (.tmp 17), 0, "syntax.go:86", #[⟨4, .data⟩], none⟩) (v := ?_) rfl (by kernel_rfl) (fun _ _ _ h => h) (Or.inl ⟨by rfl, ?_⟩) HS.out ?_
    rotate_left
    ·intro x h; (try dsimp only at h); go_simp; try (with_reducible rfl)
    try simp only [Act.put, List.setIfInBounds_toArray, List.set]
    refine anyR_take (i := 6) (oi := ⟨some 19, .fieldAddr 56 (.tmp 18) 0, 0, "syntax.go:86", #[⟨5, .data⟩], none⟩) (v := ?_) rfl (by kernel_rfl) (fun _ _ _ h => h) (Or.inl ⟨by rfl, ?_⟩) HS.out ?_
    rotate_left
    ·intro x h; (try dsimp only at h); go_simp; try (with_reducible rfl)
    try simp only [Act.put, List.setIfInBounds_toArray, List.set]
    refine anyR_take (i := 7) (oi := ⟨some 20, .load 22 (.tmp 19), 22, "syntax.go:86", #[⟨6, .data⟩], none⟩) (v := ?_) rfl (by kernel_rfl) (fun _ _ _ h => h) (Or.inl ⟨by rfl, ?_⟩) HS.out ?_
    rotate_left
    ·intro x h; (try dsimp only at h); go_simp; try (with_reducible rfl)
    try simp only [Act.put, List.setIfInBounds_toArray, List.set]
    refine anyR_take (i := 8) (oi := ⟨some 21, .call { callee := .builtin .len, args := #[.tmp 20], argTypes := #[22] }, 3, "syntax.go:86", #[⟨7, .data⟩], none⟩) (v := ?_) rfl (by kernel_rfl) (fun _ _ _ h => h) (Or.inl ⟨by rfl, ?_⟩) HS.out ?_
    rotate_left
    ·intro x h; (try dsimp only at h); go_simp; try (with_reducible rfl)
    try simp only [Act.put, List.setIfInBounds_toArray, List.set]
    refine anyR_take (i := 9) (oi := ⟨some 22, .binOp .lss 3 (.tmp 16) (.tmp 21) 3, 4, "syntax.go:86", #[⟨3, .data⟩, ⟨8, .data⟩], none⟩) (v := ?_) rfl (by kernel_rfl) (fun _ _ _ h => h) (Or.inl ⟨by rfl, ?_⟩) HS.out ?_
    rotate_left
    ·intro x h; (try dsimp only at h); go_simp; try (with_reducible rfl)
    try simp only [Act.put, List.setIfInBounds_toArray, List.set]
    refine anyR_take (i := 10) (oi := ⟨some 23, .move (.tmp 22), 4, "syntax.go:86", #[⟨9, .data⟩], none⟩) (v := ?_) rfl (by kernel_rfl) (fun _ _ _ h => h) (Or.inl ⟨by rfl, ?_⟩) HS.out ?_
    rotate_left
    ·intro x h; (try dsimp only at h); go_simp; try (with_reducible rfl)
    try simp only [Act.put, List.setIfInBounds_toArray, List.set]
    refine anyR_take (i := 11) (oi := ⟨some 24, .move (.tmp 0), 54, "syntax.go:86", #[⟨10, .guard⟩], some (10, true)⟩) (v := ?_) rfl (by kernel_rfl) (fun _ _ _ h => h) (Or.inl ⟨by rfl, ?_⟩) HS.out ?_
    rotate_left
    ·intro x h; (try dsimp only at h); go_simp; try (with_reducible rfl)
    try simp only [Act.put, List.setIfInBounds_toArray, List.set]
    refine anyR_take (i := 12) (oi := ⟨some 25, .nilCheck (.tmp 24), 0, "syntax.go:86", #[⟨11, .data⟩, ⟨10, .guard⟩], some (10, true)⟩) (v := ?_) rfl (by kernel_rfl) (fun _ _ _ h => h) (Or.inl ⟨by rfl, ?_⟩) HS.out ?_
    rotate_left
    ·intro x h; (try dsimp only at h); go_simp; try (with_reducible rfl)
    try simp only [Act.put, List.setIfInBounds_toArray, List.set]
    refine anyR_take (i := 13) (oi := ⟨some 26, .fieldAddr 56 (.tmp 25) 0, 0, "syntax.go:86", #[⟨12, .data⟩, ⟨10, .guard⟩], some (10, true)⟩) (v := ?_) rfl (by kernel_rfl) (fun _ _ _ h => h) (Or.inl ⟨by rfl, ?_⟩) HS.out ?_
    rotate_left
    ·intro x h; (try dsimp only at h); go_simp; try (with_reducible rfl)
    try simp only [Act.put, List.setIfInBounds_toArray, List.set]
    refine anyR_take (i := 14) (oi := ⟨some 27, .load 22 (.tmp 26), 22, "syntax.go:86", #[⟨13, .data⟩, ⟨10, .guard⟩], some (10, true)⟩) (v := ?_) rfl (by kernel_rfl) (fun _ _ _ h => h) (Or.inl ⟨by rfl, ?_⟩) HS.out ?_
    rotate_left
    ·intro x h; (try dsimp only at h); go_simp; try (with_reducible rfl)
    try simp only [Act.put, List.setIfInBounds_toArray, List.set]
    refine anyR_take (i := 15) (oi := ⟨some 28, .move (.tmp 0), 54, "syntax.go:86", #[⟨10, .guard⟩], some (10, true)⟩) (v := ?_) rfl (by kernel_rfl) (fun _ _ _ h => h) (Or.inl ⟨by rfl, ?_⟩) HS.out ?_
    rotate_left
    ·intro x h; (try dsimp only at h); go_simp; try (with_reducible rfl)
    try simp only [Act.put, List.setIfInBounds_toArray, List.set]
    refine anyR_take (i := 16) (oi := ⟨some 29, .nilCheck (.tmp 28), 0, "syntax.go:86", #[⟨15, .data⟩, ⟨10, .guard⟩], some (10, true)⟩) (v := ?_) rfl (by kernel_rfl) (fun _ _ _ h => h) (Or.inl ⟨by rfl, ?_⟩) HS.out ?_
    rotate_left
    ·intro x h; (try dsimp only at h); go_simp; try (with_reducible rfl)
    try simp only [Act.put, List.setIfInBounds_toArray, List.set]
    refine anyR_take (i := 17) (oi := ⟨some 30, .fieldAddr 56 (.tmp 29) 1, 0, "syntax.go:86", #[⟨16, .data⟩, ⟨10, .guard⟩], some (10, true)⟩) (v := ?_) rfl (by kernel_rfl) (fun _ _ _ h => h) (Or.inl ⟨by rfl, ?_⟩) HS.out ?_
    rotate_left
    ·intro x h; (try dsimp only at h); go_simp; try (with_reducible rfl)
    try simp only [Act.put, List.setIfInBounds_toArray, List.set]
    refine anyR_take (i := 18) (oi := ⟨some 31, .load 3 (.tmp 30), 3, "syntax.go:86", #[⟨17, .data⟩, ⟨10, .guard⟩], some (10, true)⟩) (v := ?_) rfl (by kernel_rfl) (fun _ _ _ h => h) (Or.inl ⟨by rfl, ?_⟩) HS.out ?_
    rotate_left
    ·intro x h; (try dsimp only at h); go_simp; try (with_reducible rfl)
    try simp only [Act.put, List.setIfInBounds_toArray, List.set]
    refine anyR_take (i := 19) (oi := ⟨some 32, .indexAddr 22 (.tmp 27) (.tmp 31), 0, "syntax.go:86", #[⟨14, .data⟩, ⟨18, .data⟩, ⟨10, .guard⟩], some (10, true)⟩) (v := ?_) rfl (by kernel_rfl) (fun _ _ _ h => h) (Or.inl ⟨by rfl, ?_⟩) HS.out ?_
    rotate_left
    ·intro x h; (try dsimp only at h); go_simp; try (with_reducible rfl)
    try simp only [Act.put, List.setIfInBounds_toArray, List.set]
    refine anyR_take (i := 20) (oi := ⟨some 33, .fieldAddr 28 (.tmp 32) 0, 0, "syntax.go:86", #[⟨19, .data⟩, ⟨10, .guard⟩], some (10, true)⟩) (v := ?_) rfl (by kernel_rfl) (fun _ _ _ h => h) (Or.inl ⟨by rfl, ?_⟩) HS.out ?_
    rotate_left
    ·intro x h; (try dsimp only at h); go_simp; try (with_reducible rfl)
    try simp only [Act.put, List.setIfInBounds_toArray, List.set]
    refine anyR_take (i := 21) (oi := ⟨some 34, .load 24 (.tmp 33), 24, "syntax.go:86", #[⟨20, .data⟩, ⟨10, .guard⟩], some (10, true)⟩) (v := ?_) rfl (by kernel_rfl) (fun _ _ _ h => h) (Or.inl ⟨by rfl, ?_⟩) HS.out ?_
    rotate_left
    ·intro x h; (try dsimp only at h); go_simp; try (with_reducible rfl)
    try simp only [Act.put, List.setIfInBounds_toArray, List.set]
    refine anyR_take (i := 22) (oi := ⟨some 35, .move (.tmp 6), 24, "syntax.go:86", #[⟨10, .guard⟩], some (10, true)⟩) (v := ?_) rfl (by kernel_rfl) (fun _ _ _ h => h) (Or.inl ⟨by rfl, ?_⟩) HS.out ?_
    rotate_left
    ·intro x h; (try dsimp only at h); go_simp; try (with_reducible rfl)
    try simp only [Act.put, List.setIfInBounds_toArray, List.set]
    refine anyR_take (i := 23) (oi := ⟨some 36, .binOp .eql 24 (.tmp 34) (.tmp 35) 24, 4, "syntax.go:86", #[⟨21, .data⟩, ⟨22, .data⟩, ⟨10, .guard⟩], some (10, true)⟩) (v := ?_) rfl (by kernel_rfl) (fun _ _ _ h => h) (Or.inl ⟨by rfl, ?_⟩) HS.out ?_
    rotate_left
    ·intro x h; (try dsimp only at h); go_simp; try (with_reducible rfl)
    try simp only [Act.put, List.setIfInBounds_toArray, List.set]
    refine anyR_take (i := 24) (oi := ⟨some 37, .pick (.tmp 23) (.tmp 36) (.const (.bool false)), 4, "syntax.go:86", #[⟨10, .data⟩, ⟨23, .data⟩], none⟩) (v := ?_) rfl (by kernel_rfl) (fun _ _ _ h => h) (Or.inl ⟨by rfl, ?_⟩) HS.out ?_
    rotate_left
    ·intro x h; (try dsimp only at h); go_simp; try (with_reducible rfl)
    try simp only [Act.put, List.setIfInBounds_toArray, List.set]
    refine anyR_done (by kernel_rfl) ?_ _
    cases m with
    | true =>
     have HIN : Hid (ks.any (fun k => t.f0 == k) = true) := Lib.hid (any_pre (j := j + 1) HSP.out)
     go_wp2
     go_ret
     exact ⟨by rw [HOF.out, HIN.out]; rfl, HBW.out.trans (HBD.out.mono HBW.out.size)⟩
    | false =>
     go_wp2
     go_roundw
     case rel => exact ⟨j + 1, by omega, by go_num, Lib.hid ⟨HBW.out.trans (HBD.out.mono HBW.out.size), HSP.out⟩⟩
     case measure => simp [intOf] <;> omega
   ·obtain rfl : j = ks.length := by omega
    have hfin := H.out.2
    rw [List.take_length] at hfin
    have g9 : ¬ ((ks.length : Int) < (ks.length : Int)) := by omega
    have HBB := Lib.hid H.out.1
    have HFI := Lib.hid hfin
    clear H hfin
    go_wp2
    go_ret
    exact ⟨by rw [HOF.out, HFI.out]; rfl, HBB.out⟩
 ·obtain rfl : i = l.length := by have := HH.out.ile; omega
  have hof : ofL l l.length ks = false := by unfold ofL; rw [List.getElem?_eq_none (Nat.le_refl _)]
  have HOF := Lib.hid hof
  have g9 : ¬ ((l.length : Int) < (l.length : Int)) := by omega
  clear hof
  go_loopw [9] (fun v9 wr => ∃ j : Nat, j ≤ ks.length ∧ v9 = .int .i64 j ∧ Hid (Below w.heap.size w wr)) (fun v9 _ => ks.length - (intOf v9).toNat)
  case atStart => exact ⟨0, Nat.zero_le _, rfl, Lib.hid (Below.refl _ _)⟩
  case round =>
   obtain ⟨j, hjl, rfl, H⟩ := hrel
   by_cases hlt : j < ks.length
   ·obtain ⟨k1, k2, k3, k4⟩ := wrap_one hlt HL.out
    obtain ⟨ad1, hA1, hs⟩ := Kd.at_int (Kd.C_below HC.out H.out) (j : Int) k2 k1
    subst hA1
    obtain ⟨s, hse⟩ : ∃ s, rd ks (j : Int) = s := ⟨_, rfl⟩
    rw [hse] at hs
    simp only [Int.toNat_natCast] at hs
    obtain ⟨q0, q1, q2, q3⟩ := (HH.out.moved H.out).cell
    have HBW := H
    clear H hse
    go_wp2
    obtain ⟨Wd1, hWd⟩ : ∃ V, wr.drew = V := ⟨_, rfl⟩
    have hbd : Below wr.heap.size wr Wd1 := by rw [← hWd]; exact (Below.refl _ wr).drew
    have hSall : ∀ V, Below wr.heap.size wr V → V.cell? ⟨p, 0, none⟩ = some (.slice (A) l.length c) ∧ V.cell? ⟨p, 1, none⟩ = some (.int .i64 l.length) := fun V hV => ⟨pw_cell_below hV q0, pw_cell_below hV q1⟩
    have HSA := Lib.hid hSall
    have HS := Lib.hid (hSall Wd1 hbd)
    have HBD := Lib.hid hbd
    have HWd := Lib.hid hWd
    clear hSall hbd hWd
    refine wp_region_R (fun w' => w'.cell? ⟨p, 0, none⟩ = some (.slice (A) l.length c) ∧ w'.cell? ⟨p, 1, none⟩ = some (.int .i64 l.length)) (fun j => true) (by kernel_rfl) ?_
    rw [HWd.out]
    refine anyR_take (i := 0) (oi := ⟨some 13, .move (.tmp 0), 54, "syntax.go:86", #[], none⟩) (v := ?_) rfl (by kernel_rfl) (fun _ _ _ h => h) (Or.inl ⟨by rfl, ?_⟩) HS.out ?_
    rotate_left
    ·intro x h; (try dsimp only at h); go_simp; try (with_reducible rfl)
    try simp only [Act.put, List.setIfInBounds_toArray, List.set]
    refine anyR_take (i := 1) (oi := ⟨some 14, .nilCheck (.tmp 13), 0, "syntax.go:86", #[⟨0, .data⟩], none⟩) (v := ?_) rfl (by kernel_rfl) (fun _ _ _ h => h) (Or.inl ⟨by rfl, ?_⟩) HS.out ?_
    rotate_left
    ·intro x h; (try dsimp only at h); go_simp; try (with_reducible rfl)
    try simp only [Act.put, List.setIfInBounds_toArray, List.set]
    refine anyR_take (i := 2) (oi := ⟨some 15, .fieldAddr 56 (.tmp 14) 1, 0, "syntax.go:86", #[⟨1, .data⟩], none⟩) (v := ?_) rfl (by kernel_rfl) (fun _ _ _ h => h) (Or.inl ⟨by rfl, ?_⟩) HS.out ?_
    rotate_left
    ·intro x h; (try dsimp only at h); go_simp; try (with_reducible rfl)
    try simp only [Act.put, List.setIfInBounds_toArray, List.set]
    refine anyR_take (i := 3) (oi := ⟨some 16, .load 3 (.tmp 15), 3, "syntax.go:86", #[⟨2, .data⟩], none⟩) (v := ?_) rfl (by kernel_rfl) (fun _ _ _ h => h) (Or.inl ⟨by rfl, ?_⟩) HS.out ?_
    rotate_left
    ·intro x h; (try dsimp only at h); go_simp; try (with_reducible rfl)
    try simp only [Act.put, List.setIfInBounds_toArray, List.set]
    refine anyR_take (i := 4) (oi := ⟨some 17, .move (.tmp 0), 54, "syntax.go:86", #[], none⟩) (v := ?_) rfl (by kernel_rfl) (fun _ _ _ h => h) (Or.inl ⟨by rfl, ?_⟩) HS.out ?_
    rotate_left
    ·intro x h; (try dsimp only at h); go_simp; try (with_reducible rfl)
    try simp only [Act.put, List.setIfInBounds_toArray, List.set]
    refine anyR_take (i := 5) (oi := ⟨some 18, .nilCheck (.tmp 17), 0, "syntax.go:86", #[⟨4, .data⟩], none⟩) (v := ?_) rfl (by kernel_rfl) (fun _ _ _ h => h) (Or.inl ⟨by rfl, ?_⟩) HS.out ?_
    rotate_left
    ·intro x h; (try dsimp only at h); go_simp; try (with_reducible rfl)
    try simp only [Act.put, List.setIfInBounds_toArray, List.set]
    refine anyR_take (i := 6) (oi := ⟨some 19, .fieldAddr 56 (.tmp 18) 0, 0, "syntax.go:86", #[⟨5, .data⟩], none⟩) (v := ?_) rfl (by kernel_rfl) (fun _ _ _ h => h) (Or.inl ⟨by rfl, ?_⟩) HS.out ?_
    rotate_left
    ·intro x h; (try dsimp only at h); go_simp; try (with_reducible rfl)
    try simp only [Act.put, List.setIfInBounds_toArray, List.set]
    refine anyR_take (i := 7) (oi := ⟨some 20, .load 22 (.tmp 19), 22, "syntax.go:86", #[⟨6, .data⟩], none⟩) (v := ?_) rfl (by kernel_rfl) (fun _ _ _ h => h) (Or.inl ⟨by rfl, ?_⟩) HS.out ?_
    rotate_left
    ·intro x h; (try dsimp only at h); go_simp; try (with_reducible rfl)
    try simp only [Act.put, List.setIfInBounds_toArray, List.set]
    refine anyR_take (i := 8) (oi := ⟨some 21, .call { callee := .builtin .len, args := #[.tmp 20], argTypes := #[22] }, 3, "syntax.go:86", #[⟨7, .data⟩], none⟩) (v := ?_) rfl (by kernel_rfl) (fun _ _ _ h => h) (Or.inl ⟨by rfl, ?_⟩) HS.out ?_
    rotate_left
    ·intro x h; (try dsimp only at h); go_simp; try (with_reducible rfl)
    try simp only [Act.put, List.setIfInBounds_toArray, List.set]
    refine anyR_take (i := 9) (oi := ⟨some 22, .binOp .lss 3 (.tmp 16) (.tmp 21) 3, 4, "syntax.go:86", #[⟨3, .data⟩, ⟨8, .data⟩], none⟩) (v := ?_) rfl (by kernel_rfl) (fun _ _ _ h => h) (Or.inl ⟨by rfl, ?_⟩) HS.out ?_
    rotate_left
    ·intro x h; (try dsimp only at h); go_simp; try (with_reducible rfl)
    try simp only [Act.put, List.setIfInBounds_toArray, List.set]
    refine anyR_take (i := 10) (oi := ⟨some 23, .move (.tmp 22), 4, "syntax.go:86", #[⟨9, .data⟩], none⟩) (v := ?_) rfl (by kernel_rfl) (fun _ _ _ h => h) (Or.inl ⟨by rfl, ?_⟩) HS.out ?_
    rotate_left
    ·intro x h; (try dsimp only at h); go_simp; try (with_reducible rfl)
    try simp only [Act.put, List.setIfInBounds_toArray, List.set]
    refine anyR_take (i := 11) (oi := ⟨some 24, .move (.tmp 0), 54, "syntax.go:86", #[⟨10, .guard⟩], some (10, true)⟩) (v := _) rfl (by kernel_rfl) (fun _ _ _ h => h) (Or.inr ⟨by rfl, rfl⟩) HS.out ?_
    try simp only [Act.put, List.setIfInBounds_toArray, List.set]
    refine anyR_take (i := 12) (oi := ⟨some 25, .nilCheck (.tmp 24), 0, "syntax.go:86", #[⟨11, .data⟩, ⟨10, .guard⟩], some (10, true)⟩) (v := _) rfl (by kernel_rfl) (fun _ _ _ h => h) (Or.inr ⟨by rfl, rfl⟩) HS.out ?_
    try simp only [Act.put, List.setIfInBounds_toArray, List.set]
    refine anyR_take (i := 13) (oi := ⟨some 26, .fieldAddr 56 (.tmp 25) 0, 0, "syntax.go:86", #[⟨12, .data⟩, ⟨10, .guard⟩], some (10, true)⟩) (v := _) rfl (by kernel_rfl) (fun _ _ _ h => h) (Or.inr ⟨by rfl, rfl⟩) HS.out ?_
    try simp only [Act.put, List.setIfInBounds_toArray, List.set]
    refine anyR_take (i := 14) (oi := ⟨some 27, .load 22 (.tmp 26), 22, "syntax.go:86", #[⟨13, .data⟩, ⟨10, .guard⟩], some (10, true)⟩) (v := _) rfl (by kernel_rfl) (fun _ _ _ h => h) (Or.inr ⟨by rfl, rfl⟩) HS.out ?_
    try simp only [Act.put, List.setIfInBounds_toArray, List.set]
    refine anyR_take (i := 15) (oi := ⟨some 28, .move (.tmp 0), 54, "syntax.go:86", #[⟨10, .guard⟩], some (10, true)⟩) (v := _) rfl (by kernel_rfl) (fun _ _ _ h => h) (Or.inr ⟨by rfl, rfl⟩) HS.out ?_
    try simp only [Act.put, List.setIfInBounds_toArray, List.set]
    refine anyR_take (i := 16) (oi := ⟨some 29, .nilCheck (.tmp 28), 0, "syntax.go:86", #[⟨15, .data⟩, ⟨10, .guard⟩], some (10, true)⟩) (v := _) rfl (by kernel_rfl) (fun _ _ _ h => h) (Or.inr ⟨by rfl, rfl⟩) HS.out ?_
    try simp only [Act.put, List.setIfInBounds_toArray, List.set]
    refine anyR_take (i := 17) (oi := ⟨some 30, .fieldAddr 56 (.tmp 29) 1, 0, "syntax.go:86", #[⟨16, .data⟩, ⟨10, .guard⟩], some (10, true)⟩) (v := _) rfl (by kernel_rfl) (fun _ _ _ h => h) (Or.inr ⟨by rfl, rfl⟩) HS.out ?_
    try simp only [Act.put, List.setIfInBounds_toArray, List.set]
    refine anyR_take (i := 18) (oi := ⟨some 31, .load 3 (.tmp 30), 3, "syntax.go:86", #[⟨17, .data⟩, ⟨10, .guard⟩], some (10, true)⟩) (v := _) rfl (by kernel_rfl) (fun _ _ _ h => h) (Or.inr ⟨by rfl, rfl⟩) HS.out ?_
    try simp only [Act.put, List.setIfInBounds_toArray, List.set]
    refine anyR_take (i := 19) (oi := ⟨some 32, .indexAddr 22 (.tmp 27) (.tmp 31), 0, "syntax.go:86", #[⟨14, .data⟩, ⟨18, .data⟩, ⟨10, .guard⟩], some (10, true)⟩) (v := _) rfl (by kernel_rfl) (fun _ _ _ h => h) (Or.inr ⟨by rfl, rfl⟩) HS.out ?_
    try simp only [Act.put, List.setIfInBounds_toArray, List.set]
    refine anyR_take (i := 20) (oi := ⟨some 33, .fieldAddr 28 (.tmp 32) 0, 0, "syntax.go:86", #[⟨19, .data⟩, ⟨10, .guard⟩], some (10, true)⟩) (v := _) rfl (by kernel_rfl) (fun _ _ _ h => h) (Or.inr ⟨by rfl, rfl⟩) HS.out ?_
    try simp only [Act.put, List.setIfInBounds_toArray, List.set]
    refine anyR_take (i := 21) (oi := ⟨some 34, .load 24 (.tmp 33), 24, "syntax.go:86", #[⟨20, .data⟩, ⟨10, .guard⟩], some (10, true)⟩) (v := _) rfl (by kernel_rfl) (fun _ _ _ h => h) (Or.inr ⟨by rfl, rfl⟩) HS.out ?_
    try simp only [Act.put, List.setIfInBounds_toArray, List.set]
    refine anyR_take (i := 22) (oi := ⟨some 35, .move (.tmp 6), 24, "syntax.go:86", #[⟨10, .guard⟩], some (10, true)⟩) (v := _) rfl (by kernel_rfl) (fun _ _ _ h => h) (Or.inr ⟨by rfl, rfl⟩) HS.out ?_
    try simp only [Act.put, List.setIfInBounds_toArray, List.set]
    refine anyR_take (i := 23) (oi := ⟨some 36, .binOp .eql 24 (.tmp 34) (.tmp 35) 24, 4, "syntax.go:86", #[⟨21, .data⟩, ⟨22, .data⟩, ⟨10, .guard⟩], some (10, true)⟩) (v := _) rfl (by kernel_rfl) (fun _ _ _ h => h) (Or.inr ⟨by rfl, rfl⟩) HS.out ?_
    try simp only [Act.put, List.setIfInBounds_toArray, List.set]
    refine anyR_take (i := 24) (oi := ⟨some 37, .pick (.tmp 23) (.tmp 36) (.const (.bool false)), 4, "syntax.go:86", #[⟨10, .data⟩, ⟨23, .data⟩], none⟩) (v := ?_) rfl (by kernel_rfl) (fun _ _ _ h => h) (Or.inl ⟨by rfl, ?_⟩) HS.out ?_
    rotate_left
    ·intro x h; (try dsimp only at h); go_simp; try (with_reducible rfl)
    try simp only [Act.put, List.setIfInBounds_toArray, List.set]
    refine anyR_done (by kernel_rfl) ?_ _
    go_wp2
    go_roundw
    case rel => exact ⟨j + 1, by omega, by go_num, Lib.hid (HBW.out.trans (HBD.out.mono HBW.out.size))⟩
    case measure => simp [intOf] <;> omega
   ·obtain rfl : j = ks.length := by omega
    have g8 : ¬ ((ks.length : Int) < (ks.length : Int)) := by omega
    have HBB := H
    clear H
    go_wp2
    go_ret
    exact ⟨by rw [HOF.out]; rfl, HBB.out⟩
end Go.Proofs.YtmjbpgnjgblnmaaGreat
namespace Go.Proofs.YtmjbpgnjgblnmaaGreat
open Go.RowKit Go.Proofs.YtmjbpgnjgblnmaaGreatW.PrintWords Go.Proofs.YtmjbpgnjgblnmaaGreatW.PrintLast Go.Proofs.YtmjbpgnjgblnmaaGreatW.PrintMore
def SPost (W0 : World) (A : Option Addr) (c : Nat) (l : List Tk) (p : Nat) (ve : Value) (w : World) (r : SRes) (e : Ending) (w' : World) : Prop :=
 match r with
 | .ok i' d' out' => e = .returned (.tuple #[]) ∧ ∃ ve', SAt W0 A c l w' p i' d' out' ve' ∧ MStep p ve w ve' w'
 | .err er i' => e = giveUp er i' ∧ ∃ ve', MStep p ve w ve' w'
theorem SPost.pre {W0 : World} {A : Option Addr} {c : Nat} {l : List Tk} {p : Nat} {ve ve1 : Value} {w w1 w' : World} {r : SRes} {e : Ending} (h : SPost W0 A c l p ve1 w1 r e w') (hs : MStep p ve w ve1 w1) : SPost W0 A c l p ve w r e w' := by
 cases r with
 | ok i' d' out' =>
  obtain ⟨h1, ve', h2, h3⟩ := h
  exact ⟨h1, ve', h2, hs.trans h3⟩
 | err er i' =>
  obtain ⟨h1, ve', h3⟩ := h
  exact ⟨h1, ve', hs.trans h3⟩
def BodyOK (W0 : World) (A : Option Addr) (c : Nat) (l : List Tk) (p : Nat) (ve : Value) (w : World) (N : Nat) (F : FuncId) (av : Array Value) (T : List WT) : Prop :=
 ∀ n, n ≤ N → ∀ (w1 : World) (i1 : Nat) (d1 : Int) (out1 : List Ev) (ve1 : Value) (r : SRes), MStep p ve w ve1 w1 → SAt W0 A c l w1 p i1 d1 out1 ve1 → srun l n ⟨T, i1, d1, out1⟩ = some r → Calls Tryz.prog F av w1 (SPost W0 A c l p ve1 w1 r)
theorem BodyOK.later {W0 : World} {A : Option Addr} {c : Nat} {l : List Tk} {p : Nat} {ve ve1 : Value} {w w1 : World} {N : Nat} {F : FuncId} {av : Array Value} {T : List WT} (h : BodyOK W0 A c l p ve w N F av T) (hs : MStep p ve w ve1 w1) : BodyOK W0 A c l p ve1 w1 N F av T :=
 fun n hn w2 i2 d2 out2 ve2 r h2 => h n hn w2 i2 d2 out2 ve2 r (hs.trans h2)
def Good (l : List Tk) (N : Nat) (F : FuncId) (T : List WT) : Prop :=
 ∀ n, n ≤ N → ∀ (W0 : World) (A : Option Addr) (c : Nat) (w : World) (p i : Nat) (d : Int) (out : List Ev) (ve : Value) (r : SRes), SAt W0 A c l w p i d out ve → srun l n ⟨T, i, d, out⟩ = some r → Calls Tryz.prog F #[.pointer (some ⟨p, 0, none⟩)] w (SPost W0 A c l p ve w r)
def GoodC (l : List Tk) (N : Nat) (F : FuncId) (T : List WT) : Prop :=
 ∀ n, n ≤ N → ∀ (W0 : World) (A : Option Addr) (c : Nat) (w : World) (p g i : Nat) (d : Int) (out : List Ev) (ve : Value) (r : SRes), SAt W0 A c l w p i d out ve → w.heap[g]? = some (.cells #[.pointer (some ⟨p, 0, none⟩)] 54 (0, 0)) → srun l n ⟨T, i, d, out⟩ = some r → Calls Tryz.prog F #[.pointer (some ⟨g, 0, none⟩)] w (SPost W0 A c l p ve w r)
theorem Good.body {W0 : World} {A : Option Addr} {c : Nat} {l : List Tk} {p : Nat} {ve : Value} {w : World} {N : Nat} {F : FuncId} {T : List WT} (h : Good l N F T) : BodyOK W0 A c l p ve w N F #[.pointer (some ⟨p, 0, none⟩)] T :=
 fun n hn w1 i1 d1 out1 ve1 r _ h2 h3 => h n hn W0 A c w1 p i1 d1 out1 ve1 r h2 h3
theorem GoodC.body {W0 : World} {A : Option Addr} {c : Nat} {l : List Tk} {p g i : Nat} {d : Int} {out : List Ev} {ve : Value} {w : World} {N : Nat} {F : FuncId} {T : List WT} (h : GoodC l N F T) (H : SAt W0 A c l w p i d out ve) (hg : w.heap[g]? = some (.cells #[.pointer (some ⟨p, 0, none⟩)] 54 (0, 0))) : BodyOK W0 A c l p ve w N F #[.pointer (some ⟨g, 0, none⟩)] T :=
 fun n hn w1 i1 d1 out1 ve1 r hs h2 h3 => h n hn W0 A c w1 p g i1 d1 out1 ve1 r h2 (mkeep hs H hg (by decide) (by decide)) h3
theorem strs_C (W : World) (l : List ByteArray) (n : Nat) (cs : List Value) (hn : l.length = n) (hcs : l.map Value.string = cs) (hl : n ≤ 16) : Kd.C Kd.string (W.alloc (.cells cs.toArray 9)) (some ⟨W.heap.size, 0, none⟩) l.length l := by
 subst hn; subst hcs
 have hrow : (W.alloc (.cells (l.map Value.string).toArray 9)).ownsRow 0 9 1 (.slice (some ⟨W.heap.size, 0, none⟩) l.length l.length) l.length (l.map Value.string) :=
  ⟨by simp, .inr ⟨W.heap.size, l.length, (l.map Value.string).toArray, rfl, Nat.zero_le _, World.alloc_heap_new _ _, Nat.le_refl _, by simp only [maxLen]; omega, by simp, by simp [List.take_of_length_le]⟩⟩
 obtain ⟨A, c1, hv, hr⟩ := own_reads_row (size := 1) hrow (reps_str _ l) rfl
 injection hv with h1 h2 h3
 subst h1
 exact hr
theorem reps_u8 (w : World) : ∀ l : List Int, Reps ((Kd.int .u8).K w) 1 l (l.map (Value.int .u8))
 | [] => Reps.none _ _
 | x :: l => by
  have := Reps.one (show (Kd.int .u8).K w x [.int .u8 x] from rfl) (reps_u8 w l)
  simpa using this
theorem kinds_C (W : World) (l : List Int) (n : Nat) (cs : List Value) (hn : l.length = n) (hcs : l.map (Value.int .u8) = cs) (hl : n ≤ 16) : Kd.C (Kd.int .u8) (W.alloc (.cells cs.toArray 24)) (some ⟨W.heap.size, 0, none⟩) l.length l := by
 subst hn; subst hcs
 have hrow : (W.alloc (.cells (l.map (Value.int .u8)).toArray 24)).ownsRow 0 24 1 (.slice (some ⟨W.heap.size, 0, none⟩) l.length l.length) l.length (l.map (Value.int .u8)) :=
  ⟨by simp, .inr ⟨W.heap.size, l.length, (l.map (Value.int .u8)).toArray, rfl, Nat.zero_le _, World.alloc_heap_new _ _, Nat.le_refl _, by simp only [maxLen]; omega, by simp, by simp [List.take_of_length_le]⟩⟩
 obtain ⟨A, c1, hv, hr⟩ := own_reads_row (size := 1) hrow (reps_u8 _ l) rfl
 injection hv with h1 h2 h3
 subst h1
 exact hr
section
variable {W0 : World} {A : Option Addr} {c : Nat} {l : List Tk} {w W : World} {p : Nat} {i : Nat} {d : Int} {out : List Ev} {ve : Value}
theorem is_new (H : SAt W0 A c l W p i d out ve) (ws : List ByteArray) (n : Nat) (cs : List Value) (hn : ws.length = n) (hcs : ws.map Value.string = cs) (hl : n ≤ 16) (hws : ws.all goodW = true) :
  Calls Tryz.prog 47 #[.pointer (some ⟨p, 0, none⟩), .slice (some ⟨W.heap.size, 0, none⟩) n n] (W.alloc (.cells cs.toArray 9)) fun e w' => e = .returned (.bool (inL (cAt l i) ws)) ∧ Below W.heap.size W w' := by
 have hb : Below W.heap.size W (W.alloc (.cells cs.toArray 9)) := (Below.refl _ W).alloc (Nat.le_refl _) _
 have hC := strs_C W ws n cs hn hcs hl
 subst hn
 refine (is_any (H.moved hb) _ _ ws hC (List.all_eq_true.1 hws) hl).mono ?_
 rintro e w' ⟨he, h2⟩
 exact ⟨he, hb.trans (h2.mono hb.size)⟩
theorem of_new (H : SAt W0 A c l W p i d out ve) (ks : List Int) (n : Nat) (cs : List Value) (hn : ks.length = n) (hcs : ks.map (Value.int .u8) = cs) (hl : n ≤ 16) :
  Calls Tryz.prog 48 #[.pointer (some ⟨p, 0, none⟩), .slice (some ⟨W.heap.size, 0, none⟩) n n] (W.alloc (.cells cs.toArray 24)) fun e w' => e = .returned (.bool (ofL l i ks)) ∧ Below W.heap.size W w' := by
 have hb : Below W.heap.size W (W.alloc (.cells cs.toArray 24)) := (Below.refl _ W).alloc (Nat.le_refl _) _
 have hC := kinds_C W ks n cs hn hcs hl
 subst hn
 refine (of_any (H.moved hb) _ _ ks hC hl).mono ?_
 rintro e w' ⟨he, h2⟩
 exact ⟨he, hb.trans (h2.mono hb.size)⟩
theorem take_word (H : SAt W0 A c l w p i d out ve) (x : ByteArray) (S : List WT) {m : Bool} (hm : (∃ t, l[i]? = some t ∧ codeOf t = x) ↔ m = true) {n : Nat} {r : SRes} (hr : srun l n ⟨[.word x], i, d, out⟩ = some r) :
  Calls Tryz.prog 46 #[.pointer (some ⟨p, 0, none⟩), .bool m] w (SPost W0 A c l p ve w r) := by
 have hlen := (srun_len hr).1
 cases hg : l[i]? with
 | none =>
  obtain ⟨_, rfl⟩ := srun_fin hr (q := .err 121 i) (by simp [sstep, hg])
  have hm0 : m = false := by
   cases m
   ·rfl
   ·obtain ⟨t, h1, _⟩ := hm.2 rfl
    rw [hg] at h1; cases h1
  subst hm0
  have hi : i = l.length := by
   have h1 := H.ile
   have h2 := List.getElem?_eq_none_iff.1 hg
   omega
  have h := take_no H
  rw [if_pos hi] at h
  refine h.mono ?_
  rintro e w' ⟨he, hb⟩
  exact ⟨he, ve, PStep.below hb⟩
 | some t =>
  have hi : i < l.length := (List.getElem?_eq_some_iff.1 hg).1
  by_cases hx : codeOf t = x
  ·have hm1 : m = true := hm.1 ⟨t, hg, hx⟩
   subst hm1
   by_cases hd : 1000 < d
   ·obtain ⟨_, rfl⟩ := srun_fin hr (q := .err 122 i) (by simp [sstep, hg, hx, hd])
    refine (take_deep H hd).mono ?_
    rintro e w' ⟨he, hb⟩
    exact ⟨he, ve, PStep.below hb⟩
   ·obtain ⟨_, n', rfl, hr2⟩ := srun_on hr (s' := ⟨[], i + 1 + (nAt l (i + 1)).length, d, out ++ [leafE t] ++ (nAt l (i + 1)).map noteE⟩) (by simp [sstep, hg, hx, hd])
    obtain ⟨_, rfl⟩ := srun_fin hr2 (q := .ok (i + 1 + (nAt l (i + 1)).length) d (out ++ [leafE t] ++ (nAt l (i + 1)).map noteE)) rfl
    exact take_yes H hg hd hlen
  ·obtain ⟨_, rfl⟩ := srun_fin hr (q := .err 120 i) (by simp [sstep, hg, hx])
   have hm0 : m = false := by
    cases m
    ·rfl
    ·obtain ⟨t2, h1, h2⟩ := hm.2 rfl
     rw [hg] at h1; cases h1
     exact absurd h2 hx
   subst hm0
   have h := take_no H
   rw [if_neg (by omega)] at h
   refine h.mono ?_
   rintro e w' ⟨he, hb⟩
   exact ⟨he, ve, PStep.below hb⟩
theorem code_name (t : Tk) : (t.f0 == 1) = true ↔ codeOf t = ⟨#[64, 110, 97, 109, 101]⟩ := by
 rw [beq_iff_eq]
 constructor
 ·intro h
  unfold codeOf PSyntaxEvents.parse_code.f
  rw [if_pos h]
  rfl
 ·intro h
  have hn : ∀ x : ByteArray, ¬ bt x 0 = 64 → ¬ x = ⟨#[64, 110, 97, 109, 101]⟩ := fun x hx e => hx (by rw [e]; decide)
  rcases Decidable.em (t.f0 = 1) with h1 | h1
  ·exact h1
  ·exfalso
   unfold codeOf PSyntaxEvents.parse_code.f at h
   rw [if_neg h1] at h
   repeat' split at h
   all_goals first
    | (simp only [Option.getD_some] at h; exact absurd h (by decide))
    | (simp only [Option.getD_some] at h; exact hn _ (by omega) h)
    | (simp only [Option.getD_none] at h; exact absurd h (by decide))
end
end Go.Proofs.YtmjbpgnjgblnmaaGreat
namespace Go.Proofs.YtmjbpgnjgblnmaaGreat
open Go.RowKit Go.Proofs.YtmjbpgnjgblnmaaGreatW.PrintWords Go.Proofs.YtmjbpgnjgblnmaaGreatW.PrintLast Go.Proofs.YtmjbpgnjgblnmaaGreatW.PrintMore
theorem name_of (l : List Tk) (i : Nat) : (∃ t, l[i]? = some t ∧ codeOf t = ⟨#[64, 110, 97, 109, 101]⟩) ↔ ofL l i [1] = true := by
 unfold ofL
 cases h : l[i]? with
 | none => simp
 | some t =>
  have := code_name t
  simp only [Option.some.injEq, exists_eq_left', List.any_cons, List.any_nil, Bool.or_false]
  exact this.symm
theorem word_in {l : List Tk} {i : Nat} {s : ByteArray} (hs : goodW s = true) : (∃ t, l[i]? = some t ∧ codeOf t = s) ↔ inL (cAt l i) [s] = true := by
 unfold cAt
 cases h : l[i]? with
 | none =>
  simp only [reduceCtorEq, false_and, exists_false, false_iff, Bool.not_eq_true]
  exact inL_end (fun x hx => by rw [List.mem_singleton.1 hx]; exact hs)
 | some t =>
  simp only [Option.some.injEq, exists_eq_left']
  rw [inL_iff, List.mem_singleton]
set_option maxRecDepth 100000 in
set_option maxHeartbeats 4000000 in
theorem name_any (l : List Tk) (N : Nat) : Good l N 37 [.word ⟨#[64, 110, 97, 109, 101]⟩] := by
 intro n hn W0 A c w p i d out ve r H hr
 have HOF := Lib.hid (of_new H [1] 1 [.int .u8 1] rfl rfl (by decide))
 have HTK := Lib.hid (fun (w1 : World) (hb : Below w.heap.size w w1) => take_word (H.moved hb) ⟨#[64, 110, 97, 109, 101]⟩ [] (name_of l i) hr)
 clear H hr
 show Calls Tryz.prog 37 _ w _
 obtain ⟨m, hm⟩ : ∃ m, ofL l i [1] = m := ⟨_, rfl⟩
 rw [hm] at HOF HTK
 clear hm
 cases r with
 | ok i2 d2 out2 =>
  go_enter Tryz.func37, Tryz.ntmps37
  go_wp2_with (first
   | (go_at_call 48; (with_reducible refine Calls.mono HOF.out ?_); rintro e w1 ⟨rfl, hb⟩; have HB1 := Lib.hid hb; clear hb)
   | (go_at_call 46; (with_reducible refine Calls.mono (HTK.out _ HB1.out) ?_); rintro e w2 ⟨rfl, ve2, h2, h3⟩; have HP2 := Lib.hid h2; have HS2 := Lib.hid ((PStep.below HB1.out : MStep p ve w ve w1).trans h3); clear h2 h3))
  go_end0
  exact ⟨rfl, ve2, HP2.out, HS2.out⟩
 | err er i2 =>
  go_enter Tryz.func37, Tryz.ntmps37
  go_wp2_with (first
   | (go_at_call 48; (with_reducible refine Calls.mono HOF.out ?_); rintro e w1 ⟨rfl, hb⟩; have HB1 := Lib.hid hb; clear hb)
   | (go_at_call 46; (with_reducible refine Calls.mono (HTK.out _ HB1.out) ?_); rintro e w2 ⟨rfl, ve2, h3⟩; have HS2 := Lib.hid ((PStep.below HB1.out : MStep p ve w ve w1).trans h3); clear h3))
  exact ⟨rfl, rfl, ve2, HS2.out⟩
def StrAt (w : World) (g : Nat) (ws : List ByteArray) : Prop := w.heap[g]? = some (.cells (ws.map Value.string).toArray 9 (0, 0))
theorem StrAt.C {w : World} {g : Nat} {ws : List ByteArray} (h : StrAt w g ws) (hl : ws.length ≤ 16) : Kd.C Kd.string w (some ⟨g, 0, none⟩) ws.length ws := by
 have hrow : w.ownsRow 0 9 1 (.slice (some ⟨g, 0, none⟩) ws.length ws.length) ws.length (ws.map Value.string) :=
  ⟨by simp, .inr ⟨g, ws.length, (ws.map Value.string).toArray, rfl, Nat.zero_le _, h, Nat.le_refl _, by simp only [maxLen]; omega, by simp, by simp [List.take_of_length_le]⟩⟩
 obtain ⟨A, c1, hv, hr⟩ := own_reads_row (size := 1) hrow (reps_str _ ws) rfl
 injection hv with h1 h2 h3
 subst h1
 exact hr
theorem StrAt.cell {w : World} {g : Nat} {ws : List ByteArray} (h : StrAt w g ws) {j : Nat} {s : ByteArray} (hj : ws[j]? = some s) : w.cell? ⟨g, j, none⟩ = some (.string s) := by
 rw [cell_of_row _ _ _ _ _ _ h]
 simp [hj]
theorem StrAt.later {W0 : World} {A : Option Addr} {c : Nat} {l : List Tk} {w w1 : World} {p : Nat} {i : Nat} {d : Int} {out : List Ev} {ve ve1 : Value} {g : Nat} {ws : List ByteArray} (h : StrAt w g ws) (H : SAt W0 A c l w p i d out ve) (hs : MStep p ve w ve1 w1) : StrAt w1 g ws := mkeep hs H h (by decide) (by decide)
set_option maxRecDepth 100000 in
set_option maxHeartbeats 8000000 in
theorem words_any {W0 : World} {A : Option Addr} {c : Nat} {l : List Tk} {w : World} {p : Nat} {i : Nat} {d : Int} {out : List Ev} {ve : Value} (H : SAt W0 A c l w p i d out ve) (g c1 : Nat) (ws : List ByteArray) (hC : StrAt w g ws) (hws : ∀ s ∈ ws, goodW s = true) (hl : ws.length ≤ 16) {n : Nat} {r : SRes} (hr : srun l n ⟨ws.map .word, i, d, out⟩ = some r) :
  Calls Tryz.prog 36 #[.pointer (some ⟨p, 0, none⟩), .slice (some ⟨g, 0, none⟩) ws.length c1] w (SPost W0 A c l p ve w r) := by
 have HC := Lib.hid hC
 have HWS := Lib.hid hws
 have HL := Lib.hid hl
 have HH := Lib.hid H
 have HI0 : Hid (srun l n ⟨(ws.drop 0).map .word, i, d, out⟩ = some r) := Lib.hid hr
 clear H hC hws hl hr
 go_enter Tryz.func36, Tryz.ntmps36
 go_wp2
 go_loopw [8] (fun v8 wr => ∃ j : Nat, j ≤ ws.length ∧ v8 = .int .i64 j ∧ Hid (∃ i' d' out' ve', SAt W0 A c l wr p i' d' out' ve' ∧ MStep p ve w ve' wr ∧ srun l n ⟨(ws.drop j).map .word, i', d', out'⟩ = some r)) (fun v8 _ => ws.length - (intOf v8).toNat)
 case atStart => exact ⟨0, Nat.zero_le _, rfl, Lib.hid ⟨_, _, _, _, HH.out, PStep.refl _ _ _ _, HI0.out⟩⟩
 case round =>
  obtain ⟨j, hj, rfl, H⟩ := hrel
  obtain ⟨i1, d1, out1, ve1, hA, hS, hrun⟩ := H.out
  clear HI0 H
  by_cases hlt : j < ws.length
  ·obtain ⟨k1, k2, k3, k4⟩ := wrap_one hlt HL.out
   obtain ⟨s, hs⟩ : ∃ s, ws[j]? = some s := ⟨_, List.getElem?_eq_getElem hlt⟩
   have hcell := (HC.out.later HH.out hS).cell hs
   have hgw := HWS.out s (List.mem_of_getElem? hs)
   have hdr : ws.drop j = s :: ws.drop (j + 1) := by
    rw [List.drop_eq_getElem_cons hlt]
    have := (List.getElem?_eq_some_iff.1 hs).2
    rw [this]
   rw [hdr, List.map_cons] at hrun
   have HIS := Lib.hid (is_new hA [s] 1 [.string s] rfl rfl (by decide) (by simp [hgw]))
   obtain ⟨m, hm⟩ : ∃ m, inL (cAt l i1) [s] = m := ⟨_, rfl⟩
   have hwi := word_in (l := l) (i := i1) hgw
   rw [hm] at HIS hwi
   have HA := Lib.hid hA
   have HS := Lib.hid hS
   rcases srun_app l n [.word s] ((ws.drop (j + 1)).map .word) i1 d1 out1 r hrun with ⟨er, k, rfl, h1⟩ | ⟨i2, d2, out2, h1, h2⟩
   ·have HTK := Lib.hid (fun (w1 : World) (hb : Below wr.heap.size wr w1) => take_word (hA.moved hb) s [] hwi h1)
    clear hA hS hrun hs hgw hdr hwi h1 hm
    go_wp2_with (first
     | (go_at_call 47; (with_reducible refine Calls.mono HIS.out ?_); rintro e w1 ⟨rfl, hb⟩; have HB1 := Lib.hid hb; clear hb)
     | (go_at_call 46; (with_reducible refine Calls.mono (HTK.out _ HB1.out) ?_); rintro e w2 ⟨rfl, ve2, h3⟩; have HS2 := Lib.hid ((HS.out.trans (PStep.below HB1.out : MStep p ve1 wr ve1 w1)).trans h3); clear h3))
    exact ⟨rfl, rfl, ve2, HS2.out⟩
   ·have HTK := Lib.hid (fun (w1 : World) (hb : Below wr.heap.size wr w1) => take_word (hA.moved hb) s [] hwi h1)
    have HR2 := Lib.hid h2
    clear hA hS hrun hs hgw hdr hwi h1 h2 hm
    go_wp2_with (first
     | (go_at_call 47; (with_reducible refine Calls.mono HIS.out ?_); rintro e w1 ⟨rfl, hb⟩; have HB1 := Lib.hid hb; clear hb)
     | (go_at_call 46; (with_reducible refine Calls.mono (HTK.out _ HB1.out) ?_); rintro e w2 ⟨rfl, ve2, h2, h3⟩; have HP2 := Lib.hid h2; have HS2 := Lib.hid ((HS.out.trans (PStep.below HB1.out : MStep p ve1 wr ve1 w1)).trans h3); clear h2 h3))
    go_roundw
    case rel => exact ⟨j + 1, by omega, by go_num, Lib.hid ⟨_, _, _, _, HP2.out, HS2.out, HR2.out⟩⟩
    case measure => simp [intOf] <;> omega
  ·obtain rfl : j = ws.length := by omega
   rw [List.drop_length, List.map_nil] at hrun
   obtain ⟨_, rfl⟩ := srun_fin hrun (q := .ok i1 d1 out1) rfl
   have g9 : ¬ ((ws.length : Int) < (ws.length : Int)) := by omega
   have HA := Lib.hid hA
   have HS := Lib.hid hS
   clear hA hS hrun
   go_wp2
   go_end0
   exact ⟨rfl, ve1, HA.out, HS.out⟩
theorem d_wrap {d : Int} (h1 : -1099511627777 ≤ d) (h2 : d ≤ 1099511627776) : IntKind.i64.wrap (d + 1) = d + 1 ∧ IntKind.i64.wrap (d - 1) = d - 1 ∧ wrap64 (d + 1) = d + 1 ∧ wrap64 (d - 1) = d - 1 := by
 simp only [IntKind.wrap_i64]
 unfold wrap64
 omega
set_option maxRecDepth 100000 in
set_option maxHeartbeats 8000000 in
theorem node_at {W0 : World} {A : Option Addr} {c : Nat} {l : List Tk} {w : World} {p : Nat} {i : Nat} {d : Int} {out : List Ev} {ve : Value} (H : SAt W0 A c l w p i d out ve) (k : Nat) (v : Value) (F : FuncId) (x : Value) (hv : v = .func (.func F) #[x] #[] ∨ v = .func (.func F) #[] #[x]) (hen : ∀ w, (callFunc F #[x]).run Tryz.prog w = .ok (.enter F #[x]) w) {T : List WT} {n : Nat} (hb : ∀ (w1 : World) (ve1 : Value) (r' : SRes), MStep p ve w ve1 w1 → SAt W0 A c l w1 p i (d + 1) (out ++ [evOf (1, k)]) ve1 → srun l n ⟨T, i, d + 1, out ++ [evOf (1, k)]⟩ = some r' → Calls Tryz.prog F #[x] w1 (SPost W0 A c l p ve1 w1 r')) {r : SRes} (hr : srun l n ⟨T ++ [.fin k], i, d + 1, out ++ [evOf (1, k)]⟩ = some r) :
  Calls Tryz.prog 33 #[.pointer (some ⟨p, 0, none⟩), .int .u8 k, v] w (SPost W0 A c l p ve w r) := by
 obtain ⟨f1, f2, f3⟩ := srun_len hr
 dsimp only at f1 f2 f3
 rw [List.length_append, List.length_singleton] at f1
 have HLO := Lib.hid f1
 obtain ⟨e1, -, e3, -⟩ := d_wrap (d := d) (by omega) (by omega)
 have HSR := Lib.hid (PStep.refl p (.slice none 0 0) ve w)
 have HBO := Lib.hid hb
 have HEQ := Lib.hid hen
 have HH := Lib.hid H
 obtain ⟨q0, q1, q2, q3⟩ := H.cell
 clear f1 f2 f3 hb hen H
 rcases srun_app l n T [.fin k] i (d + 1) (out ++ [evOf (1, k)]) r hr with ⟨er, j, rfl, h1⟩ | ⟨i2, d2, out2, h1, h2⟩
 ·have HR1 := Lib.hid h1
  clear hr h1
  rcases hv with rfl | rfl
  ·go_enter Tryz.func33, Tryz.ntmps33
   go_wp2_with (first
    | ((with_reducible refine gate_dst (N := 14) rfl ?_); refine wl_ev rfl (.tmp 10) (.tmp 13) rfl p (u := ve) (q := out.length) (kc := (out).flatMap evCells) (cs := [.int .u8 1, .int .u8 k, .int .u8 0, .string ⟨#[]⟩, .int .i64 0, .int .i64 0, .int .i64 0, .int .i64 0]) rfl rfl HH.out.row rfl (evCells_one (evOf (1, k))) (Nat.le_of_lt (blk_lt HH.out.box)) (by have := HLO.out; omega) ?_; intro G1 C1 w1 ho hg hat; obtain ⟨⟨cur, hcur, hfit⟩, hnx⟩ := HH.out.next (e := evOf (1, k)) ho hg hat; have HCU := Lib.hid (And.intro hcur hfit); have HNX := Lib.hid hnx; clear ho hg hat hcur hfit hnx)
    | ((with_reducible refine gate_ (.store 41 (.tmp 16) (.tmp 14)) rfl ?_); refine wl_cells rfl rfl _ _ _ rfl (g := p) (off := 3) (.slice (some ⟨G1, 0, none⟩) (out.length + 1) C1) [.slice (some ⟨G1, 0, none⟩) (out.length + 1) C1] rfl rfl rfl (by kernel_rfl) (fun v hv => by rw [List.mem_singleton.1 hv]; rfl) HCU.out.1 HCU.out.2 ?_; intro V1 hV; obtain ⟨hA, hS⟩ := HNX.out V1 hV; have HP1 := Lib.hid hA; have HS1 := Lib.hid (HSR.out.trans hS); clear q0 q1 q2 q3 hV HNX HCU; obtain ⟨q0, q1, q2, q3⟩ := hA.cell; clear hA hS)
    | ((with_reducible refine gate_ (.store 3 (.tmp 23) (.tmp 21)) rfl ?_); refine wl_cells rfl rfl _ _ _ rfl (g := p) (off := 2) (.int .i64 (d + 1)) [.int .i64 (d + 1)] rfl rfl rfl (by kernel_rfl) (fun v hv => by rw [List.mem_singleton.1 hv]; rfl) HP1.out.box (by simp) ?_; intro V2 hV; obtain ⟨hA, hS⟩ := HP1.out.upd 2 (.int .i64 (d + 1)) (by decide) (i' := i) (d' := d + 1) rfl HP1.out.ile; rw [← hV] at hA hS; have HP2 := Lib.hid hA; have HS2 := Lib.hid (HS1.out.trans hS); clear q0 q1 q2 q3 hV; obtain ⟨q0, q1, q2, q3⟩ := hA.cell; have HEN := HEQ.out V2; have HWI := Lib.hid (HBO.out V2 _ _ (HS1.out.trans hS) hA HR1.out); clear hA hS)
    | ((with_reducible refine Calls.mono HWI.out ?_); rintro e w3 ⟨rfl, ve3, h3⟩; have HS3 := Lib.hid (HS2.out.trans h3); clear h3))
   exact ⟨rfl, rfl, ve3, HS3.out⟩
  ·go_enter Tryz.func33, Tryz.ntmps33
   go_wp2_with (first
    | ((with_reducible refine gate_dst (N := 14) rfl ?_); refine wl_ev rfl (.tmp 10) (.tmp 13) rfl p (u := ve) (q := out.length) (kc := (out).flatMap evCells) (cs := [.int .u8 1, .int .u8 k, .int .u8 0, .string ⟨#[]⟩, .int .i64 0, .int .i64 0, .int .i64 0, .int .i64 0]) rfl rfl HH.out.row rfl (evCells_one (evOf (1, k))) (Nat.le_of_lt (blk_lt HH.out.box)) (by have := HLO.out; omega) ?_; intro G1 C1 w1 ho hg hat; obtain ⟨⟨cur, hcur, hfit⟩, hnx⟩ := HH.out.next (e := evOf (1, k)) ho hg hat; have HCU := Lib.hid (And.intro hcur hfit); have HNX := Lib.hid hnx; clear ho hg hat hcur hfit hnx)
    | ((with_reducible refine gate_ (.store 41 (.tmp 16) (.tmp 14)) rfl ?_); refine wl_cells rfl rfl _ _ _ rfl (g := p) (off := 3) (.slice (some ⟨G1, 0, none⟩) (out.length + 1) C1) [.slice (some ⟨G1, 0, none⟩) (out.length + 1) C1] rfl rfl rfl (by kernel_rfl) (fun v hv => by rw [List.mem_singleton.1 hv]; rfl) HCU.out.1 HCU.out.2 ?_; intro V1 hV; obtain ⟨hA, hS⟩ := HNX.out V1 hV; have HP1 := Lib.hid hA; have HS1 := Lib.hid (HSR.out.trans hS); clear q0 q1 q2 q3 hV HNX HCU; obtain ⟨q0, q1, q2, q3⟩ := hA.cell; clear hA hS)
    | ((with_reducible refine gate_ (.store 3 (.tmp 23) (.tmp 21)) rfl ?_); refine wl_cells rfl rfl _ _ _ rfl (g := p) (off := 2) (.int .i64 (d + 1)) [.int .i64 (d + 1)] rfl rfl rfl (by kernel_rfl) (fun v hv => by rw [List.mem_singleton.1 hv]; rfl) HP1.out.box (by simp) ?_; intro V2 hV; obtain ⟨hA, hS⟩ := HP1.out.upd 2 (.int .i64 (d + 1)) (by decide) (i' := i) (d' := d + 1) rfl HP1.out.ile; rw [← hV] at hA hS; have HP2 := Lib.hid hA; have HS2 := Lib.hid (HS1.out.trans hS); clear q0 q1 q2 q3 hV; obtain ⟨q0, q1, q2, q3⟩ := hA.cell; have HEN := HEQ.out V2; have HWI := Lib.hid (HBO.out V2 _ _ (HS1.out.trans hS) hA HR1.out); clear hA hS)
    | ((with_reducible refine Calls.mono HWI.out ?_); rintro e w3 ⟨rfl, ve3, h3⟩; have HS3 := Lib.hid (HS2.out.trans h3); clear h3))
   exact ⟨rfl, rfl, ve3, HS3.out⟩
 ·have HR1 := Lib.hid h1
  obtain ⟨⟨f1, f2, f3⟩, m, rfl, h3⟩ := srun_on h2 (s' := ⟨[], i2, d2 - 1, out2 ++ [evOf (3, k)]⟩) rfl
  obtain ⟨_, rfl⟩ := srun_fin h3 (q := .ok i2 (d2 - 1) (out2 ++ [evOf (3, k)])) rfl
  dsimp only at f1 f2 f3
  have HLO2 := Lib.hid f1
  obtain ⟨-, e5, -, e6⟩ := d_wrap (d := d2) (by omega) (by omega)
  clear hr h1 h2 h3 f1 f2 f3
  rcases hv with rfl | rfl
  ·go_enter Tryz.func33, Tryz.ntmps33
   go_wp2_with (first
    | ((with_reducible refine gate_dst (N := 14) rfl ?_); refine wl_ev rfl (.tmp 10) (.tmp 13) rfl p (u := ve) (q := out.length) (kc := (out).flatMap evCells) (cs := [.int .u8 1, .int .u8 k, .int .u8 0, .string ⟨#[]⟩, .int .i64 0, .int .i64 0, .int .i64 0, .int .i64 0]) rfl rfl HH.out.row rfl (evCells_one (evOf (1, k))) (Nat.le_of_lt (blk_lt HH.out.box)) (by have := HLO.out; omega) ?_; intro G1 C1 w1 ho hg hat; obtain ⟨⟨cur, hcur, hfit⟩, hnx⟩ := HH.out.next (e := evOf (1, k)) ho hg hat; have HCU := Lib.hid (And.intro hcur hfit); have HNX := Lib.hid hnx; clear ho hg hat hcur hfit hnx)
    | ((with_reducible refine gate_ (.store 41 (.tmp 16) (.tmp 14)) rfl ?_); refine wl_cells rfl rfl _ _ _ rfl (g := p) (off := 3) (.slice (some ⟨G1, 0, none⟩) (out.length + 1) C1) [.slice (some ⟨G1, 0, none⟩) (out.length + 1) C1] rfl rfl rfl (by kernel_rfl) (fun v hv => by rw [List.mem_singleton.1 hv]; rfl) HCU.out.1 HCU.out.2 ?_; intro V1 hV; obtain ⟨hA, hS⟩ := HNX.out V1 hV; have HP1 := Lib.hid hA; have HS1 := Lib.hid (HSR.out.trans hS); clear q0 q1 q2 q3 hV HNX HCU; obtain ⟨q0, q1, q2, q3⟩ := hA.cell; clear hA hS)
    | ((with_reducible refine gate_ (.store 3 (.tmp 23) (.tmp 21)) rfl ?_); refine wl_cells rfl rfl _ _ _ rfl (g := p) (off := 2) (.int .i64 (d + 1)) [.int .i64 (d + 1)] rfl rfl rfl (by kernel_rfl) (fun v hv => by rw [List.mem_singleton.1 hv]; rfl) HP1.out.box (by simp) ?_; intro V2 hV; obtain ⟨hA, hS⟩ := HP1.out.upd 2 (.int .i64 (d + 1)) (by decide) (i' := i) (d' := d + 1) rfl HP1.out.ile; rw [← hV] at hA hS; have HP2 := Lib.hid hA; have HS2 := Lib.hid (HS1.out.trans hS); clear q0 q1 q2 q3 hV; obtain ⟨q0, q1, q2, q3⟩ := hA.cell; have HEN := HEQ.out V2; have HWI := Lib.hid (HBO.out V2 _ _ (HS1.out.trans hS) hA HR1.out); clear hA hS)
    | ((with_reducible refine Calls.mono HWI.out ?_); rintro e w3 ⟨rfl, ve3, h2, h3⟩; have HP3 := Lib.hid h2; have HS3 := Lib.hid (HS2.out.trans h3); clear q0 q1 q2 q3 h3; obtain ⟨q0, q1, q2, q3⟩ := h2.cell; clear h2)
    | ((with_reducible refine gate_ (.store 3 (.tmp 32) (.tmp 30)) rfl ?_); refine wl_cells rfl rfl _ _ _ rfl (g := p) (off := 2) (.int .i64 (d2 - 1)) [.int .i64 (d2 - 1)] rfl rfl rfl (by kernel_rfl) (fun v hv => by rw [List.mem_singleton.1 hv]; rfl) HP3.out.box (by simp) ?_; intro V4 hV; obtain ⟨hA, hS⟩ := HP3.out.upd 2 (.int .i64 (d2 - 1)) (by decide) (i' := i2) (d' := d2 - 1) rfl HP3.out.ile; rw [← hV] at hA hS; have HP4 := Lib.hid hA; have HS4 := Lib.hid (HS3.out.trans hS); clear q0 q1 q2 q3 hV; obtain ⟨q0, q1, q2, q3⟩ := hA.cell; clear hA hS)
    | ((with_reducible refine gate_dst (N := 41) rfl ?_); refine wl_ev rfl (.tmp 37) (.tmp 40) rfl p (u := ve3) (q := out2.length) (kc := (out2).flatMap evCells) (cs := [.int .u8 3, .int .u8 k, .int .u8 0, .string ⟨#[]⟩, .int .i64 0, .int .i64 0, .int .i64 0, .int .i64 0]) rfl rfl HP4.out.row rfl (evCells_one (evOf (3, k))) (Nat.le_of_lt (blk_lt HP4.out.box)) (by have := HLO2.out; omega) ?_; intro G1 C1 w1 ho hg hat; obtain ⟨⟨cur, hcur, hfit⟩, hnx⟩ := HP4.out.next (e := evOf (3, k)) ho hg hat; have HCU := Lib.hid (And.intro hcur hfit); have HNX := Lib.hid hnx; clear ho hg hat hcur hfit hnx)
    | ((with_reducible refine gate_ (.store 41 (.tmp 43) (.tmp 41)) rfl ?_); refine wl_cells rfl rfl _ _ _ rfl (g := p) (off := 3) (.slice (some ⟨G1, 0, none⟩) (out2.length + 1) C1) [.slice (some ⟨G1, 0, none⟩) (out2.length + 1) C1] rfl rfl rfl (by kernel_rfl) (fun v hv => by rw [List.mem_singleton.1 hv]; rfl) HCU.out.1 HCU.out.2 ?_; intro V5 hV; obtain ⟨hA, hS⟩ := HNX.out V5 hV; have HP5 := Lib.hid hA; have HS5 := Lib.hid (HS4.out.trans hS); clear q0 q1 q2 q3 hV HNX HCU; obtain ⟨q0, q1, q2, q3⟩ := hA.cell; clear hA hS))
   go_end0
   exact ⟨rfl, _, HP5.out, HS5.out⟩
  ·go_enter Tryz.func33, Tryz.ntmps33
   go_wp2_with (first
    | ((with_reducible refine gate_dst (N := 14) rfl ?_); refine wl_ev rfl (.tmp 10) (.tmp 13) rfl p (u := ve) (q := out.length) (kc := (out).flatMap evCells) (cs := [.int .u8 1, .int .u8 k, .int .u8 0, .string ⟨#[]⟩, .int .i64 0, .int .i64 0, .int .i64 0, .int .i64 0]) rfl rfl HH.out.row rfl (evCells_one (evOf (1, k))) (Nat.le_of_lt (blk_lt HH.out.box)) (by have := HLO.out; omega) ?_; intro G1 C1 w1 ho hg hat; obtain ⟨⟨cur, hcur, hfit⟩, hnx⟩ := HH.out.next (e := evOf (1, k)) ho hg hat; have HCU := Lib.hid (And.intro hcur hfit); have HNX := Lib.hid hnx; clear ho hg hat hcur hfit hnx)
    | ((with_reducible refine gate_ (.store 41 (.tmp 16) (.tmp 14)) rfl ?_); refine wl_cells rfl rfl _ _ _ rfl (g := p) (off := 3) (.slice (some ⟨G1, 0, none⟩) (out.length + 1) C1) [.slice (some ⟨G1, 0, none⟩) (out.length + 1) C1] rfl rfl rfl (by kernel_rfl) (fun v hv => by rw [List.mem_singleton.1 hv]; rfl) HCU.out.1 HCU.out.2 ?_; intro V1 hV; obtain ⟨hA, hS⟩ := HNX.out V1 hV; have HP1 := Lib.hid hA; have HS1 := Lib.hid (HSR.out.trans hS); clear q0 q1 q2 q3 hV HNX HCU; obtain ⟨q0, q1, q2, q3⟩ := hA.cell; clear hA hS)
    | ((with_reducible refine gate_ (.store 3 (.tmp 23) (.tmp 21)) rfl ?_); refine wl_cells rfl rfl _ _ _ rfl (g := p) (off := 2) (.int .i64 (d + 1)) [.int .i64 (d + 1)] rfl rfl rfl (by kernel_rfl) (fun v hv => by rw [List.mem_singleton.1 hv]; rfl) HP1.out.box (by simp) ?_; intro V2 hV; obtain ⟨hA, hS⟩ := HP1.out.upd 2 (.int .i64 (d + 1)) (by decide) (i' := i) (d' := d + 1) rfl HP1.out.ile; rw [← hV] at hA hS; have HP2 := Lib.hid hA; have HS2 := Lib.hid (HS1.out.trans hS); clear q0 q1 q2 q3 hV; obtain ⟨q0, q1, q2, q3⟩ := hA.cell; have HEN := HEQ.out V2; have HWI := Lib.hid (HBO.out V2 _ _ (HS1.out.trans hS) hA HR1.out); clear hA hS)
    | ((with_reducible refine Calls.mono HWI.out ?_); rintro e w3 ⟨rfl, ve3, h2, h3⟩; have HP3 := Lib.hid h2; have HS3 := Lib.hid (HS2.out.trans h3); clear q0 q1 q2 q3 h3; obtain ⟨q0, q1, q2, q3⟩ := h2.cell; clear h2)
    | ((with_reducible refine gate_ (.store 3 (.tmp 32) (.tmp 30)) rfl ?_); refine wl_cells rfl rfl _ _ _ rfl (g := p) (off := 2) (.int .i64 (d2 - 1)) [.int .i64 (d2 - 1)] rfl rfl rfl (by kernel_rfl) (fun v hv => by rw [List.mem_singleton.1 hv]; rfl) HP3.out.box (by simp) ?_; intro V4 hV; obtain ⟨hA, hS⟩ := HP3.out.upd 2 (.int .i64 (d2 - 1)) (by decide) (i' := i2) (d' := d2 - 1) rfl HP3.out.ile; rw [← hV] at hA hS; have HP4 := Lib.hid hA; have HS4 := Lib.hid (HS3.out.trans hS); clear q0 q1 q2 q3 hV; obtain ⟨q0, q1, q2, q3⟩ := hA.cell; clear hA hS)
    | ((with_reducible refine gate_dst (N := 41) rfl ?_); refine wl_ev rfl (.tmp 37) (.tmp 40) rfl p (u := ve3) (q := out2.length) (kc := (out2).flatMap evCells) (cs := [.int .u8 3, .int .u8 k, .int .u8 0, .string ⟨#[]⟩, .int .i64 0, .int .i64 0, .int .i64 0, .int .i64 0]) rfl rfl HP4.out.row rfl (evCells_one (evOf (3, k))) (Nat.le_of_lt (blk_lt HP4.out.box)) (by have := HLO2.out; omega) ?_; intro G1 C1 w1 ho hg hat; obtain ⟨⟨cur, hcur, hfit⟩, hnx⟩ := HP4.out.next (e := evOf (3, k)) ho hg hat; have HCU := Lib.hid (And.intro hcur hfit); have HNX := Lib.hid hnx; clear ho hg hat hcur hfit hnx)
    | ((with_reducible refine gate_ (.store 41 (.tmp 43) (.tmp 41)) rfl ?_); refine wl_cells rfl rfl _ _ _ rfl (g := p) (off := 3) (.slice (some ⟨G1, 0, none⟩) (out2.length + 1) C1) [.slice (some ⟨G1, 0, none⟩) (out2.length + 1) C1] rfl rfl rfl (by kernel_rfl) (fun v hv => by rw [List.mem_singleton.1 hv]; rfl) HCU.out.1 HCU.out.2 ?_; intro V5 hV; obtain ⟨hA, hS⟩ := HNX.out V5 hV; have HP5 := Lib.hid hA; have HS5 := Lib.hid (HS4.out.trans hS); clear q0 q1 q2 q3 hV HNX HCU; obtain ⟨q0, q1, q2, q3⟩ := hA.cell; clear hA hS))
   go_end0
   exact ⟨rfl, _, HP5.out, HS5.out⟩
theorem node_any {W0 : World} {A : Option Addr} {c : Nat} {l : List Tk} {w : World} {p : Nat} {i : Nat} {d : Int} {out : List Ev} {ve : Value} (H : SAt W0 A c l w p i d out ve) (k : Nat) (v : Value) (F : FuncId) (x : Value) (hv : v = .func (.func F) #[x] #[] ∨ v = .func (.func F) #[] #[x]) (hen : ∀ w, (callFunc F #[x]).run Tryz.prog w = .ok (.enter F #[x]) w) {T : List WT} {N n : Nat} (hb : BodyOK W0 A c l p ve w N F #[x] T) (hn : n ≤ N) {r : SRes} (hr : srun l n ⟨T ++ [.fin k], i, d + 1, out ++ [evOf (1, k)]⟩ = some r) :
  Calls Tryz.prog 33 #[.pointer (some ⟨p, 0, none⟩), .int .u8 k, v] w (SPost W0 A c l p ve w r) :=
 node_at H k v F x hv hen (fun w1 ve1 r' h1 h2 h3 => hb n hn w1 i (d + 1) _ ve1 r' h1 h2 h3) hr
theorem take_in {l : List Tk} {i : Nat} {ws : List ByteArray} (hws : ∀ s ∈ ws, goodW s = true) (h : inL (cAt l i) ws = true) : (∃ t, l[i]? = some t ∧ codeOf t = cAt l i) ↔ true = true := by
 refine ⟨fun _ => rfl, fun _ => ?_⟩
 cases hg : l[i]? with
 | none =>
  rw [show cAt l i = ⟨#[]⟩ by unfold cAt; rw [hg], inL_end hws] at h
  cases h
 | some t => exact ⟨t, rfl, (cAt_some hg).symm⟩
set_option maxRecDepth 100000 in
set_option maxHeartbeats 8000000 in
theorem row_any {W0 : World} {A : Option Addr} {c : Nat} {l : List Tk} {w : World} {p : Nat} {i : Nat} {d : Int} {out : List Ev} {ve : Value} (H : SAt W0 A c l w p i d out ve) (v : Value) (F : FuncId) (x : Value) (hv : v = .func (.func F) #[x] #[] ∨ v = .func (.func F) #[] #[x]) (hen : ∀ w, (callFunc F #[x]).run Tryz.prog w = .ok (.enter F #[x]) w) (g c1 : Nat) (signs : List ByteArray) (hC : StrAt w g signs) (hws : ∀ s ∈ signs, goodW s = true) (hl : signs.length ≤ 16) {T : List WT} {R : RId} (hR : ∀ cc, R.expand cc = if inL cc signs then some [.push (.word cc :: T ++ [.rule R])] else some []) {N n : Nat} (hb : BodyOK W0 A c l p ve w N F #[x] T) (hn : n ≤ N) {r : SRes} (hr : srun l n ⟨T ++ [.rule R], i, d, out⟩ = some r) :
  Calls Tryz.prog 68 #[.pointer (some ⟨p, 0, none⟩), v, .slice (some ⟨g, 0, none⟩) signs.length c1] w (SPost W0 A c l p ve w r) := by
 have HSR := Lib.hid (PStep.refl p (.slice none 0 0) ve w)
 have HBO := Lib.hid hb
 have HEQ := Lib.hid hen
 have HNN := Lib.hid hn
 have HH := Lib.hid H
 have HC := Lib.hid hC
 have HWS := Lib.hid hws
 have HL := Lib.hid hl
 have HRX := Lib.hid hR
 have HEN := hen w
 rcases srun_app l n T [.rule R] i d out r hr with ⟨er, j, rfl, h1⟩ | ⟨i1, d1, out1, h1, h2⟩
 ·have HWI := Lib.hid (hb n hn w i d out ve _ (PStep.refl _ _ _ _) H h1)
  clear hr h1 hb hen hn H hC hws hl hR
  rcases hv with rfl | rfl
  ·skip
   go_enter Tryz.func68, Tryz.ntmps68
   go_wp2_with (first
    | ((with_reducible refine Calls.mono HWI.out ?_); rintro e w3 ⟨rfl, ve3, h3⟩; have HS3 := Lib.hid (HSR.out.trans h3); clear h3))
   exact ⟨rfl, rfl, ve3, HS3.out⟩
  ·skip
   go_enter Tryz.func68, Tryz.ntmps68
   go_wp2_with (first
    | ((with_reducible refine Calls.mono HWI.out ?_); rintro e w3 ⟨rfl, ve3, h3⟩; have HS3 := Lib.hid (HSR.out.trans h3); clear h3))
   exact ⟨rfl, rfl, ve3, HS3.out⟩
 ·have HWI := Lib.hid (hb n hn w i d out ve _ (PStep.refl _ _ _ _) H h1)
  have HR2 := Lib.hid h2
  clear hr h1 h2 hb hen hn H hC hws hl hR
  rcases hv with rfl | rfl
  ·skip
   go_enter Tryz.func68, Tryz.ntmps68
   go_wp2_with (first
    | ((with_reducible refine Calls.mono HWI.out ?_); rintro e w3 ⟨rfl, ve3, h2, h3⟩; have HP3 := Lib.hid h2; have HS3 := Lib.hid (HSR.out.trans h3); clear h2 h3))
   have HI0 : Hid (SAt W0 A c l w3 p i1 d1 out1 ve3 ∧ MStep p ve w ve3 w3 ∧ srun l n ⟨[.rule R], i1, d1, out1⟩ = some r) := Lib.hid ⟨HP3.out, HS3.out, HR2.out⟩
   clear HP3 HS3 HR2 HWI HEN
   go_loopg [10] n (fun kq v10 wr => Hid (∃ i' d' out' ve', SAt W0 A c l wr p i' d' out' ve' ∧ MStep p ve w ve' wr ∧ kq ≤ n ∧ srun l kq ⟨[.rule R], i', d', out'⟩ = some r))
   case atStart => exact Lib.hid ⟨_, _, _, _, HI0.out.1, HI0.out.2.1, Nat.le_refl _, HI0.out.2.2⟩
   case round =>
    obtain ⟨i', d', out', ve1, hA, hS, hkn, hrun⟩ := hrel.out
    clear HI0 hrel
    cases gk with
    | zero => exact absurd hrun (by simp [srun])
    | succ m =>
     have HIS := Lib.hid (is_any hA _ c1 signs ((HC.out.later HH.out hS).C HL.out) HWS.out HL.out)
     have HA := Lib.hid hA
     have HS := Lib.hid hS
     have HMN : Hid (m ≤ N) := Lib.hid (by have := HNN.out; omega)
     have HKN : Hid (m ≤ n) := Lib.hid (by omega)
     obtain ⟨cc, hcc⟩ : ∃ cc, cAt l i' = cc := ⟨_, rfl⟩
     by_cases hin : inL cc signs = true
     ·rw [hcc, hin] at HIS
      obtain ⟨_, m', hmm, h4⟩ := srun_on hrun (s' := ⟨[.word cc] ++ (T ++ [.rule R]), i', d', out'⟩) (by simp [sstep, hcc, HRX.out cc, hin, effs, Eff.act])
      obtain rfl : m = m' := by omega
      have htw := take_in (l := l) (i := i') (ws := signs) HWS.out (by rw [hcc]; exact hin)
      rw [hcc] at htw
      rcases srun_app l m [.word cc] (T ++ [.rule R]) i' d' out' r h4 with ⟨er, j, rfl, h5⟩ | ⟨i2, d2, out2, h5, h6⟩
      ·have HTK := Lib.hid (fun (w1 : World) (hb : Below wr.heap.size wr w1) => take_word (hA.moved hb) cc [] htw h5)
       clear hA hS hkn hrun hcc hin h4 h5 htw hmm
       go_wp2_with (first
        | (go_at_call 47; (with_reducible refine Calls.mono HIS.out ?_); rintro e w1 ⟨rfl, hb⟩; have HB1 := Lib.hid hb; clear hb)
        | (go_at_call 46; (with_reducible refine Calls.mono (HTK.out _ HB1.out) ?_); rintro e w2 ⟨rfl, ve2, h3⟩; have HS2 := Lib.hid ((HS.out.trans (PStep.below HB1.out : MStep p ve1 wr ve1 w1)).trans h3); clear h3))
       exact ⟨rfl, rfl, ve2, HS2.out⟩
      ·have HTK := Lib.hid (fun (w1 : World) (hb : Below wr.heap.size wr w1) => take_word (hA.moved hb) cc [] htw h5)
       rcases srun_app l m T [.rule R] i2 d2 out2 r h6 with ⟨er, j, rfl, h7⟩ | ⟨i3, d3, out3, h7, h8⟩
       ·have HRT := Lib.hid h7
        clear hA hS hkn hrun hcc hin h4 h5 h6 h7 htw hmm
        go_wp2_with (first
         | (go_at_call 47; (with_reducible refine Calls.mono HIS.out ?_); rintro e w1 ⟨rfl, hb⟩; have HB1 := Lib.hid hb; clear hb)
         | (go_at_call 46; (with_reducible refine Calls.mono (HTK.out _ HB1.out) ?_); rintro e w2 ⟨rfl, ve2, h2, h3⟩; have HS2 := Lib.hid ((HS.out.trans (PStep.below HB1.out : MStep p ve1 wr ve1 w1)).trans h3); have HP2 := Lib.hid h2; have HEN := HEQ.out w2; have HWI := Lib.hid (HBO.out m HMN.out w2 i2 d2 out2 ve2 _ HS2.out h2 HRT.out); clear h2 h3)
         | ((with_reducible refine Calls.mono HWI.out ?_); rintro e w4 ⟨rfl, ve4, h3⟩; have HS3 := Lib.hid (HS2.out.trans h3); clear h3))
        exact ⟨rfl, rfl, ve4, HS3.out⟩
       ·have HRT := Lib.hid h7
        have HR8 := Lib.hid h8
        clear hA hS hkn hrun hcc hin h4 h5 h6 h7 h8 htw hmm
        go_wp2_with (first
         | (go_at_call 47; (with_reducible refine Calls.mono HIS.out ?_); rintro e w1 ⟨rfl, hb⟩; have HB1 := Lib.hid hb; clear hb)
         | (go_at_call 46; (with_reducible refine Calls.mono (HTK.out _ HB1.out) ?_); rintro e w2 ⟨rfl, ve2, h2, h3⟩; have HS2 := Lib.hid ((HS.out.trans (PStep.below HB1.out : MStep p ve1 wr ve1 w1)).trans h3); have HP2 := Lib.hid h2; have HEN := HEQ.out w2; have HWI := Lib.hid (HBO.out m HMN.out w2 i2 d2 out2 ve2 _ HS2.out h2 HRT.out); clear h2 h3)
         | ((with_reducible refine Calls.mono HWI.out ?_); rintro e w4 ⟨rfl, ve4, h2, h3⟩; have HP3 := Lib.hid h2; have HS3 := Lib.hid (HS2.out.trans h3); clear h2 h3))
        go_roundg m
        case measure => omega
        case rel => exact Lib.hid ⟨_, _, _, _, HP3.out, HS3.out, HKN.out, HR8.out⟩
     ·have hin' : inL cc signs = false := by simpa using hin
      rw [hcc, hin'] at HIS
      obtain ⟨_, m', hmm, h4⟩ := srun_on hrun (s' := ⟨[], i', d', out'⟩) (by simp [sstep, hcc, HRX.out cc, hin', effs])
      obtain ⟨_, rfl⟩ := srun_fin h4 (q := .ok i' d' out') rfl
      clear hA hS hkn hrun hcc hin hin' h4 hmm
      go_wp2_with (first
       | (go_at_call 47; (with_reducible refine Calls.mono HIS.out ?_); rintro e w1 ⟨rfl, hb⟩; have HB1 := Lib.hid hb; clear hb))
      go_end0
      exact ⟨rfl, ve1, HA.out.moved HB1.out, HS.out.trans (PStep.below HB1.out)⟩
  ·skip
   go_enter Tryz.func68, Tryz.ntmps68
   go_wp2_with (first
    | ((with_reducible refine Calls.mono HWI.out ?_); rintro e w3 ⟨rfl, ve3, h2, h3⟩; have HP3 := Lib.hid h2; have HS3 := Lib.hid (HSR.out.trans h3); clear h2 h3))
   have HI0 : Hid (SAt W0 A c l w3 p i1 d1 out1 ve3 ∧ MStep p ve w ve3 w3 ∧ srun l n ⟨[.rule R], i1, d1, out1⟩ = some r) := Lib.hid ⟨HP3.out, HS3.out, HR2.out⟩
   clear HP3 HS3 HR2 HWI HEN
   go_loopg [10] n (fun kq v10 wr => Hid (∃ i' d' out' ve', SAt W0 A c l wr p i' d' out' ve' ∧ MStep p ve w ve' wr ∧ kq ≤ n ∧ srun l kq ⟨[.rule R], i', d', out'⟩ = some r))
   case atStart => exact Lib.hid ⟨_, _, _, _, HI0.out.1, HI0.out.2.1, Nat.le_refl _, HI0.out.2.2⟩
   case round =>
    obtain ⟨i', d', out', ve1, hA, hS, hkn, hrun⟩ := hrel.out
    clear HI0 hrel
    cases gk with
    | zero => exact absurd hrun (by simp [srun])
    | succ m =>
     have HIS := Lib.hid (is_any hA _ c1 signs ((HC.out.later HH.out hS).C HL.out) HWS.out HL.out)
     have HA := Lib.hid hA
     have HS := Lib.hid hS
     have HMN : Hid (m ≤ N) := Lib.hid (by have := HNN.out; omega)
     have HKN : Hid (m ≤ n) := Lib.hid (by omega)
     obtain ⟨cc, hcc⟩ : ∃ cc, cAt l i' = cc := ⟨_, rfl⟩
     by_cases hin : inL cc signs = true
     ·rw [hcc, hin] at HIS
      obtain ⟨_, m', hmm, h4⟩ := srun_on hrun (s' := ⟨[.word cc] ++ (T ++ [.rule R]), i', d', out'⟩) (by simp [sstep, hcc, HRX.out cc, hin, effs, Eff.act])
      obtain rfl : m = m' := by omega
      have htw := take_in (l := l) (i := i') (ws := signs) HWS.out (by rw [hcc]; exact hin)
      rw [hcc] at htw
      rcases srun_app l m [.word cc] (T ++ [.rule R]) i' d' out' r h4 with ⟨er, j, rfl, h5⟩ | ⟨i2, d2, out2, h5, h6⟩
      ·have HTK := Lib.hid (fun (w1 : World) (hb : Below wr.heap.size wr w1) => take_word (hA.moved hb) cc [] htw h5)
       clear hA hS hkn hrun hcc hin h4 h5 htw hmm
       go_wp2_with (first
        | (go_at_call 47; (with_reducible refine Calls.mono HIS.out ?_); rintro e w1 ⟨rfl, hb⟩; have HB1 := Lib.hid hb; clear hb)
        | (go_at_call 46; (with_reducible refine Calls.mono (HTK.out _ HB1.out) ?_); rintro e w2 ⟨rfl, ve2, h3⟩; have HS2 := Lib.hid ((HS.out.trans (PStep.below HB1.out : MStep p ve1 wr ve1 w1)).trans h3); clear h3))
       exact ⟨rfl, rfl, ve2, HS2.out⟩
      ·have HTK := Lib.hid (fun (w1 : World) (hb : Below wr.heap.size wr w1) => take_word (hA.moved hb) cc [] htw h5)
       rcases srun_app l m T [.rule R] i2 d2 out2 r h6 with ⟨er, j, rfl, h7⟩ | ⟨i3, d3, out3, h7, h8⟩
       ·have HRT := Lib.hid h7
        clear hA hS hkn hrun hcc hin h4 h5 h6 h7 htw hmm
        go_wp2_with (first
         | (go_at_call 47; (with_reducible refine Calls.mono HIS.out ?_); rintro e w1 ⟨rfl, hb⟩; have HB1 := Lib.hid hb; clear hb)
         | (go_at_call 46; (with_reducible refine Calls.mono (HTK.out _ HB1.out) ?_); rintro e w2 ⟨rfl, ve2, h2, h3⟩; have HS2 := Lib.hid ((HS.out.trans (PStep.below HB1.out : MStep p ve1 wr ve1 w1)).trans h3); have HP2 := Lib.hid h2; have HEN := HEQ.out w2; have HWI := Lib.hid (HBO.out m HMN.out w2 i2 d2 out2 ve2 _ HS2.out h2 HRT.out); clear h2 h3)
         | ((with_reducible refine Calls.mono HWI.out ?_); rintro e w4 ⟨rfl, ve4, h3⟩; have HS3 := Lib.hid (HS2.out.trans h3); clear h3))
        exact ⟨rfl, rfl, ve4, HS3.out⟩
       ·have HRT := Lib.hid h7
        have HR8 := Lib.hid h8
        clear hA hS hkn hrun hcc hin h4 h5 h6 h7 h8 htw hmm
        go_wp2_with (first
         | (go_at_call 47; (with_reducible refine Calls.mono HIS.out ?_); rintro e w1 ⟨rfl, hb⟩; have HB1 := Lib.hid hb; clear hb)
         | (go_at_call 46; (with_reducible refine Calls.mono (HTK.out _ HB1.out) ?_); rintro e w2 ⟨rfl, ve2, h2, h3⟩; have HS2 := Lib.hid ((HS.out.trans (PStep.below HB1.out : MStep p ve1 wr ve1 w1)).trans h3); have HP2 := Lib.hid h2; have HEN := HEQ.out w2; have HWI := Lib.hid (HBO.out m HMN.out w2 i2 d2 out2 ve2 _ HS2.out h2 HRT.out); clear h2 h3)
         | ((with_reducible refine Calls.mono HWI.out ?_); rintro e w4 ⟨rfl, ve4, h2, h3⟩; have HP3 := Lib.hid h2; have HS3 := Lib.hid (HS2.out.trans h3); clear h2 h3))
        go_roundg m
        case measure => omega
        case rel => exact Lib.hid ⟨_, _, _, _, HP3.out, HS3.out, HKN.out, HR8.out⟩
     ·have hin' : inL cc signs = false := by simpa using hin
      rw [hcc, hin'] at HIS
      obtain ⟨_, m', hmm, h4⟩ := srun_on hrun (s' := ⟨[], i', d', out'⟩) (by simp [sstep, hcc, HRX.out cc, hin', effs])
      obtain ⟨_, rfl⟩ := srun_fin h4 (q := .ok i' d' out') rfl
      clear hA hS hkn hrun hcc hin hin' h4 hmm
      go_wp2_with (first
       | (go_at_call 47; (with_reducible refine Calls.mono HIS.out ?_); rintro e w1 ⟨rfl, hb⟩; have HB1 := Lib.hid hb; clear hb))
      go_end0
      exact ⟨rfl, ve1, HA.out.moved HB1.out, HS.out.trans (PStep.below HB1.out)⟩
end Go.Proofs.YtmjbpgnjgblnmaaGreat
