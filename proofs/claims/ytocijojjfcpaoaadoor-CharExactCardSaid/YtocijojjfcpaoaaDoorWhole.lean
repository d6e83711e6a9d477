/- What utf8.FullRuneInString and char.Whole answer of any text. -/
import Derived.Test.YtocijojjfcpaoaaDoorVal
import Derived.BigQuiet
set_option linter.unusedSimpArgs false
set_option linter.unusedVariables false
namespace Go.Proofs.YtocijojjfcpaoaaDoor
open Go.RowKit

/-- a text that may become another character by what comes behind it: fewer bytes than its first one asks for, and these fit -/
def Pl.opens (s : ByteArray) (i : Nat) : Bool := decide (s.size - i < Pl.lead (Pl.bt s i 0)) && decide (Pl.fits s i (Pl.lead (Pl.bt s i 0)))

theorem first_lead : ∀ b : Fin 256, ((Lib.firstT b.val = 240 ∨ Lib.firstT b.val = 241) → Pl.lead b.val ≤ 1) ∧
    (Lib.firstT b.val = 2 → Pl.lead b.val = 2 ∧ Pl.lo b.val = 128 ∧ Pl.hi b.val = 191) ∧
    (Lib.firstT b.val = 19 → Pl.lead b.val = 3 ∧ Pl.lo b.val = 160 ∧ Pl.hi b.val = 191) ∧
    (Lib.firstT b.val = 3 → Pl.lead b.val = 3 ∧ Pl.lo b.val = 128 ∧ Pl.hi b.val = 191) ∧
    (Lib.firstT b.val = 35 → Pl.lead b.val = 3 ∧ Pl.lo b.val = 128 ∧ Pl.hi b.val = 159) ∧
    (Lib.firstT b.val = 52 → Pl.lead b.val = 4 ∧ Pl.lo b.val = 144 ∧ Pl.hi b.val = 191) ∧
    (Lib.firstT b.val = 4 → Pl.lead b.val = 4 ∧ Pl.lo b.val = 128 ∧ Pl.hi b.val = 191) ∧
    (Lib.firstT b.val = 68 → Pl.lead b.val = 4 ∧ Pl.lo b.val = 128 ∧ Pl.hi b.val = 143) := by decide +kernel

theorem opens_of (s : ByteArray) (n l h : Nat) (hl : Pl.lead (Pl.bt s 0 0) = n ∧ Pl.lo (Pl.bt s 0 0) = l ∧ Pl.hi (Pl.bt s 0 0) = h) :
    Pl.opens s 0 = decide (s.size < n ∧ (2 ≤ n → 1 < s.size → l ≤ Pl.bt s 0 1 ∧ Pl.bt s 0 1 ≤ h) ∧ (3 ≤ n → 2 < s.size → 128 ≤ Pl.bt s 0 2 ∧ Pl.bt s 0 2 ≤ 191) ∧ (4 ≤ n → 3 < s.size → 128 ≤ Pl.bt s 0 3 ∧ Pl.bt s 0 3 ≤ 191)) := by
  rw [Bool.eq_iff_iff]
  simp only [Pl.opens, Bool.and_eq_true, decide_eq_true_eq]
  unfold Pl.fits
  rw [hl.1, hl.2.1, hl.2.2]
  simp only [Nat.zero_add, Nat.sub_zero]

theorem ret_b {a b : Bool} (h : a = b) : Ending.returned (.bool a) = .returned (.bool b) := by rw [h]

theorem opens_le (s : ByteArray) (hp : 0 < s.size) (hl : Pl.lead (Pl.bt s 0 0) ≤ 1) : Pl.opens s 0 = false := by
  unfold Pl.opens
  rw [show decide (s.size - 0 < Pl.lead (Pl.bt s 0 0)) = false from decide_eq_false (by omega), Bool.false_and]

set_option maxRecDepth 1000000 in
set_option maxHeartbeats 4000000 in
theorem full_any (s : ByteArray) (w : World) (hs : s.size ≤ 140737488351232) (hp : 0 < s.size) (hu : Lib.Utf8Tabs 4 5 w) :
    Calls Tryd.prog 55 #[.string s] w fun e w' => e = .returned (.bool (!Pl.opens s 0)) ∧ Below w.heap.size w w' := by
  obtain ⟨x0, hx0⟩ : ∃ x0, s.get! 0 = x0 := ⟨_, rfl⟩
  obtain ⟨x1, hx1⟩ : ∃ x1, s.get! 1 = x1 := ⟨_, rfl⟩
  obtain ⟨x2, hx2⟩ : ∃ x2, s.get! 2 = x2 := ⟨_, rfl⟩
  obtain ⟨x3, hx3⟩ : ∃ x3, s.get! 3 = x3 := ⟨_, rfl⟩
  have g (k : Nat) (h : k < s.size) : s[k]'h = s.get! k := by show s.data[k] = s.data[k]!; rw [getElem!_pos]
  have hs0 : s[0]'hp = x0 := by rw [g, hx0]
  have l0 := x0.toNat_lt; have l1 := x1.toNat_lt; have l2 := x2.toNat_lt; have l3 := x3.toNat_lt
  have e0 : Pl.bt s 0 0 = x0.toNat := by unfold Pl.bt; rw [hx0]
  have e1 : Pl.bt s 0 1 = x1.toNat := by unfold Pl.bt; rw [hx1]
  have e2 : Pl.bt s 0 2 = x2.toNat := by unfold Pl.bt; rw [hx2]
  have e3 : Pl.bt s 0 3 = x3.toNat := by unfold Pl.bt; rw [hx3]
  have hc0 := hu.1 x0.toNat (by omega)
  have hf := first_lead ⟨x0.toNat, l0⟩
  have hz0 : ((s.size : Int) == 0) = false := by rw [beq_eq_false_iff_ne]; omega
  rcases Lib.firstT_cases x0.toNat with hX | hX | hX | hX | hX | hX | hX | hX | hX
  · have hop := opens_le s hp (by rw [e0]; exact hf.1 (Or.inl hX))
    rw [hX] at hc0
    rw [hop]
    clear hu hX hf hop e0 e1 e2 e3 hx0 hx1 hx2 hx3 g
    go_enter Tryd.func55, Tryd.ntmps55
    go_wp2
    go_ret
    exact ⟨rfl, Below.refl _ _⟩
  · have hop := opens_le s hp (by rw [e0]; exact hf.1 (Or.inr hX))
    rw [hX] at hc0
    rw [hop]
    clear hu hX hf hop e0 e1 e2 e3 hx0 hx1 hx2 hx3 g
    go_enter Tryd.func55, Tryd.ntmps55
    go_wp2
    go_ret
    exact ⟨rfl, Below.refl _ _⟩
  · have hop := opens_of s 2 128 191 (by rw [e0]; exact hf.2.1 hX)
    rw [hX] at hc0
    have ha0 := (hu.2 0 (by omega)).1
    have ha1 := (hu.2 0 (by omega)).2
    simp only [Lib.accLo, Lib.accHi, Nat.reduceMul, Nat.reduceAdd, Nat.reduceEqDiff, if_true, if_false] at ha0 ha1
    rw [e1, e2, e3] at hop
    have HOP := Lib.hid hop
    clear hu hX hf hop e0 e1 e2 e3 hx0
    by_cases h1 : s.size < 2
    · have hn1 : decide ((1 : Int) < (s.size : Int)) = false := decide_eq_false (by omega)
      have hn2 : decide ((2 : Int) < (s.size : Int)) = false := decide_eq_false (by omega)
      clear g hx1 hx2 hx3
      go_enter Tryd.func55, Tryd.ntmps55
      go_wp2
      go_quiet (fail)
      go_wp2
      go_ret
      exact ⟨ret_b (by (first | (rw [HOP.out, decide_eq_false (by omega)]; rfl) | (rw [HOP.out, decide_eq_true (by omega)]; rfl))), by first | exact Below.refl _ _ | exact ((Below.refl _ _).alloc (Nat.le_refl _) _) | exact below_drewNv ((Below.refl _ _).alloc (Nat.le_refl _) _) _ | exact below_drewNv (below_drewNv ((Below.refl _ _).alloc (Nat.le_refl _) _) _) _⟩
    · have hs1 : s[1]'(by omega) = x1 := by rw [g 1 (by omega), hx1]
      have hn1 : decide ((1 : Int) < (s.size : Int)) = true := decide_eq_true (by omega)
      by_cases hn : 2 ≤ s.size
      · clear g hx1 hx2 hx3
        go_enter Tryd.func55, Tryd.ntmps55
        go_wp2
        go_ret
        exact ⟨ret_b (by (first | (rw [HOP.out, decide_eq_false (by omega)]; rfl) | (rw [HOP.out, decide_eq_true (by omega)]; rfl))), by first | exact Below.refl _ _ | exact ((Below.refl _ _).alloc (Nat.le_refl _) _) | exact below_drewNv ((Below.refl _ _).alloc (Nat.le_refl _) _) _ | exact below_drewNv (below_drewNv ((Below.refl _ _).alloc (Nat.le_refl _) _) _) _⟩
      · omega
  · have hop := opens_of s 3 160 191 (by rw [e0]; exact hf.2.2.1 hX)
    rw [hX] at hc0
    have ha0 := (hu.2 1 (by omega)).1
    have ha1 := (hu.2 1 (by omega)).2
    simp only [Lib.accLo, Lib.accHi, Nat.reduceMul, Nat.reduceAdd, Nat.reduceEqDiff, if_true, if_false] at ha0 ha1
    rw [e1, e2, e3] at hop
    have HOP := Lib.hid hop
    clear hu hX hf hop e0 e1 e2 e3 hx0
    by_cases h1 : s.size < 2
    · have hn1 : decide ((1 : Int) < (s.size : Int)) = false := decide_eq_false (by omega)
      have hn2 : decide ((2 : Int) < (s.size : Int)) = false := decide_eq_false (by omega)
      clear g hx1 hx2 hx3
      go_enter Tryd.func55, Tryd.ntmps55
      go_wp2
      go_quiet (fail)
      go_wp2
      go_ret
      exact ⟨ret_b (by (first | (rw [HOP.out, decide_eq_false (by omega)]; rfl) | (rw [HOP.out, decide_eq_true (by omega)]; rfl))), by first | exact Below.refl _ _ | exact ((Below.refl _ _).alloc (Nat.le_refl _) _) | exact below_drewNv ((Below.refl _ _).alloc (Nat.le_refl _) _) _ | exact below_drewNv (below_drewNv ((Below.refl _ _).alloc (Nat.le_refl _) _) _) _⟩
    · have hs1 : s[1]'(by omega) = x1 := by rw [g 1 (by omega), hx1]
      have hn1 : decide ((1 : Int) < (s.size : Int)) = true := decide_eq_true (by omega)
      by_cases hn : 3 ≤ s.size
      · clear g hx1 hx2 hx3
        go_enter Tryd.func55, Tryd.ntmps55
        go_wp2
        go_ret
        exact ⟨ret_b (by (first | (rw [HOP.out, decide_eq_false (by omega)]; rfl) | (rw [HOP.out, decide_eq_true (by omega)]; rfl))), by first | exact Below.refl _ _ | exact ((Below.refl _ _).alloc (Nat.le_refl _) _) | exact below_drewNv ((Below.refl _ _).alloc (Nat.le_refl _) _) _ | exact below_drewNv (below_drewNv ((Below.refl _ _).alloc (Nat.le_refl _) _) _) _⟩
      · have hn2 : decide ((2 : Int) < (s.size : Int)) = false := decide_eq_false (by omega)
        clear g hx1 hx2 hx3
        by_cases k1 : x1.toNat < 160
        · have hc1 : decide ((x1.toNat : Int) < 160) = true := decide_eq_true (by omega)
          go_enter Tryd.func55, Tryd.ntmps55
          go_wp2
          go_quiet (fail)
          go_wp2
          all_goals go_ret
          all_goals exact ⟨ret_b (by (first | (rw [HOP.out, decide_eq_false (by omega)]; rfl) | (rw [HOP.out, decide_eq_true (by omega)]; rfl))), by first | exact Below.refl _ _ | exact ((Below.refl _ _).alloc (Nat.le_refl _) _) | exact below_drewNv ((Below.refl _ _).alloc (Nat.le_refl _) _) _ | exact below_drewNv (below_drewNv ((Below.refl _ _).alloc (Nat.le_refl _) _) _) _⟩
        · have hc1 : decide ((x1.toNat : Int) < 160) = false := decide_eq_false (by omega)
          go_enter Tryd.func55, Tryd.ntmps55
          go_wp2
          go_quiet (fail)
          go_wp2
          all_goals go_ret
          all_goals exact ⟨ret_b (by (first | (rw [HOP.out, decide_eq_false (by omega)]; rfl) | (rw [HOP.out, decide_eq_true (by omega)]; rfl))), by first | exact Below.refl _ _ | exact ((Below.refl _ _).alloc (Nat.le_refl _) _) | exact below_drewNv ((Below.refl _ _).alloc (Nat.le_refl _) _) _ | exact below_drewNv (below_drewNv ((Below.refl _ _).alloc (Nat.le_refl _) _) _) _⟩
  · have hop := opens_of s 3 128 191 (by rw [e0]; exact hf.2.2.2.1 hX)
    rw [hX] at hc0
    have ha0 := (hu.2 0 (by omega)).1
    have ha1 := (hu.2 0 (by omega)).2
    simp only [Lib.accLo, Lib.accHi, Nat.reduceMul, Nat.reduceAdd, Nat.reduceEqDiff, if_true, if_false] at ha0 ha1
    rw [e1, e2, e3] at hop
    have HOP := Lib.hid hop
    clear hu hX hf hop e0 e1 e2 e3 hx0
    by_cases h1 : s.size < 2
    · have hn1 : decide ((1 : Int) < (s.size : Int)) = false := decide_eq_false (by omega)
      have hn2 : decide ((2 : Int) < (s.size : Int)) = false := decide_eq_false (by omega)
      clear g hx1 hx2 hx3
      go_enter Tryd.func55, Tryd.ntmps55
      go_wp2
      go_quiet (fail)
      go_wp2
      go_ret
      exact ⟨ret_b (by (first | (rw [HOP.out, decide_eq_false (by omega)]; rfl) | (rw [HOP.out, decide_eq_true (by omega)]; rfl))), by first | exact Below.refl _ _ | exact ((Below.refl _ _).alloc (Nat.le_refl _) _) | exact below_drewNv ((Below.refl _ _).alloc (Nat.le_refl _) _) _ | exact below_drewNv (below_drewNv ((Below.refl _ _).alloc (Nat.le_refl _) _) _) _⟩
    · have hs1 : s[1]'(by omega) = x1 := by rw [g 1 (by omega), hx1]
      have hn1 : decide ((1 : Int) < (s.size : Int)) = true := decide_eq_true (by omega)
      by_cases hn : 3 ≤ s.size
      · clear g hx1 hx2 hx3
        go_enter Tryd.func55, Tryd.ntmps55
        go_wp2
        go_ret
        exact ⟨ret_b (by (first | (rw [HOP.out, decide_eq_false (by omega)]; rfl) | (rw [HOP.out, decide_eq_true (by omega)]; rfl))), by first | exact Below.refl _ _ | exact ((Below.refl _ _).alloc (Nat.le_refl _) _) | exact below_drewNv ((Below.refl _ _).alloc (Nat.le_refl _) _) _ | exact below_drewNv (below_drewNv ((Below.refl _ _).alloc (Nat.le_refl _) _) _) _⟩
      · have hn2 : decide ((2 : Int) < (s.size : Int)) = false := decide_eq_false (by omega)
        clear g hx1 hx2 hx3
        by_cases k1 : x1.toNat < 128
        · have hc1 : decide ((x1.toNat : Int) < 128) = true := decide_eq_true (by omega)
          go_enter Tryd.func55, Tryd.ntmps55
          go_wp2
          go_quiet (fail)
          go_wp2
          all_goals go_ret
          all_goals exact ⟨ret_b (by (first | (rw [HOP.out, decide_eq_false (by omega)]; rfl) | (rw [HOP.out, decide_eq_true (by omega)]; rfl))), by first | exact Below.refl _ _ | exact ((Below.refl _ _).alloc (Nat.le_refl _) _) | exact below_drewNv ((Below.refl _ _).alloc (Nat.le_refl _) _) _ | exact below_drewNv (below_drewNv ((Below.refl _ _).alloc (Nat.le_refl _) _) _) _⟩
        · have hc1 : decide ((x1.toNat : Int) < 128) = false := decide_eq_false (by omega)
          go_enter Tryd.func55, Tryd.ntmps55
          go_wp2
          go_quiet (fail)
          go_wp2
          all_goals go_ret
          all_goals exact ⟨ret_b (by (first | (rw [HOP.out, decide_eq_false (by omega)]; rfl) | (rw [HOP.out, decide_eq_true (by omega)]; rfl))), by first | exact Below.refl _ _ | exact ((Below.refl _ _).alloc (Nat.le_refl _) _) | exact below_drewNv ((Below.refl _ _).alloc (Nat.le_refl _) _) _ | exact below_drewNv (below_drewNv ((Below.refl _ _).alloc (Nat.le_refl _) _) _) _⟩
  · have hop := opens_of s 3 128 159 (by rw [e0]; exact hf.2.2.2.2.1 hX)
    rw [hX] at hc0
    have ha0 := (hu.2 2 (by omega)).1
    have ha1 := (hu.2 2 (by omega)).2
    simp only [Lib.accLo, Lib.accHi, Nat.reduceMul, Nat.reduceAdd, Nat.reduceEqDiff, if_true, if_false] at ha0 ha1
    rw [e1, e2, e3] at hop
    have HOP := Lib.hid hop
    clear hu hX hf hop e0 e1 e2 e3 hx0
    by_cases h1 : s.size < 2
    · have hn1 : decide ((1 : Int) < (s.size : Int)) = false := decide_eq_false (by omega)
      have hn2 : decide ((2 : Int) < (s.size : Int)) = false := decide_eq_false (by omega)
      clear g hx1 hx2 hx3
      go_enter Tryd.func55, Tryd.ntmps55
      go_wp2
      go_quiet (fail)
      go_wp2
      go_ret
      exact ⟨ret_b (by (first | (rw [HOP.out, decide_eq_false (by omega)]; rfl) | (rw [HOP.out, decide_eq_true (by omega)]; rfl))), by first | exact Below.refl _ _ | exact ((Below.refl _ _).alloc (Nat.le_refl _) _) | exact below_drewNv ((Below.refl _ _).alloc (Nat.le_refl _) _) _ | exact below_drewNv (below_drewNv ((Below.refl _ _).alloc (Nat.le_refl _) _) _) _⟩
    · have hs1 : s[1]'(by omega) = x1 := by rw [g 1 (by omega), hx1]
      have hn1 : decide ((1 : Int) < (s.size : Int)) = true := decide_eq_true (by omega)
      by_cases hn : 3 ≤ s.size
      · clear g hx1 hx2 hx3
        go_enter Tryd.func55, Tryd.ntmps55
        go_wp2
        go_ret
        exact ⟨ret_b (by (first | (rw [HOP.out, decide_eq_false (by omega)]; rfl) | (rw [HOP.out, decide_eq_true (by omega)]; rfl))), by first | exact Below.refl _ _ | exact ((Below.refl _ _).alloc (Nat.le_refl _) _) | exact below_drewNv ((Below.refl _ _).alloc (Nat.le_refl _) _) _ | exact below_drewNv (below_drewNv ((Below.refl _ _).alloc (Nat.le_refl _) _) _) _⟩
      · have hn2 : decide ((2 : Int) < (s.size : Int)) = false := decide_eq_false (by omega)
        clear g hx1 hx2 hx3
        by_cases k1 : x1.toNat < 128
        · have hc1 : decide ((x1.toNat : Int) < 128) = true := decide_eq_true (by omega)
          go_enter Tryd.func55, Tryd.ntmps55
          go_wp2
          go_quiet (fail)
          go_wp2
          all_goals go_ret
          all_goals exact ⟨ret_b (by (first | (rw [HOP.out, decide_eq_false (by omega)]; rfl) | (rw [HOP.out, decide_eq_true (by omega)]; rfl))), by first | exact Below.refl _ _ | exact ((Below.refl _ _).alloc (Nat.le_refl _) _) | exact below_drewNv ((Below.refl _ _).alloc (Nat.le_refl _) _) _ | exact below_drewNv (below_drewNv ((Below.refl _ _).alloc (Nat.le_refl _) _) _) _⟩
        · have hc1 : decide ((x1.toNat : Int) < 128) = false := decide_eq_false (by omega)
          go_enter Tryd.func55, Tryd.ntmps55
          go_wp2
          go_quiet (fail)
          go_wp2
          all_goals go_ret
          all_goals exact ⟨ret_b (by (first | (rw [HOP.out, decide_eq_false (by omega)]; rfl) | (rw [HOP.out, decide_eq_true (by omega)]; rfl))), by first | exact Below.refl _ _ | exact ((Below.refl _ _).alloc (Nat.le_refl _) _) | exact below_drewNv ((Below.refl _ _).alloc (Nat.le_refl _) _) _ | exact below_drewNv (below_drewNv ((Below.refl _ _).alloc (Nat.le_refl _) _) _) _⟩
  · have hop := opens_of s 4 144 191 (by rw [e0]; exact hf.2.2.2.2.2.1 hX)
    rw [hX] at hc0
    have ha0 := (hu.2 3 (by omega)).1
    have ha1 := (hu.2 3 (by omega)).2
    simp only [Lib.accLo, Lib.accHi, Nat.reduceMul, Nat.reduceAdd, Nat.reduceEqDiff, if_true, if_false] at ha0 ha1
    rw [e1, e2, e3] at hop
    have HOP := Lib.hid hop
    clear hu hX hf hop e0 e1 e2 e3 hx0
    by_cases h1 : s.size < 2
    · have hn1 : decide ((1 : Int) < (s.size : Int)) = false := decide_eq_false (by omega)
      have hn2 : decide ((2 : Int) < (s.size : Int)) = false := decide_eq_false (by omega)
      clear g hx1 hx2 hx3
      go_enter Tryd.func55, Tryd.ntmps55
      go_wp2
      go_quiet (fail)
      go_wp2
      go_ret
      exact ⟨ret_b (by (first | (rw [HOP.out, decide_eq_false (by omega)]; rfl) | (rw [HOP.out, decide_eq_true (by omega)]; rfl))), by first | exact Below.refl _ _ | exact ((Below.refl _ _).alloc (Nat.le_refl _) _) | exact below_drewNv ((Below.refl _ _).alloc (Nat.le_refl _) _) _ | exact below_drewNv (below_drewNv ((Below.refl _ _).alloc (Nat.le_refl _) _) _) _⟩
    · have hs1 : s[1]'(by omega) = x1 := by rw [g 1 (by omega), hx1]
      have hn1 : decide ((1 : Int) < (s.size : Int)) = true := decide_eq_true (by omega)
      by_cases hn : 4 ≤ s.size
      · clear g hx1 hx2 hx3
        go_enter Tryd.func55, Tryd.ntmps55
        go_wp2
        go_ret
        exact ⟨ret_b (by (first | (rw [HOP.out, decide_eq_false (by omega)]; rfl) | (rw [HOP.out, decide_eq_true (by omega)]; rfl))), by first | exact Below.refl _ _ | exact ((Below.refl _ _).alloc (Nat.le_refl _) _) | exact below_drewNv ((Below.refl _ _).alloc (Nat.le_refl _) _) _ | exact below_drewNv (below_drewNv ((Below.refl _ _).alloc (Nat.le_refl _) _) _) _⟩
      · by_cases h2 : s.size < 3
        · have hn2 : decide ((2 : Int) < (s.size : Int)) = false := decide_eq_false (by omega)
          clear g hx1 hx2 hx3
          by_cases k1 : x1.toNat < 144
          · have hc1 : decide ((x1.toNat : Int) < 144) = true := decide_eq_true (by omega)
            go_enter Tryd.func55, Tryd.ntmps55
            go_wp2
            go_quiet (fail)
            go_wp2
            all_goals go_ret
            all_goals exact ⟨ret_b (by (first | (rw [HOP.out, decide_eq_false (by omega)]; rfl) | (rw [HOP.out, decide_eq_true (by omega)]; rfl))), by first | exact Below.refl _ _ | exact ((Below.refl _ _).alloc (Nat.le_refl _) _) | exact below_drewNv ((Below.refl _ _).alloc (Nat.le_refl _) _) _ | exact below_drewNv (below_drewNv ((Below.refl _ _).alloc (Nat.le_refl _) _) _) _⟩
          · have hc1 : decide ((x1.toNat : Int) < 144) = false := decide_eq_false (by omega)
            go_enter Tryd.func55, Tryd.ntmps55
            go_wp2
            go_quiet (fail)
            go_wp2
            all_goals go_ret
            all_goals exact ⟨ret_b (by (first | (rw [HOP.out, decide_eq_false (by omega)]; rfl) | (rw [HOP.out, decide_eq_true (by omega)]; rfl))), by first | exact Below.refl _ _ | exact ((Below.refl _ _).alloc (Nat.le_refl _) _) | exact below_drewNv ((Below.refl _ _).alloc (Nat.le_refl _) _) _ | exact below_drewNv (below_drewNv ((Below.refl _ _).alloc (Nat.le_refl _) _) _) _⟩
        · have hn2 : decide ((2 : Int) < (s.size : Int)) = true := decide_eq_true (by omega)
          have hs2 : s[2]'(by omega) = x2 := by rw [g 2 (by omega), hx2]
          clear g hx1 hx2 hx3
          by_cases k1 : x1.toNat < 144
          · have hc1 : decide ((x1.toNat : Int) < 144) = true := decide_eq_true (by omega)
            by_cases k2 : x2.toNat < 128
            · have hc2 : decide ((x2.toNat : Int) < 128) = true := decide_eq_true (by omega)
              go_enter Tryd.func55, Tryd.ntmps55
              go_wp2
              go_quiet (fail)
              go_wp2
              all_goals first | (go_ret; exact ⟨ret_b (by (first | (rw [HOP.out, decide_eq_false (by omega)]; rfl) | (rw [HOP.out, decide_eq_true (by omega)]; rfl))), by first | exact Below.refl _ _ | exact ((Below.refl _ _).alloc (Nat.le_refl _) _) | exact below_drewNv ((Below.refl _ _).alloc (Nat.le_refl _) _) _ | exact below_drewNv (below_drewNv ((Below.refl _ _).alloc (Nat.le_refl _) _) _) _⟩) | (go_quiet (fail); go_wp2 <;> (go_ret; exact ⟨ret_b (by (first | (rw [HOP.out, decide_eq_false (by omega)]; rfl) | (rw [HOP.out, decide_eq_true (by omega)]; rfl))), by first | exact Below.refl _ _ | exact ((Below.refl _ _).alloc (Nat.le_refl _) _) | exact below_drewNv ((Below.refl _ _).alloc (Nat.le_refl _) _) _ | exact below_drewNv (below_drewNv ((Below.refl _ _).alloc (Nat.le_refl _) _) _) _⟩))
            · have hc2 : decide ((x2.toNat : Int) < 128) = false := decide_eq_false (by omega)
              go_enter Tryd.func55, Tryd.ntmps55
              go_wp2
              go_quiet (fail)
              go_wp2
              all_goals first | (go_ret; exact ⟨ret_b (by (first | (rw [HOP.out, decide_eq_false (by omega)]; rfl) | (rw [HOP.out, decide_eq_true (by omega)]; rfl))), by first | exact Below.refl _ _ | exact ((Below.refl _ _).alloc (Nat.le_refl _) _) | exact below_drewNv ((Below.refl _ _).alloc (Nat.le_refl _) _) _ | exact below_drewNv (below_drewNv ((Below.refl _ _).alloc (Nat.le_refl _) _) _) _⟩) | (go_quiet (fail); go_wp2 <;> (go_ret; exact ⟨ret_b (by (first | (rw [HOP.out, decide_eq_false (by omega)]; rfl) | (rw [HOP.out, decide_eq_true (by omega)]; rfl))), by first | exact Below.refl _ _ | exact ((Below.refl _ _).alloc (Nat.le_refl _) _) | exact below_drewNv ((Below.refl _ _).alloc (Nat.le_refl _) _) _ | exact below_drewNv (below_drewNv ((Below.refl _ _).alloc (Nat.le_refl _) _) _) _⟩))
          · have hc1 : decide ((x1.toNat : Int) < 144) = false := decide_eq_false (by omega)
            by_cases k2 : x2.toNat < 128
            · have hc2 : decide ((x2.toNat : Int) < 128) = true := decide_eq_true (by omega)
              go_enter Tryd.func55, Tryd.ntmps55
              go_wp2
              go_quiet (fail)
              go_wp2
              all_goals first | (go_ret; exact ⟨ret_b (by (first | (rw [HOP.out, decide_eq_false (by omega)]; rfl) | (rw [HOP.out, decide_eq_true (by omega)]; rfl))), by first | exact Below.refl _ _ | exact ((Below.refl _ _).alloc (Nat.le_refl _) _) | exact below_drewNv ((Below.refl _ _).alloc (Nat.le_refl _) _) _ | exact below_drewNv (below_drewNv ((Below.refl _ _).alloc (Nat.le_refl _) _) _) _⟩) | (go_quiet (fail); go_wp2 <;> (go_ret; exact ⟨ret_b (by (first | (rw [HOP.out, decide_eq_false (by omega)]; rfl) | (rw [HOP.out, decide_eq_true (by omega)]; rfl))), by first | exact Below.refl _ _ | exact ((Below.refl _ _).alloc (Nat.le_refl _) _) | exact below_drewNv ((Below.refl _ _).alloc (Nat.le_refl _) _) _ | exact below_drewNv (below_drewNv ((Below.refl _ _).alloc (Nat.le_refl _) _) _) _⟩))
            · have hc2 : decide ((x2.toNat : Int) < 128) = false := decide_eq_false (by omega)
              go_enter Tryd.func55, Tryd.ntmps55
              go_wp2
              go_quiet (fail)
              go_wp2
              all_goals first | (go_ret; exact ⟨ret_b (by (first | (rw [HOP.out, decide_eq_false (by omega)]; rfl) | (rw [HOP.out, decide_eq_true (by omega)]; rfl))), by first | exact Below.refl _ _ | exact ((Below.refl _ _).alloc (Nat.le_refl _) _) | exact below_drewNv ((Below.refl _ _).alloc (Nat.le_refl _) _) _ | exact below_drewNv (below_drewNv ((Below.refl _ _).alloc (Nat.le_refl _) _) _) _⟩) | (go_quiet (fail); go_wp2 <;> (go_ret; exact ⟨ret_b (by (first | (rw [HOP.out, decide_eq_false (by omega)]; rfl) | (rw [HOP.out, decide_eq_true (by omega)]; rfl))), by first | exact Below.refl _ _ | exact ((Below.refl _ _).alloc (Nat.le_refl _) _) | exact below_drewNv ((Below.refl _ _).alloc (Nat.le_refl _) _) _ | exact below_drewNv (below_drewNv ((Below.refl _ _).alloc (Nat.le_refl _) _) _) _⟩))
  · have hop := opens_of s 4 128 191 (by rw [e0]; exact hf.2.2.2.2.2.2.1 hX)
    rw [hX] at hc0
    have ha0 := (hu.2 0 (by omega)).1
    have ha1 := (hu.2 0 (by omega)).2
    simp only [Lib.accLo, Lib.accHi, Nat.reduceMul, Nat.reduceAdd, Nat.reduceEqDiff, if_true, if_false] at ha0 ha1
    rw [e1, e2, e3] at hop
    have HOP := Lib.hid hop
    clear hu hX hf hop e0 e1 e2 e3 hx0
    by_cases h1 : s.size < 2
    · have hn1 : decide ((1 : Int) < (s.size : Int)) = false := decide_eq_false (by omega)
      have hn2 : decide ((2 : Int) < (s.size : Int)) = false := decide_eq_false (by omega)
      clear g hx1 hx2 hx3
      go_enter Tryd.func55, Tryd.ntmps55
      go_wp2
      go_quiet (fail)
      go_wp2
      go_ret
      exact ⟨ret_b (by (first | (rw [HOP.out, decide_eq_false (by omega)]; rfl) | (rw [HOP.out, decide_eq_true (by omega)]; rfl))), by first | exact Below.refl _ _ | exact ((Below.refl _ _).alloc (Nat.le_refl _) _) | exact below_drewNv ((Below.refl _ _).alloc (Nat.le_refl _) _) _ | exact below_drewNv (below_drewNv ((Below.refl _ _).alloc (Nat.le_refl _) _) _) _⟩
    · have hs1 : s[1]'(by omega) = x1 := by rw [g 1 (by omega), hx1]
      have hn1 : decide ((1 : Int) < (s.size : Int)) = true := decide_eq_true (by omega)
      by_cases hn : 4 ≤ s.size
      · clear g hx1 hx2 hx3
        go_enter Tryd.func55, Tryd.ntmps55
        go_wp2
        go_ret
        exact ⟨ret_b (by (first | (rw [HOP.out, decide_eq_false (by omega)]; rfl) | (rw [HOP.out, decide_eq_true (by omega)]; rfl))), by first | exact Below.refl _ _ | exact ((Below.refl _ _).alloc (Nat.le_refl _) _) | exact below_drewNv ((Below.refl _ _).alloc (Nat.le_refl _) _) _ | exact below_drewNv (below_drewNv ((Below.refl _ _).alloc (Nat.le_refl _) _) _) _⟩
      · by_cases h2 : s.size < 3
        · have hn2 : decide ((2 : Int) < (s.size : Int)) = false := decide_eq_false (by omega)
          clear g hx1 hx2 hx3
          by_cases k1 : x1.toNat < 128
          · have hc1 : decide ((x1.toNat : Int) < 128) = true := decide_eq_true (by omega)
            go_enter Tryd.func55, Tryd.ntmps55
            go_wp2
            go_quiet (fail)
            go_wp2
            all_goals go_ret
            all_goals exact ⟨ret_b (by (first | (rw [HOP.out, decide_eq_false (by omega)]; rfl) | (rw [HOP.out, decide_eq_true (by omega)]; rfl))), by first | exact Below.refl _ _ | exact ((Below.refl _ _).alloc (Nat.le_refl _) _) | exact below_drewNv ((Below.refl _ _).alloc (Nat.le_refl _) _) _ | exact below_drewNv (below_drewNv ((Below.refl _ _).alloc (Nat.le_refl _) _) _) _⟩
          · have hc1 : decide ((x1.toNat : Int) < 128) = false := decide_eq_false (by omega)
            go_enter Tryd.func55, Tryd.ntmps55
            go_wp2
            go_quiet (fail)
            go_wp2
            all_goals go_ret
            all_goals exact ⟨ret_b (by (first | (rw [HOP.out, decide_eq_false (by omega)]; rfl) | (rw [HOP.out, decide_eq_true (by omega)]; rfl))), by first | exact Below.refl _ _ | exact ((Below.refl _ _).alloc (Nat.le_refl _) _) | exact below_drewNv ((Below.refl _ _).alloc (Nat.le_refl _) _) _ | exact below_drewNv (below_drewNv ((Below.refl _ _).alloc (Nat.le_refl _) _) _) _⟩
        · have hn2 : decide ((2 : Int) < (s.size : Int)) = true := decide_eq_true (by omega)
          have hs2 : s[2]'(by omega) = x2 := by rw [g 2 (by omega), hx2]
          clear g hx1 hx2 hx3
          by_cases k1 : x1.toNat < 128
          · have hc1 : decide ((x1.toNat : Int) < 128) = true := decide_eq_true (by omega)
            by_cases k2 : x2.toNat < 128
            · have hc2 : decide ((x2.toNat : Int) < 128) = true := decide_eq_true (by omega)
              go_enter Tryd.func55, Tryd.ntmps55
              go_wp2
              go_quiet (fail)
              go_wp2
              all_goals first | (go_ret; exact ⟨ret_b (by (first | (rw [HOP.out, decide_eq_false (by omega)]; rfl) | (rw [HOP.out, decide_eq_true (by omega)]; rfl))), by first | exact Below.refl _ _ | exact ((Below.refl _ _).alloc (Nat.le_refl _) _) | exact below_drewNv ((Below.refl _ _).alloc (Nat.le_refl _) _) _ | exact below_drewNv (below_drewNv ((Below.refl _ _).alloc (Nat.le_refl _) _) _) _⟩) | (go_quiet (fail); go_wp2 <;> (go_ret; exact ⟨ret_b (by (first | (rw [HOP.out, decide_eq_false (by omega)]; rfl) | (rw [HOP.out, decide_eq_true (by omega)]; rfl))), by first | exact Below.refl _ _ | exact ((Below.refl _ _).alloc (Nat.le_refl _) _) | exact below_drewNv ((Below.refl _ _).alloc (Nat.le_refl _) _) _ | exact below_drewNv (below_drewNv ((Below.refl _ _).alloc (Nat.le_refl _) _) _) _⟩))
            · have hc2 : decide ((x2.toNat : Int) < 128) = false := decide_eq_false (by omega)
              go_enter Tryd.func55, Tryd.ntmps55
              go_wp2
              go_quiet (fail)
              go_wp2
              all_goals first | (go_ret; exact ⟨ret_b (by (first | (rw [HOP.out, decide_eq_false (by omega)]; rfl) | (rw [HOP.out, decide_eq_true (by omega)]; rfl))), by first | exact Below.refl _ _ | exact ((Below.refl _ _).alloc (Nat.le_refl _) _) | exact below_drewNv ((Below.refl _ _).alloc (Nat.le_refl _) _) _ | exact below_drewNv (below_drewNv ((Below.refl _ _).alloc (Nat.le_refl _) _) _) _⟩) | (go_quiet (fail); go_wp2 <;> (go_ret; exact ⟨ret_b (by (first | (rw [HOP.out, decide_eq_false (by omega)]; rfl) | (rw [HOP.out, decide_eq_true (by omega)]; rfl))), by first | exact Below.refl _ _ | exact ((Below.refl _ _).alloc (Nat.le_refl _) _) | exact below_drewNv ((Below.refl _ _).alloc (Nat.le_refl _) _) _ | exact below_drewNv (below_drewNv ((Below.refl _ _).alloc (Nat.le_refl _) _) _) _⟩))
          · have hc1 : decide ((x1.toNat : Int) < 128) = false := decide_eq_false (by omega)
            by_cases k2 : x2.toNat < 128
            · have hc2 : decide ((x2.toNat : Int) < 128) = true := decide_eq_true (by omega)
              go_enter Tryd.func55, Tryd.ntmps55
              go_wp2
              go_quiet (fail)
              go_wp2
              all_goals first | (go_ret; exact ⟨ret_b (by (first | (rw [HOP.out, decide_eq_false (by omega)]; rfl) | (rw [HOP.out, decide_eq_true (by omega)]; rfl))), by first | exact Below.refl _ _ | exact ((Below.refl _ _).alloc (Nat.le_refl _) _) | exact below_drewNv ((Below.refl _ _).alloc (Nat.le_refl _) _) _ | exact below_drewNv (below_drewNv ((Below.refl _ _).alloc (Nat.le_refl _) _) _) _⟩) | (go_quiet (fail); go_wp2 <;> (go_ret; exact ⟨ret_b (by (first | (rw [HOP.out, decide_eq_false (by omega)]; rfl) | (rw [HOP.out, decide_eq_true (by omega)]; rfl))), by first | exact Below.refl _ _ | exact ((Below.refl _ _).alloc (Nat.le_refl _) _) | exact below_drewNv ((Below.refl _ _).alloc (Nat.le_refl _) _) _ | exact below_drewNv (below_drewNv ((Below.refl _ _).alloc (Nat.le_refl _) _) _) _⟩))
            · have hc2 : decide ((x2.toNat : Int) < 128) = false := decide_eq_false (by omega)
              go_enter Tryd.func55, Tryd.ntmps55
              go_wp2
              go_quiet (fail)
              go_wp2
              all_goals first | (go_ret; exact ⟨ret_b (by (first | (rw [HOP.out, decide_eq_false (by omega)]; rfl) | (rw [HOP.out, decide_eq_true (by omega)]; rfl))), by first | exact Below.refl _ _ | exact ((Below.refl _ _).alloc (Nat.le_refl _) _) | exact below_drewNv ((Below.refl _ _).alloc (Nat.le_refl _) _) _ | exact below_drewNv (below_drewNv ((Below.refl _ _).alloc (Nat.le_refl _) _) _) _⟩) | (go_quiet (fail); go_wp2 <;> (go_ret; exact ⟨ret_b (by (first | (rw [HOP.out, decide_eq_false (by omega)]; rfl) | (rw [HOP.out, decide_eq_true (by omega)]; rfl))), by first | exact Below.refl _ _ | exact ((Below.refl _ _).alloc (Nat.le_refl _) _) | exact below_drewNv ((Below.refl _ _).alloc (Nat.le_refl _) _) _ | exact below_drewNv (below_drewNv ((Below.refl _ _).alloc (Nat.le_refl _) _) _) _⟩))
  · have hop := opens_of s 4 128 143 (by rw [e0]; exact hf.2.2.2.2.2.2.2 hX)
    rw [hX] at hc0
    have ha0 := (hu.2 4 (by omega)).1
    have ha1 := (hu.2 4 (by omega)).2
    simp only [Lib.accLo, Lib.accHi, Nat.reduceMul, Nat.reduceAdd, Nat.reduceEqDiff, if_true, if_false] at ha0 ha1
    rw [e1, e2, e3] at hop
    have HOP := Lib.hid hop
    clear hu hX hf hop e0 e1 e2 e3 hx0
    by_cases h1 : s.size < 2
    · have hn1 : decide ((1 : Int) < (s.size : Int)) = false := decide_eq_false (by omega)
      have hn2 : decide ((2 : Int) < (s.size : Int)) = false := decide_eq_false (by omega)
      clear g hx1 hx2 hx3
      go_enter Tryd.func55, Tryd.ntmps55
      go_wp2
      go_quiet (fail)
      go_wp2
      go_ret
      exact ⟨ret_b (by (first | (rw [HOP.out, decide_eq_false (by omega)]; rfl) | (rw [HOP.out, decide_eq_true (by omega)]; rfl))), by first | exact Below.refl _ _ | exact ((Below.refl _ _).alloc (Nat.le_refl _) _) | exact below_drewNv ((Below.refl _ _).alloc (Nat.le_refl _) _) _ | exact below_drewNv (below_drewNv ((Below.refl _ _).alloc (Nat.le_refl _) _) _) _⟩
    · have hs1 : s[1]'(by omega) = x1 := by rw [g 1 (by omega), hx1]
      have hn1 : decide ((1 : Int) < (s.size : Int)) = true := decide_eq_true (by omega)
      by_cases hn : 4 ≤ s.size
      · clear g hx1 hx2 hx3
        go_enter Tryd.func55, Tryd.ntmps55
        go_wp2
        go_ret
        exact ⟨ret_b (by (first | (rw [HOP.out, decide_eq_false (by omega)]; rfl) | (rw [HOP.out, decide_eq_true (by omega)]; rfl))), by first | exact Below.refl _ _ | exact ((Below.refl _ _).alloc (Nat.le_refl _) _) | exact below_drewNv ((Below.refl _ _).alloc (Nat.le_refl _) _) _ | exact below_drewNv (below_drewNv ((Below.refl _ _).alloc (Nat.le_refl _) _) _) _⟩
      · by_cases h2 : s.size < 3
        · have hn2 : decide ((2 : Int) < (s.size : Int)) = false := decide_eq_false (by omega)
          clear g hx1 hx2 hx3
          by_cases k1 : x1.toNat < 128
          · have hc1 : decide ((x1.toNat : Int) < 128) = true := decide_eq_true (by omega)
            go_enter Tryd.func55, Tryd.ntmps55
            go_wp2
            go_quiet (fail)
            go_wp2
            all_goals go_ret
            all_goals exact ⟨ret_b (by (first | (rw [HOP.out, decide_eq_false (by omega)]; rfl) | (rw [HOP.out, decide_eq_true (by omega)]; rfl))), by first | exact Below.refl _ _ | exact ((Below.refl _ _).alloc (Nat.le_refl _) _) | exact below_drewNv ((Below.refl _ _).alloc (Nat.le_refl _) _) _ | exact below_drewNv (below_drewNv ((Below.refl _ _).alloc (Nat.le_refl _) _) _) _⟩
          · have hc1 : decide ((x1.toNat : Int) < 128) = false := decide_eq_false (by omega)
            go_enter Tryd.func55, Tryd.ntmps55
            go_wp2
            go_quiet (fail)
            go_wp2
            all_goals go_ret
            all_goals exact ⟨ret_b (by (first | (rw [HOP.out, decide_eq_false (by omega)]; rfl) | (rw [HOP.out, decide_eq_true (by omega)]; rfl))), by first | exact Below.refl _ _ | exact ((Below.refl _ _).alloc (Nat.le_refl _) _) | exact below_drewNv ((Below.refl _ _).alloc (Nat.le_refl _) _) _ | exact below_drewNv (below_drewNv ((Below.refl _ _).alloc (Nat.le_refl _) _) _) _⟩
        · have hn2 : decide ((2 : Int) < (s.size : Int)) = true := decide_eq_true (by omega)
          have hs2 : s[2]'(by omega) = x2 := by rw [g 2 (by omega), hx2]
          clear g hx1 hx2 hx3
          by_cases k1 : x1.toNat < 128
          · have hc1 : decide ((x1.toNat : Int) < 128) = true := decide_eq_true (by omega)
            by_cases k2 : x2.toNat < 128
            · have hc2 : decide ((x2.toNat : Int) < 128) = true := decide_eq_true (by omega)
              go_enter Tryd.func55, Tryd.ntmps55
              go_wp2
              go_quiet (fail)
              go_wp2
              all_goals first | (go_ret; exact ⟨ret_b (by (first | (rw [HOP.out, decide_eq_false (by omega)]; rfl) | (rw [HOP.out, decide_eq_true (by omega)]; rfl))), by first | exact Below.refl _ _ | exact ((Below.refl _ _).alloc (Nat.le_refl _) _) | exact below_drewNv ((Below.refl _ _).alloc (Nat.le_refl _) _) _ | exact below_drewNv (below_drewNv ((Below.refl _ _).alloc (Nat.le_refl _) _) _) _⟩) | (go_quiet (fail); go_wp2 <;> (go_ret; exact ⟨ret_b (by (first | (rw [HOP.out, decide_eq_false (by omega)]; rfl) | (rw [HOP.out, decide_eq_true (by omega)]; rfl))), by first | exact Below.refl _ _ | exact ((Below.refl _ _).alloc (Nat.le_refl _) _) | exact below_drewNv ((Below.refl _ _).alloc (Nat.le_refl _) _) _ | exact below_drewNv (below_drewNv ((Below.refl _ _).alloc (Nat.le_refl _) _) _) _⟩))
            · have hc2 : decide ((x2.toNat : Int) < 128) = false := decide_eq_false (by omega)
              go_enter Tryd.func55, Tryd.ntmps55
              go_wp2
              go_quiet (fail)
              go_wp2
              all_goals first | (go_ret; exact ⟨ret_b (by (first | (rw [HOP.out, decide_eq_false (by omega)]; rfl) | (rw [HOP.out, decide_eq_true (by omega)]; rfl))), by first | exact Below.refl _ _ | exact ((Below.refl _ _).alloc (Nat.le_refl _) _) | exact below_drewNv ((Below.refl _ _).alloc (Nat.le_refl _) _) _ | exact below_drewNv (below_drewNv ((Below.refl _ _).alloc (Nat.le_refl _) _) _) _⟩) | (go_quiet (fail); go_wp2 <;> (go_ret; exact ⟨ret_b (by (first | (rw [HOP.out, decide_eq_false (by omega)]; rfl) | (rw [HOP.out, decide_eq_true (by omega)]; rfl))), by first | exact Below.refl _ _ | exact ((Below.refl _ _).alloc (Nat.le_refl _) _) | exact below_drewNv ((Below.refl _ _).alloc (Nat.le_refl _) _) _ | exact below_drewNv (below_drewNv ((Below.refl _ _).alloc (Nat.le_refl _) _) _) _⟩))
          · have hc1 : decide ((x1.toNat : Int) < 128) = false := decide_eq_false (by omega)
            by_cases k2 : x2.toNat < 128
            · have hc2 : decide ((x2.toNat : Int) < 128) = true := decide_eq_true (by omega)
              go_enter Tryd.func55, Tryd.ntmps55
              go_wp2
              go_quiet (fail)
              go_wp2
              all_goals first | (go_ret; exact ⟨ret_b (by (first | (rw [HOP.out, decide_eq_false (by omega)]; rfl) | (rw [HOP.out, decide_eq_true (by omega)]; rfl))), by first | exact Below.refl _ _ | exact ((Below.refl _ _).alloc (Nat.le_refl _) _) | exact below_drewNv ((Below.refl _ _).alloc (Nat.le_refl _) _) _ | exact below_drewNv (below_drewNv ((Below.refl _ _).alloc (Nat.le_refl _) _) _) _⟩) | (go_quiet (fail); go_wp2 <;> (go_ret; exact ⟨ret_b (by (first | (rw [HOP.out, decide_eq_false (by omega)]; rfl) | (rw [HOP.out, decide_eq_true (by omega)]; rfl))), by first | exact Below.refl _ _ | exact ((Below.refl _ _).alloc (Nat.le_refl _) _) | exact below_drewNv ((Below.refl _ _).alloc (Nat.le_refl _) _) _ | exact below_drewNv (below_drewNv ((Below.refl _ _).alloc (Nat.le_refl _) _) _) _⟩))
            · have hc2 : decide ((x2.toNat : Int) < 128) = false := decide_eq_false (by omega)
              go_enter Tryd.func55, Tryd.ntmps55
              go_wp2
              go_quiet (fail)
              go_wp2
              all_goals first | (go_ret; exact ⟨ret_b (by (first | (rw [HOP.out, decide_eq_false (by omega)]; rfl) | (rw [HOP.out, decide_eq_true (by omega)]; rfl))), by first | exact Below.refl _ _ | exact ((Below.refl _ _).alloc (Nat.le_refl _) _) | exact below_drewNv ((Below.refl _ _).alloc (Nat.le_refl _) _) _ | exact below_drewNv (below_drewNv ((Below.refl _ _).alloc (Nat.le_refl _) _) _) _⟩) | (go_quiet (fail); go_wp2 <;> (go_ret; exact ⟨ret_b (by (first | (rw [HOP.out, decide_eq_false (by omega)]; rfl) | (rw [HOP.out, decide_eq_true (by omega)]; rfl))), by first | exact Below.refl _ _ | exact ((Below.refl _ _).alloc (Nat.le_refl _) _) | exact below_drewNv ((Below.refl _ _).alloc (Nat.le_refl _) _) _ | exact below_drewNv (below_drewNv ((Below.refl _ _).alloc (Nat.le_refl _) _) _) _⟩))
end Go.Proofs.YtocijojjfcpaoaaDoor
