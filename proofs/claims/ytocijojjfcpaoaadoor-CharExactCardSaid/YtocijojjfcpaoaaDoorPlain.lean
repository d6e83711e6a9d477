/- What the functions of char, width and class come to, as plain Lean: no program in sight. -/
namespace Go.Proofs.YtocijojjfcpaoaaDoor.Pl

/-- the points of two columns, and of none -/
def double : List (Int × Int) := [(4352, 4447), (11904, 12350), (12353, 42191), (44032, 55203), (63744, 64255), (65072, 65135), (65280, 65376), (65504, 65510), (127744, 128591), (129280, 129535), (131072, 262141)]
def none : List (Int × Int) := [(768, 879), (8203, 8207), (8400, 8447), (65024, 65039), (65056, 65071)]
/-- what begins names, and what goes on with them -/
def letters : List (Int × Int) := [(65, 90), (97, 122), (192, 214), (216, 246), (248, 591), (913, 929), (931, 974), (1024, 1119), (1488, 1514), (1568, 1610), (2308, 2361), (12353, 12438), (12449, 12538), (19968, 40959), (44032, 55203), (66560, 66639), (131072, 196607)]
def others : List (Int × Int) := [(48, 57), (95, 95), (768, 879)]
def inRanges (l : List (Int × Int)) (p : Int) : Bool := l.any fun r => decide (r.1 ≤ p) && decide (p ≤ r.2)
def widthOf (p : Int) : Int := if inRanges double p = true then 2 else if inRanges none p = true then 0 else 1

theorem inRanges_cons (r : Int × Int) (l : List (Int × Int)) (p : Int) : inRanges (r :: l) p = ((decide (r.1 ≤ p) && decide (p ≤ r.2)) || inRanges l p) := rfl
theorem widthOf_two {p : Int} (h : inRanges double p = true) : widthOf p = 2 := by simp [widthOf, h]
theorem widthOf_zero {p : Int} (h1 : ¬ inRanges double p = true) (h : inRanges none p = true) : widthOf p = 0 := by simp [widthOf, h, h1]
theorem widthOf_one {p : Int} (h1 : ¬ inRanges double p = true) (h : ¬ inRanges none p = true) : widthOf p = 1 := by simp [widthOf, h, h1]
theorem widthOf_bd (p : Int) : 0 ≤ widthOf p ∧ widthOf p ≤ 2 := by
  unfold widthOf
  split
  · omega
  · split <;> omega
theorem inRanges_step (l : List (Int × Int)) (p : Int) (k : Nat) (h : k < l.length) : inRanges (l.drop k) p = ((decide (l[k].1 ≤ p) && decide (p ≤ l[k].2)) || inRanges (l.drop (k + 1)) p) := by
  rw [List.drop_eq_getElem_cons h, inRanges_cons]
theorem inRanges_hit (l : List (Int × Int)) (p : Int) (k : Nat) (h : k < l.length) (h1 : l[k].1 ≤ p) (h2 : p ≤ l[k].2) : inRanges (l.drop k) p = true := by
  rw [inRanges_step l p k h]; simp [h1, h2]
theorem inRanges_miss (l : List (Int × Int)) (p : Int) (k : Nat) (h : k < l.length) (hn : ¬ (l[k].1 ≤ p ∧ p ≤ l[k].2)) : inRanges (l.drop k) p = inRanges (l.drop (k + 1)) p := by
  rw [inRanges_step l p k h]
  have : (decide (l[k].1 ≤ p) && decide (p ≤ l[k].2)) = false := by
    simp only [Bool.and_eq_false_iff, decide_eq_false_iff_not]
    by_cases h1 : l[k].1 ≤ p
    · right; intro h2; exact hn ⟨h1, h2⟩
    · left; exact h1
  rw [this, Bool.false_or]
/-- how many columns points have -/
def wsum : List Int → Int
  | [] => 0
  | p :: l => widthOf p + wsum l
/-- the beginning of what has at most so many columns, from n on: where it ends, and how many it has -/
def cutAt (most : Int) : List (Nat × Nat × Nat) → Nat → Int → Nat × Int
  | [], e, n => (e, n)
  | r :: l, e, n => if n + widthOf r.2.1 > most then (r.1, n) else cutAt most l e (n + widthOf r.2.1)
end Go.Proofs.YtocijojjfcpaoaaDoor.Pl
