/- Put, Close and all in plain words. -/
import Derived.Test.YtmjbpgnjgblnmaaPb
import Derived.Test.YtmjbpgnjgblnmaaPParseNotesx
set_option linter.unusedVariables false
namespace Go.Proofs.Ytmjbpgnjgblnmaa
abbrev Tk := PParseNotes.S35
abbrev Ev := PParseNotes.S46
abbrev kEv := PParseNotes.k46
abbrev kTk := PParseNotes.k35
def noTk : Tk := ⟨0, ⟨#[]⟩, ⟨0, 0, 0⟩, 0⟩
def evOf (p : Nat × Nat) : Ev := ⟨p.1, p.2, noTk⟩
def leafE (t : Tk) : Ev := ⟨2, 0, t⟩
def noteE (t : Tk) : Ev := ⟨4, 0, t⟩
def isNote (t : Tk) : Bool := t.f0 == 7 || t.f0 == 8
def codeOf (t : Tk) : ByteArray := (PParseNotes.parse_code.f t.f0 t.f1 t.f2.f0 t.f2.f1 t.f2.f2 t.f3).getD ⟨#[]⟩
/-- The parser. -/
structure Par where
  todo : List WT
  depth : Int
  begun : Bool
  wrong : Int
  closed : Bool
def newPar : Par := ⟨[.word ⟨#[112, 114, 111, 103, 114, 97, 109]⟩, .word ⟨#[64, 110, 97, 109, 101]⟩, .word ⟨#[59]⟩, .rule .r_block, .word ⟨#[46]⟩, .fin 1], 0, false, 0, false⟩
/-- token: what is wrong, and what is left. -/
def token (t : Tk) (todo : List WT) (depth : Int) : Int × PSt :=
  match turns (codeOf t) (todo.length + 7) ⟨todo, [], depth⟩ with
  | none => (120, ⟨todo, [], depth⟩)
  | some (false, s) => (120, s)
  | some (true, s) => if s.todo = [] then (120, s) else if 1000 < s.depth then (122, s) else (0, s)
def preE (p : Par) : List Ev := if p.begun then [] else [evOf (1, 1)]
def preD (p : Par) : Int := if p.begun then p.depth else p.depth + 1
def put (p : Par) (t : Tk) : List Ev × Int × Par :=
  if p.closed then ([], 4, p) else if p.wrong ≠ 0 then ([], p.wrong, p) else
  if isNote t then (preE p ++ [noteE t], 0, { p with depth := preD p, begun := true }) else
  let q := token t p.todo (preD p)
  if q.1 ≠ 0 then ([], q.1, { p with todo := q.2.todo, wrong := q.1 }) else (preE p ++ q.2.evs.map evOf ++ [leafE t], 0, { p with todo := q.2.todo, depth := q.2.depth, begun := true })
def closeP (p : Par) : List Ev × Int × Par :=
  if p.closed then ([], 4, p) else if p.wrong ≠ 0 then ([], p.wrong, { p with closed := true }) else
  if p.todo.length ≠ 1 then ([], 121, { p with closed := true, wrong := 121 }) else ([evOf (3, 1)], 0, { p with closed := true, depth := p.depth - 1 })
/-- all: the events, what is wrong, at which token. -/
def allP : Par → List Tk → List Ev × Int × Nat
  | p, [] => ((closeP p).1, (closeP p).2.1, 0)
  | p, t :: r => if (put p t).2.1 ≠ 0 then ([], (put p t).2.1, 0) else ((put p t).1 ++ (allP (put p t).2.2 r).1, (allP (put p t).2.2 r).2.1, (allP (put p t).2.2 r).2.2 + 1)
/-- What holds between two calls: the fins are the open nodes, Program's last. -/
structure PInv (p : Par) (op : List Nat) : Prop where
  closed : p.closed = false
  wrong : p.wrong = 0
  fins : fins p.todo = if p.begun then op else [1]
  start : p.begun = false → op = []
  last : p.begun = true → ∃ r, op = r ++ [1]
  depth : p.depth = op.length
  most : op.length ≤ 1000
  lastf : ∃ l, p.todo = l ++ [.fin 1]
  fresh : p.begun = false → p.todo.length ≠ 1
theorem newPar_inv : PInv newPar [] := ⟨rfl, rfl, rfl, fun _ => rfl, fun h => (by cases h), rfl, Nat.zero_le _, ⟨[.word ⟨#[112, 114, 111, 103, 114, 97, 109]⟩, .word ⟨#[64, 110, 97, 109, 101]⟩, .word ⟨#[59]⟩, .rule .r_block, .word ⟨#[46]⟩], rfl⟩, fun _ => by decide⟩
/-- token, in words: closed nodes, then opened ones; what is open is what is to end. -/
theorem token_law (t : Tk) (todo : List WT) (depth : Int) : ∃ cl op X, (token t todo depth).2.evs = (cl : List Nat).map (fun k => (3, k)) ++ (op : List Nat).map (fun k => (1, k)) ∧ (token t todo depth).2.depth = depth - cl.length + op.length ∧ (∀ k ∈ op, k ≠ 1) ∧ fins todo = cl ++ X ∧ ((token t todo depth).1 = 0 → fins (token t todo depth).2.todo = op.reverse ++ X ∧ (token t todo depth).2.depth ≤ 1000) ∧ ((token t todo depth).1 = 0 ∨ (token t todo depth).1 = 120 ∨ (token t todo depth).1 = 122) := by
  obtain ⟨r, cl, op, X, h1, h2, h3, h6, h4, h5⟩ := turns_some (codeOf t) todo.length ⟨todo, [], depth⟩ rfl
  obtain ⟨b, s⟩ := r
  refine ⟨cl, op, X, ?_⟩
  unfold token
  rw [h1]
  cases b with
  | false => exact ⟨by simpa using h2, h3, h6, h4, fun h => by simp at h, .inr (.inl rfl)⟩
  | true =>
    simp only
    by_cases ht : s.todo = []
    · simp only [if_pos ht]
      exact ⟨by simpa using h2, h3, h6, h4, fun h => by simp at h, .inr (.inl trivial)⟩
    · by_cases hd : 1000 < s.depth
      · simp only [if_neg ht, if_pos hd]
        exact ⟨by simpa using h2, h3, h6, h4, fun h => by simp at h, .inr (.inr trivial)⟩
      · simp only [if_neg ht, if_neg hd]
        exact ⟨by simpa using h2, h3, h6, h4, fun _ => ⟨h5 rfl, by omega⟩, .inl trivial⟩
end Go.Proofs.Ytmjbpgnjgblnmaa
