/- spoil: what it may write, and what stays. -/
import Derived.Test.YtfefldkljbbbpaaG7
set_option linter.unusedVariables false
set_option linter.unusedSimpArgs false
namespace Go.Proofs.Ytfefldkljbbbpaa
open Go.RowKit Go.Shelf Go.Proofs.YtfefldkljbbbpaaW.PrintWords Go.Proofs.YtfefldkljbbbpaaW.PrintLast Go.Proofs.YtfefldkljbbbpaaW.PrintMore

/-- From w to w': all blocks but those of F lie as they lay. -/
structure Spoilt (F : Nat → Prop) (w w' : World) : Prop where
  os : w'.os = w.os
  tape : w'.tape = w.tape
  output : w'.output = w.output
  size : w.heap.size ≤ w'.heap.size
  block : ∀ k, k < w.heap.size → ¬ F k → w'.heap[k]? = w.heap[k]?
theorem Spoilt.refl (F : Nat → Prop) (w : World) : Spoilt F w w := ⟨rfl, rfl, rfl, Nat.le_refl _, fun _ _ _ => rfl⟩
theorem Spoilt.trans {F : Nat → Prop} {w w1 w2 : World} (h : Spoilt F w w1) (h' : Spoilt F w1 w2) : Spoilt F w w2 :=
  ⟨h'.os.trans h.os, h'.tape.trans h.tape, h'.output.trans h.output, Nat.le_trans h.size h'.size, fun k hk hn => (h'.block k (Nat.lt_of_lt_of_le hk h.size) hn).trans (h.block k hk hn)⟩
theorem Spoilt.mono {F G : Nat → Prop} {w w1 : World} (h : Spoilt F w w1) (hF : ∀ k, F k → G k) : Spoilt G w w1 := ⟨h.os, h.tape, h.output, h.size, fun k hk hn => h.block k hk (fun hf => hn (hF k hf))⟩
theorem Spoilt.of_below {F : Nat → Prop} {w w1 : World} (h : Below w.heap.size w w1) : Spoilt F w w1 := ⟨h.os, h.tape, h.output, h.size, fun k hk _ => h.block k hk⟩
theorem Spoilt.of_grown {F : Nat → Prop} {w w1 : World} {r : Option Nat} (h : w.grownBy w1 r) (hF : ∀ k, r = some k → F k) : Spoilt F w w1 := ⟨h.os, h.tape, h.output, h.size, fun k hk hn => h.block k hk (fun e => hn (hF k e.symm))⟩
/-- What lies below some block stays, where F lies above it. -/
theorem Spoilt.below {F : Nat → Prop} {w w1 : World} {B : Nat} (h : Spoilt F w w1) (hF : ∀ k, F k → B ≤ k) (hB : B ≤ w.heap.size) : Below B w w1 := ⟨h.os, h.tape, h.output, h.size, fun k hk => h.block k (by omega) (fun hf => by have := hF k hf; omega)⟩

/-- The list under way: x's box, and what is left of its tree. -/
structure SInv (w wr : World) (base : Nat) (x : Nd) (A : Option Addr) (c : Nat) (F : Nat → Prop) (i : Nat) : Prop where
  box : wr.heap[w.heap.size]? = some (.cells #[.int .u8 x.f0, .int .u8 x.f1.f0, .string x.f1.f1, .int .i64 x.f1.f2.f0, .int .i64 x.f1.f2.f1, .int .i64 x.f1.f2.f2, .int .i64 x.f1.f3, .slice A x.f2.length c] TN (0, 0))
  sp : Spoilt F w wr
  size : w.heap.size + 1 ≤ wr.heap.size
  row : ∃ cells G, wr.ownsRow base TN 8 (.slice A x.f2.length c) x.f2.length cells ∧ OwnL wr base (x.f2.drop i) (cells.drop (i * 8)) G ∧ (∀ b, (Value.slice A x.f2.length c).ownBlock = some b → F b ∧ ¬ G b) ∧ (∀ b, G b → F b)
theorem SInv.start {w w0 : World} {base : Nat} {x : Nd} {A : Option Addr} {c : Nat} {F : Nat → Prop} (h : OwnS w base (.slice A x.f2.length c) x.f2 F) (hb : Below w.heap.size w w0) (hs : w0.heap.size = w.heap.size + 1)
    (hx : w0.heap[w.heap.size]? = some (.cells #[.int .u8 x.f0, .int .u8 x.f1.f0, .string x.f1.f1, .int .i64 x.f1.f2.f0, .int .i64 x.f1.f2.f1, .int .i64 x.f1.f2.f2, .int .i64 x.f1.f3, .slice A x.f2.length c] TN (0, 0))) : SInv w w0 base x A c F 0 := by
  obtain ⟨cells, G, r2, r3, r4, r5⟩ := ownS_below h hb
  exact ⟨hx, .of_below hb, by omega, cells, G, r2, by rw [List.drop_zero, Nat.zero_mul, List.drop_zero]; exact r3, r4, r5⟩
/-- The next kid: its cells, and that it is a tree of its own. -/
structure SKid (wr : World) (base g i : Nat) (y : Nd) (u : Value) (rest : List Nd) (cells ks : List Value) (G1 G2 : Nat → Prop) : Prop where
  at_ : ∀ (j : Nat) (v : Value), (ndCells y.f0 y.f1 u)[j]? = some v → wr.cell? ⟨g, i * 8 + j, none⟩ = some v
  own : OwnS wr base u y.f2 G1
  rest : OwnL wr base rest ks G2
  apart : ∀ b, G1 b → ¬ G2 b
theorem SInv.kid {w wr : World} {base : Nat} {x y : Nd} {A : Option Addr} {c i : Nat} {F : Nat → Prop} (h : SInv w wr base x A c F i) (hi : i < x.f2.length) (hy : x.f2[i]? = some y) :
    ∃ g u cells ks G1 G2, A = some ⟨g, 0, none⟩ ∧ SKid wr base g i y u (x.f2.drop (i + 1)) cells ks G1 G2 ∧ wr.ownsRow base TN 8 (.slice (some ⟨g, 0, none⟩) x.f2.length c) x.f2.length cells ∧ cells.drop ((i + 1) * 8) = ks ∧ F g ∧ ¬ G1 g ∧ ¬ G2 g ∧ (∀ b, G1 b → F b) ∧ (∀ b, G2 b → F b) := by
  obtain ⟨cells, G, r2, r3, r4, r5⟩ := h.row
  obtain ⟨hlt, he⟩ := List.getElem?_eq_some_iff.1 hy
  rw [List.drop_eq_getElem_cons hlt, he, OwnL] at r3
  obtain ⟨cy, ks, G1, G2, e1, o1, o2, s1, s2, ap⟩ := r3
  have h8 := own_len o1
  rw [own_iff] at o1
  obtain ⟨u, rfl, o1⟩ := o1
  have r2' := r2
  rcases r2.2 with ⟨_, hn⟩ | ⟨g, cap, cur, he2, _⟩
  · omega
  · injection he2 with he2 _ hc
    subst he2
    refine ⟨g, u, cells, ks, G1, G2, rfl, ⟨fun j v hj => ?_, o1, o2, ap⟩, r2', ?_, (r4 g rfl).1, fun hg => (r4 g rfl).2 (s1 g hg), fun hg => (r4 g rfl).2 (s2 g hg), fun b hb => r5 b (s1 b hb), fun b hb => r5 b (s2 b hb)⟩
    · refine (row_at r2' (i * 8 + j) v ?_).1
      rw [← List.getElem?_drop, e1, List.getElem?_append_left (by rw [h8]; exact (List.getElem?_eq_some_iff.1 hj).1)]
      exact hj
    · rw [show (i + 1) * 8 = i * 8 + 8 by omega, ← List.drop_drop, e1, ← h8, List.drop_left]
/-- The kid has been spoilt: its place can be written. -/
theorem SInv.next {w wr w2 : World} {base : Nat} {x y : Nd} {g c i : Nat} {F G1 G2 : Nat → Prop} {u : Value} {cells ks seg : List Value} (h : SInv w wr base x (some ⟨g, 0, none⟩) c F i) (hi : i < x.f2.length)
    (hk : SKid wr base g i y u (x.f2.drop (i + 1)) cells ks G1 G2) (hrow : wr.ownsRow base TN 8 (.slice (some ⟨g, 0, none⟩) x.f2.length c) x.f2.length cells) (hks : cells.drop ((i + 1) * 8) = ks) (hFg : F g) (h1g : ¬ G1 g) (h2g : ¬ G2 g) (h1F : ∀ b, G1 b → F b) (h2F : ∀ b, G2 b → F b)
    (hlies : ∀ b, F b → b < w.heap.size) (hs : Spoilt (fun b => G1 b ∧ b < wr.heap.size) wr w2) (h8 : seg.length = 8) :
    w2.heap[w.heap.size]? = some (.cells #[.int .u8 x.f0, .int .u8 x.f1.f0, .string x.f1.f1, .int .i64 x.f1.f2.f0, .int .i64 x.f1.f2.f1, .int .i64 x.f1.f2.f2, .int .i64 x.f1.f3, .slice (some ⟨g, 0, none⟩) x.f2.length c] TN (0, 0)) ∧
    (∃ cur, w2.heap[g]? = some (.cells cur TN (0, 0)) ∧ i * 8 + seg.length ≤ cur.size) ∧ ∀ w3, w3 = w2.setCells g (i * 8) seg → SInv w w3 base x (some ⟨g, 0, none⟩) c F (i + 1) := by
  have hgl := hlies g hFg
  have hsz := h.size
  have hbox := (hs.block w.heap.size (by omega) (fun hg => by have := hlies _ (h1F _ hg.1); omega)).trans h.box
  have hrow2 : w2.ownsRow base TN 8 (.slice (some ⟨g, 0, none⟩) x.f2.length c) x.f2.length cells := row_move hrow (fun k hk => by
    obtain rfl : g = k := by simpa [Value.ownBlock] using hk
    exact hs.block g (by omega) (fun hg => h1g hg.1))
  have hcl : cells.length = x.f2.length * 8 := hrow.1
  obtain ⟨hset, cur, hcur, hfit⟩ := row_set hrow2 (i * 8) seg (by rw [hcl, h8]; omega)
  refine ⟨hbox, ⟨cur, hcur, hfit⟩, fun w3 hw3 => ?_⟩
  subst hw3
  have far : ∀ b, b ≠ g → (w2.setCells g (i * 8) seg).heap[b]? = w2.heap[b]? := fun b hb => setCells_far seg _ b hb
  refine ⟨(far _ (by omega)).trans hbox, ?_, ?_, _, G2, hset, ?_, fun b hb => ?_, h2F⟩
  · have hs2 : Spoilt F w2 (w2.setCells g (i * 8) seg) := .of_grown (setCells_grown w2 g _ seg) (fun k e => by cases e; exact hFg)
    exact (h.sp.trans (hs.mono (fun b hb => h1F b hb.1))).trans hs2
  · exact Nat.le_trans hsz (Nat.le_trans hs.size (setCells_grown w2 g _ seg).size)
  · have e1 : (cells.take (i * 8) ++ seg ++ cells.drop (i * 8 + seg.length)).drop ((i + 1) * 8) = ks := by
      rw [← hks]
      have ht : (cells.take (i * 8) ++ seg).length = (i + 1) * 8 := by rw [List.length_append, List.length_take, h8, hcl]; omega
      rw [← ht, List.drop_left, h8, ht, show i * 8 + 8 = (i + 1) * 8 by omega]
    rw [e1]
    have hm : ∀ b, (G2 b ∧ Lies wr base b) → (w2.setCells g (i * 8) seg).heap[b]? = wr.heap[b]? := fun b hb => (far b (fun e => h2g (e ▸ hb.1))).trans (hs.block b hb.2.2.1 (fun hg => hk.apart b hg.1 hb.1))
    exact ownL_mono (ownL_move _ (ownL_bound _ hk.rest) hm) (fun _ hb => hb.1)
  · obtain rfl : g = b := by simpa [Value.ownBlock] using hb
    exact ⟨hFg, h2g⟩
theorem own_head {w : World} {base n : Nat} {v : Value} {xs : List Value} (h : w.ownsRow base TN 8 v (n + 1) xs) : ∃ g cap, v = .slice (some ⟨g, 0, none⟩) (n + 1) cap := by
  rcases h.2 with ⟨_, hn⟩ | ⟨g, cap, cur, he, _⟩
  · omega
  · exact ⟨g, cap, he⟩
theorem spoilt_end {F : Nat → Prop} {w w5 : World} {g : Nat} {p : Addr} {u : Value} (h : Spoilt F w w5) (hp : p.block = g) (hg : F g ∨ w.heap.size ≤ g) : Spoilt F w (w5.setCell p u) :=
  ⟨h.os, h.tape, h.output, by rw [World.size_setCell]; exact h.size, fun k hk hn => (Below.heap_setCell w5 p u k (fun e => by
    rcases hg with hg | hg
    · exact hn (by rw [e, hp]; exact hg)
    · omega)).trans (h.block k hk hn)⟩
end Go.Proofs.Ytfefldkljbbbpaa
