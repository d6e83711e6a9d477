/- Events: what is told. -/
import Derived.Test.YtfefldkljbbbpaaEvW
import Derived.Laws.EntriesVeiled
set_option linter.unusedVariables false
set_option linter.unusedSimpArgs false
namespace Go.Proofs.Ytfefldkljbbbpaa
open Go.RowKit Go.Proofs.YtfefldkljbbbpaaW.PrintWords Go.Proofs.YtfefldkljbbbpaaW.PrintLast Go.Proofs.YtfefldkljbbbpaaW.PrintMore

def EvPost (w0 : World) (l : List Ev) (e : Ending) (w' : World) : Prop := ∃ v, e = .returned v ∧ Kd.R kEv TE w' w0.heap.size (fun _ => True) v l ∧ Below w0.heap.size w0 w'
theorem heap_old {w : World} {o o' : Obj} {k : Nat} (h : w.heap[k]? = some o') : (w.alloc o).heap[k]? = some o' := (Below.heap_alloc w o k (blk_lt h)).trans h
theorem out_start (w0 : World) (nb : Obj) : Out w0 (((w0.alloc nb).alloc (.cells #[.slice none 0 0] 22)).alloc (.cells #[.func (.func 29) #[] #[.pointer (some ⟨w0.heap.size + 1, 0, none⟩), .pointer (some ⟨w0.heap.size + 2, 0, none⟩)]] 40)) [] := by
  have h1 := heap_alloc_new (w0.alloc nb) (.cells #[.slice none 0 0] 22)
  have h2 := heap_alloc_new ((w0.alloc nb).alloc (.cells #[.slice none 0 0] 22)) (.cells #[.func (.func 29) #[] #[.pointer (some ⟨w0.heap.size + 1, 0, none⟩), .pointer (some ⟨w0.heap.size + 2, 0, none⟩)]] 40)
  rw [World.size_alloc] at h1
  rw [World.size_alloc, World.size_alloc] at h2
  refine ⟨⟨.slice none 0 0, heap_old h1, Kd.R_nil _ _ _ _ _⟩, h2, ?_, ?_⟩
  · exact (((Below.refl w0.heap.size w0).alloc (Nat.le_refl _) _).alloc (by simp) _).alloc (by simp; omega) _
  · simp only [World.size_alloc]; omega
set_option maxRecDepth 100000 in
set_option maxHeartbeats 2000000 in
theorem events_any (x : Nd) (A : Option Addr) (n c : Nat) (w0 : World) (hn : x.f2.length = n) (hc : n ≤ c) (hC : Kd.C kNd w0 A n x.f2) (hl : 2 * nds x ≤ 1073741824) :
    Calls Try.prog 19 #[.agg #[.int .u8 x.f0, .int .u8 x.f1.f0, .string x.f1.f1, .int .i64 x.f1.f2.f0, .int .i64 x.f1.f2.f1, .int .i64 x.f1.f2.f2, .int .i64 x.f1.f3, .slice A n c]] w0 fun e w' => EvPost w0 (tells x) e w' := by
  have hW := Lib.hid (fun w (h : Out w0 w []) => walk_any w0 (nds x) x A n c (Nat.le_refl _) hn hc hC w [] h (by simpa using hl))
  have HS := Lib.hid (out_start w0 (.cells #[.int .u8 x.f0, .int .u8 x.f1.f0, .string x.f1.f1, .int .i64 x.f1.f2.f0, .int .i64 x.f1.f2.f1, .int .i64 x.f1.f2.f2, .int .i64 x.f1.f3, .slice A n c] TN))
  obtain ⟨ys, hys⟩ : ∃ ys, tells x = ys := ⟨_, rfl⟩
  rw [List.nil_append, hys] at hW
  rw [hys]
  clear hn hc hC hl hys
  go_enter Try.func19, Try.ntmps19
  go_wp2_with (first
    | (go_at_call 29; (with_reducible refine (hW.out _ HS.out).mono ?_); rintro e w2 ⟨⟨v2, rfl⟩, ho2, hp2⟩; (obtain ⟨v3, hv3, hr3⟩ := ho2.out); have cv3 := blk_cell hv3 0; simp only [List.getElem?_toArray, List.getElem?_cons_zero] at cv3; have HR3 := Lib.hid hr3; have HB3 := Lib.hid ho2.below; clear ho2 hp2 hr3 hv3))

  go_ret
  exact ⟨_, rfl, Kd.R_lower HR3.out (by omega), HB3.out⟩
end Go.Proofs.Ytfefldkljbbbpaa
