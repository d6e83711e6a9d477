/- Rows of numbers, as the walks hand them on: what comes out, what a literal holds. -/
import Derived.Test.YtocijojjfcpaoaaDoorPts
import Derived.Test.YtocijojjfcpaoaaDoorNext
import Derived.Test.YtocijojjfcpaoaaDoorTxt
import Derived.Test.YtocijojjfcpaoaaDoorWhole2
set_option linter.unusedVariables false
namespace Go.Proofs.YtocijojjfcpaoaaDoor
open Go.RowKit Go.Proofs.YtocijojjfcpaoaaDoorW.PrintWords Go.Proofs.YtocijojjfcpaoaaDoorW.PrintMore

abbrev CI (w : World) (A : Option Addr) (l : List Int) : Prop := Kd.C (Kd.int .i64) w A l.length l

theorem slice_of_R {e base : Nat} {w : World} {ok : Nat → Prop} {v : Value} {xs : List Int} (h : Kd.R (Kd.int .i64) e w base ok v xs) : ∃ A c, v = .slice A xs.length c ∧ xs.length ≤ c ∧ CI w A xs := by
  obtain ⟨A, c, rfl⟩ := Kd.R_slice h
  have h2 := Kd.R_reads' h
  exact ⟨A, c, rfl, h2.2.1, h2.2.2⟩

theorem C_ints {w : World} {B : Nat} {l : List Int} {t : TypeId} {fr : Nat × Nat} (h : w.heap[B]? = some (.cells (l.map (Value.int .i64)).toArray t fr)) (hl : l.length ≤ 9223372036854775807) : CI w (some ⟨B, 0, none⟩) l := by
  refine Kd.C_of_reads (enc := Value.int .i64) (d := (0 : Int)) (h1 := fun _ => rfl) ⟨rfl, hl, fun hn => ⟨_, rfl, fun j hj => ?_⟩⟩
  rw [show (⟨B, 0, none⟩ : Addr).add j = ⟨B, 0 + j, none⟩ from by (unfold Addr.add; split <;> simp_all), cell_of_row _ _ _ _ _ _ h, Nat.zero_add]
  simp [hj]

theorem points_row (s : ByteArray) (w : World) (hs : s.size ≤ 17592186044416) :
    Calls Tryd.prog 27 #[.string s] w fun e w' => ∃ A c, e = .returned (.slice A (Pl.pts (Pl.runes s 0)).length c) ∧ (Pl.pts (Pl.runes s 0)).length ≤ c ∧ CI w' A (Pl.pts (Pl.runes s 0)) ∧ Below w.heap.size w w' := by
  refine (points_any s w hs).mono ?_
  rintro e w' ⟨v, rfl, hr, hb⟩
  obtain ⟨A, c, rfl, hc, hC⟩ := slice_of_R hr
  exact ⟨A, c, rfl, hc, hC, hb⟩

theorem places_row (s : ByteArray) (w : World) (hs : s.size ≤ 17592186044416) :
    Calls Tryd.prog 44 #[.string s] w fun e w' => ∃ A c, e = .returned (.slice A (Pl.plcs (Pl.runes s 0)).length c) ∧ (Pl.plcs (Pl.runes s 0)).length ≤ c ∧ CI w' A (Pl.plcs (Pl.runes s 0)) ∧ Below w.heap.size w w' := by
  refine (places_any s w hs).mono ?_
  rintro e w' ⟨v, rfl, hr, hb⟩
  obtain ⟨A, c, rfl, hc, hC⟩ := slice_of_R hr
  exact ⟨A, c, rfl, hc, hC, hb⟩
end Go.Proofs.YtocijojjfcpaoaaDoor
