/- Things: when two are equal. -/
import Derived.Test.YtbopnglncjdnmaaProg
import Derived.WalkKit
import Derived.WalkSpells
import Derived.KernelRfl
import Derived.Laws.StructEq
import Derived.Laws.ResultCell
import Derived.Laws.BytesString
set_option linter.unusedSimpArgs false
set_option linter.unusedVariables false
namespace Go.Proofs.Ytbopnglncjdnmaa
open Go.RowKit

theorem thing_fields : (Try.prog.fieldsOf 36).toList = [⟨"Name", 9, 0, false, "", "", 0⟩, ⟨"At", 34, 1, false, "", "", 16⟩] := by kernel_rfl
theorem arr_eq (w : World) (a1 a2 b1 b2 : Int) :
    (Op.equalIn 9999 34 (.agg #[.int .i64 a1, .int .i64 b1]) (.agg #[.int .i64 a2, .int .i64 b2])).run Try.prog w = .ok ((a1 == a2) && (b1 == b2)) w := by
  rw [show (9999 : Nat) = 9998 + 1 from rfl]
  unfold Op.equalIn
  simp only [Sem.run_bind, run_underlying Try.underlying34, Result.andThen_ok]
  go_simp
  rw [show List.range' 0 2 = [0, 1] from rfl]
  go_simp
  by_cases h1 : a1 = a2 <;> by_cases h2 : b1 = b2 <;> simp [h1, h2]
theorem thing_eq (w : World) (s1 s2 : ByteArray) (a1 a2 b1 b2 : Int) :
    (binOp .eql 36 (.agg #[.string s1, .int .i64 a1, .int .i64 b1]) (.agg #[.string s2, .int .i64 a2, .int .i64 b2])).run Try.prog w = .ok (.bool ((s1.toList == s2.toList) && ((a1 == a2) && (b1 == b2)))) w := by
  rw [run_eql_struct, show (10000 : Nat) = 9999 + 1 from rfl, run_equalIn_struct w 9999 _ _ _ (by kernel_rfl) (by kernel_rfl), thing_fields]
  simp only [Op.eqFields]
  go_simp
  rw [arr_eq]
  go_simp
  by_cases h0 : s1.toList = s2.toList <;> by_cases h1 : a1 = a2 <;> by_cases h2 : b1 = b2 <;> simp [h0, h1, h2]

/-- The thing that is made of a number. -/
def thCells (x : Int) : Array Value := #[.string ⟨#[UInt8.ofNat (x % 256).toNat]⟩, .int .i64 x, .int .i64 (wrap64 (-x))]
theorem conv_one (w : World) (B : Nat) (z : Int) (h : w.cell? ⟨B, 0, none⟩ = some (.int .u8 z)) :
    (convert 60 9 (.slice (some ⟨B, 0, none⟩) 1 1)).run Try.prog w = .ok (.string ⟨#[UInt8.ofNat z.toNat]⟩) w := by
  rw [run_convert_bytes_string w _ _ _ _ _ _ Try.underlying60 Try.underlying5 Try.underlying9]
  rw [run_bytesToString w ⟨B, 0, none⟩ 1 1 [z] (by go_simp)]
  rfl
set_option maxRecDepth 100000 in
theorem thing_any (x : Int) (w : World) (h0 : -9223372036854775808 ≤ x) (h1 : x ≤ 9223372036854775807) : Calls Try.prog 20 #[.int .i64 x] w fun e w' => e = .returned (.agg (thCells x)) ∧ w' = (w.alloc (.cells (thCells x) 36)).alloc (.cells #[.int .u8 (x % 256)] 5) := by
  have HCV := conv_one
  go_enter Try.func20, Try.ntmps20
  go_wp2
  refine ⟨rfl, .agg (thCells x), ?_, rfl, rfl⟩
  first
    | (unfold results; rw [show Try.f20.results = #[.cell 2 36] from rfl]; go_simp; done)
    | (unfold results; rw [show Try.f20.results = #[.cell 2 36] from rfl]; go_simp; rfl)
end Go.Proofs.Ytbopnglncjdnmaa
