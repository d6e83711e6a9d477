/- TreeBack: all inputs. -/
import Derived.Test.YtfefldkljbbbpaaBackB
set_option linter.unusedVariables false
namespace Go.Proofs.Ytfefldkljbbbpaa
open Go.RowKit
theorem treeBack_walk (A0 : Option Addr) (n c0 : Nat) (x : Nd) (A : Option Addr) (c : Nat) (W : World) (hS : ∃ l : List Ev, l.length = n ∧ n ≤ c0 ∧ Go.Proofs.YtfefldkljbbbpaaW.PrintWords.Kd.C kEv W A0 n l) (hlc : x.f2.length ≤ c) (hC : Go.Proofs.YtfefldkljbbbpaaW.PrintWords.Kd.C kNd W A x.f2.length x.f2) :
    Calls Try.prog 5 #[.slice A0 n c0, .agg #[.int .u8 x.f0, .int .u8 x.f1.f0, .string x.f1.f1, .int .i64 x.f1.f2.f0, .int .i64 x.f1.f2.f1, .int .i64 x.f1.f2.f2, .int .i64 x.f1.f3, .slice A x.f2.length c]] W fun e w' => e = .returned (.bool true) ∧ Below W.heap.size W w' := by
  obtain ⟨l, rfl, hlc0, hr⟩ := hS
  by_cases hl : l.length ≤ 16777216
  · exact treeBack_main l x A0 A c0 c W hr hl hlc0 hC hlc
  · exact treeBack_long x A0 A l.length c0 c W (by omega)
end Go.Proofs.Ytfefldkljbbbpaa
