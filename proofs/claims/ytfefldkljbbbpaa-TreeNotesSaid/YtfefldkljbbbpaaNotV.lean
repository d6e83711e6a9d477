/- TreeNotes: all inputs. -/
import Derived.Test.YtfefldkljbbbpaaNotW
namespace Go.Proofs.Ytfefldkljbbbpaa
open Go.RowKit
theorem treeNotes_walk (x : Nd) (A : Option Addr) (c : Nat) (at0 : Int) (tx : ByteArray) (W : World) (hlc : x.f2.length ≤ c) (hC : Go.Proofs.YtfefldkljbbbpaaW.PrintWords.Kd.C kNd W A x.f2.length x.f2) (ha0 : -9223372036854775808 ≤ at0) (ha1 : at0 ≤ 9223372036854775807) (_htx : tx.size ≤ 140737488351232) :
    Calls Try.prog 6 #[.agg #[.int .u8 x.f0, .int .u8 x.f1.f0, .string x.f1.f1, .int .i64 x.f1.f2.f0, .int .i64 x.f1.f2.f1, .int .i64 x.f1.f2.f2, .int .i64 x.f1.f3, .slice A x.f2.length c], .int .i64 at0, .string tx] W fun e w' => e = .returned (.bool true) ∧ Below W.heap.size W w' :=
  treeNotes_main x A c at0 tx W ha0 ha1 hC hlc
end Go.Proofs.Ytfefldkljbbbpaa
