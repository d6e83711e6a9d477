/- TreeBuilds: all inputs. -/
import Derived.Test.YtfefldkljbbbpaaTBuilds
namespace Go.Proofs.Ytfefldkljbbbpaa
open Go.RowKit
theorem treeBuilds_walk (A : Option Addr) (n c : Nat) (B : Option Addr) (k d : Nat) (W : World) (hA : ∃ l : List Ev, l.length = n ∧ n ≤ c ∧ Go.Proofs.YtfefldkljbbbpaaW.PrintWords.Kd.C kEv W A n l) (hB : ∃ m : List Ev, m.length = k ∧ k ≤ d ∧ Go.Proofs.YtfefldkljbbbpaaW.PrintWords.Kd.C kEv W B k m) :
    Calls Try.prog 3 #[.slice A n c, .slice B k d] W fun e w' => e = .returned (.bool true) ∧ Below W.heap.size W w' := by
  obtain ⟨l, hn, hlc, hC⟩ := hA
  obtain ⟨m, hk, hkd, hD⟩ := hB
  by_cases h : 16777216 < n ∨ 16777216 < k
  · exact wl_awake n k A B c d W h
  · exact treeBuilds_main l m A B n c k d W hn hk (by omega) (by omega) hlc hkd hC hD
end Go.Proofs.Ytfefldkljbbbpaa
