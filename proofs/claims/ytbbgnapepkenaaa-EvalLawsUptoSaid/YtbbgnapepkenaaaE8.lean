import Derived.Test.YtbbgnapepkenaaaE0
import Derived.Test.YtbbgnapepkenaaaE1
import Derived.Test.YtbbgnapepkenaaaE4
import Derived.Test.YtbbgnapepkenaaaE7
import Derived.Test.YtbbgnapepkenaaaE8p1
import Derived.Test.YtbbgnapepkenaaaE8p2
import Derived.Test.YtbbgnapepkenaaaE8p0
namespace Go.Proofs.Ytbbgnapepkenaaa.E
open Go.Proofs.YtbbgnapepkenaaaW.PrintMore Go.RowKit Go.Proofs.YtbbgnapepkenaaaW.PrintWords Go.Proofs.YtbbgnapepkenaaaW.PrintLast Go.Proofs.YtbbgnapepkenaaaW.PrintMore
attribute [local go_sem] max2_int min2_int max_two min_two max_three min_three max_four min_four   -- for this text's walks alone
set_option linter.unusedVariables false
set_option linter.unusedSimpArgs false
theorem verbatimlaw20_EvalLaws.calls (k : Nat) (a0_0 : Int) (P0_1_ : Nat → Prop) (A0_1 : Option Addr) (c0_1 : Nat) (l0_1 : List ByteArray) (P0_2_ : Nat → Prop) (A0_2 : Option Addr) (c0_2 : Nat) (l0_2 : List (S40)) (a1_0 : Int) (P1_1_ : Nat → Prop) (A1_1 : Option Addr) (c1_1 : Nat) (l1_1 : List ByteArray) (P1_2_ : Nat → Prop) (A1_2 : Option Addr) (c1_2 : Nat) (l1_2 : List (S40)) (a2 : ByteArray) (a3 : ByteArray) (r : Bool) (w : World) (hG : GlobOk w) (hs0_1 : Kd.V Kd.string 9 w w.heap.size (fun k_ => P0_1_ k_) (.slice A0_1 l0_1.length c0_1) l0_1) (hs0_2 : Kd.V k40 40 w w.heap.size (fun k_ => P0_2_ k_) (.slice A0_2 l0_2.length c0_2) l0_2) (hs1_1 : Kd.V Kd.string 9 w w.heap.size (fun k_ => P1_1_ k_) (.slice A1_1 l1_1.length c1_1) l1_1) (hs1_2 : Kd.V k40 40 w w.heap.size (fun k_ => P1_2_ k_) (.slice A1_2 l1_2.length c1_2) l1_2) (h : verbatimlaw20_EvalLaws.f k a0_0 l0_1 l0_2 a1_0 l1_1 l1_2 a2 a3 = some r) :
  Calls Try.prog 9 #[.agg #[.int .i64 a0_0, .slice A0_1 l0_1.length c0_1, .slice A0_2 l0_2.length c0_2], .agg #[.int .i64 a1_0, .slice A1_1 l1_1.length c1_1, .slice A1_2 l1_2.length c1_2], .string a2, .string a3] w fun e w' => e = .returned (.bool r) ∧ Below w.heap.size w w' := verbatimlaw20_EvalLaws_calls_part.2.2 verbatimlaw20_EvalLaws_calls_part0 verbatimlaw20_EvalLaws_calls_part1 k a0_0 P0_1_ A0_1 c0_1 l0_1 P0_2_ A0_2 c0_2 l0_2 a1_0 P1_1_ A1_1 c1_1 l1_1 P1_2_ A1_2 c1_2 l1_2 a2 a3 r w hG hs0_1 hs0_2 hs1_1 hs1_2 h
/-- THE ONE PURE STATEMENT of verbatimlaw20_EvalLaws. -/
def verbatimlaw20_EvalLaws.Pure : Prop := ∀ (x0 : S40) (x1 : S40) (a2 : ByteArray) (a3 : ByteArray), a2.size ≤ 140737488351232 → a3.size ≤ 140737488351232 → Good40 x0 → Good40 x1 → ∃ k, verbatimlaw20_EvalLaws.f k x0.f0 x0.f1 x0.f2 x1.f0 x1.f1 x1.f2 a2 a3 = some true

end Go.Proofs.Ytbbgnapepkenaaa.E
