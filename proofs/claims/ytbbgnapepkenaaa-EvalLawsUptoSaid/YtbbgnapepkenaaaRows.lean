/-
  NARROWER THAN 'FOR EVERY INPUT', by the rows' own cells (each row's printed sentence says how): EvalTells: loops · EvalLaws: loops · EvalSame: loops.
  DERIVED. THE GIVEN ROWS OF THIS SEAT. 11 by the template 'for every input the law returns true; each argument reads behind the call as it read before'; 0 by the template 'total and deterministic' (their statements: YtbbgnapepkenaaaTotals.lean).
  GIVEN WITH THE SEED: the statements are not yours to turn. If you find one false, say at which input.
  Laid BY PROGRAM, IN A SANDBOX (cutbox-rows.mjs): the forced cells as the released guide's own fill.sh prints them over the translation eddd0db1981ebef7… (all of the seat's roots in one cut). By AI agents, Wed Nov 11 2026. No macro, syntax, notation, axiom, sorry.
-/
import Derived.Test.YtbbgnapepkenaaaChecked
import GoSem.Claim
import GoSem.ClaimJoined
import GoSem.ClaimMapViews
import Derived.JoinedTies
import Derived.KernelRfl
namespace Go.Proofs.Ytbbgnapepkenaaa
/- THE CELL 'sum', in the pinned program and in every row, IS THE sha256 OF THE DUMP (.gsa) THAT YtbbgnapepkenaaaProg.lean LOADS. Nothing in Lean hashes anything: it is a label: what it is worth is what the hold of that sum in a sandbox is worth. -/
noncomputable def Try.pinned : Pinned := { name := "ytbbgnapepkenaaa", sum := "eddd0db1981ebef7eb9a207837e6a467027b9b33ddebdbd38b94e898f96a6c95", checked := Try.checked }
namespace Rows
def none {H : Type} : Left H := { results := [], args := [] }

/-- 'verbatimlaw16.TierTells': WHATEVER THE INPUT: true; the input reads as it did. -/
def tierTellsSpec : ChangeSpec := { name := "tierTells", fn := fun _ => fun
  | [d1, d2, d3] => { results := [.lit (.bool true)], args := [d1, d2, d3] }
  | _ => none }
def tierTellsRow : OpenClaim := { program := "ytbbgnapepkenaaa", sum := "eddd0db1981ebef7eb9a207837e6a467027b9b33ddebdbd38b94e898f96a6c95", func := "verbatim/verbatimlaw16.TierTells", spec := "tierTells", apart := false }
def TierTellsSaid : Prop := tierTellsRow.holds Try.pinned (OpenSpec.ofChange tierTellsSpec)

/-- ITS FALSE NEIGHBOUR: 'it returns false'. Refute it at one input. -/
def tierTellsWrong : ChangeSpec := { name := "tierTells", fn := fun _ => fun
  | [d1, d2, d3] => { results := [.lit (.bool false)], args := [d1, d2, d3] }
  | _ => none }
def TierTellsWrongFalsely : Prop := tierTellsRow.holds Try.pinned (OpenSpec.ofChange tierTellsWrong)

/-- 'verbatimlaw16.TierEnds': WHATEVER THE INPUT: true; the input reads as it did. -/
def tierEndsSpec : ChangeSpec := { name := "tierEnds", fn := fun _ => fun
  | [d] => { results := [.lit (.bool true)], args := [d] }
  | _ => none }
def tierEndsRow : OpenClaim := { program := "ytbbgnapepkenaaa", sum := "eddd0db1981ebef7eb9a207837e6a467027b9b33ddebdbd38b94e898f96a6c95", func := "verbatim/verbatimlaw16.TierEnds", spec := "tierEnds", apart := false }
def TierEndsSaid : Prop := tierEndsRow.holds Try.pinned (OpenSpec.ofChange tierEndsSpec)

/-- ITS FALSE NEIGHBOUR: 'it returns false'. Refute it at one input. -/
def tierEndsWrong : ChangeSpec := { name := "tierEnds", fn := fun _ => fun
  | [d] => { results := [.lit (.bool false)], args := [d] }
  | _ => none }
def TierEndsWrongFalsely : Prop := tierEndsRow.holds Try.pinned (OpenSpec.ofChange tierEndsWrong)

/-- 'verbatimlaw16.TierPlan': WHATEVER THE INPUT: true; the input reads as it did. -/
def tierPlanSpec : ChangeSpec := { name := "tierPlan", fn := fun _ => fun
  | [d1, d2] => { results := [.lit (.bool true)], args := [d1, d2] }
  | _ => none }
def tierPlanRow : OpenClaim := { program := "ytbbgnapepkenaaa", sum := "eddd0db1981ebef7eb9a207837e6a467027b9b33ddebdbd38b94e898f96a6c95", func := "verbatim/verbatimlaw16.TierPlan", spec := "tierPlan", apart := false }
def TierPlanSaid : Prop := tierPlanRow.holds Try.pinned (OpenSpec.ofChange tierPlanSpec)

/-- ITS FALSE NEIGHBOUR: 'it returns false'. Refute it at one input. -/
def tierPlanWrong : ChangeSpec := { name := "tierPlan", fn := fun _ => fun
  | [d1, d2] => { results := [.lit (.bool false)], args := [d1, d2] }
  | _ => none }
def TierPlanWrongFalsely : Prop := tierPlanRow.holds Try.pinned (OpenSpec.ofChange tierPlanWrong)

/-- 'verbatimlaw16.TierKeeps': WHATEVER THE INPUT: true; the input reads as it did. -/
def tierKeepsSpec : ChangeSpec := { name := "tierKeeps", fn := fun _ => fun
  | [d1, d2] => { results := [.lit (.bool true)], args := [d1, d2] }
  | _ => none }
def tierKeepsRow : OpenClaim := { program := "ytbbgnapepkenaaa", sum := "eddd0db1981ebef7eb9a207837e6a467027b9b33ddebdbd38b94e898f96a6c95", func := "verbatim/verbatimlaw16.TierKeeps", spec := "tierKeeps", apart := false }
def TierKeepsSaid : Prop := tierKeepsRow.holds Try.pinned (OpenSpec.ofChange tierKeepsSpec)

/-- ITS FALSE NEIGHBOUR: 'it returns false'. Refute it at one input. -/
def tierKeepsWrong : ChangeSpec := { name := "tierKeeps", fn := fun _ => fun
  | [d1, d2] => { results := [.lit (.bool false)], args := [d1, d2] }
  | _ => none }
def TierKeepsWrongFalsely : Prop := tierKeepsRow.holds Try.pinned (OpenSpec.ofChange tierKeepsWrong)

/-- 'verbatimlaw20.EvalTells': WHATEVER THE INPUT: true; the input reads as it did. -/
def evalTellsSpec : ChangeSpec := { name := "evalTells", fn := fun _ => fun
  | [d1, d2, d3] => { results := [.lit (.bool true)], args := [d1, d2, d3] }
  | _ => none }
def evalTellsRow : OpenClaim := { program := "ytbbgnapepkenaaa", sum := "eddd0db1981ebef7eb9a207837e6a467027b9b33ddebdbd38b94e898f96a6c95", func := "verbatim/verbatimlaw20.EvalTells", spec := "evalTells", inPlace := ["internal/bytealg.IndexByteString", "internal/bytealg.IndexString"], unfollowed := true, recurses := true, named := ["internal/bytealg.MaxLen"], loops := true, apart := false }
def EvalTellsSaid : Prop := evalTellsRow.holds Try.pinned (OpenSpec.ofChange evalTellsSpec)

/-- ITS FALSE NEIGHBOUR: 'it returns false'. Refute it at one input. -/
def evalTellsWrong : ChangeSpec := { name := "evalTells", fn := fun _ => fun
  | [d1, d2, d3] => { results := [.lit (.bool false)], args := [d1, d2, d3] }
  | _ => none }
def EvalTellsWrongFalsely : Prop := evalTellsRow.holds Try.pinned (OpenSpec.ofChange evalTellsWrong)

/-- 'verbatimlaw20.EvalFinds': WHATEVER THE INPUT: true; the input reads as it did. -/
def evalFindsSpec : ChangeSpec := { name := "evalFinds", fn := fun _ => fun
  | [d1, d2] => { results := [.lit (.bool true)], args := [d1, d2] }
  | _ => none }
def evalFindsRow : OpenClaim := { program := "ytbbgnapepkenaaa", sum := "eddd0db1981ebef7eb9a207837e6a467027b9b33ddebdbd38b94e898f96a6c95", func := "verbatim/verbatimlaw20.EvalFinds", spec := "evalFinds", inPlace := ["internal/bytealg.IndexByteString", "internal/bytealg.IndexString"], unfollowed := true, recurses := true, named := ["internal/bytealg.MaxLen"], apart := false }
def EvalFindsSaid : Prop := evalFindsRow.holds Try.pinned (OpenSpec.ofChange evalFindsSpec)

/-- ITS FALSE NEIGHBOUR: 'it returns false'. Refute it at one input. -/
def evalFindsWrong : ChangeSpec := { name := "evalFinds", fn := fun _ => fun
  | [d1, d2] => { results := [.lit (.bool false)], args := [d1, d2] }
  | _ => none }
def EvalFindsWrongFalsely : Prop := evalFindsRow.holds Try.pinned (OpenSpec.ofChange evalFindsWrong)

/-- 'verbatimlaw20.EvalLaws': WHATEVER THE INPUT: true; the input reads as it did. -/
def evalLawsSpec : ChangeSpec := { name := "evalLaws", fn := fun _ => fun
  | [d1, d2, d3, d4] => { results := [.lit (.bool true)], args := [d1, d2, d3, d4] }
  | _ => none }
def evalLawsRow : OpenClaim := { program := "ytbbgnapepkenaaa", sum := "eddd0db1981ebef7eb9a207837e6a467027b9b33ddebdbd38b94e898f96a6c95", func := "verbatim/verbatimlaw20.EvalLaws", spec := "evalLaws", inPlace := ["internal/bytealg.IndexByteString", "internal/bytealg.IndexString"], unfollowed := true, recurses := true, named := ["internal/bytealg.MaxLen"], loops := true, apart := false }
def EvalLawsSaid : Prop := evalLawsRow.holds Try.pinned (OpenSpec.ofChange evalLawsSpec)

/-- ITS FALSE NEIGHBOUR: 'it returns false'. Refute it at one input. -/
def evalLawsWrong : ChangeSpec := { name := "evalLaws", fn := fun _ => fun
  | [d1, d2, d3, d4] => { results := [.lit (.bool false)], args := [d1, d2, d3, d4] }
  | _ => none }
def EvalLawsWrongFalsely : Prop := evalLawsRow.holds Try.pinned (OpenSpec.ofChange evalLawsWrong)

/-- 'verbatimlaw20.EvalParts': WHATEVER THE INPUT: true; the input reads as it did. -/
def evalPartsSpec : ChangeSpec := { name := "evalParts", fn := fun _ => fun
  | [d1, d2, d3, d4] => { results := [.lit (.bool true)], args := [d1, d2, d3, d4] }
  | _ => none }
def evalPartsRow : OpenClaim := { program := "ytbbgnapepkenaaa", sum := "eddd0db1981ebef7eb9a207837e6a467027b9b33ddebdbd38b94e898f96a6c95", func := "verbatim/verbatimlaw20.EvalParts", spec := "evalParts", inPlace := ["internal/bytealg.IndexByteString", "internal/bytealg.IndexString"], unfollowed := true, recurses := true, named := ["internal/bytealg.MaxLen"], apart := false }
def EvalPartsSaid : Prop := evalPartsRow.holds Try.pinned (OpenSpec.ofChange evalPartsSpec)

/-- ITS FALSE NEIGHBOUR: 'it returns false'. Refute it at one input. -/
def evalPartsWrong : ChangeSpec := { name := "evalParts", fn := fun _ => fun
  | [d1, d2, d3, d4] => { results := [.lit (.bool false)], args := [d1, d2, d3, d4] }
  | _ => none }
def EvalPartsWrongFalsely : Prop := evalPartsRow.holds Try.pinned (OpenSpec.ofChange evalPartsWrong)

/-- 'verbatimlaw20.EvalRows': WHATEVER THE INPUT: true; the input reads as it did. -/
def evalRowsSpec : ChangeSpec := { name := "evalRows", fn := fun _ => fun
  | [d1, d2, d3, d4] => { results := [.lit (.bool true)], args := [d1, d2, d3, d4] }
  | _ => none }
def evalRowsRow : OpenClaim := { program := "ytbbgnapepkenaaa", sum := "eddd0db1981ebef7eb9a207837e6a467027b9b33ddebdbd38b94e898f96a6c95", func := "verbatim/verbatimlaw20.EvalRows", spec := "evalRows", inPlace := ["internal/bytealg.IndexByteString", "internal/bytealg.IndexString"], unfollowed := true, recurses := true, named := ["internal/bytealg.MaxLen"], apart := false }
def EvalRowsSaid : Prop := evalRowsRow.holds Try.pinned (OpenSpec.ofChange evalRowsSpec)

/-- ITS FALSE NEIGHBOUR: 'it returns false'. Refute it at one input. -/
def evalRowsWrong : ChangeSpec := { name := "evalRows", fn := fun _ => fun
  | [d1, d2, d3, d4] => { results := [.lit (.bool false)], args := [d1, d2, d3, d4] }
  | _ => none }
def EvalRowsWrongFalsely : Prop := evalRowsRow.holds Try.pinned (OpenSpec.ofChange evalRowsWrong)

/-- 'verbatimlaw20.EvalSame': WHATEVER THE INPUT: true; the input reads as it did. -/
def evalSameSpec : ChangeSpec := { name := "evalSame", fn := fun _ => fun
  | [d1, d2, d3] => { results := [.lit (.bool true)], args := [d1, d2, d3] }
  | _ => none }
def evalSameRow : OpenClaim := { program := "ytbbgnapepkenaaa", sum := "eddd0db1981ebef7eb9a207837e6a467027b9b33ddebdbd38b94e898f96a6c95", func := "verbatim/verbatimlaw20.EvalSame", spec := "evalSame", inPlace := ["internal/bytealg.IndexByteString", "internal/bytealg.IndexString"], unfollowed := true, recurses := true, named := ["internal/bytealg.MaxLen"], loops := true, apart := false }
def EvalSameSaid : Prop := evalSameRow.holds Try.pinned (OpenSpec.ofChange evalSameSpec)

/-- ITS FALSE NEIGHBOUR: 'it returns false'. Refute it at one input. -/
def evalSameWrong : ChangeSpec := { name := "evalSame", fn := fun _ => fun
  | [d1, d2, d3] => { results := [.lit (.bool false)], args := [d1, d2, d3] }
  | _ => none }
def EvalSameWrongFalsely : Prop := evalSameRow.holds Try.pinned (OpenSpec.ofChange evalSameWrong)

/-- 'verbatimlaw20.EvalEmpty': WHATEVER THE INPUT: true; the input reads as it did. -/
def evalEmptySpec : ChangeSpec := { name := "evalEmpty", fn := fun _ => fun
  | [d1, d2] => { results := [.lit (.bool true)], args := [d1, d2] }
  | _ => none }
def evalEmptyRow : OpenClaim := { program := "ytbbgnapepkenaaa", sum := "eddd0db1981ebef7eb9a207837e6a467027b9b33ddebdbd38b94e898f96a6c95", func := "verbatim/verbatimlaw20.EvalEmpty", spec := "evalEmpty", inPlace := ["internal/bytealg.IndexByteString", "internal/bytealg.IndexString"], unfollowed := true, recurses := true, named := ["internal/bytealg.MaxLen"], apart := false }
def EvalEmptySaid : Prop := evalEmptyRow.holds Try.pinned (OpenSpec.ofChange evalEmptySpec)

/-- ITS FALSE NEIGHBOUR: 'it returns false'. Refute it at one input. -/
def evalEmptyWrong : ChangeSpec := { name := "evalEmpty", fn := fun _ => fun
  | [d1, d2] => { results := [.lit (.bool false)], args := [d1, d2] }
  | _ => none }
def EvalEmptyWrongFalsely : Prop := evalEmptyRow.holds Try.pinned (OpenSpec.ofChange evalEmptyWrong)

/- THE SECOND FORM. 'bulk': how many values and letters a reading holds, each counted each time it is reached (what is shared counts as often as it is met; a slice's spare places count too). A statement '..UptoSaid' is the law's where the arguments, and the package variables that the reading takes, are together of bulk at most 1048576: NARROWER than '..Said'. Prove '..Said' where nothing that the law and all that it calls make is longer than what came in: it says more and counts as full. Else prove '..UptoSaid'. A law counts once. -/
mutual
def uptoBulk {H : Type} : DataW H → Nat
  | .lit (.string bytes) => bytes.length + 1
  | .lit _ => 1
  | .nil => 1
  | .ptr d => uptoBulk d + 1
  | .slice elems spare => uptoBulkAll elems + uptoBulkAll spare + 1
  | .agg parts => uptoBulkAll parts + 1
  | .iface _ d => uptoBulk d + 1
  | .map entries => uptoBulkEntries entries + 1
  | .held _ => 1
def uptoBulkAll {H : Type} : List (DataW H) → Nat
  | [] => 0
  | d :: r => uptoBulk d + uptoBulkAll r
def uptoBulkEntries {H : Type} : List (Lit × DataW H) → Nat
  | [] => 0
  | x :: r => uptoBulkEntry x + uptoBulkEntries r
def uptoBulkEntry {H : Type} : Lit × DataW H → Nat
  | (.string bytes, d) => bytes.length + uptoBulk d + 1
  | (_, d) => uptoBulk d + 1
 end
def uptoSmall : (H : Type) → List (DataW H) → Bool := fun _ ds => decide (uptoBulkAll ds ≤ 1048576)
def OpenSpec.upto (s : _root_.Go.ChangeSpec) : _root_.Go.OpenSpec := { _root_.Go.OpenSpec.ofChange s with cond := some uptoSmall }

/-- 'verbatimlaw16.TierTells', WHERE WHAT IT READS IS OF BULK AT MOST 1048576: true; the input reads as it did. -/
def tierTellsUptoRow : OpenClaim := { program := "ytbbgnapepkenaaa", sum := "eddd0db1981ebef7eb9a207837e6a467027b9b33ddebdbd38b94e898f96a6c95", func := "verbatim/verbatimlaw16.TierTells", spec := "tierTells", apart := false, narrowed := true }
def TierTellsUptoSaid : Prop := tierTellsUptoRow.holds Try.pinned (OpenSpec.upto tierTellsSpec)

/-- 'verbatimlaw16.TierEnds', WHERE WHAT IT READS IS OF BULK AT MOST 1048576: true; the input reads as it did. -/
def tierEndsUptoRow : OpenClaim := { program := "ytbbgnapepkenaaa", sum := "eddd0db1981ebef7eb9a207837e6a467027b9b33ddebdbd38b94e898f96a6c95", func := "verbatim/verbatimlaw16.TierEnds", spec := "tierEnds", apart := false, narrowed := true }
def TierEndsUptoSaid : Prop := tierEndsUptoRow.holds Try.pinned (OpenSpec.upto tierEndsSpec)

/-- 'verbatimlaw16.TierPlan', WHERE WHAT IT READS IS OF BULK AT MOST 1048576: true; the input reads as it did. -/
def tierPlanUptoRow : OpenClaim := { program := "ytbbgnapepkenaaa", sum := "eddd0db1981ebef7eb9a207837e6a467027b9b33ddebdbd38b94e898f96a6c95", func := "verbatim/verbatimlaw16.TierPlan", spec := "tierPlan", apart := false, narrowed := true }
def TierPlanUptoSaid : Prop := tierPlanUptoRow.holds Try.pinned (OpenSpec.upto tierPlanSpec)

/-- 'verbatimlaw16.TierKeeps', WHERE WHAT IT READS IS OF BULK AT MOST 1048576: true; the input reads as it did. -/
def tierKeepsUptoRow : OpenClaim := { program := "ytbbgnapepkenaaa", sum := "eddd0db1981ebef7eb9a207837e6a467027b9b33ddebdbd38b94e898f96a6c95", func := "verbatim/verbatimlaw16.TierKeeps", spec := "tierKeeps", apart := false, narrowed := true }
def TierKeepsUptoSaid : Prop := tierKeepsUptoRow.holds Try.pinned (OpenSpec.upto tierKeepsSpec)

/-- 'verbatimlaw20.EvalTells', WHERE WHAT IT READS IS OF BULK AT MOST 1048576: true; the input reads as it did. -/
def evalTellsUptoRow : OpenClaim := { program := "ytbbgnapepkenaaa", sum := "eddd0db1981ebef7eb9a207837e6a467027b9b33ddebdbd38b94e898f96a6c95", func := "verbatim/verbatimlaw20.EvalTells", spec := "evalTells", inPlace := ["internal/bytealg.IndexByteString", "internal/bytealg.IndexString"], unfollowed := true, recurses := true, named := ["internal/bytealg.MaxLen"], loops := true, apart := false, narrowed := true }
def EvalTellsUptoSaid : Prop := evalTellsUptoRow.holds Try.pinned (OpenSpec.upto evalTellsSpec)

/-- 'verbatimlaw20.EvalFinds', WHERE WHAT IT READS IS OF BULK AT MOST 1048576: true; the input reads as it did. -/
def evalFindsUptoRow : OpenClaim := { program := "ytbbgnapepkenaaa", sum := "eddd0db1981ebef7eb9a207837e6a467027b9b33ddebdbd38b94e898f96a6c95", func := "verbatim/verbatimlaw20.EvalFinds", spec := "evalFinds", inPlace := ["internal/bytealg.IndexByteString", "internal/bytealg.IndexString"], unfollowed := true, recurses := true, named := ["internal/bytealg.MaxLen"], apart := false, narrowed := true }
def EvalFindsUptoSaid : Prop := evalFindsUptoRow.holds Try.pinned (OpenSpec.upto evalFindsSpec)

/-- 'verbatimlaw20.EvalLaws', WHERE WHAT IT READS IS OF BULK AT MOST 1048576: true; the input reads as it did. -/
def evalLawsUptoRow : OpenClaim := { program := "ytbbgnapepkenaaa", sum := "eddd0db1981ebef7eb9a207837e6a467027b9b33ddebdbd38b94e898f96a6c95", func := "verbatim/verbatimlaw20.EvalLaws", spec := "evalLaws", inPlace := ["internal/bytealg.IndexByteString", "internal/bytealg.IndexString"], unfollowed := true, recurses := true, named := ["internal/bytealg.MaxLen"], loops := true, apart := false, narrowed := true }
def EvalLawsUptoSaid : Prop := evalLawsUptoRow.holds Try.pinned (OpenSpec.upto evalLawsSpec)

/-- 'verbatimlaw20.EvalParts', WHERE WHAT IT READS IS OF BULK AT MOST 1048576: true; the input reads as it did. -/
def evalPartsUptoRow : OpenClaim := { program := "ytbbgnapepkenaaa", sum := "eddd0db1981ebef7eb9a207837e6a467027b9b33ddebdbd38b94e898f96a6c95", func := "verbatim/verbatimlaw20.EvalParts", spec := "evalParts", inPlace := ["internal/bytealg.IndexByteString", "internal/bytealg.IndexString"], unfollowed := true, recurses := true, named := ["internal/bytealg.MaxLen"], apart := false, narrowed := true }
def EvalPartsUptoSaid : Prop := evalPartsUptoRow.holds Try.pinned (OpenSpec.upto evalPartsSpec)

/-- 'verbatimlaw20.EvalRows', WHERE WHAT IT READS IS OF BULK AT MOST 1048576: true; the input reads as it did. -/
def evalRowsUptoRow : OpenClaim := { program := "ytbbgnapepkenaaa", sum := "eddd0db1981ebef7eb9a207837e6a467027b9b33ddebdbd38b94e898f96a6c95", func := "verbatim/verbatimlaw20.EvalRows", spec := "evalRows", inPlace := ["internal/bytealg.IndexByteString", "internal/bytealg.IndexString"], unfollowed := true, recurses := true, named := ["internal/bytealg.MaxLen"], apart := false, narrowed := true }
def EvalRowsUptoSaid : Prop := evalRowsUptoRow.holds Try.pinned (OpenSpec.upto evalRowsSpec)

/-- 'verbatimlaw20.EvalSame', WHERE WHAT IT READS IS OF BULK AT MOST 1048576: true; the input reads as it did. -/
def evalSameUptoRow : OpenClaim := { program := "ytbbgnapepkenaaa", sum := "eddd0db1981ebef7eb9a207837e6a467027b9b33ddebdbd38b94e898f96a6c95", func := "verbatim/verbatimlaw20.EvalSame", spec := "evalSame", inPlace := ["internal/bytealg.IndexByteString", "internal/bytealg.IndexString"], unfollowed := true, recurses := true, named := ["internal/bytealg.MaxLen"], loops := true, apart := false, narrowed := true }
def EvalSameUptoSaid : Prop := evalSameUptoRow.holds Try.pinned (OpenSpec.upto evalSameSpec)

/-- 'verbatimlaw20.EvalEmpty', WHERE WHAT IT READS IS OF BULK AT MOST 1048576: true; the input reads as it did. -/
def evalEmptyUptoRow : OpenClaim := { program := "ytbbgnapepkenaaa", sum := "eddd0db1981ebef7eb9a207837e6a467027b9b33ddebdbd38b94e898f96a6c95", func := "verbatim/verbatimlaw20.EvalEmpty", spec := "evalEmpty", inPlace := ["internal/bytealg.IndexByteString", "internal/bytealg.IndexString"], unfollowed := true, recurses := true, named := ["internal/bytealg.MaxLen"], apart := false, narrowed := true }
def EvalEmptyUptoSaid : Prop := evalEmptyUptoRow.holds Try.pinned (OpenSpec.upto evalEmptySpec)

end Rows
end Go.Proofs.Ytbbgnapepkenaaa
