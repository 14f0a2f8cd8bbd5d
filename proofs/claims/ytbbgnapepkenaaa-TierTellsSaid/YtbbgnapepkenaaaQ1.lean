-- Written for this claim by a program of this session (over the kit's print tool): functions as Lean functions, their contracts, rows. Lean checks it.
import Derived.Test.YtbbgnapepkenaaaQ0
namespace Go.Proofs.Ytbbgnapepkenaaa.Q
open Go.RowKit Go.Proofs.YtbbgnapepkenaaaW.PrintWords Go.Proofs.YtbbgnapepkenaaaW.PrintLast Go.Proofs.YtbbgnapepkenaaaW.PrintMore
attribute [local go_sem] max2_int min2_int max_two min_two max_three min_three max_four min_four   -- for this text's walks alone
set_option linter.unusedVariables false
set_option linter.unusedSimpArgs false

open Go.Proofs.Ytbbgnapepkenaaa.Opens in
def Good25 (x : S25) : Prop := ((Lit.int .i64 x.f0).wf = true) ∧ ((Lit.int .i64 x.f1).wf = true) ∧ ((Lit.int .i64 x.f2).wf = true) ∧ ((Lit.int .i64 x.f3).wf = true)
open Go.Proofs.Ytbbgnapepkenaaa.Opens in
theorem opens_T25 (n : Nat) : Opens Try.prog 25 k25 Good25 n := by
  refine opens_struct (G := (both (fun (x_ : Int) => (Lit.int .i64 x_).wf = true) (both (fun (x_ : Int) => (Lit.int .i64 x_).wf = true) (both (fun (x_ : Int) => (Lit.int .i64 x_).wf = true) (fun (x_ : Int) => (Lit.int .i64 x_).wf = true))))) (g := (fun (p_ : (Int) × (Int) × (Int) × (Int)) => (⟨p_.1, p_.2.1, p_.2.2.1, p_.2.2.2⟩ : S25))) Try.underlying25 (by kernel_rfl : Try.prog.cellsOf 25 = 4) (fun _ => rfl) (fun _ h_ => h_) ?_
  exact (rest_cons (by rfl) (by kernel_rfl) (opens_int Try.underlying2 _) (rest_cons (by rfl) (by kernel_rfl) (opens_int Try.underlying3 _) (rest_cons (by rfl) (by kernel_rfl) (opens_int Try.underlying3 _) (rest_last (by rfl) (by kernel_rfl) (opens_int Try.underlying2 _)))))
end Go.Proofs.Ytbbgnapepkenaaa.Q
