-- Written for this claim by a program of this session (over the kit's print tool): functions as Lean functions, their contracts, rows. Lean checks it.
import Derived.Test.YtbbgnapepkenaaaQ0
namespace Go.Proofs.Ytbbgnapepkenaaa.Q
open Go.RowKit Go.Proofs.YtbbgnapepkenaaaW.PrintWords Go.Proofs.YtbbgnapepkenaaaW.PrintLast Go.Proofs.YtbbgnapepkenaaaW.PrintMore
attribute [local go_sem] max2_int min2_int max_two min_two max_three min_three max_four min_four   -- for this text's walks alone
set_option linter.unusedVariables false
set_option linter.unusedSimpArgs false

open Go.Proofs.Ytbbgnapepkenaaa.Opens in
def Good25 (x : S25) : Prop := ((Lit.int .i64 x.f0).wf = true) ∧ ((Lit.int .i64 x.f1).wf = true) ∧ ((Lit.int .i64 x.f2).wf = true) ∧ ((Lit.int .i64 x.f3).wf = true)
open Go.Proofs.Ytbbgnapepkenaaa.Opens in
theorem opens_T25 (n : Nat) : Opens Try.prog 25 k25 Good25 n := by
  refine opens_struct (G := (both (fun (x_ : Int) => (Lit.int .i64 x_).wf = true) (both (fun (x_ : Int) => (Lit.int .i64 x_).wf = true) (both (fun (x_ : Int) => (Lit.int .i64 x_).wf = true) (fun (x_ : Int) => (Lit.int .i64 x_).wf = true))))) (g := (fun (p_ : (Int) × (Int) × (Int) × (Int)) => (⟨p_.1, p_.2.1, p_.2.2.1, p_.2.2.2⟩ : S25))) Try.underlying25 (by kernel_rfl : Try.prog.cellsOf 25 = 4) (fun _ => rfl) (fun _ h_ => h_) ?_
  exact (rest_cons (by rfl) (by kernel_rfl) (opens_int Try.underlying2 _) (rest_cons (by rfl) (by kernel_rfl) (opens_int Try.underlying3 _) (rest_cons (by rfl) (by kernel_rfl) (opens_int Try.underlying3 _) (rest_last (by rfl) (by kernel_rfl) (opens_int Try.underlying2 _)))))
open Go.Proofs.Ytbbgnapepkenaaa.Opens in
def Good40 (_ : S40) : Prop := True
open Go.Proofs.Ytbbgnapepkenaaa.Opens in
theorem opensF40 (d : Kd S40) (n : Nat) (hd : d.sz = 3) (ho : Opens Try.prog 40 d Good40 n) : Opens Try.prog 40 (F40 d) Good40 (n + 1) := by
  refine opens_struct (G := (both (fun (_ : Int) => True) (both (fun (_ : List ByteArray) => True) (fun (_ : List (S40)) => True)))) (g := (fun (p_ : (Int) × (List ByteArray) × (List (S40))) => (⟨p_.1, p_.2.1, p_.2.2⟩ : S40))) Try.underlying40 (by kernel_rfl : Try.prog.cellsOf 40 = 3) (fun _ => rfl) (fun _ _ => trivial) ?_
  exact (show OpensRest _ _ 0 _ _ n from (rest_cons (by rfl) (by kernel_rfl) (((opens_int Try.underlying3 n)).good (G' := fun _ => True) (fun _ _ => trivial)) (rest_cons (by rfl) (by kernel_rfl) (((opens_slice (n := n) Try.underlying37 (by kernel_rfl) (opens_string Try.underlying9 _))).good (G' := fun _ => True) (fun _ _ => trivial)) (rest_last (by rfl) (by first | (rw [hd]; kernel_rfl) | kernel_rfl) ((opens_slice (d := d) (G := Good40) (n := n) Try.underlying38 (by rw [hd]; kernel_rfl) (ho.weaken (Nat.sub_le _ _))).good (G' := fun _ => True) (fun _ _ => trivial))))))
open Go.Proofs.Ytbbgnapepkenaaa.Opens in
theorem opens_T40 (n : Nat) : Opens Try.prog 40 k40 Good40 n := opens_fix (fun d n hd ho => opensF40 d n hd ho) n
end Go.Proofs.Ytbbgnapepkenaaa.Q
