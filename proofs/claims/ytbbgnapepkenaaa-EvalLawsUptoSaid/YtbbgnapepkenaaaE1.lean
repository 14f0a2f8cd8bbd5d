-- Written for this claim by a program of this session (over the kit's print tool): functions as Lean functions, their contracts, rows. Lean checks it.
import Derived.Test.YtbbgnapepkenaaaE0
namespace Go.Proofs.Ytbbgnapepkenaaa.E
open Go.RowKit Go.Proofs.YtbbgnapepkenaaaW.PrintWords Go.Proofs.YtbbgnapepkenaaaW.PrintLast Go.Proofs.YtbbgnapepkenaaaW.PrintMore
attribute [local go_sem] max2_int min2_int max_two min_two max_three min_three max_four min_four   -- for this text's walks alone
set_option linter.unusedVariables false
set_option linter.unusedSimpArgs false

open Go.Proofs.Ytbbgnapepkenaaa.Opens in
inductive Good40 : S40 → Prop where
  | mk {x : S40} : ((Lit.int .i64 x.f0).wf = true) → (x.f1.length ≤ 8796093021952 ∧ ∀ x_ ∈ x.f1, x_.size ≤ 140737488351232) → (x.f2.length ≤ 2513169434843) → (∀ x_ ∈ x.f2, Good40 x_) → Good40 x
open Go.Proofs.Ytbbgnapepkenaaa.Opens in
theorem opensF40 (d : Kd S40) (n : Nat) (hd : d.sz = 3) (ho : Opens Try.prog 40 d Good40 n) : Opens Try.prog 40 (F40 d) Good40 (n + 1) := by
  refine opens_struct (G := (both (fun (q_ : Int) => (Lit.int .i64 q_).wf = true) (both (fun (q_ : List ByteArray) => q_.length ≤ 8796093021952 ∧ ∀ x_ ∈ q_, x_.size ≤ 140737488351232) (fun (q_ : List (S40)) => q_.length ≤ 2513169434843 ∧ ∀ x_ ∈ q_, Good40 x_)))) (g := (fun (p_ : (Int) × (List ByteArray) × (List (S40))) => (⟨p_.1, p_.2.1, p_.2.2⟩ : S40))) Try.underlying40 (by kernel_rfl : Try.prog.cellsOf 40 = 3) (fun _ => rfl) (fun _ h_ => Good40.mk h_.1 h_.2.1 h_.2.2.1 h_.2.2.2) ?_
  exact (show OpensRest _ _ 0 _ _ n from (rest_cons (by rfl) (by kernel_rfl) ((opens_int Try.underlying3 n)) (rest_cons (by rfl) (by kernel_rfl) ((opens_slice (n := n) (m := 8796093021952) Try.underlying37 (by kernel_rfl) (of_decide_eq_true (by kernel_rfl)) (by kernel_rfl) (opens_string Try.underlying9 _))) (rest_last (by rfl) (by first | (rw [hd]; kernel_rfl) | kernel_rfl) ((opens_slice (d := d) (G := Good40) (n := n) (m := 2513169434843) Try.underlying38 (by rw [hd]; kernel_rfl) (of_decide_eq_true (by kernel_rfl)) (by kernel_rfl) (ho.weaken (Nat.sub_le _ _))))))))
open Go.Proofs.Ytbbgnapepkenaaa.Opens in
theorem opens_T40 (n : Nat) : Opens Try.prog 40 k40 Good40 n := opens_fix (fun d n hd ho => opensF40 d n hd ho) n
end Go.Proofs.Ytbbgnapepkenaaa.E
