/- Of any segments, places and one: Plan and Done are the document's. The plain statement of the law TierTells. -/
import Derived.Test.YtbbgnapepkenaaaQ6
import Derived.Test.YtbbgnapepkenaaaTierPure2
namespace Go.Proofs.Ytbbgnapepkenaaa.Pure
set_option linter.unusedVariables false
set_option linter.unusedSimpArgs false
open Go.RowKit Go.Proofs.Ytbbgnapepkenaaa.Q Go.Proofs.YtbbgnapepkenaaaW.PrintWords Go.Proofs.Ytbbgnapepkenaaa.PureLib Go.Proofs.Ytbbgnapepkenaaa.TierP Go.Proofs.Ytbbgnapepkenaaa.TierPure
theorem wf_lo {n : Int} (h : (Lit.int .i64 n).wf = true) : -9223372036854775808 ≤ n := Q.wf_lo h
theorem TierTells : verbatimlaw16_TierTells.Pure := by
  intro l ps o ⟨_, hl⟩ _ _
  have hw : ∀ x ∈ l, (Lit.int .i64 x.f2).wf = true := fun x hx => (hl x hx).2.2.1
  refine Ev.rounds ?_
  unfold verbatimlaw16_TierTells.f
  refine ev_bind head_ev ?_
  have stop : Ev (fun k => verbatimlaw16_TierTells.j0 k l ps true true o.f0 o.f1 o.f2 o.f3) true := ev_some (fun k => by simp only [verbatimlaw16_TierTells.j0]; rw [if_pos trivial])
  refine ev_if (fun _ => stop) (fun h1 => ?_)
  by_cases h2 : (ps.length : Int) > 200
  · rw [decide_eq_true h2]
    exact stop
  · rw [decide_eq_false h2]
    refine evs (f := ?f) ?h ?r
    case h =>
      intro k
      simp only [verbatimlaw16_TierTells.j0]
      rw [if_neg (by simp)]
    refine ev_bindc (plan_f l (by omega) hw) ?_
    refine ev_bind (plan_ev l (by omega) (fun x hx => wf_lo (hw x hx))) ?_
    refine ev_pos trivial ?_
    refine ev_bind (same_ev _ _ (by have := plan_len (lv l); omega)) ?_
    refine ev_pos (by simp) (ev_pos rfl ?_)
    refine ev_bind (done_ev l ps o (by omega) (by omega)) ?_
    refine ev_bind (rdone_ev l ps o (by omega) (by omega)) ?_
    refine ev_bind (rsame_ev _ ?_) (Ev.now _)
    have := left_length l ps 0 l
    simp
    omega
end Go.Proofs.Ytbbgnapepkenaaa.Pure
