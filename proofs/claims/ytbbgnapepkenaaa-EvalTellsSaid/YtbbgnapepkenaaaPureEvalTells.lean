/- EvalTells: what is told is the document's, in plain Lean. -/
import Derived.Test.YtbbgnapepkenaaaEvalPure4
import Derived.Test.YtbbgnapepkenaaaE6
namespace Go.Proofs.Ytbbgnapepkenaaa.Pure
set_option linter.unusedVariables false
set_option linter.unusedSimpArgs false
open Go.RowKit Go.Proofs.Ytbbgnapepkenaaa.E Go.Proofs.YtbbgnapepkenaaaW.PrintWords Go.Proofs.Ytbbgnapepkenaaa.PureLib Go.Proofs.Ytbbgnapepkenaaa.EvalPure
theorem ev_head : Ev (fun k => verbatimlaw20_head.f k) true := Ev.of verbatimlaw20_head.mono (k := 40) (by decide +kernel)
theorem find_len (t : List UInt8) : ∀ (xs : List ByteArray) (a : Nat) (l : List Nat), find t a xs = some l → l.length = xs.length
  | [], a, l, h => by
    rw [find] at h
    cases h
    rfl
  | s :: ss, a, l, h => by
    rw [find] at h
    cases e : ix s.data.toList (t.drop a) with
    | none => rw [e] at h; cases h
    | some k =>
      rw [e] at h
      obtain ⟨m, hm, rfl⟩ := Option.map_eq_some_iff.1 h
      rw [List.length_cons, List.length_cons, find_len t ss _ m hm]
theorem EvalTells : verbatimlaw20_EvalTells.Pure := by
  intro x0 l1 a2 hl1 ha2 hq
  obtain ⟨g, hg⟩ := ev_great 2 (by omega) x0 hq
  have hj : ∀ c : Bool, (c = false → l1.length ≤ 500 ∧ a2.size ≤ 3000) → Ev (fun k => verbatimlaw20_EvalTells.j0 k l1 a2 true c x0.f0 x0.f1 x0.f2) true := by
    intro c hc
    cases c with
    | true => exact ev_some (fun k => by rw [verbatimlaw20_EvalTells.j0, if_pos rfl])
    | false =>
      obtain ⟨h1, h2⟩ := hc rfl
      have hf := ev_find a2 (by omega) l1 (by omega)
      have hr := ev_rfind a2 (by omega) l1 (by omega) hl1.2
      have hm := ev_match a2 (by omega) 301 (by omega) x0 hq
      have hn := ev_rmatch a2 (by omega) 301 (by omega) x0 hq
      have hM : Ev (fun k => eval_Match.f k x0.f0 x0.f1 x0.f2 a2) (mt a2 301 x0) := ev_bind (f := fun k (b : Bool) => some b) hm (Ev.now _)
      have hN : Ev (fun k => verbatimref20_Match.f k x0.f0 x0.f1 x0.f2 a2) (mt a2 301 x0) := ev_bind (f := fun k (b : Bool) => some b) hn (Ev.now _)
      have hs : Ev (fun k => verbatimref06_SameInts.f k (res (find a2.data.toList 0 l1)).1 (res (find a2.data.toList 0 l1)).1) true := by
        refine ev_same _ ?_
        cases e : find a2.data.toList 0 l1 with
        | none => simp [res]
        | some l => have := find_len _ _ _ _ e; simp [res]; omega
      refine evs (fun k => by
        rw [verbatimlaw20_EvalTells.j0, if_neg (show ¬ (false = true) by simp)]) (ev_bind hf (ev_bind hr (ev_pos rfl (ev_bind hM (ev_bind hN (ev_pos (beq_self_eq_true _) (ev_bind hs (ev_pos rfl ?_))))))))
      exact ev_eq (Ev.now _) (by simp)
  obtain ⟨k, hk⟩ := Ev.rounds (show Ev (fun k => verbatimlaw20_EvalTells.f k x0.f0 x0.f1 x0.f2 l1 a2) true by
    unfold verbatimlaw20_EvalTells.f
    refine ev_bind ev_head (ev_bind hg (ev_if (fun _ => hj true (by simp)) (fun _ => ev_if (fun _ => hj true (by simp)) (fun h => hj _ (fun h' => ?_)))))
    have := of_decide_eq_false h'
    omega)
  exact ⟨k, hk⟩
end Go.Proofs.Ytbbgnapepkenaaa.Pure
