/- EvalSame: what kinds of queries mean, in plain Lean. -/
import Derived.Test.YtbbgnapepkenaaaEvalPure4
import Derived.Test.YtbbgnapepkenaaaE10
namespace Go.Proofs.Ytbbgnapepkenaaa.Pure
set_option linter.unusedVariables false
set_option linter.unusedSimpArgs false
open Go.RowKit Go.Proofs.Ytbbgnapepkenaaa.E Go.Proofs.YtbbgnapepkenaaaW.PrintWords Go.Proofs.Ytbbgnapepkenaaa.PureLib Go.Proofs.Ytbbgnapepkenaaa.EvalPure
theorem ev_head : Ev (fun k => verbatimlaw20_head.f k) true := Ev.of verbatimlaw20_head.mono (k := 40) (by decide +kernel)
theorem ev_Match (t : ByteArray) (ht : t.size < 4294967281) (q : Qy) (hq : GoodQ q) : Ev (fun k => eval_Match.f k q.f0 q.f1 q.f2 t) (mt t 301 q) := ev_bind (f := fun k (b : Bool) => some b) (ev_match t ht 301 (by omega) q hq) (Ev.now _)
theorem EvalSame : verbatimlaw20_EvalSame.Pure := by
  intro x0 a1 a2 ha1 ha2 hq
  obtain ⟨g, hg⟩ := ev_great 2 (by omega) x0 hq
  have hj1 : a1.size ≤ 3000 → ∀ c : Bool, (c = true → a2 < 1 ∨ a2 > 8) → Ev (fun k => verbatimlaw20_EvalSame.j1 k a1 a2 true c x0.f0 x0.f1 x0.f2) true := by
    intro hs c hc
    have ht : a1.size < 4294967281 := by omega
    have h1 := ev_Match a1 ht x0 hq
    have h7 := ev_Match a1 ht ⟨7, [], []⟩ (.mk (show (Lit.int .i64 7).wf = true by decide) ⟨by simp, fun x hx => by cases hx⟩ (by simp) (fun x hx => by cases hx))
    have h8 := ev_Match a1 ht ⟨8, [], []⟩ (.mk (show (Lit.int .i64 8).wf = true by decide) ⟨by simp, fun x hx => by cases hx⟩ (by simp) (fun x hx => by cases hx))
    have hk := ev_Match a1 ht ⟨a2, [(⟨#[]⟩ : ByteArray)], []⟩ (.mk ha2 ⟨by simp, fun x hx => by rw [List.mem_singleton.1 hx]; decide⟩ (by simp) (fun x hx => by cases hx))
    have e7 : mt a1 301 ⟨7, [], []⟩ = true := rfl
    have e8 : mt a1 301 ⟨8, [], []⟩ = false := rfl
    rw [e7] at h7
    rw [e8] at h8
    have hbytes : strOfNums ([] ++ bytesOf a1) = a1 := by
      rw [List.nil_append]
      refine Go.WideShapes.bytes_inj ?_
      rw [strOfNums_data, bytesOf, List.map_map]
      conv => rhs; rw [← List.map_id a1.data.toList]
      refine List.map_congr_left (fun b _ => ?_)
      simp
    have hend : Ev (fun k => if c = true then (eval_Match.f k a2 [(⟨#[]⟩ : ByteArray)] [] a1).bind fun t151 => some (!t151) else some true) true := by
      cases c with
      | false => exact ev_neg (by simp) (Ev.now _)
      | true =>
        have hm : mt a1 301 ⟨a2, [(⟨#[]⟩ : ByteArray)], []⟩ = false := by
          have hh := hc rfl
          rw [EvalPure.mt]
          show (if a2 = 1 then _ else if a2 = 2 then _ else if a2 = 3 then _ else if a2 = 4 then _ else if a2 = 5 then _ else if a2 = 6 then _ else a2 == 7) = false
          rw [if_neg (by omega), if_neg (by omega), if_neg (by omega), if_neg (by omega), if_neg (by omega), if_neg (by omega)]
          exact beq_eq_false_iff_ne.2 (by omega)
        rw [hm] at hk
        exact ev_pos rfl (ev_bind hk (Ev.now _))
    refine evs (f := fun k => (eval_Match.f k x0.f0 x0.f1 x0.f2 a1).bind fun t138 => (eval_Match.f k x0.f0 x0.f1 x0.f2 a1).bind fun t145 => (if (t138 == t145) = true then ((eval_Match.f k 7 ([] : List ByteArray) [] a1).bind fun t146 => (if t146 = true then ((eval_Match.f k 8 ([] : List ByteArray) [] a1).bind fun t147 => (if t147 = true then (some false) else (if c = true then (eval_Match.f k a2 [(⟨#[]⟩ : ByteArray)] [] a1).bind fun t151 => some (!t151) else some true))) else (some false))) else (some false))) (fun k => ?_)
      (ev_bind h1 (ev_bind h1 (ev_pos (beq_self_eq_true _) (ev_bind h7 (ev_pos rfl (ev_bind h8 (ev_neg (by simp) hend)))))))
    rw [verbatimlaw20_EvalSame.j1]
    congr 1
    funext t138
    rw [Option.bind_some, if_pos (by simp; omega), hbytes]
    congr 1
  have hj : ∀ c : Bool, (c = false → a1.size ≤ 3000) → Ev (fun k => verbatimlaw20_EvalSame.j0 k a1 a2 true c x0.f0 x0.f1 x0.f2) true := by
    intro c hc
    cases c with
    | true => exact ev_some (fun k => by rw [verbatimlaw20_EvalSame.j0, if_pos rfl])
    | false =>
      have hs := hc rfl
      refine evs (fun k => by rw [verbatimlaw20_EvalSame.j0, if_neg (by simp)]) (ev_if (fun h => hj1 hs true (fun _ => .inl h)) (fun h => hj1 hs _ (fun h' => .inr ?_)))
      exact of_decide_eq_true h'
  obtain ⟨k, hk⟩ := Ev.rounds (show Ev (fun k => verbatimlaw20_EvalSame.f k x0.f0 x0.f1 x0.f2 a1 a2) true by
    unfold verbatimlaw20_EvalSame.f
    refine ev_bind ev_head (ev_bind hg (ev_if (fun _ => hj true (by simp)) (fun h => hj _ (fun h' => ?_))))
    have := of_decide_eq_false h'
    omega)
  exact ⟨k, hk⟩
end Go.Proofs.Ytbbgnapepkenaaa.Pure
