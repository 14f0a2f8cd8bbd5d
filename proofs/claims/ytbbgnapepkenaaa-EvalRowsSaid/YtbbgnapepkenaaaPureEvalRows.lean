/- EvalRows: rows of texts, in plain Lean. -/
import Derived.Test.YtbbgnapepkenaaaEvalFits
import Derived.Test.YtbbgnapepkenaaaE9
namespace Go.Proofs.Ytbbgnapepkenaaa.Pure
set_option linter.unusedVariables false
set_option linter.unusedSimpArgs false
open Go.RowKit Go.Proofs.Ytbbgnapepkenaaa.E Go.Proofs.YtbbgnapepkenaaaW.PrintWords Go.Proofs.Ytbbgnapepkenaaa.PureLib Go.Proofs.Ytbbgnapepkenaaa.EvalPure
theorem ev_head : Ev (fun k => verbatimlaw20_head.f k) true := Ev.of verbatimlaw20_head.mono (k := 40) (by decide +kernel)
theorem res2 (o : Option (List Nat)) : (res o).2 = o.isSome := by cases o <;> rfl
theorem app_data (a b : ByteArray) : (a ++ b).data.toList = a.data.toList ++ b.data.toList := by rw [ByteArray.data_append]; simp
theorem app_size (a b : ByteArray) : (a ++ b).size = a.size + b.size := ByteArray.size_append
theorem EvalRows : verbatimlaw20_EvalRows.Pure := by
  intro l0 l1 a2 a3 h0 h1 ha2 ha3
  have hj : ∀ c : Bool, (c = false → l0.length ≤ 40 ∧ l1.length ≤ 40 ∧ a2.size ≤ 1000 ∧ a3.size ≤ 1000) → Ev (fun k => verbatimlaw20_EvalRows.j0 k l0 l1 a2 a3 true c) true := by
    intro c hc
    cases c with
    | true => exact ev_some (fun k => by rw [verbatimlaw20_EvalRows.j0, if_pos rfl])
    | false =>
      obtain ⟨b0, b1, b2, b3⟩ := hc rfl
      have e1 := ev_find a2 (by omega) l0 (by omega)
      have e2 := ev_find a3 (by omega) l1 (by omega)
      have e3 := ev_find (a2 ++ a3) (by rw [app_size]; omega) (l0 ++ l1) (by rw [List.length_append]; omega)
      have hloop : ∀ (n i : Nat), i + n = l0.length → Ev (fun k => verbatimlaw20_EvalRows.l0 k l0 a2 true (res (find a2.data.toList 0 l0)).2 (i : Int)) true := by
        have hend : ∀ (v : Bool) (x : Int), Ev (fun k => verbatimlaw20_EvalRows.j3 k l0 a2 true v x false) true := fun v x => by
          have e4 := ev_find a2 (by omega) [] (by simp)
          refine evs (fun k => by rw [verbatimlaw20_EvalRows.j3, if_neg (by simp)]) (ev_bind e4 (ev_pos rfl (ev_eq (Ev.now _) rfl)))
        intro n
        induction n with
        | zero =>
          intro i hi
          exact evs (fun k => by rw [verbatimlaw20_EvalRows.l0, if_neg (by omega)]) (hend _ _)
        | succ n ih =>
          intro i hi
          refine evs (fun k => by rw [verbatimlaw20_EvalRows.l0, if_pos (by omega)]) ?_
          cases hv : (res (find a2.data.toList 0 l0)).2 with
          | false => exact hend _ _
          | true =>
            rw [hv] at ih
            have hw : wrap64 ((i : Int) + 1) = ((i + 1 : Nat) : Int) := wnat i (by omega)
            have hf : Fits l0 a2.data.toList := by
              rw [res2] at hv
              have := (find_fits a2.data.toList l0 0).1 hv
              rwa [List.drop_zero] at this
            have hl : (List.take i l0).length = i := by rw [List.length_take]; omega
            have e5 := ev_find a2 (by omega) (l0.take i ++ l0.drop (i + 1)) (by rw [List.length_append, List.length_take, List.length_drop]; omega)
            have hs : (find a2.data.toList 0 (l0.take i ++ l0.drop (i + 1))).isSome = true := by
              refine (find_fits _ _ _).2 ?_
              rw [List.drop_zero]
              refine Fits.less ?_ hf
              conv => rhs; rw [← List.take_append_drop i l0]
              exact List.Sublist.append (List.Sublist.refl _) (by rw [← List.drop_drop (i := 1) (j := i)]; exact List.drop_sublist _ _)
            refine evs (f := fun k => (eval_Find.f k (l0.take i ++ l0.drop (i + 1)) a2).bind fun bt208 => (if bt208.2 = true then (verbatimlaw20_EvalRows.l0 k l0 a2 true true ((i + 1 : Nat) : Int)) else (some false))) (fun k => ?_) (ev_bind e5 ?_)
            · rw [verbatimlaw20_EvalRows.j3, if_pos rfl, Option.bind_some, if_pos (by omega), if_pos (by omega), List.nil_append, show ((i : Int)).toNat = i from rfl, if_pos (by rw [hl]; simp; omega), Option.bind_some, hw, if_pos (by omega), if_pos (by omega), show (((i + 1 : Nat) : Int)).toNat = i + 1 from rfl, if_pos (by rw [hl, List.length_drop]; omega)]
            · exact ev_pos (by rw [res2]; exact hs) (ih (i + 1) (by omega))
      have hj1 : Ev (fun k => verbatimlaw20_EvalRows.j1 k l0 a2 true (res (find a2.data.toList 0 l0)).2 false) true := evs (fun k => by rw [verbatimlaw20_EvalRows.j1, if_neg (by simp)]; rfl) (hloop l0.length 0 (by omega))
      refine evs (f := fun k => (eval_Find.f k l0 a2).bind fun bt176 => (eval_Find.f k l1 a3).bind fun bt180 => (eval_Find.f k (l0 ++ l1) (a2 ++ a3)).bind fun bt193 => (if bt176.2 = true then (if bt180.2 = true then (verbatimlaw20_EvalRows.j1 k l0 a2 true bt176.2 (!bt193.2)) else (verbatimlaw20_EvalRows.j1 k l0 a2 true bt176.2 false)) else (verbatimlaw20_EvalRows.j1 k l0 a2 true bt176.2 false))) (fun k => ?_) (ev_bind e1 (ev_bind e2 (ev_bind e3 (ev_if (fun hx => ev_if (fun hy => ?_) (fun _ => hj1)) (fun _ => hj1)))))
      · rw [verbatimlaw20_EvalRows.j0, if_neg (by simp)]
        congr 1
        funext bt176
        congr 1
        funext bt180
        rw [Option.bind_some, List.nil_append, if_pos (by simp; omega), Option.bind_some, if_pos (by omega), if_pos (by omega)]
      · have hz : (find (a2 ++ a3).data.toList 0 (l0 ++ l1)).isSome = true := by
          rw [res2] at hx hy
          have f1 := (find_fits _ _ _).1 hx
          have f2 := (find_fits _ _ _).1 hy
          refine (find_fits _ _ _).2 ?_
          rw [List.drop_zero] at *
          rw [app_data]
          exact f1.join f2
        rw [res2 (find (a2 ++ a3).data.toList 0 (l0 ++ l1)), hz]
        exact hj1
  obtain ⟨k, hk⟩ := Ev.rounds (show Ev (fun k => verbatimlaw20_EvalRows.f k l0 l1 a2 a3) true by
    unfold verbatimlaw20_EvalRows.f
    refine ev_bind ev_head (ev_if (fun _ => hj true (by simp)) (fun _ => ev_if (fun _ => hj true (by simp)) (fun _ => ev_if (fun _ => hj true (by simp)) (fun h => hj _ (fun h' => ?_)))))
    have := of_decide_eq_false h'
    omega)
  exact ⟨k, hk⟩
end Go.Proofs.Ytbbgnapepkenaaa.Pure
