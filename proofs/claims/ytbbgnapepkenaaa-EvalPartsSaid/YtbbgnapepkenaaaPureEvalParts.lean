/- EvalParts: where a text stands in a document, in plain Lean. -/
import Derived.Test.YtbbgnapepkenaaaEvalFits
import Derived.Test.YtbbgnapepkenaaaEvalPure3
import Derived.Test.YtbbgnapepkenaaaE8
namespace Go.Proofs.Ytbbgnapepkenaaa.Pure
set_option linter.unusedVariables false
set_option linter.unusedSimpArgs false
open Go.RowKit Go.Proofs.Ytbbgnapepkenaaa.E Go.Proofs.YtbbgnapepkenaaaW.PrintWords Go.Proofs.Ytbbgnapepkenaaa.PureLib Go.Proofs.Ytbbgnapepkenaaa.EvalPure
theorem ev_head : Ev (fun k => verbatimlaw20_head.f k) true := Ev.of verbatimlaw20_head.mono (k := 40) (by decide +kernel)
theorem app_data (a b : ByteArray) : (a ++ b).data.toList = a.data.toList ++ b.data.toList := by rw [ByteArray.data_append]; simp
theorem app_size (a b : ByteArray) : (a ++ b).size = a.size + b.size := ByteArray.size_append
theorem good_mk (kd : Int) (hk : (Lit.int .i64 kd).wf = true) (s : ByteArray) (hs : s.size ≤ 140737488351232) : GoodQ ⟨kd, [s], []⟩ :=
  .mk hk ⟨by simp, fun x hx => by rw [List.mem_singleton.1 hx]; exact hs⟩ (by simp) (fun x hx => by cases hx)
theorem ev_Match (t : ByteArray) (ht : t.size < 4294967281) (q : Qy) (hq : GoodQ q) : Ev (fun k => eval_Match.f k q.f0 q.f1 q.f2 t) (mt t 301 q) := ev_bind (f := fun k (b : Bool) => some b) (ev_match t ht 301 (by omega) q hq) (Ev.now _)
theorem ext_prefix (t s : ByteArray) (i : Nat) (hle : i + s.size ≤ t.size) : (((t.extract i (i + s.size)).toList == s.toList)) = s.data.toList.isPrefixOf (t.data.toList.drop i) := by
  have hsl : s.data.toList.length = s.size := data_length s
  rw [prefix_take, Bool.eq_iff_iff, beq_iff_eq, decide_eq_true_eq, toList_eq, extract_data _ _ _ hle, hsl, Nat.add_sub_cancel_left]
/-- From place i on, does it stand there? -/
def rest (s A : List UInt8) (i : Nat) : Bool := if i + s.length ≤ A.length then (ix s (A.drop i)).isSome else false
theorem rest_step (s A : List UInt8) (i : Nat) (h : i + s.length ≤ A.length) : rest s A i = (s.isPrefixOf (A.drop i) || rest s A (i + 1)) := by
  by_cases hp : s.isPrefixOf (A.drop i) = true
  · rw [hp, Bool.true_or, rest, if_pos h, ix_prefix _ _ hp]
    rfl
  · rw [Bool.eq_false_iff.2 hp, Bool.false_or, rest, if_pos h]
    by_cases hlt : i < A.length
    · have hd : A.drop i = A[i] :: A.drop (i + 1) := List.drop_eq_getElem_cons hlt
      rw [hd, ix_not _ _ _ (by rw [← hd]; exact Bool.eq_false_iff.2 hp), Option.isSome_map, rest]
      by_cases h2 : i + 1 + s.length ≤ A.length
      · rw [if_pos h2]
      · rw [if_neg h2, ix_long _ _ (by rw [List.length_drop]; omega)]
        rfl
    · exfalso
      have : s = [] := List.eq_nil_of_length_eq_zero (by omega)
      rw [this] at hp
      exact hp (by simp)
theorem EvalParts : verbatimlaw20_EvalParts.Pure := by
  intro a0 a1 a2 a3 h0 h1 h2 h3
  have hj : ∀ c : Bool, (c = false → a0.size ≤ 1000 ∧ a1.size ≤ 1000 ∧ a2.size ≤ 1000 ∧ a3.size ≤ 1000) → Ev (fun k => verbatimlaw20_EvalParts.j0 k a0 a1 a2 a3 true c) true := by
    intro c hc
    cases c with
    | true => exact ev_some (fun k => by rw [verbatimlaw20_EvalParts.j0, if_pos rfl])
    | false =>
      obtain ⟨b0, b1, b2, b3⟩ := hc rfl
      have s01 : Unit → (a0 ++ a1).size = a0.size + a1.size := fun _ => app_size a0 a1
      have l3 : Unit → a3.data.toList.length = a3.size := fun _ => data_length a3
      have lA : Unit → (a0 ++ a1).data.toList.length = a0.size + a1.size := fun _ => by rw [data_length, app_size]
      have e1 := ev_Match (a0 ++ a1) (by rw [app_size]; omega) ⟨1, [a3], []⟩ (good_mk 1 (by decide) a3 h3)
      have e2 := ev_Match (a0 ++ a1 ++ a2) (by rw [app_size, app_size]; omega) ⟨1, [a1], []⟩ (good_mk 1 (by decide) a1 h1)
      have e3 := ev_Match (a1 ++ a2) (by rw [app_size]; omega) ⟨2, [a1], []⟩ (good_mk 2 (by decide) a1 h1)
      have m1 : mt (a0 ++ a1) 301 ⟨1, [a3], []⟩ = rest a3.data.toList (a0 ++ a1).data.toList 0 := by
        show (ix a3.data.toList (a0 ++ a1).data.toList).isSome = _
        rw [rest, List.drop_zero]
        by_cases h : 0 + a3.data.toList.length ≤ (a0 ++ a1).data.toList.length
        · rw [if_pos h]
        · rw [if_neg h, ix_long _ _ (Nat.not_le.1 (by rw [Nat.zero_add] at h; exact h))]
          rfl
      have m2 : mt (a0 ++ a1 ++ a2) 301 ⟨1, [a1], []⟩ = true := by
        show (ix a1.data.toList (a0 ++ a1 ++ a2).data.toList).isSome = true
        rw [app_data, app_data, List.append_assoc]
        obtain ⟨k, hk, _⟩ := ix_first a1.data.toList a2.data.toList a0.data.toList
        rw [hk]
        rfl
      have m3 : mt (a1 ++ a2) 301 ⟨2, [a1], []⟩ = true := by
        show a1.data.toList.isPrefixOf (a1 ++ a2).data.toList = true
        rw [app_data, List.isPrefixOf_iff_prefix]
        exact List.prefix_append _ _
      rw [m1] at e1
      rw [m2] at e2
      rw [m3] at e3
      have hloop : ∀ (n i : Nat) (is : Bool), i + n = a0.size + a1.size + 1 → Ev (fun k => verbatimlaw20_EvalParts.l0 k a0 a1 a2 a3 true (is || rest a3.data.toList (a0 ++ a1).data.toList i) is (i : Int) 1 [a1] 2 [a1]) true := by
        intro n
        induction n with
        | zero =>
          intro i is hi
          have hr : rest a3.data.toList (a0 ++ a1).data.toList i = false := by rw [rest, if_neg (by rw [l3 (), lA ()]; omega)]
          rw [hr, Bool.or_false]
          refine evs (fun k => by
            rw [verbatimlaw20_EvalParts.l0, if_pos (by omega), wid (by omega) (by omega), if_neg (by omega), if_pos rfl, if_pos (by rw [s01 ()]; omega)]) (ev_bind e2 (ev_pos rfl (ev_pos (show a1.size + a2.size ≤ 9223372036854775807 by omega) (ev_bind e3 (ev_pos rfl ?_)))))
          exact ev_eq (Ev.now _) (by simp)
        | succ n ih =>
          intro i is hi
          have hw : wrap64 ((i : Int) + (a3.size : Int)) = ((i + a3.size : Nat) : Int) := by rw [wid (by omega) (by omega)]; omega
          by_cases hle : i + a3.size ≤ a0.size + a1.size
          · have hs := rest_step a3.data.toList (a0 ++ a1).data.toList i (by rw [l3 (), lA ()]; exact hle)
            have hx := ext_prefix (a0 ++ a1) a3 i (by rw [s01 ()]; exact hle)
            cases is with
            | true =>
              rw [Bool.true_or]
              have := ih (i + 1) true (by omega)
              rw [Bool.true_or] at this
              refine evs (fun k => ?_) this
              rw [verbatimlaw20_EvalParts.l0, if_pos (by omega), hw, if_pos (by omega), if_pos rfl, wnat i (by omega)]
            | false =>
              rw [Bool.false_or, hs]
              refine evs (fun k => ?_) (ih (i + 1) (a3.data.toList.isPrefixOf ((a0 ++ a1).data.toList.drop i)) (by omega))
              rw [verbatimlaw20_EvalParts.l0, if_pos (by omega), hw, if_pos (by omega), if_neg (by simp), if_pos (by omega), if_pos (by omega), wnat i (by omega), show ((i : Int)).toNat = i from rfl, show (((i + a3.size : Nat) : Int)).toNat = i + a3.size from rfl, hx]
          · have hr : rest a3.data.toList (a0 ++ a1).data.toList i = false := by rw [rest, if_neg (by rw [l3 (), lA ()]; omega)]
            rw [hr, Bool.or_false]
            refine evs (fun k => by
              rw [verbatimlaw20_EvalParts.l0, if_pos (by omega), hw, if_neg (by omega), if_pos rfl, if_pos (by rw [s01 ()]; omega)]) (ev_bind e2 (ev_pos rfl (ev_pos (show a1.size + a2.size ≤ 9223372036854775807 by omega) (ev_bind e3 (ev_pos rfl ?_)))))
            exact ev_eq (Ev.now _) (by simp)
      refine evs (fun k => by rw [verbatimlaw20_EvalParts.j0, if_neg (by simp), if_pos (by omega)]) (ev_bind e1 ?_)
      have := hloop (a0.size + a1.size + 1) 0 false (by omega)
      rw [Bool.false_or] at this
      exact this
  obtain ⟨k, hk⟩ := Ev.rounds (show Ev (fun k => verbatimlaw20_EvalParts.f k a0 a1 a2 a3) true by
    unfold verbatimlaw20_EvalParts.f
    refine ev_bind ev_head (ev_if (fun _ => hj true (by simp)) (fun _ => ev_if (fun _ => hj true (by simp)) (fun _ => ev_if (fun _ => hj true (by simp)) (fun h => hj _ (fun h' => ?_)))))
    have := of_decide_eq_false h'
    omega)
  exact ⟨k, hk⟩
end Go.Proofs.Ytbbgnapepkenaaa.Pure
