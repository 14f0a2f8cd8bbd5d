/- EvalEmpty: what empty texts mean, in plain Lean. -/
import Derived.Test.YtbbgnapepkenaaaEvalPure3
import Derived.Test.YtbbgnapepkenaaaE10
namespace Go.Proofs.Ytbbgnapepkenaaa.Pure
set_option linter.unusedVariables false
set_option linter.unusedSimpArgs false
open Go.RowKit Go.Proofs.Ytbbgnapepkenaaa.E Go.Proofs.YtbbgnapepkenaaaW.PrintWords Go.Proofs.Ytbbgnapepkenaaa.PureLib Go.Proofs.Ytbbgnapepkenaaa.EvalPure
theorem ev_head : Ev (fun k => verbatimlaw20_head.f k) true := Ev.of verbatimlaw20_head.mono (k := 40) (by decide +kernel)
theorem ix_nil : ∀ l, ix [] l = some 0
  | [] => rfl
  | c :: l => rfl
theorem find_empty (t : List UInt8) : ∀ n, find t 0 (List.replicate n (⟨#[]⟩ : ByteArray)) = some (List.replicate n 0)
  | 0 => rfl
  | n + 1 => by
    rw [List.replicate_succ, find]
    rw [show (⟨#[]⟩ : ByteArray).data.toList = [] from rfl, List.drop_zero, ix_nil]
    show Option.map _ (find t (0 + 0 + 0) _) = _
    rw [Nat.add_zero, Nat.add_zero, find_empty t n]
    rfl
theorem good_mk (kd : Int) (hk : (Lit.int .i64 kd).wf = true) (s : ByteArray) (hs : s.size ≤ 140737488351232) : GoodQ ⟨kd, [s], []⟩ :=
  .mk hk ⟨by simp, fun x hx => by rw [List.mem_singleton.1 hx]; exact hs⟩ (by simp) (fun x hx => by cases hx)
theorem ev_Match (t : ByteArray) (ht : t.size < 4294967281) (q : Qy) (hq : GoodQ q) : Ev (fun k => eval_Match.f k q.f0 q.f1 q.f2 t) (mt t 301 q) := ev_bind (f := fun k (b : Bool) => some b) (ev_match t ht 301 (by omega) q hq) (Ev.now _)
theorem EvalEmpty : verbatimlaw20_EvalEmpty.Pure := by
  intro a0 a1 ha0 ha1
  have hw : 0 ≤ a1 ∧ a1 ≤ 255 := by
    have h1 : (decide (IntKind.u8.min ≤ a1) && decide (a1 ≤ IntKind.u8.max)) = true := ha1
    rw [Bool.and_eq_true, decide_eq_true_eq, decide_eq_true_eq] at h1
    have e1 : IntKind.u8.min = 0 := rfl
    have e2 : IntKind.u8.max = 255 := rfl
    omega
  have hm : 0 ≤ Int.tmod a1 20 ∧ Int.tmod a1 20 < 20 := ⟨Int.tmod_nonneg _ hw.1, Int.tmod_lt_of_pos _ (by omega)⟩
  obtain ⟨n, hn⟩ : ∃ n : Nat, Int.tmod a1 20 = n := ⟨(Int.tmod a1 20).toNat, by omega⟩
  have hn20 : n < 20 := by omega
  have hwr : wrap64 (Int.tmod a1 20) = (n : Int) := by rw [wid (by omega) (by omega), hn]
  by_cases hs : a0.size > 3000
  · obtain ⟨k, hk⟩ := Ev.rounds (show Ev (fun k => verbatimlaw20_EvalEmpty.f k a0 a1) true by
      unfold verbatimlaw20_EvalEmpty.f
      exact ev_bind ev_head (ev_pos (by omega) (Ev.now _)))
    exact ⟨k, hk⟩
  have ht : a0.size < 4294967281 := by omega
  have hfin : ∀ (m i : Nat), i + m = n → Ev (fun k => verbatimlaw20_EvalEmpty.l0 k a0 true (List.replicate n (⟨#[]⟩ : ByteArray)) (List.replicate n (0 : Int)) true (i : Int)) true := by
    intro m
    induction m with
    | zero =>
      intro i hi
      have h1 := ev_Match a0 ht ⟨1, [(⟨#[]⟩ : ByteArray)], []⟩ (good_mk 1 (by decide) _ (by decide))
      have h2 := ev_Match a0 ht ⟨2, [(⟨#[]⟩ : ByteArray)], []⟩ (good_mk 2 (by decide) _ (by decide))
      have h3 := ev_Match (⟨#[]⟩ : ByteArray) (by decide) ⟨1, [a0], []⟩ (good_mk 1 (by decide) a0 ha0)
      have e1 : mt a0 301 ⟨1, [(⟨#[]⟩ : ByteArray)], []⟩ = true := by
        show (ix (⟨#[]⟩ : ByteArray).data.toList a0.data.toList).isSome = true
        rw [show (⟨#[]⟩ : ByteArray).data.toList = [] from rfl, ix_nil]
        rfl
      have e2 : mt a0 301 ⟨2, [(⟨#[]⟩ : ByteArray)], []⟩ = true := by
        show List.isPrefixOf (⟨#[]⟩ : ByteArray).data.toList a0.data.toList = true
        rw [show (⟨#[]⟩ : ByteArray).data.toList = [] from rfl]
        simp
      have e3 : mt (⟨#[]⟩ : ByteArray) 301 ⟨1, [a0], []⟩ = (a0.toList == ([] : List UInt8)) := by
        show (ix a0.data.toList []).isSome = _
        rw [ByteArray.toList_eq]
        unfold ix
        by_cases e : a0.data.toList = []
        · rw [if_pos e, e]
          rfl
        · rw [if_neg e]
          exact (beq_eq_false_iff_ne.2 e).symm
      rw [e1] at h1
      rw [e2] at h2
      rw [e3] at h3
      refine evs (fun k => by
        rw [verbatimlaw20_EvalEmpty.l0, if_neg (by simp; omega)]) (ev_pos rfl (ev_pos rfl (ev_pos (by simp) (ev_bind h1 (ev_pos rfl (ev_bind h2 (ev_pos rfl (ev_bind h3 ?_))))))))
      exact ev_eq (Ev.now _) (by simp)
    | succ m ih =>
      intro i hi
      refine evs (fun k => ?_) (ih (i + 1) (by omega))
      rw [verbatimlaw20_EvalEmpty.l0, if_pos (by simp; omega), if_pos (by omega), if_pos (by rw [rd_get _ _ (by simp; omega)]; simp), wnat i (by omega)]
  obtain ⟨k, hk⟩ := Ev.rounds (show Ev (fun k => verbatimlaw20_EvalEmpty.f k a0 a1) true by
    unfold verbatimlaw20_EvalEmpty.f
    refine ev_bind ev_head (ev_neg (by omega) ?_)
    rw [hwr]
    refine ev_pos (by omega) (ev_pos (by omega) (ev_bindc rfl ?_))
    rw [show ((n : Int)).toNat = n from rfl]
    have hf := ev_find a0 ht (List.replicate n (⟨#[]⟩ : ByteArray)) (by simp; omega)
    rw [find_empty] at hf
    refine ev_bind hf ?_
    show Ev (fun k => verbatimlaw20_EvalEmpty.l0 k a0 true _ ((List.replicate n 0).map Int.ofNat) true 0) true
    rw [List.map_replicate]
    exact hfin n 0 (by omega))
  exact ⟨k, hk⟩
end Go.Proofs.Ytbbgnapepkenaaa.Pure
