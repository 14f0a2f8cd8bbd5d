/- Of any segments: levels alone make a plan; one more of a level of its own, behind all, changes nothing. The plain statement of the law TierKeeps. -/
import Derived.Test.YtbbgnapepkenaaaQ9
import Derived.Test.YtbbgnapepkenaaaTierPure2
namespace Go.Proofs.Ytbbgnapepkenaaa.Pure
set_option linter.unusedVariables false
set_option linter.unusedSimpArgs false
open Go.RowKit Go.Proofs.Ytbbgnapepkenaaa.Q Go.Proofs.YtbbgnapepkenaaaW.PrintWords Go.Proofs.Ytbbgnapepkenaaa.PureLib Go.Proofs.Ytbbgnapepkenaaa.TierP Go.Proofs.Ytbbgnapepkenaaa.TierPure
def other (num : Int) (l : List Ref) : List Ref := l.map (fun r => (⟨num, 0, r.f2, 0⟩ : Ref))
theorem lv_other (num : Int) (l : List Ref) : lv (other num l) = lv l := by simp [other, lv]
theorem idx_app (ls : List Int) (t m : Int) (h : t ≠ m) : idx (ls ++ [t]) m = idx ls m := by rw [idx_snoc, if_neg h, List.append_nil]
theorem idx_none (ls : List Int) (t : Int) (h : ∀ x ∈ ls, x < t) : idx ls t = [] := by
  cases e : idx ls t with
  | nil => rfl
  | cons p ps =>
    have hm := mem_idx (show p ∈ idx ls t by rw [e]; exact List.mem_cons_self)
    have hlt : p.toNat < ls.length := by omega
    have := hm.2.2
    rw [List.getD_eq_getElem?_getD, List.getElem?_eq_getElem hlt] at this
    have h2 := h _ (List.getElem_mem hlt)
    simp at this
    omega
theorem plan_top (ls : List Int) (t : Int) (h : ∀ x ∈ ls, x < t) : planS (ls ++ [t]) = planS ls := by
  refine plan_congr _ _ (fun x hx => ?_)
  by_cases e : t = x
  · subst e
    have h0 := idx_none ls t h
    rcases hx with hx | hx
    · rw [idx_snoc, h0, if_pos rfl] at hx
      simp at hx
    · rw [h0] at hx
      simp at hx
  · exact idx_app ls t x e
theorem keeps_l0 (l : List Ref) (num : Int) (hn : l.length ≤ 200) (hw : ∀ x ∈ l, (Lit.int .i64 x.f2).wf = true) : ∀ d i : Nat, i + d = l.length → ∀ top : Int, 0 ≤ top → top ≤ 1000 → (∀ x ∈ l.take i, x.f2 ≤ top) →
    Ev (fun k => verbatimlaw16_TierKeeps.l0 k l num true (planS (lv l)).1 (planS (lv l)).2 (other num (l.take i)) top (i : Int)) true
  | 0, i, h, top, h0, h1, ht => by
    have e1 : l.take i = l := List.take_of_length_le (by omega)
    rw [e1] at ht ⊢
    have hw1 : ∀ x ∈ other num l, (Lit.int .i64 x.f2).wf = true := by
      intro x hx
      obtain ⟨y, hy, rfl⟩ := List.mem_map.1 hx
      exact hw y hy
    have hlen : (other num l).length = l.length := by simp [other]
    refine evs (f := ?f) ?h ?r
    case h =>
      intro k
      simp only [verbatimlaw16_TierKeeps.l0]
      rw [if_neg (by omega), wid (n := top + 1) (by omega) (by omega)]
    refine ev_bindc (plan_f _ (by omega) hw1) ?_
    refine ev_pos (by omega) ?_
    refine ev_bindc (plan_f _ (by simp; omega) ?_) ?_
    · intro x hx
      rcases List.mem_append.1 hx with hx | hx
      · exact hw1 x hx
      · rw [List.mem_singleton.1 hx]
        show (Lit.int .i64 (top + 1)).wf = true
        exact WalkArith.wf_i64 (by omega)
    have e2 : lv (other num l ++ [(⟨0, 0, top + 1, 0⟩ : Ref)]) = lv l ++ [top + 1] := by simp [other, lv]
    rw [lv_other, e2, plan_top (lv l) (top + 1) (fun x hx => by obtain ⟨y, hy, rfl⟩ := List.mem_map.1 hx; have := ht y hy; omega)]
    refine ev_pos trivial (ev_bind (same_ev _ _ (by have := plan_len (lv l); omega)) ?_)
    refine ev_pos (by simp) (ev_pos rfl (ev_bind (same_ev _ _ (by have := plan_len (lv l); omega)) ?_))
    refine ev_pos (by simp) (ev_eq (Ev.now _) (by simp))
  | d + 1, i, h, top, h0, h1, ht => by
    have hi : i < l.length := by omega
    have hlen : (other num (l.take i)).length = i := by simp [other]; omega
    by_cases hl : l[i].f2 > 1000
    · refine ev_some (fun k => ?_)
      simp only [verbatimlaw16_TierKeeps.l0]
      rw [if_pos (by omega), if_pos (by omega), if_pos (by omega), rdT l i hi, if_pos hl]
    · have e1 : other num (l.take i) ++ [(⟨num, 0, l[i].f2, 0⟩ : Ref)] = other num (l.take (i + 1)) := by
        rw [List.take_succ_eq_append_getElem hi]
        unfold other
        rw [List.map_append]
        rfl
      refine evs (fun k => ?_) (keeps_l0 l num hn hw d (i + 1) (by omega) (mx top l[i].f2) (by unfold mx; split <;> omega) (by unfold mx; split <;> omega) (fun x hx => ?_))
      · simp only [verbatimlaw16_TierKeeps.l0]
        rw [if_pos (by omega), if_pos (by omega), if_pos (by omega), rdT l i hi, if_neg hl, e1, wnat i (by omega)]
      · rw [List.take_succ_eq_append_getElem hi] at hx
        rcases List.mem_append.1 hx with hx | hx
        · have := ht x hx
          unfold mx
          split <;> omega
        · rw [List.mem_singleton.1 hx]
          unfold mx
          split <;> omega
theorem TierKeeps : verbatimlaw16_TierKeeps.Pure := by
  intro l num ⟨_, hl⟩ _
  have hw : ∀ x ∈ l, (Lit.int .i64 x.f2).wf = true := fun x hx => (hl x hx).2.2.1
  refine Ev.rounds ?_
  unfold verbatimlaw16_TierKeeps.f
  refine ev_bind head_ev (ev_if (fun _ => Ev.now true) (fun h1 => ?_))
  refine ev_bindc (plan_f l (by omega) hw) ?_
  exact keeps_l0 l num (by omega) hw l.length 0 (by omega) 0 (by omega) (by omega) (by simp)
end Go.Proofs.Ytbbgnapepkenaaa.Pure
