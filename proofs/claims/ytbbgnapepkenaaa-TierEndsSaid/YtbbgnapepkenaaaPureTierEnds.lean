/- Of any levels: Plan and Done, one behind the other, take two away each time, till no level has more than three. The plain statement of the law TierEnds. -/
import Derived.Test.YtbbgnapepkenaaaQ7
import Derived.Test.YtbbgnapepkenaaaTierPure2
namespace Go.Proofs.Ytbbgnapepkenaaa.Pure
set_option linter.unusedVariables false
set_option linter.unusedSimpArgs false
open Go.RowKit Go.Proofs.Ytbbgnapepkenaaa.Q Go.Proofs.YtbbgnapepkenaaaW.PrintWords Go.Proofs.Ytbbgnapepkenaaa.PureLib Go.Proofs.Ytbbgnapepkenaaa.TierP Go.Proofs.Ytbbgnapepkenaaa.TierPure
theorem ends_l3 (l : List Ref) (hn : l.length ≤ 1000) (a : Int) (r : Bool) (hc : (idx (lv l) a).length ≤ 3) (hr : Ev (fun k => verbatimlaw16_TierEnds.l2 k true l (wrap64 (a + 1))) r) :
    ∀ d i : Nat, i + d = l.length → Ev (fun k => verbatimlaw16_TierEnds.l3 k true l a ((idx ((lv l).take i) a).length : Int) (i : Int)) r
  | 0, i, h => by
    refine evs (fun k => ?_) hr
    simp only [verbatimlaw16_TierEnds.l3]
    rw [List.take_of_length_le (by simp; omega), if_neg (by omega), if_neg (by omega)]
  | d + 1, i, h => by
    have hi : i < l.length := by omega
    have hb := idx_len ((lv l).take i) a
    simp only [List.length_take, List.length_map] at hb
    refine evs (fun k => ?_) (ends_l3 l hn a r hc hr d (i + 1) (by omega))
    simp only [verbatimlaw16_TierEnds.l3]
    rw [if_pos (by omega), if_pos (by omega), rdlv l i hi, wnat i (by omega), wnat _ (by omega), cnt_step (lv l) i (by simpa using hi)]
    by_cases e : (lv l).getD i 0 = a
    · rw [if_pos e, if_pos e]
    · rw [if_neg e, if_neg e]
      rfl
theorem ends_l2 (l : List Ref) (hn : l.length ≤ 1000) (hc : ∀ a, (idx (lv l) a).length ≤ 3) : ∀ d i : Nat, i + d = 17 → Ev (fun k => verbatimlaw16_TierEnds.l2 k true l (i : Int)) true
  | 0, i, h => by
    refine ev_some (fun k => ?_)
    simp only [verbatimlaw16_TierEnds.l2]
    rw [if_neg (by omega)]
  | d + 1, i, h => by
    refine evs (f := fun k => verbatimlaw16_TierEnds.l3 k true l (i : Int) ((idx ((lv l).take 0) (i : Int)).length : Int) ((0 : Nat) : Int)) (fun k => ?_) (ends_l3 l hn (i : Int) true (hc _) ?_ l.length 0 (by omega))
    · simp only [verbatimlaw16_TierEnds.l2]
      rw [if_pos (by omega)]
      simp [idx]
    · rw [wnat i (by omega)]
      exact ends_l2 l hn hc d (i + 1) (by omega)
theorem ends_l1 (x0 : List Int) (h60 : x0.length ≤ 60) : ∀ m s : Nat, ∀ (l : List Ref) (num : Int), l.length + 2 * s = x0.length → l.length ≤ m → (∀ x ∈ l, 0 ≤ x.f2 ∧ x.f2 ≤ 16) →
    Ev (fun k => verbatimlaw16_TierEnds.l1 k x0 true l num (s : Int)) true
  | m, s, l, num, h, hm, hw => by
    have hwf : ∀ x ∈ l, (Lit.int .i64 x.f2).wf = true := fun x hx => WalkArith.wf_i64 (by have := hw x hx; omega)
    refine evs (f := ?f) ?h ?r
    case h =>
      intro k
      simp only [verbatimlaw16_TierEnds.l1]
      rw [if_pos (by omega)]
    refine ev_bindc (plan_f l (by omega) hwf) ?_
    rcases plan_spec (lv l) with ⟨h1, h2⟩ | ⟨a, h1, h2, h3⟩
    · rw [h1]
      exact ev_pos rfl (ends_l2 l (by omega) h2 17 0 (by omega))
    · have ha : a ∈ lv l := idx_mem _ _ (by intro e; rw [e] at h1; simp at h1)
      obtain ⟨x, hx, hxe⟩ := List.mem_map.1 ha
      have hb := hw x hx
      have hl3 : ((idx (lv l) a).take 3).length = 3 := by rw [List.length_take]; omega
      have hlen := idx_len (lv l) a
      simp only [List.length_map] at hlen
      rw [h3]
      have hlev : 1 ≤ (if a < 16 then a + 1 else 16) ∧ (if a < 16 then a + 1 else 16) ≤ 16 := by split <;> omega
      refine ev_neg (by simp only [hl3]; omega) (ev_pos (by simp only [hl3]; omega) (ev_neg (by omega) ?_))
      rw [decide_eq_false (by omega)]
      refine evs (f := ?f2) ?h2 ?r2
      case h2 =>
        intro k
        simp only [verbatimlaw16_TierEnds.j4]
        rw [if_neg (by simp)]
      have hsub : ∀ p ∈ (idx (lv l) a).take 3, 0 ≤ p ∧ p < l.length := fun p hp => by
        have := mem_idx (List.mem_of_mem_take hp)
        simp only [List.length_map] at this
        exact ⟨this.1, this.2.1⟩
      have hcnt := left_all l ((idx (lv l) a).take 3) ((idx_sorted (lv l) a).sublist (List.take_sublist _ _)) hsub
      rw [hl3] at hcnt
      refine ev_bind (done_ev l ((idx (lv l) a).take 3) ⟨num, 0, if a < 16 then a + 1 else 16, 0⟩ (by omega) (by omega)) ?_
      refine ev_pos ?_ ?_
      · rw [wid (n := (l.length : Int) - 3) (by omega) (by omega), wid (by omega) (by omega), List.length_append, List.length_singleton]
        omega
      · rw [wnat s (by omega)]
        match m, hm with
        | 0, hm => omega
        | m + 1, hm =>
          refine ends_l1 x0 h60 m (s + 1) _ _ ?_ ?_ ?_
          · rw [List.length_append, List.length_singleton]
            omega
          · rw [List.length_append, List.length_singleton]
            omega
          · intro y hy
            rcases List.mem_append.1 hy with hy | hy
            · exact hw y (left_sub l _ l 0 y hy)
            · rw [List.mem_singleton.1 hy]
              show 0 ≤ (if a < 16 then a + 1 else 16) ∧ (if a < 16 then a + 1 else 16) ≤ 16
              exact ⟨by omega, hlev.2⟩
theorem ends_l0 (x0 : List Int) (h60 : x0.length ≤ 60) (hx : ∀ x ∈ x0, 0 ≤ x) : ∀ d i : Nat, i + d = x0.length → ∀ l : List Ref, l.length = i → (∀ x ∈ l, 0 ≤ x.f2 ∧ x.f2 ≤ 16) → Ev (fun k => verbatimlaw16_TierEnds.l0 k x0 true l (i : Int)) true
  | 0, i, h, l, hl, hw => by
    refine evs (f := fun k => verbatimlaw16_TierEnds.l1 k x0 true l (wrap64 ((x0.length : Int) + 1)) ((0 : Nat) : Int)) (fun k => ?_) (ends_l1 x0 h60 l.length 0 l _ (by omega) (by omega) hw)
    simp only [verbatimlaw16_TierEnds.l0]
    rw [if_neg (by omega)]
    rfl
  | d + 1, i, h, l, hl, hw => by
    have hi : i < x0.length := by omega
    have h0 := hx x0[i] (List.getElem_mem hi)
    have e : wrap64 (Int.tmod (rd x0 (i : Int)) 17) = x0[i] % 17 := by
      rw [rd_get x0 i hi, Int.tmod_eq_emod_of_nonneg h0, wid (by omega) (by omega)]
    refine evs (fun k => ?_) (ends_l0 x0 h60 hx d (i + 1) (by omega) (l ++ [(⟨((i + 1 : Nat) : Int), 0, x0[i] % 17, 0⟩ : Ref)]) (by simp [hl]) (fun x hx => ?_))
    · simp only [verbatimlaw16_TierEnds.l0]
      rw [if_pos (by omega), if_pos (by omega), if_pos (by omega), e, wnat i (by omega)]
    · rcases List.mem_append.1 hx with hx | hx
      · exact hw x hx
      · rw [List.mem_singleton.1 hx]
        show 0 ≤ x0[i] % 17 ∧ x0[i] % 17 ≤ 16
        omega
theorem TierEnds : verbatimlaw16_TierEnds.Pure := by
  intro l ⟨_, hl⟩
  refine Ev.rounds ?_
  unfold verbatimlaw16_TierEnds.f
  refine ev_bind head_ev (ev_if (fun _ => Ev.now true) (fun h1 => ?_))
  refine ends_l0 l (by omega) (fun x hx => ?_) l.length 0 (by omega) [] rfl (by simp)
  have h := hl x hx
  have h1 : (decide (IntKind.u8.min ≤ x) && decide (x ≤ IntKind.u8.max)) = true := h
  rw [Bool.and_eq_true, decide_eq_true_eq, decide_eq_true_eq] at h1
  have e1 : IntKind.u8.min = 0 := rfl
  omega
end Go.Proofs.Ytbbgnapepkenaaa.Pure
