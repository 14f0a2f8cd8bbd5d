/- Of any segments: what is planned is of one tier, the least of which there are too many, the first of it in order; what is left is all else, and the one. The plain statement of the law TierPlan. -/
import Derived.Test.YtbbgnapepkenaaaQ8
import Derived.Test.YtbbgnapepkenaaaTierPure2
namespace Go.Proofs.Ytbbgnapepkenaaa.Pure
set_option linter.unusedVariables false
set_option linter.unusedSimpArgs false
open Go.RowKit Go.Proofs.Ytbbgnapepkenaaa.Q Go.Proofs.YtbbgnapepkenaaaW.PrintWords Go.Proofs.Ytbbgnapepkenaaa.PureLib Go.Proofs.Ytbbgnapepkenaaa.TierP Go.Proofs.Ytbbgnapepkenaaa.TierPure
/-- What the law says of a plan. -/
structure Good (l : List Ref) (p : List Int) (level : Int) : Prop where
  rng : ∀ x ∈ p, 0 ≤ x ∧ x < l.length
  srt : p.Pairwise (· < ·)
  lev : ∃ m, (∀ x ∈ p, (lv l).getD x.toNat 0 = m) ∧ (∀ y, 3 < (idx (lv l) y).length → p ≠ [] ∧ m ≤ y) ∧ (m < 16 → p ≠ [] → level = m + 1) ∧ -9223372036854775808 ≤ m ∧ m ≤ 9223372036854775807
theorem last_f (l : List Ref) (hn : l.length ≤ 200) (p : List Int) (level : Int) (o : Ref) (G : Good l p level) :
    Ev (fun k => (tier_Done.f k l p o.f0 o.f1 o.f2 o.f3).bind fun t => if True then (if (t.length : Int) = wrap64 (wrap64 ((l.length : Int) - (p.length : Int)) + 1) then (if 0 ≤ wrap64 ((t.length : Int) - 1) then (if wrap64 ((t.length : Int) - 1) < (t.length : Int) then some ((rd_T25 t (wrap64 ((t.length : Int) - 1))).f0 == o.f0 && ((rd_T25 t (wrap64 ((t.length : Int) - 1))).f1 == o.f1 && ((rd_T25 t (wrap64 ((t.length : Int) - 1))).f2 == o.f2 && ((rd_T25 t (wrap64 ((t.length : Int) - 1))).f3 == o.f3)))) else none) else none) else some false) else some false) true := by
  have hc := left_all l p G.srt G.rng
  refine ev_bind (done_ev l p o (by omega) (by omega)) ?_
  have hlen : (left l p 0 l ++ [o]).length = (left l p 0 l).length + 1 := by simp
  have e1 : wrap64 (((left l p 0 l ++ [o]).length : Int) - 1) = (((left l p 0 l).length : Nat) : Int) := by rw [hlen, wid (by omega) (by omega)]; omega
  refine ev_pos trivial (ev_pos ?_ ?_)
  · rw [wid (n := (l.length : Int) - (p.length : Int)) (by omega) (by omega), wid (by omega) (by omega), hlen]
    omega
  · rw [e1]
    refine ev_pos (by omega) (ev_pos (by rw [hlen]; omega) (ev_eq (Ev.now _) ?_))
    rw [rdT _ _ (by rw [hlen]; omega)]
    simp
theorem plan_law_l2 (l : List Ref) (hn : l.length ≤ 200) (p : List Int) (level : Int) (o : Ref) (G : Good l p level) (i : Nat) (hi : i < l.length)
    (hr : Ev (fun k => verbatimlaw16_TierPlan.l1 k l true p level ((i + 1 : Nat) : Int) o.f0 o.f1 o.f2 o.f3) true) :
    ∀ d j : Nat, j + d = l.length → Ev (fun k => verbatimlaw16_TierPlan.l2 k l true p level (i : Int) ((idx ((lv l).take j) ((lv l).getD i 0)).length : Int) (j : Int) o.f0 o.f1 o.f2 o.f3) true
  | 0, j, h => by
    refine evs (fun k => ?_) hr
    have c1 : ¬ (j : Int) < (l.length : Int) := by omega
    have c2 : (0 : Int) ≤ (i : Int) := by omega
    have c3 : (i : Int) < (l.length : Int) := by omega
    rw [List.take_of_length_le (by simp; omega)]
    by_cases hm : 3 < (idx (lv l) ((lv l).getD i 0)).length
    · obtain ⟨m, h1, h2, _, _⟩ := G.lev
      obtain ⟨h3, h4⟩ := h2 _ hm
      have hpos : 0 < p.length := List.length_pos_iff.2 h3
      have hp0 := G.rng p[0] (List.getElem_mem hpos)
      have hl0 := h1 p[0] (List.getElem_mem hpos)
      have e0 : rd p 0 = p[0] := rd_get p 0 hpos
      have e1 : (rd_T25 l p[0]).f2 = m := by
        have := rdlv l p[0].toNat (by omega)
        rw [show ((p[0].toNat : Nat) : Int) = p[0] by omega] at this
        rw [this, hl0]
      have c4 : ((idx (lv l) ((lv l).getD i 0)).length : Int) > 3 := by omega
      have c5 : ¬ (p.length : Int) = 0 := by omega
      have c6 : 0 < (p.length : Int) := by omega
      have c7 : (0 : Int) ≤ p[0] := hp0.1
      have c8 : (p[0] : Int) < (l.length : Int) := hp0.2
      have c9 : ¬ m > (lv l).getD i 0 := by omega
      simp only [verbatimlaw16_TierPlan.l2]
      rw [if_neg c1, if_pos c4, if_neg c5, if_pos c6, e0, if_pos c7, if_pos c8, if_pos c2, if_pos c3, e1, rdlv l i hi, if_neg c9, wnat i (by omega)]
    · simp only [verbatimlaw16_TierPlan.l2]
      rw [if_neg c1, if_neg (by omega), wnat i (by omega)]
  | d + 1, j, h => by
    have hj : j < l.length := by omega
    have hb := idx_len ((lv l).take j) ((lv l).getD i 0)
    simp only [List.length_take, List.length_map] at hb
    refine evs (fun k => ?_) (plan_law_l2 l hn p level o G i hi hr d (j + 1) (by omega))
    simp only [verbatimlaw16_TierPlan.l2]
    rw [if_pos (by omega), if_pos (by omega), if_pos (by omega), if_pos (by omega), rdlv l i hi, rdlv l j hj, wnat j (by omega), wnat _ (by omega), cnt_step (lv l) j (by simpa using hj)]
    by_cases e : (lv l).getD j 0 = (lv l).getD i 0
    · rw [if_pos e, if_pos e]
    · rw [if_neg e, if_neg e]
      rfl
theorem plan_law_l1 (l : List Ref) (hn : l.length ≤ 200) (p : List Int) (level : Int) (o : Ref) (G : Good l p level) : ∀ d i : Nat, i + d = l.length → Ev (fun k => verbatimlaw16_TierPlan.l1 k l true p level (i : Int) o.f0 o.f1 o.f2 o.f3) true
  | 0, i, h => by
    have hf := last_f l hn p level o G
    by_cases hp : p = []
    · refine evs (fun k => ?_) hf
      simp only [verbatimlaw16_TierPlan.l1]
      rw [if_neg (by omega), if_neg (by rw [hp]; simp)]
    · obtain ⟨m, h1, _, h3, h4, h5⟩ := G.lev
      have hpos : 0 < p.length := List.length_pos_iff.2 hp
      have hp0 := G.rng p[0] (List.getElem_mem hpos)
      have hl0 := h1 p[0] (List.getElem_mem hpos)
      have e0 : rd p 0 = p[0] := rd_get p 0 hpos
      have e1 : (rd_T25 l p[0]).f2 = m := by
        have := rdlv l p[0].toNat (by omega)
        rw [show ((p[0].toNat : Nat) : Int) = p[0] by omega] at this
        rw [this, hl0]
      by_cases hm : m < 16
      · refine evs (fun k => ?_) hf
        simp only [verbatimlaw16_TierPlan.l1]
        rw [if_neg (by omega), if_pos (by omega), if_pos (by omega), e0, if_pos hp0.1, if_pos hp0.2, e1, if_pos hm, wid (n := m + 1) (by omega) (by omega), if_pos (h3 hm hp)]
      · refine evs (fun k => ?_) hf
        simp only [verbatimlaw16_TierPlan.l1]
        rw [if_neg (by omega), if_pos (by omega), if_pos (by omega), e0, if_pos hp0.1, if_pos hp0.2, e1, if_neg hm]
  | d + 1, i, h => by
    refine evs (f := fun k => verbatimlaw16_TierPlan.l2 k l true p level (i : Int) ((idx ((lv l).take 0) ((lv l).getD i 0)).length : Int) ((0 : Nat) : Int) o.f0 o.f1 o.f2 o.f3) (fun k => ?_) (plan_law_l2 l hn p level o G i (by omega) (plan_law_l1 l hn p level o G d (i + 1) (by omega)) l.length 0 (by omega))
    simp only [verbatimlaw16_TierPlan.l1]
    rw [if_pos (by omega)]
    simp [idx]
theorem plan_law_l0 (l : List Ref) (hn : l.length ≤ 200) (p : List Int) (hp : p.length ≤ 3) (level : Int) (o : Ref) (G : Good l p level) : ∀ d i : Nat, i + d = p.length → Ev (fun k => verbatimlaw16_TierPlan.l0 k l true p level (i : Int) o.f0 o.f1 o.f2 o.f3) true
  | 0, i, h => by
    refine evs (f := fun k => verbatimlaw16_TierPlan.l1 k l true p level ((0 : Nat) : Int) o.f0 o.f1 o.f2 o.f3) (fun k => ?_) (plan_law_l1 l hn p level o G l.length 0 (by omega))
    simp only [verbatimlaw16_TierPlan.l0]
    rw [if_neg (by omega)]
    rfl
  | d + 1, i, h => by
    have hi : i < p.length := by omega
    have h0 : 0 < p.length := by omega
    obtain ⟨m, h1, _, _, _, _⟩ := G.lev
    have hr := G.rng p[i] (List.getElem_mem hi)
    have hr0 := G.rng p[0] (List.getElem_mem h0)
    have ei : rd p (i : Int) = p[i] := rd_get p i hi
    have e0 : rd p 0 = p[0] := rd_get p 0 h0
    have lev : ∀ j (hj : j < p.length), (rd_T25 l p[j]).f2 = m := fun j hj => by
      have hb := G.rng p[j] (List.getElem_mem hj)
      have := rdlv l p[j].toNat (by omega)
      rw [show ((p[j].toNat : Nat) : Int) = p[j] by omega] at this
      rw [this, h1 _ (List.getElem_mem hj)]
    have c1 : (i : Int) < (p.length : Int) := by omega
    have c2 : (0 : Int) ≤ (i : Int) := by omega
    have c3 : ¬ p[i] < 0 := by omega
    have c4 : ¬ p[i] ≥ (l.length : Int) := by omega
    have c5 : 0 < (p.length : Int) := by omega
    refine evs (fun k => ?_) (plan_law_l0 l hn p hp level o G d (i + 1) (by omega))
    simp only [verbatimlaw16_TierPlan.l0]
    by_cases hz : i = 0
    · subst hz
      rw [if_pos c1, if_pos c2, ei, if_neg c3, if_neg c4, if_neg (by omega), if_pos hr.1, if_pos hr.2, if_pos c5, e0, if_pos hr0.1, if_pos hr0.2, if_pos rfl, wnat 0 (by omega)]
    · have ew : wrap64 ((i : Int) - 1) = ((i - 1 : Nat) : Int) := by rw [wid (by omega) (by omega)]; omega
      have hlt : p[i - 1] < p[i] := List.pairwise_iff_getElem.1 G.srt (i - 1) i (by omega) hi (by omega)
      rw [if_pos c1, if_pos c2, ei, if_neg c3, if_neg c4, if_pos (by omega), ew, if_pos (by omega), if_pos (by omega), rd_get p (i - 1) (by omega), if_neg (by omega), if_pos hr.1, if_pos hr.2, if_pos c5, e0, if_pos hr0.1, if_pos hr0.2, lev i hi, lev 0 h0, if_pos rfl, wnat i (by omega)]
theorem good_plan (l : List Ref) (hw : ∀ x ∈ l, (Lit.int .i64 x.f2).wf = true) : Good l (planS (lv l)).1 (planS (lv l)).2 := by
  rcases plan_spec (lv l) with ⟨h1, h2⟩ | ⟨m, h1, h2, h3⟩
  · rw [h1]
    refine ⟨by simp, List.Pairwise.nil, 0, by simp, fun y hy => ?_, fun _ h => absurd rfl h, by omega, by omega⟩
    have := h2 y
    omega
  · rw [h3]
    have ha : m ∈ lv l := idx_mem _ _ (by intro e; rw [e] at h1; simp at h1)
    obtain ⟨x, hx, rfl⟩ := List.mem_map.1 ha
    have hwx : (decide (IntKind.i64.min ≤ x.f2) && decide (x.f2 ≤ IntKind.i64.max)) = true := hw x hx
    rw [Bool.and_eq_true, decide_eq_true_eq, decide_eq_true_eq] at hwx
    have e1 : IntKind.i64.min = -9223372036854775808 := rfl
    have e2 : IntKind.i64.max = 9223372036854775807 := rfl
    refine ⟨fun y hy => ?_, (idx_sorted _ _).sublist (List.take_sublist _ _), x.f2, fun y hy => (mem_idx (List.mem_of_mem_take hy)).2.2, fun y hy => ⟨fun e => ?_, h2 y hy⟩, fun h _ => if_pos h, by omega, by omega⟩
    · have := mem_idx (List.mem_of_mem_take hy)
      simp only [List.length_map] at this
      exact ⟨this.1, this.2.1⟩
    · have : ((idx (lv l) x.f2).take 3).length = 3 := by rw [List.length_take]; omega
      have e : (idx (lv l) x.f2).take 3 = [] := e
      rw [e] at this
      simp at this
theorem TierPlan : verbatimlaw16_TierPlan.Pure := by
  intro l o ⟨_, hl⟩ _
  have hw : ∀ x ∈ l, (Lit.int .i64 x.f2).wf = true := fun x hx => (hl x hx).2.2.1
  refine Ev.rounds ?_
  unfold verbatimlaw16_TierPlan.f
  refine ev_bind head_ev (ev_if (fun _ => Ev.now true) (fun h1 => ?_))
  refine ev_bindc (plan_f l (by omega) hw) ?_
  exact plan_law_l0 l (by omega) _ (plan_len _) _ o (good_plan l hw) _ 0 (Nat.zero_add _)
end Go.Proofs.Ytbbgnapepkenaaa.Pure
