/- What a query means, in plain Lean: the document's way, and how great a query is. No program but the printed names. -/
import Derived.Test.YtbbgnapepkenaaaEvalPure3
import Derived.Test.YtbbgnapepkenaaaE5
import Derived.Test.YtbbgnapepkenaaaE4
namespace Go.Proofs.Ytbbgnapepkenaaa.EvalPure
set_option linter.unusedVariables false
set_option linter.unusedSimpArgs false
open Go.RowKit Go.Proofs.Ytbbgnapepkenaaa.E Go.Proofs.YtbbgnapepkenaaaW.PrintWords Go.Proofs.Ytbbgnapepkenaaa.PureLib
theorem ev_l0 (t : ByteArray) (a2 b2 : Int) (hb : wrap64 (a2 - 1) = b2) (P : Qy → Bool) (kd : Int) (tx : List ByteArray) (l : List Qy) (hl : l.length ≤ 140737488351232) (ih : ∀ x ∈ l, Ev (fun k => verbatimref20_match.f k x.f0 x.f1 x.f2 t b2) (P x)) : ∀ (n i : Nat), i + n = l.length →
    Ev (fun k => verbatimref20_match.l0 k t a2 (i : Int) kd tx l) ((l.drop i).all P)
  | 0, i, hi => ev_some (fun k => by
      simp only [verbatimref20_match.l0]
      rw [if_neg (by omega), List.drop_of_length_le (by omega)]
      rfl)
  | n + 1, i, hi => by
    have hil : i < l.length := by omega
    rw [List.drop_eq_getElem_cons hil, List.all_cons]
    have hq := ih l[i] (List.getElem_mem _)
    have hr := ev_l0 t a2 b2 hb P kd tx l hl ih n (i + 1) (by omega)
    refine evs (f := fun k => (verbatimref20_match.f k l[i].f0 l[i].f1 l[i].f2 t b2).bind fun b => if b = true then verbatimref20_match.l0 k t a2 ((i + 1 : Nat) : Int) kd tx l else some false) (fun k => ?_) (ev_bind hq ?_)
    · simp only [verbatimref20_match.l0]
      rw [if_pos (by omega), if_pos (by omega), show rd_T40 l (i : Int) = l[i] from kid_get l i hil, hb, wnat i (by omega)]
    · cases hP : P l[i] with
      | true => exact hr.congr (fun k => if_pos rfl)
      | false => exact ev_const (fun k => if_neg (by simp))
theorem ev_l1 (t : ByteArray) (a2 b2 : Int) (hb : wrap64 (a2 - 1) = b2) (P : Qy → Bool) (kd : Int) (tx : List ByteArray) (l : List Qy) (hl : l.length ≤ 140737488351232) (ih : ∀ x ∈ l, Ev (fun k => verbatimref20_match.f k x.f0 x.f1 x.f2 t b2) (P x)) : ∀ (n i : Nat), i + n = l.length →
    Ev (fun k => verbatimref20_match.l1 k t a2 (i : Int) kd tx l) ((l.drop i).any P)
  | 0, i, hi => ev_some (fun k => by
      simp only [verbatimref20_match.l1]
      rw [if_neg (by omega), List.drop_of_length_le (by omega)]
      rfl)
  | n + 1, i, hi => by
    have hil : i < l.length := by omega
    rw [List.drop_eq_getElem_cons hil, List.any_cons]
    have hq := ih l[i] (List.getElem_mem _)
    have hr := ev_l1 t a2 b2 hb P kd tx l hl ih n (i + 1) (by omega)
    refine evs (f := fun k => (verbatimref20_match.f k l[i].f0 l[i].f1 l[i].f2 t b2).bind fun b => if b = true then some true else verbatimref20_match.l1 k t a2 ((i + 1 : Nat) : Int) kd tx l) (fun k => ?_) (ev_bind hq ?_)
    · simp only [verbatimref20_match.l1]
      rw [if_pos (by omega), if_pos (by omega), show rd_T40 l (i : Int) = l[i] from kid_get l i hil, hb, wnat i (by omega)]
    · cases hP : P l[i] with
      | true => exact ev_const (fun k => if_pos rfl)
      | false => exact hr.congr (fun k => if_neg (by simp))
/-- What the document tells. -/
theorem ev_rmatch (t : ByteArray) (ht : t.size < 4294967281) : ∀ (d : Nat), d ≤ 301 → ∀ q : Qy, GoodQ q → Ev (fun k => verbatimref20_match.f k q.f0 q.f1 q.f2 t ((d : Int) - 1)) (mt t d q)
  | 0, hd, q, hq => ev_some (fun k => by
      rw [verbatimref20_match.f]
      rw [if_pos (by omega)]
      rfl)
  | d + 1, hd, q, hq => by
    have htx := good_texts hq
    have hw : wrap64 (((d + 1 : Nat) : Int) - 1 - 1) = (d : Int) - 1 := by
      rw [wid (by omega) (by omega)]
      omega
    have ih : ∀ x ∈ q.f2, Ev (fun k => verbatimref20_match.f k x.f0 x.f1 x.f2 t ((d : Int) - 1)) (mt t d x) := fun x hx => ev_rmatch t ht d (by omega) x (good_kid hq hx)
    have hdef : ∀ k, verbatimref20_match.f (k + 1) q.f0 q.f1 q.f2 t (((d + 1 : Nat) : Int) - 1) = _ := fun k => by
      rw [verbatimref20_match.f, if_neg (show ¬ (((d + 1 : Nat) : Int) - 1) < 0 by omega)]
    refine evs hdef ?_
    rw [mt]
    by_cases h1 : q.f0 = 1
    · rw [if_pos h1]
      refine ev_pos h1 ?_
      cases e : q.f1 with
      | nil => exact ev_neg (by simp) (Ev.now _)
      | cons s l =>
        refine ev_pos (by simp) (ev_pos (by simp) ?_)
        have hs : s.size ≤ 140737488351232 := htx.2 s (by rw [e]; exact List.mem_cons_self)
        have := ev_stands t s ht hs t.size 0 (by omega)
        refine ev_eq (ev_bind (f := fun k (b : Int) => some (decide (b ≥ 0))) this (Ev.now _)) ?_
        rw [List.drop_zero]
        show _ = (ix s.data.toList t.data.toList).isSome
        cases ix s.data.toList t.data.toList with
        | none => rfl
        | some j => simp [at_]
    · rw [if_neg h1]
      refine ev_neg h1 ?_
      by_cases h2 : q.f0 = 2
      · rw [if_pos h2]
        refine ev_pos h2 ?_
        cases e : q.f1 with
        | nil => exact ev_neg (by simp) (Ev.now _)
        | cons s l =>
          refine ev_pos (by simp) (ev_pos (by simp) ?_)
          rw [show rdOf ByteArray.empty (s :: l) 0 = s from rfl]
          have hsl : s.data.toList.length = s.size := data_length s
          by_cases hle : s.size ≤ t.size
          · refine ev_pos (by omega) (ev_pos (by omega) (ev_const (fun k => ?_)))
            congr 1
            show _ = s.data.toList.isPrefixOf t.data.toList
            rw [prefix_take, Bool.eq_iff_iff, beq_iff_eq, decide_eq_true_eq, toList_eq, show (((s.size : Nat) : Int)).toNat = s.size from rfl, extract_data _ _ _ hle, hsl, List.drop_zero, Nat.sub_zero]
          · refine ev_neg (by omega) (ev_const (fun k => ?_))
            congr 1
            refine (Bool.eq_false_iff.2 (fun e => ?_)).symm
            have := (List.isPrefixOf_iff_prefix.1 e).length_le
            rw [hsl, data_length] at this
            omega
      · rw [if_neg h2]
        refine ev_neg h2 ?_
        by_cases h3 : q.f0 = 3
        · rw [if_pos h3]
          refine ev_pos h3 ?_
          have := ev_rfind t ht q.f1 (by omega) htx.2
          refine ev_eq (ev_bind (f := fun k (b : List Int × Bool) => some b.2) this (Ev.now _)) ?_
          cases find t.data.toList 0 q.f1 <;> rfl
        · rw [if_neg h3]
          refine ev_neg h3 ?_
          by_cases h4 : q.f0 = 4
          · rw [if_pos h4]
            exact ev_pos h4 (ev_l0 t _ _ hw (mt t d) q.f0 q.f1 q.f2 (good_kids hq) ih q.f2.length 0 (by omega))
          · rw [if_neg h4]
            refine ev_neg h4 ?_
            by_cases h5 : q.f0 = 5
            · rw [if_pos h5]
              exact ev_pos h5 (ev_l1 t _ _ hw (mt t d) q.f0 q.f1 q.f2 (good_kids hq) ih q.f2.length 0 (by omega))
            · rw [if_neg h5]
              refine ev_neg h5 ?_
              by_cases h6 : q.f0 = 6
              · rw [if_pos h6]
                refine ev_pos h6 ?_
                cases e : q.f2 with
                | nil => exact ev_neg (by simp) (Ev.now _)
                | cons x l =>
                  refine ev_pos (by simp) (ev_pos (by simp) ?_)
                  have := ih x (by rw [e]; exact List.mem_cons_self)
                  rw [← hw] at this
                  exact ev_bind (f := fun k (b : Bool) => some (!b)) this (Ev.now _)
              · rw [if_neg h6]
                refine ev_neg h6 ?_
                by_cases h7 : q.f0 = 7
                · exact ev_pos h7 (ev_eq (Ev.now _) (by simp [h7]))
                · exact ev_neg h7 (ev_eq (Ev.now _) (by simp [h7]))
/-- How great a query is can be told. -/
theorem ev_great_l0 (a : Int) (n5 : Int) (tx : List ByteArray) (kd : Int) (l : List Qy) (hl : l.length ≤ 140737488351232) (ih : a > 0 → ∀ x ∈ l, ∃ b, Ev (fun k => verbatimlaw20_great.f k x.f0 x.f1 x.f2 (wrap64 (a - 1))) b) : ∀ (n i : Nat), i + n = l.length →
    ∃ b, Ev (fun k => verbatimlaw20_great.l0 k a n5 (i : Int) kd tx l) b
  | 0, i, hi => ⟨_, evs (fun k => by
      simp only [verbatimlaw20_great.l0]
      rw [if_neg (by omega)]) (ev_some (r := decide (n5 ≥ 2000)) (fun k => by
      simp only [verbatimlaw20_great.j1]
      rw [if_neg (by simp)]))⟩
  | n + 1, i, hi => by
    have hil : i < l.length := by omega
    by_cases h5 : n5 < 2000
    · by_cases ha : a > 0
      · obtain ⟨b, hb⟩ := ih ha l[i] (List.getElem_mem _)
        obtain ⟨c, hc⟩ := ev_great_l0 a n5 tx kd l hl ih n (i + 1) (by omega)
        refine ⟨if b = true then true else c, evs (f := fun k => verbatimlaw20_great.j1 k a n5 (i : Int) (decide (a > 0)) kd tx l) (fun k => by
          simp only [verbatimlaw20_great.l0]
          rw [if_pos (by omega), if_pos h5]) ?_⟩
        refine evs (f := fun k => (verbatimlaw20_great.f k l[i].f0 l[i].f1 l[i].f2 (wrap64 (a - 1))).bind fun b => if b = true then some true else verbatimlaw20_great.l0 k a n5 ((i + 1 : Nat) : Int) kd tx l) (fun k => by
          simp only [verbatimlaw20_great.j1]
          rw [if_pos (by simpa using ha), if_pos (by omega), if_pos (by omega), show rd_T40 l (i : Int) = l[i] from kid_get l i hil, wnat i (by omega)]) (ev_bind hb ?_)
        cases b with
        | true => exact ev_const (fun k => if_pos rfl)
        | false => exact hc.congr (fun k => if_neg (by simp))
      · refine ⟨_, evs (f := fun k => verbatimlaw20_great.j1 k a n5 (i : Int) (decide (a > 0)) kd tx l) (fun k => by
          simp only [verbatimlaw20_great.l0]
          rw [if_pos (by omega), if_pos h5]) (ev_some (r := decide (n5 ≥ 2000)) (fun k => by
          simp only [verbatimlaw20_great.j1]
          rw [if_neg (by simpa using ha)]))⟩
    · refine ⟨_, evs (f := fun k => verbatimlaw20_great.j1 k a n5 (i : Int) false kd tx l) (fun k => by
          simp only [verbatimlaw20_great.l0]
          rw [if_pos (by omega), if_neg h5]) (ev_some (r := decide (n5 ≥ 2000)) (fun k => by
          simp only [verbatimlaw20_great.j1]
          rw [if_neg (by simp)]))⟩
theorem ev_great : ∀ (a : Nat), a ≤ 1000 → ∀ q : Qy, GoodQ q → ∃ b, Ev (fun k => verbatimlaw20_great.f k q.f0 q.f1 q.f2 (a : Int)) b
  | 0, ha, q, hq => by
    obtain ⟨b, hb⟩ := ev_great_l0 ((0 : Nat) : Int) (wrap64 ((q.f1.length : Int) + (q.f2.length : Int))) q.f1 q.f0 q.f2 (good_kids hq) (fun h => absurd h (by simp)) q.f2.length 0 (by omega)
    exact ⟨b, evs (fun k => by rw [verbatimlaw20_great.f]; rfl) hb⟩
  | a + 1, ha, q, hq => by
    obtain ⟨b, hb⟩ := ev_great_l0 ((a + 1 : Nat) : Int) (wrap64 ((q.f1.length : Int) + (q.f2.length : Int))) q.f1 q.f0 q.f2 (good_kids hq) (fun _ x hx => by
      rw [show wrap64 (((a + 1 : Nat) : Int) - 1) = (a : Int) from by rw [wid (by omega) (by omega)]; omega]
      exact ev_great a (by omega) x (good_kid hq hx)) q.f2.length 0 (by omega)
    exact ⟨b, evs (fun k => by rw [verbatimlaw20_great.f]; rfl) hb⟩
end Go.Proofs.Ytbbgnapepkenaaa.EvalPure
