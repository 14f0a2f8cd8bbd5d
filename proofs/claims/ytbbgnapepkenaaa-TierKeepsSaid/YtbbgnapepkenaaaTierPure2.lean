/- What a plan is, in plain Lean: the first three places of the least level of which there are more than three. No program but the printed names of TierPure. -/
import Derived.Test.YtbbgnapepkenaaaTierPure
namespace Go.Proofs.Ytbbgnapepkenaaa.TierPure
set_option linter.unusedVariables false
set_option linter.unusedSimpArgs false
open Go.RowKit Go.Proofs.Ytbbgnapepkenaaa.Q Go.Proofs.YtbbgnapepkenaaaW.PrintWords Go.Proofs.Ytbbgnapepkenaaa.PureLib Go.Proofs.Ytbbgnapepkenaaa.TierP
theorem mem_idx {ls : List Int} {m p : Int} (h : p ∈ idx ls m) : 0 ≤ p ∧ p < ls.length ∧ ls.getD p.toNat 0 = m := by
  unfold idx at h
  obtain ⟨j, hj, rfl⟩ := List.mem_map.1 h
  obtain ⟨h1, h2⟩ := List.mem_filter.1 hj
  have hlt : j < ls.length := List.mem_range.1 h1
  refine ⟨by simp, by simp; exact hlt, ?_⟩
  exact of_decide_eq_true h2
theorem idx_sorted (ls : List Int) (m : Int) : (idx ls m).Pairwise (· < ·) := by
  unfold idx
  rw [List.pairwise_map]
  refine List.Pairwise.imp (fun h => ?_) (List.Pairwise.filter _ List.pairwise_lt_range)
  simpa using h
theorem plan_spec (ls : List Int) : (planS ls = ([], 0) ∧ ∀ x, (idx ls x).length ≤ 3) ∨
    ∃ m, 3 < (idx ls m).length ∧ (∀ x, 3 < (idx ls x).length → m ≤ x) ∧ planS ls = ((idx ls m).take 3, if m < 16 then m + 1 else 16) := by
  have hm : ∀ x, x ∈ over ls ls.length ↔ 4 ≤ (idx ls x).length := fun x => by rw [mem_over ls x _ (Nat.le_refl _), List.take_length]
  by_cases e : over ls ls.length = []
  · refine .inl ⟨if_pos e, fun x => ?_⟩
    have := (hm x).2
    rw [e] at this
    simp at this
    omega
  · refine .inr ⟨Lib.minOf (over ls ls.length), (hm _).1 (minOf_mem _ e), fun x hx => minOf_le _ x ((hm x).2 hx), if_neg e⟩
theorem plan_len (ls : List Int) : (planS ls).1.length ≤ 3 := by
  rcases plan_spec ls with ⟨h, _⟩ | ⟨m, _, _, h⟩
  · rw [h]; simp
  · rw [h]; simp; omega
theorem plan_congr (a b : List Int) (h : ∀ x, 3 < (idx a x).length ∨ 3 < (idx b x).length → idx a x = idx b x) : planS a = planS b := by
  rcases plan_spec a with ⟨h1, h2⟩ | ⟨m, h1, h2, h3⟩
  · rcases plan_spec b with ⟨h4, _⟩ | ⟨n, h4, _, _⟩
    · rw [h1, h4]
    · have := h n (.inr h4)
      have := h2 n
      rw [h n (.inr h4)] at this
      omega
  · rcases plan_spec b with ⟨_, h5⟩ | ⟨n, h4, h5, h6⟩
    · have := h5 m
      rw [← h m (.inl h1)] at this
      omega
    · have e1 := h m (.inl h1)
      have e2 := h n (.inr h4)
      have : m = n := Int.le_antisymm (h2 n (by rw [e2]; exact h4)) (h5 m (by rw [← e1]; exact h1))
      subst this
      rw [h3, h6, e1]
theorem count_filter (ps : List Int) (hs : ps.Pairwise (· < ·)) (i : Int) : (ps.filter (fun p => decide (p = i))).length = if i ∈ ps then 1 else 0 := by
  induction ps with
  | nil => simp
  | cons p ps ih =>
    obtain ⟨h1, h2⟩ := List.pairwise_cons.1 hs
    have ih := ih h2
    rw [List.filter_cons]
    by_cases e : p = i
    · subst e
      have hn : p ∉ ps := fun hp => by have := h1 p hp; omega
      rw [if_neg hn] at ih
      simp [ih]
    · have e' : ¬ i = p := fun h => e h.symm
      simp only [e, decide_false, Bool.false_eq_true, if_false, List.mem_cons, e', false_or]
      exact ih
theorem left_count (l : List Ref) (ps : List Int) (hs : ps.Pairwise (· < ·)) : ∀ (xs : List Ref) (i : Nat), (left l ps i xs).length + (ps.filter (fun p => decide ((i : Int) ≤ p ∧ p < (i : Int) + xs.length))).length = xs.length
  | [], i => by
    have : ps.filter (fun p => decide ((i : Int) ≤ p ∧ p < (i : Int) + (([] : List Ref).length : Int))) = [] := by
      rw [List.filter_eq_nil_iff]
      intro p _
      simp
      try omega
    rw [this]
    rfl
  | x :: xs, i => by
    have ih := left_count l ps hs xs (i + 1)
    have hsplit : (ps.filter (fun p => decide ((i : Int) ≤ p ∧ p < (i : Int) + ((x :: xs).length : Int)))).length = (ps.filter (fun p => decide (p = (i : Int)))).length + (ps.filter (fun p => decide (((i + 1 : Nat) : Int) ≤ p ∧ p < ((i + 1 : Nat) : Int) + (xs.length : Int)))).length := by
      clear ih hs
      induction ps with
      | nil => rfl
      | cons p ps ih =>
        have yes : ∀ {c : Prop} [Decidable c] {a b : List Int}, c → (if decide c = true then a else b) = a := fun h => if_pos (decide_eq_true h)
        have no : ∀ {c : Prop} [Decidable c] {a b : List Int}, ¬ c → (if decide c = true then a else b) = b := fun h => if_neg (fun h' => h (of_decide_eq_true h'))
        rw [List.filter_cons, List.filter_cons, List.filter_cons]
        simp only [List.length_cons] at ih ⊢
        by_cases h1 : p = (i : Int)
        · rw [yes (by omega), yes h1, no (by omega), List.length_cons, ih]
          show _ = (_ + 1) + _
          omega
        · by_cases h2 : ((i : Int) ≤ p ∧ p < (i : Int) + ((xs.length + 1 : Nat) : Int))
          · rw [yes h2, no h1, yes (by omega), List.length_cons, ih]
            show _ = _ + (_ + 1)
            omega
          · rw [no h2, no h1, no (by omega), ih]
    rw [hsplit, count_filter ps hs, left]
    by_cases hm : (i : Int) ∈ ps
    · rw [if_pos hm, if_pos hm, List.length_cons]
      omega
    · rw [if_neg hm, if_neg hm, List.length_cons, List.length_cons]
      omega
theorem left_all (l : List Ref) (ps : List Int) (hs : ps.Pairwise (· < ·)) (hp : ∀ p ∈ ps, 0 ≤ p ∧ p < l.length) : (left l ps 0 l).length + ps.length = l.length := by
  have := left_count l ps hs l 0
  have e : ps.filter (fun p => decide (((0 : Nat) : Int) ≤ p ∧ p < ((0 : Nat) : Int) + (l.length : Int))) = ps := by
    rw [List.filter_eq_self]
    intro p h
    have := hp p h
    simp
    omega
  rw [e] at this
  exact this
theorem left_sub (l : List Ref) (ps : List Int) : ∀ (xs : List Ref) (i : Nat), ∀ x ∈ left l ps i xs, x ∈ xs
  | [], _, x, h => by simp [left] at h
  | y :: ys, i, x, h => by
    rw [left] at h
    split at h
    · exact List.mem_cons_of_mem _ (left_sub l ps ys (i + 1) x h)
    · rcases List.mem_cons.1 h with rfl | h
      · exact List.mem_cons_self
      · exact List.mem_cons_of_mem _ (left_sub l ps ys (i + 1) x h)
end Go.Proofs.Ytbbgnapepkenaaa.TierPure
