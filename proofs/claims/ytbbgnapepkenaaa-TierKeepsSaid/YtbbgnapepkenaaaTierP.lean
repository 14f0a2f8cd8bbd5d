/- What tier.Plan computes, in plain Lean: lists of levels; no program. No condition. -/
import Derived.Lib.Slices
namespace Go.Proofs.Ytbbgnapepkenaaa.TierP
set_option linter.unusedVariables false
set_option linter.unusedSimpArgs false
/-- The places of a level. -/
def idx (ls : List Int) (m : Int) : List Int := ((List.range ls.length).filter (fun i => decide (ls.getD i 0 = m))).map Int.ofNat
/-- The levels of which there are too many, in the order in which that was seen. -/
def over (ls : List Int) : Nat → List Int
  | 0 => []
  | k + 1 => over ls k ++ (if (idx (ls.take (k + 1)) (ls.getD k 0)).length = 4 then [ls.getD k 0] else [])
theorem idx_snoc (ls : List Int) (x m : Int) : idx (ls ++ [x]) m = idx ls m ++ (if x = m then [(ls.length : Int)] else []) := by
  unfold idx
  rw [List.length_append, List.length_singleton, List.range_succ, List.filter_append, List.map_append]
  congr 1
  · congr 1
    refine List.filter_congr fun i hi => ?_
    have hi : i < ls.length := List.mem_range.1 hi
    simp [List.getD_eq_getElem?_getD, List.getElem?_append_left hi]
  · by_cases h : x = m <;> simp [List.getD_eq_getElem?_getD, h]
theorem take_snoc (ls : List Int) (k : Nat) (h : k < ls.length) : ls.take (k + 1) = ls.take k ++ [ls.getD k 0] := by
  rw [List.take_succ_eq_append_getElem h]
  simp [List.getD_eq_getElem?_getD, h]
theorem idx_step (ls : List Int) (k : Nat) (h : k < ls.length) (m : Int) : idx (ls.take (k + 1)) m = idx (ls.take k) m ++ (if ls.getD k 0 = m then [(k : Int)] else []) := by
  rw [take_snoc ls k h, idx_snoc]
  simp [Nat.min_eq_left (Nat.le_of_lt h)]
/-- A level stands among these just if there are four of it, or more, so far. -/
theorem mem_over (ls : List Int) (m : Int) : ∀ k, k ≤ ls.length → (m ∈ over ls k ↔ 4 ≤ (idx (ls.take k) m).length)
  | 0, _ => by simp [over, idx]
  | k + 1, h => by
    have ih := mem_over ls m k (by omega)
    rw [over, List.mem_append, ih, idx_step ls k (by omega) m]
    by_cases e : ls.getD k 0 = m
    · rw [e, if_pos rfl, idx_step ls k (by omega) m, e, if_pos rfl]
      simp only [List.length_append, List.length_singleton]
      split
      · simp; omega
      · simp; omega
    · rw [if_neg e]
      simp only [List.append_nil]
      constructor
      · rintro (h1 | h1)
        · exact h1
        · split at h1
          · simp at h1
            exact absurd h1.symm e
          · cases h1
      · exact fun h1 => .inl h1
theorem idx_len (ls : List Int) (m : Int) : (idx ls m).length ≤ ls.length := by
  unfold idx
  rw [List.length_map]
  exact Nat.le_trans (List.length_filter_le _ _) (by simp)
theorem over_len (ls : List Int) : ∀ k, (over ls k).length ≤ k
  | 0 => by simp [over]
  | k + 1 => by
    have := over_len ls k
    rw [over, List.length_append]
    split <;> simp <;> omega
theorem foldl_min_mem : ∀ (zs : List Int) (a : Int), zs.foldl min a = a ∨ zs.foldl min a ∈ zs
  | [], a => .inl rfl
  | x :: zs, a => by
    rw [List.foldl_cons]
    rcases foldl_min_mem zs (min a x) with h | h
    · rw [h]
      rcases Int.min_def a x ▸ (show (if a ≤ x then a else x) = a ∨ (if a ≤ x then a else x) = x by split <;> simp) with h1 | h1
      · exact .inl h1
      · exact .inr (by rw [h1]; exact List.mem_cons_self)
    · exact .inr (List.mem_cons_of_mem _ h)
theorem minOf_mem (zs : List Int) (h : zs ≠ []) : Lib.minOf zs ∈ zs := by
  cases zs with
  | nil => exact absurd rfl h
  | cons x zs =>
    unfold Lib.minOf
    rw [List.headD_cons]
    rcases foldl_min_mem (x :: zs) x with h1 | h1
    · rw [h1]
      exact List.mem_cons_self
    · exact h1
theorem foldl_min_le : ∀ (zs : List Int) (a : Int), zs.foldl min a ≤ a ∧ ∀ x ∈ zs, zs.foldl min a ≤ x
  | [], a => ⟨Int.le_refl _, by simp⟩
  | y :: zs, a => by
    rw [List.foldl_cons]
    obtain ⟨h1, h2⟩ := foldl_min_le zs (min a y)
    refine ⟨by omega, fun x hx => ?_⟩
    rcases List.mem_cons.1 hx with rfl | hx
    · omega
    · exact h2 x hx
theorem minOf_le (zs : List Int) (x : Int) (h : x ∈ zs) : Lib.minOf zs ≤ x := (foldl_min_le zs _).2 x h
theorem idx_mem (ls : List Int) (m : Int) (h : idx ls m ≠ []) : m ∈ ls := by
  unfold idx at h
  obtain ⟨i, hi⟩ := List.exists_mem_of_ne_nil _ h
  obtain ⟨j, hj, _⟩ := List.mem_map.1 hi
  obtain ⟨h1, h2⟩ := List.mem_filter.1 hj
  have hlt : j < ls.length := List.mem_range.1 h1
  have h3 := of_decide_eq_true h2
  rw [List.getD_eq_getElem?_getD, List.getElem?_eq_getElem hlt] at h3
  rw [← h3]
  exact List.getElem_mem hlt
def planS (ls : List Int) : List Int × Int :=
  if over ls ls.length = [] then ([], 0)
  else ((idx ls (Lib.minOf (over ls ls.length))).take 3, if Lib.minOf (over ls ls.length) < 16 then Lib.minOf (over ls ls.length) + 1 else 16)
theorem idx_prefix (ls : List Int) (m : Int) (j : Nat) (h : j ≤ ls.length) : ∃ t, idx ls m = idx (ls.take j) m ++ t := by
  have key : ∀ d, j + d ≤ ls.length → ∃ t, idx (ls.take (j + d)) m = idx (ls.take j) m ++ t := by
    intro d
    induction d with
    | zero => exact fun _ => ⟨[], by simp⟩
    | succ d ih =>
      intro hd
      obtain ⟨t, ht⟩ := ih (by omega)
      rw [← Nat.add_assoc, idx_step ls (j + d) (by omega), ht]
      exact ⟨t ++ _, by rw [List.append_assoc]⟩
  obtain ⟨t, ht⟩ := key (ls.length - j) (by omega)
  rw [show j + (ls.length - j) = ls.length by omega, List.take_length] at ht
  exact ⟨t, ht⟩
theorem minOf_snoc (a : List Int) (x : Int) (h : a ≠ []) : Lib.minOf (a ++ [x]) = min (Lib.minOf a) x := by
  cases a with
  | nil => exact absurd rfl h
  | cons y ys => simp [Lib.minOf, List.foldl_append]
end Go.Proofs.Ytbbgnapepkenaaa.TierP
