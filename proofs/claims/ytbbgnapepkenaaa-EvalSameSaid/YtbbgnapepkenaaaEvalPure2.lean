/- What searching means, in plain Lean, part 2: the document's own answers. No program but the printed names. -/
import Derived.Test.YtbbgnapepkenaaaEvalPure
import Derived.Test.YtbbgnapepkenaaaE5
namespace Go.Proofs.Ytbbgnapepkenaaa.EvalPure
set_option linter.unusedVariables false
set_option linter.unusedSimpArgs false
open Go.RowKit Go.Proofs.Ytbbgnapepkenaaa.E Go.Proofs.YtbbgnapepkenaaaW.PrintWords Go.Proofs.Ytbbgnapepkenaaa.PureLib
theorem toList_eq (a b : ByteArray) : a.toList = b.toList ↔ a.data.toList = b.data.toList := by
  have h : ∀ x : ByteArray, x.toList = x.data.toList := fun x => ByteArray.toList_eq x
  rw [h, h]
theorem extract_data (t : ByteArray) (a b : Nat) (h : b ≤ t.size) : (t.extract a b).data.toList = (t.data.toList.drop a).take (b - a) := by
  rw [ByteArray.data_extract]
  simp
theorem prefix_take (s l : List UInt8) : s.isPrefixOf l = decide (l.take s.length = s) := by
  by_cases h : s.isPrefixOf l = true
  · rw [h]
    have := List.isPrefixOf_iff_prefix.1 h
    exact (decide_eq_true (List.prefix_iff_eq_take.1 this).symm).symm
  · have e : s.isPrefixOf l = false := Bool.eq_false_iff.2 h
    rw [e]
    refine (decide_eq_false (fun e' => h ?_)).symm
    rw [List.isPrefixOf_iff_prefix, List.prefix_iff_eq_take]
    exact e'.symm
def at_ (i : Nat) : Option Nat → Int
  | none => -1
  | some k => ((i + k : Nat) : Int)
theorem ev_stands (t s : ByteArray) (ht : t.size < 4294967281) (hs : s.size ≤ 140737488351232) : ∀ (n i : Nat), i + n = t.size →
    Ev (fun k => verbatimref20_stands.l0 k t s (i : Int)) (at_ i (ix s.data.toList (t.data.toList.drop i)))
  | n, i, hi => by
    have hw : wrap64 ((i : Int) + (s.size : Int)) = ((i + s.size : Nat) : Int) := by
      rw [wid (by omega) (by omega)]
      omega
    by_cases hle : i + s.size ≤ t.size
    · have hsl : s.data.toList.length = s.size := data_length s
      have he : (((t.extract ((i : Int)).toNat (((i + s.size : Nat) : Int)).toNat).toList = s.toList)) ↔ s.data.toList.isPrefixOf (t.data.toList.drop i) = true := by
        rw [toList_eq, show ((i : Int)).toNat = i from rfl, show (((i + s.size : Nat) : Int)).toNat = i + s.size from rfl, extract_data _ _ _ hle, prefix_take, decide_eq_true_eq, hsl, Nat.add_sub_cancel_left]
      by_cases hp : s.data.toList.isPrefixOf (t.data.toList.drop i) = true
      · refine ev_some (fun k => ?_)
        simp only [verbatimref20_stands.l0]
        rw [hw, if_pos (by omega), if_pos (by omega), if_pos (by omega), if_pos (he.2 hp), ix_prefix _ _ hp]
        simp [at_]
      · by_cases hlt : i < t.size
        · obtain ⟨m, rfl⟩ : ∃ m, n = m + 1 := ⟨n - 1, by omega⟩
          have hd : t.data.toList.drop i = (t.data.toList[i]'(by rw [data_length]; exact hlt)) :: t.data.toList.drop (i + 1) := List.drop_eq_getElem_cons _
          have ih := ev_stands t s ht hs m (i + 1) (by omega)
          have hr : at_ (i + 1) (ix s.data.toList (t.data.toList.drop (i + 1))) = at_ i (ix s.data.toList (t.data.toList.drop i)) := by
            rw [hd, ix_not _ _ _ (by rw [← hd]; exact Bool.eq_false_iff.2 hp)]
            cases ix s.data.toList (t.data.toList.drop (i + 1)) with
            | none => rfl
            | some k => simp [at_]; omega
          rw [hr] at ih
          refine evs (fun k => ?_) ih
          simp only [verbatimref20_stands.l0]
          rw [hw, if_pos (by omega), if_pos (by omega), if_pos (by omega), if_neg (fun h => hp (he.1 h)), wid (by omega) (by omega)]
          rfl
        · exfalso
          have h0 : s.size = 0 := by omega
          have h1 : s.data.toList = [] := List.eq_nil_of_length_eq_zero (by rw [hsl, h0])
          rw [h1] at hp
          exact hp (by simp)
    · refine ev_some (fun k => ?_)
      simp only [verbatimref20_stands.l0]
      rw [hw, if_neg (by omega), ix_long _ _ (by rw [List.length_drop, data_length, data_length]; omega)]
      rfl
theorem ev_rfind_l0 (t : ByteArray) (ht : t.size < 4294967281) (xs : List ByteArray) (hx : xs.length < 17592186044416) (hxs : ∀ x ∈ xs, x.size ≤ 140737488351232) : ∀ (n i a : Nat) (acc : List Int), i + n = xs.length → a ≤ t.size → acc.length = i →
    Ev (fun k => verbatimref20_Find.l0 k xs t acc (a : Int) (i : Int)) (resA acc (find t.data.toList a (xs.drop i)))
  | 0, i, a, acc, hi, ha, hacc => ev_some (fun k => by
      simp only [verbatimref20_Find.l0]
      rw [if_neg (by omega), List.drop_of_length_le (by omega)]
      simp [find, resA])
  | n + 1, i, a, acc, hi, ha, hacc => by
    have hil : i < xs.length := by omega
    have hd : xs.drop i = xs[i] :: xs.drop (i + 1) := List.drop_eq_getElem_cons hil
    have hst := ev_stands t xs[i] ht (hxs _ (List.getElem_mem _)) (t.size - a) a (by omega)
    have hst' : Ev (fun k => verbatimref20_stands.f k t (rdOf ByteArray.empty xs (i : Int)) (a : Int)) (at_ a (ix xs[i].data.toList (t.data.toList.drop a))) := by
      rw [rdOf_get _ _ _ hil]
      exact hst
    rw [hd]
    cases e : ix xs[i].data.toList (t.data.toList.drop a) with
    | none =>
      rw [e] at hst'
      have := ev_bind (f := fun k (t138 : Int) => if t138 < 0 then (some (([] : List Int), false)) else (if acc.length < 17592186044416 then (verbatimref20_Find.l0 k xs t (acc ++ [t138]) (wrap64 (t138 + ((rdOf ByteArray.empty xs (i : Int)).size : Int))) (wrap64 ((i : Int) + 1))) else (none))) hst' (r := (([] : List Int), false)) (ev_const (fun k => if_pos (by simp [at_])))
      refine ev_eq (evs (fun k => ?_) this) (by simp [find, e, resA])
      simp only [verbatimref20_Find.l0]
      rw [if_pos (by omega), if_pos (by omega)]
    | some q =>
      rw [e] at hst'
      have hle := ix_le _ _ _ e
      rw [List.length_drop, data_length, data_length] at hle
      have ih := ev_rfind_l0 t ht xs hx hxs n (i + 1) (a + q + xs[i].size) (acc ++ [((a + q : Nat) : Int)]) (by omega) (by omega) (by simp [hacc])
      have hr : resA (acc ++ [((a + q : Nat) : Int)]) (find t.data.toList (a + q + xs[i].size) (xs.drop (i + 1))) = resA acc (find t.data.toList a (xs[i] :: xs.drop (i + 1))) := by
        rw [find, e]
        show _ = resA acc (Option.map _ _)
        cases find t.data.toList (a + q + xs[i].size) (xs.drop (i + 1)) <;> simp [resA]
      rw [hr] at ih
      have := ev_bind (f := fun k (t138 : Int) => if t138 < 0 then (some (([] : List Int), false)) else (if acc.length < 17592186044416 then (verbatimref20_Find.l0 k xs t (acc ++ [t138]) (wrap64 (t138 + ((rdOf ByteArray.empty xs (i : Int)).size : Int))) (wrap64 ((i : Int) + 1))) else (none))) hst' (ih.congr (fun k => by
        show (if ((a + q : Nat) : Int) < 0 then (some (([] : List Int), false)) else (if acc.length < 17592186044416 then (verbatimref20_Find.l0 k xs t (acc ++ [((a + q : Nat) : Int)]) (wrap64 (((a + q : Nat) : Int) + ((rdOf ByteArray.empty xs (i : Int)).size : Int))) (wrap64 ((i : Int) + 1))) else (none))) = _
        rw [if_neg (show ¬ ((a + q : Nat) : Int) < 0 by omega), if_pos (show acc.length < 17592186044416 by omega), rdOf_get _ _ _ hil, wid (n := (i : Int) + 1) (by omega) (by omega), wid (n := ((a + q : Nat) : Int) + _) (by omega) (by omega)]
        rw [show ((a + q : Nat) : Int) + (xs[i].size : Int) = ((a + q + xs[i].size : Nat) : Int) from by omega]
        rfl))
      refine evs (fun k => ?_) this
      simp only [verbatimref20_Find.l0]
      rw [if_pos (by omega), if_pos (by omega)]
theorem ev_rfind (t : ByteArray) (ht : t.size < 4294967281) (xs : List ByteArray) (hx : xs.length < 17592186044416) (hxs : ∀ x ∈ xs, x.size ≤ 140737488351232) : Ev (fun k => verbatimref20_Find.f k xs t) (res (find t.data.toList 0 xs)) := by
  have h := ev_rfind_l0 t ht xs hx hxs xs.length 0 0 [] (by omega) (by omega) rfl
  refine Ev.congr (fun k => rfl) (ev_eq h ?_)
  rw [List.drop_zero]
  cases find t.data.toList 0 xs <;> simp [resA, res]
theorem ev_same_l0 (l : List Int) (hl : l.length ≤ 9223372036854775806) : ∀ (n i : Nat), i + n = l.length → Ev (fun k => verbatimref06_SameInts.l0 k l l (i : Int)) true
  | 0, i, hi => ev_some (fun k => by
      simp only [verbatimref06_SameInts.l0]
      rw [if_neg (by omega)])
  | n + 1, i, hi => by
    refine evs (fun k => ?_) (ev_same_l0 l hl n (i + 1) (by omega))
    simp only [verbatimref06_SameInts.l0]
    rw [if_pos (by omega), if_pos (by omega), if_pos (by omega), if_pos trivial, wnat i (by omega)]
theorem ev_same (l : List Int) (hl : l.length ≤ 9223372036854775806) : Ev (fun k => verbatimref06_SameInts.f k l l) true := by
  refine Ev.congr (fun k => ?_) (ev_same_l0 l hl l.length 0 (by omega))
  simp only [verbatimref06_SameInts.f]
  rw [if_pos trivial]
  rfl
end Go.Proofs.Ytbbgnapepkenaaa.EvalPure
