/- What a query means, in plain Lean: both ways to tell it. No program but the printed names. -/
import Derived.Test.YtbbgnapepkenaaaEvalPure2
import Derived.Test.YtbbgnapepkenaaaE5
import Derived.Test.YtbbgnapepkenaaaE4
namespace Go.Proofs.Ytbbgnapepkenaaa.EvalPure
set_option linter.unusedVariables false
set_option linter.unusedSimpArgs false
open Go.RowKit Go.Proofs.Ytbbgnapepkenaaa.E Go.Proofs.YtbbgnapepkenaaaW.PrintWords Go.Proofs.Ytbbgnapepkenaaa.PureLib
/-- Does a query match, its kids lying so many deep at most? -/
def mt (t : ByteArray) : Nat → Qy → Bool
  | 0, _ => false
  | d + 1, q => if q.f0 = 1 then (match q.f1 with | [] => false | s :: _ => (ix s.data.toList t.data.toList).isSome) else if q.f0 = 2 then (match q.f1 with | [] => false | s :: _ => s.data.toList.isPrefixOf t.data.toList)
    else if q.f0 = 3 then (find t.data.toList 0 q.f1).isSome else if q.f0 = 4 then q.f2.all (mt t d) else if q.f0 = 5 then q.f2.any (mt t d) else if q.f0 = 6 then (match q.f2 with | [] => false | x :: _ => !mt t d x) else q.f0 == 7
theorem good_kid {q x : Qy} (h : GoodQ q) (hx : x ∈ q.f2) : GoodQ x := by
  cases h with
  | mk _ _ _ h => exact h x hx
theorem good_kids {q : Qy} (h : GoodQ q) : q.f2.length ≤ 140737488351232 := by
  cases h with
  | mk _ _ h _ => exact Nat.le_trans h (by decide)
theorem good_texts {q : Qy} (h : GoodQ q) : q.f1.length ≤ 8796093021952 ∧ ∀ x ∈ q.f1, x.size ≤ 140737488351232 := by
  cases h with
  | mk _ h _ _ => exact h
theorem kid_get (l : List Qy) (i : Nat) (h : i < l.length) : kid l (i : Int) = l[i] := by
  show l.getD _ _ = _
  simp [List.getD_eq_getElem?_getD, h]
theorem i0_any (p : Qy → Option Bool) (P : Qy → Bool) (l : List Qy) (hl : l.length ≤ 140737488351232) (hp : ∀ q ∈ l, p q = some (P q)) : ∀ (n i : Nat), i + n = l.length → ∀ k, n < k →
    ∃ r, eval_match.i0 p k l (l.length : Int) (i : Int) = some r ∧ decide (r ≥ 0) = (l.drop i).any P
  | 0, i, hi, k, hk => by
    obtain ⟨k, rfl⟩ : ∃ m, k = m + 1 := ⟨k - 1, by omega⟩
    refine ⟨-1, ?_, ?_⟩
    · simp only [eval_match.i0]
      rw [if_neg (by omega)]
    · rw [List.drop_of_length_le (by omega)]
      rfl
  | n + 1, i, hi, k, hk => by
    obtain ⟨k, rfl⟩ : ∃ m, k = m + 1 := ⟨k - 1, by omega⟩
    have hil : i < l.length := by omega
    rw [List.drop_eq_getElem_cons hil, List.any_cons]
    have hq := hp l[i] (List.getElem_mem _)
    have e : eval_match.i0 p (k + 1) l (l.length : Int) (i : Int) = if P l[i] = true then some (i : Int) else eval_match.i0 p k l (l.length : Int) ((i + 1 : Nat) : Int) := by
      simp only [eval_match.i0]
      rw [if_pos (by omega), if_pos (by omega), if_pos (by omega), show rd_T40 l (i : Int) = l[i] from kid_get l i hil, hq, wnat i (by omega)]
      rfl
    rw [e]
    by_cases hP : P l[i] = true
    · rw [if_pos hP, hP]
      exact ⟨_, rfl, by simp⟩
    · rw [if_neg hP, Bool.eq_false_iff.2 hP, Bool.false_or]
      exact i0_any p P l hl hp n (i + 1) (by omega) k (by omega)
theorem an_any (p : Qy → Option Bool) (P : Qy → Bool) (l : List Qy) (hl : l.length ≤ 140737488351232) (hp : ∀ q ∈ l, p q = some (P q)) (k : Nat) (hk : l.length < k) : eval_match.an p k l = some (l.any P) := by
  obtain ⟨r, h1, h2⟩ := i0_any p P l hl hp l.length 0 (by omega) k hk
  unfold eval_match.an
  have h1' : eval_match.i0 p k l (l.length : Int) 0 = some r := h1
  rw [h1', Option.bind_some, h2]
  rfl
theorem ev_all {l : List Qy} {p : Nat → Qy → Option Bool} {P : Qy → Bool} (h : ∀ q ∈ l, Ev (fun k => p k q) (P q)) : ∃ K, ∀ k, K ≤ k → ∀ q ∈ l, p k q = some (P q) := by
  induction l with
  | nil => exact ⟨0, fun _ _ q hq => by cases hq⟩
  | cons x l ih =>
    obtain ⟨K1, h1⟩ := ih (fun q hq => h q (List.mem_cons_of_mem _ hq))
    obtain ⟨K2, h2⟩ := h x List.mem_cons_self
    refine ⟨max K1 K2, fun k hk q hq => ?_⟩
    rcases List.mem_cons.1 hq with rfl | hq
    · exact h2 k (by omega)
    · exact h1 k (by omega) q hq
theorem ev_an {l : List Qy} {p : Nat → Qy → Option Bool} {P : Qy → Bool} (hl : l.length ≤ 140737488351232) (h : ∀ q ∈ l, Ev (fun k => p k q) (P q)) : Ev (fun k => eval_match.an (p k) k l) (l.any P) := by
  obtain ⟨K, hK⟩ := ev_all h
  exact ⟨max K (l.length + 1), fun k hk => an_any (p k) P l hl (hK k (by omega)) k (by omega)⟩
theorem pre_has (a s : ByteArray) : strings_HasPrefix.f a s = some (s.data.toList.isPrefixOf a.data.toList) := by
  have hsl : s.data.toList.length = s.size := data_length s
  unfold strings_HasPrefix.f stringslite_HasPrefix.f
  by_cases h : s.size ≤ a.size
  · rw [if_pos (by omega), if_pos (by omega), if_pos (by omega), prefix_take, Option.bind_some]
    congr 1
    rw [Bool.eq_iff_iff, beq_iff_eq, decide_eq_true_eq, toList_eq, show (((s.size : Nat) : Int)).toNat = s.size from rfl, extract_data _ _ _ h, hsl, List.drop_zero, Nat.sub_zero]
  · rw [if_neg (by omega), Option.bind_some]
    congr 1
    refine (Bool.eq_false_iff.2 (fun e => ?_)).symm
    have := (List.isPrefixOf_iff_prefix.1 e).length_le
    rw [hsl, data_length] at this
    omega
theorem con_has (a s : ByteArray) (h : a.size < 4294967281) : strings_Contains.f a s = some (ix s.data.toList a.data.toList).isSome := by
  unfold strings_Contains.f
  rw [if_pos h]
  congr 1
  unfold Lib.contains
  rw [index_ix]
  cases ix s.data.toList a.data.toList with
  | none => rfl
  | some k => simp
theorem all_any (l : List Qy) (P : Qy → Bool) : (!l.any fun q => !P q) = l.all P := by
  induction l with
  | nil => rfl
  | cons x l ih => rw [List.any_cons, List.all_cons, ← ih]; cases P x <;> simp
/-- What the program tells. -/
theorem ev_match (t : ByteArray) (ht : t.size < 4294967281) : ∀ (d : Nat), d ≤ 301 → ∀ q : Qy, GoodQ q → Ev (fun k => eval_match.f k q.f0 q.f1 q.f2 t (301 - (d : Int))) (mt t d q)
  | 0, hd, q, hq => ev_some (fun k => by
      rw [eval_match.f]
      rw [if_pos (by omega)]
      rfl)
  | d + 1, hd, q, hq => by
    have htx := good_texts hq
    have hw : wrap64 ((301 : Int) - ((d + 1 : Nat) : Int) + 1) = 301 - (d : Int) := by
      rw [wid (by omega) (by omega)]
      omega
    have ih : ∀ x ∈ q.f2, Ev (fun k => eval_match.f k x.f0 x.f1 x.f2 t (wrap64 ((301 : Int) - ((d + 1 : Nat) : Int) + 1))) (mt t d x) := fun x hx => by
      rw [hw]
      exact ev_match t ht d (by omega) x (good_kid hq hx)
    have hdef : ∀ k, eval_match.f (k + 1) q.f0 q.f1 q.f2 t (301 - ((d + 1 : Nat) : Int)) = _ := fun k => by
      rw [eval_match.f, if_neg (show ¬ (301 - ((d + 1 : Nat) : Int)) > 300 by omega)]
    refine evs hdef ?_
    rw [mt]
    by_cases h1 : q.f0 = 1
    · rw [if_pos h1]
      refine ev_pos h1 ?_
      cases e : q.f1 with
      | nil => exact ev_neg (by simp) (Ev.now _)
      | cons s l =>
        refine ev_pos (by simp) (ev_pos (by simp) ?_)
        rw [show rdOf ByteArray.empty (s :: l) 0 = s from rfl, con_has t s ht]
        exact Ev.now _
    · rw [if_neg h1]
      refine ev_neg h1 ?_
      by_cases h2 : q.f0 = 2
      · rw [if_pos h2]
        refine ev_pos h2 ?_
        cases e : q.f1 with
        | nil => exact ev_neg (by simp) (Ev.now _)
        | cons s l =>
          refine ev_pos (by simp) (ev_pos (by simp) ?_)
          rw [show rdOf ByteArray.empty (s :: l) 0 = s from rfl, pre_has t s]
          exact Ev.now _
      · rw [if_neg h2]
        refine ev_neg h2 ?_
        by_cases h3 : q.f0 = 3
        · rw [if_pos h3]
          refine ev_pos h3 ?_
          have := ev_find t ht q.f1 (by omega)
          refine ev_eq (ev_bind (f := fun k (b : List Int × Bool) => some b.2) this (Ev.now _)) ?_
          cases find t.data.toList 0 q.f1 <;> rfl
        · rw [if_neg h3]
          refine ev_neg h3 ?_
          by_cases h4 : q.f0 = 4
          · rw [if_pos h4]
            refine ev_pos h4 ?_
            have := ev_an (P := fun x => !mt t d x) (p := fun k x => (eval_match.f k x.f0 x.f1 x.f2 t (wrap64 ((301 : Int) - ((d + 1 : Nat) : Int) + 1))).bind fun b => some (!b)) (good_kids hq) (fun x hx => ev_bind (f := fun k (b : Bool) => some (!b)) (ih x hx) (Ev.now _))
            refine ev_eq (ev_bind (f := fun k (b : Bool) => some (!b)) this (Ev.now _)) ?_
            exact all_any _ _
          · rw [if_neg h4]
            refine ev_neg h4 ?_
            by_cases h5 : q.f0 = 5
            · rw [if_pos h5]
              refine ev_pos h5 ?_
              have := ev_an (P := fun x => mt t d x) (p := fun k x => (eval_match.f k x.f0 x.f1 x.f2 t (wrap64 ((301 : Int) - ((d + 1 : Nat) : Int) + 1)))) (good_kids hq) ih
              exact ev_bind (f := fun k (b : Bool) => some b) this (Ev.now _)
            · rw [if_neg h5]
              refine ev_neg h5 ?_
              by_cases h6 : q.f0 = 6
              · rw [if_pos h6]
                refine ev_pos h6 ?_
                cases e : q.f2 with
                | nil => exact ev_neg (by simp) (Ev.now _)
                | cons x l =>
                  refine ev_pos (by simp) (ev_pos (by simp) ?_)
                  have := ih x (by rw [e]; exact List.mem_cons_self)
                  exact ev_bind (f := fun k (b : Bool) => some (!b)) this (Ev.now _)
              · rw [if_neg h6]
                exact ev_neg h6 (Ev.now _)
end Go.Proofs.Ytbbgnapepkenaaa.EvalPure
