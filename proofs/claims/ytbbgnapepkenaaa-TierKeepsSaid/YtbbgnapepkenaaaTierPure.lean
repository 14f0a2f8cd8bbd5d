/- Tiers in plain Lean: what the printed functions answer. No memory, no machine. Of lists of at most some hundreds. -/
import Derived.Test.YtbbgnapepkenaaaQ3
import Derived.Test.YtbbgnapepkenaaaQ4
import Derived.Test.YtbbgnapepkenaaaQ5
import Derived.Test.YtbbgnapepkenaaaQ5
import Derived.Test.YtbbgnapepkenaaaQ5
import Derived.Test.YtbbgnapepkenaaaQ4
import Derived.Test.YtbbgnapepkenaaaPureLib
import Derived.Test.YtbbgnapepkenaaaTierP
namespace Go.Proofs.Ytbbgnapepkenaaa.TierPure
set_option linter.unusedVariables false
set_option linter.unusedSimpArgs false
open Go.RowKit Go.Proofs.Ytbbgnapepkenaaa.Q Go.Proofs.YtbbgnapepkenaaaW.PrintWords Go.Proofs.Ytbbgnapepkenaaa.PureLib Go.Proofs.Ytbbgnapepkenaaa.TierP
abbrev Ref := S25
abbrev lv (l : List Ref) : List Int := l.map (·.f2)
theorem rdT (l : List Ref) (i : Nat) (h : i < l.length) : rd_T25 l (i : Int) = l[i] := by simp [rd_T25, List.getD_eq_getElem?_getD, h]
theorem rdlv (l : List Ref) (i : Nat) (h : i < l.length) : (rd_T25 l (i : Int)).f2 = (lv l).getD i 0 := by
  rw [rdT l i h]
  simp [lv, List.getD_eq_getElem?_getD, h]
theorem head_ev : Ev (fun k => verbatimlaw16_head.f k) true := Ev.of verbatimlaw16_head.mono (k := 30) (by decide +kernel)
/-! ### two lists of numbers -/
theorem same_l0 (a b : List Int) (hl : a.length = b.length) (hn : a.length ≤ 100000) : ∀ d i : Nat, i + d = a.length → Ev (fun k => verbatimref06_SameInts.l0 k a b (i : Int)) (decide (a.drop i = b.drop i))
  | 0, i, h => by
    refine ev_some (fun k => ?_)
    simp only [verbatimref06_SameInts.l0]
    rw [if_neg (by omega), List.drop_eq_nil_of_le (by omega), List.drop_eq_nil_of_le (by omega)]
    rfl
  | d + 1, i, h => by
    have ha : i < a.length := by omega
    have hb : i < b.length := by omega
    have e : decide (a.drop i = b.drop i) = (decide (a[i] = b[i]) && decide (a.drop (i + 1) = b.drop (i + 1))) := by
      rw [List.drop_eq_getElem_cons ha, List.drop_eq_getElem_cons hb]
      simp only [List.cons.injEq, Bool.decide_and]
    by_cases hc : a[i] = b[i]
    · refine evs (f := fun k => verbatimref06_SameInts.l0 k a b ((i + 1 : Nat) : Int)) (fun k => ?_) ?_
      · simp only [verbatimref06_SameInts.l0]
        rw [if_pos (by omega), if_pos (by omega), if_pos (by omega), rd_get a i ha, rd_get b i hb, if_pos hc, wnat i (by omega)]
      · refine ev_eq (same_l0 a b hl hn d (i + 1) (by omega)) ?_
        rw [e, decide_eq_true hc]
        rfl
    · refine ev_some (fun k => ?_)
      simp only [verbatimref06_SameInts.l0]
      rw [if_pos (by omega), if_pos (by omega), if_pos (by omega), rd_get a i ha, rd_get b i hb, if_neg hc, e, decide_eq_false hc]
      rfl
theorem same_ev (a b : List Int) (hn : a.length ≤ 100000) : Ev (fun k => verbatimref06_SameInts.f k a b) (decide (a = b)) := by
  unfold verbatimref06_SameInts.f
  by_cases h : a.length = b.length
  · refine ev_pos (by omega) (ev_eq (same_l0 a b h hn a.length 0 (by omega)) (by simp))
  · refine ev_neg (by omega) (ev_eq (Ev.now false) ?_)
    rw [decide_eq_false (fun e => h (by rw [e]))]
/-! ### Plan, the document's -/
theorem cnt_step (ls : List Int) (k : Nat) (h : k < ls.length) (m : Int) : (idx (ls.take (k + 1)) m).length = (idx (ls.take k) m).length + (if ls.getD k 0 = m then 1 else 0) := by
  rw [idx_step ls k h, List.length_append]
  split <;> rfl
theorem plan_l1 (l : List Ref) (hn : l.length ≤ 1000) (best : Int) (fnd : Bool) (i : Nat) (hi : i < l.length) (r : List Int × Int)
    (hr : Ev (fun k => if ((idx (lv l) ((lv l).getD i 0)).length : Int) > 3 then (if fnd = true then (if (lv l).getD i 0 < best then verbatimref16_Plan.l0 k l ((lv l).getD i 0) true ((i + 1 : Nat) : Int) else verbatimref16_Plan.l0 k l best fnd ((i + 1 : Nat) : Int)) else verbatimref16_Plan.l0 k l ((lv l).getD i 0) true ((i + 1 : Nat) : Int)) else verbatimref16_Plan.l0 k l best fnd ((i + 1 : Nat) : Int)) r) :
    ∀ d j : Nat, j + d = l.length → Ev (fun k => verbatimref16_Plan.l1 k l best fnd (i : Int) ((idx ((lv l).take j) ((lv l).getD i 0)).length : Int) (j : Int)) r
  | 0, j, h => by
    refine evs (fun k => ?_) hr
    have c1 : ¬ (j : Int) < (l.length : Int) := by omega
    have c2 : (0 : Int) ≤ (i : Int) := by omega
    have c3 : (i : Int) < (l.length : Int) := by omega
    simp only [verbatimref16_Plan.l1, c1, c2, c3, if_true, if_false, rdlv l i hi, wnat i (by omega)]
    rw [List.take_of_length_le (by simp; omega)]
  | d + 1, j, h => by
    have hj : j < l.length := by omega
    have hs := cnt_step (lv l) j (by simpa using hj) ((lv l).getD i 0)
    have hb := idx_len ((lv l).take j) ((lv l).getD i 0)
    simp only [List.length_take, List.length_map] at hb
    refine evs (fun k => ?_) (plan_l1 l hn best fnd i hi r hr d (j + 1) (by omega))
    simp only [verbatimref16_Plan.l1]
    rw [if_pos (by omega), if_pos (by omega), if_pos (by omega), if_pos (by omega), rdlv l i hi, rdlv l j hj, wnat j (by omega), wnat _ (by omega)]
    rw [hs]
    by_cases e : (lv l).getD j 0 = (lv l).getD i 0
    · rw [if_pos e, if_pos e]
    · rw [if_neg e, if_neg e]
      rfl
/-- The levels of which there are too many, that have been met among the first i. -/
def met (ls : List Int) (i : Nat) : List Int := (ls.take i).filter (fun x => decide (3 < (idx ls x).length))
theorem met_step (ls : List Int) (i : Nat) (h : i < ls.length) : met ls (i + 1) = met ls i ++ (if 3 < (idx ls (ls.getD i 0)).length then [ls.getD i 0] else []) := by
  unfold met
  rw [take_snoc ls i h, List.filter_append]
  congr 1
  by_cases e : 3 < (idx ls (ls.getD i 0)).length
  · rw [if_pos e]
    simp [List.filter_cons, List.getD_eq_getElem?_getD] at e ⊢
    exact e
  · rw [if_neg e]
    simp [List.filter_cons, List.getD_eq_getElem?_getD] at e ⊢
    omega
/-- The third loop's answer: the first three places of a level, from a place on. -/
theorem plan_l2 (l : List Ref) (hn : l.length ≤ 1000) (m : Int) (hm : -9223372036854775808 ≤ m) : ∀ d j : Nat, j + d = l.length → ∀ out : List Int, out = (idx ((lv l).take j) m).take 3 →
    Ev (fun k => verbatimref16_Plan.l2 k l m out (j : Int)) ((idx (lv l) m).take 3, if m < 16 then m + 1 else 16) := by
  have fin : ∀ (out : List Int) (j : Nat), out = (idx (lv l) m).take 3 → Ev (fun k => verbatimref16_Plan.j3 k l m out (j : Int) false) ((idx (lv l) m).take 3, if m < 16 then m + 1 else 16) := by
    intro out j ho
    refine ev_some (fun k => ?_)
    simp only [verbatimref16_Plan.j3]
    rw [if_neg (by simp), ho]
    by_cases e : m ≥ 16
    · rw [if_pos e, if_neg (by omega)]
    · rw [if_neg e, if_pos (by omega), wid (by omega) (by omega)]
  intro d
  induction d with
  | zero =>
    intro j h out ho
    refine evs (fun k => ?_) (fin out j (by rw [ho, List.take_of_length_le (i := j) (by simp; omega)]))
    simp only [verbatimref16_Plan.l2]
    rw [if_neg (by omega)]
  | succ d ih =>
    intro j h out ho
    have hj : j < l.length := by omega
    have hj' : j < (lv l).length := by simpa using hj
    by_cases h3 : out.length < 3
    · refine evs (f := fun k => verbatimref16_Plan.j3 k l m out (j : Int) true) (fun k => ?_) ?_
      · simp only [verbatimref16_Plan.l2]
        rw [if_pos (by omega), decide_eq_true (by omega)]
      · have hlen : (idx ((lv l).take j) m).length < 3 := by
          rw [ho, List.length_take] at h3
          omega
        have ho' : out = idx ((lv l).take j) m := by rw [ho, List.take_of_length_le (by omega)]
        have hs := idx_step (lv l) j hj' m
        by_cases e : (lv l).getD j 0 = m
        · refine evs (fun k => ?_) (ih (j + 1) (by omega) (out ++ [(j : Int)]) (by rw [hs, if_pos e, ho', List.take_of_length_le (l := idx ((lv l).take j) m ++ [(j : Int)]) (by rw [List.length_append, List.length_singleton]; omega)]))
          simp only [verbatimref16_Plan.j3]
          rw [if_pos trivial, if_pos (by omega), if_pos (by omega), rdlv l j hj, if_pos e, if_pos (by omega), wnat j (by omega)]
        · refine evs (fun k => ?_) (ih (j + 1) (by omega) out (by rw [hs, if_neg e, List.append_nil]; exact ho))
          simp only [verbatimref16_Plan.j3]
          rw [if_pos trivial, if_pos (by omega), if_pos (by omega), rdlv l j hj, if_neg e, wnat j (by omega)]
    · refine evs (fun k => ?_) (fin out j ?_)
      · simp only [verbatimref16_Plan.l2]
        rw [if_pos (by omega), decide_eq_false (by omega)]
      · rw [ho]
        have hlen : 3 ≤ (idx ((lv l).take j) m).length := by
          rw [ho, List.length_take] at h3
          omega
        obtain ⟨t, ht⟩ := idx_prefix (lv l) m j (by omega)
        rw [ht, List.take_append_of_le_length hlen]
theorem plan_l0 (l : List Ref) (hn : l.length ≤ 1000) (hw : ∀ x ∈ l, -9223372036854775808 ≤ x.f2) : ∀ d i : Nat, i + d = l.length → ∀ (best : Int) (fnd : Bool), fnd = decide (met (lv l) i ≠ []) → (met (lv l) i ≠ [] → best = Lib.minOf (met (lv l) i)) →
    Ev (fun k => verbatimref16_Plan.l0 k l best fnd (i : Int)) (if met (lv l) l.length = [] then ([], 0) else ((idx (lv l) (Lib.minOf (met (lv l) l.length))).take 3, if Lib.minOf (met (lv l) l.length) < 16 then Lib.minOf (met (lv l) l.length) + 1 else 16))
  | 0, i, h, best, fnd, hf, hb => by
    obtain rfl : i = l.length := by omega
    by_cases e : met (lv l) l.length = []
    · rw [if_pos e]
      refine ev_some (fun k => ?_)
      simp only [verbatimref16_Plan.l0]
      rw [if_neg (by omega), hf, if_neg (by simp [e])]
    · rw [if_neg e, ← hb e]
      have hbm : best ∈ lv l := by
        rw [hb e]
        exact List.mem_of_mem_take (List.mem_filter.1 (minOf_mem _ e)).1
      obtain ⟨x, hx, hxe⟩ := List.mem_map.1 hbm
      refine evs (fun k => ?_) (plan_l2 l hn best (by rw [← hxe]; exact hw x hx) l.length 0 (by omega) [] (by simp [idx]))
      simp only [verbatimref16_Plan.l0]
      rw [if_neg (by omega), hf, if_pos (by simp [e])]
      rfl
  | d + 1, i, h, best, fnd, hf, hb => by
    have hi : i < l.length := by omega
    have hi' : i < (lv l).length := by simpa using hi
    refine evs (f := fun k => verbatimref16_Plan.l1 k l best fnd (i : Int) ((idx ((lv l).take 0) ((lv l).getD i 0)).length : Int) ((0 : Nat) : Int)) (fun k => ?_) (plan_l1 l hn best fnd i hi _ ?_ l.length 0 (by omega))
    · simp only [verbatimref16_Plan.l0]
      rw [if_pos (by omega)]
      simp [idx]
    · have hs := met_step (lv l) i hi'
      by_cases hc : 3 < (idx (lv l) ((lv l).getD i 0)).length
      · rw [if_pos hc] at hs
        refine ev_pos (by omega) ?_
        cases hm : met (lv l) i with
        | nil =>
          refine ev_neg (by rw [hf, hm]; simp) ?_
          refine plan_l0 l hn hw d (i + 1) (by omega) _ _ (by rw [hs]; simp) (fun _ => ?_)
          rw [hs, hm]
          simp [Lib.minOf]
        | cons y ys =>
          have hne : met (lv l) i ≠ [] := by rw [hm]; simp
          refine ev_pos (by rw [hf]; simp [hne]) ?_
          have hmin : Lib.minOf (met (lv l) i ++ [(lv l).getD i 0]) = min (Lib.minOf (met (lv l) i)) ((lv l).getD i 0) := minOf_snoc _ _ hne
          refine ev_if (fun hlt => ?_) (fun hge => ?_)
          · refine plan_l0 l hn hw d (i + 1) (by omega) _ _ (by rw [hs]; simp) (fun _ => ?_)
            rw [hs, hmin, ← hb hne]
            omega
          · refine plan_l0 l hn hw d (i + 1) (by omega) _ _ (by rw [hs, hf]; simp [hne]) (fun _ => ?_)
            rw [hs, hmin, ← hb hne]
            omega
      · rw [if_neg hc, List.append_nil] at hs
        refine ev_neg (by omega) ?_
        exact plan_l0 l hn hw d (i + 1) (by omega) _ _ (by rw [hs]; exact hf) (by rw [hs]; exact hb)
theorem mem_met (ls : List Int) (x : Int) : x ∈ met ls ls.length ↔ x ∈ over ls ls.length := by
  rw [mem_over ls x _ (Nat.le_refl _), List.take_length]
  unfold met
  rw [List.take_length, List.mem_filter, decide_eq_true_eq]
  constructor
  · exact fun h => h.2
  · intro h
    exact ⟨idx_mem ls x (by intro e; rw [e] at h; simp at h), h⟩
theorem min_congr (a b : List Int) (h : ∀ x, x ∈ a ↔ x ∈ b) (ha : a ≠ []) (hb : b ≠ []) : Lib.minOf a = Lib.minOf b :=
  Int.le_antisymm (minOf_le a _ ((h _).2 (minOf_mem b hb))) (minOf_le b _ ((h _).1 (minOf_mem a ha)))
theorem nil_congr (a b : List Int) (h : ∀ x, x ∈ a ↔ x ∈ b) : a = [] ↔ b = [] := by
  constructor
  · rintro rfl
    exact List.eq_nil_iff_forall_not_mem.2 (fun x hx => by simpa using (h x).2 hx)
  · rintro rfl
    exact List.eq_nil_iff_forall_not_mem.2 (fun x hx => by simpa using (h x).1 hx)
theorem plan_ev (l : List Ref) (hn : l.length ≤ 1000) (hw : ∀ x ∈ l, -9223372036854775808 ≤ x.f2) : Ev (fun k => verbatimref16_Plan.f k l) (planS (lv l)) := by
  unfold verbatimref16_Plan.f
  refine ev_eq (plan_l0 l hn hw l.length 0 (by omega) 0 false (by simp [met]) (fun h => by simp [met] at h)) ?_
  have hl : l.length = (lv l).length := by simp
  rw [hl]
  have hm := mem_met (lv l)
  unfold planS
  by_cases e : over (lv l) (lv l).length = []
  · rw [if_pos e, if_pos ((nil_congr _ _ hm).2 e)]
  · have e' : met (lv l) (lv l).length ≠ [] := fun h => e ((nil_congr _ _ hm).1 h)
    rw [if_neg e, if_neg e', min_congr _ _ hm e' e]
/-! ### what is left -/
def left (l : List Ref) (ps : List Int) : Nat → List Ref → List Ref
  | _, [] => []
  | i, x :: xs => if (i : Int) ∈ ps then left l ps (i + 1) xs else x :: left l ps (i + 1) xs
theorem index_l0 (ps : List Int) (x : Int) (hn : ps.length ≤ 1000) : ∀ d i : Nat, i + d = ps.length → ∃ r : Int, Ev (fun k => slices_Index_int_int.l0 k ps x (ps.length : Int) (i : Int)) r ∧ (decide (r ≥ 0) = decide (x ∈ ps.drop i))
  | 0, i, h => by
    refine ⟨-1, ev_some (fun k => ?_), ?_⟩
    · simp only [slices_Index_int_int.l0]
      rw [if_neg (by omega)]
    · rw [List.drop_eq_nil_of_le (by omega)]
      simp
  | d + 1, i, h => by
    have hi : i < ps.length := by omega
    by_cases e : x = ps[i]
    · refine ⟨(i : Int), ev_some (fun k => ?_), ?_⟩
      · simp only [slices_Index_int_int.l0]
        rw [if_pos (by omega), if_pos (by omega), if_pos (by omega), rd_get ps i hi, if_pos e]
      · rw [decide_eq_true (by omega), decide_eq_true]
        rw [List.drop_eq_getElem_cons hi, ← e]
        exact List.mem_cons_self
    · obtain ⟨r, hr, hd⟩ := index_l0 ps x hn d (i + 1) (by omega)
      refine ⟨r, evs (fun k => ?_) hr, ?_⟩
      · simp only [slices_Index_int_int.l0]
        rw [if_pos (by omega), if_pos (by omega), if_pos (by omega), rd_get ps i hi, if_neg e, wnat i (by omega)]
      · rw [hd, List.drop_eq_getElem_cons hi]
        simp only [List.mem_cons, e, false_or]
theorem contains_ev (ps : List Int) (x : Int) (hn : ps.length ≤ 1000) : Ev (fun k => slices_Contains_int_int.f k ps x) (decide (x ∈ ps)) := by
  obtain ⟨r, hr, hd⟩ := index_l0 ps x hn ps.length 0 (by omega)
  unfold slices_Contains_int_int.f slices_Index_int_int.f
  refine ev_bind hr (ev_eq (Ev.now _) ?_)
  rw [hd, List.drop_zero]
theorem done_l0 (l : List Ref) (ps : List Int) (o : Ref) (hn : l.length ≤ 1000) (hp : ps.length ≤ 1000) : ∀ d i : Nat, i + d = l.length → ∀ out : List Ref, out.length ≤ i →
    Ev (fun k => tier_Done.l0 k ps out l (l.length : Int) (i : Int) o.f0 o.f1 o.f2 o.f3) (out ++ left l ps i (l.drop i) ++ [o])
  | 0, i, h, out, ho => by
    refine ev_some (fun k => ?_)
    simp only [tier_Done.l0]
    rw [if_neg (by omega), if_pos (by omega), List.drop_eq_nil_of_le (by omega)]
    simp [left]
  | d + 1, i, h, out, ho => by
    have hi : i < l.length := by omega
    rw [List.drop_eq_getElem_cons hi, left]
    refine evs (f := ?f) ?h ?r
    case h =>
      intro k
      simp only [tier_Done.l0]
      rw [if_pos (by omega), if_pos (by omega), if_pos (by omega), rdT l i hi, wnat i (by omega)]
    refine ev_bind (contains_ev ps i hp) ?_
    by_cases hm : (i : Int) ∈ ps
    · refine ev_pos (by simp [hm]) ?_
      rw [if_pos hm]
      exact done_l0 l ps o hn hp d (i + 1) (by omega) out (by omega)
    · refine ev_neg (by simp [hm]) (ev_pos (by omega) ?_)
      rw [if_neg hm]
      have := done_l0 l ps o hn hp d (i + 1) (by omega) (out ++ [l[i]]) (by simp; omega)
      simpa using this
theorem done_ev (l : List Ref) (ps : List Int) (o : Ref) (hn : l.length ≤ 1000) (hp : ps.length ≤ 1000) : Ev (fun k => tier_Done.f k l ps o.f0 o.f1 o.f2 o.f3) (left l ps 0 l ++ [o]) := by
  unfold tier_Done.f
  exact ev_eq (done_l0 l ps o hn hp l.length 0 (by omega) [] (by simp)) (by simp)
/-! ### what is left, the document's -/
theorem rdone_l1 (l : List Ref) (ps : List Int) (o : Ref) (hp : ps.length ≤ 1000) (out : List Ref) (i : Nat) (hi : i < l.length) (hn : l.length ≤ 1000) (ho : out.length ≤ i) (r : List Ref)
    (hr : Ev (fun k => if decide ((i : Int) ∈ ps) = true then verbatimref16_Done.l0 k l ps out ((i + 1 : Nat) : Int) o.f0 o.f1 o.f2 o.f3 else verbatimref16_Done.l0 k l ps (out ++ [l[i]]) ((i + 1 : Nat) : Int) o.f0 o.f1 o.f2 o.f3) r) :
    ∀ d j : Nat, j + d = ps.length → Ev (fun k => verbatimref16_Done.l1 k l ps out (i : Int) (decide ((i : Int) ∈ ps.take j)) (j : Int) o.f0 o.f1 o.f2 o.f3) r
  | 0, j, h => by
    refine evs (fun k => ?_) hr
    rw [List.take_of_length_le (by omega)]
    simp only [verbatimref16_Done.l1]
    rw [if_neg (by omega), wnat i (by omega)]
    cases decide ((i : Int) ∈ ps)
    · simp only [Bool.false_eq_true, if_false]
      rw [if_pos (by omega), if_pos (by omega), if_pos (by omega), rdT l i hi]
    · simp only [if_true]
  | d + 1, j, h => by
    have hj : j < ps.length := by omega
    have e : decide ((i : Int) ∈ ps.take (j + 1)) = (decide ((i : Int) ∈ ps.take j) || (ps[j] == (i : Int))) := by
      rw [List.take_succ_eq_append_getElem hj, Bool.eq_iff_iff]
      simp only [List.mem_append, List.mem_singleton, Bool.or_eq_true, decide_eq_true_eq, beq_iff_eq]
      exact ⟨fun h => h.imp id Eq.symm, fun h => h.imp id Eq.symm⟩
    refine evs (fun k => ?_) (rdone_l1 l ps o hp out i hi hn ho r hr d (j + 1) (by omega))
    simp only [verbatimref16_Done.l1]
    rw [if_pos (by omega), wnat j (by omega), rd_get ps j hj, e]
    cases decide ((i : Int) ∈ ps.take j)
    · exact (if_neg Bool.false_ne_true).trans (if_pos (by omega))
    · exact if_pos rfl
theorem rdone_l0 (l : List Ref) (ps : List Int) (o : Ref) (hn : l.length ≤ 1000) (hp : ps.length ≤ 1000) : ∀ d i : Nat, i + d = l.length → ∀ out : List Ref, out.length ≤ i →
    Ev (fun k => verbatimref16_Done.l0 k l ps out (i : Int) o.f0 o.f1 o.f2 o.f3) (out ++ left l ps i (l.drop i) ++ [o])
  | 0, i, h, out, ho => by
    refine ev_some (fun k => ?_)
    simp only [verbatimref16_Done.l0]
    rw [if_neg (by omega), if_pos (by omega), List.drop_eq_nil_of_le (by omega)]
    simp [left]
  | d + 1, i, h, out, ho => by
    have hi : i < l.length := by omega
    rw [List.drop_eq_getElem_cons hi, left]
    refine evs (f := fun k => verbatimref16_Done.l1 k l ps out (i : Int) (decide ((i : Int) ∈ ps.take 0)) ((0 : Nat) : Int) o.f0 o.f1 o.f2 o.f3) (fun k => ?_) (rdone_l1 l ps o hp out i hi hn ho _ ?_ ps.length 0 (by omega))
    · simp only [verbatimref16_Done.l0]
      rw [if_pos (by omega)]
      simp
    · by_cases hm : (i : Int) ∈ ps
      · refine ev_pos (by simp [hm]) ?_
        rw [if_pos hm]
        exact rdone_l0 l ps o hn hp d (i + 1) (by omega) out (by omega)
      · refine ev_neg (by simp [hm]) ?_
        rw [if_neg hm]
        have := rdone_l0 l ps o hn hp d (i + 1) (by omega) (out ++ [l[i]]) (by simp; omega)
        simpa using this
theorem rdone_ev (l : List Ref) (ps : List Int) (o : Ref) (hn : l.length ≤ 1000) (hp : ps.length ≤ 1000) : Ev (fun k => verbatimref16_Done.f k l ps o.f0 o.f1 o.f2 o.f3) (left l ps 0 l ++ [o]) := by
  unfold verbatimref16_Done.f
  exact ev_eq (rdone_l0 l ps o hn hp l.length 0 (by omega) [] (by simp)) (by simp)
/-! ### alike -/
theorem rsame_l0 (a : List Ref) (hn : a.length ≤ 100000) : ∀ d i : Nat, i + d = a.length → Ev (fun k => verbatimref16_Same.l0 k a a (i : Int)) true
  | 0, i, h => by
    refine ev_some (fun k => ?_)
    simp only [verbatimref16_Same.l0]
    rw [if_neg (by omega)]
  | d + 1, i, h => by
    refine evs (fun k => ?_) (rsame_l0 a hn d (i + 1) (by omega))
    simp only [verbatimref16_Same.l0]
    rw [if_pos (by omega), if_pos (by omega), if_pos (by omega), if_neg (by simp), wnat i (by omega)]
theorem rsame_ev (a : List Ref) (hn : a.length ≤ 100000) : Ev (fun k => verbatimref16_Same.f k a a) true := by
  unfold verbatimref16_Same.f
  exact ev_pos rfl (rsame_l0 a hn a.length 0 (by omega))
theorem left_length (l : List Ref) (ps : List Int) : ∀ (i : Nat) (xs : List Ref), (left l ps i xs).length ≤ xs.length
  | _, [] => by simp [left]
  | i, x :: xs => by
    have := left_length l ps (i + 1) xs
    rw [left]
    split <;> simp <;> omega
theorem plan_f (l : List Ref) (hn : l.length ≤ 1000) (hw : ∀ x ∈ l, (Lit.int .i64 x.f2).wf = true) : tier_Plan.f l = some (planS (lv l)) := by
  unfold tier_Plan.f
  exact if_pos ⟨hn, hw⟩
end Go.Proofs.Ytbbgnapepkenaaa.TierPure
