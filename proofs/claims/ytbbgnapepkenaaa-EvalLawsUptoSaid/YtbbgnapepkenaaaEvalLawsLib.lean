/- What searching and a query mean, in plain Lean, for EvalLaws (without the document's answer). No program but the printed names. -/
import Derived.Test.YtbbgnapepkenaaaPureLib
import Derived.Test.YtbbgnapepkenaaaOpens
import Derived.Lib.IndexMore
import Derived.Test.YtbbgnapepkenaaaE1
import Derived.Test.YtbbgnapepkenaaaE4
import Derived.Test.YtbbgnapepkenaaaE4
namespace Go.Proofs.Ytbbgnapepkenaaa.EvalPure
set_option linter.unusedVariables false
set_option linter.unusedSimpArgs false
open Go.RowKit Go.Proofs.Ytbbgnapepkenaaa.E Go.Proofs.YtbbgnapepkenaaaW.PrintWords Go.Proofs.Ytbbgnapepkenaaa.PureLib
abbrev Qy := S40
abbrev GoodQ := Good40
abbrev kid (l : List Qy) (i : Int) : Qy := rd_T40 l i
/-- The first place of s in bytes. -/
def ix (s : List UInt8) : List UInt8 → Option Nat
  | [] => if s = [] then some 0 else none
  | c :: l => if s.isPrefixOf (c :: l) = true then some 0 else (ix s l).map (· + 1)
theorem index_ix (s : List UInt8) : ∀ l, Lib.index l s = match ix s l with | none => -1 | some k => (k : Int)
  | [] => by
    unfold ix Lib.index
    by_cases e : s = [] <;> simp [e]
  | c :: l => by
    have ih := index_ix s l
    unfold ix Lib.index
    by_cases e : s.isPrefixOf (c :: l) = true
    · simp [e]
    · rw [if_neg e, if_neg e, ih]
      cases ix s l with
      | none => rfl
      | some k =>
        have : ((k : Int) == -1) = false := by
          rw [beq_eq_false_iff_ne]
          omega
        simp [this]
theorem ix_le (s : List UInt8) : ∀ l k, ix s l = some k → k + s.length ≤ l.length
  | [], k, h => by
    unfold ix at h
    by_cases e : s = []
    · rw [if_pos e] at h
      cases h
      simp [e]
    · rw [if_neg e] at h
      cases h
  | c :: l, k, h => by
    unfold ix at h
    by_cases e : s.isPrefixOf (c :: l) = true
    · rw [if_pos e] at h
      cases h
      have := (List.isPrefixOf_iff_prefix.1 e).length_le
      simpa using this
    · rw [if_neg e] at h
      obtain ⟨j, hj, rfl⟩ := Option.map_eq_some_iff.1 h
      have := ix_le s l j hj
      simp
      omega
theorem ix_prefix (s : List UInt8) : ∀ l, s.isPrefixOf l = true → ix s l = some 0
  | [], h => by
    unfold ix
    rw [if_pos (by simpa using h)]
  | c :: l, h => by
    unfold ix
    rw [if_pos h]
theorem ix_not (s l : List UInt8) (c : UInt8) (h : s.isPrefixOf (c :: l) = false) : ix s (c :: l) = (ix s l).map (· + 1) := by
  conv => lhs; unfold ix
  rw [if_neg (by simp [h])]
theorem ix_long (s : List UInt8) : ∀ l, l.length < s.length → ix s l = none := fun l h => by
  cases e : ix s l with
  | none => rfl
  | some k => have := ix_le s l k e; omega
theorem drop_data (t : ByteArray) (a : Nat) : (t.extract a t.size).data.toList = t.data.toList.drop a := by
  rw [ByteArray.data_extract]
  simp
  exact List.take_of_length_le (by rw [List.length_drop, data_length]; exact Nat.le_refl _)
/-- The places of texts, one behind the other, from a on. -/
def find (t : List UInt8) : Nat → List ByteArray → Option (List Nat)
  | _, [] => some []
  | a, s :: ss => match ix s.data.toList (t.drop a) with
    | none => none
    | some k => (find t (a + k + s.size) ss).map (fun l => (a + k) :: l)
def res : Option (List Nat) → List Int × Bool
  | none => ([], false)
  | some l => (l.map Int.ofNat, true)
def resA (acc : List Int) : Option (List Nat) → List Int × Bool
  | none => ([], false)
  | some l => (acc ++ l.map Int.ofNat, true)
theorem strIndex (a s : ByteArray) (h : a.size < 4294967281) : strings_Index.f a s = some (match ix s.data.toList a.data.toList with | none => -1 | some k => (k : Int)) := by
  unfold strings_Index.f
  rw [if_pos h, index_ix]
theorem ev_find_l0 (t : ByteArray) (ht : t.size < 4294967281) (xs : List ByteArray) (hx : xs.length < 17592186044416) : ∀ (n i a : Nat) (acc : List Int), i + n = xs.length → a ≤ t.size → acc.length = i →
    Ev (fun k => eval_Find.l0 k t acc (a : Int) xs (xs.length : Int) (i : Int)) (resA acc (find t.data.toList a (xs.drop i)))
  | 0, i, a, acc, hi, ha, hacc => ev_some (fun k => by
      simp only [eval_Find.l0]
      rw [if_neg (by omega), List.drop_of_length_le (by omega)]
      simp [find, resA])
  | n + 1, i, a, acc, hi, ha, hacc => by
    have hil : i < xs.length := by omega
    have hd : xs.drop i = xs[i] :: xs.drop (i + 1) := List.drop_eq_getElem_cons hil
    have hsz : (t.extract a t.size).size = t.size - a := by simp [ByteArray.size_extract]
    have hidx := strIndex (t.extract a t.size) xs[i] (by omega)
    rw [drop_data] at hidx
    rw [hd]
    cases e : ix xs[i].data.toList (t.data.toList.drop a) with
    | none =>
      rw [e] at hidx
      refine ev_some (fun k => ?_)
      simp only [eval_Find.l0]
      rw [if_pos (by omega), if_pos (by omega), if_pos (by omega), if_pos (by omega), if_pos (by omega), rdOf_get _ _ _ hil]
      rw [show ((a : Int)).toNat = a from rfl, hidx]
      simp [find, e, resA]
    | some q =>
      rw [e] at hidx
      have hle := ix_le _ _ _ e
      rw [List.length_drop, data_length, data_length] at hle
      have ih := ev_find_l0 t ht xs hx n (i + 1) (a + q + xs[i].size) (acc ++ [((a + q : Nat) : Int)]) (by omega) (by omega) (by simp [hacc])
      have hr : resA (acc ++ [((a + q : Nat) : Int)]) (find t.data.toList (a + q + xs[i].size) (xs.drop (i + 1))) = resA acc (find t.data.toList a (xs[i] :: xs.drop (i + 1))) := by
        rw [find, e]
        show _ = resA acc (Option.map _ _)
        cases find t.data.toList (a + q + xs[i].size) (xs.drop (i + 1)) <;> simp [resA]
      rw [hr] at ih
      · refine evs (fun k => ?_) ih
        simp only [eval_Find.l0]
        rw [if_pos (by omega), if_pos (by omega), if_pos (by omega), if_pos (by omega), if_pos (by omega), rdOf_get _ _ _ hil]
        rw [show ((a : Int)).toNat = a from rfl, hidx]
        simp only [Option.bind_some]
        rw [if_neg (by omega), if_pos (by omega), wid (by omega) (by omega), wid (n := (a : Int) + _) (by rw [wid (by omega) (by omega)]; omega) (by rw [wid (by omega) (by omega)]; omega), wid (n := (q : Int) + _) (by omega) (by omega), wid (n := (i : Int) + 1) (by omega) (by omega)]
        rw [show (a : Int) + (q : Int) = ((a + q : Nat) : Int) from by omega, show (a : Int) + ((q : Int) + (xs[i].size : Int)) = ((a + q + xs[i].size : Nat) : Int) from by omega, show (i : Int) + 1 = ((i + 1 : Nat) : Int) from by omega]
theorem ev_find (t : ByteArray) (ht : t.size < 4294967281) (xs : List ByteArray) (hx : xs.length < 17592186044416) : Ev (fun k => eval_Find.f k xs t) (res (find t.data.toList 0 xs)) := by
  have h := ev_find_l0 t ht xs hx xs.length 0 0 [] (by omega) (by omega) rfl
  refine Ev.congr (fun k => rfl) (ev_eq h ?_)
  rw [List.drop_zero]
  cases find t.data.toList 0 xs <;> simp [resA, res]
theorem toList_eq (a b : ByteArray) : a.toList = b.toList ↔ a.data.toList = b.data.toList := by
  have h : ∀ x : ByteArray, x.toList = x.data.toList := fun x => ByteArray.toList_eq x
  rw [h, h]
theorem extract_data (t : ByteArray) (a b : Nat) (h : b ≤ t.size) : (t.extract a b).data.toList = (t.data.toList.drop a).take (b - a) := by
  rw [ByteArray.data_extract]
  simp
theorem prefix_take (s l : List UInt8) : s.isPrefixOf l = decide (l.take s.length = s) := by
  by_cases h : s.isPrefixOf l = true
  · rw [h]
    have := List.isPrefixOf_iff_prefix.1 h
    exact (decide_eq_true (List.prefix_iff_eq_take.1 this).symm).symm
  · have e : s.isPrefixOf l = false := Bool.eq_false_iff.2 h
    rw [e]
    refine (decide_eq_false (fun e' => h ?_)).symm
    rw [List.isPrefixOf_iff_prefix, List.prefix_iff_eq_take]
    exact e'.symm
/-- Does a query match, its kids lying so many deep at most? -/
def mt (t : ByteArray) : Nat → Qy → Bool
  | 0, _ => false
  | d + 1, q => if q.f0 = 1 then (match q.f1 with | [] => false | s :: _ => (ix s.data.toList t.data.toList).isSome) else if q.f0 = 2 then (match q.f1 with | [] => false | s :: _ => s.data.toList.isPrefixOf t.data.toList)
    else if q.f0 = 3 then (find t.data.toList 0 q.f1).isSome else if q.f0 = 4 then q.f2.all (mt t d) else if q.f0 = 5 then q.f2.any (mt t d) else if q.f0 = 6 then (match q.f2 with | [] => false | x :: _ => !mt t d x) else q.f0 == 7
theorem good_kid {q x : Qy} (h : GoodQ q) (hx : x ∈ q.f2) : GoodQ x := by
  cases h with
  | mk _ _ _ h => exact h x hx
theorem good_kids {q : Qy} (h : GoodQ q) : q.f2.length ≤ 140737488351232 := by
  cases h with
  | mk _ _ h _ => exact Nat.le_trans h (by decide)
theorem good_texts {q : Qy} (h : GoodQ q) : q.f1.length ≤ 8796093021952 ∧ ∀ x ∈ q.f1, x.size ≤ 140737488351232 := by
  cases h with
  | mk _ h _ _ => exact h
theorem kid_get (l : List Qy) (i : Nat) (h : i < l.length) : kid l (i : Int) = l[i] := by
  show l.getD _ _ = _
  simp [List.getD_eq_getElem?_getD, h]
theorem i0_any (p : Qy → Option Bool) (P : Qy → Bool) (l : List Qy) (hl : l.length ≤ 140737488351232) (hp : ∀ q ∈ l, p q = some (P q)) : ∀ (n i : Nat), i + n = l.length → ∀ k, n < k →
    ∃ r, eval_match.i0 p k l (l.length : Int) (i : Int) = some r ∧ decide (r ≥ 0) = (l.drop i).any P
  | 0, i, hi, k, hk => by
    obtain ⟨k, rfl⟩ : ∃ m, k = m + 1 := ⟨k - 1, by omega⟩
    refine ⟨-1, ?_, ?_⟩
    · simp only [eval_match.i0]
      rw [if_neg (by omega)]
    · rw [List.drop_of_length_le (by omega)]
      rfl
  | n + 1, i, hi, k, hk => by
    obtain ⟨k, rfl⟩ : ∃ m, k = m + 1 := ⟨k - 1, by omega⟩
    have hil : i < l.length := by omega
    rw [List.drop_eq_getElem_cons hil, List.any_cons]
    have hq := hp l[i] (List.getElem_mem _)
    have e : eval_match.i0 p (k + 1) l (l.length : Int) (i : Int) = if P l[i] = true then some (i : Int) else eval_match.i0 p k l (l.length : Int) ((i + 1 : Nat) : Int) := by
      simp only [eval_match.i0]
      rw [if_pos (by omega), if_pos (by omega), if_pos (by omega), show rd_T40 l (i : Int) = l[i] from kid_get l i hil, hq, wnat i (by omega)]
      rfl
    rw [e]
    by_cases hP : P l[i] = true
    · rw [if_pos hP, hP]
      exact ⟨_, rfl, by simp⟩
    · rw [if_neg hP, Bool.eq_false_iff.2 hP, Bool.false_or]
      exact i0_any p P l hl hp n (i + 1) (by omega) k (by omega)
theorem an_any (p : Qy → Option Bool) (P : Qy → Bool) (l : List Qy) (hl : l.length ≤ 140737488351232) (hp : ∀ q ∈ l, p q = some (P q)) (k : Nat) (hk : l.length < k) : eval_match.an p k l = some (l.any P) := by
  obtain ⟨r, h1, h2⟩ := i0_any p P l hl hp l.length 0 (by omega) k hk
  unfold eval_match.an
  have h1' : eval_match.i0 p k l (l.length : Int) 0 = some r := h1
  rw [h1', Option.bind_some, h2]
  rfl
theorem ev_all {l : List Qy} {p : Nat → Qy → Option Bool} {P : Qy → Bool} (h : ∀ q ∈ l, Ev (fun k => p k q) (P q)) : ∃ K, ∀ k, K ≤ k → ∀ q ∈ l, p k q = some (P q) := by
  induction l with
  | nil => exact ⟨0, fun _ _ q hq => by cases hq⟩
  | cons x l ih =>
    obtain ⟨K1, h1⟩ := ih (fun q hq => h q (List.mem_cons_of_mem _ hq))
    obtain ⟨K2, h2⟩ := h x List.mem_cons_self
    refine ⟨max K1 K2, fun k hk q hq => ?_⟩
    rcases List.mem_cons.1 hq with rfl | hq
    · exact h2 k (by omega)
    · exact h1 k (by omega) q hq
theorem ev_an {l : List Qy} {p : Nat → Qy → Option Bool} {P : Qy → Bool} (hl : l.length ≤ 140737488351232) (h : ∀ q ∈ l, Ev (fun k => p k q) (P q)) : Ev (fun k => eval_match.an (p k) k l) (l.any P) := by
  obtain ⟨K, hK⟩ := ev_all h
  exact ⟨max K (l.length + 1), fun k hk => an_any (p k) P l hl (hK k (by omega)) k (by omega)⟩
theorem pre_has (a s : ByteArray) : strings_HasPrefix.f a s = some (s.data.toList.isPrefixOf a.data.toList) := by
  have hsl : s.data.toList.length = s.size := data_length s
  unfold strings_HasPrefix.f stringslite_HasPrefix.f
  by_cases h : s.size ≤ a.size
  · rw [if_pos (by omega), if_pos (by omega), if_pos (by omega), prefix_take, Option.bind_some]
    congr 1
    rw [Bool.eq_iff_iff, beq_iff_eq, decide_eq_true_eq, toList_eq, show (((s.size : Nat) : Int)).toNat = s.size from rfl, extract_data _ _ _ h, hsl, List.drop_zero, Nat.sub_zero]
  · rw [if_neg (by omega), Option.bind_some]
    congr 1
    refine (Bool.eq_false_iff.2 (fun e => ?_)).symm
    have := (List.isPrefixOf_iff_prefix.1 e).length_le
    rw [hsl, data_length] at this
    omega
theorem con_has (a s : ByteArray) (h : a.size < 4294967281) : strings_Contains.f a s = some (ix s.data.toList a.data.toList).isSome := by
  unfold strings_Contains.f
  rw [if_pos h]
  congr 1
  unfold Lib.contains
  rw [index_ix]
  cases ix s.data.toList a.data.toList with
  | none => rfl
  | some k => simp
theorem all_any (l : List Qy) (P : Qy → Bool) : (!l.any fun q => !P q) = l.all P := by
  induction l with
  | nil => rfl
  | cons x l ih => rw [List.any_cons, List.all_cons, ← ih]; cases P x <;> simp
/-- What the program tells. -/
theorem ev_match (t : ByteArray) (ht : t.size < 4294967281) : ∀ (d : Nat), d ≤ 301 → ∀ q : Qy, GoodQ q → Ev (fun k => eval_match.f k q.f0 q.f1 q.f2 t (301 - (d : Int))) (mt t d q)
  | 0, hd, q, hq => ev_some (fun k => by
      rw [eval_match.f]
      rw [if_pos (by omega)]
      rfl)
  | d + 1, hd, q, hq => by
    have htx := good_texts hq
    have hw : wrap64 ((301 : Int) - ((d + 1 : Nat) : Int) + 1) = 301 - (d : Int) := by
      rw [wid (by omega) (by omega)]
      omega
    have ih : ∀ x ∈ q.f2, Ev (fun k => eval_match.f k x.f0 x.f1 x.f2 t (wrap64 ((301 : Int) - ((d + 1 : Nat) : Int) + 1))) (mt t d x) := fun x hx => by
      rw [hw]
      exact ev_match t ht d (by omega) x (good_kid hq hx)
    have hdef : ∀ k, eval_match.f (k + 1) q.f0 q.f1 q.f2 t (301 - ((d + 1 : Nat) : Int)) = _ := fun k => by
      rw [eval_match.f, if_neg (show ¬ (301 - ((d + 1 : Nat) : Int)) > 300 by omega)]
    refine evs hdef ?_
    rw [mt]
    by_cases h1 : q.f0 = 1
    · rw [if_pos h1]
      refine ev_pos h1 ?_
      cases e : q.f1 with
      | nil => exact ev_neg (by simp) (Ev.now _)
      | cons s l =>
        refine ev_pos (by simp) (ev_pos (by simp) ?_)
        rw [show rdOf ByteArray.empty (s :: l) 0 = s from rfl, con_has t s ht]
        exact Ev.now _
    · rw [if_neg h1]
      refine ev_neg h1 ?_
      by_cases h2 : q.f0 = 2
      · rw [if_pos h2]
        refine ev_pos h2 ?_
        cases e : q.f1 with
        | nil => exact ev_neg (by simp) (Ev.now _)
        | cons s l =>
          refine ev_pos (by simp) (ev_pos (by simp) ?_)
          rw [show rdOf ByteArray.empty (s :: l) 0 = s from rfl, pre_has t s]
          exact Ev.now _
      · rw [if_neg h2]
        refine ev_neg h2 ?_
        by_cases h3 : q.f0 = 3
        · rw [if_pos h3]
          refine ev_pos h3 ?_
          have := ev_find t ht q.f1 (by omega)
          refine ev_eq (ev_bind (f := fun k (b : List Int × Bool) => some b.2) this (Ev.now _)) ?_
          cases find t.data.toList 0 q.f1 <;> rfl
        · rw [if_neg h3]
          refine ev_neg h3 ?_
          by_cases h4 : q.f0 = 4
          · rw [if_pos h4]
            refine ev_pos h4 ?_
            have := ev_an (P := fun x => !mt t d x) (p := fun k x => (eval_match.f k x.f0 x.f1 x.f2 t (wrap64 ((301 : Int) - ((d + 1 : Nat) : Int) + 1))).bind fun b => some (!b)) (good_kids hq) (fun x hx => ev_bind (f := fun k (b : Bool) => some (!b)) (ih x hx) (Ev.now _))
            refine ev_eq (ev_bind (f := fun k (b : Bool) => some (!b)) this (Ev.now _)) ?_
            exact all_any _ _
          · rw [if_neg h4]
            refine ev_neg h4 ?_
            by_cases h5 : q.f0 = 5
            · rw [if_pos h5]
              refine ev_pos h5 ?_
              have := ev_an (P := fun x => mt t d x) (p := fun k x => (eval_match.f k x.f0 x.f1 x.f2 t (wrap64 ((301 : Int) - ((d + 1 : Nat) : Int) + 1)))) (good_kids hq) ih
              exact ev_bind (f := fun k (b : Bool) => some b) this (Ev.now _)
            · rw [if_neg h5]
              refine ev_neg h5 ?_
              by_cases h6 : q.f0 = 6
              · rw [if_pos h6]
                refine ev_pos h6 ?_
                cases e : q.f2 with
                | nil => exact ev_neg (by simp) (Ev.now _)
                | cons x l =>
                  refine ev_pos (by simp) (ev_pos (by simp) ?_)
                  have := ih x (by rw [e]; exact List.mem_cons_self)
                  exact ev_bind (f := fun k (b : Bool) => some (!b)) this (Ev.now _)
              · rw [if_neg h6]
                exact ev_neg h6 (Ev.now _)
/-- How great a query is can be told. -/
theorem ev_great_l0 (a : Int) (n5 : Int) (tx : List ByteArray) (kd : Int) (l : List Qy) (hl : l.length ≤ 140737488351232) (ih : a > 0 → ∀ x ∈ l, ∃ b, Ev (fun k => verbatimlaw20_great.f k x.f0 x.f1 x.f2 (wrap64 (a - 1))) b) : ∀ (n i : Nat), i + n = l.length →
    ∃ b, Ev (fun k => verbatimlaw20_great.l0 k a n5 (i : Int) kd tx l) b
  | 0, i, hi => ⟨_, evs (fun k => by
      simp only [verbatimlaw20_great.l0]
      rw [if_neg (by omega)]) (ev_some (r := decide (n5 ≥ 2000)) (fun k => by
      simp only [verbatimlaw20_great.j1]
      rw [if_neg (by simp)]))⟩
  | n + 1, i, hi => by
    have hil : i < l.length := by omega
    by_cases h5 : n5 < 2000
    · by_cases ha : a > 0
      · obtain ⟨b, hb⟩ := ih ha l[i] (List.getElem_mem _)
        obtain ⟨c, hc⟩ := ev_great_l0 a n5 tx kd l hl ih n (i + 1) (by omega)
        refine ⟨if b = true then true else c, evs (f := fun k => verbatimlaw20_great.j1 k a n5 (i : Int) (decide (a > 0)) kd tx l) (fun k => by
          simp only [verbatimlaw20_great.l0]
          rw [if_pos (by omega), if_pos h5]) ?_⟩
        refine evs (f := fun k => (verbatimlaw20_great.f k l[i].f0 l[i].f1 l[i].f2 (wrap64 (a - 1))).bind fun b => if b = true then some true else verbatimlaw20_great.l0 k a n5 ((i + 1 : Nat) : Int) kd tx l) (fun k => by
          simp only [verbatimlaw20_great.j1]
          rw [if_pos (by simpa using ha), if_pos (by omega), if_pos (by omega), show rd_T40 l (i : Int) = l[i] from kid_get l i hil, wnat i (by omega)]) (ev_bind hb ?_)
        cases b with
        | true => exact ev_const (fun k => if_pos rfl)
        | false => exact hc.congr (fun k => if_neg (by simp))
      · refine ⟨_, evs (f := fun k => verbatimlaw20_great.j1 k a n5 (i : Int) (decide (a > 0)) kd tx l) (fun k => by
          simp only [verbatimlaw20_great.l0]
          rw [if_pos (by omega), if_pos h5]) (ev_some (r := decide (n5 ≥ 2000)) (fun k => by
          simp only [verbatimlaw20_great.j1]
          rw [if_neg (by simpa using ha)]))⟩
    · refine ⟨_, evs (f := fun k => verbatimlaw20_great.j1 k a n5 (i : Int) false kd tx l) (fun k => by
          simp only [verbatimlaw20_great.l0]
          rw [if_pos (by omega), if_neg h5]) (ev_some (r := decide (n5 ≥ 2000)) (fun k => by
          simp only [verbatimlaw20_great.j1]
          rw [if_neg (by simp)]))⟩
theorem ev_great : ∀ (a : Nat), a ≤ 1000 → ∀ q : Qy, GoodQ q → ∃ b, Ev (fun k => verbatimlaw20_great.f k q.f0 q.f1 q.f2 (a : Int)) b
  | 0, ha, q, hq => by
    obtain ⟨b, hb⟩ := ev_great_l0 ((0 : Nat) : Int) (wrap64 ((q.f1.length : Int) + (q.f2.length : Int))) q.f1 q.f0 q.f2 (good_kids hq) (fun h => absurd h (by simp)) q.f2.length 0 (by omega)
    exact ⟨b, evs (fun k => by rw [verbatimlaw20_great.f]; rfl) hb⟩
  | a + 1, ha, q, hq => by
    obtain ⟨b, hb⟩ := ev_great_l0 ((a + 1 : Nat) : Int) (wrap64 ((q.f1.length : Int) + (q.f2.length : Int))) q.f1 q.f0 q.f2 (good_kids hq) (fun _ x hx => by
      rw [show wrap64 (((a + 1 : Nat) : Int) - 1) = (a : Int) from by rw [wid (by omega) (by omega)]; omega]
      exact ev_great a (by omega) x (good_kid hq hx)) q.f2.length 0 (by omega)
    exact ⟨b, evs (fun k => by rw [verbatimlaw20_great.f]; rfl) hb⟩
end Go.Proofs.Ytbbgnapepkenaaa.EvalPure
