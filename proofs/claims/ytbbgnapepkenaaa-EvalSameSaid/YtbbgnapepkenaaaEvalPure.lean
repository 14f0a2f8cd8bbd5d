/- What searching means, in plain Lean: the first place of a text in bytes, a row of texts, a query. No program but the printed names. -/
import Derived.Test.YtbbgnapepkenaaaPureLib
import Derived.Test.YtbbgnapepkenaaaOpens
import Derived.Lib.IndexMore
import Derived.Test.YtbbgnapepkenaaaE1
import Derived.Test.YtbbgnapepkenaaaE5
import Derived.Test.YtbbgnapepkenaaaE4
import Derived.Test.YtbbgnapepkenaaaE4
import Derived.Test.YtbbgnapepkenaaaE5
import Derived.Test.YtbbgnapepkenaaaE2
namespace Go.Proofs.Ytbbgnapepkenaaa.EvalPure
set_option linter.unusedVariables false
set_option linter.unusedSimpArgs false
open Go.RowKit Go.Proofs.Ytbbgnapepkenaaa.E Go.Proofs.YtbbgnapepkenaaaW.PrintWords Go.Proofs.Ytbbgnapepkenaaa.PureLib
abbrev Qy := S40
abbrev GoodQ := Good40
abbrev kid (l : List Qy) (i : Int) : Qy := rd_T40 l i
/-- The first place of s in bytes. -/
def ix (s : List UInt8) : List UInt8 → Option Nat
  | [] => if s = [] then some 0 else none
  | c :: l => if s.isPrefixOf (c :: l) = true then some 0 else (ix s l).map (· + 1)
theorem index_ix (s : List UInt8) : ∀ l, Lib.index l s = match ix s l with | none => -1 | some k => (k : Int)
  | [] => by
    unfold ix Lib.index
    by_cases e : s = [] <;> simp [e]
  | c :: l => by
    have ih := index_ix s l
    unfold ix Lib.index
    by_cases e : s.isPrefixOf (c :: l) = true
    · simp [e]
    · rw [if_neg e, if_neg e, ih]
      cases ix s l with
      | none => rfl
      | some k =>
        have : ((k : Int) == -1) = false := by
          rw [beq_eq_false_iff_ne]
          omega
        simp [this]
theorem ix_le (s : List UInt8) : ∀ l k, ix s l = some k → k + s.length ≤ l.length
  | [], k, h => by
    unfold ix at h
    by_cases e : s = []
    · rw [if_pos e] at h
      cases h
      simp [e]
    · rw [if_neg e] at h
      cases h
  | c :: l, k, h => by
    unfold ix at h
    by_cases e : s.isPrefixOf (c :: l) = true
    · rw [if_pos e] at h
      cases h
      have := (List.isPrefixOf_iff_prefix.1 e).length_le
      simpa using this
    · rw [if_neg e] at h
      obtain ⟨j, hj, rfl⟩ := Option.map_eq_some_iff.1 h
      have := ix_le s l j hj
      simp
      omega
theorem ix_prefix (s : List UInt8) : ∀ l, s.isPrefixOf l = true → ix s l = some 0
  | [], h => by
    unfold ix
    rw [if_pos (by simpa using h)]
  | c :: l, h => by
    unfold ix
    rw [if_pos h]
theorem ix_not (s l : List UInt8) (c : UInt8) (h : s.isPrefixOf (c :: l) = false) : ix s (c :: l) = (ix s l).map (· + 1) := by
  conv => lhs; unfold ix
  rw [if_neg (by simp [h])]
theorem ix_long (s : List UInt8) : ∀ l, l.length < s.length → ix s l = none := fun l h => by
  cases e : ix s l with
  | none => rfl
  | some k => have := ix_le s l k e; omega
theorem drop_data (t : ByteArray) (a : Nat) : (t.extract a t.size).data.toList = t.data.toList.drop a := by
  rw [ByteArray.data_extract]
  simp
  exact List.take_of_length_le (by rw [List.length_drop, data_length]; exact Nat.le_refl _)
/-- The places of texts, one behind the other, from a on. -/
def find (t : List UInt8) : Nat → List ByteArray → Option (List Nat)
  | _, [] => some []
  | a, s :: ss => match ix s.data.toList (t.drop a) with
    | none => none
    | some k => (find t (a + k + s.size) ss).map (fun l => (a + k) :: l)
def res : Option (List Nat) → List Int × Bool
  | none => ([], false)
  | some l => (l.map Int.ofNat, true)
def resA (acc : List Int) : Option (List Nat) → List Int × Bool
  | none => ([], false)
  | some l => (acc ++ l.map Int.ofNat, true)
theorem strIndex (a s : ByteArray) (h : a.size < 4294967281) : strings_Index.f a s = some (match ix s.data.toList a.data.toList with | none => -1 | some k => (k : Int)) := by
  unfold strings_Index.f
  rw [if_pos h, index_ix]
theorem ev_find_l0 (t : ByteArray) (ht : t.size < 4294967281) (xs : List ByteArray) (hx : xs.length < 17592186044416) : ∀ (n i a : Nat) (acc : List Int), i + n = xs.length → a ≤ t.size → acc.length = i →
    Ev (fun k => eval_Find.l0 k t acc (a : Int) xs (xs.length : Int) (i : Int)) (resA acc (find t.data.toList a (xs.drop i)))
  | 0, i, a, acc, hi, ha, hacc => ev_some (fun k => by
      simp only [eval_Find.l0]
      rw [if_neg (by omega), List.drop_of_length_le (by omega)]
      simp [find, resA])
  | n + 1, i, a, acc, hi, ha, hacc => by
    have hil : i < xs.length := by omega
    have hd : xs.drop i = xs[i] :: xs.drop (i + 1) := List.drop_eq_getElem_cons hil
    have hsz : (t.extract a t.size).size = t.size - a := by simp [ByteArray.size_extract]
    have hidx := strIndex (t.extract a t.size) xs[i] (by omega)
    rw [drop_data] at hidx
    rw [hd]
    cases e : ix xs[i].data.toList (t.data.toList.drop a) with
    | none =>
      rw [e] at hidx
      refine ev_some (fun k => ?_)
      simp only [eval_Find.l0]
      rw [if_pos (by omega), if_pos (by omega), if_pos (by omega), if_pos (by omega), if_pos (by omega), rdOf_get _ _ _ hil]
      rw [show ((a : Int)).toNat = a from rfl, hidx]
      simp [find, e, resA]
    | some q =>
      rw [e] at hidx
      have hle := ix_le _ _ _ e
      rw [List.length_drop, data_length, data_length] at hle
      have ih := ev_find_l0 t ht xs hx n (i + 1) (a + q + xs[i].size) (acc ++ [((a + q : Nat) : Int)]) (by omega) (by omega) (by simp [hacc])
      have hr : resA (acc ++ [((a + q : Nat) : Int)]) (find t.data.toList (a + q + xs[i].size) (xs.drop (i + 1))) = resA acc (find t.data.toList a (xs[i] :: xs.drop (i + 1))) := by
        rw [find, e]
        show _ = resA acc (Option.map _ _)
        cases find t.data.toList (a + q + xs[i].size) (xs.drop (i + 1)) <;> simp [resA]
      rw [hr] at ih
      · refine evs (fun k => ?_) ih
        simp only [eval_Find.l0]
        rw [if_pos (by omega), if_pos (by omega), if_pos (by omega), if_pos (by omega), if_pos (by omega), rdOf_get _ _ _ hil]
        rw [show ((a : Int)).toNat = a from rfl, hidx]
        simp only [Option.bind_some]
        rw [if_neg (by omega), if_pos (by omega), wid (by omega) (by omega), wid (n := (a : Int) + _) (by rw [wid (by omega) (by omega)]; omega) (by rw [wid (by omega) (by omega)]; omega), wid (n := (q : Int) + _) (by omega) (by omega), wid (n := (i : Int) + 1) (by omega) (by omega)]
        rw [show (a : Int) + (q : Int) = ((a + q : Nat) : Int) from by omega, show (a : Int) + ((q : Int) + (xs[i].size : Int)) = ((a + q + xs[i].size : Nat) : Int) from by omega, show (i : Int) + 1 = ((i + 1 : Nat) : Int) from by omega]
theorem ev_find (t : ByteArray) (ht : t.size < 4294967281) (xs : List ByteArray) (hx : xs.length < 17592186044416) : Ev (fun k => eval_Find.f k xs t) (res (find t.data.toList 0 xs)) := by
  have h := ev_find_l0 t ht xs hx xs.length 0 0 [] (by omega) (by omega) rfl
  refine Ev.congr (fun k => rfl) (ev_eq h ?_)
  rw [List.drop_zero]
  cases find t.data.toList 0 xs <;> simp [resA, res]
end Go.Proofs.Ytbbgnapepkenaaa.EvalPure
