/- Texts that stand in bytes one behind the other, in plain Lean: searching finds them just if there are such places. No program but the printed names. -/
import Derived.Test.YtbbgnapepkenaaaEvalPure3
namespace Go.Proofs.Ytbbgnapepkenaaa.EvalPure
set_option linter.unusedVariables false
set_option linter.unusedSimpArgs false
open Go.RowKit Go.Proofs.Ytbbgnapepkenaaa.E Go.Proofs.YtbbgnapepkenaaaW.PrintWords Go.Proofs.Ytbbgnapepkenaaa.PureLib
/-- Texts stand in bytes, one behind the other. -/
def Fits : List ByteArray → List UInt8 → Prop
  | [], _ => True
  | s :: ss, l => ∃ p q, l = p ++ (s.data.toList ++ q) ∧ Fits ss q
theorem Fits.before : ∀ {ss : List ByteArray} {q : List UInt8} (p : List UInt8), Fits ss q → Fits ss (p ++ q)
  | [], _, _, _ => trivial
  | s :: ss, q, p, ⟨a, b, e, h⟩ => ⟨p ++ a, b, by rw [e, List.append_assoc], h⟩
theorem Fits.behind : ∀ {ss : List ByteArray} {q : List UInt8} (r : List UInt8), Fits ss q → Fits ss (q ++ r)
  | [], _, _, _ => trivial
  | s :: ss, q, r, ⟨a, b, e, h⟩ => ⟨a, b ++ r, by rw [e]; simp, h.behind r⟩
theorem Fits.join : ∀ {xs ys : List ByteArray} {l m : List UInt8}, Fits xs l → Fits ys m → Fits (xs ++ ys) (l ++ m)
  | [], ys, l, m, _, h => h.before l
  | x :: xs, ys, l, m, ⟨p, q, e, h⟩, h2 => ⟨p, q ++ m, by rw [e]; simp, Fits.join h h2⟩
theorem Fits.less {xs ys : List ByteArray} (hs : xs.Sublist ys) : ∀ {l : List UInt8}, Fits ys l → Fits xs l := by
  induction hs with
  | slnil => exact fun h => h
  | cons y hs ih =>
    intro l ⟨p, q, e, h⟩
    rw [e, ← List.append_assoc]
    exact (ih h).before _
  | cons_cons y hs ih => exact fun ⟨p, q, e, h⟩ => ⟨p, q, e, ih h⟩
theorem ix_split (s : List UInt8) : ∀ l k, ix s l = some k → l = l.take k ++ (s ++ l.drop (k + s.length))
  | [], k, h => by
    have := ix_le s [] k h
    simp at this
    obtain ⟨rfl, hs⟩ := this
    simp [hs]
  | c :: l, k, h => by
    unfold ix at h
    by_cases e : s.isPrefixOf (c :: l) = true
    · rw [if_pos e] at h
      cases h
      obtain ⟨r, hr⟩ := List.isPrefixOf_iff_prefix.1 e
      rw [← hr]
      simp
    · rw [if_neg e] at h
      obtain ⟨j, hj, rfl⟩ := Option.map_eq_some_iff.1 h
      have ih := ix_split s l j hj
      rw [List.take_succ_cons, show j + 1 + s.length = (j + s.length) + 1 from by omega, List.drop_succ_cons, List.cons_append, ← ih]
theorem ix_first (s q : List UInt8) : ∀ p : List UInt8, ∃ k, ix s (p ++ (s ++ q)) = some k ∧ k ≤ p.length
  | [] => ⟨0, by rw [List.nil_append]; exact ix_prefix _ _ (List.isPrefixOf_iff_prefix.2 (List.prefix_append _ _)), Nat.le_refl _⟩
  | c :: p => by
    obtain ⟨k, h, hk⟩ := ix_first s q p
    by_cases e : s.isPrefixOf (c :: (p ++ (s ++ q))) = true
    · exact ⟨0, ix_prefix _ _ e, Nat.zero_le _⟩
    · refine ⟨k + 1, ?_, by simp; omega⟩
      rw [List.cons_append, ix_not _ _ _ (Bool.eq_false_iff.2 e), h]
      rfl
theorem find_fits (t : List UInt8) : ∀ (xs : List ByteArray) (a : Nat), (find t a xs).isSome = true ↔ Fits xs (t.drop a)
  | [], a => by simp [find, Fits]
  | s :: ss, a => by
    have hs : s.data.toList.length = s.size := data_length s
    rw [find]
    constructor
    · intro h
      cases e : ix s.data.toList (t.drop a) with
      | none => rw [e] at h; cases h
      | some k =>
        rw [e] at h
        have h' : (find t (a + k + s.size) ss).isSome = true := by
          have h1 : (Option.map (fun l => (a + k) :: l) (find t (a + k + s.size) ss)).isSome = true := h
          rw [Option.isSome_map] at h1
          exact h1
        have sp := ix_split _ _ _ e
        refine ⟨_, _, sp, ?_⟩
        rw [List.drop_drop, hs, show a + (k + s.size) = a + k + s.size from by omega]
        exact (find_fits t ss _).1 h'
    · intro ⟨p, q, e, h⟩
      obtain ⟨k, hk, hkp⟩ := ix_first s.data.toList q p
      rw [← e] at hk
      rw [hk]
      have h2 : Fits ss (t.drop (a + k + s.size)) := by
        rw [show a + k + s.size = a + (k + s.data.toList.length) from by omega, ← List.drop_drop, e, ← List.append_assoc, List.drop_append_of_le_length (by simp; omega)]
        exact h.before _
      have := (find_fits t ss (a + k + s.size)).2 h2
      show (Option.map _ _).isSome = true
      rw [Option.isSome_map]
      exact this
end Go.Proofs.Ytbbgnapepkenaaa.EvalPure
