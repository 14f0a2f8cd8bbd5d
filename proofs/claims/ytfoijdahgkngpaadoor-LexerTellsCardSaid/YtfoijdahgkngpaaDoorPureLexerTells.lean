/- LexerTells: what is told of a query's words, and of bytes as a literal, is the document's: both are LexSpec's. In plain Lean; no condition. -/
import Derived.Test.YtfoijdahgkngpaaDoorLexPure3
import Derived.Test.YtfoijdahgkngpaaDoorL9
namespace Go.Proofs.YtfoijdahgkngpaaDoor.Pure
set_option linter.unusedVariables false
set_option linter.unusedSimpArgs false
open Go.RowKit Go.Proofs.YtfoijdahgkngpaaDoor.L Go.Proofs.YtfoijdahgkngpaaDoorW.PrintWords Go.Proofs.YtfoijdahgkngpaaDoor.PureLib Go.Proofs.YtfoijdahgkngpaaDoor.LexSpec Go.Proofs.YtfoijdahgkngpaaDoor.LexPure
theorem toks_len : ∀ (m i : Nat) (l : List UInt8), l.length ≤ m → ∀ ts, toks i l = .ok ts → ts.length ≤ l.length
  | m, i, [], _, ts, h => by
    rw [toks_nil] at h
    cases h
    simp
  | 0, i, c :: r, hm, ts, h => by simp at hm
  | m + 1, i, c :: r, hm, ts, h => by
    simp only [List.length_cons] at hm ⊢
    have key : ∀ (i' : Nat) (l' : List UInt8) (t : Tk), l'.length ≤ r.length → (toks i' l').map (t :: ·) = .ok ts → ts.length ≤ r.length + 1 := by
      intro i' l' t hl ht
      cases e : toks i' l' with
      | error j => rw [e] at ht; cases ht
      | ok us =>
        rw [e] at ht
        have := toks_len m i' l' (by omega) us e
        cases ht
        simp only [List.length_cons]
        omega
    cases hb : isBlank c with
    | true =>
      rw [toks_blank i c r hb] at h
      have := toks_len m (i + 1) r (by omega) ts h
      omega
    | false =>
      by_cases h34 : c = 34
      · subst h34
        rw [toks_lit] at h
        cases el : lit r with
        | error j => rw [el] at h; cases h
        | ok q =>
          obtain ⟨t, n⟩ := q
          rw [el] at h
          exact key _ _ _ (by rw [List.length_drop]; omega) h
      · cases hl : letter c with
        | true =>
          rw [toks_word i c r hb h34 hl] at h
          split at h
          · cases h
          · exact key _ _ _ (List.dropWhile_suffix (l := r) letter).length_le h
        | false =>
          rw [toks_sign i c r hb h34 hl] at h
          split at h
          · cases h
          · exact key _ _ _ (Nat.le_refl _) h
theorem split_len (x : ByteArray) : (split x).1.length ≤ 100000 := by
  unfold split
  by_cases h : x.size > 1024
  · rw [if_pos h]; simp
  · rw [if_neg h]
    cases e : toks 0 x.data.toList with
    | error j => simp [resS]
    | ok l =>
      have := toks_len _ 0 _ (Nat.le_refl _) l e
      rw [data_length] at this
      simp only [resS, List.length_map]
      omega
theorem LexerTells : verbatimlaw17_LexerTells.Pure := by
  intro a0 a1 h0 h1
  have hj : ∀ c : Bool, (c = false → a1.size ≤ 3000) → Ev (fun k => verbatimlaw17_LexerTells.j0 k a0 a1 true c) true := by
    intro c hc
    cases c with
    | true => exact ev_some (fun k => by rw [verbatimlaw17_LexerTells.j0, if_pos rfl])
    | false =>
      have h1 := hc rfl
      refine evs (fun k => by rw [verbatimlaw17_LexerTells.j0, if_neg (by simp)]) (ev_bind (ev_Split a0) (ev_bind (ev_rSplit a0) (ev_pos rfl (ev_bind (ev_Same _ (split_len a0)) (ev_pos rfl (ev_pos rfl (ev_pos rfl (ev_bind (ev_Quote a1 (by omega)) (ev_bind (ev_rQuote a1 (by omega)) ?_)))))))))
      exact ev_eq (Ev.now _) (by simp)
  obtain ⟨k, hk⟩ := Ev.rounds (show Ev (fun k => verbatimlaw17_LexerTells.f k a0 a1) true by
    unfold verbatimlaw17_LexerTells.f
    refine ev_bind ev_head (ev_if (fun _ => hj true (by simp)) (fun _ => hj _ (fun h => ?_)))
    have := of_decide_eq_false h
    omega)
  exact ⟨k, hk⟩
end Go.Proofs.YtfoijdahgkngpaaDoor.Pure
