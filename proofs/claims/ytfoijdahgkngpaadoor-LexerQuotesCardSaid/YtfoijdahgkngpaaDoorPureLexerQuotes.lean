/- LexerQuotes: any bytes as a literal are one word, of those bytes; several, with a blank between, are as many, each where it stands. In plain Lean; no condition. -/
import Derived.Test.YtfoijdahgkngpaaDoorLexPure2
import Derived.Test.YtfoijdahgkngpaaDoorLexSpec2
import Derived.Test.YtfoijdahgkngpaaDoorL4
import Derived.Test.YtfoijdahgkngpaaDoorL10
namespace Go.Proofs.YtfoijdahgkngpaaDoor.Pure
set_option linter.unusedVariables false
set_option linter.unusedSimpArgs false
open Go.RowKit Go.Proofs.YtfoijdahgkngpaaDoor.L Go.Proofs.YtfoijdahgkngpaaDoorW.PrintWords Go.Proofs.YtfoijdahgkngpaaDoor.PureLib Go.Proofs.YtfoijdahgkngpaaDoor.LexSpec Go.Proofs.YtfoijdahgkngpaaDoor.LexPure
theorem q_head : Ev (fun k => verbatimlaw17_head.f k) true := Ev.of verbatimlaw17_head.mono (k := 40) (by decide +kernel)
theorem app_list (a b : ByteArray) : (a ++ b).data.toList = a.data.toList ++ b.data.toList := by simp [ByteArray.data_append]
theorem tok_get (l : List Tk) (i : Nat) (h : i < l.length) : rd_T33 (l.map tk) (i : Int) = tk l[i] := by
  show (l.map tk).getD _ _ = _
  simp [List.getD_eq_getElem?_getD, h]
theorem quotes_l1 (x0 : List ByteArray) (hx : x0.length ≤ 100000) (ts : List Tk) (hT : ts.map (fun t => (t.kind, t.text)) = x0.map (fun a => (6, a.data.toList))) : ∀ (d i : Nat), x0.length - i ≤ d → i ≤ x0.length →
    Ev (fun k => verbatimlaw17_LexerQuotes.l1 k x0 true (ts.map fun t => (t.pl : Int)) (ts.map tk) (i : Int)) true
  | d, i, hd, hi => by
    have hl : ts.length = x0.length := by simpa using congrArg List.length hT
    by_cases he : i = x0.length
    · exact ev_some (fun k => by rw [verbatimlaw17_LexerQuotes.l1, if_neg (by omega)])
    · obtain ⟨d, rfl⟩ : ∃ d', d = d' + 1 := ⟨d - 1, by omega⟩
      have hi2 : i < ts.length := by omega
      have ht : (ts[i].kind, ts[i].text) = (6, (x0[i]'(by omega)).data.toList) := by
        have := congrArg (fun l => l[i]?) hT
        simpa [List.getElem?_map, List.getElem?_eq_getElem hi2, List.getElem?_eq_getElem (show i < x0.length by omega)] using this
      injection ht with h1 h2
      refine evs (fun k => ?_) (quotes_l1 x0 hx ts hT d (i + 1) (by omega) (by omega))
      rw [verbatimlaw17_LexerQuotes.l1, if_pos (by omega), if_pos (by omega), if_pos (by rw [List.length_map]; omega), tok_get ts i hi2]
      rw [if_pos (by simp [tk, h1]), if_pos (by rw [rdOf_get _ _ _ (by omega), ByteArray.toList_eq, ByteArray.toList_eq]; simp [tk, h2]), if_pos (by rw [List.length_map]; omega)]
      rw [if_pos (by rw [rd_get _ _ (by rw [List.length_map]; exact hi2)]; simp [tk]), wid (by omega) (by omega), show (i : Int) + 1 = ((i + 1 : Nat) : Int) from by omega]
theorem flat_le : ∀ l : List UInt8, (l.flatMap q1).length ≤ 4 * l.length
  | [] => by simp
  | c :: l => by
    have h1 := q1_len c
    have h2 := flat_le l
    rw [List.flatMap_cons, List.length_append, List.length_cons]
    omega
theorem quotes_l0 (x0 : List ByteArray) (hx : x0.length ≤ 8796093021952) : ∀ (d i : Nat) (q : ByteArray) (ts : List Tk), x0.length - i ≤ d → i ≤ x0.length → Ahead q.data.toList ts → ts.map (fun t => (t.kind, t.text)) = (x0.take i).map (fun a => (6, a.data.toList)) → i ≤ q.size → q.size ≤ 20000 →
    Ev (fun k => verbatimlaw17_LexerQuotes.l0 k x0 true q (ts.map fun t => (t.pl : Int)) (i : Int)) true
  | d, i, q, ts, hd, hi, hA, hT, hq, hq2 => by
    have hl : ts.length = i := by
      have := congrArg List.length hT
      rw [List.length_map, List.length_map, List.length_take] at this
      omega
    have fin : (i = x0.length ∨ q.size > 1024) → Ev (fun k => verbatimlaw17_LexerQuotes.j1 k x0 true q (ts.map fun t => (t.pl : Int)) (i : Int) false) true := by
      intro hf
      have hS := ev_Split q
      refine evs (fun k => by rw [verbatimlaw17_LexerQuotes.j1, if_neg (by simp)]) (ev_bind hS ?_)
      by_cases h1 : q.size > 1024
      · have e : split q = ([], 231, 0) := by unfold LexPure.split; rw [if_pos h1]
        rw [e]
        exact ev_const (fun k => (if_pos (by omega)).trans rfl)
      · have e : split q = (ts.map tk, 0, 0) := by unfold LexPure.split; rw [if_neg h1, hA.all]; rfl
        have hil : i = x0.length := by omega
        rw [hil, List.take_of_length_le (Nat.le_refl _)] at hT
        rw [e]
        refine Ev.congr (fun k => (if_neg (by omega)).trans (if_pos rfl)) (evs (fun k => ?_) (quotes_l1 x0 (by omega) ts hT _ 0 (Nat.le_refl _) (by omega)))
        rw [verbatimlaw17_LexerQuotes.j2, if_neg (by simp; omega)]
        rfl
    by_cases he : i = x0.length
    · exact evs (fun k => by rw [verbatimlaw17_LexerQuotes.l0, if_neg (by omega)]) (fin (Or.inl he))
    · by_cases h1 : q.size > 1024
      · exact evs (fun k => by rw [verbatimlaw17_LexerQuotes.l0, if_pos (by omega), decide_eq_false (by omega)]) (fin (Or.inr h1))
      · obtain ⟨d, rfl⟩ : ∃ d', d = d' + 1 := ⟨d - 1, by omega⟩
        have hix : i < x0.length := by omega
        have hw : wrap64 ((i : Int) + 1) = ((i + 1 : Nat) : Int) := by rw [wid (by omega) (by omega)]; omega
        have hga : rdOf ByteArray.empty x0 (i : Int) = x0[i] := rdOf_get _ _ _ hix
        have hstep : ∀ k, verbatimlaw17_LexerQuotes.l0 (k + 1) x0 true q (ts.map fun t => (t.pl : Int)) (i : Int) = verbatimlaw17_LexerQuotes.j1 k x0 true q (ts.map fun t => (t.pl : Int)) (i : Int) true := fun k => by
          rw [verbatimlaw17_LexerQuotes.l0, if_pos (by omega), decide_eq_true (by omega)]
        refine evs hstep ?_
        by_cases hbig : x0[i].size > 2000
        · by_cases h0 : i = 0
          · exact ev_some (fun k => by rw [verbatimlaw17_LexerQuotes.j1, if_pos rfl, if_neg (by omega), if_pos (by rw [List.length_map]; omega), if_pos (by omega), if_pos (by omega), hga, if_pos (by omega)])
          · exact ev_some (fun k => by rw [verbatimlaw17_LexerQuotes.j1, if_pos rfl, if_pos (by omega), if_pos (by omega), if_pos (by rw [List.length_map]; omega), if_pos (by omega), if_pos (by omega), hga, if_pos (by omega)])
        · have hQ := ev_Quote x0[i] (by omega)
          have hql := quote_len x0[i].data.toList
          have hfl := flat_le x0[i].data.toList
          rw [data_length] at hfl
          have hqs : (⟨(quote x0[i].data.toList).toArray⟩ : ByteArray).size = (quote x0[i].data.toList).length := by rw [← data_length]
          have hTn : ∀ p : Nat, (ts ++ [(⟨6, p, x0[i].data.toList⟩ : Tk)]).map (fun t => (t.kind, t.text)) = (x0.take (i + 1)).map (fun a => (6, a.data.toList)) := by
            intro p
            rw [List.map_append, hT, List.take_succ_eq_append_getElem hix, List.map_append]
            rfl
          by_cases h0 : i = 0
          · have hA2 : Ahead (q ++ (⟨(quote x0[i].data.toList).toArray⟩ : ByteArray)).data.toList (ts ++ [(⟨6, q.data.toList.length, x0[i].data.toList⟩ : Tk)]) := by
              rw [app_list]
              exact hA.add (fun r => by rw [toks_quote]; rfl)
            have ih := quotes_l0 x0 hx d (i + 1) _ _ (by omega) (by omega) hA2 (hTn _) (by rw [ByteArray.size_append, hqs]; omega) (by rw [ByteArray.size_append, hqs]; omega)
            refine evs (fun k => by rw [verbatimlaw17_LexerQuotes.j1, if_pos rfl, if_neg (by omega), if_pos (by rw [List.length_map]; omega), if_pos (by omega), if_pos (by omega), hga, if_neg (by omega)]) (ev_bind hQ (Ev.congr (fun k => ?_) ih))
            rw [if_pos (by rw [hqs]; omega), hw, List.map_append, data_length]
            rfl
          · have hA2 : Ahead ((q ++ (⟨#[32]⟩ : ByteArray)) ++ (⟨(quote x0[i].data.toList).toArray⟩ : ByteArray)).data.toList (ts ++ [(⟨6, q.data.toList.length + 1, x0[i].data.toList⟩ : Tk)]) := by
              rw [app_list, app_list, List.append_assoc]
              refine hA.add (fun r => ?_)
              show toks _ (32 :: (quote _ ++ r)) = _
              rw [toks_sp, toks_quote, List.length_append, show q.data.toList.length + 1 + (quote x0[i].data.toList).length = q.data.toList.length + (([32] : List UInt8).length + (quote x0[i].data.toList).length) from by simp; omega]
              rfl
            have h32 : (⟨#[32]⟩ : ByteArray).size = 1 := rfl
            have ih := quotes_l0 x0 hx d (i + 1) _ _ (by omega) (by omega) hA2 (hTn _) (by rw [ByteArray.size_append, ByteArray.size_append, hqs]; omega) (by rw [ByteArray.size_append, ByteArray.size_append, hqs]; omega)
            refine evs (fun k => by rw [verbatimlaw17_LexerQuotes.j1, if_pos rfl, if_pos (by omega), if_pos (by omega), if_pos (by rw [List.length_map]; omega), if_pos (by omega), if_pos (by omega), hga, if_neg (by omega)]) (ev_bind hQ (Ev.congr (fun k => ?_) ih))
            rw [if_pos (by rw [hqs]; omega), hw, List.map_append, data_length]
            simp only [List.map_cons, List.map_nil, Int.natCast_add]
            rfl
theorem LexerQuotes : verbatimlaw17_LexerQuotes.Pure := by
  intro l0 h0
  obtain ⟨k, hk⟩ := Ev.rounds (show Ev (fun k => verbatimlaw17_LexerQuotes.f k l0) true by
    unfold verbatimlaw17_LexerQuotes.f
    exact ev_bind q_head (quotes_l0 l0 h0.1 l0.length 0 ⟨#[]⟩ [] (by omega) (by omega) Ahead.nil rfl (by omega) (by decide)))
  exact ⟨k, hk⟩
end Go.Proofs.YtfoijdahgkngpaaDoor.Pure
