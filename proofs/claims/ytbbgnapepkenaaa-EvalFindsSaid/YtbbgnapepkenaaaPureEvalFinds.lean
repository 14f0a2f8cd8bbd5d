/- EvalFinds: texts that were laid one behind the other are found, each as early as may be, in plain Lean. -/
import Derived.Test.YtbbgnapepkenaaaEvalFits
import Derived.Test.YtbbgnapepkenaaaEvalPure3
import Derived.Test.YtbbgnapepkenaaaE7
namespace Go.Proofs.Ytbbgnapepkenaaa.Pure
set_option linter.unusedVariables false
set_option linter.unusedSimpArgs false
open Go.RowKit Go.Proofs.Ytbbgnapepkenaaa.E Go.Proofs.YtbbgnapepkenaaaW.PrintWords Go.Proofs.Ytbbgnapepkenaaa.PureLib Go.Proofs.Ytbbgnapepkenaaa.EvalPure
theorem ev_head : Ev (fun k => verbatimlaw20_head.f k) true := Ev.of verbatimlaw20_head.mono (k := 40) (by decide +kernel)
theorem app_data (a b : ByteArray) : (a ++ b).data.toList = a.data.toList ++ b.data.toList := by rw [ByteArray.data_append]; simp
theorem app_size (a b : ByteArray) : (a ++ b).size = a.size + b.size := ByteArray.size_append
theorem ev_Match (t : ByteArray) (ht : t.size < 4294967281) (q : Qy) (hq : GoodQ q) : Ev (fun k => eval_Match.f k q.f0 q.f1 q.f2 t) (mt t 301 q) := ev_bind (f := fun k (b : Bool) => some b) (ev_match t ht 301 (by omega) q hq) (Ev.now _)
/-- Texts stand one behind the other from place a on, each ending where es says. -/
def Placed (t : List UInt8) : Nat → List ByteArray → List Nat → Prop
  | _, [], [] => True
  | a, s :: ss, e :: es => a + s.size ≤ e ∧ e ≤ t.length ∧ s.data.toList.isPrefixOf (t.drop (e - s.size)) = true ∧ Placed t e ss es
  | _, _, _ => False
/-- Places at which texts were found, each ending at es at most. -/
def Found (t : List UInt8) : Nat → List ByteArray → List Nat → List Nat → Prop
  | _, [], [], [] => True
  | a, s :: ss, p :: ps, e :: es => a ≤ p ∧ p + s.size ≤ e ∧ p + s.size ≤ t.length ∧ s.data.toList.isPrefixOf (t.drop p) = true ∧ Found t (p + s.size) ss ps es
  | _, _, _, _ => False
theorem Found.len {t : List UInt8} : ∀ {a : Nat} {xs : List ByteArray} {ps es : List Nat}, Found t a xs ps es → ps.length = xs.length ∧ es.length = xs.length
  | _, [], [], [], _ => ⟨rfl, rfl⟩
  | _, s :: ss, p :: ps, e :: es, h => by
    obtain ⟨h1, h2⟩ := h.2.2.2.2.len
    exact ⟨by simp [h1], by simp [h2]⟩
  | _, [], [], _ :: _, h => h.elim
  | _, [], _ :: _, _, h => h.elim
  | _, _ :: _, [], _, h => h.elim
  | _, _ :: _, _ :: _, [], h => h.elim
theorem ix_at (s l : List UInt8) (j : Nat) (hj : j ≤ l.length) (h : s.isPrefixOf (l.drop j) = true) : ∃ k, ix s l = some k ∧ k ≤ j := by
  obtain ⟨q, hq⟩ := List.isPrefixOf_iff_prefix.1 h
  obtain ⟨k, hk, hl⟩ := ix_first s q (l.take j)
  rw [hq, List.take_append_drop] at hk
  exact ⟨k, hk, by rw [List.length_take] at hl; omega⟩
theorem placed_found (t : List UInt8) : ∀ (xs : List ByteArray) (es : List Nat) (a a' : Nat), Placed t a' xs es → a ≤ a' → ∃ l, find t a xs = some l ∧ Found t a xs l es
  | [], [], a, a', _, _ => ⟨[], rfl, trivial⟩
  | [], _ :: _, _, _, h, _ => h.elim
  | _ :: _, [], _, _, h, _ => h.elim
  | s :: ss, e :: es, a, a', ⟨h1, h2, h3, h4⟩, ha => by
    have hs : s.data.toList.length = s.size := data_length s
    obtain ⟨k, hk, hkj⟩ := ix_at s.data.toList (t.drop a) (e - s.size - a) (by rw [List.length_drop]; omega) (by rw [List.drop_drop, show a + (e - s.size - a) = e - s.size from by omega]; exact h3)
    have hle := ix_le _ _ _ hk
    rw [List.length_drop, hs] at hle
    obtain ⟨l, hl, hf⟩ := placed_found t ss es (a + k + s.size) e h4 (by omega)
    have hp : s.data.toList.isPrefixOf (t.drop (a + k)) = true := by
      have sp := ix_split _ _ _ hk
      have : (t.drop a).drop k = s.data.toList ++ (t.drop a).drop (k + s.data.toList.length) := by
        conv => lhs; rw [sp]
        rw [List.drop_append_of_le_length (by rw [List.length_take, List.length_drop]; omega), List.drop_eq_nil_of_le (by rw [List.length_take]; omega), List.nil_append]
      rw [← List.drop_drop, this, List.isPrefixOf_iff_prefix]
      exact List.prefix_append _ _
    refine ⟨(a + k) :: l, ?_, by omega, by omega, by omega, hp, hf⟩
    rw [find, hk]
    show Option.map _ _ = _
    rw [hl]
    rfl
theorem Placed.more {b s : ByteArray} : ∀ {t : List UInt8} {xs : List ByteArray} {es : List Nat} {a : Nat}, Placed t a xs es → a ≤ t.length →
    Placed (t ++ (b.data.toList ++ s.data.toList)) a (xs ++ [s]) (es ++ [t.length + b.size + s.size])
  | t, [], [], a, _, ha => by
    have hs : s.data.toList.length = s.size := data_length s
    have hb : b.data.toList.length = b.size := data_length b
    refine ⟨by omega, by rw [List.length_append, List.length_append, hs, hb]; omega, ?_, trivial⟩
    rw [show t.length + b.size + s.size - s.size = t.length + b.data.toList.length from by omega, ← List.append_assoc, List.drop_append_of_le_length (by rw [List.length_append]; omega), List.drop_of_length_le (by rw [List.length_append]; omega), List.nil_append, List.isPrefixOf_iff_prefix]
    exact List.prefix_refl _
  | t, x :: xs, e :: es, a, ⟨h1, h2, h3, h4⟩, ha => by
    refine ⟨h1, by rw [List.length_append]; omega, ?_, h4.more h2⟩
    rw [List.drop_append_of_le_length (by omega), List.isPrefixOf_iff_prefix]
    exact List.IsPrefix.trans (List.isPrefixOf_iff_prefix.1 h3) (List.prefix_append _ _)
  | _, [], _ :: _, _, h, _ => h.elim
  | _, _ :: _, [], _, h, _ => h.elim
theorem rd_map (l : List Nat) (i : Nat) (h : i < l.length) : rd (l.map Int.ofNat) (i : Int) = ((l[i] : Nat) : Int) := by
  rw [rd_get _ _ (by rw [List.length_map]; exact h)]
  simp
theorem l1_nums (i a p e m n : Nat) (hi : i < 1000) (f1 : a ≤ p) (f2 : p + m ≤ e) (f3 : p + m ≤ n) (hT : n ≤ 100000) : wrap64 ((p : Int) + (m : Int)) = ((p + m : Nat) : Int) ∧ ¬ (p : Int) < (a : Int) ∧ ¬ ((p + m : Nat) : Int) > (e : Int) ∧ (p : Int) ≤ ((p + m : Nat) : Int) ∧ ((p + m : Nat) : Int) ≤ (n : Int) ∧ wrap64 ((i : Int) + 1) = ((i + 1 : Nat) : Int) :=
  ⟨by rw [wid (by omega) (by omega)]; omega, by omega, by omega, by omega, by omega, wnat i (by omega)⟩
theorem l1_step (T : ByteArray) (xs : List ByteArray) (ps' es' : List Int) (i a p e : Nat) (s : ByteArray) (n : Nat) (hn : T.size = n) (hi : i < 1000) (hi1 : i < ps'.length) (hi2 : i < xs.length) (hi3 : i < es'.length) (hp : rd ps' (i : Int) = (p : Int)) (he : rd es' (i : Int) = (e : Int)) (hs : rdOf ByteArray.empty xs (i : Int) = s)
    (m : Nat) (hm : s.size = m) (f1 : a ≤ p) (f2 : p + m ≤ e) (f3 : p + m ≤ n) (hT : n ≤ 100000) (hx' : (T.extract p (p + m)).toList = s.toList) (k : Nat) :
    verbatimlaw20_EvalFinds.l1 (k + 1) xs true T es' ps' (a : Int) (i : Int) = verbatimlaw20_EvalFinds.l1 k xs true T es' ps' ((p + m : Nat) : Int) ((i + 1 : Nat) : Int) := by
  obtain ⟨hw, g4, g5, g6, g7, g8⟩ := l1_nums i a p e m n hi f1 f2 f3 hT
  have g1 : (i : Int) < (ps'.length : Int) := Int.ofNat_lt.2 hi1
  have g2 : (i : Int) < (xs.length : Int) := Int.ofNat_lt.2 hi2
  have g3 : (i : Int) < (es'.length : Int) := Int.ofNat_lt.2 hi3
  rw [verbatimlaw20_EvalFinds.l1, if_pos g1, if_pos (Int.natCast_nonneg i), hp, he, hs, hm, hw, if_neg g4, if_pos g2, if_pos g3, if_neg g5, if_pos (Int.natCast_nonneg p), if_pos g6, hn, if_pos g7]
  rw [show ((p : Int)).toNat = p from rfl, show (((p + m : Nat) : Int)).toNat = p + m from rfl, if_pos hx', g8]
theorem ev_l1 (T : ByteArray) (hT : T.size ≤ 100000) (xs : List ByteArray) (hx : xs.length ≤ 40) (ps es : List Nat) (hps : ps.length = xs.length) (hes : es.length = xs.length) (hM : Ev (fun k => eval_Match.f k 3 xs [] T) true) :
    ∀ (n i a : Nat), i + n = xs.length → a ≤ 100000 → Found T.data.toList a (xs.drop i) (ps.drop i) (es.drop i) → Ev (fun k => verbatimlaw20_EvalFinds.l1 k xs true T (es.map Int.ofNat) (ps.map Int.ofNat) (a : Int) (i : Int)) true
  | 0, i, a, hi, ha, _ => by
    refine evs (fun k => by
      rw [verbatimlaw20_EvalFinds.l1, if_neg (by rw [List.length_map]; omega), if_pos rfl]) (ev_bind hM (Ev.now _))
  | n + 1, i, a, hi, ha, hf => by
    have h1 : i < xs.length := by omega
    have h2 : i < ps.length := by omega
    have h3 : i < es.length := by omega
    rw [List.drop_eq_getElem_cons h1, List.drop_eq_getElem_cons h2, List.drop_eq_getElem_cons h3] at hf
    obtain ⟨f1, f2, f3, f4, f5⟩ := hf
    rw [data_length] at f3
    have ih := ev_l1 T hT xs hx ps es hps hes hM n (i + 1) (ps[i] + xs[i].size) (by omega) (by omega) f5
    have hx' : (T.extract ps[i] (ps[i] + xs[i].size)).toList = xs[i].toList := by
      rw [toList_eq, extract_data _ _ _ f3]
      rw [prefix_take, decide_eq_true_eq, data_length] at f4
      rw [Nat.add_sub_cancel_left]
      exact f4
    have g1 : i < (ps.map Int.ofNat).length := by rw [List.length_map]; exact h2
    have g3 : i < (es.map Int.ofNat).length := by rw [List.length_map]; exact h3
    exact evs (fun k => l1_step T xs _ _ i a ps[i] es[i] xs[i] T.size rfl (by omega) g1 h1 g3 (rd_map ps i h2) (rd_map es i h3) (rdOf_get _ _ _ h1) xs[i].size rfl f1 f2 f3 hT hx' k) ih
theorem ev_l0 (xs bs : List ByteArray) (hx : xs.length ≤ 40) (hxs : ∀ x ∈ xs, x.size ≤ 140737488351232) (hb : bs.length ≤ 60) : ∀ (n i : Nat) (T : ByteArray) (es : List Nat), i + n = xs.length → T.size ≤ 400 * i → es.length = i → Placed T.data.toList 0 (xs.take i) es →
    Ev (fun k => verbatimlaw20_EvalFinds.l0 k xs bs true T (es.map Int.ofNat) (i : Int)) true
  | 0, i, T, es, hi, hT, he, hp => by
    have h40 : i ≤ 40 := by omega
    rw [List.take_of_length_le (by omega)] at hp
    obtain ⟨l, hl, hf⟩ := placed_found _ _ _ 0 0 hp (Nat.le_refl _)
    obtain ⟨hl1, hl2⟩ := hf.len
    have hfd := ev_find T (by omega) xs (by omega)
    rw [hl] at hfd
    have hM := ev_Match T (by omega) ⟨3, xs, []⟩ (.mk (show (Lit.int .i64 3).wf = true by decide) ⟨by show xs.length ≤ _; omega, hxs⟩ (by simp) (fun x hx => by cases hx))
    have hm : mt T 301 ⟨3, xs, []⟩ = true := by
      show (find T.data.toList 0 xs).isSome = true
      rw [hl]
      rfl
    rw [hm] at hM
    have h1 := ev_l1 T (by omega) xs hx l es hl1 hl2 hM xs.length 0 0 (by omega) (by omega) (by rw [List.drop_zero, List.drop_zero, List.drop_zero]; exact hf)
    have h3 : Ev (fun k => verbatimlaw20_EvalFinds.j3 k xs true T (es.map Int.ofNat) (l.map Int.ofNat) (((l.map Int.ofNat).length : Int) != (xs.length : Int))) true := by
      have : (((l.map Int.ofNat).length : Int) != (xs.length : Int)) = false := by rw [List.length_map, hl1]; simp
      rw [this]
      exact evs (fun k => by rw [verbatimlaw20_EvalFinds.j3, if_neg (by simp)]; rfl) h1
    exact evs (fun k => by rw [verbatimlaw20_EvalFinds.l0, if_neg (by omega)]) (ev_bind hfd (ev_pos rfl h3))
  | n + 1, i, T, es, hi, hT, he, hp => by
    have hil : i < xs.length := by omega
    have ht : xs.take (i + 1) = xs.take i ++ [xs[i]] := List.take_succ_eq_append_getElem hil
    have hs0 : (⟨#[]⟩ : ByteArray).data.toList = [] := rfl
    have hlen : T.data.toList.length = T.size := data_length T
    have hsz := hxs xs[i] (List.getElem_mem _)
    have key : ∀ b : ByteArray, b.size < 200 → xs[i].size ≤ 200 → Ev (fun k => verbatimlaw20_EvalFinds.l0 k xs bs true ((T ++ b) ++ xs[i]) (es.map Int.ofNat ++ [(T.size : Int) + (b.size : Int) + (xs[i].size : Int)]) (((i + 1 : Nat)) : Int)) true := by
      intro b hb1 hs1
      have hm := hp.more (b := b) (s := xs[i]) (Nat.zero_le _)
      rw [← ht, hlen] at hm
      have := ev_l0 xs bs hx hxs hb n (i + 1) ((T ++ b) ++ xs[i]) (es ++ [T.size + b.size + xs[i].size]) (by omega) (by rw [app_size, app_size]; omega) (by simp [he]) (by rw [app_data, app_data, List.append_assoc]; exact hm)
      rw [List.map_append] at this
      exact this
    have hfalse : Ev (fun k => verbatimlaw20_EvalFinds.j2 k xs bs true T (es.map Int.ofNat) (i : Int) false) true := by
      by_cases h2 : xs[i].size > 200
      · exact ev_some (fun k => by
          rw [verbatimlaw20_EvalFinds.j2, if_neg (by simp), if_pos (by omega), if_pos (by omega), rdOf_get _ _ _ hil, if_pos (by omega)])
      · have hk := key (⟨#[]⟩ : ByteArray) (by decide) (by omega)
        have e1 : T ++ (⟨#[]⟩ : ByteArray) = T := Go.WideShapes.bytes_inj (by rw [app_data, hs0, List.append_nil])
        rw [e1] at hk
        have e2 : (T.size : Int) + ((⟨#[]⟩ : ByteArray).size : Int) + (xs[i].size : Int) = (T.size : Int) + (xs[i].size : Int) := by rw [show ((⟨#[]⟩ : ByteArray).size : Int) = 0 from rfl, Int.add_zero]
        rw [e2] at hk
        refine evs (fun k => ?_) hk
        rw [verbatimlaw20_EvalFinds.j2, if_neg (by simp), if_pos (by omega), if_pos (by omega), rdOf_get _ _ _ hil, if_neg (by omega), if_pos (by omega), if_pos (by rw [List.length_map]; omega), wnat i (by omega)]
    by_cases hib : i < bs.length
    · refine evs (f := fun k => verbatimlaw20_EvalFinds.j2 k xs bs true T (es.map Int.ofNat) (i : Int) (decide (((bs[i]).size : Int) < 200))) (fun k => by
        rw [verbatimlaw20_EvalFinds.l0, if_pos (by omega), if_pos (by omega), if_pos (by omega), rdOf_get _ _ _ hib]) ?_
      by_cases hb2 : bs[i].size < 200
      · rw [decide_eq_true (show ((bs[i]).size : Int) < 200 by omega)]
        by_cases h2 : xs[i].size > 200
        · exact ev_some (fun k => by
            rw [verbatimlaw20_EvalFinds.j2, if_pos rfl, if_pos (by omega), if_pos (by omega), rdOf_get _ _ _ hib, rdOf_get _ _ _ hil, if_pos (by omega), if_pos (by omega), if_pos (by omega)])
        · refine evs (fun k => ?_) (key bs[i] hb2 (by omega))
          rw [verbatimlaw20_EvalFinds.j2, if_pos rfl, if_pos (by omega), if_pos (by omega), rdOf_get _ _ _ hib, rdOf_get _ _ _ hil, if_pos (by omega), if_pos (by omega), if_neg (by omega), if_pos (by rw [app_size]; omega), if_pos (by rw [List.length_map]; omega), wnat i (by omega)]
      · rw [decide_eq_false (show ¬ ((bs[i]).size : Int) < 200 by omega)]
        exact hfalse
    · exact evs (fun k => by rw [verbatimlaw20_EvalFinds.l0, if_pos (by omega), if_neg (by omega)]) hfalse
theorem EvalFinds : verbatimlaw20_EvalFinds.Pure := by
  intro l0 l1 h0 h1
  have hj : ∀ c : Bool, (c = false → l0.length ≤ 40 ∧ l1.length ≤ 60) → Ev (fun k => verbatimlaw20_EvalFinds.j0 k l0 l1 true c) true := by
    intro c hc
    cases c with
    | true => exact ev_some (fun k => by rw [verbatimlaw20_EvalFinds.j0, if_pos rfl])
    | false =>
      obtain ⟨b0, b1⟩ := hc rfl
      have := ev_l0 l0 l1 b0 h0.2 b1 l0.length 0 (⟨#[]⟩ : ByteArray) [] (by omega) (by decide) rfl trivial
      exact evs (fun k => by rw [verbatimlaw20_EvalFinds.j0, if_neg (by simp)]; rfl) this
  obtain ⟨k, hk⟩ := Ev.rounds (show Ev (fun k => verbatimlaw20_EvalFinds.f k l0 l1) true by
    unfold verbatimlaw20_EvalFinds.f
    refine ev_bind ev_head (ev_if (fun _ => hj true (by simp)) (fun h => hj _ (fun h' => ?_)))
    have := of_decide_eq_false h'
    omega)
  exact ⟨k, hk⟩
end Go.Proofs.Ytbbgnapepkenaaa.Pure
