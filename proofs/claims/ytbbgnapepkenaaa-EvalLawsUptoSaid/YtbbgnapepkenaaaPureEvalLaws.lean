/- EvalLaws: NOT turns, AND is both, OR is one; a head is a text that stands at the beginning; a row of one is that text. In plain Lean. Condition: the two texts have 1048576 bytes at most (the second form's bound). -/
import Derived.Test.YtbbgnapepkenaaaEvalLawsLib
import Derived.Test.YtbbgnapepkenaaaE7
import Derived.Test.YtbbgnapepkenaaaE4
import Derived.Test.YtbbgnapepkenaaaE8
namespace Go.Proofs.Ytbbgnapepkenaaa.Pure
set_option linter.unusedVariables false
set_option linter.unusedSimpArgs false
open Go.RowKit Go.Proofs.Ytbbgnapepkenaaa.E Go.Proofs.YtbbgnapepkenaaaW.PrintWords Go.Proofs.Ytbbgnapepkenaaa.PureLib Go.Proofs.Ytbbgnapepkenaaa.EvalPure
theorem ev_head : Ev (fun k => verbatimlaw20_head.f k) true := Ev.of verbatimlaw20_head.mono (k := 40) (by decide +kernel)
theorem ev_Match (t : ByteArray) (ht : t.size < 4294967281) (q : Qy) (hq : GoodQ q) : Ev (fun k => eval_Match.f k q.f0 q.f1 q.f2 t) (mt t 301 q) := ev_bind (f := fun k (b : Bool) => some b) (ev_match t ht 301 (by omega) q hq) (Ev.now _)
/-- Does a kid lie deeper than a number? -/
def dps : Nat → Qy → Bool
  | 0, _ => true
  | d + 1, q => q.f2.any (dps d)
theorem ev_deep_l0 (a1 : Int) (kd : Int) (tx : List ByteArray) (l : List Qy) (hl : l.length ≤ 140737488351232) (P : Qy → Bool) (ih : ∀ x ∈ l, Ev (fun k => verbatimlaw20_deep.f k x.f0 x.f1 x.f2 (wrap64 (a1 - 1))) (P x)) : ∀ (n i : Nat), i + n = l.length →
    Ev (fun k => verbatimlaw20_deep.l0 k a1 (i : Int) kd tx l) ((l.drop i).any P)
  | 0, i, hi => by
    refine ev_some (fun k => ?_)
    rw [verbatimlaw20_deep.l0, if_neg (by omega), List.drop_of_length_le (by omega)]
    rfl
  | n + 1, i, hi => by
    have hil : i < l.length := by omega
    have hd : l.drop i = l[i] :: l.drop (i + 1) := List.drop_eq_getElem_cons hil
    have hg : kid l (i : Int) = l[i] := kid_get l i hil
    have hx := ih l[i] (List.getElem_mem hil)
    rw [hd, List.any_cons]
    refine evs (fun k => by rw [verbatimlaw20_deep.l0, if_pos (by omega), if_pos (by omega), show rd_T40 l (i : Int) = l[i] from hg]) (ev_bind hx ?_)
    cases hp : P l[i] with
    | true => exact ev_const (fun k => by rw [if_pos rfl, Bool.true_or])
    | false =>
      refine Ev.congr (fun k => ?_) (ev_deep_l0 a1 kd tx l hl P ih n (i + 1) (by omega))
      rw [if_neg (by simp), wnat i (by omega)]
theorem ev_deep : ∀ (d : Nat), d ≤ 1000 → ∀ q : Qy, GoodQ q → Ev (fun k => verbatimlaw20_deep.f k q.f0 q.f1 q.f2 ((d : Int) - 1)) (dps d q)
  | 0, hd, q, hq => ev_some (fun k => by rw [verbatimlaw20_deep.f, if_pos (by omega)]; rfl)
  | d + 1, hd, q, hq => by
    have h := ev_deep_l0 (((d + 1 : Nat) : Int) - 1) q.f0 q.f1 q.f2 (good_kids hq) (dps d) (fun x hx => by
      rw [show wrap64 (((d + 1 : Nat) : Int) - 1 - 1) = (d : Int) - 1 from by rw [wid (by omega) (by omega)]; omega]
      exact ev_deep d (by omega) x (good_kid hq hx)) q.f2.length 0 (by omega)
    rw [List.drop_zero] at h
    refine evs (fun k => ?_) h
    rw [verbatimlaw20_deep.f, if_neg (by omega)]
    rfl
theorem all_same {α : Type} {f g : α → Bool} : ∀ {l : List α}, (∀ x ∈ l, f x = g x) → l.all f = l.all g
  | [], _ => rfl
  | x :: l, h => by rw [List.all_cons, List.all_cons, h x (List.mem_cons_self ..), all_same (fun y hy => h y (List.mem_cons_of_mem _ hy))]
theorem any_same {α : Type} {f g : α → Bool} : ∀ {l : List α}, (∀ x ∈ l, f x = g x) → l.any f = l.any g
  | [], _ => rfl
  | x :: l, h => by rw [List.any_cons, List.any_cons, h x (List.mem_cons_self ..), any_same (fun y hy => h y (List.mem_cons_of_mem _ hy))]
/-- Where no kid lies so deep, how deep they may lie says nothing. -/
theorem mt_deep (t : ByteArray) : ∀ (n : Nat) (q : Qy), dps n q = false → ∀ d e, n ≤ d → n ≤ e → mt t d q = mt t e q
  | 0, q, h, d, e, hd, he => by cases h
  | n + 1, q, h, d, e, hd, he => by
    obtain ⟨d, rfl⟩ : ∃ d', d = d' + 1 := ⟨d - 1, by omega⟩
    obtain ⟨e, rfl⟩ : ∃ e', e = e' + 1 := ⟨e - 1, by omega⟩
    have hk : ∀ x ∈ q.f2, mt t d x = mt t e x := fun x hx => by
      refine mt_deep t n x ?_ d e (by omega) (by omega)
      have : q.f2.any (dps n) = false := h
      rw [List.any_eq_false] at this
      exact Bool.eq_false_iff.2 (this x hx)
    rw [EvalPure.mt, EvalPure.mt, all_same hk, any_same hk]
    cases hf : q.f2 with
    | nil => rfl
    | cons x r =>
      have e := hk x (by rw [hf]; exact List.mem_cons_self ..)
      simp only [e]
/-- Kinds, and kids, of what the law builds. -/
theorem good_two (kd : Int) (hk : (Lit.int .i64 kd).wf = true) {a b : Qy} (ha : GoodQ a) (hb : GoodQ b) : GoodQ ⟨kd, [], [a, b]⟩ :=
  .mk hk ⟨by simp, fun x hx => by cases hx⟩ (by simp) (fun x hx => by
    rcases List.mem_cons.1 hx with rfl | hx
    · exact ha
    · rw [List.mem_singleton.1 hx]; exact hb)
theorem good_no {a : Qy} (ha : GoodQ a) : GoodQ ⟨6, [], [a]⟩ :=
  .mk (show (Lit.int .i64 6).wf = true by decide) ⟨by simp, fun x hx => by cases hx⟩ (by simp) (fun x hx => by rw [List.mem_singleton.1 hx]; exact ha)
theorem good_mk (kd : Int) (hk : (Lit.int .i64 kd).wf = true) (s : ByteArray) (hs : s.size ≤ 140737488351232) : GoodQ ⟨kd, [s], []⟩ :=
  .mk hk ⟨by simp, fun x hx => by rw [List.mem_singleton.1 hx]; exact hs⟩ (by simp) (fun x hx => by cases hx)
theorem ix_app (s : List UInt8) : ∀ a : List UInt8, (ix s (a ++ s)).isSome = true
  | [] => by
    rw [List.nil_append, ix_prefix s s (by simp)]
    rfl
  | c :: a => by
    by_cases h : s.isPrefixOf (c :: (a ++ s)) = true
    · rw [List.cons_append, ix_prefix _ _ h]
      rfl
    · rw [List.cons_append, ix_not _ _ _ (Bool.eq_false_iff.2 h), Option.isSome_map]
      exact ix_app s a
theorem EvalLaws (x0 x1 : Qy) (a2 a3 : ByteArray) (h2 : a2.size ≤ 1048576) (h3 : a3.size ≤ 1048576) (g0 : GoodQ x0) (g1 : GoodQ x1) :
    ∃ k, verbatimlaw20_EvalLaws.f k x0.f0 x0.f1 x0.f2 x1.f0 x1.f1 x1.f2 a2 a3 = some true := by
  have ht : a3.size < 4294967281 := by omega
  have ex0 : (⟨x0.f0, x0.f1, x0.f2⟩ : Qy) = x0 := by cases x0; rfl
  have ex1 : (⟨x1.f0, x1.f1, x1.f2⟩ : Qy) = x1 := by cases x1; rfl
  have hj : ∀ c : Bool, (c = false → dps 251 x0 = false ∧ dps 251 x1 = false) → Ev (fun k => verbatimlaw20_EvalLaws.j0 k a2 a3 true c x0.f0 x0.f1 x0.f2 x1.f0 x1.f1 x1.f2) true := by
    intro c hc
    cases c with
    | true => exact ev_some (fun k => by rw [verbatimlaw20_EvalLaws.j0, if_pos rfl])
    | false =>
      obtain ⟨e0, e1⟩ := hc rfl
      have s0 : ∀ d, 251 ≤ d → mt a3 d x0 = mt a3 301 x0 := fun d hd => mt_deep a3 251 x0 e0 d 301 hd (by omega)
      have s1 : ∀ d, 251 ≤ d → mt a3 d x1 = mt a3 301 x1 := fun d hd => mt_deep a3 251 x1 e1 d 301 hd (by omega)
      generalize hX : mt a3 301 x0 = X at s0
      generalize hY : mt a3 301 x1 = Y at s1
      have m0 := ev_Match a3 ht x0 g0
      have m1 := ev_Match a3 ht x1 g1
      rw [hX] at m0
      rw [hY] at m1
      have gn0 := good_no g0
      have gn1 := good_no g1
      have gb := good_two 4 (by decide) g0 g1
      have mno0 := ev_Match a3 ht ⟨6, [], [x0]⟩ gn0
      have eno0 : mt a3 301 ⟨6, [], [x0]⟩ = !X := by
        show (!mt a3 300 x0) = !X
        rw [s0 300 (by omega)]
      rw [eno0] at mno0
      have mboth := ev_Match a3 ht ⟨4, [], [x0, x1]⟩ gb
      have eboth : mt a3 301 ⟨4, [], [x0, x1]⟩ = (X && Y) := by
        show ([x0, x1].all (mt a3 300)) = (X && Y)
        simp [s0 300 (by omega), s1 300 (by omega)]
      rw [eboth] at mboth
      have meither := ev_Match a3 ht ⟨5, [], [⟨6, [], [x0]⟩, ⟨6, [], [x1]⟩]⟩ (good_two 5 (by decide) gn0 gn1)
      have eeither : mt a3 301 ⟨5, [], [⟨6, [], [x0]⟩, ⟨6, [], [x1]⟩]⟩ = (!X || !Y) := by
        show (!mt a3 299 x0 || (!mt a3 299 x1 || false)) = (!X || !Y)
        rw [s0 299 (by omega), s1 299 (by omega), Bool.or_false]
      rw [eeither] at meither
      have mnb := ev_Match a3 ht ⟨6, [], [⟨4, [], [x0, x1]⟩]⟩ (good_no gb)
      have enb : mt a3 301 ⟨6, [], [⟨4, [], [x0, x1]⟩]⟩ = (!X || !Y) := by
        show (!([x0, x1].all (mt a3 299))) = (!X || !Y)
        simp [s0 299 (by omega), s1 299 (by omega), Bool.not_and]
      rw [enb] at mnb
      have hs2 : a2.size ≤ 140737488351232 := by omega
      have gh := good_mk 2 (by decide) a2 hs2
      have gi := good_mk 1 (by decide) a2 hs2
      have gr := good_mk 3 (by decide) a2 hs2
      have mfirst := ev_Match a3 ht ⟨2, [a2], []⟩ gh
      have min_ := ev_Match a3 ht ⟨1, [a2], []⟩ gi
      have mrow := ev_Match a3 ht ⟨3, [a2], []⟩ gr
      have efirst : mt a3 301 ⟨2, [a2], []⟩ = a2.data.toList.isPrefixOf a3.data.toList := rfl
      have ein : mt a3 301 ⟨1, [a2], []⟩ = (ix a2.data.toList a3.data.toList).isSome := rfl
      have erow : mt a3 301 ⟨3, [a2], []⟩ = (ix a2.data.toList a3.data.toList).isSome := by
        show (find a3.data.toList 0 [a2]).isSome = _
        rw [find, List.drop_zero]
        cases ix a2.data.toList a3.data.toList <;> rfl
      have hpi : a2.data.toList.isPrefixOf a3.data.toList = true → (ix a2.data.toList a3.data.toList).isSome = true := fun h => by rw [ix_prefix _ _ h]; rfl
      rw [efirst] at mfirst
      rw [ein] at min_
      rw [erow] at mrow
      generalize (ix a2.data.toList a3.data.toList).isSome = I at min_ mrow hpi
      generalize a2.data.toList.isPrefixOf a3.data.toList = Fh at mfirst hpi
      have msa := ev_Match (a2 ++ a3) (by rw [ByteArray.size_append]; omega) ⟨2, [a2], []⟩ gh
      have esa : mt (a2 ++ a3) 301 ⟨2, [a2], []⟩ = true := by
        show a2.data.toList.isPrefixOf (a2 ++ a3).data.toList = true
        rw [ByteArray.data_append]
        simp
      rw [esa] at msa
      have mas := ev_Match (a3 ++ a2) (by rw [ByteArray.size_append]; omega) ⟨1, [a2], []⟩ gi
      have eas : mt (a3 ++ a2) 301 ⟨1, [a2], []⟩ = true := by
        show (ix a2.data.toList (a3 ++ a2).data.toList).isSome = true
        rw [ByteArray.data_append, Array.toList_append]
        exact ix_app _ _
      rw [eas] at mas
      have hj2 : Ev (fun k => verbatimlaw20_EvalLaws.j2 k a2 a3 true false 4 [x0, x1] 5 [⟨6, [], [x0]⟩, ⟨6, [], [x1]⟩] 2 [a2] 1 [a2]) true := by
        refine evs (fun k => by rw [verbatimlaw20_EvalLaws.j2, if_neg (by simp), if_pos rfl, if_pos (by omega)]) ?_
        refine ev_bind msa ?_
        refine ev_pos rfl ?_
        refine ev_pos (by omega) ?_
        refine ev_bind mas ?_
        refine ev_pos rfl ?_
        simp only [Option.bind_some, verbatimlaw20_no.f]
        refine ev_bind mnb ?_
        refine ev_bind meither ?_
        exact ev_eq (Ev.now _) (by simp)
      have hj1 : Ev (fun k => verbatimlaw20_EvalLaws.j1 k a2 a3 true false 4 [x0, x1] 5 [⟨6, [], [x0]⟩, ⟨6, [], [x1]⟩] 2 [a2] 1 [a2] 3 [a2]) true := by
        refine evs (fun k => by rw [verbatimlaw20_EvalLaws.j1, if_neg Bool.false_ne_true]) ?_
        refine ev_bind mrow ?_
        refine ev_bind min_ ?_
        refine ev_neg (by cases I <;> decide) ?_
        refine ev_bind mfirst ?_
        cases Fh with
        | true =>
          refine ev_pos rfl ?_
          refine ev_bind min_ ?_
          rw [hpi rfl]
          exact hj2
        | false => exact ev_neg Bool.false_ne_true hj2
      refine evs (fun k => by rw [verbatimlaw20_EvalLaws.j0, if_neg Bool.false_ne_true]) ?_
      refine ev_bind m0 ?_
      refine ev_bind m1 ?_
      simp only [Option.bind_some, verbatimlaw20_no.f, ex0, ex1]
      refine ev_bind mno0 ?_
      refine ev_neg (by cases X <;> decide) ?_
      refine ev_bind mboth ?_
      cases X with
      | true =>
        refine ev_pos rfl ?_
        refine ev_neg (by cases Y <;> decide) ?_
        refine ev_bind meither ?_
        have : ((!true || !Y) != (!Y)) = false := by cases Y <;> rfl
        rw [this]
        exact hj1
      | false =>
        refine ev_neg (by decide) ?_
        refine ev_neg (by cases Y <;> decide) ?_
        refine ev_bind meither ?_
        exact hj1
  have hd : ∀ q : Qy, GoodQ q → Ev (fun k => verbatimlaw20_deep.f k q.f0 q.f1 q.f2 250) (dps 251 q) := fun q hq => ev_deep 251 (by omega) q hq
  obtain ⟨gr0, hgr0⟩ := ev_great 2 (by omega) x0 g0
  obtain ⟨gr1, hgr1⟩ := ev_great 2 (by omega) x1 g1
  obtain ⟨k, hk⟩ := Ev.rounds (show Ev (fun k => verbatimlaw20_EvalLaws.f k x0.f0 x0.f1 x0.f2 x1.f0 x1.f1 x1.f2 a2 a3) true by
    unfold verbatimlaw20_EvalLaws.f
    refine ev_bind ev_head ?_
    refine ev_bind hgr0 ?_
    refine ev_if (fun _ => hj true (by simp)) (fun _ => ?_)
    refine ev_bind hgr1 ?_
    refine ev_if (fun _ => hj true (by simp)) (fun _ => ?_)
    refine ev_if (fun _ => hj true (by simp)) (fun _ => ?_)
    refine ev_bind (hd x0 g0) ?_
    refine ev_if (fun _ => hj true (by simp)) (fun h => ?_)
    refine ev_bind (hd x1 g1) ?_
    exact hj _ (fun h' => ⟨Bool.eq_false_iff.2 h, h'⟩))
  exact ⟨k, hk⟩
end Go.Proofs.Ytbbgnapepkenaaa.Pure
