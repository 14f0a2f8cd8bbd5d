/- LexerOrder: words rise by where they begin; what cannot be stands within the query, or at its end; of a beginning of a query no later word is told. In plain Lean; no condition. -/
import Derived.Test.YtfoijdahgkngpaaDoorLexPure2
import Derived.Test.YtfoijdahgkngpaaDoorLexSpec2
import Derived.Test.YtfoijdahgkngpaaDoorL4
import Derived.Test.YtfoijdahgkngpaaDoorL11
namespace Go.Proofs.YtfoijdahgkngpaaDoor.Pure
set_option linter.unusedVariables false
set_option linter.unusedSimpArgs false
open Go.RowKit Go.Proofs.YtfoijdahgkngpaaDoor.L Go.Proofs.YtfoijdahgkngpaaDoorW.PrintWords Go.Proofs.YtfoijdahgkngpaaDoor.PureLib Go.Proofs.YtfoijdahgkngpaaDoor.LexSpec Go.Proofs.YtfoijdahgkngpaaDoor.LexPure
theorem q_head : Ev (fun k => verbatimlaw17_head.f k) true := Ev.of verbatimlaw17_head.mono (k := 40) (by decide +kernel)
theorem tok_get (l : List Tk) (i : Nat) (h : i < l.length) : rd_T33 (l.map tk) (i : Int) = tk l[i] := by
  show (l.map tk).getD _ _ = _
  simp [List.getD_eq_getElem?_getD, h]
theorem order_l1 (ts us : List Tk) (hts : ts.length ≤ 100000) (e e' : Int) (hu : us.length ≤ 100000) (hp : e' = 0 → e = 0 → us.map Tk.pl <+: ts.map Tk.pl) : ∀ (d i : Nat), us.length - i ≤ d → i ≤ us.length →
    Ev (fun k => verbatimlaw17_LexerOrder.l1 k true (ts.map tk) e (us.map tk) e' (i : Int)) true
  | d, i, hd, hi => by
    have stop : ∀ b, b = false → Ev (fun k => verbatimlaw17_LexerOrder.j3 k true (ts.map tk) e (us.map tk) e' (i : Int) b) true := fun b hb => by
      subst hb
      exact ev_some (fun k => by rw [verbatimlaw17_LexerOrder.j3, if_neg (by simp)])
    by_cases he : i = us.length
    · exact evs (fun k => by rw [verbatimlaw17_LexerOrder.l1, if_neg (by rw [List.length_map]; omega)]) (stop _ rfl)
    · have hlt : ((i : Nat) : Int) < ((us.map tk).length : Int) := by rw [List.length_map]; omega
      by_cases h1 : e' = 0
      · by_cases h2 : e = 0
        · obtain ⟨d, rfl⟩ : ∃ d', d = d' + 1 := ⟨d - 1, by omega⟩
          have hpre := hp h1 h2
          have hl := hpre.length_le
          rw [List.length_map, List.length_map] at hl
          have hu2 : i < us.length := by omega
          have ht2 : i < ts.length := by omega
          have hpl : ts[i].pl = us[i].pl := by
            obtain ⟨z, hz⟩ := hpre
            have := congrArg (fun l => l[i]?) hz
            rw [List.getElem?_append_left (by rw [List.length_map]; exact hu2), List.getElem?_map, List.getElem?_map, List.getElem?_eq_getElem hu2, List.getElem?_eq_getElem ht2] at this
            simpa using this.symm
          refine evs (fun k => by rw [verbatimlaw17_LexerOrder.l1, if_pos hlt, if_pos h1, h2]) (evs (fun k => ?_) (order_l1 ts us hts e e' hu hp d (i + 1) (by omega) (by omega)))
          rw [show ((0 : Int) == 0) = true from rfl, verbatimlaw17_LexerOrder.j3, if_pos rfl, if_neg (by rw [List.length_map]; omega), if_pos (by omega), if_pos (by rw [List.length_map]; omega), if_pos hlt, tok_get ts i ht2, tok_get us i hu2, if_pos (by simp [tk, hpl]), wid (by omega) (by omega), show (i : Int) + 1 = ((i + 1 : Nat) : Int) from by omega, h2]
        · exact evs (fun k => by rw [verbatimlaw17_LexerOrder.l1, if_pos hlt, if_pos h1]) (stop _ (beq_eq_false_iff_ne.2 h2))
      · exact evs (fun k => by rw [verbatimlaw17_LexerOrder.l1, if_pos hlt, if_neg h1]) (stop _ rfl)
theorem order_l0 (x : ByteArray) (hx : x.size ≤ 3000) (a1 : Int) (ha0 : 0 ≤ a1) (ha1 : a1 ≤ 65535) (ts : List Tk) (e : Int) (hl : ts.length ≤ 100000)
    (hf : (∀ t ∈ ts, 0 ≤ t.pl ∧ t.pl < 0 + x.data.toList.length ∧ 1 ≤ t.kind ∧ t.kind ≤ 9 ∧ (t.kind ≠ 6 → t.text = [])) ∧ ts.Pairwise (fun a b => a.pl < b.pl))
    (he : e = 0 → x.size ≤ 1024 ∧ toks 0 x.data.toList = .ok ts) : ∀ (d i : Nat), ts.length - i ≤ d → i ≤ ts.length →
    Ev (fun k => verbatimlaw17_LexerOrder.l0 k x a1 true (ts.map tk) e (i : Int)) true
  | d, i, hd, hi => by
    by_cases hie : i = ts.length
    · have hw : wrap64 ((x.size : Int) + 1) = ((x.size + 1 : Nat) : Int) := by rw [wid (by omega) (by omega)]; omega
      obtain ⟨n, rfl⟩ := Int.eq_ofNat_of_zero_le ha0
      have hm : Int.tmod (wrap64 (n : Int)) ((x.size + 1 : Nat) : Int) = ((n % (x.size + 1) : Nat) : Int) := by rw [wid (by omega) (by omega), ← Int.ofNat_tmod]
      have hmle : n % (x.size + 1) ≤ x.size := by have := Nat.mod_lt n (show 0 < x.size + 1 by omega); omega
      have hS := ev_Split (x.extract 0 (n % (x.size + 1)))
      have hex : (x.extract 0 (n % (x.size + 1))).data.toList = x.data.toList.take (n % (x.size + 1)) := by rw [extract_list, List.drop_zero, Nat.sub_zero]
      have hes : (x.extract 0 (n % (x.size + 1))).size = n % (x.size + 1) := by rw [← data_length, hex, List.length_take, data_length]; omega
      refine evs (fun k => by
        rw [verbatimlaw17_LexerOrder.l0, if_neg (by rw [List.length_map]; omega), hw, if_neg (by omega), hm, if_pos (by omega), if_pos (by omega)]) (ev_bind (show Ev (fun k => lexer_Split.f k (x.extract 0 (((n % (x.size + 1) : Nat) : Int)).toNat)) _ from hS) ?_)
      have none_ : ∀ (e' : Int), Ev (fun k => verbatimlaw17_LexerOrder.l1 k true (ts.map tk) e [] e' 0) true := fun e' =>
        order_l1 ts [] hl e e' (by simp) (fun _ _ => List.nil_prefix) 0 0 (by simp) (by simp)
      unfold LexPure.split
      by_cases hb : (x.extract 0 (n % (x.size + 1))).size > 1024
      · rw [if_pos hb]
        exact none_ 231
      · rw [if_neg hb, hex]
        cases et : toks 0 (x.data.toList.take (n % (x.size + 1))) with
        | error j => exact none_ 171
        | ok us =>
          have hul := (toks_facts _ 0 _ (Nat.le_refl _)).1 us et
          have hu : us.length ≤ 100000 := by
            have h1 : ∀ (l : List Tk) (b : Nat), (∀ t ∈ l, b ≤ t.pl ∧ t.pl < 3001) → l.Pairwise (fun a b => a.pl < b.pl) → b ≤ 3001 → l.length ≤ 3001 - b := by
              intro l
              induction l with
              | nil => intro b _ _ _; simp
              | cons t l ih =>
                intro b hh hp hb
                have ht := hh t (List.mem_cons_self ..)
                obtain ⟨hp1, hp2⟩ := List.pairwise_cons.1 hp
                have := ih (t.pl + 1) (fun u hu => ⟨hp1 u hu, (hh u (List.mem_cons_of_mem _ hu)).2⟩) hp2 (by omega)
                simp only [List.length_cons]
                omega
            have := h1 us 0 (fun t ht => ⟨by omega, by have h := (hul.1 t ht).2.1; rw [List.length_take, data_length] at h; omega⟩) hul.2 (by omega)
            omega
          exact order_l1 ts us hl e 0 hu (fun _ h0 => toks_take _ 0 _ _ ts us (Nat.le_refl _) (he h0).2 et) us.length 0 (by omega) (by omega)
    · obtain ⟨d, rfl⟩ : ∃ d', d = d' + 1 := ⟨d - 1, by omega⟩
      have hlt : i < ts.length := by omega
      have hlt' : ((i : Nat) : Int) < ((ts.map tk).length : Int) := by rw [List.length_map]; omega
      obtain ⟨f1, f2, f3, f4, f5⟩ := hf.1 ts[i] (List.getElem_mem hlt)
      rw [data_length] at f2
      have g : rd_T33 (ts.map tk) (i : Int) = tk ts[i] := tok_get ts i hlt
      have hw : wrap64 ((i : Int) + 1) = ((i + 1 : Nat) : Int) := by rw [wid (by omega) (by omega)]; omega
      have ih := order_l0 x hx a1 ha0 ha1 ts e hl hf he d (i + 1) (by omega) (by omega)
      have k0 : (tk ts[i]).f0 = ((ts[i].kind : Nat) : Int) := rfl
      have k1 : (tk ts[i]).f1 = ((ts[i].pl : Nat) : Int) := rfl
      have last : ∀ k, (if (tk ts[i]).f0 < 1 then (some false) else (if (tk ts[i]).f0 > 9 then (some false) else (if (tk ts[i]).f0 = 6 then (verbatimlaw17_LexerOrder.l0 k x a1 true (ts.map tk) e (wrap64 ((i : Int) + 1))) else (if (tk ts[i]).f2.toList = ([] : List UInt8) then (verbatimlaw17_LexerOrder.l0 k x a1 true (ts.map tk) e (wrap64 ((i : Int) + 1))) else (some false))))) = verbatimlaw17_LexerOrder.l0 k x a1 true (ts.map tk) e ((i + 1 : Nat) : Int) := by
        intro k
        rw [k0, if_neg (by omega), if_neg (by omega), hw]
        by_cases h6 : ((ts[i].kind : Nat) : Int) = 6
        · rw [if_pos h6]
        · rw [if_neg h6, if_pos (by rw [ByteArray.toList_eq]; simp [tk, f5 (by omega)])]
      by_cases h0 : i = 0
      · subst h0
        refine evs (fun k => ?_) ih
        rw [verbatimlaw17_LexerOrder.l0, if_pos hlt', if_pos (by omega), g, if_neg (by rw [k1]; omega), if_neg (by rw [k1]; omega), if_neg (by omega)]
        exact last k
      · have hwm : wrap64 ((i : Int) - 1) = ((i - 1 : Nat) : Int) := by rw [wid (by omega) (by omega)]; omega
        have g' : rd_T33 (ts.map tk) ((i - 1 : Nat) : Int) = tk (ts[i - 1]'(by omega)) := tok_get ts (i - 1) (by omega)
        have hlt2 : (ts[i - 1]'(by omega)).pl < ts[i].pl := List.pairwise_iff_getElem.1 hf.2 (i - 1) i (by omega) hlt (by omega)
        have k1' : (tk (ts[i - 1]'(by omega))).f1 = (((ts[i - 1]'(by omega)).pl : Nat) : Int) := rfl
        refine evs (fun k => ?_) ih
        rw [verbatimlaw17_LexerOrder.l0, if_pos hlt', if_pos (by omega), g, if_neg (by rw [k1]; omega), if_neg (by rw [k1]; omega), if_pos (by omega), hwm, if_pos (by omega), if_pos (by rw [List.length_map]; omega), g', if_neg (by rw [k1', k1]; omega)]
        exact last k
theorem LexerOrder : verbatimlaw17_LexerOrder.Pure := by
  intro a0 a1 h0 h1
  have h1 := wf_u16 h1
  have hj : ∀ (ts : List Tk) (e : Int), a0.size ≤ 3000 → ts.length ≤ 100000 → ((∀ t ∈ ts, 0 ≤ t.pl ∧ t.pl < 0 + a0.data.toList.length ∧ 1 ≤ t.kind ∧ t.kind ≤ 9 ∧ (t.kind ≠ 6 → t.text = [])) ∧ ts.Pairwise (fun a b => a.pl < b.pl)) →
      (e = 0 → a0.size ≤ 1024 ∧ toks 0 a0.data.toList = .ok ts) → ∀ b, b = false → Ev (fun k => verbatimlaw17_LexerOrder.j0 k a0 a1 true (ts.map tk) e b) true := fun ts e hs hl hf he b hb => by
    subst hb
    refine evs (fun k => ?_) (order_l0 a0 hs a1 h1.1 h1.2 ts e hl hf he ts.length 0 (by omega) (by omega))
    rw [verbatimlaw17_LexerOrder.j0, if_neg (by simp)]
    rfl
  obtain ⟨k, hk⟩ := Ev.rounds (show Ev (fun k => verbatimlaw17_LexerOrder.f k a0 a1) true by
    unfold verbatimlaw17_LexerOrder.f
    refine ev_bind q_head (ev_if (fun _ => Ev.now _) (fun hs => ?_))
    have hs : a0.size ≤ 3000 := by omega
    refine ev_bind (ev_Split a0) ?_
    unfold LexPure.split
    by_cases hb : a0.size > 1024
    · rw [if_pos hb]
      refine ev_neg (by decide) (ev_neg (by decide) (ev_neg (by decide) ?_))
      exact hj [] 231 hs (by simp) ⟨by simp, List.Pairwise.nil⟩ (fun h => absurd h (by decide)) false rfl
    · rw [if_neg hb]
      have hf := toks_facts _ 0 a0.data.toList (Nat.le_refl _)
      cases et : toks 0 a0.data.toList with
      | error j =>
        have := hf.2 j et
        rw [data_length] at this
        refine ev_pos rfl (ev_neg (by simp only [resS]; omega) (ev_neg (by simp only [resS]; omega) (ev_neg (by simp [resS]) (ev_neg (by simp [resS]) ?_))))
        exact hj [] 171 hs (by simp) ⟨by simp, List.Pairwise.nil⟩ (fun h => absurd h (by decide)) false rfl
      | ok ts =>
        refine ev_neg (by simp [resS]) (ev_pos rfl ?_)
        have h1 : ∀ (l : List Tk) (b : Nat), (∀ t ∈ l, b ≤ t.pl ∧ t.pl < 3001) → l.Pairwise (fun a b => a.pl < b.pl) → b ≤ 3001 → l.length ≤ 3001 - b := by
          intro l
          induction l with
          | nil => intro b _ _ _; simp
          | cons t l ih =>
            intro b hh hp hb
            have ht := hh t (List.mem_cons_self ..)
            obtain ⟨hp1, hp2⟩ := List.pairwise_cons.1 hp
            have := ih (t.pl + 1) (fun u hu => ⟨hp1 u hu, (hh u (List.mem_cons_of_mem _ hu)).2⟩) hp2 (by omega)
            simp only [List.length_cons]
            omega
        have hl := h1 ts 0 (fun t ht => ⟨by omega, by have h := ((hf.1 ts et).1 t ht).2.1; rw [data_length] at h; omega⟩) (hf.1 ts et).2 (by omega)
        exact hj ts 0 hs (by omega) (hf.1 ts et) (fun _ => ⟨by omega, et⟩) _ rfl)
  exact ⟨k, hk⟩
end Go.Proofs.YtfoijdahgkngpaaDoor.Pure
