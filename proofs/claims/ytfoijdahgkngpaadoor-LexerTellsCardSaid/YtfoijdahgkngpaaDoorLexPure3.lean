/- The document's Split and Quote are those of LexSpec; alike rows of words are told alike. No program but the printed functions. -/
import Derived.Test.YtfoijdahgkngpaaDoorLexPure2
import Derived.Test.YtfoijdahgkngpaaDoorL4
namespace Go.Proofs.YtfoijdahgkngpaaDoor.LexPure
set_option linter.unusedVariables false
set_option linter.unusedSimpArgs false
open Go.RowKit Go.Proofs.YtfoijdahgkngpaaDoor.L Go.Proofs.YtfoijdahgkngpaaDoorW.PrintWords Go.Proofs.YtfoijdahgkngpaaDoor.PureLib Go.Proofs.YtfoijdahgkngpaaDoor.LexSpec Go.Proofs.YtfoijdahgkngpaaDoor.Pu16
theorem ev_head : Ev (fun k => verbatimlaw17_head.f k) true := Ev.of verbatimlaw17_head.mono (k := 40) (by decide +kernel)
theorem ev_rsplit_l1 (x : ByteArray) (hx : x.size ≤ 1024) (acc : List Tok) (i : Nat) (hi : i < x.size) (r : List Tok × Int × Int)
    (N : Nat) (hN : 1 ≤ N ∧ i + N ≤ x.size) (hall : ∀ j, j < N → ∃ c : UInt8, bt x ((i + j : Nat) : Int) = (c.toNat : Int) ∧ letter c = true) (hend : i + N = x.size ∨ ∃ c : UInt8, bt x ((i + N : Nat) : Int) = (c.toNat : Int) ∧ letter c = false)
    (hr : Ev (fun k => verbatimref17_Split.j3 k x acc (i : Int) ((i + N : Nat) : Int)) r) :
    ∀ (m n : Nat), n + m = N → Ev (fun k => verbatimref17_Split.l1 k x acc (i : Int) ((i + n : Nat) : Int)) r
  | 0, n, hn => by
    obtain rfl : n = N := by omega
    by_cases he : i + n = x.size
    · refine evs (fun k => ?_) hr
      rw [verbatimref17_Split.l1, if_neg (by omega)]
    · rcases hend with he' | ⟨c, hc, hl⟩
      · exact absurd he' he
      · refine evs (fun k => ?_) hr
        rw [verbatimref17_Split.l1, if_pos (by omega), if_pos (by omega), hc, rletter_f, hl]
        simp only [Option.bind_some]
        rw [if_neg (by simp)]
  | m + 1, n, hn => by
    obtain ⟨c, hc, hl⟩ := hall n (by omega)
    refine evs (fun k => ?_) (ev_rsplit_l1 x hx acc i hi r N hN hall hend hr m (n + 1) (by omega))
    rw [verbatimref17_Split.l1, if_pos (by omega), if_pos (by omega), hc, rletter_f, hl]
    simp only [Option.bind_some]
    rw [if_pos trivial, wid (by omega) (by omega), show ((i + n : Nat) : Int) + 1 = ((i + (n + 1) : Nat) : Int) from by omega]
theorem ev_rliteral (x : ByteArray) (hx : x.size ≤ 100000) (i : Nat) (hi : i < x.size) : Ev (fun k => verbatimref17_literal.f k x (i : Int)) (rlitA [] (i + 1) (lit (x.data.toList.drop (i + 1)))) := by
  have h := ev_rlit_l0 x hx x.size (i + 1) [] (by omega) (by omega) (by simp)
  refine Ev.congr (fun k => ?_) h
  unfold verbatimref17_literal.f
  rw [wid (by omega) (by omega), show (i : Int) + 1 = ((i + 1 : Nat) : Int) from by omega]
theorem ev_rsplit_l0 (x : ByteArray) (hx : x.size ≤ 1024) : ∀ (m i : Nat) (acc : List Tok), x.size - i ≤ m → i ≤ x.size → acc.length ≤ i →
    Ev (fun k => verbatimref17_Split.l0 k x acc (i : Int)) (resA acc (toks i (x.data.toList.drop i)))
  | m, i, acc, hm, hi, ha => by
    by_cases he : i = x.size
    · subst he
      refine ev_some (fun k => ?_)
      rw [verbatimref17_Split.l0, if_neg (by omega), List.drop_of_length_le (by rw [data_length]; exact Nat.le_refl _), toks_nil]
      simp [resA]
    · have hlt : i < x.size := by omega
      obtain ⟨m, rfl⟩ : ∃ m', m = m' + 1 := ⟨m - 1, by omega⟩
      obtain ⟨c, hd, hc⟩ := at_drop x i hlt
      have hc256 := c.toNat_lt
      have hw : wrap64 ((i : Int) + 1) = ((i + 1 : Nat) : Int) := by rw [wid (by omega) (by omega)]; omega
      have hb : ∀ b : Bool, b = isBlank c → Ev (fun k => verbatimref17_Split.j1 k x acc (i : Int) (c.toNat : Int) b) (resA acc (toks i (x.data.toList.drop i))) := by
        intro b hb
        subst hb
        rw [hd]
        cases hbl : isBlank c with
        | true =>
          rw [toks_blank i c _ hbl]
          refine evs (fun k => ?_) (ev_rsplit_l0 x hx m (i + 1) acc (by omega) (by omega) (by omega))
          rw [verbatimref17_Split.j1, if_pos rfl, hw]
        | false =>
          by_cases h34 : c = 34
          · subst h34
            have hl := ev_rliteral x (by omega) i hlt
            rw [toks_lit]
            refine evs (fun k => by rw [verbatimref17_Split.j1, if_neg (by simp), if_pos (show ((UInt8.toNat 34 : Nat) : Int) = 34 from rfl)]) (ev_bind hl ?_)
            have hle := lit_le _ (x.data.toList.drop (i + 1)) (Nat.le_refl _)
            rw [List.length_drop, data_length] at hle
            cases el : lit (x.data.toList.drop (i + 1)) with
            | error j =>
              have := hle.2 j el
              refine ev_const (fun k => ?_)
              exact (if_neg (c := (rlitA [] (i + 1) (Except.error j)).2.2 = 0) (by simp [rlitA])).trans rfl
            | ok q =>
              obtain ⟨t, n⟩ := q
              have := hle.1 t n el
              have ih := ev_rsplit_l0 x hx m (i + 1 + n) (acc ++ [tk ⟨6, i, t⟩]) (by omega) (by omega) (by simp; omega)
              rw [resA_cons, ← List.drop_drop] at ih
              refine Ev.congr (fun k => ?_) ih
              refine (if_pos (c := (rlitA [] (i + 1) (Except.ok (t, n))).2.2 = 0) (by simp [rlitA])).trans ?_
              rw [if_pos (by omega)]
              show verbatimref17_Split.l0 k x (acc ++ [(⟨6, (i : Int), strOfNums ([] ++ ints t)⟩ : Tok)]) ((i + 1 + n : Nat) : Int) = _
              rw [List.nil_append, ints, nums_str]
              rfl
          · have n34 : ¬ (c.toNat : Int) = 34 := not_toNat (n := 34) (by omega) h34
            cases hle : letter c with
            | true =>
              obtain ⟨f1, f2, f3, f4, f5⟩ := run_facts x i c _ hd hle
              rw [toks_word i c _ hbl h34 hle]
              generalize hN : 1 + (List.takeWhile letter (List.drop (i + 1) x.data.toList)).length = N at *
              refine evs (fun k => by rw [verbatimref17_Split.j1, if_neg (by simp), if_neg n34, rletter_f, hle]) ?_
              refine Ev.congr (fun k => show _ = verbatimref17_Split.l1 k x acc (i : Int) ((i + 0 : Nat) : Int) from by simp only [Option.bind_some]; rfl) (ev_rsplit_l1 x hx acc i hlt _ N ⟨by omega, f1⟩ f2 f3 ?_ N 0 (by omega))
              have hwd : verbatimref17_word.f (x.extract ((i : Int)).toNat (((i + N : Nat) : Int)).toNat) = some ((word (c :: List.takeWhile letter (List.drop (i + 1) x.data.toList)) : Nat) : Int) := by
                rw [rword_f]
                show some (((word (x.extract i (i + N)).data.toList : Nat)) : Int) = _
                rw [f5]
              by_cases hz : word (c :: List.takeWhile letter (List.drop (i + 1) x.data.toList)) = 0
              · refine ev_some (fun k => ?_)
                rw [verbatimref17_Split.j3, if_pos (by omega), if_pos (by omega), if_pos (by omega), hwd]
                simp only [Option.bind_some]
                rw [if_pos (by omega), if_pos hz]
                rfl
              · have ih := ev_rsplit_l0 x hx m (i + N) (acc ++ [tk ⟨word (c :: List.takeWhile letter (List.drop (i + 1) x.data.toList)), i, []⟩]) (by omega) (by omega) (by simp; omega)
                rw [resA_cons, f4] at ih
                rw [if_neg hz]
                refine evs (fun k => ?_) ih
                rw [verbatimref17_Split.j3, if_pos (by omega), if_pos (by omega), if_pos (by omega), hwd]
                simp only [Option.bind_some]
                rw [if_neg (by omega), if_pos (by omega)]
                rfl
            | false =>
              rw [toks_sign i c _ hbl h34 hle]
              have hs5 := sign_le c
              by_cases hz : sign c = 0
              · refine ev_some (fun k => ?_)
                rw [verbatimref17_Split.j1, if_neg (by simp), if_neg n34, rletter_f, hle, rsign_f]
                simp only [Option.bind_some]
                rw [if_neg (by simp), if_pos (by omega), if_pos hz]
                rfl
              · have ih := ev_rsplit_l0 x hx m (i + 1) (acc ++ [tk ⟨sign c, i, []⟩]) (by omega) (by omega) (by simp; omega)
                rw [resA_cons] at ih
                rw [if_neg hz]
                refine evs (fun k => ?_) ih
                rw [verbatimref17_Split.j1, if_neg (by simp), if_neg n34, rletter_f, hle, rsign_f]
                simp only [Option.bind_some]
                rw [if_neg (by simp), if_neg (by omega), if_pos (by omega), hw]
                rfl
      by_cases e1 : c = 32
      · have e1' : bt x (i : Int) = 32 := by rw [hc, e1]; rfl
        refine evs (fun k => by rw [verbatimref17_Split.l0, if_pos (by omega), if_pos (by omega), if_pos e1', hc]) (hb _ ?_)
        rw [e1]; rfl
      · have e1' : ¬ bt x (i : Int) = 32 := by rw [hc]; exact not_toNat (n := 32) (by omega) e1
        by_cases e2 : c = 9
        · have e2' : bt x (i : Int) = 9 := by rw [hc, e2]; rfl
          refine evs (fun k => by rw [verbatimref17_Split.l0, if_pos (by omega), if_pos (by omega), if_neg e1', if_pos e2', hc]) (hb _ ?_)
          rw [e2]; rfl
        · have e2' : ¬ bt x (i : Int) = 9 := by rw [hc]; exact not_toNat (n := 9) (by omega) e2
          refine evs (fun k => by rw [verbatimref17_Split.l0, if_pos (by omega), if_pos (by omega), if_neg e1', if_neg e2', hc]) (hb _ ?_)
          rw [Bool.eq_iff_iff]
          simp only [isBlank, beq_iff_eq, Bool.or_eq_true, e1, e2, false_or]
          exact ⟨fun h => UInt8.toNat_inj.1 (by show c.toNat = 10; omega), fun h => by rw [h]; rfl⟩
theorem ev_rSplit (x : ByteArray) : Ev (fun k => verbatimref17_Split.f k x) (split x) := by
  unfold split
  by_cases h : x.size > 1024
  · rw [if_pos h]
    refine Ev.congr (fun k => by unfold verbatimref17_Split.f; rw [if_pos (by omega)]) (Ev.now _)
  · rw [if_neg h]
    have h0 := ev_rsplit_l0 x (by omega) x.size 0 [] (by omega) (by omega) (by simp)
    rw [List.drop_zero] at h0
    refine Ev.congr (fun k => by unfold verbatimref17_Split.f; rw [if_neg (by omega)]; rfl) (ev_eq h0 ?_)
    cases toks 0 x.data.toList <;> simp [resA, resS]
theorem ev_same_l0 (l : List Tok) (hl : l.length ≤ 100000) : ∀ (m i : Nat), l.length - i ≤ m → i ≤ l.length → Ev (fun k => verbatimref17_Same.l0 k l l (i : Int)) true
  | m, i, hm, hi => by
    by_cases he : i = l.length
    · refine ev_some (fun k => ?_)
      rw [verbatimref17_Same.l0, if_neg (by omega)]
    · obtain ⟨m, rfl⟩ : ∃ m', m = m' + 1 := ⟨m - 1, by omega⟩
      refine evs (fun k => ?_) (ev_same_l0 l hl m (i + 1) (by omega) (by omega))
      rw [verbatimref17_Same.l0, if_pos (by omega), if_pos (by omega), if_pos (by omega), if_neg (by simp), wid (by omega) (by omega), show (i : Int) + 1 = ((i + 1 : Nat) : Int) from by omega]
theorem ev_Same (l : List Tok) (hl : l.length ≤ 100000) : Ev (fun k => verbatimref17_Same.f k l l) true := by
  refine Ev.congr (fun k => ?_) (ev_same_l0 l hl l.length 0 (by omega) (by omega))
  unfold verbatimref17_Same.f
  rw [if_pos rfl]
  rfl
theorem rq1_hex {c : UInt8} (h : ¬ (c = 34 ∨ c = 92)) (h2 : c.toNat < 32 ∨ 126 < c.toNat) : ints (q1 c) = [92, 120, bt (⟨#[48, 49, 50, 51, 52, 53, 54, 55, 56, 57, 97, 98, 99, 100, 101, 102]⟩ : ByteArray) ((Int.tdiv (c.toNat : Int) 16) % 256), bt (⟨#[48, 49, 50, 51, 52, 53, 54, 55, 56, 57, 97, 98, 99, 100, 101, 102]⟩ : ByteArray) (Int.tmod (c.toNat : Int) 16)] := by
  have hb := bytes (fun n => bt (⟨#[48, 49, 50, 51, 52, 53, 54, 55, 56, 57, 97, 98, 99, 100, 101, 102]⟩ : ByteArray) ((Int.tdiv (n : Int) 16) % 256) = ((digit (n / 16)).toNat : Int) ∧ bt (⟨#[48, 49, 50, 51, 52, 53, 54, 55, 56, 57, 97, 98, 99, 100, 101, 102]⟩ : ByteArray) (Int.tmod (n : Int) 16) = ((digit (n % 16)).toNat : Int)) (by decide +kernel) c
  rw [q1, if_neg h, if_pos h2, hb.1, hb.2]
  rfl
theorem rnibbles (c : UInt8) : 0 ≤ (Int.tdiv (c.toNat : Int) 16) % 256 ∧ (Int.tdiv (c.toNat : Int) 16) % 256 < 16 ∧ 0 ≤ Int.tmod (c.toNat : Int) 16 ∧ Int.tmod (c.toNat : Int) 16 < 16 :=
  bytes (fun n => 0 ≤ (Int.tdiv (n : Int) 16) % 256 ∧ (Int.tdiv (n : Int) 16) % 256 < 16 ∧ 0 ≤ Int.tmod (n : Int) 16 ∧ Int.tmod (n : Int) 16 < 16) (by decide +kernel) c
theorem ev_rquote_l0 (x : ByteArray) (hx : x.size ≤ 100000) (D : ByteArray) (hD : D = (⟨#[48, 49, 50, 51, 52, 53, 54, 55, 56, 57, 97, 98, 99, 100, 101, 102]⟩ : ByteArray)) (hD2 : D.size = 16) : ∀ (m i : Nat) (acc : List Int), x.size - i ≤ m → i ≤ x.size → acc.length ≤ 1 + 4 * i →
    Ev (fun k => verbatimref17_Quote.l0 k x D acc (i : Int)) (strOfNums (acc ++ ints ((x.data.toList.drop i).flatMap q1) ++ [34]))
  | m, i, acc, hm, hi, ha => by
    by_cases he : i = x.size
    · subst he
      refine ev_some (fun k => ?_)
      rw [verbatimref17_Quote.l0, if_neg (by omega), if_pos (by omega), List.drop_of_length_le (by rw [data_length]; exact Nat.le_refl _)]
      simp [ints]
    · have hlt : i < x.size := by omega
      obtain ⟨m, rfl⟩ : ∃ m', m = m' + 1 := ⟨m - 1, by omega⟩
      obtain ⟨c, hd, hc⟩ := at_drop x i hlt
      have hc256 := c.toNat_lt
      have hw : wrap64 ((i : Int) + 1) = ((i + 1 : Nat) : Int) := by rw [wid (by omega) (by omega)]; omega
      have hq := q1_len c
      rw [hd]
      have ih := ev_rquote_l0 x hx D hD hD2 m (i + 1) (acc ++ ints (q1 c)) (by omega) (by omega) (by rw [List.length_append, ints_len]; omega)
      rw [flat_cons] at ih
      obtain ⟨b1, b2, b3, b4⟩ := rnibbles c
      have hb : ∀ b : Bool, b = (c == 34 || c == 92) → Ev (fun k => verbatimref17_Quote.j1 k x D acc (i : Int) (c.toNat : Int) b) (strOfNums (acc ++ ints ((c :: List.drop (i + 1) x.data.toList).flatMap q1) ++ [34])) := by
        intro b hb
        subst hb
        by_cases h1 : c = 34 ∨ c = 92
        · rw [q1_esc h1] at ih
          refine evs (fun k => ?_) ih
          rw [verbatimref17_Quote.j1, if_pos (by simpa using h1)]
          simp only [Option.bind_some]
          rw [if_pos (by simp; omega), hw]
        · have h1' : ¬ (c == 34 || c == 92) = true := by simpa using h1
          by_cases h2 : c.toNat < 32
          · rw [rq1_hex h1 (Or.inl h2), ← hD] at ih
            refine evs (fun k => ?_) ih
            rw [verbatimref17_Quote.j1, if_neg h1', if_pos (by omega), if_pos b1, if_pos (by omega), if_pos b3, if_pos (by omega)]
            simp only [Option.bind_some]
            rw [if_pos (by simp; omega), hw]
          · by_cases h3 : 126 < c.toNat
            · rw [rq1_hex h1 (Or.inr h3), ← hD] at ih
              refine evs (fun k => ?_) ih
              rw [verbatimref17_Quote.j1, if_neg h1', if_neg (by omega), if_pos (by omega), if_pos b1, if_pos (by omega), if_pos b3, if_pos (by omega)]
              simp only [Option.bind_some]
              rw [if_pos (by simp; omega), hw]
            · rw [q1_plain h1 (by omega)] at ih
              refine evs (fun k => ?_) ih
              rw [verbatimref17_Quote.j1, if_neg h1', if_neg (by omega), if_neg (by omega), if_pos (by omega), hw]
      by_cases e1 : c = 34
      · refine evs (fun k => by rw [verbatimref17_Quote.l0, if_pos (by omega), if_pos (by omega), hc, if_pos (show (c.toNat : Int) = 34 by rw [e1]; rfl)]) (hb _ ?_)
        rw [e1]; rfl
      · refine evs (fun k => by rw [verbatimref17_Quote.l0, if_pos (by omega), if_pos (by omega), hc, if_neg (show ¬ (c.toNat : Int) = 34 from not_toNat (n := 34) (by omega) e1)]) (hb _ ?_)
        rw [Bool.eq_iff_iff]
        simp only [beq_iff_eq, Bool.or_eq_true, e1, false_or]
        exact ⟨fun h => UInt8.toNat_inj.1 (by show c.toNat = 92; omega), fun h => by rw [h]; rfl⟩
theorem ev_rQuote (x : ByteArray) (hx : x.size ≤ 100000) : Ev (fun k => verbatimref17_Quote.f k x) ⟨(quote x.data.toList).toArray⟩ := by
  have h := ev_rquote_l0 x hx _ rfl rfl x.size 0 [34] (by omega) (by omega) (by simp)
  rw [List.drop_zero, quote_str] at h
  exact Ev.congr (fun k => rfl) h
end Go.Proofs.YtfoijdahgkngpaaDoor.LexPure
