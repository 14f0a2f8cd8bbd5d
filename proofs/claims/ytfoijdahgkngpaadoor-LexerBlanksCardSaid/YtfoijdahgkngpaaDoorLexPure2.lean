/- Bytes as a literal, by the program and by the document; the document's words: those of LexSpec. No program but the printed functions. -/
import Derived.Test.YtfoijdahgkngpaaDoorLexPure
import Derived.Test.YtfoijdahgkngpaaDoorL5
import Derived.Test.YtfoijdahgkngpaaDoorL6
import Derived.Test.YtfoijdahgkngpaaDoorL7
import Derived.Test.YtfoijdahgkngpaaDoorL7
import Derived.Test.YtfoijdahgkngpaaDoorL7
import Derived.Test.YtfoijdahgkngpaaDoorL7
import Derived.Test.YtfoijdahgkngpaaDoorL8
import Derived.Test.YtfoijdahgkngpaaDoorL8
namespace Go.Proofs.YtfoijdahgkngpaaDoor.LexPure
set_option linter.unusedVariables false
set_option linter.unusedSimpArgs false
open Go.RowKit Go.Proofs.YtfoijdahgkngpaaDoor.L Go.Proofs.YtfoijdahgkngpaaDoorW.PrintWords Go.Proofs.YtfoijdahgkngpaaDoor.PureLib Go.Proofs.YtfoijdahgkngpaaDoor.LexSpec Go.Proofs.YtfoijdahgkngpaaDoor.Pu16
theorem ints_append (a b : List UInt8) : ints (a ++ b) = ints a ++ ints b := by simp [ints]
theorem ints_len (a : List UInt8) : (ints a).length = a.length := by simp [ints]
theorem q1_len (c : UInt8) : (q1 c).length ≤ 4 := by
  unfold q1
  split
  · simp
  · split <;> simp
theorem not_toNat {c : UInt8} {n : Nat} (hn : n < 256) (h : c ≠ UInt8.ofNat n) : ¬ (c.toNat : Int) = (n : Int) := by
  intro e
  apply h
  apply UInt8.toNat_inj.1
  rw [UInt8.toNat_ofNat', Nat.mod_eq_of_lt hn]
  omega
theorem q1_esc {c : UInt8} (h : c = 34 ∨ c = 92) : ints (q1 c) = [92, (c.toNat : Int)] := by
  rw [q1, if_pos h]
  rfl
theorem q1_hex {c : UInt8} (h : ¬ (c = 34 ∨ c = 92)) (h2 : c.toNat < 32 ∨ 126 < c.toNat) : ints (q1 c) = [92, 120, bt (⟨#[48, 49, 50, 51, 52, 53, 54, 55, 56, 57, 97, 98, 99, 100, 101, 102]⟩ : ByteArray) ((c.toNat : Int) / 16), bt (⟨#[48, 49, 50, 51, 52, 53, 54, 55, 56, 57, 97, 98, 99, 100, 101, 102]⟩ : ByteArray) (Go.bits .and .u8 (c.toNat : Int) 15)] := by
  have hb := bytes (fun n => bt (⟨#[48, 49, 50, 51, 52, 53, 54, 55, 56, 57, 97, 98, 99, 100, 101, 102]⟩ : ByteArray) ((n : Int) / 16) = ((digit (n / 16)).toNat : Int) ∧ bt (⟨#[48, 49, 50, 51, 52, 53, 54, 55, 56, 57, 97, 98, 99, 100, 101, 102]⟩ : ByteArray) (Go.bits .and .u8 (n : Int) 15) = ((digit (n % 16)).toNat : Int)) (by decide +kernel) c
  rw [q1, if_neg h, if_pos h2, hb.1, hb.2]
  rfl
theorem q1_plain {c : UInt8} (h : ¬ (c = 34 ∨ c = 92)) (h2 : ¬ (c.toNat < 32 ∨ 126 < c.toNat)) : ints (q1 c) = [(c.toNat : Int)] := by
  rw [q1, if_neg h, if_neg h2]
  rfl
theorem nibbles (c : UInt8) : 0 ≤ (c.toNat : Int) / 16 ∧ (c.toNat : Int) / 16 < 16 ∧ 0 ≤ Go.bits .and .u8 (c.toNat : Int) 15 ∧ Go.bits .and .u8 (c.toNat : Int) 15 < 16 :=
  bytes (fun n => 0 ≤ (n : Int) / 16 ∧ (n : Int) / 16 < 16 ∧ 0 ≤ Go.bits .and .u8 (n : Int) 15 ∧ Go.bits .and .u8 (n : Int) 15 < 16) (by decide +kernel) c
theorem flat_cons (acc : List Int) (c : UInt8) (r : List UInt8) : strOfNums ((acc ++ ints (q1 c)) ++ ints (r.flatMap q1) ++ [34]) = strOfNums (acc ++ ints ((c :: r).flatMap q1) ++ [34]) := by
  rw [List.flatMap_cons, ints_append, List.append_assoc acc]
theorem ev_quote_l0 (x : ByteArray) (hx : x.size ≤ 100000) : ∀ (m i : Nat) (acc : List Int), x.size - i ≤ m → i ≤ x.size → acc.length ≤ 1 + 4 * i →
    Ev (fun k => lexer_Quote.l0 k acc (bytesOf x) (x.size : Int) (i : Int)) (strOfNums (acc ++ ints ((x.data.toList.drop i).flatMap q1) ++ [34]))
  | m, i, acc, hm, hi, ha => by
    by_cases he : i = x.size
    · subst he
      refine ev_some (fun k => ?_)
      rw [lexer_Quote.l0, if_neg (by omega), if_pos (by omega), List.drop_of_length_le (by rw [data_length]; exact Nat.le_refl _)]
      simp [ints]
    · have hlt : i < x.size := by omega
      obtain ⟨m, rfl⟩ : ∃ m', m = m' + 1 := ⟨m - 1, by omega⟩
      obtain ⟨c, hd, hc⟩ := at_drop x i hlt
      have hc256 := c.toNat_lt
      have hw : wrap64 ((i : Int) + 1) = ((i + 1 : Nat) : Int) := by rw [wid (by omega) (by omega)]; omega
      have hrd : rd (bytesOf x) (i : Int) = (c.toNat : Int) := by rw [rd_bytesOf, hc]
      have hq := q1_len c
      rw [hd]
      have ih := ev_quote_l0 x hx m (i + 1) (acc ++ ints (q1 c)) (by omega) (by omega) (by rw [List.length_append, ints_len]; omega)
      rw [flat_cons] at ih
      obtain ⟨b1, b2, b3, b4⟩ := nibbles c
      have hb : ∀ b : Bool, b = (c == 34 || c == 92) → Ev (fun k => lexer_Quote.j1 k acc (c.toNat : Int) (bytesOf x) (x.size : Int) (i : Int) b) (strOfNums (acc ++ ints ((c :: List.drop (i + 1) x.data.toList).flatMap q1) ++ [34])) := by
        intro b hb
        subst hb
        by_cases h1 : c = 34 ∨ c = 92
        · rw [q1_esc h1] at ih
          refine evs (fun k => ?_) ih
          rw [lexer_Quote.j1, if_pos (by simpa using h1)]
          simp only [Option.bind_some]
          rw [if_pos (by simp; omega), hw]
        · have h1' : ¬ (c == 34 || c == 92) = true := by simpa using h1
          by_cases h2 : c.toNat < 32
          · rw [q1_hex h1 (Or.inl h2)] at ih
            refine evs (fun k => ?_) ih
            rw [lexer_Quote.j1, if_neg h1', if_pos (by omega), if_pos b1, if_pos b2, if_pos b3, if_pos b4]
            simp only [Option.bind_some]
            rw [if_pos (by simp; omega), hw]
          · by_cases h3 : 126 < c.toNat
            · rw [q1_hex h1 (Or.inr h3)] at ih
              refine evs (fun k => ?_) ih
              rw [lexer_Quote.j1, if_neg h1', if_neg (by omega), if_pos (by omega), if_pos b1, if_pos b2, if_pos b3, if_pos b4]
              simp only [Option.bind_some]
              rw [if_pos (by simp; omega), hw]
            · rw [q1_plain h1 (by omega)] at ih
              refine evs (fun k => ?_) ih
              rw [lexer_Quote.j1, if_neg h1', if_neg (by omega), if_neg (by omega), if_pos (by omega), hw]
      by_cases e1 : c = 34
      · refine evs (fun k => by rw [lexer_Quote.l0, if_pos (by omega), if_pos (by omega), if_pos (by rw [bytesOf_length]; omega), hrd, if_pos (by rw [e1]; rfl)]) (hb _ ?_)
        rw [e1]; rfl
      · refine evs (fun k => by rw [lexer_Quote.l0, if_pos (by omega), if_pos (by omega), if_pos (by rw [bytesOf_length]; omega), hrd, if_neg (show ¬ (c.toNat : Int) = 34 from not_toNat (n := 34) (by omega) e1)]) (hb _ ?_)
        rw [Bool.eq_iff_iff]
        simp only [beq_iff_eq, Bool.or_eq_true, e1, false_or]
        exact ⟨fun h => UInt8.toNat_inj.1 (by show c.toNat = 92; omega), fun h => by rw [h]; rfl⟩
theorem quote_str (l : List UInt8) : strOfNums ([34] ++ ints (l.flatMap q1) ++ [34]) = ⟨(quote l).toArray⟩ := by
  rw [← nums_str]
  congr 1
  simp [quote, ints]
theorem ev_Quote (x : ByteArray) (hx : x.size ≤ 100000) : Ev (fun k => lexer_Quote.f k x) ⟨(quote x.data.toList).toArray⟩ := by
  have h := ev_quote_l0 x hx x.size 0 [34] (by omega) (by omega) (by simp)
  rw [List.drop_zero, quote_str] at h
  refine Ev.congr (fun k => ?_) h
  unfold lexer_Quote.f
  rw [if_pos (by omega)]
  simp only [Option.bind_some]
  rw [bytesOf_length]
  rfl
/-! ### the document's -/
theorem rhex_f (c : UInt8) : Ev (fun k => verbatimref17_hex.f k (c.toNat : Int)) (match hexv c.toNat with | none => -1 | some d => (d : Int)) := by
  refine Ev.of (verbatimref17_hex.mono _) (k := 5) ?_
  exact bytes (fun n => verbatimref17_hex.f 5 (n : Int) = some (match hexv n with | none => -1 | some d => (d : Int))) (by decide +kernel) c
theorem rletter_f (c : UInt8) : verbatimref17_letter.f (c.toNat : Int) = some (letter c) := by
  have h := bytes (fun n => verbatimref17_letter.f (n : Int) = some (letter (UInt8.ofNat n))) (by decide +kernel) c
  rwa [ofNat_toNat] at h
theorem rword_f (x : ByteArray) : verbatimref17_word.f x = some ((word x.data.toList : Nat) : Int) := by
  unfold verbatimref17_word.f word
  rw [ByteArray.toList_eq]
  split
  · rfl
  · split
    · rfl
    · split <;> rfl
theorem rsign_f (c : UInt8) : verbatimref17_sign.f (c.toNat : Int) = some ((sign c : Nat) : Int) := by
  have h := bytes (fun n => verbatimref17_sign.f (n : Int) = some ((sign (UInt8.ofNat n) : Nat) : Int)) (by decide +kernel) c
  rwa [ofNat_toNat] at h
def rlitA (acc : List Int) (i : Nat) : Except Nat (List UInt8 × Nat) → ByteArray × Int × Int
  | .error j => (⟨#[]⟩, ((i + j : Nat) : Int), 171)
  | .ok (t, n) => (strOfNums (acc ++ ints t), ((i + n : Nat) : Int), 0)
theorem at_drop' (x : ByteArray) (i : Nat) (c : UInt8) (r : List UInt8) (h : x.data.toList.drop i = c :: r) : i < x.size ∧ bt x (i : Int) = (c.toNat : Int) ∧ x.data.toList.drop (i + 1) = r := by
  have hl : i < x.size := by
    have := congrArg List.length h
    rw [List.length_drop, data_length] at this
    simp at this
    omega
  obtain ⟨d, h1, h2⟩ := at_drop x i hl
  rw [h] at h1
  injection h1 with h1 h3
  subst h1
  exact ⟨hl, h2, h3.symm⟩
theorem esc_short {r : List UInt8} (h : r.length < 3) (h1 : ∀ a l, r = a :: l → ¬ (a = 34 ∨ a = 92)) : esc r = none := by
  match r, h, h1 with
  | [], _, _ => rfl
  | [a], _, h1 => simp [esc, h1 a [] rfl]
  | [a, b], _, h1 => simp [esc, h1 a [b] rfl]
  | _ :: _ :: _ :: _, h, _ => simp at h; omega
theorem ev_resc (x : ByteArray) (hx : x.size ≤ 100000) (i : Nat) (acc : List Int) (hi : i < x.size) (ha : acc.length ≤ i) (e92 : bt x (i : Int) = 92) (r : List UInt8) (hr : x.data.toList.drop (i + 1) = r) (R : ByteArray × Int × Int)
    (hnone : esc r = none → R = (⟨#[]⟩, (i : Int), 171)) (hsome : ∀ (d : UInt8) (n : Nat), esc r = some (d, n) → Ev (fun k => verbatimref17_literal.l0 k x (acc ++ [(d.toNat : Int)]) ((i + 1 + n : Nat) : Int)) R) :
    Ev (fun k => verbatimref17_literal.l0 k x acc (i : Int)) R := by
  have hw1 : wrap64 ((i : Int) + 1) = ((i + 1 : Nat) : Int) := by rw [wid (by omega) (by omega)]; omega
  have hw2 : wrap64 ((i : Int) + 2) = ((i + 2 : Nat) : Int) := by rw [wid (by omega) (by omega)]; omega
  have hw3 : wrap64 ((i : Int) + 3) = ((i + 3 : Nat) : Int) := by rw [wid (by omega) (by omega)]; omega
  have hw4 : wrap64 ((i : Int) + 4) = ((i + 4 : Nat) : Int) := by rw [wid (by omega) (by omega)]; omega
  have n34 : ¬ bt x (i : Int) = 34 := by omega
  have hrl : r.length = x.size - (i + 1) := by rw [← hr, List.length_drop, data_length]
  have j2f : esc r = none → Ev (fun k => verbatimref17_literal.j2 k x acc (i : Int) false) R := fun he => by
    rw [hnone he]
    exact ev_some (fun k => by rw [verbatimref17_literal.j2, if_neg (by simp)])
  have j1f : (∀ a l, r = a :: l → ¬ (a = 34 ∨ a = 92)) → Ev (fun k => verbatimref17_literal.j1 k x acc (i : Int) false) R := fun hn => by
    by_cases h3 : i + 3 < x.size
    · obtain ⟨a, da, ca⟩ := at_drop x (i + 1) (by omega)
      obtain ⟨b, db, cb⟩ := at_drop x (i + 2) (by omega)
      obtain ⟨c, dc, cc⟩ := at_drop x (i + 3) (by omega)
      rw [hr] at da
      rw [show i + 1 + 1 = i + 2 from rfl, db, show i + 2 + 1 = i + 3 from rfl, dc] at da
      have hna := hn _ _ da
      by_cases h120 : a = 120
      · have e120 : bt x ((i + 1 : Nat) : Int) = 120 := by rw [ca, h120]; rfl
        have hes : esc r = (hexv b.toNat).bind fun u => (hexv c.toNat).map fun v => (UInt8.ofNat (16 * u + v), 3) := by
          rw [da, esc_hex h120]
        have hb := rhex_f b
        have hc := rhex_f c
        rw [← cb] at hb
        rw [← cc] at hc
        have step : ∀ k, verbatimref17_literal.j1 (k + 1) x acc (i : Int) false = (verbatimref17_hex.f k (bt x ((i + 2 : Nat) : Int))).bind fun t184 => (if t184 ≥ 0 then (if 0 ≤ ((i + 3 : Nat) : Int) then ((verbatimref17_hex.f k (bt x ((i + 3 : Nat) : Int))).bind fun t185 => (verbatimref17_literal.j2 k x acc (i : Int) (decide (t185 ≥ 0)))) else (none)) else (verbatimref17_literal.j2 k x acc (i : Int) false)) := fun k => by
          rw [verbatimref17_literal.j1, if_neg (by simp), hw1, hw2, hw3, if_pos (by omega), if_pos (by omega), if_pos (by omega), if_pos e120, if_pos (by omega), if_pos (by omega)]
        cases hu : hexv b.toNat with
        | none =>
          rw [hu] at hb
          refine evs step (ev_bind hb (Ev.congr (fun k => if_neg (by simp)) (j2f (by rw [hes, hu]; rfl))))
        | some u =>
          rw [hu] at hb
          have hu16 := hexv_lt hu
          cases hv : hexv c.toNat with
          | none =>
            rw [hv] at hc
            refine evs step (ev_bind hb (Ev.congr (fun k => (if_pos (by simp)).trans (if_pos (by omega))) (ev_bind hc (Ev.congr (fun k => by rw [decide_eq_false (by simp)]) (j2f (by rw [hes, hu, hv]; rfl))))))
          | some v =>
            rw [hv] at hc
            have hv16 := hexv_lt hv
            have hn2 := hsome (UInt8.ofNat (16 * u + v)) 3 (by rw [hes, hu, hv]; rfl)
            refine evs step (ev_bind hb (Ev.congr (fun k => (if_pos (by simp)).trans (if_pos (by omega))) (ev_bind hc ?_)))
            refine evs (fun k => by rw [decide_eq_true (by simp), verbatimref17_literal.j2, if_pos rfl, hw2, hw3, hw4, if_pos (by omega), if_pos (by omega)]) (ev_bind hb (Ev.congr (fun k => (if_pos (show (0 : Int) ≤ ((i + 3 : Nat) : Int) by omega)).trans (if_pos (show ((i + 3 : Nat) : Int) < (x.size : Int) by omega))) (ev_bind hc (Ev.congr (fun k => ?_) hn2))))
            rw [if_pos (by omega)]
            have e1 : wrap64 (wrap64 (16 * (u : Int)) + (v : Int)) % 256 = (((UInt8.ofNat (16 * u + v)).toNat : Nat) : Int) := by
              rw [wid (n := 16 * (u : Int)) (by omega) (by omega), wid (by omega) (by omega), UInt8.toNat_ofNat']
              omega
            rw [e1]
      · have n120 : ¬ bt x ((i + 1 : Nat) : Int) = 120 := by rw [ca]; exact not_toNat (n := 120) (by omega) h120
        refine evs (fun k => ?_) (j2f (by rw [da]; exact esc_other hna h120))
        rw [verbatimref17_literal.j1, if_neg (by simp), hw1, hw3, if_pos (by omega), if_pos (by omega), if_pos (by omega), if_neg n120]
    · refine evs (fun k => ?_) (j2f (esc_short (by omega) hn))
      rw [verbatimref17_literal.j1, if_neg (by simp), hw3, if_neg (by omega)]
  by_cases h1 : i + 1 < x.size
  · obtain ⟨a, da, ca⟩ := at_drop x (i + 1) h1
    rw [hr] at da
    have step : ∀ k, verbatimref17_literal.l0 (k + 1) x acc (i : Int) = if bt x ((i + 1 : Nat) : Int) = 34 then verbatimref17_literal.j1 k x acc (i : Int) true else verbatimref17_literal.j1 k x acc (i : Int) (bt x ((i + 1 : Nat) : Int) == 92) := fun k => by
      rw [verbatimref17_literal.l0, if_pos (by omega), if_pos (by omega), if_neg n34, if_pos e92, hw1, if_pos (by omega), if_pos (by omega)]
    have j1t : (a = 34 ∨ a = 92) → Ev (fun k => verbatimref17_literal.j1 k x acc (i : Int) true) R := fun hh => by
      have hn2 := hsome a 1 (by rw [da]; exact esc_same hh)
      refine evs (fun k => ?_) hn2
      rw [verbatimref17_literal.j1, if_pos rfl, hw1, hw2, if_pos (by omega), if_pos (by omega), if_pos (by omega), ca]
    by_cases a34 : a = 34
    · refine evs step (Ev.congr (fun k => if_pos (by rw [ca, a34]; rfl)) (j1t (Or.inl a34)))
    · have na34 : ¬ bt x ((i + 1 : Nat) : Int) = 34 := by rw [ca]; exact not_toNat (n := 34) (by omega) a34
      by_cases a92 : a = 92
      · refine evs step (Ev.congr (fun k => (if_neg na34).trans (by rw [ca, a92]; rfl)) (j1t (Or.inr a92)))
      · have na92 : ¬ bt x ((i + 1 : Nat) : Int) = 92 := by rw [ca]; exact not_toNat (n := 92) (by omega) a92
        refine evs step (Ev.congr (fun k => (if_neg na34).trans (by rw [beq_eq_false_iff_ne.2 na92])) (j1f (fun b l hbl => ?_)))
        rw [da] at hbl
        injection hbl with hbl _
        subst hbl
        exact fun h => h.elim a34 a92
  · refine evs (fun k => ?_) (j1f (fun b l hbl => ?_))
    · rw [verbatimref17_literal.l0, if_pos (by omega), if_pos (by omega), if_neg n34, if_pos e92, hw1, if_neg (by omega)]
    · have := congrArg List.length hbl
      simp at this
      omega
theorem ev_rlit_l0 (x : ByteArray) (hx : x.size ≤ 100000) : ∀ (m i : Nat) (acc : List Int), x.size - i ≤ m → i ≤ x.size → acc.length ≤ i →
    Ev (fun k => verbatimref17_literal.l0 k x acc (i : Int)) (rlitA acc i (lit (x.data.toList.drop i)))
  | m, i, acc, hm, hi, ha => by
    by_cases he : i = x.size
    · subst he
      refine ev_some (fun k => ?_)
      rw [verbatimref17_literal.l0, if_neg (by omega), List.drop_of_length_le (by rw [data_length]; exact Nat.le_refl _), lit_nil]
      rfl
    · have hlt : i < x.size := by omega
      obtain ⟨m, rfl⟩ : ∃ m', m = m' + 1 := ⟨m - 1, by omega⟩
      obtain ⟨c, hd, hc⟩ := at_drop x i hlt
      have hc256 := c.toNat_lt
      have hw1 : wrap64 ((i : Int) + 1) = ((i + 1 : Nat) : Int) := by rw [wid (by omega) (by omega)]; omega
      rw [hd]
      by_cases h1 : c = 34
      · refine ev_some (fun k => ?_)
        have : bt x (i : Int) = 34 := by rw [hc, h1]; rfl
        rw [verbatimref17_literal.l0, if_pos (by omega), if_pos (by omega), if_pos this, h1, lit_end, hw1]
        simp [rlitA, ints]
      · have n34 : ¬ bt x (i : Int) = 34 := by rw [hc]; exact not_toNat (n := 34) (by omega) h1
        by_cases h2 : c = 92
        · subst h2
          refine ev_resc x hx i acc hlt ha (by rw [hc]; rfl) _ rfl _ (fun hes => by rw [lit_none _ hes]; rfl) (fun d n es => ?_)
          have hn := esc_le es
          rw [List.length_drop, data_length] at hn
          have ih := ev_rlit_l0 x hx m (i + 1 + n) (acc ++ [(d.toNat : Int)]) (by omega) (by omega) (by simp; omega)
          rw [lit_esc _ es, List.drop_drop]
          refine ev_eq ih ?_
          cases lit (List.drop (i + 1 + n) x.data.toList) with
          | error j => simp only [rlitA]; congr 2; omega
          | ok q => obtain ⟨t, q⟩ := q; simp only [rlitA, ints, List.map_cons, List.append_assoc, List.cons_append, List.nil_append]; congr 2; omega
        · have n92 : ¬ bt x (i : Int) = 92 := by rw [hc]; exact not_toNat (n := 92) (by omega) h2
          have ih := ev_rlit_l0 x hx m (i + 1) (acc ++ [(c.toNat : Int)]) (by omega) (by omega) (by simp; omega)
          rw [lit_plain _ _ h1 h2]
          refine evs (fun k => by
            rw [verbatimref17_literal.l0, if_pos (by omega), if_pos (by omega), if_neg n34, if_neg n92, if_pos (by omega), hc, hw1]) (ev_eq ih ?_)
          cases lit (List.drop (i + 1) x.data.toList) with
          | error j => simp only [rlitA]; congr 2; omega
          | ok q => obtain ⟨t, q⟩ := q; simp only [rlitA, ints, List.map_cons, List.append_assoc, List.cons_append, List.nil_append]; congr 2; omega
end Go.Proofs.YtfoijdahgkngpaaDoor.LexPure
