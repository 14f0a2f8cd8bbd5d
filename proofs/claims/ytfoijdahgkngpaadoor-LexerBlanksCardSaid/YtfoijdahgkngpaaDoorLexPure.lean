/- The program's words of queries, and bytes as a literal, are those of LexSpec. No program but the printed functions. -/
import Derived.Test.YtfoijdahgkngpaaDoorLexSpec
import Derived.Test.YtfoijdahgkngpaaDoorL2
import Derived.Test.YtfoijdahgkngpaaDoorL2
import Derived.Test.YtfoijdahgkngpaaDoorL2
import Derived.Test.YtfoijdahgkngpaaDoorL2
import Derived.Test.YtfoijdahgkngpaaDoorL2
import Derived.Test.YtfoijdahgkngpaaDoorL3
import Derived.Test.YtfoijdahgkngpaaDoorL4
namespace Go.Proofs.YtfoijdahgkngpaaDoor.LexPure
set_option linter.unusedVariables false
set_option linter.unusedSimpArgs false
open Go.RowKit Go.Proofs.YtfoijdahgkngpaaDoor.L Go.Proofs.YtfoijdahgkngpaaDoorW.PrintWords Go.Proofs.YtfoijdahgkngpaaDoor.PureLib Go.Proofs.YtfoijdahgkngpaaDoor.LexSpec Go.Proofs.YtfoijdahgkngpaaDoor.Pu16
abbrev Tok := S33
theorem at_drop (x : ByteArray) (i : Nat) (h : i < x.size) : ∃ c : UInt8, x.data.toList.drop i = c :: x.data.toList.drop (i + 1) ∧ bt x (i : Int) = (c.toNat : Int) := by
  have h' : i < x.data.toList.length := by rw [data_length]; exact h
  refine ⟨x.data.toList[i], List.drop_eq_getElem_cons h', ?_⟩
  unfold bt
  rw [dif_pos (by simpa using h)]
  rfl
theorem drop_data (t : ByteArray) (a : Nat) : (t.extract a t.size).data.toList = t.data.toList.drop a := by
  rw [ByteArray.data_extract]
  simp
  exact List.take_of_length_le (by rw [List.length_drop, data_length]; exact Nat.le_refl _)
theorem extract_list (t : ByteArray) (a b : Nat) : (t.extract a b).data.toList = (t.data.toList.drop a).take (b - a) := by
  rw [ByteArray.data_extract]
  simp
theorem bytes (f : Nat → Prop) (h : ∀ n, n < 256 → f n) (c : UInt8) : f c.toNat := h _ c.toNat_lt
theorem ofNat_toNat (c : UInt8) : UInt8.ofNat c.toNat = c := by simp
theorem nums_str (l : List UInt8) : strOfNums (l.map fun c => (c.toNat : Int)) = ⟨l.toArray⟩ := by
  unfold strOfNums
  rw [List.map_map]
  congr 2
  conv => rhs; rw [← List.map_id l]
  exact List.map_congr_left (fun c _ => by simp)
theorem eq_mk {a : ByteArray} {l : List UInt8} (h : a.data.toList = l) : a = ⟨l.toArray⟩ := by
  apply ByteArray.ext
  rw [← h]
/-! ### an escape -/
def digits22 : List UInt8 := [48, 49, 50, 51, 52, 53, 54, 55, 56, 57, 97, 98, 99, 100, 101, 102, 65, 66, 67, 68, 69, 70]
theorem hex_in (c : UInt8) : digits22.contains c = (hexv c.toNat).isSome := by
  have h := bytes (fun n => digits22.contains (UInt8.ofNat n) = (hexv n).isSome) (by decide +kernel) c
  rwa [ofNat_toNat] at h
theorem trim_two (a b : UInt8) (cs : List UInt8) : Lib.trimS [a, b] cs = [] ↔ cs.contains a = true ∧ cs.contains b = true := by
  unfold Lib.trimS Lib.trimLeftS Lib.trimRightS
  cases ha : cs.contains a <;> cases hb : cs.contains b <;> simp [List.dropWhile, ha, hb] <;> simp_all
def escI : Option (UInt8 × Nat) → Int × Int
  | none => (0, 0)
  | some (d, n) => ((d.toNat : Int), (n : Int))
theorem ev_escaped (x : ByteArray) (hx : x.size ≤ 100000) : Ev (fun k => lexer_escaped.f k x) (escI (esc x.data.toList)) := by
  cases e : x.data.toList with
  | nil =>
    refine Ev.congr (fun k => by unfold lexer_escaped.f; rw [if_pos (by rw [ByteArray.toList_eq]; exact e)]; rfl) (Ev.now _)
  | cons c r =>
    have hl : x.size = r.length + 1 := by rw [← data_length, e]; rfl
    have h0 : bt x 0 = (c.toNat : Int) := by
      obtain ⟨c', h1, h2⟩ := at_drop x 0 (by omega)
      rw [List.drop_zero, e] at h1
      injection h1 with h1 _
      subst h1
      exact h2
    have hne : ¬ x.toList = ([] : List UInt8) := by rw [ByteArray.toList_eq, e]; simp
    have hpos : 0 < (x.size : Int) := by omega
    have hs : ∀ b : Bool, b = (c == 34 || c == 92) → Ev (fun k => lexer_escaped.j0 k x b) (escI (esc (c :: r))) := by
      intro b hb
      subst hb
      by_cases h1 : c = 34 ∨ c = 92
      · refine ev_some (fun k => ?_)
        rw [lexer_escaped.j0, if_pos (by simpa using h1), if_pos hpos, h0]
        simp only [esc, if_pos h1]
        rfl
      · have h1' : ¬ (c == 34 || c == 92) = true := by simpa using h1
        by_cases h2 : c = 120
        · have h2' : bt x 0 = 120 := by rw [h0, h2]; rfl
          have hj : ∀ d : Bool, d = decide ((x.size : Int) > 2) → Ev (fun k => lexer_escaped.j1 k x d) (escI (esc (c :: r))) := by
            intro d hd
            subst hd
            by_cases h3 : (x.size : Int) > 2
            · match r, hl, e with
              | [], hl, e => simp at hl; omega
              | [_], hl, e => simp at hl; omega
              | a :: b :: r', hl, e =>
                have hex : (x.extract 1 3).data.toList = [a, b] := by rw [extract_list, e]; rfl
                have hes : (x.extract 1 3).size = 2 := by rw [← data_length, hex]; rfl
                have ht : strings_Trim.f (x.extract 1 3) (⟨#[48, 49, 50, 51, 52, 53, 54, 55, 56, 57, 97, 98, 99, 100, 101, 102, 65, 66, 67, 68, 69, 70]⟩ : ByteArray) = some ⟨(Lib.trimS [a, b] digits22).toArray⟩ := by
                  unfold strings_Trim.f
                  rw [if_pos ⟨by omega, by decide, by decide⟩, hex]
                  rfl
                refine ev_some (fun k => ?_)
                rw [lexer_escaped.j1, if_pos (by simpa using h3), if_pos (by omega), if_pos (by omega), ht]
                simp only [Option.bind_some]
                have hesc : esc (c :: a :: b :: r') = (hexv a.toNat).bind fun x => (hexv b.toNat).map fun y => (UInt8.ofNat (16 * x + y), 3) := by
                  rw [esc, if_neg h1, if_pos h2]
                rw [hesc]
                by_cases hh : digits22.contains a = true ∧ digits22.contains b = true
                · rw [if_pos (by rw [ByteArray.toList_eq]; exact (trim_two a b digits22).2 hh)]
                  obtain ⟨hh1, hh2⟩ := hh
                  rw [hex_in] at hh1 hh2
                  obtain ⟨u, hu⟩ := Option.isSome_iff_exists.1 hh1
                  obtain ⟨v, hv⟩ := Option.isSome_iff_exists.1 hh2
                  unfold strconv_ParseUint.f
                  rw [if_pos ⟨rfl, rfl, hes⟩, hex]
                  simp only [hexM, hu, hv, Option.bind_some, Option.map_some, escI]
                  have := hexv_lt hu
                  have := hexv_lt hv
                  congr 2
                  rw [UInt8.toNat_ofNat']
                  omega
                · rw [if_neg (by rw [ByteArray.toList_eq]; exact fun h => hh ((trim_two a b digits22).1 h))]
                  rw [hex_in, hex_in] at hh
                  cases hu : hexv a.toNat with
                  | none => rfl
                  | some u =>
                    cases hv : hexv b.toNat with
                    | none => rfl
                    | some v => exact absurd ⟨by rw [hu]; rfl, by rw [hv]; rfl⟩ hh
            · refine ev_some (fun k => ?_)
              rw [lexer_escaped.j1, if_neg (by simpa using h3)]
              match r, hl with
              | [], hl => simp [esc, h1, h2, escI]
              | [_], hl => simp [esc, h1, h2, escI]
              | a :: b :: r', hl => simp at hl; omega
          refine evs (fun k => ?_) (hj _ rfl)
          rw [lexer_escaped.j0, if_neg h1', if_pos hpos, if_pos h2']
        · have h2' : ¬ bt x 0 = 120 := by
            rw [h0]
            intro h
            exact h2 (UInt8.toNat_inj.1 (by show c.toNat = 120; omega))
          refine evs (fun k => by rw [lexer_escaped.j0, if_neg h1', if_pos hpos, if_neg h2']) (show Ev (fun k => lexer_escaped.j1 k x false) _ from ev_some (fun k => ?_))
          rw [lexer_escaped.j1, if_neg (by simp)]
          simp only [esc, if_neg h1, if_neg h2, escI]
    by_cases h34 : c = 34
    · have h34' : bt x 0 = 34 := by rw [h0, h34]; rfl
      refine Ev.congr (fun k => by unfold lexer_escaped.f; rw [if_neg hne, if_pos hpos, if_pos h34']) (hs _ ?_)
      simp [h34', h34]
    · have h34' : ¬ bt x 0 = 34 := by
        rw [h0]
        intro h
        exact h34 (UInt8.toNat_inj.1 (by show c.toNat = 34; omega))
      refine Ev.congr (fun k => by unfold lexer_escaped.f; rw [if_neg hne, if_pos hpos, if_neg h34']) (hs _ ?_)
      rw [h0, Bool.eq_iff_iff]
      simp only [beq_iff_eq, Bool.or_eq_true, h34, false_or]
      exact ⟨fun h => UInt8.toNat_inj.1 (by show c.toNat = 92; omega), fun h => by rw [h]; rfl⟩
/-! ### a literal -/
def ints (l : List UInt8) : List Int := l.map fun c => (c.toNat : Int)
def litA (acc : List Int) (i : Nat) : Except Nat (List UInt8 × Nat) → ByteArray × Int × Bool
  | .error j => (⟨#[]⟩, ((i + j : Nat) : Int), false)
  | .ok (t, n) => (strOfNums (acc ++ ints t), ((i + n : Nat) : Int), true)
theorem ev_lit_l0 (x : ByteArray) (hx : x.size ≤ 100000) : ∀ (m i : Nat) (acc : List Int), x.size - i ≤ m → i ≤ x.size → acc.length ≤ i →
    Ev (fun k => lexer_literal.l0 k x acc (i : Int)) (litA acc i (lit (x.data.toList.drop i)))
  | m, i, acc, hm, hi, ha => by
    by_cases he : i = x.size
    · subst he
      refine ev_some (fun k => ?_)
      rw [lexer_literal.l0, if_neg (by omega), List.drop_of_length_le (by rw [data_length]; exact Nat.le_refl _), lit_nil]
      rfl
    · have hlt : i < x.size := by omega
      obtain ⟨m, rfl⟩ : ∃ m', m = m' + 1 := ⟨m - 1, by omega⟩
      obtain ⟨c, hd, hc⟩ := at_drop x i hlt
      have hc256 := c.toNat_lt
      rw [hd]
      by_cases h1 : c = 34
      · refine ev_some (fun k => ?_)
        have : bt x (i : Int) = 34 := by rw [hc, h1]; rfl
        rw [lexer_literal.l0, if_pos (by omega), if_pos (by omega), if_pos this, h1, lit_end, wid (by omega) (by omega)]
        simp [litA, ints]
      · have n34 : ¬ bt x (i : Int) = 34 := by
          rw [hc]; intro h; exact h1 (UInt8.toNat_inj.1 (by show c.toNat = 34; omega))
        by_cases h2 : c = 92
        · have e92 : bt x (i : Int) = 92 := by rw [hc, h2]; rfl
          have hw : wrap64 ((i : Int) + 1) = ((i + 1 : Nat) : Int) := by rw [wid (by omega) (by omega)]; omega
          have hex : Ev (fun k => lexer_escaped.f k (x.extract (((i + 1 : Nat) : Int)).toNat x.size)) (escI (esc (x.data.toList.drop (i + 1)))) := by
            have h := ev_escaped (x.extract (i + 1) x.size) (by rw [ByteArray.size_extract]; omega)
            rw [drop_data] at h
            exact h
          subst h2
          cases es : esc (x.data.toList.drop (i + 1)) with
          | none =>
            rw [es] at hex
            rw [lit_none _ es]
            refine evs (fun k => by
              rw [lexer_literal.l0, if_pos (by omega), if_pos (by omega), if_neg n34, if_pos e92, hw, if_pos (by omega), if_pos (by omega)]) (ev_bind hex ?_)
            refine ev_const (fun k => ?_)
            show (if (0 : Int) = 0 then _ else _) = _
            rw [if_pos rfl]
            simp [litA]
          | some p =>
            obtain ⟨d, n⟩ := p
            rw [es] at hex
            have hn := esc_le es
            rw [List.length_drop, data_length] at hn
            have ih := ev_lit_l0 x hx m (i + 1 + n) (acc ++ [(d.toNat : Int)]) (by omega) (by omega) (by simp; omega)
            rw [lit_esc _ es, List.drop_drop]
            refine evs (fun k => by
              rw [lexer_literal.l0, if_pos (by omega), if_pos (by omega), if_neg n34, if_pos e92, hw, if_pos (by omega), if_pos (by omega)]) (ev_bind hex ?_)
            refine Ev.congr (fun k => ?_) (ev_eq ih ?_)
            · show (if ((n : Int)) = 0 then _ else _) = _
              rw [if_neg (by omega), if_pos (by omega), wid (n := (i : Int) + (escI (some (d, n))).2) (by show _ ≤ (i : Int) + (n : Int); omega) (by show (i : Int) + (n : Int) ≤ _; omega)]
              rw [show (i : Int) + (escI (some (d, n))).2 = (i : Int) + (n : Int) from rfl, wid (by omega) (by omega), show (i : Int) + (n : Int) + 1 = ((i + 1 + n : Nat) : Int) from by omega]
              rfl
            · cases lit (List.drop (i + 1 + n) x.data.toList) with
              | error j => simp only [litA]; congr 2; omega
              | ok q => obtain ⟨t, q⟩ := q; simp only [litA, ints, List.map_cons, List.append_assoc, List.cons_append, List.nil_append]; congr 2; omega
        · have n92 : ¬ bt x (i : Int) = 92 := by
            rw [hc]; intro h; exact h2 (UInt8.toNat_inj.1 (by show c.toNat = 92; omega))
          have ih := ev_lit_l0 x hx m (i + 1) (acc ++ [(c.toNat : Int)]) (by omega) (by omega) (by simp; omega)
          rw [lit_plain _ _ h1 h2]
          refine evs (fun k => by
            rw [lexer_literal.l0, if_pos (by omega), if_pos (by omega), if_neg n34, if_neg n92, if_pos (by omega), hc, wid (by omega) (by omega), show (i : Int) + 1 = ((i + 1 : Nat) : Int) from by omega]) (ev_eq ih ?_)
          cases lit (List.drop (i + 1) x.data.toList) with
          | error j => simp only [litA]; congr 2; omega
          | ok q => obtain ⟨t, q⟩ := q; simp only [litA, ints, List.map_cons, List.append_assoc, List.cons_append, List.nil_append]; congr 2; omega
def litR : Except Nat (List UInt8 × Nat) → ByteArray × Int × Bool
  | .error j => (⟨#[]⟩, (j : Int), false)
  | .ok (t, n) => (⟨t.toArray⟩, (n : Int), true)
theorem ev_literal (x : ByteArray) (hx : x.size ≤ 100000) : Ev (fun k => lexer_literal.f k x) (litR (lit x.data.toList)) := by
  have h := ev_lit_l0 x hx x.size 0 [] (by omega) (by omega) (by simp)
  refine Ev.congr (fun k => rfl) (ev_eq h ?_)
  rw [List.drop_zero]
  cases lit x.data.toList with
  | error j => simp [litA, litR]
  | ok q => obtain ⟨t, q⟩ := q; simp only [litA, litR, List.nil_append, ints, nums_str, Nat.zero_add]
/-! ### the words -/
theorem letter_f (c : UInt8) : lexer_letter.f (c.toNat : Int) = some (letter c) := by
  have h := bytes (fun n => lexer_letter.f (n : Int) = some (letter (UInt8.ofNat n))) (by decide +kernel) c
  rwa [ofNat_toNat] at h
theorem word_f (x : ByteArray) : lexer_word.f x = some ((word x.data.toList : Nat) : Int) := by
  unfold lexer_word.f word
  rw [ByteArray.toList_eq]
  split
  · rfl
  · split
    · rfl
    · split <;> rfl
theorem sign_f (c : UInt8) : strings_IndexByte.f (⟨#[40, 41, 91, 93, 94]⟩ : ByteArray) (c.toNat : Int) = some (((sign c : Nat) : Int) - 1) := by
  have h := bytes (fun n => strings_IndexByte.f (⟨#[40, 41, 91, 93, 94]⟩ : ByteArray) (n : Int) = some (((sign (UInt8.ofNat n) : Nat) : Int) - 1)) (by decide +kernel) c
  rwa [ofNat_toNat] at h
theorem sign_le (c : UInt8) : sign c ≤ 5 := by
  unfold sign
  repeat (split; · omega)
  omega
def tk (t : Tk) : Tok := ⟨(t.kind : Int), (t.pl : Int), ⟨t.text.toArray⟩⟩
def resS : Except Nat (List Tk) → List Tok × Int × Int
  | .error j => ([], 171, (j : Int))
  | .ok l => (l.map tk, 0, 0)
def resA (acc : List Tok) : Except Nat (List Tk) → List Tok × Int × Int
  | .error j => ([], 171, (j : Int))
  | .ok l => (acc ++ l.map tk, 0, 0)
theorem resA_cons (acc : List Tok) (t : Tk) (e : Except Nat (List Tk)) : resA (acc ++ [tk t]) e = resA acc (e.map (t :: ·)) := by
  cases e with
  | error j => rfl
  | ok l => simp [resA, Except.map]
/-- Some words, where they are: what Split tells. -/
def split (x : ByteArray) : List Tok × Int × Int := if x.size > 1024 then ([], 231, 0) else resS (toks 0 x.data.toList)
theorem ev_split_l1 (x : ByteArray) (hx : x.size ≤ 1024) (acc : List Tok) (i : Nat) (hi : i < x.size) (k0 p0 : Int) (t0 : ByteArray) (r : List Tok × Int × Int)
    (N : Nat) (hN : 1 ≤ N ∧ i + N ≤ x.size) (hall : ∀ j, j < N → ∃ c : UInt8, bt x ((i + j : Nat) : Int) = (c.toNat : Int) ∧ letter c = true) (hend : i + N = x.size ∨ ∃ c : UInt8, bt x ((i + N : Nat) : Int) = (c.toNat : Int) ∧ letter c = false)
    (hr : Ev (fun k => if 0 ≤ (i : Int) then (if (i : Int) ≤ ((i + N : Nat) : Int) then (if ((i + N : Nat) : Int) ≤ (x.size : Int) then ((lexer_word.f (x.extract ((i : Int)).toNat (((i + N : Nat) : Int)).toNat)).bind fun t125 => (if t125 = 0 then (some (([] : List Tok), 171, (i : Int))) else (if acc.length < 4398046511104 then (lexer_Split.l0 k x (acc ++ [(⟨t125, p0, t0⟩ : Tok)]) ((i + N : Nat) : Int)) else (none)))) else (none)) else (none)) else (none)) r) :
    ∀ (m n : Nat), n + m = N → 1 ≤ n → Ev (fun k => lexer_Split.l1 k x acc (i : Int) (n : Int) k0 p0 t0) r
  | 0, n, hn, h1 => by
    obtain rfl : n = N := by omega
    have hw : wrap64 ((i : Int) + (n : Int)) = ((i + n : Nat) : Int) := by rw [wid (by omega) (by omega)]; omega
    rcases hend with he | ⟨c, hc, hl⟩
    · refine evs (fun k => ?_) hr
      rw [lexer_Split.l1, hw, if_neg (by omega)]
    · by_cases he : i + n = x.size
      · refine evs (fun k => ?_) hr
        rw [lexer_Split.l1, hw, if_neg (by omega)]
      · refine evs (fun k => ?_) hr
        rw [lexer_Split.l1, hw, if_pos (by omega), if_pos (by omega), hc, letter_f, hl]
        simp only [Option.bind_some]
        rw [if_neg (by simp)]
  | m + 1, n, hn, h1 => by
    have hw : wrap64 ((i : Int) + (n : Int)) = ((i + n : Nat) : Int) := by rw [wid (by omega) (by omega)]; omega
    obtain ⟨c, hc, hl⟩ := hall n (by omega)
    refine evs (fun k => ?_) (ev_split_l1 x hx acc i hi k0 p0 t0 r N hN hall hend hr m (n + 1) (by omega) (by omega))
    rw [lexer_Split.l1, hw, if_pos (by omega), if_pos (by omega), hc, letter_f, hl]
    simp only [Option.bind_some]
    rw [if_pos trivial, wid (by omega) (by omega), show (n : Int) + 1 = ((n + 1 : Nat) : Int) from by omega]
theorem run_facts (x : ByteArray) (i : Nat) (c : UInt8) (r : List UInt8) (h : x.data.toList.drop i = c :: r) (hc : letter c = true) :
    i + (1 + (r.takeWhile letter).length) ≤ x.size ∧ (∀ j, j < 1 + (r.takeWhile letter).length → ∃ c : UInt8, bt x ((i + j : Nat) : Int) = (c.toNat : Int) ∧ letter c = true) ∧
    (i + (1 + (r.takeWhile letter).length) = x.size ∨ ∃ c : UInt8, bt x ((i + (1 + (r.takeWhile letter).length) : Nat) : Int) = (c.toNat : Int) ∧ letter c = false) ∧
    x.data.toList.drop (i + (1 + (r.takeWhile letter).length)) = r.dropWhile letter ∧ (x.extract i (i + (1 + (r.takeWhile letter).length))).data.toList = c :: r.takeWhile letter := by
  have hsplit : r = r.takeWhile letter ++ r.dropWhile letter := (List.takeWhile_append_dropWhile).symm
  have hlen : x.size = i + 1 + (r.takeWhile letter).length + (r.dropWhile letter).length := by
    have h1 : (x.data.toList.drop i).length = r.length + 1 := by rw [h]; rfl
    rw [List.length_drop, data_length] at h1
    have h2 : r.length = (r.takeWhile letter).length + (r.dropWhile letter).length := by conv => lhs; rw [hsplit, List.length_append]
    omega
  have hdrop : x.data.toList.drop (i + (1 + (r.takeWhile letter).length)) = r.dropWhile letter := by
    rw [← List.drop_drop, h, Nat.add_comm 1, List.drop_succ_cons]
    have h9 := congrArg (List.drop (r.takeWhile letter).length) hsplit
    rw [List.drop_left] at h9
    exact h9
  have hat : ∀ j, i + j < x.size → ∃ d : UInt8, bt x ((i + j : Nat) : Int) = (d.toNat : Int) ∧ (c :: r)[j]? = some d := by
    intro j hj
    obtain ⟨d, h1, h2⟩ := at_drop x (i + j) hj
    refine ⟨d, h2, ?_⟩
    rw [← h, List.getElem?_drop]
    have := congrArg (fun l => l[0]?) h1
    simpa using this
  refine ⟨by omega, ?_, ?_, hdrop, ?_⟩
  · intro j hj
    obtain ⟨d, h1, h2⟩ := hat j (by omega)
    refine ⟨d, h1, ?_⟩
    cases j with
    | zero => simp at h2; rw [← h2]; exact hc
    | succ j =>
      rw [List.getElem?_cons_succ, hsplit, List.getElem?_append_left (by omega)] at h2
      have hm := List.mem_of_getElem? h2
      exact List.all_eq_true.1 (List.all_takeWhile (l := r)) d hm
  · cases he : r.dropWhile letter with
    | nil => left; rw [he] at hlen; simp at hlen; omega
    | cons d l =>
      right
      obtain ⟨d', h1, h2⟩ := at_drop x (i + (1 + (r.takeWhile letter).length)) (by rw [hlen, he]; simp; omega)
      rw [hdrop, he] at h1
      injection h1 with h1 _
      subst h1
      refine ⟨d, h2, ?_⟩
      have := List.head?_dropWhile_not letter r
      rw [he] at this
      simpa using this
  · rw [extract_list, h]
    rw [show i + (1 + (r.takeWhile letter).length) - i = (r.takeWhile letter).length + 1 from by omega, List.take_succ_cons]
    congr 1
    have h9 := congrArg (List.take (r.takeWhile letter).length) hsplit
    rw [List.take_left] at h9
    exact h9
theorem ev_split_l0 (x : ByteArray) (hx : x.size ≤ 1024) : ∀ (m i : Nat) (acc : List Tok), x.size - i ≤ m → i ≤ x.size → acc.length ≤ i →
    Ev (fun k => lexer_Split.l0 k x acc (i : Int)) (resA acc (toks i (x.data.toList.drop i)))
  | m, i, acc, hm, hi, ha => by
    by_cases he : i = x.size
    · subst he
      refine ev_some (fun k => ?_)
      rw [lexer_Split.l0, if_neg (by omega), List.drop_of_length_le (by rw [data_length]; exact Nat.le_refl _), toks_nil]
      simp [resA]
    · have hlt : i < x.size := by omega
      obtain ⟨m, rfl⟩ : ∃ m', m = m' + 1 := ⟨m - 1, by omega⟩
      obtain ⟨c, hd, hc⟩ := at_drop x i hlt
      have hc256 := c.toNat_lt
      have hw : wrap64 ((i : Int) + 1) = ((i + 1 : Nat) : Int) := by rw [wid (by omega) (by omega)]; omega
      have hb : ∀ b : Bool, b = isBlank c → Ev (fun k => lexer_Split.j1 k x acc (i : Int) 1 (c.toNat : Int) b 0 (i : Int) (⟨#[]⟩ : ByteArray)) (resA acc (toks i (x.data.toList.drop i))) := by
        intro b hb
        subst hb
        rw [hd]
        cases hbl : isBlank c with
        | true =>
          rw [toks_blank i c _ hbl]
          refine evs (fun k => ?_) (ev_split_l0 x hx m (i + 1) acc (by omega) (by omega) (by omega))
          rw [lexer_Split.j1, if_pos rfl, hw]
        | false =>
          by_cases h34 : c = 34
          · subst h34
            have hl : Ev (fun k => lexer_literal.f k (x.extract (((i + 1 : Nat) : Int)).toNat x.size)) (litR (lit (x.data.toList.drop (i + 1)))) := by
              have h := ev_literal (x.extract (i + 1) x.size) (by rw [ByteArray.size_extract]; omega)
              rw [drop_data] at h
              exact h
            rw [toks_lit]
            refine evs (fun k => by rw [lexer_Split.j1, if_neg (by simp), if_pos (show ((UInt8.toNat 34 : Nat) : Int) = 34 from rfl), hw, if_pos (by omega), if_pos (by omega)]) (ev_bind hl ?_)
            have hle := lit_le _ (x.data.toList.drop (i + 1)) (Nat.le_refl _)
            rw [List.length_drop, data_length] at hle
            cases el : lit (x.data.toList.drop (i + 1)) with
            | error j =>
              have := hle.2 j el
              refine ev_const (fun k => ?_)
              refine (if_neg (c := (litR (Except.error j)).2.2 = true) (by simp [litR])).trans ?_
              show some (([] : List Tok), (171 : Int), wrap64 (((i + 1 : Nat) : Int) + (j : Int))) = some (([] : List Tok), (171 : Int), ((i + 1 + j : Nat) : Int))
              rw [wid (by omega) (by omega), show ((i + 1 : Nat) : Int) + (j : Int) = ((i + 1 + j : Nat) : Int) from by omega]
            | ok q =>
              obtain ⟨t, n⟩ := q
              have := hle.1 t n el
              have ih := ev_split_l0 x hx m (i + 1 + n) (acc ++ [tk ⟨6, i, t⟩]) (by omega) (by omega) (by simp; omega)
              rw [resA_cons, ← List.drop_drop] at ih
              refine Ev.congr (fun k => ?_) ih
              simp only [litR]
              rw [if_pos trivial, if_neg (by omega), if_pos (by omega), wid (n := (n : Int) + 1) (by omega) (by omega), wid (by omega) (by omega), show (i : Int) + ((n : Int) + 1) = ((i + 1 + n : Nat) : Int) from by omega]
              rfl
          · have n34 : ¬ (c.toNat : Int) = 34 := by
              intro h; exact h34 (UInt8.toNat_inj.1 (by show c.toNat = 34; omega))
            cases hle : letter c with
            | true =>
              obtain ⟨f1, f2, f3, f4, f5⟩ := run_facts x i c _ hd hle
              rw [toks_word i c _ hbl h34 hle]
              generalize hN : 1 + (List.takeWhile letter (List.drop (i + 1) x.data.toList)).length = N at *
              refine evs (fun k => by rw [lexer_Split.j1, if_neg (by simp), if_neg n34, letter_f, hle]) ?_
              refine ev_split_l1 x hx acc i hlt 0 (i : Int) (⟨#[]⟩ : ByteArray) _ N ⟨by omega, f1⟩ f2 f3 ?_ (N - 1) 1 (by omega) (Nat.le_refl _)
              have hwd : lexer_word.f (x.extract ((i : Int)).toNat (((i + N : Nat) : Int)).toNat) = some ((word (c :: List.takeWhile letter (List.drop (i + 1) x.data.toList)) : Nat) : Int) := by
                rw [word_f]
                show some (((word (x.extract i (i + N)).data.toList : Nat)) : Int) = _
                rw [f5]
              by_cases hz : word (c :: List.takeWhile letter (List.drop (i + 1) x.data.toList)) = 0
              · refine ev_const (fun k => ?_)
                rw [if_pos (by omega), if_pos (by omega), if_pos (by omega), hwd]
                simp only [Option.bind_some]
                rw [if_pos (by omega), if_pos hz]
                rfl
              · have ih := ev_split_l0 x hx m (i + N) (acc ++ [tk ⟨word (c :: List.takeWhile letter (List.drop (i + 1) x.data.toList)), i, []⟩]) (by omega) (by omega) (by simp; omega)
                rw [resA_cons, f4] at ih
                rw [if_neg hz]
                refine Ev.congr (fun k => ?_) ih
                rw [if_pos (by omega), if_pos (by omega), if_pos (by omega), hwd]
                simp only [Option.bind_some]
                rw [if_neg (by omega), if_pos (by omega)]
                rfl
            | false =>
              rw [toks_sign i c _ hbl h34 hle]
              have hs5 := sign_le c
              by_cases hz : sign c = 0
              · refine ev_some (fun k => ?_)
                rw [lexer_Split.j1, if_neg (by simp), if_neg n34, letter_f, hle, sign_f]
                simp only [Option.bind_some]
                rw [if_neg (by simp), if_pos (by rw [wid (by omega) (by omega)]; omega), if_pos hz]
                rfl
              · have ih := ev_split_l0 x hx m (i + 1) (acc ++ [tk ⟨sign c, i, []⟩]) (by omega) (by omega) (by simp; omega)
                rw [resA_cons] at ih
                rw [if_neg hz]
                refine evs (fun k => ?_) ih
                rw [lexer_Split.j1, if_neg (by simp), if_neg n34, letter_f, hle, sign_f]
                simp only [Option.bind_some]
                rw [if_neg (by simp), if_neg (by rw [wid (by omega) (by omega)]; omega), if_pos (by omega), hw, wid (by omega) (by omega), show ((sign c : Nat) : Int) - 1 + 1 = ((sign c : Nat) : Int) from by omega]
                rfl
      by_cases e1 : c = 32
      · have e1' : bt x (i : Int) = 32 := by rw [hc, e1]; rfl
        refine evs (fun k => by rw [lexer_Split.l0, if_pos (by omega), if_pos (by omega), if_pos e1', hc]) (hb _ ?_)
        rw [e1]; rfl
      · have e1' : ¬ bt x (i : Int) = 32 := by rw [hc]; intro h; exact e1 (UInt8.toNat_inj.1 (by show c.toNat = 32; omega))
        by_cases e2 : c = 9
        · have e2' : bt x (i : Int) = 9 := by rw [hc, e2]; rfl
          refine evs (fun k => by rw [lexer_Split.l0, if_pos (by omega), if_pos (by omega), if_neg e1', if_pos e2', hc]) (hb _ ?_)
          rw [e2]; rfl
        · have e2' : ¬ bt x (i : Int) = 9 := by rw [hc]; intro h; exact e2 (UInt8.toNat_inj.1 (by show c.toNat = 9; omega))
          refine evs (fun k => by rw [lexer_Split.l0, if_pos (by omega), if_pos (by omega), if_neg e1', if_neg e2', hc]) (hb _ ?_)
          rw [Bool.eq_iff_iff]
          simp only [isBlank, beq_iff_eq, Bool.or_eq_true, e1, e2, false_or]
          exact ⟨fun h => UInt8.toNat_inj.1 (by show c.toNat = 10; omega), fun h => by rw [h]; rfl⟩
theorem ev_Split (x : ByteArray) : Ev (fun k => lexer_Split.f k x) (split x) := by
  unfold split
  by_cases h : x.size > 1024
  · rw [if_pos h]
    refine Ev.congr (fun k => by unfold lexer_Split.f; rw [if_pos (by omega)]) (Ev.now _)
  · rw [if_neg h]
    have h0 := ev_split_l0 x (by omega) x.size 0 [] (by omega) (by omega) (by simp)
    rw [List.drop_zero] at h0
    refine Ev.congr (fun k => by unfold lexer_Split.f; rw [if_neg (by omega)]; rfl) (ev_eq h0 ?_)
    cases toks 0 x.data.toList <;> simp [resA, resS]
end Go.Proofs.YtfoijdahgkngpaaDoor.LexPure
