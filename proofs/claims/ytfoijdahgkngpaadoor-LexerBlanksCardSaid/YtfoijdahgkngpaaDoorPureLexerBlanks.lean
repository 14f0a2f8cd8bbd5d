/- LexerBlanks: blanks between words change no word, and no kind; a query of blanks has none. In plain Lean; no condition. -/
import Derived.Test.YtfoijdahgkngpaaDoorLexPure2
import Derived.Test.YtfoijdahgkngpaaDoorLexSpec2
import Derived.Test.YtfoijdahgkngpaaDoorL4
import Derived.Test.YtfoijdahgkngpaaDoorL12
namespace Go.Proofs.YtfoijdahgkngpaaDoor.Pure
set_option linter.unusedVariables false
set_option linter.unusedSimpArgs false
open Go.RowKit Go.Proofs.YtfoijdahgkngpaaDoor.L Go.Proofs.YtfoijdahgkngpaaDoorW.PrintWords Go.Proofs.YtfoijdahgkngpaaDoor.PureLib Go.Proofs.YtfoijdahgkngpaaDoor.LexSpec Go.Proofs.YtfoijdahgkngpaaDoor.LexPure
theorem q_head : Ev (fun k => verbatimlaw17_head.f k) true := Ev.of verbatimlaw17_head.mono (k := 40) (by decide +kernel)
theorem app_list (a b : ByteArray) : (a ++ b).data.toList = a.data.toList ++ b.data.toList := by simp [ByteArray.data_append]
theorem tok_get (l : List Tk) (i : Nat) (h : i < l.length) : rd_T33 (l.map tk) (i : Int) = tk l[i] := by
  show (l.map tk).getD _ _ = _
  simp [List.getD_eq_getElem?_getD, h]
def signs : List ByteArray := [(⟨#[40]⟩ : ByteArray), (⟨#[41]⟩ : ByteArray), (⟨#[91]⟩ : ByteArray), (⟨#[93]⟩ : ByteArray), (⟨#[94]⟩ : ByteArray), (⟨#[]⟩ : ByteArray), (⟨#[65, 78, 68]⟩ : ByteArray), (⟨#[79, 82]⟩ : ByteArray), (⟨#[78, 79, 84]⟩ : ByteArray)]
theorem sg_lt {K : Nat} (h : K < 9) : ((K : Nat) : Int) < (signs.length : Int) := by
  rw [show signs.length = 9 from rfl]
  omega
/-- A word of letters ahead of what is none. -/
theorem toks_wd (i : Nat) (c : UInt8) (u r : List UInt8) (b : UInt8) (h0 : isBlank c = false) (h1 : c ≠ 34) (h2 : letter c = true) (hu : ∀ x ∈ u, letter x = true) (hb : letter b = false) (hw : word (c :: u) ≠ 0) :
    toks i (c :: (u ++ b :: r)) = (toks (i + (1 + u.length)) (b :: r)).map (⟨word (c :: u), i, []⟩ :: ·) := by
  have e1 : (u ++ b :: r).takeWhile letter = u := by
    rw [List.takeWhile_append_of_pos hu, List.takeWhile_cons_of_neg (by simp [hb]), List.append_nil]
  have e2 : (u ++ b :: r).dropWhile letter = b :: r := by
    rw [List.dropWhile_append_of_pos hu, List.dropWhile_cons_of_neg (by simp [hb])]
  rw [toks_word i c _ h0 h1 h2, e1, e2, if_neg hw]
/-- A sign, or a word, ahead of a blank. -/
theorem toks_sg (k : Nat) (hk : k < 9) (h5 : k ≠ 5) (i : Nat) (b : UInt8) (hb : isBlank b = true) (r : List UInt8) :
    toks i ((signs[k]'hk).data.toList ++ b :: r) = (toks (i + (signs[k]'hk).data.toList.length) (b :: r)).map (⟨k + 1, i, []⟩ :: ·) := by
  have hlb : letter b = false := by
    have : b = 32 ∨ b = 9 ∨ b = 10 := by simpa [isBlank, or_assoc] using hb
    rcases this with rfl | rfl | rfl <;> rfl
  have : k = 0 ∨ k = 1 ∨ k = 2 ∨ k = 3 ∨ k = 4 ∨ k = 6 ∨ k = 7 ∨ k = 8 := by omega
  rcases this with rfl | rfl | rfl | rfl | rfl | rfl | rfl | rfl
  · exact (toks_sign i 40 (b :: r) rfl (by decide) rfl).trans (if_neg (by decide))
  · exact (toks_sign i 41 (b :: r) rfl (by decide) rfl).trans (if_neg (by decide))
  · exact (toks_sign i 91 (b :: r) rfl (by decide) rfl).trans (if_neg (by decide))
  · exact (toks_sign i 93 (b :: r) rfl (by decide) rfl).trans (if_neg (by decide))
  · exact (toks_sign i 94 (b :: r) rfl (by decide) rfl).trans (if_neg (by decide))
  · exact toks_wd i 65 [78, 68] r b rfl (by decide) rfl (by decide) hlb (by decide)
  · exact toks_wd i 79 [82] r b rfl (by decide) rfl (by decide) hlb (by decide)
  · exact toks_wd i 78 [79, 84] r b rfl (by decide) rfl (by decide) hlb (by decide)
/-- The same row of words, but for where they stand. -/
def alike (a b : List Tk) : Prop := a.map (fun t => (t.kind, t.text)) = b.map (fun t => (t.kind, t.text))
theorem blanks_l1 (a b : List Tk) (ha : a.length ≤ 100000) (h : alike a b) : ∀ (d i : Nat), a.length - i ≤ d → i ≤ a.length →
    Ev (fun k => verbatimlaw17_LexerBlanks.l1 k true (a.map tk) (b.map tk) (i : Int)) true
  | d, i, hd, hi => by
    have hl : a.length = b.length := by simpa using congrArg List.length h
    by_cases he : i = a.length
    · exact ev_some (fun k => by rw [verbatimlaw17_LexerBlanks.l1, if_neg (by rw [List.length_map]; omega)])
    · obtain ⟨d, rfl⟩ : ∃ d', d = d' + 1 := ⟨d - 1, by omega⟩
      have i1 : i < a.length := by omega
      have i2 : i < b.length := by omega
      have ht : (a[i].kind, a[i].text) = (b[i].kind, b[i].text) := by
        have := congrArg (fun l => l[i]?) h
        simpa [List.getElem?_map, List.getElem?_eq_getElem i1, List.getElem?_eq_getElem i2] using this
      injection ht with h1 h2
      refine evs (fun k => ?_) (blanks_l1 a b ha h d (i + 1) (by omega) (by omega))
      rw [verbatimlaw17_LexerBlanks.l1, if_pos (by rw [List.length_map]; omega), if_pos (by omega), if_pos (by rw [List.length_map]; omega), tok_get a i i1, tok_get b i i2]
      rw [if_pos (by simp [tk, h1]), if_pos (by rw [ByteArray.toList_eq, ByteArray.toList_eq]; simp [tk, h2]), wid (by omega) (by omega), show (i : Int) + 1 = ((i + 1 : Nat) : Int) from by omega]
theorem flat_le : ∀ l : List UInt8, (l.flatMap q1).length ≤ 4 * l.length
  | [] => by simp
  | c :: l => by
    have h1 := q1_len c
    have h2 := flat_le l
    rw [List.flatMap_cons, List.length_append, List.length_cons]
    omega
/-- Some words are added to both. -/
theorem Ahead.word {b s : List UInt8} {ts : List Tk} (h : Ahead b ts) (kd : Nat) (tx : List UInt8) (hs : ∀ (i : Nat) (c : UInt8) (r : List UInt8), isBlank c = true → toks i (s ++ c :: r) = (toks (i + s.length) (c :: r)).map (⟨kd, i, tx⟩ :: ·)) : ∃ p, Ahead (b ++ s ++ [32]) (ts ++ [(⟨kd, p, tx⟩ : Tk)]) := by
  refine ⟨b.length, ?_⟩
  rw [List.append_assoc]
  refine h.add (fun r => ?_)
  rw [List.append_assoc, show [32] ++ r = 32 :: r from rfl, hs _ _ _ rfl, toks_sp, List.length_append, ← Nat.add_assoc]
  rfl
theorem Ahead.wide {b s : List UInt8} {ts : List Tk} (h : Ahead b ts) (kd : Nat) (tx : List UInt8) (hs : ∀ (i : Nat) (c : UInt8) (r : List UInt8), isBlank c = true → toks i (s ++ c :: r) = (toks (i + s.length) (c :: r)).map (⟨kd, i, tx⟩ :: ·)) : ∃ p, Ahead (b ++ s ++ [10, 9, 32, 32]) (ts ++ [(⟨kd, p, tx⟩ : Tk)]) := by
  refine ⟨b.length, ?_⟩
  rw [List.append_assoc]
  refine h.add (fun r => ?_)
  rw [List.append_assoc, show [10, 9, 32, 32] ++ r = 10 :: 9 :: 32 :: 32 :: r from rfl, hs _ _ _ rfl, toks_blank _ 10 _ rfl, toks_blank _ 9 _ rfl, toks_sp, toks_sp, List.length_append]
  simp only [List.length_cons, List.length_nil, ← Nat.add_assoc]
  rfl
/-- What holds behind i kinds. -/
structure Inv (i : Nat) (q w : ByteArray) (a b : List Tk) : Prop where
  A : Ahead q.data.toList a
  B : Ahead w.data.toList b
  ab : alike a b
  qw : q.size ≤ w.size
  w : w.size ≤ 1 + 100 * i
  al : a.length ≤ i
theorem Inv.add {i : Nat} {q w : ByteArray} {a b : List Tk} (h : Inv i q w a b) (s : ByteArray) (kd : Nat) (tx : List UInt8) (hs : s.size ≤ 82) (ht : ∀ (i : Nat) (c : UInt8) (r : List UInt8), isBlank c = true → toks i (s.data.toList ++ c :: r) = (toks (i + s.data.toList.length) (c :: r)).map (⟨kd, i, tx⟩ :: ·)) :
    ∃ a' b', Inv (i + 1) ((q ++ s) ++ (⟨#[32]⟩ : ByteArray)) ((w ++ s) ++ (⟨#[10, 9, 32, 32]⟩ : ByteArray)) a' b' := by
  obtain ⟨p1, hp1⟩ := Ahead.word h.A kd tx ht
  obtain ⟨p2, hp2⟩ := Ahead.wide h.B kd tx ht
  have z1 : (⟨#[32]⟩ : ByteArray).size = 1 := rfl
  have z4 : (⟨#[10, 9, 32, 32]⟩ : ByteArray).size = 4 := rfl
  have h1 := h.qw
  have h2 := h.w
  have h3 := h.al
  have h4 := h.ab
  refine ⟨a ++ [(⟨kd, p1, tx⟩ : Tk)], b ++ [(⟨kd, p2, tx⟩ : Tk)], ?_, ?_, ?_, ?_, ?_, ?_⟩
  · rw [app_list, app_list]; exact hp1
  · rw [app_list, app_list]; exact hp2
  · unfold alike at h4 ⊢
    rw [List.map_append, List.map_append, h4]
    rfl
  · rw [ByteArray.size_append, ByteArray.size_append, ByteArray.size_append, ByteArray.size_append, z1, z4]; omega
  · rw [ByteArray.size_append, ByteArray.size_append, z4]; omega
  · rw [List.length_append]
    show a.length + 1 ≤ i + 1
    omega
theorem Inv.skip {i : Nat} {q w : ByteArray} {a b : List Tk} (h : Inv i q w a b) : Inv (i + 1) q w a b :=
  ⟨h.A, h.B, h.ab, h.qw, by have := h.w; omega, by have := h.al; omega⟩
theorem blanks_fin (x0 : List ByteArray) (x1 : List Int) (i n : Int) (j : Nat) (hj : j ≤ 20) (q w : ByteArray) (a b : List Tk) (h : Inv j q w a b) : Ev (fun k => verbatimlaw17_LexerBlanks.j1 k x0 x1 true signs q w n i false) true := by
  have e3 : split (⟨#[32, 10, 9]⟩ : ByteArray) = ([], 0, 0) := by
    unfold LexPure.split
    rw [if_neg (by decide), show (⟨#[32, 10, 9]⟩ : ByteArray).data.toList = [32, 10, 9] from rfl, toks_sp, toks_blank _ 10 _ rfl, toks_blank _ 9 _ rfl, toks_nil]
    rfl
  have h3 := ev_Split (⟨#[32, 10, 9]⟩ : ByteArray)
  rw [e3] at h3
  have hqw := h.qw
  have hal := h.al
  have hab := h.ab
  refine evs (fun k => by rw [verbatimlaw17_LexerBlanks.j1, if_neg (by simp)]) (ev_bind (ev_Split q) (ev_bind (ev_Split w) (ev_bind h3 ?_)))
  by_cases hbig : w.size > 1024
  · exact ev_const (fun k => by rw [if_pos (by omega)])
  · have e1 : split q = (a.map tk, 0, 0) := by unfold LexPure.split; rw [if_neg (by omega), h.A.all]; rfl
    have e2 : split w = (b.map tk, 0, 0) := by unfold LexPure.split; rw [if_neg hbig, h.B.all]; rfl
    rw [e1, e2]
    have hl : a.length = b.length := by simpa using congrArg List.length hab
    refine ev_neg (by omega) (ev_pos rfl (ev_pos rfl (ev_pos rfl (ev_pos (by rw [List.length_map, List.length_map, hl]) (evs (fun k => ?_) (blanks_l1 a b (by omega) hab a.length 0 (by omega) (by omega)))))))
    rw [verbatimlaw17_LexerBlanks.j2, if_neg (by simp)]
    rfl
theorem sg_size (K : Nat) (h : K < 9) : (signs[K]'h).size ≤ 82 := by
  have : ∀ K (h : K < 9), (signs[K]'h).size ≤ 82 := by decide
  exact this K h
theorem wid1 (n : Nat) (h : n ≤ 9223372036854775806) : wrap64 ((n : Int) + 1) = ((n + 1 : Nat) : Int) := by rw [wid (by omega) (by omega)]; omega
theorem quote_small (a : ByteArray) (h : a.size ≤ 20) : (⟨(quote a.data.toList).toArray⟩ : ByteArray).size ≤ 82 := by
  have hql := quote_len a.data.toList
  have hfl := flat_le a.data.toList
  rw [data_length] at hfl
  rw [show (⟨(quote a.data.toList).toArray⟩ : ByteArray).size = (quote a.data.toList).length from by rw [← data_length], hql]
  omega
/-- One kind. -/
theorem blanks_step (x0 : List ByteArray) (hx : x0.length ≤ 8796093021952) (x1 : List Int) (i n K : Nat) (hi : i < 20) (hix : (i : Int) < (x1.length : Int)) (hn : n ≤ i) (h9 : K < 9) (hkk : wrap64 (Int.tmod (rd x1 (i : Int)) 9) = ((K : Nat) : Int))
    (q w : ByteArray) (a b : List Tk) (h : Inv i q w a b)
    (ih : ∀ (n' : Nat) (q' w' : ByteArray) (a' b' : List Tk), n' ≤ i + 1 → Inv (i + 1) q' w' a' b' → Ev (fun k => verbatimlaw17_LexerBlanks.l0 k x0 x1 true signs q' w' (n' : Int) ((i + 1 : Nat) : Int)) true) :
    Ev (fun k => verbatimlaw17_LexerBlanks.j1 k x0 x1 true signs q w (n : Int) (i : Int) true) true := by
  have hw1 : wrap64 ((i : Int) + 1) = ((i + 1 : Nat) : Int) := by rw [wid (by omega) (by omega)]; omega
  have h0i : (0 : Int) ≤ (i : Int) := by omega
  have h0K : (0 : Int) ≤ ((K : Nat) : Int) := by omega
  have hqw := h.qw
  have hww := h.w
  have common : ∀ k, verbatimlaw17_LexerBlanks.j1 (k + 1) x0 x1 true signs q w (n : Int) (i : Int) true = if ((K : Nat) : Int) = 5 then (if (n : Int) ≥ (x0.length : Int) then (verbatimlaw17_LexerBlanks.l0 k x0 x1 true signs q w (n : Int) ((i + 1 : Nat) : Int)) else (if 0 ≤ (n : Int) then (if (n : Int) < (x0.length : Int) then (if ((rdOf ByteArray.empty x0 (n : Int)).size : Int) > 20 then (verbatimlaw17_LexerBlanks.l0 k x0 x1 true signs q w (n : Int) ((i + 1 : Nat) : Int)) else ((lexer_Quote.f k (rdOf ByteArray.empty x0 (n : Int))).bind fun t306 => (if q.size + t306.size ≤ 9223372036854775807 then (if (q.size + t306.size) + 1 ≤ 9223372036854775807 then (if w.size + t306.size ≤ 9223372036854775807 then (if (w.size + t306.size) + 4 ≤ 9223372036854775807 then (verbatimlaw17_LexerBlanks.l0 k x0 x1 true signs ((q ++ t306) ++ (⟨#[32]⟩ : ByteArray)) ((w ++ t306) ++ (⟨#[10, 9, 32, 32]⟩ : ByteArray)) (wrap64 ((n : Int) + 1)) ((i + 1 : Nat) : Int)) else (none)) else (none)) else (none)) else (none)))) else (none)) else (none))) else (if q.size + (rdOf ByteArray.empty signs ((K : Nat) : Int)).size ≤ 9223372036854775807 then (if (q.size + (rdOf ByteArray.empty signs ((K : Nat) : Int)).size) + 1 ≤ 9223372036854775807 then (if w.size + (rdOf ByteArray.empty signs ((K : Nat) : Int)).size ≤ 9223372036854775807 then (if (w.size + (rdOf ByteArray.empty signs ((K : Nat) : Int)).size) + 4 ≤ 9223372036854775807 then (verbatimlaw17_LexerBlanks.l0 k x0 x1 true signs ((q ++ (rdOf ByteArray.empty signs ((K : Nat) : Int))) ++ (⟨#[32]⟩ : ByteArray)) ((w ++ (rdOf ByteArray.empty signs ((K : Nat) : Int))) ++ (⟨#[10, 9, 32, 32]⟩ : ByteArray)) (n : Int) ((i + 1 : Nat) : Int)) else (none)) else (none)) else (none)) else (none)) := fun k => by
    rw [verbatimlaw17_LexerBlanks.j1, if_pos rfl, if_pos h0i, if_pos hix, hkk, hw1, if_pos h0K, if_pos (sg_lt h9)]
  clear hkk hw1 hix
  by_cases h5 : K = 5
  · have h5' : ((K : Nat) : Int) = 5 := by omega
    refine evs common ?_
    refine ev_pos h5' ?_
    clear common
    by_cases hnx : n ≥ x0.length
    · refine ev_pos (by omega) ?_
      exact ih n q w a b (by omega) h.skip
    · have hnl : n < x0.length := by omega
      have hga : rdOf ByteArray.empty x0 (n : Int) = x0[n] := rdOf_get _ _ _ hnl
      refine ev_neg (by omega) ?_
      refine ev_pos (by omega) ?_
      refine ev_pos (by omega) ?_
      rw [hga]
      by_cases hb : x0[n].size > 20
      · refine ev_pos (by omega) ?_
        exact ih n q w a b (by omega) h.skip
      · have hQ := ev_Quote x0[n] (by omega)
        have hs82 := quote_small x0[n] (by omega)
        have htk : ∀ (i : Nat) (c : UInt8) (r : List UInt8), isBlank c = true → toks i ((⟨(quote x0[n].data.toList).toArray⟩ : ByteArray).data.toList ++ c :: r) = (toks (i + (⟨(quote x0[n].data.toList).toArray⟩ : ByteArray).data.toList.length) (c :: r)).map (⟨6, i, x0[n].data.toList⟩ :: ·) := fun i c r _ => toks_quote i _ (c :: r)
        have hwn : wrap64 ((n : Int) + 1) = ((n + 1 : Nat) : Int) := wid1 n (by omega)
        refine ev_neg (by omega) ?_
        refine ev_bind hQ ?_
        clear hQ
        generalize (⟨(quote x0[n].data.toList).toArray⟩ : ByteArray) = sg at hs82 htk ⊢
        obtain ⟨a', b', hI⟩ := h.add sg 6 x0[n].data.toList hs82 htk
        have hn1 : n + 1 ≤ i + 1 := by omega
        have ihh := ih (n + 1) _ _ a' b' hn1 hI
        rw [hwn]
        clear hga hwn htk ih hI
        refine ev_pos (by omega) ?_
        refine ev_pos (by omega) ?_
        refine ev_pos (by omega) ?_
        refine ev_pos (by omega) ?_
        exact ihh
  · have hgs : rdOf ByteArray.empty signs ((K : Nat) : Int) = signs[K]'h9 := rdOf_get _ _ _ h9
    have hss := sg_size K h9
    obtain ⟨a', b', hI⟩ := h.add (signs[K]'h9) (K + 1) [] hss (fun i c r hc => toks_sg K h9 h5 i c hc r)
    rw [hgs] at common
    clear hgs
    generalize signs[K]'h9 = sg at common hss hI
    refine evs common ?_
    clear common
    have hn1 : n ≤ i + 1 := by omega
    have ihh := ih n _ _ a' b' hn1 hI
    clear ih hI
    refine ev_neg (by omega) ?_
    refine ev_pos (by omega) ?_
    refine ev_pos (by omega) ?_
    refine ev_pos (by omega) ?_
    refine ev_pos (by omega) ?_
    exact ihh
theorem blanks_l0 (x0 : List ByteArray) (hx : x0.length ≤ 8796093021952) (x1 : List Int) (hk : ∀ x ∈ x1, 0 ≤ x ∧ x ≤ 255) : ∀ (d i n : Nat) (q w : ByteArray) (a b : List Tk), i + d = 20 → i ≤ x1.length → n ≤ i → Inv i q w a b →
    Ev (fun k => verbatimlaw17_LexerBlanks.l0 k x0 x1 true signs q w (n : Int) (i : Int)) true := by
  intro d
  induction d with
  | zero =>
    intro i n q w a b hd hi hn h
    by_cases hie : (i : Int) < (x1.length : Int)
    · exact evs (fun k => by rw [verbatimlaw17_LexerBlanks.l0, if_pos hie, decide_eq_false (by omega)]) (blanks_fin x0 x1 _ _ i (by omega) q w a b h)
    · exact evs (fun k => by rw [verbatimlaw17_LexerBlanks.l0, if_neg hie]) (blanks_fin x0 x1 _ _ i (by omega) q w a b h)
  | succ d ih =>
    intro i n q w a b hd hi hn h
    by_cases hie : (i : Int) < (x1.length : Int)
    · have hil : i < x1.length := by omega
      obtain ⟨m, hm⟩ := Int.eq_ofNat_of_zero_le (hk x1[i] (List.getElem_mem hil)).1
      have hkk : wrap64 (Int.tmod (rd x1 (i : Int)) 9) = ((m % 9 : Nat) : Int) := by
        have := Nat.mod_lt m (show 0 < 9 by omega)
        rw [rd_get _ _ hil, hm, show (9 : Int) = ((9 : Nat) : Int) from rfl, ← Int.ofNat_tmod, wid (by omega) (by omega)]
      exact evs (fun k => by rw [verbatimlaw17_LexerBlanks.l0, if_pos hie, decide_eq_true (by omega)]) (blanks_step x0 hx x1 i n (m % 9) (by omega) hie hn (Nat.mod_lt _ (by omega)) hkk q w a b h (fun n' q' w' a' b' hn' h' => ih (i + 1) n' q' w' a' b' (by omega) (by omega) hn' h'))
    · exact evs (fun k => by rw [verbatimlaw17_LexerBlanks.l0, if_neg hie]) (blanks_fin x0 x1 _ _ i (by omega) q w a b h)
theorem LexerBlanks : verbatimlaw17_LexerBlanks.Pure := by
  intro l0 l1 h0 h1
  obtain ⟨k, hk⟩ := Ev.rounds (show Ev (fun k => verbatimlaw17_LexerBlanks.f k l0 l1) true by
    unfold verbatimlaw17_LexerBlanks.f
    refine ev_bind q_head (blanks_l0 l0 h0.1 l1 (fun x hx => wf_u8 (h1.2 x hx)) 20 0 0 ⟨#[]⟩ ⟨#[32]⟩ [] [] (by omega) (by omega) (by omega) ⟨Ahead.nil, ?_, rfl, by decide, by decide, by simp⟩)
    intro r
    show toks 0 (32 :: r) = _
    rw [toks_sp]
    exact (map_id' _).symm)
  exact ⟨k, hk⟩
end Go.Proofs.YtfoijdahgkngpaaDoor.Pure
