/- What words are, further: a literal read back; words that end in a blank; where words stand; a beginning's words. In plain Lean, no program. -/
import Derived.Test.YtfoijdahgkngpaaDoorLexSpec
namespace Go.Proofs.YtfoijdahgkngpaaDoor.LexSpec
set_option linter.unusedVariables false
set_option linter.unusedSimpArgs false
open Go.RowKit Go.Proofs.YtfoijdahgkngpaaDoorW.PrintWords Go.Proofs.YtfoijdahgkngpaaDoor.PureLib Go.Proofs.YtfoijdahgkngpaaDoor.Pu16
/-! ### a literal is read back -/
theorem hexv_digit : ∀ n, n < 16 → hexv (digit n).toNat = some n := by decide +kernel
theorem lit_q1 (c : UInt8) (r : List UInt8) : lit (q1 c ++ r) = match lit r with
    | .error j => .error (j + (q1 c).length)
    | .ok (t, m) => .ok (c :: t, m + (q1 c).length) := by
  unfold q1
  split
  · rename_i h
    show lit (92 :: c :: r) = _
    rw [lit_esc (c :: r) (esc_same h)]
    rfl
  · rename_i h
    split
    · rename_i h2
      show lit (92 :: 120 :: digit (c.toNat / 16) :: digit (c.toNat % 16) :: r) = _
      have hc := c.toNat_lt
      have he : esc (120 :: digit (c.toNat / 16) :: digit (c.toNat % 16) :: r) = some (c, 3) := by
        rw [esc_hex rfl, hexv_digit _ (by omega), hexv_digit _ (by omega)]
        simp only [Option.bind_some, Option.map_some]
        rw [show 16 * (c.toNat / 16) + c.toNat % 16 = c.toNat from by omega]
        simp
      rw [lit_esc _ he]
      rfl
    · show lit (c :: r) = _
      rw [lit_plain c r (fun e => h (Or.inl e)) (fun e => h (Or.inr e))]
      rfl
theorem lit_quote : ∀ (l r : List UInt8), lit (l.flatMap q1 ++ 34 :: r) = .ok (l, (l.flatMap q1).length + 1)
  | [], r => by
    rw [List.flatMap_nil, List.nil_append, lit_end]
    rfl
  | c :: l, r => by
    rw [List.flatMap_cons, List.append_assoc, lit_q1, lit_quote l r]
    simp only [List.length_append]
    congr 2
    omega
theorem quote_len (l : List UInt8) : (quote l).length = (l.flatMap q1).length + 2 := by simp [quote]
theorem toks_quote (i : Nat) (l r : List UInt8) : toks i (quote l ++ r) = (toks (i + (quote l).length) r).map (⟨6, i, l⟩ :: ·) := by
  have h : quote l ++ r = 34 :: (l.flatMap q1 ++ 34 :: r) := by simp [quote]
  rw [h, toks_lit, lit_quote]
  simp only
  rw [quote_len, show l.flatMap q1 ++ 34 :: r = (l.flatMap q1 ++ [34]) ++ r from by simp, List.drop_left' (by simp), show i + 1 + ((l.flatMap q1).length + 1) = i + ((l.flatMap q1).length + 2) from by omega]
theorem toks_sp (i : Nat) (r : List UInt8) : toks i (32 :: r) = toks (i + 1) r := toks_blank i 32 r rfl
theorem map_map {f g : List Tk → List Tk} (e : Except Nat (List Tk)) : (e.map f).map g = e.map (fun l => g (f l)) := by cases e <;> rfl
theorem map_id' (e : Except Nat (List Tk)) : e.map (fun l => [] ++ l) = e := by cases e <;> rfl
/-- What stands ahead is some words, whatever follows. -/
def Ahead (b : List UInt8) (ts : List Tk) : Prop := ∀ r, toks 0 (b ++ r) = (toks b.length r).map (ts ++ ·)
theorem Ahead.nil : Ahead [] [] := fun r => by rw [List.nil_append]; exact (map_id' _).symm
theorem Ahead.add {b : List UInt8} {ts : List Tk} (h : Ahead b ts) {x : List UInt8} {t : List Tk} (hx : ∀ r, toks b.length (x ++ r) = (toks (b.length + x.length) r).map (t ++ ·)) : Ahead (b ++ x) (ts ++ t) := fun r => by
  rw [List.append_assoc, h, hx, map_map, List.length_append]
  simp only [List.append_assoc]
theorem Ahead.all {b : List UInt8} {ts : List Tk} (h : Ahead b ts) : toks 0 b = .ok ts := by
  have := h []
  rw [List.append_nil, toks_nil] at this
  rw [this]
  simp [Except.map]
/-! ### where words stand -/
theorem word_kind (l : List UInt8) : word l = 0 ∨ (7 ≤ word l ∧ word l ≤ 9) := by
  unfold word
  repeat (split; · right; omega)
  left; rfl
theorem sign_kind (c : UInt8) : sign c = 0 ∨ (1 ≤ sign c ∧ sign c ≤ 5) := by
  unfold sign
  repeat (split; · right; omega)
  left; rfl
/-- Words rise, and stand within; kinds are such as there are; where none is stands within. -/
theorem toks_facts : ∀ (m i : Nat) (l : List UInt8), l.length ≤ m →
    (∀ ts, toks i l = .ok ts → (∀ t ∈ ts, i ≤ t.pl ∧ t.pl < i + l.length ∧ 1 ≤ t.kind ∧ t.kind ≤ 9 ∧ (t.kind ≠ 6 → t.text = [])) ∧ ts.Pairwise (fun a b => a.pl < b.pl)) ∧
    (∀ j, toks i l = .error j → i ≤ j ∧ j ≤ i + l.length)
  | m, i, [], _ => by
    rw [toks_nil]
    exact ⟨fun ts h => (by cases h; simp), fun j h => (by cases h)⟩
  | 0, i, c :: r, hm => by simp at hm
  | m + 1, i, c :: r, hm => by
    simp only [List.length_cons] at hm
    have key : ∀ (i' : Nat) (l' : List UInt8) (t : Tk), l'.length ≤ r.length → i < i' → i' + l'.length ≤ i + (r.length + 1) → t.pl = i → 1 ≤ t.kind ∧ t.kind ≤ 9 ∧ (t.kind ≠ 6 → t.text = []) →
        (∀ ts, (toks i' l').map (t :: ·) = .ok ts → (∀ t ∈ ts, i ≤ t.pl ∧ t.pl < i + (c :: r).length ∧ 1 ≤ t.kind ∧ t.kind ≤ 9 ∧ (t.kind ≠ 6 → t.text = [])) ∧ ts.Pairwise (fun a b => a.pl < b.pl)) ∧
        (∀ j, (toks i' l').map (t :: ·) = .error j → i ≤ j ∧ j ≤ i + (c :: r).length) := by
      intro i' l' t hl hi hle ht hk
      have ih := toks_facts m i' l' (by omega)
      cases e : toks i' l' with
      | error j =>
        have := ih.2 j e
        exact ⟨fun ts h => (by cases h), fun k h => (by cases h; simp only [List.length_cons]; omega)⟩
      | ok us =>
        obtain ⟨h1, h2⟩ := ih.1 us e
        refine ⟨fun ts h => ?_, fun k h => (by cases h)⟩
        cases h
        refine ⟨fun u hu => ?_, List.pairwise_cons.2 ⟨fun u hu => ?_, h2⟩⟩
        · rcases List.mem_cons.1 hu with rfl | hu
          · simp only [List.length_cons]
            exact ⟨by omega, by omega, hk⟩
          · have := h1 u hu
            simp only [List.length_cons]
            exact ⟨by omega, by omega, this.2.2⟩
        · have := h1 u hu
          omega
    cases hb : isBlank c with
    | true =>
      rw [toks_blank i c r hb]
      have ih := toks_facts m (i + 1) r (by omega)
      refine ⟨fun ts h => ?_, fun j h => ?_⟩
      · obtain ⟨h1, h2⟩ := ih.1 ts h
        refine ⟨fun t ht => ?_, h2⟩
        have := h1 t ht
        simp only [List.length_cons]
        exact ⟨by omega, by omega, this.2.2⟩
      · have := ih.2 j h
        simp only [List.length_cons]
        omega
    | false =>
      by_cases h34 : c = 34
      · subst h34
        rw [toks_lit]
        have hle := lit_le _ r (Nat.le_refl _)
        cases el : lit r with
        | error j =>
          have := hle.2 j el
          exact ⟨fun ts h => (by cases h), fun k h => (by cases h; simp only [List.length_cons]; omega)⟩
        | ok q =>
          obtain ⟨t, n⟩ := q
          have := hle.1 t n el
          exact key _ _ _ (by rw [List.length_drop]; omega) (by omega) (by rw [List.length_drop]; omega) rfl ⟨by simp, by simp, by simp⟩
      · cases hl : letter c with
        | true =>
          rw [toks_word i c r hb h34 hl]
          split
          · exact ⟨fun ts h => (by cases h), fun k h => (by cases h; simp only [List.length_cons]; omega)⟩
          · rename_i hw
            have hlen : (r.takeWhile letter).length + (r.dropWhile letter).length = r.length := by rw [← List.length_append, List.takeWhile_append_dropWhile]
            have hk := word_kind (c :: r.takeWhile letter)
            exact key _ _ _ (by omega) (by omega) (by omega) rfl ⟨by simp only; omega, by simp only; omega, fun _ => rfl⟩
        | false =>
          rw [toks_sign i c r hb h34 hl]
          split
          · exact ⟨fun ts h => (by cases h), fun k h => (by cases h; simp only [List.length_cons]; omega)⟩
          · have hk := sign_kind c
            exact key _ _ _ (Nat.le_refl _) (by omega) (by omega) rfl ⟨by simp only; omega, by simp only; omega, fun _ => rfl⟩
/-! ### a beginning's words -/
theorem esc_take {r : List UInt8} {m : Nat} {p : UInt8 × Nat} (h : esc (r.take m) = some p) : esc r = some p := by
  match r, m, h with
  | [], m, h => rw [List.take_nil] at h; exact h
  | a :: r, 0, h => rw [List.take_zero] at h; cases h
  | a :: r, m + 1, h =>
    rw [List.take_succ_cons] at h
    by_cases h1 : a = 34 ∨ a = 92
    · rw [esc_same h1] at h ⊢; exact h
    · by_cases h2 : a = 120
      · match r, m, h with
        | [], m, h => rw [List.take_nil] at h; exact h
        | b :: r, 0, h =>
          exfalso
          rw [List.take_zero, h2] at h
          unfold esc at h
          exact absurd h (by simp)
        | [b], m + 1, h => rw [List.take_succ_cons, List.take_nil] at h; exact h
        | b :: c :: r, 1, h =>
          exfalso
          rw [List.take_succ_cons, List.take_zero, h2] at h
          unfold esc at h
          exact absurd h (by simp)
        | b :: c :: r, m + 2, h =>
          rw [List.take_succ_cons, List.take_succ_cons, esc_hex h2] at h
          rw [esc_hex h2]
          exact h
      · rw [esc_other h1 h2] at h; cases h
theorem lit_take : ∀ (q : Nat) (r : List UInt8) (m : Nat) (t : List UInt8) (n : Nat), r.length ≤ q → lit (r.take m) = .ok (t, n) → lit r = .ok (t, n) ∧ n ≤ m
  | q, [], m, t, n, _, h => by rw [List.take_nil, lit_nil] at h; cases h
  | q, c :: r, 0, t, n, _, h => by rw [List.take_zero, lit_nil] at h; cases h
  | 0, c :: r, m + 1, t, n, hq, h => by simp at hq
  | q + 1, c :: r, m + 1, t, n, hq, h => by
    simp only [List.length_cons] at hq
    rw [List.take_succ_cons] at h
    by_cases h1 : c = 34
    · subst h1
      rw [lit_end] at h ⊢
      cases h
      exact ⟨rfl, by omega⟩
    · by_cases h2 : c = 92
      · subst h2
        cases e : esc (r.take m) with
        | none => rw [lit_none _ e] at h; cases h
        | some p =>
          obtain ⟨d, k⟩ := p
          have hk := esc_le e
          rw [List.length_take] at hk
          rw [lit_esc _ e, List.drop_take] at h
          rw [lit_esc _ (esc_take e)]
          cases e2 : lit ((r.drop k).take (m - k)) with
          | error j => rw [e2] at h; cases h
          | ok p =>
            obtain ⟨t', n'⟩ := p
            rw [e2] at h
            have ih := lit_take q (r.drop k) (m - k) t' n' (by rw [List.length_drop]; omega) e2
            rw [ih.1]
            cases h
            exact ⟨rfl, by omega⟩
      · rw [lit_plain _ _ h1 h2] at h
        rw [lit_plain _ _ h1 h2]
        cases e2 : lit (r.take m) with
        | error j => rw [e2] at h; cases h
        | ok p =>
          obtain ⟨t', n'⟩ := p
          rw [e2] at h
          have ih := lit_take q r m t' n' (by omega) e2
          rw [ih.1]
          cases h
          exact ⟨rfl, by omega⟩
theorem tw_take {p : UInt8 → Bool} : ∀ (r : List UInt8) (m : Nat), (r.take m).takeWhile p = (r.takeWhile p).take m
  | [], m => by simp
  | c :: r, 0 => by simp
  | c :: r, m + 1 => by
    rw [List.take_succ_cons]
    cases h : p c with
    | true => rw [List.takeWhile_cons_of_pos (by simpa using h), List.takeWhile_cons_of_pos (by simpa using h), List.take_succ_cons, tw_take r m]
    | false => rw [List.takeWhile_cons_of_neg (by simp [h]), List.takeWhile_cons_of_neg (by simp [h]), List.take_nil]
theorem dw_take {p : UInt8 → Bool} : ∀ (r : List UInt8) (m : Nat), (r.takeWhile p).length ≤ m → (r.take m).dropWhile p = (r.dropWhile p).take (m - (r.takeWhile p).length)
  | [], m, _ => by simp
  | c :: r, 0, h => by
    cases hc : p c with
    | true => rw [List.takeWhile_cons_of_pos (by simpa using hc)] at h; simp at h
    | false => rw [List.takeWhile_cons_of_neg (by simp [hc])]; simp
  | c :: r, m + 1, h => by
    rw [List.take_succ_cons]
    cases hc : p c with
    | true =>
      rw [List.takeWhile_cons_of_pos (by simpa using hc)] at h ⊢
      simp only [List.length_cons] at h ⊢
      rw [List.dropWhile_cons_of_pos (by simpa using hc), List.dropWhile_cons_of_pos (by simpa using hc), dw_take r m (by omega), show m + 1 - ((r.takeWhile p).length + 1) = m - (r.takeWhile p).length from by omega]
    | false =>
      rw [List.takeWhile_cons_of_neg (by simp [hc]), List.dropWhile_cons_of_neg (by simp [hc]), List.dropWhile_cons_of_neg (by simp [hc])]
      simp
theorem word_take {c : UInt8} {u : List UInt8} {m : Nat} (h1 : word (c :: u) ≠ 0) (h2 : word (c :: u.take m) ≠ 0) : u.length ≤ m := by
  unfold word at h1 h2
  match u, h1, h2 with
  | [], _, _ => simp
  | [a], h1, h2 =>
    match m, h2 with
    | 0, h2 => exfalso; rw [List.take_zero] at h2; simp at h2
    | m + 1, _ => simp
  | [a, b], h1, h2 =>
    match m, h2 with
    | 0, h2 => exfalso; rw [List.take_zero] at h2; simp at h2
    | 1, h2 =>
      exfalso
      rw [List.take_succ_cons, List.take_zero] at h2
      simp at h1 h2
      obtain ⟨rfl, rfl⟩ := h2
      simp at h1
    | m + 2, _ => simp
  | a :: b :: d :: u, h1, h2 => exfalso; simp at h1
theorem toks_take : ∀ (q i : Nat) (l : List UInt8) (m : Nat) (ts us : List Tk), l.length ≤ q → toks i l = .ok ts → toks i (l.take m) = .ok us → us.map Tk.pl <+: ts.map Tk.pl
  | q, i, [], m, ts, us, _, h, h' => by
    rw [List.take_nil] at h'
    rw [h] at h'
    cases h'
    exact List.prefix_refl _
  | q, i, c :: r, 0, ts, us, _, h, h' => by
    rw [List.take_zero, toks_nil] at h'
    cases h'
    exact List.nil_prefix
  | 0, i, c :: r, m + 1, ts, us, hq, h, h' => by simp at hq
  | q + 1, i, c :: r, m + 1, ts, us, hq, h, h' => by
    simp only [List.length_cons] at hq
    rw [List.take_succ_cons] at h'
    have key : ∀ (i' : Nat) (l' : List UInt8) (k : Nat) (t t' : Tk), l'.length ≤ r.length → t.pl = t'.pl → (toks i' l').map (t :: ·) = .ok ts → (toks i' (l'.take k)).map (t' :: ·) = .ok us → us.map Tk.pl <+: ts.map Tk.pl := by
      intro i' l' k t t' hl hp e e'
      cases e1 : toks i' l' with
      | error j => rw [e1] at e; cases e
      | ok a =>
        cases e2 : toks i' (l'.take k) with
        | error j => rw [e2] at e'; cases e'
        | ok b =>
          rw [e1] at e; rw [e2] at e'
          have ih := toks_take q i' l' k a b (by omega) e1 e2
          cases e; cases e'
          simp only [List.map_cons, hp]
          exact List.cons_prefix_cons.2 ⟨rfl, ih⟩
    cases hb : isBlank c with
    | true =>
      rw [toks_blank i c _ hb] at h h'
      exact toks_take q (i + 1) r m ts us (by omega) h h'
    | false =>
      by_cases h34 : c = 34
      · subst h34
        rw [toks_lit] at h h'
        cases el : lit (r.take m) with
        | error j => rw [el] at h'; cases h'
        | ok p =>
          obtain ⟨t, n⟩ := p
          obtain ⟨el2, hn⟩ := lit_take _ r m t n (Nat.le_refl _) el
          rw [el2] at h
          rw [el] at h'
          simp only at h h'
          rw [List.drop_take] at h'
          exact key _ _ _ _ _ (by rw [List.length_drop]; omega) rfl h h'
      · cases hl : letter c with
        | true =>
          rw [toks_word i c _ hb h34 hl] at h h'
          rw [tw_take] at h'
          split at h
          · cases h
          · rename_i hw
            split at h'
            · cases h'
            · rename_i hw'
              have hm := word_take hw hw'
              rw [List.take_of_length_le hm, dw_take r m hm] at h'
              exact key _ _ _ _ _ (List.dropWhile_suffix (l := r) letter).length_le rfl h h'
        | false =>
          rw [toks_sign i c _ hb h34 hl] at h h'
          split at h
          · cases h
          · rename_i hs
            rw [if_neg hs] at h'
            exact key _ _ _ _ _ (Nat.le_refl _) rfl h h'
end Go.Proofs.YtfoijdahgkngpaaDoor.LexSpec
