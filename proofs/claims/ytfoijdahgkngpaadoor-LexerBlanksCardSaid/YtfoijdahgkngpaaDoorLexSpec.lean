/- What a query's words are, in plain Lean: a literal, the words of bytes, bytes as a literal. No program. -/
import Derived.Test.YtfoijdahgkngpaaDoorPureLib
import Derived.Test.YtfoijdahgkngpaaDoorPu16
import Derived.Lib.SlTrimSet
import Derived.Lib.Bytealg
import Derived.WideShapes
namespace Go.Proofs.YtfoijdahgkngpaaDoor.LexSpec
set_option linter.unusedVariables false
set_option linter.unusedSimpArgs false
open Go.RowKit Go.Proofs.YtfoijdahgkngpaaDoorW.PrintWords Go.Proofs.YtfoijdahgkngpaaDoor.PureLib Go.Proofs.YtfoijdahgkngpaaDoor.Pu16
/-- The byte that what stands behind a backslash is, and how many bytes that has. -/
def esc : List UInt8 → Option (UInt8 × Nat)
  | [] => none
  | c :: r => if c = 34 ∨ c = 92 then some (c, 1) else if c = 120 then
      match r with
      | a :: b :: _ => (hexv a.toNat).bind fun x => (hexv b.toNat).map fun y => (UInt8.ofNat (16 * x + y), 3)
      | _ => none
    else none
/-- The bytes of a literal, from behind its first sign on, and how many bytes it has; or where it is none. -/
def lit : List UInt8 → Except Nat (List UInt8 × Nat)
  | [] => .error 0
  | c :: r =>
    if c = 34 then .ok ([], 1)
    else if c = 92 then
      match esc r with
      | none => .error 0
      | some (d, n) => match lit (r.drop n) with
        | .error j => .error (j + n + 1)
        | .ok (t, m) => .ok (d :: t, m + n + 1)
    else match lit r with
      | .error j => .error (j + 1)
      | .ok (t, m) => .ok (c :: t, m + 1)
termination_by l => l.length
decreasing_by all_goals simp only [List.length_cons, List.length_drop]; omega
structure Tk where
  kind : Nat
  pl : Nat
  text : List UInt8
def isBlank (c : UInt8) : Bool := c == 32 || c == 9 || c == 10
def letter (c : UInt8) : Bool := decide (65 ≤ c.toNat ∧ c.toNat ≤ 90) || decide (97 ≤ c.toNat ∧ c.toNat ≤ 122)
def word (l : List UInt8) : Nat := if l = [65, 78, 68] then 7 else if l = [79, 82] then 8 else if l = [78, 79, 84] then 9 else 0
def sign (c : UInt8) : Nat := if c = 40 then 1 else if c = 41 then 2 else if c = 91 then 3 else if c = 93 then 4 else if c = 94 then 5 else 0
/-- The words of bytes, the first of which stands at i; or where they are none. -/
def toks (i : Nat) : List UInt8 → Except Nat (List Tk)
  | [] => .ok []
  | c :: r =>
    if isBlank c = true then toks (i + 1) r
    else if c = 34 then match lit r with
      | .error j => .error (i + 1 + j)
      | .ok (t, n) => (toks (i + 1 + n) (r.drop n)).map (⟨6, i, t⟩ :: ·)
    else if letter c = true then
      if word (c :: r.takeWhile letter) = 0 then .error i
      else (toks (i + (1 + (r.takeWhile letter).length)) (r.dropWhile letter)).map (⟨word (c :: r.takeWhile letter), i, []⟩ :: ·)
    else if sign c = 0 then .error i
    else (toks (i + 1) r).map (⟨sign c, i, []⟩ :: ·)
termination_by l => l.length
decreasing_by
  all_goals simp only [List.length_cons, List.length_drop]
  · omega
  · omega
  · have := (List.dropWhile_suffix (l := r) letter).length_le; omega
  · omega
def digit (n : Nat) : UInt8 := if n < 10 then UInt8.ofNat (48 + n) else UInt8.ofNat (87 + n)
/-- A byte within a literal. -/
def q1 (c : UInt8) : List UInt8 := if c = 34 ∨ c = 92 then [92, c] else if c.toNat < 32 ∨ 126 < c.toNat then [92, 120, digit (c.toNat / 16), digit (c.toNat % 16)] else [c]
/-- Bytes as a literal. -/
def quote (l : List UInt8) : List UInt8 := 34 :: (l.flatMap q1 ++ [34])
theorem lit_nil : lit [] = .error 0 := by rw [lit]
theorem lit_end (r : List UInt8) : lit (34 :: r) = .ok ([], 1) := by rw [lit, if_pos rfl]
theorem lit_none (r : List UInt8) (h : esc r = none) : lit (92 :: r) = .error 0 := by
  rw [lit, if_neg (by decide), if_pos rfl]
  simp only [h]
theorem lit_esc (r : List UInt8) {d : UInt8} {n : Nat} (h : esc r = some (d, n)) : lit (92 :: r) = match lit (r.drop n) with
    | .error j => .error (j + n + 1)
    | .ok (t, m) => .ok (d :: t, m + n + 1) := by
  conv => lhs; rw [lit]
  rw [if_neg (by decide), if_pos rfl]
  simp only [h]
theorem lit_plain (c : UInt8) (r : List UInt8) (h1 : c ≠ 34) (h2 : c ≠ 92) : lit (c :: r) = match lit r with
    | .error j => .error (j + 1)
    | .ok (t, m) => .ok (c :: t, m + 1) := by
  conv => lhs; rw [lit]
  rw [if_neg h1, if_neg h2]
theorem toks_nil (i : Nat) : toks i [] = .ok [] := by rw [toks]
theorem toks_blank (i : Nat) (c : UInt8) (r : List UInt8) (h : isBlank c = true) : toks i (c :: r) = toks (i + 1) r := by
  conv => lhs; rw [toks]
  rw [if_pos h]
theorem toks_lit (i : Nat) (r : List UInt8) : toks i (34 :: r) = match lit r with
      | .error j => .error (i + 1 + j)
      | .ok (t, n) => (toks (i + 1 + n) (r.drop n)).map (⟨6, i, t⟩ :: ·) := by
  conv => lhs; rw [toks]
  rw [if_neg (by decide), if_pos rfl]
theorem toks_word (i : Nat) (c : UInt8) (r : List UInt8) (h : isBlank c = false) (h1 : c ≠ 34) (h2 : letter c = true) : toks i (c :: r) = if word (c :: r.takeWhile letter) = 0 then .error i
      else (toks (i + (1 + (r.takeWhile letter).length)) (r.dropWhile letter)).map (⟨word (c :: r.takeWhile letter), i, []⟩ :: ·) := by
  conv => lhs; rw [toks]
  rw [if_neg (by simp [h]), if_neg h1, if_pos h2]
theorem toks_sign (i : Nat) (c : UInt8) (r : List UInt8) (h : isBlank c = false) (h1 : c ≠ 34) (h2 : letter c = false) : toks i (c :: r) = if sign c = 0 then .error i
      else (toks (i + 1) r).map (⟨sign c, i, []⟩ :: ·) := by
  conv => lhs; rw [toks]
  rw [if_neg (by simp [h]), if_neg h1, if_neg (by simp [h2])]
theorem esc_same {a : UInt8} {r : List UInt8} (h : a = 34 ∨ a = 92) : esc (a :: r) = some (a, 1) := by
  unfold esc
  exact if_pos h
theorem esc_other {a : UInt8} {r : List UInt8} (h1 : ¬ (a = 34 ∨ a = 92)) (h2 : a ≠ 120) : esc (a :: r) = none := by
  unfold esc
  exact (if_neg h1).trans (if_neg h2)
theorem esc_hex {a b c : UInt8} {r : List UInt8} (h2 : a = 120) : esc (a :: b :: c :: r) = (hexv b.toNat).bind fun u => (hexv c.toNat).map fun v => (UInt8.ofNat (16 * u + v), 3) := by
  subst h2
  unfold esc
  exact (if_neg (by decide)).trans (if_pos rfl)
theorem esc_le {l : List UInt8} {d : UInt8} {n : Nat} (h : esc l = some (d, n)) : 1 ≤ n ∧ n ≤ l.length := by
  unfold esc at h
  split at h
  · cases h
  · rename_i c r
    split at h
    · injection h with h; injection h with h1 h2; subst h2; simp
    · split at h
      · split at h
        · rename_i a b r'
          obtain ⟨x, _, h⟩ := Option.bind_eq_some_iff.1 h
          obtain ⟨y, _, h⟩ := Option.map_eq_some_iff.1 h
          injection h with h1 h2; subst h2; simp
        · cases h
      · cases h
theorem lit_le : ∀ (m : Nat) (l : List UInt8), l.length ≤ m → (∀ t n, lit l = .ok (t, n) → 1 ≤ n ∧ n ≤ l.length ∧ t.length < n) ∧ (∀ j, lit l = .error j → j ≤ l.length)
  | m, [], _ => ⟨fun t n h => (by rw [lit_nil] at h; cases h), fun j h => by rw [lit_nil] at h; cases h; simp⟩
  | 0, c :: r, hm => by simp at hm
  | m + 1, c :: r, hm => by
    simp only [List.length_cons] at hm
    by_cases h1 : c = 34
    · subst h1
      rw [lit_end]
      exact ⟨fun t n h => by cases h; simp, fun j h => by cases h⟩
    · by_cases h2 : c = 92
      · subst h2
        cases e : esc r with
        | none =>
          rw [lit_none r e]
          exact ⟨fun t n h => by (cases h), fun j h => by cases h; simp⟩
        | some p =>
          obtain ⟨d, n⟩ := p
          have hn := esc_le e
          have ih := lit_le m (r.drop n) (by rw [List.length_drop]; omega)
          rw [lit_esc r e]
          cases e2 : lit (r.drop n) with
          | error j =>
            have := ih.2 j e2
            rw [List.length_drop] at this
            exact ⟨fun t n h => by (cases h), fun j h => by cases h; simp only [List.length_cons]; omega⟩
          | ok p =>
            obtain ⟨t, q⟩ := p
            have := ih.1 t q e2
            rw [List.length_drop] at this
            exact ⟨fun t n h => by cases h; simp only [List.length_cons]; omega, fun j h => by cases h⟩
      · have ih := lit_le m r (by omega)
        rw [lit_plain c r h1 h2]
        cases e2 : lit r with
        | error j =>
          have := ih.2 j e2
          exact ⟨fun t n h => by (cases h), fun j h => by cases h; simp only [List.length_cons]; omega⟩
        | ok p =>
          obtain ⟨t, q⟩ := p
          have := ih.1 t q e2
          exact ⟨fun t n h => by cases h; simp only [List.length_cons]; omega, fun j h => by cases h⟩
/-- By the first byte: what a rule of toks is. -/
theorem toks_cases {M : List UInt8 → Prop} (l : List UInt8) (h0 : l = [] → M l) (h1 : ∀ c r, l = c :: r → isBlank c = true → M l) (h2 : ∀ r, l = 34 :: r → M l)
    (h3 : ∀ c r, l = c :: r → isBlank c = false → c ≠ 34 → letter c = true → M l) (h4 : ∀ c r, l = c :: r → isBlank c = false → c ≠ 34 → letter c = false → M l) : M l := by
  cases l with
  | nil => exact h0 rfl
  | cons c r =>
    cases hb : isBlank c with
    | true => exact h1 c r rfl hb
    | false =>
      by_cases hc : c = 34
      · subst hc; exact h2 r rfl
      · cases hl : letter c with
        | true => exact h3 c r rfl hb hc hl
        | false => exact h4 c r rfl hb hc hl
end Go.Proofs.YtfoijdahgkngpaaDoor.LexSpec
