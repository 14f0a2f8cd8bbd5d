/- LexerBad: behind words that can be, the first byte that cannot begin one is told, at its place: by trying the 160 queries. No condition. -/
import Derived.Test.YtfoijdahgkngpaaDoorPureLib
import Derived.Test.YtfoijdahgkngpaaDoorL13
namespace Go.Proofs.YtfoijdahgkngpaaDoor.Pure
set_option linter.unusedVariables false
set_option linter.unusedSimpArgs false
open Go.RowKit Go.Proofs.YtfoijdahgkngpaaDoor.L Go.Proofs.YtfoijdahgkngpaaDoorW.PrintWords Go.Proofs.YtfoijdahgkngpaaDoor.PureLib
set_option maxRecDepth 100000 in
theorem bad_all : ∀ a, a < 20 → ∀ b, b < 8 → verbatimlaw17_LexerBad.f 160 ((a : Nat) : Int) ((b : Nat) : Int) = some true := by decide +kernel
theorem bad_l0 (x0 x1 y0 y1 : Int) (h0 : Int.tmod x0 20 = Int.tmod y0 20) (b : Bool) (l : List ByteArray) (m : List Int) (hl : l.length = 8) (h1 : Int.tmod (wrap64 x1) 8 = Int.tmod (wrap64 y1) 8) : ∀ (k : Nat) (q : ByteArray) (i : Int), verbatimlaw17_LexerBad.l0 k x0 x1 b l m q i = verbatimlaw17_LexerBad.l0 k y0 y1 b l m q i
  | 0, q, i => by rw [verbatimlaw17_LexerBad.l0, verbatimlaw17_LexerBad.l0]
  | k + 1, q, i => by
    rw [verbatimlaw17_LexerBad.l0, verbatimlaw17_LexerBad.l0, hl, h0]
    simp only [show ((8 : Nat) : Int) = 8 from rfl]
    rw [h1, bad_l0 x0 x1 y0 y1 h0 b l m hl h1 k]
theorem LexerBad : verbatimlaw17_LexerBad.Pure := by
  intro a0 a1 h0 h1
  refine ⟨160, ?_⟩
  have g : ∀ (x : Int) (N : Nat), 0 < N → (Lit.int .u8 x).wf = true → ∃ n : Nat, n < N ∧ Int.tmod x (N : Int) = Int.tmod (n : Int) (N : Int) ∧ 0 ≤ x ∧ x ≤ 255 := by
    intro x N hN hx
    have hx := wf_u8 hx
    obtain ⟨m, rfl⟩ := Int.eq_ofNat_of_zero_le hx.1
    refine ⟨m % N, Nat.mod_lt _ hN, ?_, hx⟩
    rw [← Int.ofNat_tmod, ← Int.ofNat_tmod, Nat.mod_mod]
  obtain ⟨m, hm, em, hm0, hm1⟩ := g a0 20 (by omega) h0
  obtain ⟨n, hn, en, hn0, hn1⟩ := g a1 8 (by omega) h1
  have h := bad_all m hm n hn
  unfold verbatimlaw17_LexerBad.f at h ⊢
  rw [← h]
  congr 1
  funext t
  refine bad_l0 _ _ _ _ em t _ _ rfl ?_ 160 _ _
  rw [wid (by omega) (by omega), wid (by omega) (by omega)]
  exact en
end Go.Proofs.YtfoijdahgkngpaaDoor.Pure
