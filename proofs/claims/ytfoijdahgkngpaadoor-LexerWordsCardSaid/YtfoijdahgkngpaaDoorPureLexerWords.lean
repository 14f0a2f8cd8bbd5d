/- LexerWords: each sign and word is one word of its own kind; two words of letters side by side are none: by trying the 81 pairs. No condition. -/
import Derived.Test.YtfoijdahgkngpaaDoorPureLib
import Derived.Test.YtfoijdahgkngpaaDoorL14
namespace Go.Proofs.YtfoijdahgkngpaaDoor.Pure
set_option linter.unusedVariables false
set_option linter.unusedSimpArgs false
open Go.RowKit Go.Proofs.YtfoijdahgkngpaaDoor.L Go.Proofs.YtfoijdahgkngpaaDoorW.PrintWords Go.Proofs.YtfoijdahgkngpaaDoor.PureLib
set_option maxRecDepth 100000 in
theorem words_pairs : ∀ a, a < 9 → ∀ b, b < 9 → verbatimlaw17_LexerWords.f 40 ((a : Nat) : Int) ((b : Nat) : Int) = some true := by decide +kernel
theorem LexerWords : verbatimlaw17_LexerWords.Pure := by
  intro a0 a1 h0 h1
  refine ⟨40, ?_⟩
  have g : ∀ x : Int, (Lit.int .u8 x).wf = true → ∃ n : Nat, n < 9 ∧ Int.tmod x 9 = (n : Int) := by
    intro x hx
    have hx := wf_u8 hx
    obtain ⟨m, rfl⟩ := Int.eq_ofNat_of_zero_le hx.1
    refine ⟨m % 9, Nat.mod_lt _ (by omega), ?_⟩
    rw [show (9 : Int) = ((9 : Nat) : Int) from rfl, ← Int.ofNat_tmod]
  obtain ⟨m, hm, em⟩ := g a0 h0
  obtain ⟨n, hn, en⟩ := g a1 h1
  have h := words_pairs m hm n hn
  have em' : Int.tmod (m : Int) 9 = (m : Int) := by rw [← em]; simp [Int.tmod_tmod_of_dvd]
  have en' : Int.tmod (n : Int) 9 = (n : Int) := by rw [← en]; simp [Int.tmod_tmod_of_dvd]
  unfold verbatimlaw17_LexerWords.f at h ⊢
  rw [em', en'] at h
  rw [em, en]
  exact h
end Go.Proofs.YtfoijdahgkngpaaDoor.Pure
