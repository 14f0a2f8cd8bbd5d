-- Written for this claim by a program of this session (over the kit's print tool): functions as Lean functions, their contracts, rows. Lean checks it.
import Derived.Test.YtfoijdahgkngpaaDoorL0
import Derived.Test.YtfoijdahgkngpaaDoorL3
import Derived.Test.YtfoijdahgkngpaaDoorL4
namespace Go.Proofs.YtfoijdahgkngpaaDoor.L
open Go.RowKit Go.Proofs.YtfoijdahgkngpaaDoorW.PrintWords Go.Proofs.YtfoijdahgkngpaaDoorW.PrintLast Go.Proofs.YtfoijdahgkngpaaDoorW.PrintMore
attribute [local go_sem] max2_int min2_int max_two min_two max_three min_three max_four min_four   -- for this text's walks alone
set_option linter.unusedVariables false
set_option linter.unusedSimpArgs false

/-! ### verbatimlaw17_LexerBlanks: function 6 -/
mutual
def verbatimlaw17_LexerBlanks.l0 : Nat → List ByteArray → List Int → Bool → List ByteArray → ByteArray → ByteArray → Int → Int → Option (Bool)
  | 0, _, _, _, _, _, _, _, _ => none
  | k + 1, x0, x1, x5, x6, x7, x8, x9, x10 => if x10 < (x1.length : Int) then (verbatimlaw17_LexerBlanks.j1 k x0 x1 x5 x6 x7 x8 x9 x10 (decide (x10 < 20))) else (verbatimlaw17_LexerBlanks.j1 k x0 x1 x5 x6 x7 x8 x9 x10 false)
def verbatimlaw17_LexerBlanks.j1 : Nat → List ByteArray → List Int → Bool → List ByteArray → ByteArray → ByteArray → Int → Int → Bool → Option (Bool)
  | 0, _, _, _, _, _, _, _, _, _ => none
  | k + 1, x0, x1, x5, x6, x7, x8, x9, x10, x32 => if x32 = true then (if 0 ≤ x10 then (if x10 < (x1.length : Int) then (if 0 ≤ (wrap64 (Int.tmod (rd x1 x10) 9)) then (if (wrap64 (Int.tmod (rd x1 x10) 9)) < (x6.length : Int) then (if (wrap64 (Int.tmod (rd x1 x10) 9)) = 5 then (if x9 ≥ (x0.length : Int) then (verbatimlaw17_LexerBlanks.l0 k x0 x1 x5 x6 x7 x8 x9 (wrap64 (x10 + 1))) else (if 0 ≤ x9 then (if x9 < (x0.length : Int) then (if ((rdOf ByteArray.empty x0 x9).size : Int) > 20 then (verbatimlaw17_LexerBlanks.l0 k x0 x1 x5 x6 x7 x8 x9 (wrap64 (x10 + 1))) else ((lexer_Quote.f k (rdOf ByteArray.empty x0 x9)).bind fun t306 => (if x7.size + t306.size ≤ 9223372036854775807 then (if (x7.size + t306.size) + 1 ≤ 9223372036854775807 then (if x8.size + t306.size ≤ 9223372036854775807 then (if (x8.size + t306.size) + 4 ≤ 9223372036854775807 then (verbatimlaw17_LexerBlanks.l0 k x0 x1 x5 x6 ((x7 ++ t306) ++ (⟨#[32]⟩ : ByteArray)) ((x8 ++ t306) ++ (⟨#[10, 9, 32, 32]⟩ : ByteArray)) (wrap64 (x9 + 1)) (wrap64 (x10 + 1))) else (none)) else (none)) else (none)) else (none)))) else (none)) else (none))) else (if x7.size + (rdOf ByteArray.empty x6 (wrap64 (Int.tmod (rd x1 x10) 9))).size ≤ 9223372036854775807 then (if (x7.size + (rdOf ByteArray.empty x6 (wrap64 (Int.tmod (rd x1 x10) 9))).size) + 1 ≤ 9223372036854775807 then (if x8.size + (rdOf ByteArray.empty x6 (wrap64 (Int.tmod (rd x1 x10) 9))).size ≤ 9223372036854775807 then (if (x8.size + (rdOf ByteArray.empty x6 (wrap64 (Int.tmod (rd x1 x10) 9))).size) + 4 ≤ 9223372036854775807 then (verbatimlaw17_LexerBlanks.l0 k x0 x1 x5 x6 ((x7 ++ (rdOf ByteArray.empty x6 (wrap64 (Int.tmod (rd x1 x10) 9)))) ++ (⟨#[32]⟩ : ByteArray)) ((x8 ++ (rdOf ByteArray.empty x6 (wrap64 (Int.tmod (rd x1 x10) 9)))) ++ (⟨#[10, 9, 32, 32]⟩ : ByteArray)) x9 (wrap64 (x10 + 1))) else (none)) else (none)) else (none)) else (none))) else (none)) else (none)) else (none)) else (none)) else ((lexer_Split.f k x7).bind fun bt307 => ((lexer_Split.f k x8).bind fun bt312 => ((lexer_Split.f k (⟨#[32, 10, 9]⟩ : ByteArray)).bind fun bt317 => (if (x8.size : Int) > 1024 then (some x5) else (if bt307.2.1 = 0 then (if bt312.2.1 = 0 then (if bt317.2.1 = 0 then (if (bt307.1.length : Int) = (bt312.1.length : Int) then (verbatimlaw17_LexerBlanks.j2 k x5 bt307.1 bt312.1 ((bt317.1.length : Int) != 0)) else (verbatimlaw17_LexerBlanks.j2 k x5 bt307.1 bt312.1 true)) else (verbatimlaw17_LexerBlanks.j2 k x5 bt307.1 bt312.1 true)) else (verbatimlaw17_LexerBlanks.j2 k x5 bt307.1 bt312.1 true)) else (verbatimlaw17_LexerBlanks.j2 k x5 bt307.1 bt312.1 true))))))
def verbatimlaw17_LexerBlanks.j2 : Nat → Bool → List (S33) → List (S33) → Bool → Option (Bool)
  | 0, _, _, _, _ => none
  | k + 1, x5, x13, x16, x116 => if x116 = true then (some false) else (verbatimlaw17_LexerBlanks.l1 k x5 x13 x16 0)
def verbatimlaw17_LexerBlanks.l1 : Nat → Bool → List (S33) → List (S33) → Int → Option (Bool)
  | 0, _, _, _, _ => none
  | k + 1, x5, x13, x16, x22 => if x22 < (x13.length : Int) then (if 0 ≤ x22 then (if x22 < (x16.length : Int) then (if ((rd_T33 x13 x22).f0) = ((rd_T33 x16 x22).f0) then (if ((rd_T33 x13 x22).f2).toList = ((rd_T33 x16 x22).f2).toList then (verbatimlaw17_LexerBlanks.l1 k x5 x13 x16 (wrap64 (x22 + 1))) else (some false)) else (some false)) else (none)) else (none)) else (some x5)
end
def verbatimlaw17_LexerBlanks.f (k : Nat) (l0 : List ByteArray) (l1 : List Int) : Option (Bool) := (verbatimlaw17_head.f k).bind fun t298 => (verbatimlaw17_LexerBlanks.l0 k l0 l1 t298 (([(⟨#[40]⟩ : ByteArray), (⟨#[41]⟩ : ByteArray), (⟨#[91]⟩ : ByteArray), (⟨#[93]⟩ : ByteArray), (⟨#[94]⟩ : ByteArray), (⟨#[]⟩ : ByteArray), (⟨#[65, 78, 68]⟩ : ByteArray), (⟨#[79, 82]⟩ : ByteArray), (⟨#[78, 79, 84]⟩ : ByteArray)] : List ByteArray)) (⟨#[]⟩ : ByteArray) (⟨#[32]⟩ : ByteArray) 0 0)
theorem verbatimlaw17_LexerBlanks.mono_l : ∀ k, (∀ y0 y1 y2 y3 y4 y5 y6 y7, LeO (verbatimlaw17_LexerBlanks.l0 k y0 y1 y2 y3 y4 y5 y6 y7) (verbatimlaw17_LexerBlanks.l0 (k + 1) y0 y1 y2 y3 y4 y5 y6 y7)) ∧ (∀ y0 y1 y2 y3 y4 y5 y6 y7 y8, LeO (verbatimlaw17_LexerBlanks.j1 k y0 y1 y2 y3 y4 y5 y6 y7 y8) (verbatimlaw17_LexerBlanks.j1 (k + 1) y0 y1 y2 y3 y4 y5 y6 y7 y8)) ∧ (∀ y0 y1 y2 y3, LeO (verbatimlaw17_LexerBlanks.j2 k y0 y1 y2 y3) (verbatimlaw17_LexerBlanks.j2 (k + 1) y0 y1 y2 y3)) ∧ (∀ y0 y1 y2 y3, LeO (verbatimlaw17_LexerBlanks.l1 k y0 y1 y2 y3) (verbatimlaw17_LexerBlanks.l1 (k + 1) y0 y1 y2 y3))
  | 0 => ⟨fun _ _ _ _ _ _ _ _ r h => by simp [verbatimlaw17_LexerBlanks.l0] at h, fun _ _ _ _ _ _ _ _ _ r h => by simp [verbatimlaw17_LexerBlanks.j1] at h, fun _ _ _ _ r h => by simp [verbatimlaw17_LexerBlanks.j2] at h, fun _ _ _ _ r h => by simp [verbatimlaw17_LexerBlanks.l1] at h⟩
  | k + 1 => by
    obtain ⟨ih0, ih1, ih2, ih3⟩ := verbatimlaw17_LexerBlanks.mono_l k
    refine ⟨?_, ?_, ?_, ?_⟩
    · intro y0 y1 y2 y3 y4 y5 y6 y7
      unfold verbatimlaw17_LexerBlanks.l0
      repeat' first
      | (with_reducible exact ih0 _ _ _ _ _ _ _ _)
      | (with_reducible exact ih1 _ _ _ _ _ _ _ _ _)
      | (with_reducible exact ih2 _ _ _ _)
      | (with_reducible exact ih3 _ _ _ _)
      | (with_reducible exact lexer_Quote.mono _ _)
      | (with_reducible exact lexer_Split.mono _ _)
      | (with_reducible exact verbatimlaw17_head.mono _)
      | (with_reducible exact LeO.refl _)
      | (with_reducible exact LeO.none _)
      | (with_reducible refine LeO.ite ?_ ?_)
      | (with_reducible refine LeO.bind ?_ (fun _ => ?_))
      | exact ih0 _ _ _ _ _ _ _ _
      | exact ih1 _ _ _ _ _ _ _ _ _
      | exact ih2 _ _ _ _
      | exact ih3 _ _ _ _
      | exact lexer_Quote.mono _ _
      | exact lexer_Split.mono _ _
      | exact verbatimlaw17_head.mono _
      | exact LeO.none _
      | refine LeO.ite ?_ ?_
      | refine LeO.bind ?_ (fun _ => ?_)
    · intro y0 y1 y2 y3 y4 y5 y6 y7 y8
      unfold verbatimlaw17_LexerBlanks.j1
      repeat' first
      | (with_reducible exact ih0 _ _ _ _ _ _ _ _)
      | (with_reducible exact ih1 _ _ _ _ _ _ _ _ _)
      | (with_reducible exact ih2 _ _ _ _)
      | (with_reducible exact ih3 _ _ _ _)
      | (with_reducible exact lexer_Quote.mono _ _)
      | (with_reducible exact lexer_Split.mono _ _)
      | (with_reducible exact verbatimlaw17_head.mono _)
      | (with_reducible exact LeO.refl _)
      | (with_reducible exact LeO.none _)
      | (with_reducible refine LeO.ite ?_ ?_)
      | (with_reducible refine LeO.bind ?_ (fun _ => ?_))
      | exact ih0 _ _ _ _ _ _ _ _
      | exact ih1 _ _ _ _ _ _ _ _ _
      | exact ih2 _ _ _ _
      | exact ih3 _ _ _ _
      | exact lexer_Quote.mono _ _
      | exact lexer_Split.mono _ _
      | exact verbatimlaw17_head.mono _
      | exact LeO.none _
      | refine LeO.ite ?_ ?_
      | refine LeO.bind ?_ (fun _ => ?_)
    · intro y0 y1 y2 y3
      unfold verbatimlaw17_LexerBlanks.j2
      repeat' first
      | (with_reducible exact ih0 _ _ _ _ _ _ _ _)
      | (with_reducible exact ih1 _ _ _ _ _ _ _ _ _)
      | (with_reducible exact ih2 _ _ _ _)
      | (with_reducible exact ih3 _ _ _ _)
      | (with_reducible exact lexer_Quote.mono _ _)
      | (with_reducible exact lexer_Split.mono _ _)
      | (with_reducible exact verbatimlaw17_head.mono _)
      | (with_reducible exact LeO.refl _)
      | (with_reducible exact LeO.none _)
      | (with_reducible refine LeO.ite ?_ ?_)
      | (with_reducible refine LeO.bind ?_ (fun _ => ?_))
      | exact ih0 _ _ _ _ _ _ _ _
      | exact ih1 _ _ _ _ _ _ _ _ _
      | exact ih2 _ _ _ _
      | exact ih3 _ _ _ _
      | exact lexer_Quote.mono _ _
      | exact lexer_Split.mono _ _
      | exact verbatimlaw17_head.mono _
      | exact LeO.none _
      | refine LeO.ite ?_ ?_
      | refine LeO.bind ?_ (fun _ => ?_)
    · intro y0 y1 y2 y3
      unfold verbatimlaw17_LexerBlanks.l1
      repeat' first
      | (with_reducible exact ih0 _ _ _ _ _ _ _ _)
      | (with_reducible exact ih1 _ _ _ _ _ _ _ _ _)
      | (with_reducible exact ih2 _ _ _ _)
      | (with_reducible exact ih3 _ _ _ _)
      | (with_reducible exact lexer_Quote.mono _ _)
      | (with_reducible exact lexer_Split.mono _ _)
      | (with_reducible exact verbatimlaw17_head.mono _)
      | (with_reducible exact LeO.refl _)
      | (with_reducible exact LeO.none _)
      | (with_reducible refine LeO.ite ?_ ?_)
      | (with_reducible refine LeO.bind ?_ (fun _ => ?_))
      | exact ih0 _ _ _ _ _ _ _ _
      | exact ih1 _ _ _ _ _ _ _ _ _
      | exact ih2 _ _ _ _
      | exact ih3 _ _ _ _
      | exact lexer_Quote.mono _ _
      | exact lexer_Split.mono _ _
      | exact verbatimlaw17_head.mono _
      | exact LeO.none _
      | refine LeO.ite ?_ ?_
      | refine LeO.bind ?_ (fun _ => ?_)
theorem verbatimlaw17_LexerBlanks.mono : ∀ a0 a1 k, LeO (verbatimlaw17_LexerBlanks.f k a0 a1) (verbatimlaw17_LexerBlanks.f (k + 1) a0 a1) := by
  intro a0 a1 k
  obtain ⟨ih0, ih1, ih2, ih3⟩ := verbatimlaw17_LexerBlanks.mono_l k
  unfold verbatimlaw17_LexerBlanks.f
  repeat' first
      | (with_reducible exact ih0 _ _ _ _ _ _ _ _)
      | (with_reducible exact ih1 _ _ _ _ _ _ _ _ _)
      | (with_reducible exact ih2 _ _ _ _)
      | (with_reducible exact ih3 _ _ _ _)
      | (with_reducible exact lexer_Quote.mono _ _)
      | (with_reducible exact lexer_Split.mono _ _)
      | (with_reducible exact verbatimlaw17_head.mono _)
      | (with_reducible exact LeO.refl _)
      | (with_reducible exact LeO.none _)
      | (with_reducible refine LeO.ite ?_ ?_)
      | (with_reducible refine LeO.bind ?_ (fun _ => ?_))
      | exact ih0 _ _ _ _ _ _ _ _
      | exact ih1 _ _ _ _ _ _ _ _ _
      | exact ih2 _ _ _ _
      | exact ih3 _ _ _ _
      | exact lexer_Quote.mono _ _
      | exact lexer_Split.mono _ _
      | exact verbatimlaw17_head.mono _
      | exact LeO.none _
      | refine LeO.ite ?_ ?_
      | refine LeO.bind ?_ (fun _ => ?_)
set_option maxHeartbeats 8000000 in
set_option maxRecDepth 100000 in
theorem verbatimlaw17_LexerBlanks.calls (k : Nat) (A0 : Option Addr) (c0 : Nat) (l0 : List ByteArray) (A1 : Option Addr) (c1 : Nat) (l1 : List Int) (r : Bool) (w : World) (hr0 : Kd.C Kd.string w A0 l0.length l0) (hc0 : l0.length ≤ c0) (hr1 : Kd.C (Kd.int .u8) w A1 l1.length l1) (hc1 : l1.length ≤ c1) (h : verbatimlaw17_LexerBlanks.f k l0 l1 = some r) :
    Calls Tryd.prog 6 #[.slice A0 l0.length c0, .slice A1 l1.length c1] w fun e w' => e = .returned (.bool r) ∧ Below w.heap.size w w' := by
  have HR0 := Aside0.mk hr0
  have HC0 := Aside0.mk hc0
  clear hr0 hc0
  have HR1 := Aside0.mk hr1
  have HC1 := Aside0.mk hc1
  clear hr1 hc1
  have HB := Aside0.mk (Below.refl w.heap.size w)
  have H : ((verbatimlaw17_head.f k).bind fun t298 => (verbatimlaw17_LexerBlanks.l0 k l0 l1 t298 (([(⟨#[40]⟩ : ByteArray), (⟨#[41]⟩ : ByteArray), (⟨#[91]⟩ : ByteArray), (⟨#[93]⟩ : ByteArray), (⟨#[94]⟩ : ByteArray), (⟨#[]⟩ : ByteArray), (⟨#[65, 78, 68]⟩ : ByteArray), (⟨#[79, 82]⟩ : ByteArray), (⟨#[78, 79, 84]⟩ : ByteArray)] : List ByteArray)) (⟨#[]⟩ : ByteArray) (⟨#[32]⟩ : ByteArray) 0 0)) = some r := h
  clear h
  replace H := Option.bind_eq_some_iff.mp H
  obtain ⟨t298, A30, H⟩ := H
  replace H : (verbatimlaw17_LexerBlanks.l0 k l0 l1 t298 (([(⟨#[40]⟩ : ByteArray), (⟨#[41]⟩ : ByteArray), (⟨#[91]⟩ : ByteArray), (⟨#[93]⟩ : ByteArray), (⟨#[94]⟩ : ByteArray), (⟨#[]⟩ : ByteArray), (⟨#[65, 78, 68]⟩ : ByteArray), (⟨#[79, 82]⟩ : ByteArray), (⟨#[78, 79, 84]⟩ : ByteArray)] : List ByteArray)) (⟨#[]⟩ : ByteArray) (⟨#[32]⟩ : ByteArray) 0 0) = some r := H
  have A3 := Aside0.mk A30
  clear A30
  obtain ⟨y299, hy299⟩ : ∃ y_ : List ByteArray, y_ = (([(⟨#[40]⟩ : ByteArray), (⟨#[41]⟩ : ByteArray), (⟨#[91]⟩ : ByteArray), (⟨#[93]⟩ : ByteArray), (⟨#[94]⟩ : ByteArray), (⟨#[]⟩ : ByteArray), (⟨#[65, 78, 68]⟩ : ByteArray), (⟨#[79, 82]⟩ : ByteArray), (⟨#[78, 79, 84]⟩ : ByteArray)] : List ByteArray)) := ⟨_, rfl⟩
  replace H : (verbatimlaw17_LexerBlanks.l0 k l0 l1 t298 y299 (⟨#[]⟩ : ByteArray) (⟨#[32]⟩ : ByteArray) 0 0) = some r := by first | (rw [hy299]; with_reducible exact H) | (have H2_ := (Option.bind_some _ _).symm.trans H; rw [hy299]; with_reducible exact H2_) | (have H2_ := (Option.bind_some _ _).symm.trans H; with_reducible exact H2_) | with_reducible exact H | (rw [hy299]; exact H) | exact H
  have Ny299 := Aside0.mk hy299
  clear hy299
  have H' := Aside0.mk H
  clear H
  go_enter Tryd.func6, Tryd.ntmps6
  go_wp2_with (first | (go_at_call 9; (with_reducible refine (verbatimlaw17_head.calls k  t298 _ A3.out).mono ?_); rintro e w4 ⟨rfl, hb⟩; have n0_ := Aside0.mk (below_step (by repeat (first | (with_reducible first | exact HB.out | apply below_alloc | apply pw_below_drewN | apply below_drew1) | exact HB.out)) hb); clear HB; have HB := n0_; clear n0_; (try clear hb); (try clear hb2); (try clear hk); (try clear hi)) | ((with_reducible refine gate_dst (N := 24) rfl ?_); (try (refine gate_guard (by rfl) ?_; dsimp only)); refine Kd.R_lit Kd.string _ 9 ?hg (N := 24) ?hd (xs := ([(⟨#[40]⟩ : ByteArray), (⟨#[41]⟩ : ByteArray), (⟨#[91]⟩ : ByteArray), (⟨#[93]⟩ : ByteArray), (⟨#[94]⟩ : ByteArray), (⟨#[]⟩ : ByteArray), (⟨#[65, 78, 68]⟩ : ByteArray), (⟨#[79, 82]⟩ : ByteArray), (⟨#[78, 79, 84]⟩ : ByteArray)] : List ByteArray)) (inner := [.string (⟨#[40]⟩ : ByteArray), .string (⟨#[41]⟩ : ByteArray), .string (⟨#[91]⟩ : ByteArray), .string (⟨#[93]⟩ : ByteArray), .string (⟨#[94]⟩ : ByteArray), .string (⟨#[]⟩ : ByteArray), .string (⟨#[65, 78, 68]⟩ : ByteArray), .string (⟨#[79, 82]⟩ : ByteArray), .string (⟨#[78, 79, 84]⟩ : ByteArray)]) (ok := fun _ => True) (okp := fun _ => True) ?hr ?hp (fun _ hk => hk) trivial (Below.refl _ _) (Nat.le_refl _) (by simp) ?_; (case hd => rfl); (case hg => rfl); (case hr => first | (go_simp; done) | (go_simp; rfl)); (case hp => exact (Reps.one (show Kd.M Kd.string _ _ _ (⟨#[40]⟩ : ByteArray) [.string (⟨#[40]⟩ : ByteArray)] from rfl) (Reps.one (show Kd.M Kd.string _ _ _ (⟨#[41]⟩ : ByteArray) [.string (⟨#[41]⟩ : ByteArray)] from rfl) (Reps.one (show Kd.M Kd.string _ _ _ (⟨#[91]⟩ : ByteArray) [.string (⟨#[91]⟩ : ByteArray)] from rfl) (Reps.one (show Kd.M Kd.string _ _ _ (⟨#[93]⟩ : ByteArray) [.string (⟨#[93]⟩ : ByteArray)] from rfl) (Reps.one (show Kd.M Kd.string _ _ _ (⟨#[94]⟩ : ByteArray) [.string (⟨#[94]⟩ : ByteArray)] from rfl) (Reps.one (show Kd.M Kd.string _ _ _ (⟨#[]⟩ : ByteArray) [.string (⟨#[]⟩ : ByteArray)] from rfl) (Reps.one (show Kd.M Kd.string _ _ _ (⟨#[65, 78, 68]⟩ : ByteArray) [.string (⟨#[65, 78, 68]⟩ : ByteArray)] from rfl) (Reps.one (show Kd.M Kd.string _ _ _ (⟨#[79, 82]⟩ : ByteArray) [.string (⟨#[79, 82]⟩ : ByteArray)] from rfl) (Reps.one (show Kd.M Kd.string _ _ _ (⟨#[78, 79, 84]⟩ : ByteArray) [.string (⟨#[78, 79, 84]⟩ : ByteArray)] from rfl) (Reps.none _ _))))))))))); intro v300 w5 ho6 hb hg_ hnew_; clear hg_ hnew_; (first | rw [← Ny299.out] at ho6 | (simp only [Int.reduceToNat] at ho6; rw [← Ny299.out] at ho6)); have n0_ := Aside0.mk (Kd.R_lower ho6 (below_size (by repeat (first | (with_reducible first | exact HB.out | apply below_alloc | apply pw_below_drewN | apply below_drew1) | exact HB.out)))); have n1_ := Aside0.mk (below_step (by repeat (first | (with_reducible first | exact HB.out | apply below_alloc | apply pw_below_drewN | apply below_drew1) | exact HB.out)) hb); clear HB; have HO301 := n0_; have HB := n1_; clear n0_ n1_; clear hb ho6))
  repeat (go_quiet (first | (go_at_call 9; (with_reducible refine (verbatimlaw17_head.calls k  t298 _ A3.out).mono ?_); rintro e w4 ⟨rfl, hb⟩; have n0_ := Aside0.mk (below_step (by repeat (first | (with_reducible first | exact HB.out | apply below_alloc | apply pw_below_drewN | apply below_drew1) | exact HB.out)) hb); clear HB; have HB := n0_; clear n0_; (try clear hb); (try clear hb2); (try clear hk); (try clear hi)) | ((with_reducible refine gate_dst (N := 24) rfl ?_); (try (refine gate_guard (by rfl) ?_; dsimp only)); refine Kd.R_lit Kd.string _ 9 ?hg (N := 24) ?hd (xs := ([(⟨#[40]⟩ : ByteArray), (⟨#[41]⟩ : ByteArray), (⟨#[91]⟩ : ByteArray), (⟨#[93]⟩ : ByteArray), (⟨#[94]⟩ : ByteArray), (⟨#[]⟩ : ByteArray), (⟨#[65, 78, 68]⟩ : ByteArray), (⟨#[79, 82]⟩ : ByteArray), (⟨#[78, 79, 84]⟩ : ByteArray)] : List ByteArray)) (inner := [.string (⟨#[40]⟩ : ByteArray), .string (⟨#[41]⟩ : ByteArray), .string (⟨#[91]⟩ : ByteArray), .string (⟨#[93]⟩ : ByteArray), .string (⟨#[94]⟩ : ByteArray), .string (⟨#[]⟩ : ByteArray), .string (⟨#[65, 78, 68]⟩ : ByteArray), .string (⟨#[79, 82]⟩ : ByteArray), .string (⟨#[78, 79, 84]⟩ : ByteArray)]) (ok := fun _ => True) (okp := fun _ => True) ?hr ?hp (fun _ hk => hk) trivial (Below.refl _ _) (Nat.le_refl _) (by simp) ?_; (case hd => rfl); (case hg => rfl); (case hr => first | (go_simp; done) | (go_simp; rfl)); (case hp => exact (Reps.one (show Kd.M Kd.string _ _ _ (⟨#[40]⟩ : ByteArray) [.string (⟨#[40]⟩ : ByteArray)] from rfl) (Reps.one (show Kd.M Kd.string _ _ _ (⟨#[41]⟩ : ByteArray) [.string (⟨#[41]⟩ : ByteArray)] from rfl) (Reps.one (show Kd.M Kd.string _ _ _ (⟨#[91]⟩ : ByteArray) [.string (⟨#[91]⟩ : ByteArray)] from rfl) (Reps.one (show Kd.M Kd.string _ _ _ (⟨#[93]⟩ : ByteArray) [.string (⟨#[93]⟩ : ByteArray)] from rfl) (Reps.one (show Kd.M Kd.string _ _ _ (⟨#[94]⟩ : ByteArray) [.string (⟨#[94]⟩ : ByteArray)] from rfl) (Reps.one (show Kd.M Kd.string _ _ _ (⟨#[]⟩ : ByteArray) [.string (⟨#[]⟩ : ByteArray)] from rfl) (Reps.one (show Kd.M Kd.string _ _ _ (⟨#[65, 78, 68]⟩ : ByteArray) [.string (⟨#[65, 78, 68]⟩ : ByteArray)] from rfl) (Reps.one (show Kd.M Kd.string _ _ _ (⟨#[79, 82]⟩ : ByteArray) [.string (⟨#[79, 82]⟩ : ByteArray)] from rfl) (Reps.one (show Kd.M Kd.string _ _ _ (⟨#[78, 79, 84]⟩ : ByteArray) [.string (⟨#[78, 79, 84]⟩ : ByteArray)] from rfl) (Reps.none _ _))))))))))); intro v300 w5 ho6 hb hg_ hnew_; clear hg_ hnew_; (first | rw [← Ny299.out] at ho6 | (simp only [Int.reduceToNat] at ho6; rw [← Ny299.out] at ho6)); have n0_ := Aside0.mk (Kd.R_lower ho6 (below_size (by repeat (first | (with_reducible first | exact HB.out | apply below_alloc | apply pw_below_drewN | apply below_drew1) | exact HB.out)))); have n1_ := Aside0.mk (below_step (by repeat (first | (with_reducible first | exact HB.out | apply below_alloc | apply pw_below_drewN | apply below_drew1) | exact HB.out)) hb); clear HB; have HO301 := n0_; have HB := n1_; clear n0_ n1_; clear hb ho6)); try go_wp2_with (first | (go_at_call 9; (with_reducible refine (verbatimlaw17_head.calls k  t298 _ A3.out).mono ?_); rintro e w4 ⟨rfl, hb⟩; have n0_ := Aside0.mk (below_step (by repeat (first | (with_reducible first | exact HB.out | apply below_alloc | apply pw_below_drewN | apply below_drew1) | exact HB.out)) hb); clear HB; have HB := n0_; clear n0_; (try clear hb); (try clear hb2); (try clear hk); (try clear hi)) | ((with_reducible refine gate_dst (N := 24) rfl ?_); (try (refine gate_guard (by rfl) ?_; dsimp only)); refine Kd.R_lit Kd.string _ 9 ?hg (N := 24) ?hd (xs := ([(⟨#[40]⟩ : ByteArray), (⟨#[41]⟩ : ByteArray), (⟨#[91]⟩ : ByteArray), (⟨#[93]⟩ : ByteArray), (⟨#[94]⟩ : ByteArray), (⟨#[]⟩ : ByteArray), (⟨#[65, 78, 68]⟩ : ByteArray), (⟨#[79, 82]⟩ : ByteArray), (⟨#[78, 79, 84]⟩ : ByteArray)] : List ByteArray)) (inner := [.string (⟨#[40]⟩ : ByteArray), .string (⟨#[41]⟩ : ByteArray), .string (⟨#[91]⟩ : ByteArray), .string (⟨#[93]⟩ : ByteArray), .string (⟨#[94]⟩ : ByteArray), .string (⟨#[]⟩ : ByteArray), .string (⟨#[65, 78, 68]⟩ : ByteArray), .string (⟨#[79, 82]⟩ : ByteArray), .string (⟨#[78, 79, 84]⟩ : ByteArray)]) (ok := fun _ => True) (okp := fun _ => True) ?hr ?hp (fun _ hk => hk) trivial (Below.refl _ _) (Nat.le_refl _) (by simp) ?_; (case hd => rfl); (case hg => rfl); (case hr => first | (go_simp; done) | (go_simp; rfl)); (case hp => exact (Reps.one (show Kd.M Kd.string _ _ _ (⟨#[40]⟩ : ByteArray) [.string (⟨#[40]⟩ : ByteArray)] from rfl) (Reps.one (show Kd.M Kd.string _ _ _ (⟨#[41]⟩ : ByteArray) [.string (⟨#[41]⟩ : ByteArray)] from rfl) (Reps.one (show Kd.M Kd.string _ _ _ (⟨#[91]⟩ : ByteArray) [.string (⟨#[91]⟩ : ByteArray)] from rfl) (Reps.one (show Kd.M Kd.string _ _ _ (⟨#[93]⟩ : ByteArray) [.string (⟨#[93]⟩ : ByteArray)] from rfl) (Reps.one (show Kd.M Kd.string _ _ _ (⟨#[94]⟩ : ByteArray) [.string (⟨#[94]⟩ : ByteArray)] from rfl) (Reps.one (show Kd.M Kd.string _ _ _ (⟨#[]⟩ : ByteArray) [.string (⟨#[]⟩ : ByteArray)] from rfl) (Reps.one (show Kd.M Kd.string _ _ _ (⟨#[65, 78, 68]⟩ : ByteArray) [.string (⟨#[65, 78, 68]⟩ : ByteArray)] from rfl) (Reps.one (show Kd.M Kd.string _ _ _ (⟨#[79, 82]⟩ : ByteArray) [.string (⟨#[79, 82]⟩ : ByteArray)] from rfl) (Reps.one (show Kd.M Kd.string _ _ _ (⟨#[78, 79, 84]⟩ : ByteArray) [.string (⟨#[78, 79, 84]⟩ : ByteArray)] from rfl) (Reps.none _ _))))))))))); intro v300 w5 ho6 hb hg_ hnew_; clear hg_ hnew_; (first | rw [← Ny299.out] at ho6 | (simp only [Int.reduceToNat] at ho6; rw [← Ny299.out] at ho6)); have n0_ := Aside0.mk (Kd.R_lower ho6 (below_size (by repeat (first | (with_reducible first | exact HB.out | apply below_alloc | apply pw_below_drewN | apply below_drew1) | exact HB.out)))); have n1_ := Aside0.mk (below_step (by repeat (first | (with_reducible first | exact HB.out | apply below_alloc | apply pw_below_drewN | apply below_drew1) | exact HB.out)) hb); clear HB; have HO301 := n0_; have HB := n1_; clear n0_ n1_; clear hb ho6)))
  go_loopg [7, 8, 9, 10] k (fun kq v7 v8 v9 v10 w' => ∃ (x7_1 : ByteArray) (x8_1 : ByteArray) (x9_1 : Int) (x10_1 : Int), v7 = .string x7_1 ∧ v8 = .string x8_1 ∧ v9 = .int .i64 x9_1 ∧ v10 = .int .i64 x10_1 ∧ Aside0 (verbatimlaw17_LexerBlanks.l0 kq l0 l1 t298 y299 x7_1 x8_1 x9_1 x10_1 = some r) ∧ Aside0 (kq ≤ k) ∧ Aside0 (Kd.R Kd.string 9 w' w.heap.size (fun _ => True) v300 y299) ∧ Aside0 (Below w.heap.size w w'))
  case atStart => exact ⟨((⟨#[]⟩ : ByteArray)), ((⟨#[32]⟩ : ByteArray)), (0), (0), (by first | rfl | (simp; done) | (simp [*]; done)), (by first | rfl | (simp; done) | (simp [*]; done)), (by first | rfl | (simp; done) | (simp [*]; done)), (by first | rfl | (simp; done) | (simp [*]; done)), H', ⟨Nat.le_refl _⟩, ⟨by (with_reducible repeat (first | apply Kd.R_alloc | apply Kd.R_drewN | apply Kd.R_drew)); exact HO301.out⟩, ⟨by repeat (first | (with_reducible first | exact HB.out | apply below_alloc | apply pw_below_drewN | apply below_drew1) | exact HB.out)⟩⟩
  case round =>
    clear H'
    try clear c1
    try clear p2
    try clear c6
    obtain ⟨x7_1, x8_1, x9_1, x10_1, rfl, rfl, rfl, rfl, HA, HK1, HO_6, HB⟩ := hrel
    cases gk with
    | zero => exact absurd HA.out (by simp [verbatimlaw17_LexerBlanks.l0])
    | succ k1 =>
      have H := HA.out
      clear HA
      simp only [verbatimlaw17_LexerBlanks.l0] at H
      have HC7 := Aside0.mk H
      clear H
      go_upto_region 7 with (fail)
      repeat (go_quiet (fail); go_upto_region 7 with (fail))
      go_cut [32] (fun v32 wc => ∃ (kq : Nat) (x32_6 : Bool), v32 = .bool x32_6 ∧ Aside0 (verbatimlaw17_LexerBlanks.j1 kq l0 l1 t298 y299 x7_1 x8_1 x9_1 x10_1 x32_6 = some r) ∧ Aside0 (kq ≤ k1) ∧ Aside0 (Kd.R Kd.string 9 wc w.heap.size (fun _ => True) v300 y299) ∧ Aside0 (Below w.heap.size w wc))
      case first =>
        have H := HC7.out
        clear HC7
        by_cases c8 : x10_1 < (l1.length : Int)
        · rw [if_pos c8] at H
          have c8b0 : decide (x10_1 < (l1.length : Int)) = true := decide_eq_true c8
          clear c8
          (first | rw [c8b0] | (simp only [i64_w, i32_w]; rw [c8b0]) | skip)
          as_aux_lemma =>
            have H' := Aside0.mk H
            clear H
            go_wp2
            repeat (go_quiet (fail); try go_wp2)
            go_meet
            case rel => exact ⟨_, (decide (x10_1 < 20)), (by first | rfl | (simp; done) | (simp [*]; done)), H', ⟨by have := HK1.out; first | omega | exact Nat.le_refl _⟩, ⟨by (with_reducible repeat (first | apply Kd.R_alloc | apply Kd.R_drewN | apply Kd.R_drew)); exact HO_6.out⟩, ⟨by repeat (first | (with_reducible first | exact HB.out | apply below_alloc | apply pw_below_drewN | apply below_drew1) | exact HB.out)⟩⟩
        · rw [if_neg c8] at H
          have c8b0 : decide (x10_1 < (l1.length : Int)) = false := decide_eq_false c8
          clear c8
          (first | rw [c8b0] | (simp only [i64_w, i32_w]; rw [c8b0]) | skip)
          as_aux_lemma =>
            have H' := Aside0.mk H
            clear H
            go_wp2
            repeat (go_quiet (fail); try go_wp2)
            go_meet
            case rel => exact ⟨_, (false), (by first | rfl | (simp; done) | (simp [*]; done)), H', ⟨by have := HK1.out; first | omega | exact Nat.le_refl _⟩, ⟨by (with_reducible repeat (first | apply Kd.R_alloc | apply Kd.R_drewN | apply Kd.R_drew)); exact HO_6.out⟩, ⟨by repeat (first | (with_reducible first | exact HB.out | apply below_alloc | apply pw_below_drewN | apply below_drew1) | exact HB.out)⟩⟩
      case rest =>
        clear HC7
        try clear c1
        try clear p2
        try clear c6
        try clear c8
        try clear c8b0
        try clear p2
        obtain ⟨kq, x32_6, rfl, HA, HJ6, HO_6, HB⟩ := hcut
        cases kq with
        | zero => exact absurd HA.out (by simp [verbatimlaw17_LexerBlanks.j1])
        | succ kj6 =>
          have H := HA.out
          clear HA
          simp only [verbatimlaw17_LexerBlanks.j1] at H
          by_cases c9 : x32_6 = true
          · subst c9
            have H1 : (if 0 ≤ x10_1 then (if x10_1 < (l1.length : Int) then (if 0 ≤ (wrap64 (Int.tmod (rd l1 x10_1) 9)) then (if (wrap64 (Int.tmod (rd l1 x10_1) 9)) < (y299.length : Int) then (if (wrap64 (Int.tmod (rd l1 x10_1) 9)) = 5 then (if x9_1 ≥ (l0.length : Int) then (verbatimlaw17_LexerBlanks.l0 kj6 l0 l1 t298 y299 x7_1 x8_1 x9_1 (wrap64 (x10_1 + 1))) else (if 0 ≤ x9_1 then (if x9_1 < (l0.length : Int) then (if ((rdOf ByteArray.empty l0 x9_1).size : Int) > 20 then (verbatimlaw17_LexerBlanks.l0 kj6 l0 l1 t298 y299 x7_1 x8_1 x9_1 (wrap64 (x10_1 + 1))) else ((lexer_Quote.f kj6 (rdOf ByteArray.empty l0 x9_1)).bind fun t306 => (if x7_1.size + t306.size ≤ 9223372036854775807 then (if (x7_1.size + t306.size) + 1 ≤ 9223372036854775807 then (if x8_1.size + t306.size ≤ 9223372036854775807 then (if (x8_1.size + t306.size) + 4 ≤ 9223372036854775807 then (verbatimlaw17_LexerBlanks.l0 kj6 l0 l1 t298 y299 ((x7_1 ++ t306) ++ (⟨#[32]⟩ : ByteArray)) ((x8_1 ++ t306) ++ (⟨#[10, 9, 32, 32]⟩ : ByteArray)) (wrap64 (x9_1 + 1)) (wrap64 (x10_1 + 1))) else (none)) else (none)) else (none)) else (none)))) else (none)) else (none))) else (if x7_1.size + (rdOf ByteArray.empty y299 (wrap64 (Int.tmod (rd l1 x10_1) 9))).size ≤ 9223372036854775807 then (if (x7_1.size + (rdOf ByteArray.empty y299 (wrap64 (Int.tmod (rd l1 x10_1) 9))).size) + 1 ≤ 9223372036854775807 then (if x8_1.size + (rdOf ByteArray.empty y299 (wrap64 (Int.tmod (rd l1 x10_1) 9))).size ≤ 9223372036854775807 then (if (x8_1.size + (rdOf ByteArray.empty y299 (wrap64 (Int.tmod (rd l1 x10_1) 9))).size) + 4 ≤ 9223372036854775807 then (verbatimlaw17_LexerBlanks.l0 kj6 l0 l1 t298 y299 ((x7_1 ++ (rdOf ByteArray.empty y299 (wrap64 (Int.tmod (rd l1 x10_1) 9)))) ++ (⟨#[32]⟩ : ByteArray)) ((x8_1 ++ (rdOf ByteArray.empty y299 (wrap64 (Int.tmod (rd l1 x10_1) 9)))) ++ (⟨#[10, 9, 32, 32]⟩ : ByteArray)) x9_1 (wrap64 (x10_1 + 1))) else (none)) else (none)) else (none)) else (none))) else (none)) else (none)) else (none)) else (none)) = some r := by rw [if_pos rfl] at H; exact H
            clear H
            have H := H1
            clear H1
            by_cases c10 : 0 ≤ x10_1
            · rw [if_pos c10] at H
              have c10b0 : decide (0 ≤ x10_1) = true := decide_eq_true c10
              clear c10
              by_cases c11 : x10_1 < (l1.length : Int)
              · rw [if_pos c11] at H
                have c11b0 : decide (x10_1 < (l1.length : Int)) = true := decide_eq_true c11
                clear c11
                obtain ⟨ji12, hji12⟩ : ∃ j_ : Int, (wrap64 (Int.tmod (rd l1 x10_1) 9)) = j_ := ⟨_, rfl⟩
                replace H : (if 0 ≤ (ji12) then (if (ji12) < (y299.length : Int) then (if (ji12) = 5 then (if x9_1 ≥ (l0.length : Int) then (verbatimlaw17_LexerBlanks.l0 kj6 l0 l1 t298 y299 x7_1 x8_1 x9_1 (wrap64 (x10_1 + 1))) else (if 0 ≤ x9_1 then (if x9_1 < (l0.length : Int) then (if ((rdOf ByteArray.empty l0 x9_1).size : Int) > 20 then (verbatimlaw17_LexerBlanks.l0 kj6 l0 l1 t298 y299 x7_1 x8_1 x9_1 (wrap64 (x10_1 + 1))) else ((lexer_Quote.f kj6 (rdOf ByteArray.empty l0 x9_1)).bind fun t306 => (if x7_1.size + t306.size ≤ 9223372036854775807 then (if (x7_1.size + t306.size) + 1 ≤ 9223372036854775807 then (if x8_1.size + t306.size ≤ 9223372036854775807 then (if (x8_1.size + t306.size) + 4 ≤ 9223372036854775807 then (verbatimlaw17_LexerBlanks.l0 kj6 l0 l1 t298 y299 ((x7_1 ++ t306) ++ (⟨#[32]⟩ : ByteArray)) ((x8_1 ++ t306) ++ (⟨#[10, 9, 32, 32]⟩ : ByteArray)) (wrap64 (x9_1 + 1)) (wrap64 (x10_1 + 1))) else (none)) else (none)) else (none)) else (none)))) else (none)) else (none))) else (if x7_1.size + (rdOf ByteArray.empty y299 (ji12)).size ≤ 9223372036854775807 then (if (x7_1.size + (rdOf ByteArray.empty y299 (ji12)).size) + 1 ≤ 9223372036854775807 then (if x8_1.size + (rdOf ByteArray.empty y299 (ji12)).size ≤ 9223372036854775807 then (if (x8_1.size + (rdOf ByteArray.empty y299 (ji12)).size) + 4 ≤ 9223372036854775807 then (verbatimlaw17_LexerBlanks.l0 kj6 l0 l1 t298 y299 ((x7_1 ++ (rdOf ByteArray.empty y299 (ji12))) ++ (⟨#[32]⟩ : ByteArray)) ((x8_1 ++ (rdOf ByteArray.empty y299 (ji12))) ++ (⟨#[10, 9, 32, 32]⟩ : ByteArray)) x9_1 (wrap64 (x10_1 + 1))) else (none)) else (none)) else (none)) else (none))) else (none)) else (none)) = some r := by first | (rw [hji12] at H; exact H) | (simp only [hji12] at H ⊢; exact H)
                have hji12w : (IntKind.i64.wrap (Int.tmod (rd l1 x10_1) 9)) = ji12 := (i64_w _).trans hji12
                by_cases c13 : 0 ≤ (ji12)
                · rw [if_pos c13] at H
                  have c13b0 : decide (0 ≤ (ji12)) = true := decide_eq_true c13
                  clear c13
                  by_cases c14 : (ji12) < (y299.length : Int)
                  · rw [if_pos c14] at H
                    have c14b0 : decide ((ji12) < (y299.length : Int)) = true := decide_eq_true c14
                    clear c14
                    by_cases c15 : (ji12) = 5
                    · rw [if_pos c15] at H
                      have c15b0 : ((ji12) == 5) = true := beq_iff_eq.mpr c15
                      have c15b1 : ((ji12) != 5) = false := bne_eq_false_iff_eq.mpr c15
                      clear c15
                      by_cases c16 : x9_1 ≥ (l0.length : Int)
                      · rw [if_pos c16] at H
                        have c16b0 : decide ((l0.length : Int) ≤ x9_1) = true := decide_eq_true c16
                        clear c16
                        as_aux_lemma =>
                          have H' := Aside0.mk H
                          clear H
                          have p302 : 0 ≤ (x10_1 : Int) := of_decide_eq_true (by first | (with_reducible assumption) | assumption)
                          have q302 : x10_1 < (l1.length : Int) := of_decide_eq_true (by first | (with_reducible assumption) | assumption)
                          obtain ⟨ad302, e302, hx302_0⟩ := Kd.at_int HR1.out x10_1 p302 q302
                          cases e302
                          replace hx302_0 := (HB.out.cell (World.block_lt_of_cell? w _ hx302_0)).trans hx302_0
                          replace p302 := eq_true p302
                          replace q302 := eq_true q302
                          obtain ⟨Ao17, co17, eo17⟩ := Kd.R_slice HO_6.out
                          subst eo17
                          have p303 : 0 ≤ ((ji12) : Int) := of_decide_eq_true (by first | (with_reducible assumption) | assumption)
                          have q303 : (ji12) < (y299.length : Int) := of_decide_eq_true (by first | (with_reducible assumption) | assumption)
                          obtain ⟨ad303, e303, hx303_0⟩ := Kd.at_string (Kd.R_reads' HO_6.out).2.2 (ji12) p303 q303
                          cases e303
                          replace p303 := eq_true p303
                          replace q303 := eq_true q303
                          go_wp2
                          repeat (go_quiet (fail); try go_wp2)
                          go_roundg kj6
                          case measure => have := HK1.out; have := HJ6.out; omega
                          case rel => exact ⟨(x7_1), (x8_1), (x9_1), (wrap64 (x10_1 + 1)), (by first | rfl | (simp; done) | (simp [*]; done)), (by first | rfl | (simp; done) | (simp [*]; done)), (by first | rfl | (simp; done) | (simp [*]; done)), (by first | rfl | (simp; done) | (simp [*]; done)), H', ⟨by have := HK1.out; have := HJ6.out; omega⟩, ⟨by (with_reducible repeat (first | apply Kd.R_alloc | apply Kd.R_drewN | apply Kd.R_drew)); exact HO_6.out⟩, ⟨by repeat (first | (with_reducible first | exact HB.out | apply below_alloc | apply pw_below_drewN | apply below_drew1) | exact HB.out)⟩⟩
                      · rw [if_neg c16] at H
                        have c16b0 : decide ((l0.length : Int) ≤ x9_1) = false := decide_eq_false c16
                        clear c16
                        by_cases c18 : 0 ≤ x9_1
                        · rw [if_pos c18] at H
                          have c18b0 : decide (0 ≤ x9_1) = true := decide_eq_true c18
                          clear c18
                          by_cases c19 : x9_1 < (l0.length : Int)
                          · rw [if_pos c19] at H
                            have c19b0 : decide (x9_1 < (l0.length : Int)) = true := decide_eq_true c19
                            clear c19
                            by_cases c20 : ((rdOf ByteArray.empty l0 x9_1).size : Int) > 20
                            · rw [if_pos c20] at H
                              have c20b0 : decide (20 < ((rdOf ByteArray.empty l0 x9_1).size : Int)) = true := decide_eq_true c20
                              have c20b1 : decide (20 < (rdOf ByteArray.empty l0 x9_1).size) = true := decide_eq_true (by omega)
                              clear c20
                              as_aux_lemma =>
                                have H' := Aside0.mk H
                                clear H
                                have p302 : 0 ≤ (x10_1 : Int) := of_decide_eq_true (by first | (with_reducible assumption) | assumption)
                                have q302 : x10_1 < (l1.length : Int) := of_decide_eq_true (by first | (with_reducible assumption) | assumption)
                                obtain ⟨ad302, e302, hx302_0⟩ := Kd.at_int HR1.out x10_1 p302 q302
                                cases e302
                                replace hx302_0 := (HB.out.cell (World.block_lt_of_cell? w _ hx302_0)).trans hx302_0
                                replace p302 := eq_true p302
                                replace q302 := eq_true q302
                                obtain ⟨Ao21, co21, eo21⟩ := Kd.R_slice HO_6.out
                                subst eo21
                                have p303 : 0 ≤ ((ji12) : Int) := of_decide_eq_true (by first | (with_reducible assumption) | assumption)
                                have q303 : (ji12) < (y299.length : Int) := of_decide_eq_true (by first | (with_reducible assumption) | assumption)
                                obtain ⟨ad303, e303, hx303_0⟩ := Kd.at_string (Kd.R_reads' HO_6.out).2.2 (ji12) p303 q303
                                cases e303
                                replace p303 := eq_true p303
                                replace q303 := eq_true q303
                                have p304 : 0 ≤ (x9_1 : Int) := of_decide_eq_true (by first | (with_reducible assumption) | assumption)
                                have q304 : x9_1 < (l0.length : Int) := of_decide_eq_true (by first | (with_reducible assumption) | assumption)
                                obtain ⟨ad304, e304, hx304_0⟩ := Kd.at_string HR0.out x9_1 p304 q304
                                cases e304
                                replace hx304_0 := (HB.out.cell (World.block_lt_of_cell? w _ hx304_0)).trans hx304_0
                                replace p304 := eq_true p304
                                replace q304 := eq_true q304
                                go_wp2
                                repeat (go_quiet (fail); try go_wp2)
                                go_roundg kj6
                                case measure => have := HK1.out; have := HJ6.out; omega
                                case rel => exact ⟨(x7_1), (x8_1), (x9_1), (wrap64 (x10_1 + 1)), (by first | rfl | (simp; done) | (simp [*]; done)), (by first | rfl | (simp; done) | (simp [*]; done)), (by first | rfl | (simp; done) | (simp [*]; done)), (by first | rfl | (simp; done) | (simp [*]; done)), H', ⟨by have := HK1.out; have := HJ6.out; omega⟩, ⟨by (with_reducible repeat (first | apply Kd.R_alloc | apply Kd.R_drewN | apply Kd.R_drew)); exact HO_6.out⟩, ⟨by repeat (first | (with_reducible first | exact HB.out | apply below_alloc | apply pw_below_drewN | apply below_drew1) | exact HB.out)⟩⟩
                            · rw [if_neg c20] at H
                              have c20b0 : decide (20 < ((rdOf ByteArray.empty l0 x9_1).size : Int)) = false := decide_eq_false c20
                              have c20b1 : decide (20 < (rdOf ByteArray.empty l0 x9_1).size) = false := decide_eq_false (by omega)
                              clear c20
                              replace H := Option.bind_eq_some_iff.mp H
                              obtain ⟨t306, A220, H⟩ := H
                              replace H : (if x7_1.size + t306.size ≤ 9223372036854775807 then (if (x7_1.size + t306.size) + 1 ≤ 9223372036854775807 then (if x8_1.size + t306.size ≤ 9223372036854775807 then (if (x8_1.size + t306.size) + 4 ≤ 9223372036854775807 then (verbatimlaw17_LexerBlanks.l0 kj6 l0 l1 t298 y299 ((x7_1 ++ t306) ++ (⟨#[32]⟩ : ByteArray)) ((x8_1 ++ t306) ++ (⟨#[10, 9, 32, 32]⟩ : ByteArray)) (wrap64 (x9_1 + 1)) (wrap64 (x10_1 + 1))) else (none)) else (none)) else (none)) else (none)) = some r := H
                              have A22 := Aside0.mk A220
                              clear A220
                              by_cases c23 : x7_1.size + t306.size ≤ 9223372036854775807
                              · rw [if_pos c23] at H
                                have c23b0 := eq_true c23
                                have c23b1 : decide (x7_1.size + t306.size ≤ 9223372036854775807) = true := decide_eq_true c23
                                try have c23b2 : (9223372036854775807 < x7_1.size + t306.size) = False := eq_false (Nat.not_lt.2 c23)
                                by_cases c24 : (x7_1.size + t306.size) + 1 ≤ 9223372036854775807
                                · rw [if_pos c24] at H
                                  have c24b0 := eq_true c24
                                  have c24b1 : decide ((x7_1.size + t306.size) + 1 ≤ 9223372036854775807) = true := decide_eq_true c24
                                  try have c24b2 : (9223372036854775807 < (x7_1.size + t306.size) + 1) = False := eq_false (Nat.not_lt.2 c24)
                                  by_cases c25 : x8_1.size + t306.size ≤ 9223372036854775807
                                  · rw [if_pos c25] at H
                                    have c25b0 := eq_true c25
                                    have c25b1 : decide (x8_1.size + t306.size ≤ 9223372036854775807) = true := decide_eq_true c25
                                    try have c25b2 : (9223372036854775807 < x8_1.size + t306.size) = False := eq_false (Nat.not_lt.2 c25)
                                    by_cases c26 : (x8_1.size + t306.size) + 4 ≤ 9223372036854775807
                                    · rw [if_pos c26] at H
                                      have c26b0 := eq_true c26
                                      have c26b1 : decide ((x8_1.size + t306.size) + 4 ≤ 9223372036854775807) = true := decide_eq_true c26
                                      try have c26b2 : (9223372036854775807 < (x8_1.size + t306.size) + 4) = False := eq_false (Nat.not_lt.2 c26)
                                      as_aux_lemma =>
                                        have H' := Aside0.mk H
                                        clear H
                                        have p302 : 0 ≤ (x10_1 : Int) := of_decide_eq_true (by first | (with_reducible assumption) | assumption)
                                        have q302 : x10_1 < (l1.length : Int) := of_decide_eq_true (by first | (with_reducible assumption) | assumption)
                                        obtain ⟨ad302, e302, hx302_0⟩ := Kd.at_int HR1.out x10_1 p302 q302
                                        cases e302
                                        replace hx302_0 := (HB.out.cell (World.block_lt_of_cell? w _ hx302_0)).trans hx302_0
                                        replace p302 := eq_true p302
                                        replace q302 := eq_true q302
                                        obtain ⟨Ao27, co27, eo27⟩ := Kd.R_slice HO_6.out
                                        subst eo27
                                        have p303 : 0 ≤ ((ji12) : Int) := of_decide_eq_true (by first | (with_reducible assumption) | assumption)
                                        have q303 : (ji12) < (y299.length : Int) := of_decide_eq_true (by first | (with_reducible assumption) | assumption)
                                        obtain ⟨ad303, e303, hx303_0⟩ := Kd.at_string (Kd.R_reads' HO_6.out).2.2 (ji12) p303 q303
                                        cases e303
                                        replace p303 := eq_true p303
                                        replace q303 := eq_true q303
                                        have p304 : 0 ≤ (x9_1 : Int) := of_decide_eq_true (by first | (with_reducible assumption) | assumption)
                                        have q304 : x9_1 < (l0.length : Int) := of_decide_eq_true (by first | (with_reducible assumption) | assumption)
                                        obtain ⟨ad304, e304, hx304_0⟩ := Kd.at_string HR0.out x9_1 p304 q304
                                        cases e304
                                        replace hx304_0 := (HB.out.cell (World.block_lt_of_cell? w _ hx304_0)).trans hx304_0
                                        replace p304 := eq_true p304
                                        replace q304 := eq_true q304
                                        have p305 : 0 ≤ (x9_1 : Int) := of_decide_eq_true (by first | (with_reducible assumption) | assumption)
                                        have q305 : x9_1 < (l0.length : Int) := of_decide_eq_true (by first | (with_reducible assumption) | assumption)
                                        obtain ⟨ad305, e305, hx305_0⟩ := Kd.at_string HR0.out x9_1 p305 q305
                                        obtain rfl : ad304 = ad305 := (by injection e305)
                                        replace hx305_0 := (HB.out.cell (World.block_lt_of_cell? w _ hx305_0)).trans hx305_0
                                        replace p305 := eq_true p305
                                        replace q305 := eq_true q305
                                        go_wp2_with (first | (go_at_call 13; (with_reducible refine (lexer_Quote.calls kj6 (rdOf ByteArray.empty l0 x9_1) t306 _ A22.out).mono ?_); rintro e w28 ⟨rfl, hb⟩; have n0_ := Aside0.mk (Kd.R_below (by (with_reducible repeat (first | apply Kd.R_alloc | apply Kd.R_drewN | apply Kd.R_drew)); exact HO_6.out) hb); have n1_ := Aside0.mk (below_step (by repeat (first | (with_reducible first | exact HB.out | apply below_alloc | apply pw_below_drewN | apply below_drew1) | exact HB.out)) hb); clear HO_6; clear HB; have HO_6 := n0_; have HB := n1_; clear n0_ n1_; (try clear hb); (try clear hb2); (try clear hk); (try clear hi)))
                                        repeat (go_quiet (first | (go_at_call 13; (with_reducible refine (lexer_Quote.calls kj6 (rdOf ByteArray.empty l0 x9_1) t306 _ A22.out).mono ?_); rintro e w28 ⟨rfl, hb⟩; have n0_ := Aside0.mk (Kd.R_below (by (with_reducible repeat (first | apply Kd.R_alloc | apply Kd.R_drewN | apply Kd.R_drew)); exact HO_6.out) hb); have n1_ := Aside0.mk (below_step (by repeat (first | (with_reducible first | exact HB.out | apply below_alloc | apply pw_below_drewN | apply below_drew1) | exact HB.out)) hb); clear HO_6; clear HB; have HO_6 := n0_; have HB := n1_; clear n0_ n1_; (try clear hb); (try clear hb2); (try clear hk); (try clear hi))); try go_wp2_with (first | (go_at_call 13; (with_reducible refine (lexer_Quote.calls kj6 (rdOf ByteArray.empty l0 x9_1) t306 _ A22.out).mono ?_); rintro e w28 ⟨rfl, hb⟩; have n0_ := Aside0.mk (Kd.R_below (by (with_reducible repeat (first | apply Kd.R_alloc | apply Kd.R_drewN | apply Kd.R_drew)); exact HO_6.out) hb); have n1_ := Aside0.mk (below_step (by repeat (first | (with_reducible first | exact HB.out | apply below_alloc | apply pw_below_drewN | apply below_drew1) | exact HB.out)) hb); clear HO_6; clear HB; have HO_6 := n0_; have HB := n1_; clear n0_ n1_; (try clear hb); (try clear hb2); (try clear hk); (try clear hi))))
                                        go_roundg kj6
                                        case measure => have := HK1.out; have := HJ6.out; omega
                                        case rel => exact ⟨((x7_1 ++ t306) ++ (⟨#[32]⟩ : ByteArray)), ((x8_1 ++ t306) ++ (⟨#[10, 9, 32, 32]⟩ : ByteArray)), (wrap64 (x9_1 + 1)), (wrap64 (x10_1 + 1)), (by first | rfl | (simp; done) | (simp [*]; done)), (by first | rfl | (simp; done) | (simp [*]; done)), (by first | rfl | (simp; done) | (simp [*]; done)), (by first | rfl | (simp; done) | (simp [*]; done)), H', ⟨by have := HK1.out; have := HJ6.out; omega⟩, ⟨by (with_reducible repeat (first | apply Kd.R_alloc | apply Kd.R_drewN | apply Kd.R_drew)); exact HO_6.out⟩, ⟨by repeat (first | (with_reducible first | exact HB.out | apply below_alloc | apply pw_below_drewN | apply below_drew1) | exact HB.out)⟩⟩
                                    · rw [if_neg c26] at H
                                      exact absurd H (by simp)
                                  · rw [if_neg c25] at H
                                    exact absurd H (by simp)
                                · rw [if_neg c24] at H
                                  exact absurd H (by simp)
                              · rw [if_neg c23] at H
                                exact absurd H (by simp)
                          · rw [if_neg c19] at H
                            exact absurd H (by simp)
                        · rw [if_neg c18] at H
                          exact absurd H (by simp)
                    · rw [if_neg c15] at H
                      have c15b0 : ((ji12) == 5) = false := beq_eq_false_iff_ne.mpr c15
                      have c15b1 : ((ji12) != 5) = true := bne_iff_ne.mpr c15
                      by_cases c29 : x7_1.size + (rdOf ByteArray.empty y299 (ji12)).size ≤ 9223372036854775807
                      · rw [if_pos c29] at H
                        have c29b0 := eq_true c29
                        have c29b1 : decide (x7_1.size + (rdOf ByteArray.empty y299 (ji12)).size ≤ 9223372036854775807) = true := decide_eq_true c29
                        try have c29b2 : (9223372036854775807 < x7_1.size + (rdOf ByteArray.empty y299 (ji12)).size) = False := eq_false (Nat.not_lt.2 c29)
                        by_cases c30 : (x7_1.size + (rdOf ByteArray.empty y299 (ji12)).size) + 1 ≤ 9223372036854775807
                        · rw [if_pos c30] at H
                          have c30b0 := eq_true c30
                          have c30b1 : decide ((x7_1.size + (rdOf ByteArray.empty y299 (ji12)).size) + 1 ≤ 9223372036854775807) = true := decide_eq_true c30
                          try have c30b2 : (9223372036854775807 < (x7_1.size + (rdOf ByteArray.empty y299 (ji12)).size) + 1) = False := eq_false (Nat.not_lt.2 c30)
                          by_cases c31 : x8_1.size + (rdOf ByteArray.empty y299 (ji12)).size ≤ 9223372036854775807
                          · rw [if_pos c31] at H
                            have c31b0 := eq_true c31
                            have c31b1 : decide (x8_1.size + (rdOf ByteArray.empty y299 (ji12)).size ≤ 9223372036854775807) = true := decide_eq_true c31
                            try have c31b2 : (9223372036854775807 < x8_1.size + (rdOf ByteArray.empty y299 (ji12)).size) = False := eq_false (Nat.not_lt.2 c31)
                            by_cases c32 : (x8_1.size + (rdOf ByteArray.empty y299 (ji12)).size) + 4 ≤ 9223372036854775807
                            · rw [if_pos c32] at H
                              have c32b0 := eq_true c32
                              have c32b1 : decide ((x8_1.size + (rdOf ByteArray.empty y299 (ji12)).size) + 4 ≤ 9223372036854775807) = true := decide_eq_true c32
                              try have c32b2 : (9223372036854775807 < (x8_1.size + (rdOf ByteArray.empty y299 (ji12)).size) + 4) = False := eq_false (Nat.not_lt.2 c32)
                              as_aux_lemma =>
                                have H' := Aside0.mk H
                                clear H
                                have p302 : 0 ≤ (x10_1 : Int) := of_decide_eq_true (by first | (with_reducible assumption) | assumption)
                                have q302 : x10_1 < (l1.length : Int) := of_decide_eq_true (by first | (with_reducible assumption) | assumption)
                                obtain ⟨ad302, e302, hx302_0⟩ := Kd.at_int HR1.out x10_1 p302 q302
                                cases e302
                                replace hx302_0 := (HB.out.cell (World.block_lt_of_cell? w _ hx302_0)).trans hx302_0
                                replace p302 := eq_true p302
                                replace q302 := eq_true q302
                                obtain ⟨Ao33, co33, eo33⟩ := Kd.R_slice HO_6.out
                                subst eo33
                                have p303 : 0 ≤ ((ji12) : Int) := of_decide_eq_true (by first | (with_reducible assumption) | assumption)
                                have q303 : (ji12) < (y299.length : Int) := of_decide_eq_true (by first | (with_reducible assumption) | assumption)
                                obtain ⟨ad303, e303, hx303_0⟩ := Kd.at_string (Kd.R_reads' HO_6.out).2.2 (ji12) p303 q303
                                cases e303
                                replace p303 := eq_true p303
                                replace q303 := eq_true q303
                                go_wp2
                                repeat (go_quiet (fail); try go_wp2)
                                go_roundg kj6
                                case measure => have := HK1.out; have := HJ6.out; omega
                                case rel => exact ⟨((x7_1 ++ (rdOf ByteArray.empty y299 (ji12))) ++ (⟨#[32]⟩ : ByteArray)), ((x8_1 ++ (rdOf ByteArray.empty y299 (ji12))) ++ (⟨#[10, 9, 32, 32]⟩ : ByteArray)), (x9_1), (wrap64 (x10_1 + 1)), (by first | rfl | (simp; done) | (simp only [← hji12] <;> (first | rfl | simp)) | (simp [*]; done)), (by first | rfl | (simp; done) | (simp only [← hji12] <;> (first | rfl | simp)) | (simp [*]; done)), (by first | rfl | (simp; done) | (simp [*]; done)), (by first | rfl | (simp; done) | (simp [*]; done)), H', ⟨by have := HK1.out; have := HJ6.out; omega⟩, ⟨by (with_reducible repeat (first | apply Kd.R_alloc | apply Kd.R_drewN | apply Kd.R_drew)); exact HO_6.out⟩, ⟨by repeat (first | (with_reducible first | exact HB.out | apply below_alloc | apply pw_below_drewN | apply below_drew1) | exact HB.out)⟩⟩
                            · rw [if_neg c32] at H
                              exact absurd H (by simp)
                          · rw [if_neg c31] at H
                            exact absurd H (by simp)
                        · rw [if_neg c30] at H
                          exact absurd H (by simp)
                      · rw [if_neg c29] at H
                        exact absurd H (by simp)
                  · rw [if_neg c14] at H
                    exact absurd H (by simp)
                · rw [if_neg c13] at H
                  exact absurd H (by simp)
              · rw [if_neg c11] at H
                exact absurd H (by simp)
            · rw [if_neg c10] at H
              exact absurd H (by simp)
          · replace c9 := Bool.eq_false_iff.mpr c9
            subst c9
            have H1 : ((lexer_Split.f kj6 x7_1).bind fun bt307 => ((lexer_Split.f kj6 x8_1).bind fun bt312 => ((lexer_Split.f kj6 (⟨#[32, 10, 9]⟩ : ByteArray)).bind fun bt317 => (if (x8_1.size : Int) > 1024 then (some t298) else (if bt307.2.1 = 0 then (if bt312.2.1 = 0 then (if bt317.2.1 = 0 then (if (bt307.1.length : Int) = (bt312.1.length : Int) then (verbatimlaw17_LexerBlanks.j2 kj6 t298 bt307.1 bt312.1 ((bt317.1.length : Int) != 0)) else (verbatimlaw17_LexerBlanks.j2 kj6 t298 bt307.1 bt312.1 true)) else (verbatimlaw17_LexerBlanks.j2 kj6 t298 bt307.1 bt312.1 true)) else (verbatimlaw17_LexerBlanks.j2 kj6 t298 bt307.1 bt312.1 true)) else (verbatimlaw17_LexerBlanks.j2 kj6 t298 bt307.1 bt312.1 true)))))) = some r := by rw [if_neg (show ¬ (false = true) by decide)] at H; exact H
            clear H
            have H := H1
            clear H1
            replace H := Option.bind_eq_some_iff.mp H
            obtain ⟨⟨t307, t308, t309⟩, A340, H⟩ := H
            replace H : ((lexer_Split.f kj6 x8_1).bind fun bt312 => ((lexer_Split.f kj6 (⟨#[32, 10, 9]⟩ : ByteArray)).bind fun bt317 => (if (x8_1.size : Int) > 1024 then (some t298) else (if t308 = 0 then (if bt312.2.1 = 0 then (if bt317.2.1 = 0 then (if (t307.length : Int) = (bt312.1.length : Int) then (verbatimlaw17_LexerBlanks.j2 kj6 t298 t307 bt312.1 ((bt317.1.length : Int) != 0)) else (verbatimlaw17_LexerBlanks.j2 kj6 t298 t307 bt312.1 true)) else (verbatimlaw17_LexerBlanks.j2 kj6 t298 t307 bt312.1 true)) else (verbatimlaw17_LexerBlanks.j2 kj6 t298 t307 bt312.1 true)) else (verbatimlaw17_LexerBlanks.j2 kj6 t298 t307 bt312.1 true))))) = some r := H
            have A34 := Aside0.mk A340
            clear A340
            replace H := Option.bind_eq_some_iff.mp H
            obtain ⟨⟨t312, t313, t314⟩, A350, H⟩ := H
            replace H : ((lexer_Split.f kj6 (⟨#[32, 10, 9]⟩ : ByteArray)).bind fun bt317 => (if (x8_1.size : Int) > 1024 then (some t298) else (if t308 = 0 then (if t313 = 0 then (if bt317.2.1 = 0 then (if (t307.length : Int) = (t312.length : Int) then (verbatimlaw17_LexerBlanks.j2 kj6 t298 t307 t312 ((bt317.1.length : Int) != 0)) else (verbatimlaw17_LexerBlanks.j2 kj6 t298 t307 t312 true)) else (verbatimlaw17_LexerBlanks.j2 kj6 t298 t307 t312 true)) else (verbatimlaw17_LexerBlanks.j2 kj6 t298 t307 t312 true)) else (verbatimlaw17_LexerBlanks.j2 kj6 t298 t307 t312 true)))) = some r := H
            have A35 := Aside0.mk A350
            clear A350
            replace H := Option.bind_eq_some_iff.mp H
            obtain ⟨⟨t317, t318, t319⟩, A360, H⟩ := H
            replace H : (if (x8_1.size : Int) > 1024 then (some t298) else (if t308 = 0 then (if t313 = 0 then (if t318 = 0 then (if (t307.length : Int) = (t312.length : Int) then (verbatimlaw17_LexerBlanks.j2 kj6 t298 t307 t312 ((t317.length : Int) != 0)) else (verbatimlaw17_LexerBlanks.j2 kj6 t298 t307 t312 true)) else (verbatimlaw17_LexerBlanks.j2 kj6 t298 t307 t312 true)) else (verbatimlaw17_LexerBlanks.j2 kj6 t298 t307 t312 true)) else (verbatimlaw17_LexerBlanks.j2 kj6 t298 t307 t312 true))) = some r := H
            have A36 := Aside0.mk A360
            clear A360
            by_cases c37 : (x8_1.size : Int) > 1024
            · rw [if_pos c37] at H
              have c37b0 : decide (1024 < (x8_1.size : Int)) = true := decide_eq_true c37
              have c37b1 : decide (1024 < x8_1.size) = true := decide_eq_true (by omega)
              clear c37
              as_aux_lemma =>
                obtain rfl := Option.some.inj H
                go_wp2_with (first | (go_at_call 10; (with_reducible refine (lexer_Split.calls kj6 x7_1 t307 t308 t309 _ A34.out).mono ?_); rintro e w38 ⟨v310, rfl, ho0, hb⟩; have n0_ := Aside0.mk (Kd.R_below (by (with_reducible repeat (first | apply Kd.R_alloc | apply Kd.R_drewN | apply Kd.R_drew)); exact HO_6.out) hb); have n1_ := Aside0.mk (Kd.R_lower ho0 (below_size (by repeat (first | (with_reducible first | exact HB.out | apply below_alloc | apply pw_below_drewN | apply below_drew1) | exact HB.out)))); have n2_ := Aside0.mk (below_step (by repeat (first | (with_reducible first | exact HB.out | apply below_alloc | apply pw_below_drewN | apply below_drew1) | exact HB.out)) hb); clear HO_6; clear HB; have HO_6 := n0_; have HO311 := n1_; have HB := n2_; clear n0_ n1_ n2_; (try clear hb); (try clear hb2); (try clear hk); (try clear hi); (try clear ho0)) | (go_at_call 10; (with_reducible refine (lexer_Split.calls kj6 x8_1 t312 t313 t314 _ A35.out).mono ?_); rintro e w39 ⟨v315, rfl, ho0, hb⟩; have n0_ := Aside0.mk (Kd.R_below (by (with_reducible repeat (first | apply Kd.R_alloc | apply Kd.R_drewN | apply Kd.R_drew)); exact HO_6.out) hb); have n1_ := Aside0.mk (Kd.R_elder' (by (with_reducible repeat (first | apply Kd.R_alloc | apply Kd.R_drewN | apply Kd.R_drew)); exact HO311.out) (Kd.R_base ho0) hb); have n2_ := Aside0.mk (Kd.R_lower (Kd.R_new' ho0 (Kd.R_lt (by (with_reducible repeat (first | apply Kd.R_alloc | apply Kd.R_drewN | apply Kd.R_drew)); exact HO311.out))) (below_size (by repeat (first | (with_reducible first | exact HB.out | apply below_alloc | apply pw_below_drewN | apply below_drew1) | exact HB.out)))); have n3_ := Aside0.mk (below_step (by repeat (first | (with_reducible first | exact HB.out | apply below_alloc | apply pw_below_drewN | apply below_drew1) | exact HB.out)) hb); clear HO_6; clear HO311; clear HB; have HO_6 := n0_; have HO311 := n1_; have HO316 := n2_; have HB := n3_; clear n0_ n1_ n2_ n3_; (try clear hb); (try clear hb2); (try clear hk); (try clear hi); (try clear ho0)) | (go_at_call 10; (with_reducible refine (lexer_Split.calls kj6 (⟨#[32, 10, 9]⟩ : ByteArray) t317 t318 t319 _ A36.out).mono ?_); rintro e w40 ⟨v320, rfl, ho0, hb⟩; have n0_ := Aside0.mk (Kd.R_below (by (with_reducible repeat (first | apply Kd.R_alloc | apply Kd.R_drewN | apply Kd.R_drew)); exact HO_6.out) hb); have n1_ := Aside0.mk (Kd.R_elder' (by (with_reducible repeat (first | apply Kd.R_alloc | apply Kd.R_drewN | apply Kd.R_drew)); exact HO311.out) (Kd.R_base ho0) hb); have n2_ := Aside0.mk (Kd.R_elder' (by (with_reducible repeat (first | apply Kd.R_alloc | apply Kd.R_drewN | apply Kd.R_drew)); exact HO316.out) (Kd.R_base ho0) hb); have n3_ := Aside0.mk (Kd.R_lower (Kd.R_new' (Kd.R_new' ho0 (Kd.R_lt (by (with_reducible repeat (first | apply Kd.R_alloc | apply Kd.R_drewN | apply Kd.R_drew)); exact HO311.out))) (Kd.R_lt (by (with_reducible repeat (first | apply Kd.R_alloc | apply Kd.R_drewN | apply Kd.R_drew)); exact HO316.out))) (below_size (by repeat (first | (with_reducible first | exact HB.out | apply below_alloc | apply pw_below_drewN | apply below_drew1) | exact HB.out)))); have n4_ := Aside0.mk (below_step (by repeat (first | (with_reducible first | exact HB.out | apply below_alloc | apply pw_below_drewN | apply below_drew1) | exact HB.out)) hb); clear HO_6; clear HO311; clear HO316; clear HB; have HO_6 := n0_; have HO311 := n1_; have HO316 := n2_; have HO321 := n3_; have HB := n4_; clear n0_ n1_ n2_ n3_ n4_; (try clear hb); (try clear hb2); (try clear hk); (try clear hi); (try clear ho0)))
                repeat (go_quiet (first | (go_at_call 10; (with_reducible refine (lexer_Split.calls kj6 x7_1 t307 t308 t309 _ A34.out).mono ?_); rintro e w38 ⟨v310, rfl, ho0, hb⟩; have n0_ := Aside0.mk (Kd.R_below (by (with_reducible repeat (first | apply Kd.R_alloc | apply Kd.R_drewN | apply Kd.R_drew)); exact HO_6.out) hb); have n1_ := Aside0.mk (Kd.R_lower ho0 (below_size (by repeat (first | (with_reducible first | exact HB.out | apply below_alloc | apply pw_below_drewN | apply below_drew1) | exact HB.out)))); have n2_ := Aside0.mk (below_step (by repeat (first | (with_reducible first | exact HB.out | apply below_alloc | apply pw_below_drewN | apply below_drew1) | exact HB.out)) hb); clear HO_6; clear HB; have HO_6 := n0_; have HO311 := n1_; have HB := n2_; clear n0_ n1_ n2_; (try clear hb); (try clear hb2); (try clear hk); (try clear hi); (try clear ho0)) | (go_at_call 10; (with_reducible refine (lexer_Split.calls kj6 x8_1 t312 t313 t314 _ A35.out).mono ?_); rintro e w39 ⟨v315, rfl, ho0, hb⟩; have n0_ := Aside0.mk (Kd.R_below (by (with_reducible repeat (first | apply Kd.R_alloc | apply Kd.R_drewN | apply Kd.R_drew)); exact HO_6.out) hb); have n1_ := Aside0.mk (Kd.R_elder' (by (with_reducible repeat (first | apply Kd.R_alloc | apply Kd.R_drewN | apply Kd.R_drew)); exact HO311.out) (Kd.R_base ho0) hb); have n2_ := Aside0.mk (Kd.R_lower (Kd.R_new' ho0 (Kd.R_lt (by (with_reducible repeat (first | apply Kd.R_alloc | apply Kd.R_drewN | apply Kd.R_drew)); exact HO311.out))) (below_size (by repeat (first | (with_reducible first | exact HB.out | apply below_alloc | apply pw_below_drewN | apply below_drew1) | exact HB.out)))); have n3_ := Aside0.mk (below_step (by repeat (first | (with_reducible first | exact HB.out | apply below_alloc | apply pw_below_drewN | apply below_drew1) | exact HB.out)) hb); clear HO_6; clear HO311; clear HB; have HO_6 := n0_; have HO311 := n1_; have HO316 := n2_; have HB := n3_; clear n0_ n1_ n2_ n3_; (try clear hb); (try clear hb2); (try clear hk); (try clear hi); (try clear ho0)) | (go_at_call 10; (with_reducible refine (lexer_Split.calls kj6 (⟨#[32, 10, 9]⟩ : ByteArray) t317 t318 t319 _ A36.out).mono ?_); rintro e w40 ⟨v320, rfl, ho0, hb⟩; have n0_ := Aside0.mk (Kd.R_below (by (with_reducible repeat (first | apply Kd.R_alloc | apply Kd.R_drewN | apply Kd.R_drew)); exact HO_6.out) hb); have n1_ := Aside0.mk (Kd.R_elder' (by (with_reducible repeat (first | apply Kd.R_alloc | apply Kd.R_drewN | apply Kd.R_drew)); exact HO311.out) (Kd.R_base ho0) hb); have n2_ := Aside0.mk (Kd.R_elder' (by (with_reducible repeat (first | apply Kd.R_alloc | apply Kd.R_drewN | apply Kd.R_drew)); exact HO316.out) (Kd.R_base ho0) hb); have n3_ := Aside0.mk (Kd.R_lower (Kd.R_new' (Kd.R_new' ho0 (Kd.R_lt (by (with_reducible repeat (first | apply Kd.R_alloc | apply Kd.R_drewN | apply Kd.R_drew)); exact HO311.out))) (Kd.R_lt (by (with_reducible repeat (first | apply Kd.R_alloc | apply Kd.R_drewN | apply Kd.R_drew)); exact HO316.out))) (below_size (by repeat (first | (with_reducible first | exact HB.out | apply below_alloc | apply pw_below_drewN | apply below_drew1) | exact HB.out)))); have n4_ := Aside0.mk (below_step (by repeat (first | (with_reducible first | exact HB.out | apply below_alloc | apply pw_below_drewN | apply below_drew1) | exact HB.out)) hb); clear HO_6; clear HO311; clear HO316; clear HB; have HO_6 := n0_; have HO311 := n1_; have HO316 := n2_; have HO321 := n3_; have HB := n4_; clear n0_ n1_ n2_ n3_ n4_; (try clear hb); (try clear hb2); (try clear hk); (try clear hi); (try clear ho0))); try go_wp2_with (first | (go_at_call 10; (with_reducible refine (lexer_Split.calls kj6 x7_1 t307 t308 t309 _ A34.out).mono ?_); rintro e w38 ⟨v310, rfl, ho0, hb⟩; have n0_ := Aside0.mk (Kd.R_below (by (with_reducible repeat (first | apply Kd.R_alloc | apply Kd.R_drewN | apply Kd.R_drew)); exact HO_6.out) hb); have n1_ := Aside0.mk (Kd.R_lower ho0 (below_size (by repeat (first | (with_reducible first | exact HB.out | apply below_alloc | apply pw_below_drewN | apply below_drew1) | exact HB.out)))); have n2_ := Aside0.mk (below_step (by repeat (first | (with_reducible first | exact HB.out | apply below_alloc | apply pw_below_drewN | apply below_drew1) | exact HB.out)) hb); clear HO_6; clear HB; have HO_6 := n0_; have HO311 := n1_; have HB := n2_; clear n0_ n1_ n2_; (try clear hb); (try clear hb2); (try clear hk); (try clear hi); (try clear ho0)) | (go_at_call 10; (with_reducible refine (lexer_Split.calls kj6 x8_1 t312 t313 t314 _ A35.out).mono ?_); rintro e w39 ⟨v315, rfl, ho0, hb⟩; have n0_ := Aside0.mk (Kd.R_below (by (with_reducible repeat (first | apply Kd.R_alloc | apply Kd.R_drewN | apply Kd.R_drew)); exact HO_6.out) hb); have n1_ := Aside0.mk (Kd.R_elder' (by (with_reducible repeat (first | apply Kd.R_alloc | apply Kd.R_drewN | apply Kd.R_drew)); exact HO311.out) (Kd.R_base ho0) hb); have n2_ := Aside0.mk (Kd.R_lower (Kd.R_new' ho0 (Kd.R_lt (by (with_reducible repeat (first | apply Kd.R_alloc | apply Kd.R_drewN | apply Kd.R_drew)); exact HO311.out))) (below_size (by repeat (first | (with_reducible first | exact HB.out | apply below_alloc | apply pw_below_drewN | apply below_drew1) | exact HB.out)))); have n3_ := Aside0.mk (below_step (by repeat (first | (with_reducible first | exact HB.out | apply below_alloc | apply pw_below_drewN | apply below_drew1) | exact HB.out)) hb); clear HO_6; clear HO311; clear HB; have HO_6 := n0_; have HO311 := n1_; have HO316 := n2_; have HB := n3_; clear n0_ n1_ n2_ n3_; (try clear hb); (try clear hb2); (try clear hk); (try clear hi); (try clear ho0)) | (go_at_call 10; (with_reducible refine (lexer_Split.calls kj6 (⟨#[32, 10, 9]⟩ : ByteArray) t317 t318 t319 _ A36.out).mono ?_); rintro e w40 ⟨v320, rfl, ho0, hb⟩; have n0_ := Aside0.mk (Kd.R_below (by (with_reducible repeat (first | apply Kd.R_alloc | apply Kd.R_drewN | apply Kd.R_drew)); exact HO_6.out) hb); have n1_ := Aside0.mk (Kd.R_elder' (by (with_reducible repeat (first | apply Kd.R_alloc | apply Kd.R_drewN | apply Kd.R_drew)); exact HO311.out) (Kd.R_base ho0) hb); have n2_ := Aside0.mk (Kd.R_elder' (by (with_reducible repeat (first | apply Kd.R_alloc | apply Kd.R_drewN | apply Kd.R_drew)); exact HO316.out) (Kd.R_base ho0) hb); have n3_ := Aside0.mk (Kd.R_lower (Kd.R_new' (Kd.R_new' ho0 (Kd.R_lt (by (with_reducible repeat (first | apply Kd.R_alloc | apply Kd.R_drewN | apply Kd.R_drew)); exact HO311.out))) (Kd.R_lt (by (with_reducible repeat (first | apply Kd.R_alloc | apply Kd.R_drewN | apply Kd.R_drew)); exact HO316.out))) (below_size (by repeat (first | (with_reducible first | exact HB.out | apply below_alloc | apply pw_below_drewN | apply below_drew1) | exact HB.out)))); have n4_ := Aside0.mk (below_step (by repeat (first | (with_reducible first | exact HB.out | apply below_alloc | apply pw_below_drewN | apply below_drew1) | exact HB.out)) hb); clear HO_6; clear HO311; clear HO316; clear HB; have HO_6 := n0_; have HO311 := n1_; have HO316 := n2_; have HO321 := n3_; have HB := n4_; clear n0_ n1_ n2_ n3_ n4_; (try clear hb); (try clear hb2); (try clear hk); (try clear hi); (try clear ho0))))
                go_ret
                exact ⟨by first | rfl | (simp [errW_none, errW_some] <;> rfl) | (simp [*, errW_none, errW_some] <;> rfl), by repeat (first | (with_reducible first | exact HB.out | apply below_alloc | apply pw_below_drewN | apply below_drew1) | exact HB.out)⟩
            · rw [if_neg c37] at H
              have c37b0 : decide (1024 < (x8_1.size : Int)) = false := decide_eq_false c37
              have c37b1 : decide (1024 < x8_1.size) = false := decide_eq_false (by omega)
              clear c37
              have HC41 := Aside0.mk H
              clear H
              go_upto_region 22 with (first | (go_at_call 10; (with_reducible refine (lexer_Split.calls kj6 x7_1 t307 t308 t309 _ A34.out).mono ?_); rintro e w42 ⟨v310, rfl, ho0, hb⟩; have n0_ := Aside0.mk (Kd.R_below (by (with_reducible repeat (first | apply Kd.R_alloc | apply Kd.R_drewN | apply Kd.R_drew)); exact HO_6.out) hb); have n1_ := Aside0.mk (Kd.R_lower ho0 (below_size (by repeat (first | (with_reducible first | exact HB.out | apply below_alloc | apply pw_below_drewN | apply below_drew1) | exact HB.out)))); have n2_ := Aside0.mk (below_step (by repeat (first | (with_reducible first | exact HB.out | apply below_alloc | apply pw_below_drewN | apply below_drew1) | exact HB.out)) hb); clear HO_6; clear HB; have HO_6 := n0_; have HO311 := n1_; have HB := n2_; clear n0_ n1_ n2_; (try clear hb); (try clear hb2); (try clear hk); (try clear hi); (try clear ho0)) | (go_at_call 10; (with_reducible refine (lexer_Split.calls kj6 x8_1 t312 t313 t314 _ A35.out).mono ?_); rintro e w43 ⟨v315, rfl, ho0, hb⟩; have n0_ := Aside0.mk (Kd.R_below (by (with_reducible repeat (first | apply Kd.R_alloc | apply Kd.R_drewN | apply Kd.R_drew)); exact HO_6.out) hb); have n1_ := Aside0.mk (Kd.R_elder' (by (with_reducible repeat (first | apply Kd.R_alloc | apply Kd.R_drewN | apply Kd.R_drew)); exact HO311.out) (Kd.R_base ho0) hb); have n2_ := Aside0.mk (Kd.R_lower (Kd.R_new' ho0 (Kd.R_lt (by (with_reducible repeat (first | apply Kd.R_alloc | apply Kd.R_drewN | apply Kd.R_drew)); exact HO311.out))) (below_size (by repeat (first | (with_reducible first | exact HB.out | apply below_alloc | apply pw_below_drewN | apply below_drew1) | exact HB.out)))); have n3_ := Aside0.mk (below_step (by repeat (first | (with_reducible first | exact HB.out | apply below_alloc | apply pw_below_drewN | apply below_drew1) | exact HB.out)) hb); clear HO_6; clear HO311; clear HB; have HO_6 := n0_; have HO311 := n1_; have HO316 := n2_; have HB := n3_; clear n0_ n1_ n2_ n3_; (try clear hb); (try clear hb2); (try clear hk); (try clear hi); (try clear ho0)) | (go_at_call 10; (with_reducible refine (lexer_Split.calls kj6 (⟨#[32, 10, 9]⟩ : ByteArray) t317 t318 t319 _ A36.out).mono ?_); rintro e w44 ⟨v320, rfl, ho0, hb⟩; have n0_ := Aside0.mk (Kd.R_below (by (with_reducible repeat (first | apply Kd.R_alloc | apply Kd.R_drewN | apply Kd.R_drew)); exact HO_6.out) hb); have n1_ := Aside0.mk (Kd.R_elder' (by (with_reducible repeat (first | apply Kd.R_alloc | apply Kd.R_drewN | apply Kd.R_drew)); exact HO311.out) (Kd.R_base ho0) hb); have n2_ := Aside0.mk (Kd.R_elder' (by (with_reducible repeat (first | apply Kd.R_alloc | apply Kd.R_drewN | apply Kd.R_drew)); exact HO316.out) (Kd.R_base ho0) hb); have n3_ := Aside0.mk (Kd.R_lower (Kd.R_new' (Kd.R_new' ho0 (Kd.R_lt (by (with_reducible repeat (first | apply Kd.R_alloc | apply Kd.R_drewN | apply Kd.R_drew)); exact HO311.out))) (Kd.R_lt (by (with_reducible repeat (first | apply Kd.R_alloc | apply Kd.R_drewN | apply Kd.R_drew)); exact HO316.out))) (below_size (by repeat (first | (with_reducible first | exact HB.out | apply below_alloc | apply pw_below_drewN | apply below_drew1) | exact HB.out)))); have n4_ := Aside0.mk (below_step (by repeat (first | (with_reducible first | exact HB.out | apply below_alloc | apply pw_below_drewN | apply below_drew1) | exact HB.out)) hb); clear HO_6; clear HO311; clear HO316; clear HB; have HO_6 := n0_; have HO311 := n1_; have HO316 := n2_; have HO321 := n3_; have HB := n4_; clear n0_ n1_ n2_ n3_ n4_; (try clear hb); (try clear hb2); (try clear hk); (try clear hi); (try clear ho0)))
              repeat (go_quiet (first | (go_at_call 10; (with_reducible refine (lexer_Split.calls kj6 x7_1 t307 t308 t309 _ A34.out).mono ?_); rintro e w42 ⟨v310, rfl, ho0, hb⟩; have n0_ := Aside0.mk (Kd.R_below (by (with_reducible repeat (first | apply Kd.R_alloc | apply Kd.R_drewN | apply Kd.R_drew)); exact HO_6.out) hb); have n1_ := Aside0.mk (Kd.R_lower ho0 (below_size (by repeat (first | (with_reducible first | exact HB.out | apply below_alloc | apply pw_below_drewN | apply below_drew1) | exact HB.out)))); have n2_ := Aside0.mk (below_step (by repeat (first | (with_reducible first | exact HB.out | apply below_alloc | apply pw_below_drewN | apply below_drew1) | exact HB.out)) hb); clear HO_6; clear HB; have HO_6 := n0_; have HO311 := n1_; have HB := n2_; clear n0_ n1_ n2_; (try clear hb); (try clear hb2); (try clear hk); (try clear hi); (try clear ho0)) | (go_at_call 10; (with_reducible refine (lexer_Split.calls kj6 x8_1 t312 t313 t314 _ A35.out).mono ?_); rintro e w43 ⟨v315, rfl, ho0, hb⟩; have n0_ := Aside0.mk (Kd.R_below (by (with_reducible repeat (first | apply Kd.R_alloc | apply Kd.R_drewN | apply Kd.R_drew)); exact HO_6.out) hb); have n1_ := Aside0.mk (Kd.R_elder' (by (with_reducible repeat (first | apply Kd.R_alloc | apply Kd.R_drewN | apply Kd.R_drew)); exact HO311.out) (Kd.R_base ho0) hb); have n2_ := Aside0.mk (Kd.R_lower (Kd.R_new' ho0 (Kd.R_lt (by (with_reducible repeat (first | apply Kd.R_alloc | apply Kd.R_drewN | apply Kd.R_drew)); exact HO311.out))) (below_size (by repeat (first | (with_reducible first | exact HB.out | apply below_alloc | apply pw_below_drewN | apply below_drew1) | exact HB.out)))); have n3_ := Aside0.mk (below_step (by repeat (first | (with_reducible first | exact HB.out | apply below_alloc | apply pw_below_drewN | apply below_drew1) | exact HB.out)) hb); clear HO_6; clear HO311; clear HB; have HO_6 := n0_; have HO311 := n1_; have HO316 := n2_; have HB := n3_; clear n0_ n1_ n2_ n3_; (try clear hb); (try clear hb2); (try clear hk); (try clear hi); (try clear ho0)) | (go_at_call 10; (with_reducible refine (lexer_Split.calls kj6 (⟨#[32, 10, 9]⟩ : ByteArray) t317 t318 t319 _ A36.out).mono ?_); rintro e w44 ⟨v320, rfl, ho0, hb⟩; have n0_ := Aside0.mk (Kd.R_below (by (with_reducible repeat (first | apply Kd.R_alloc | apply Kd.R_drewN | apply Kd.R_drew)); exact HO_6.out) hb); have n1_ := Aside0.mk (Kd.R_elder' (by (with_reducible repeat (first | apply Kd.R_alloc | apply Kd.R_drewN | apply Kd.R_drew)); exact HO311.out) (Kd.R_base ho0) hb); have n2_ := Aside0.mk (Kd.R_elder' (by (with_reducible repeat (first | apply Kd.R_alloc | apply Kd.R_drewN | apply Kd.R_drew)); exact HO316.out) (Kd.R_base ho0) hb); have n3_ := Aside0.mk (Kd.R_lower (Kd.R_new' (Kd.R_new' ho0 (Kd.R_lt (by (with_reducible repeat (first | apply Kd.R_alloc | apply Kd.R_drewN | apply Kd.R_drew)); exact HO311.out))) (Kd.R_lt (by (with_reducible repeat (first | apply Kd.R_alloc | apply Kd.R_drewN | apply Kd.R_drew)); exact HO316.out))) (below_size (by repeat (first | (with_reducible first | exact HB.out | apply below_alloc | apply pw_below_drewN | apply below_drew1) | exact HB.out)))); have n4_ := Aside0.mk (below_step (by repeat (first | (with_reducible first | exact HB.out | apply below_alloc | apply pw_below_drewN | apply below_drew1) | exact HB.out)) hb); clear HO_6; clear HO311; clear HO316; clear HB; have HO_6 := n0_; have HO311 := n1_; have HO316 := n2_; have HO321 := n3_; have HB := n4_; clear n0_ n1_ n2_ n3_ n4_; (try clear hb); (try clear hb2); (try clear hk); (try clear hi); (try clear ho0))); go_upto_region 22 with (first | (go_at_call 10; (with_reducible refine (lexer_Split.calls kj6 x7_1 t307 t308 t309 _ A34.out).mono ?_); rintro e w42 ⟨v310, rfl, ho0, hb⟩; have n0_ := Aside0.mk (Kd.R_below (by (with_reducible repeat (first | apply Kd.R_alloc | apply Kd.R_drewN | apply Kd.R_drew)); exact HO_6.out) hb); have n1_ := Aside0.mk (Kd.R_lower ho0 (below_size (by repeat (first | (with_reducible first | exact HB.out | apply below_alloc | apply pw_below_drewN | apply below_drew1) | exact HB.out)))); have n2_ := Aside0.mk (below_step (by repeat (first | (with_reducible first | exact HB.out | apply below_alloc | apply pw_below_drewN | apply below_drew1) | exact HB.out)) hb); clear HO_6; clear HB; have HO_6 := n0_; have HO311 := n1_; have HB := n2_; clear n0_ n1_ n2_; (try clear hb); (try clear hb2); (try clear hk); (try clear hi); (try clear ho0)) | (go_at_call 10; (with_reducible refine (lexer_Split.calls kj6 x8_1 t312 t313 t314 _ A35.out).mono ?_); rintro e w43 ⟨v315, rfl, ho0, hb⟩; have n0_ := Aside0.mk (Kd.R_below (by (with_reducible repeat (first | apply Kd.R_alloc | apply Kd.R_drewN | apply Kd.R_drew)); exact HO_6.out) hb); have n1_ := Aside0.mk (Kd.R_elder' (by (with_reducible repeat (first | apply Kd.R_alloc | apply Kd.R_drewN | apply Kd.R_drew)); exact HO311.out) (Kd.R_base ho0) hb); have n2_ := Aside0.mk (Kd.R_lower (Kd.R_new' ho0 (Kd.R_lt (by (with_reducible repeat (first | apply Kd.R_alloc | apply Kd.R_drewN | apply Kd.R_drew)); exact HO311.out))) (below_size (by repeat (first | (with_reducible first | exact HB.out | apply below_alloc | apply pw_below_drewN | apply below_drew1) | exact HB.out)))); have n3_ := Aside0.mk (below_step (by repeat (first | (with_reducible first | exact HB.out | apply below_alloc | apply pw_below_drewN | apply below_drew1) | exact HB.out)) hb); clear HO_6; clear HO311; clear HB; have HO_6 := n0_; have HO311 := n1_; have HO316 := n2_; have HB := n3_; clear n0_ n1_ n2_ n3_; (try clear hb); (try clear hb2); (try clear hk); (try clear hi); (try clear ho0)) | (go_at_call 10; (with_reducible refine (lexer_Split.calls kj6 (⟨#[32, 10, 9]⟩ : ByteArray) t317 t318 t319 _ A36.out).mono ?_); rintro e w44 ⟨v320, rfl, ho0, hb⟩; have n0_ := Aside0.mk (Kd.R_below (by (with_reducible repeat (first | apply Kd.R_alloc | apply Kd.R_drewN | apply Kd.R_drew)); exact HO_6.out) hb); have n1_ := Aside0.mk (Kd.R_elder' (by (with_reducible repeat (first | apply Kd.R_alloc | apply Kd.R_drewN | apply Kd.R_drew)); exact HO311.out) (Kd.R_base ho0) hb); have n2_ := Aside0.mk (Kd.R_elder' (by (with_reducible repeat (first | apply Kd.R_alloc | apply Kd.R_drewN | apply Kd.R_drew)); exact HO316.out) (Kd.R_base ho0) hb); have n3_ := Aside0.mk (Kd.R_lower (Kd.R_new' (Kd.R_new' ho0 (Kd.R_lt (by (with_reducible repeat (first | apply Kd.R_alloc | apply Kd.R_drewN | apply Kd.R_drew)); exact HO311.out))) (Kd.R_lt (by (with_reducible repeat (first | apply Kd.R_alloc | apply Kd.R_drewN | apply Kd.R_drew)); exact HO316.out))) (below_size (by repeat (first | (with_reducible first | exact HB.out | apply below_alloc | apply pw_below_drewN | apply below_drew1) | exact HB.out)))); have n4_ := Aside0.mk (below_step (by repeat (first | (with_reducible first | exact HB.out | apply below_alloc | apply pw_below_drewN | apply below_drew1) | exact HB.out)) hb); clear HO_6; clear HO311; clear HO316; clear HB; have HO_6 := n0_; have HO311 := n1_; have HO316 := n2_; have HO321 := n3_; have HB := n4_; clear n0_ n1_ n2_ n3_ n4_; (try clear hb); (try clear hb2); (try clear hk); (try clear hi); (try clear ho0))))
              (try simp only [Act.put, List.setIfInBounds_toArray, List.set_cons_zero, List.set_cons_succ])
              go_cut [116] (fun v116 wc => ∃ (kq : Nat) (x116_40 : Bool), v116 = .bool x116_40 ∧ Aside0 (verbatimlaw17_LexerBlanks.j2 kq t298 t307 t312 x116_40 = some r) ∧ Aside0 (kq ≤ kj6) ∧ Aside0 (Kd.R k33 33 wc w.heap.size (fun k_ => some k_ ≠ (v315 : Value).ownBlock) v310 t307) ∧ Aside0 (Kd.R k33 33 wc w.heap.size (fun k_ => some k_ ≠ (v310 : Value).ownBlock) v315 t312) ∧ Aside0 (Below w.heap.size w wc))
              case first =>
                have H := HC41.out
                clear HC41
                by_cases c45 : t308 = 0
                · rw [if_pos c45] at H
                  have c45b0 : (t308 == 0) = true := beq_iff_eq.mpr c45
                  have c45b1 : (t308 != 0) = false := bne_eq_false_iff_eq.mpr c45
                  clear c45
                  (first | rw [c45b0] | (simp only [i64_w, i32_w]; rw [c45b0]) | skip)
                  by_cases c46 : t313 = 0
                  · rw [if_pos c46] at H
                    have c46b0 : (t313 == 0) = true := beq_iff_eq.mpr c46
                    have c46b1 : (t313 != 0) = false := bne_eq_false_iff_eq.mpr c46
                    clear c46
                    by_cases c47 : t318 = 0
                    · rw [if_pos c47] at H
                      have c47b0 : (t318 == 0) = true := beq_iff_eq.mpr c47
                      have c47b1 : (t318 != 0) = false := bne_eq_false_iff_eq.mpr c47
                      clear c47
                      by_cases c48 : (t307.length : Int) = (t312.length : Int)
                      · rw [if_pos c48] at H
                        have c48b0 : ((t307.length : Int) == (t312.length : Int)) = true := beq_iff_eq.mpr c48
                        have c48b1 : ((t307.length : Int) != (t312.length : Int)) = false := bne_eq_false_iff_eq.mpr c48
                        have c48b2 : (t307.length == t312.length) = true := by first | simpa using c48 | (simp at c48 ⊢; omega)
                        clear c48
                        as_aux_lemma =>
                          have H' := Aside0.mk H
                          clear H
                          obtain ⟨Ao49, co49, eo49⟩ := Kd.R_slice HO311.out
                          subst eo49
                          obtain ⟨Ao50, co50, eo50⟩ := Kd.R_slice HO316.out
                          subst eo50
                          obtain ⟨Ao51, co51, eo51⟩ := Kd.R_slice HO321.out
                          subst eo51
                          go_wp2
                          repeat (go_quiet (fail); try go_wp2)
                          go_meet
                          case rel => exact ⟨_, (((t317.length : Int) != 0)), (by first | rfl | (simp; done) | (simp [*]; done)), H', ⟨by have := HK1.out; have := HJ6.out; first | omega | exact Nat.le_refl _⟩, ⟨by (with_reducible repeat (first | apply Kd.R_alloc | apply Kd.R_drewN | apply Kd.R_drew)); exact Kd.R_mono HO311.out (fun _ hk => hk.1.2)⟩, ⟨by (with_reducible repeat (first | apply Kd.R_alloc | apply Kd.R_drewN | apply Kd.R_drew)); exact Kd.R_mono HO316.out (fun _ hk => hk.1.2)⟩, ⟨by repeat (first | (with_reducible first | exact HB.out | apply below_alloc | apply pw_below_drewN | apply below_drew1) | exact HB.out)⟩⟩
                      · rw [if_neg c48] at H
                        have c48b0 : ((t307.length : Int) == (t312.length : Int)) = false := beq_eq_false_iff_ne.mpr c48
                        have c48b1 : ((t307.length : Int) != (t312.length : Int)) = true := bne_iff_ne.mpr c48
                        have c48b2 : (t307.length == t312.length) = false := by first | simpa using c48 | (simp at c48 ⊢; omega)
                        as_aux_lemma =>
                          have H' := Aside0.mk H
                          clear H
                          obtain ⟨Ao52, co52, eo52⟩ := Kd.R_slice HO311.out
                          subst eo52
                          obtain ⟨Ao53, co53, eo53⟩ := Kd.R_slice HO316.out
                          subst eo53
                          go_wp2
                          repeat (go_quiet (fail); try go_wp2)
                          go_meet
                          case rel => exact ⟨_, (true), (by first | rfl | (simp; done) | (simp [*]; done)), H', ⟨by have := HK1.out; have := HJ6.out; first | omega | exact Nat.le_refl _⟩, ⟨by (with_reducible repeat (first | apply Kd.R_alloc | apply Kd.R_drewN | apply Kd.R_drew)); exact Kd.R_mono HO311.out (fun _ hk => hk.1.2)⟩, ⟨by (with_reducible repeat (first | apply Kd.R_alloc | apply Kd.R_drewN | apply Kd.R_drew)); exact Kd.R_mono HO316.out (fun _ hk => hk.1.2)⟩, ⟨by repeat (first | (with_reducible first | exact HB.out | apply below_alloc | apply pw_below_drewN | apply below_drew1) | exact HB.out)⟩⟩
                    · rw [if_neg c47] at H
                      have c47b0 : (t318 == 0) = false := beq_eq_false_iff_ne.mpr c47
                      have c47b1 : (t318 != 0) = true := bne_iff_ne.mpr c47
                      as_aux_lemma =>
                        have H' := Aside0.mk H
                        clear H
                        go_wp2
                        repeat (go_quiet (fail); try go_wp2)
                        go_meet
                        case rel => exact ⟨_, (true), (by first | rfl | (simp; done) | (simp [*]; done)), H', ⟨by have := HK1.out; have := HJ6.out; first | omega | exact Nat.le_refl _⟩, ⟨by (with_reducible repeat (first | apply Kd.R_alloc | apply Kd.R_drewN | apply Kd.R_drew)); exact Kd.R_mono HO311.out (fun _ hk => hk.1.2)⟩, ⟨by (with_reducible repeat (first | apply Kd.R_alloc | apply Kd.R_drewN | apply Kd.R_drew)); exact Kd.R_mono HO316.out (fun _ hk => hk.1.2)⟩, ⟨by repeat (first | (with_reducible first | exact HB.out | apply below_alloc | apply pw_below_drewN | apply below_drew1) | exact HB.out)⟩⟩
                  · rw [if_neg c46] at H
                    have c46b0 : (t313 == 0) = false := beq_eq_false_iff_ne.mpr c46
                    have c46b1 : (t313 != 0) = true := bne_iff_ne.mpr c46
                    as_aux_lemma =>
                      have H' := Aside0.mk H
                      clear H
                      go_wp2
                      repeat (go_quiet (fail); try go_wp2)
                      go_meet
                      case rel => exact ⟨_, (true), (by first | rfl | (simp; done) | (simp [*]; done)), H', ⟨by have := HK1.out; have := HJ6.out; first | omega | exact Nat.le_refl _⟩, ⟨by (with_reducible repeat (first | apply Kd.R_alloc | apply Kd.R_drewN | apply Kd.R_drew)); exact Kd.R_mono HO311.out (fun _ hk => hk.1.2)⟩, ⟨by (with_reducible repeat (first | apply Kd.R_alloc | apply Kd.R_drewN | apply Kd.R_drew)); exact Kd.R_mono HO316.out (fun _ hk => hk.1.2)⟩, ⟨by repeat (first | (with_reducible first | exact HB.out | apply below_alloc | apply pw_below_drewN | apply below_drew1) | exact HB.out)⟩⟩
                · rw [if_neg c45] at H
                  have c45b0 : (t308 == 0) = false := beq_eq_false_iff_ne.mpr c45
                  have c45b1 : (t308 != 0) = true := bne_iff_ne.mpr c45
                  (first | rw [c45b0] | (simp only [i64_w, i32_w]; rw [c45b0]) | skip)
                  as_aux_lemma =>
                    have H' := Aside0.mk H
                    clear H
                    go_wp2
                    repeat (go_quiet (fail); try go_wp2)
                    go_meet
                    case rel => exact ⟨_, (true), (by first | rfl | (simp; done) | (simp [*]; done)), H', ⟨by have := HK1.out; have := HJ6.out; first | omega | exact Nat.le_refl _⟩, ⟨by (with_reducible repeat (first | apply Kd.R_alloc | apply Kd.R_drewN | apply Kd.R_drew)); exact Kd.R_mono HO311.out (fun _ hk => hk.1.2)⟩, ⟨by (with_reducible repeat (first | apply Kd.R_alloc | apply Kd.R_drewN | apply Kd.R_drew)); exact Kd.R_mono HO316.out (fun _ hk => hk.1.2)⟩, ⟨by repeat (first | (with_reducible first | exact HB.out | apply below_alloc | apply pw_below_drewN | apply below_drew1) | exact HB.out)⟩⟩
              case rest =>
                clear HC41
                try clear c1
                try clear c2
                try clear p2
                try clear c3
                try clear p3
                try clear q3
                try clear hx3
                try clear c4
                try clear c6
                try clear p6
                try clear c8
                try clear c8b0
                try clear c9
                try clear c10
                try clear c10b0
                try clear c11
                try clear c11b0
                try clear c13
                try clear c13b0
                try clear c14
                try clear c14b0
                try clear c15
                try clear c15b0
                try clear c15b1
                try clear c16
                try clear c16b0
                try clear c18
                try clear c18b0
                try clear c19
                try clear c19b0
                try clear c20
                try clear c20b0
                try clear c20b1
                try clear c23
                try clear c23b0
                try clear c23b1
                try clear c23b2
                try clear c24
                try clear c24b0
                try clear c24b1
                try clear c24b2
                try clear c25
                try clear c25b0
                try clear c25b1
                try clear c25b2
                try clear c26
                try clear c26b0
                try clear c26b1
                try clear c26b2
                try clear c29
                try clear c29b0
                try clear c29b1
                try clear c29b2
                try clear c30
                try clear c30b0
                try clear c30b1
                try clear c30b2
                try clear p30
                try clear q30
                try clear hx30
                try clear c31
                try clear c31b0
                try clear c31b1
                try clear c31b2
                try clear c32
                try clear c32b0
                try clear c32b1
                try clear c32b2
                try clear c37
                try clear c37b0
                try clear c37b1
                try clear c45
                try clear c45b0
                try clear c45b1
                try clear c46
                try clear c46b0
                try clear c46b1
                try clear c47
                try clear c47b0
                try clear c47b1
                try clear c48
                try clear c48b0
                try clear c48b1
                try clear c48b2
                try clear hx302_0
                try clear hx303_0
                try clear hx304_0
                try clear hx305_0
                try clear p2
                try clear p302
                try clear p303
                try clear p304
                try clear p305
                try clear q302
                try clear q303
                try clear q304
                try clear q305
                obtain ⟨kq, x116_40, rfl, HA, HJ40, HO_13, HO_16, HB⟩ := hcut
                cases kq with
                | zero => exact absurd HA.out (by simp [verbatimlaw17_LexerBlanks.j2])
                | succ kj40 =>
                  have H := HA.out
                  clear HA
                  simp only [verbatimlaw17_LexerBlanks.j2] at H
                  by_cases c54 : x116_40 = true
                  · subst c54
                    have H1 : (some false) = some r := by rw [if_pos rfl] at H; exact H
                    clear H
                    have H := H1
                    clear H1
                    as_aux_lemma =>
                      obtain rfl := Option.some.inj H
                      go_wp2
                      repeat (go_quiet (fail); try go_wp2)
                      go_ret
                      exact ⟨by first | rfl | (simp [errW_none, errW_some] <;> rfl) | (simp [*, errW_none, errW_some] <;> rfl), by repeat (first | (with_reducible first | exact HB.out | apply below_alloc | apply pw_below_drewN | apply below_drew1) | exact HB.out)⟩
                  · replace c54 := Bool.eq_false_iff.mpr c54
                    subst c54
                    have H1 : (verbatimlaw17_LexerBlanks.l1 kj40 t298 t307 t312 0) = some r := by rw [if_neg (show ¬ (false = true) by decide)] at H; exact H
                    clear H
                    have H := H1
                    clear H1
                    have H' := Aside0.mk H
                    clear H
                    go_wp2
                    repeat (go_quiet (fail); try go_wp2)
                    go_loopg [22] kj40 (fun kq v22 w' => ∃ (x22_4 : Int), v22 = .int .i64 x22_4 ∧ Aside0 (verbatimlaw17_LexerBlanks.l1 kq t298 t307 t312 x22_4 = some r) ∧ Aside0 (kq ≤ kj40) ∧ Aside0 (Kd.R k33 33 w' w.heap.size (fun k_ => some k_ ≠ (v315 : Value).ownBlock) v310 t307) ∧ Aside0 (Kd.R k33 33 w' w.heap.size (fun k_ => some k_ ≠ (v310 : Value).ownBlock) v315 t312) ∧ Aside0 (Below w.heap.size w w'))
                    case atStart => exact ⟨(0), (by first | rfl | (simp; done) | (simp [*]; done)), H', ⟨Nat.le_refl _⟩, ⟨by (with_reducible repeat (first | apply Kd.R_alloc | apply Kd.R_drewN | apply Kd.R_drew)); exact HO_13.out⟩, ⟨by (with_reducible repeat (first | apply Kd.R_alloc | apply Kd.R_drewN | apply Kd.R_drew)); exact HO_16.out⟩, ⟨by repeat (first | (with_reducible first | exact HB.out | apply below_alloc | apply pw_below_drewN | apply below_drew1) | exact HB.out)⟩⟩
                    case round =>
                      clear H'
                      try clear c1
                      try clear c2
                      try clear p2
                      try clear c3
                      try clear p3
                      try clear q3
                      try clear hx3
                      try clear c4
                      try clear c5
                      try clear c6
                      try clear p6
                      try clear c8
                      try clear c8b0
                      try clear c9
                      try clear c10
                      try clear c10b0
                      try clear c11
                      try clear c11b0
                      try clear c13
                      try clear c13b0
                      try clear c14
                      try clear c14b0
                      try clear c15
                      try clear c15b0
                      try clear c15b1
                      try clear c16
                      try clear c16b0
                      try clear c18
                      try clear c18b0
                      try clear c19
                      try clear c19b0
                      try clear c20
                      try clear c20b0
                      try clear c20b1
                      try clear c23
                      try clear c23b0
                      try clear c23b1
                      try clear c23b2
                      try clear c24
                      try clear c24b0
                      try clear c24b1
                      try clear c24b2
                      try clear c25
                      try clear c25b0
                      try clear c25b1
                      try clear c25b2
                      try clear c26
                      try clear c26b0
                      try clear c26b1
                      try clear c26b2
                      try clear c29
                      try clear c29b0
                      try clear c29b1
                      try clear c29b2
                      try clear c30
                      try clear c30b0
                      try clear c30b1
                      try clear c30b2
                      try clear p30
                      try clear q30
                      try clear hx30
                      try clear c31
                      try clear c31b0
                      try clear c31b1
                      try clear c31b2
                      try clear c32
                      try clear c32b0
                      try clear c32b1
                      try clear c32b2
                      try clear c37
                      try clear c37b0
                      try clear c37b1
                      try clear c45
                      try clear c45b0
                      try clear c45b1
                      try clear c46
                      try clear c46b0
                      try clear c46b1
                      try clear c47
                      try clear c47b0
                      try clear c47b1
                      try clear c48
                      try clear c48b0
                      try clear c48b1
                      try clear c48b2
                      try clear c54
                      try clear hx302_0
                      try clear hx303_0
                      try clear hx304_0
                      try clear hx305_0
                      try clear p2
                      try clear p3
                      try clear p30
                      try clear p302
                      try clear p303
                      try clear p304
                      try clear p305
                      try clear p6
                      try clear q3
                      try clear q30
                      try clear q302
                      try clear q303
                      try clear q304
                      try clear q305
                      obtain ⟨x22_4, rfl, HA, HK4, HO_13, HO_16, HB⟩ := hrel
                      cases gk with
                      | zero => exact absurd HA.out (by simp [verbatimlaw17_LexerBlanks.l1])
                      | succ k4 =>
                        have H := HA.out
                        clear HA
                        simp only [verbatimlaw17_LexerBlanks.l1] at H
                        by_cases c55 : x22_4 < (t307.length : Int)
                        · rw [if_pos c55] at H
                          have c55b0 : decide (x22_4 < (t307.length : Int)) = true := decide_eq_true c55
                          clear c55
                          by_cases c56 : 0 ≤ x22_4
                          · rw [if_pos c56] at H
                            have c56b0 : decide (0 ≤ x22_4) = true := decide_eq_true c56
                            clear c56
                            by_cases c57 : x22_4 < (t312.length : Int)
                            · rw [if_pos c57] at H
                              have c57b0 : decide (x22_4 < (t312.length : Int)) = true := decide_eq_true c57
                              clear c57
                              by_cases c58 : ((rd_T33 t307 x22_4).f0) = ((rd_T33 t312 x22_4).f0)
                              · rw [if_pos c58] at H
                                have c58b0 : (((rd_T33 t307 x22_4).f0) == ((rd_T33 t312 x22_4).f0)) = true := beq_iff_eq.mpr c58
                                have c58b1 : (((rd_T33 t307 x22_4).f0) != ((rd_T33 t312 x22_4).f0)) = false := bne_eq_false_iff_eq.mpr c58
                                clear c58
                                by_cases c59 : ((rd_T33 t307 x22_4).f2).toList = ((rd_T33 t312 x22_4).f2).toList
                                · rw [if_pos c59] at H
                                  have c59b0 : (((rd_T33 t307 x22_4).f2).toList == ((rd_T33 t312 x22_4).f2).toList) = true := beq_iff_eq.mpr c59
                                  have c59b1 : (((rd_T33 t307 x22_4).f2).toList != ((rd_T33 t312 x22_4).f2).toList) = false := bne_eq_false_iff_eq.mpr c59
                                  clear c59
                                  as_aux_lemma =>
                                    have H' := Aside0.mk H
                                    clear H
                                    obtain ⟨Ao60, co60, eo60⟩ := Kd.R_slice HO_13.out
                                    subst eo60
                                    have p322 : 0 ≤ (x22_4 : Int) := of_decide_eq_true (by first | (with_reducible assumption) | assumption)
                                    have q322 : x22_4 < (t307.length : Int) := of_decide_eq_true (by first | (with_reducible assumption) | assumption)
                                    obtain ⟨ad322, e322, hx322_0, hx322_1, hx322_2⟩ := at_T33 (Kd.R_reads' HO_13.out).2.2 x22_4 p322 q322
                                    cases e322
                                    replace p322 := eq_true p322
                                    replace q322 := eq_true q322
                                    obtain ⟨Ao61, co61, eo61⟩ := Kd.R_slice HO_16.out
                                    subst eo61
                                    have p323 : 0 ≤ (x22_4 : Int) := of_decide_eq_true (by first | (with_reducible assumption) | assumption)
                                    have q323 : x22_4 < (t312.length : Int) := of_decide_eq_true (by first | (with_reducible assumption) | assumption)
                                    obtain ⟨ad323, e323, hx323_0, hx323_1, hx323_2⟩ := at_T33 (Kd.R_reads' HO_16.out).2.2 x22_4 p323 q323
                                    cases e323
                                    replace p323 := eq_true p323
                                    replace q323 := eq_true q323
                                    have p324 : 0 ≤ (x22_4 : Int) := of_decide_eq_true (by first | (with_reducible assumption) | assumption)
                                    have q324 : x22_4 < (t307.length : Int) := of_decide_eq_true (by first | (with_reducible assumption) | assumption)
                                    obtain ⟨ad324, e324, hx324_0, hx324_1, hx324_2⟩ := at_T33 (Kd.R_reads' HO_13.out).2.2 x22_4 p324 q324
                                    obtain rfl : ad322 = ad324 := (by injection e324)
                                    replace p324 := eq_true p324
                                    replace q324 := eq_true q324
                                    have p325 : 0 ≤ (x22_4 : Int) := of_decide_eq_true (by first | (with_reducible assumption) | assumption)
                                    have q325 : x22_4 < (t312.length : Int) := of_decide_eq_true (by first | (with_reducible assumption) | assumption)
                                    obtain ⟨ad325, e325, hx325_0, hx325_1, hx325_2⟩ := at_T33 (Kd.R_reads' HO_16.out).2.2 x22_4 p325 q325
                                    obtain rfl : ad323 = ad325 := (by injection e325)
                                    replace p325 := eq_true p325
                                    replace q325 := eq_true q325
                                    go_wp2
                                    repeat (go_quiet (fail); try go_wp2)
                                    go_roundg k4
                                    case measure => have := HK1.out; have := HJ6.out; have := HJ40.out; have := HK4.out; omega
                                    case rel => exact ⟨(wrap64 (x22_4 + 1)), (by first | rfl | (simp; done) | (simp [*]; done)), H', ⟨by have := HK1.out; have := HJ6.out; have := HJ40.out; have := HK4.out; omega⟩, ⟨by (with_reducible repeat (first | apply Kd.R_alloc | apply Kd.R_drewN | apply Kd.R_drew)); exact HO_13.out⟩, ⟨by (with_reducible repeat (first | apply Kd.R_alloc | apply Kd.R_drewN | apply Kd.R_drew)); exact HO_16.out⟩, ⟨by repeat (first | (with_reducible first | exact HB.out | apply below_alloc | apply pw_below_drewN | apply below_drew1) | exact HB.out)⟩⟩
                                · rw [if_neg c59] at H
                                  have c59b0 : (((rd_T33 t307 x22_4).f2).toList == ((rd_T33 t312 x22_4).f2).toList) = false := beq_eq_false_iff_ne.mpr c59
                                  have c59b1 : (((rd_T33 t307 x22_4).f2).toList != ((rd_T33 t312 x22_4).f2).toList) = true := bne_iff_ne.mpr c59
                                  as_aux_lemma =>
                                    obtain rfl := Option.some.inj H
                                    obtain ⟨Ao62, co62, eo62⟩ := Kd.R_slice HO_13.out
                                    subst eo62
                                    have p322 : 0 ≤ (x22_4 : Int) := of_decide_eq_true (by first | (with_reducible assumption) | assumption)
                                    have q322 : x22_4 < (t307.length : Int) := of_decide_eq_true (by first | (with_reducible assumption) | assumption)
                                    obtain ⟨ad322, e322, hx322_0, hx322_1, hx322_2⟩ := at_T33 (Kd.R_reads' HO_13.out).2.2 x22_4 p322 q322
                                    cases e322
                                    replace p322 := eq_true p322
                                    replace q322 := eq_true q322
                                    obtain ⟨Ao63, co63, eo63⟩ := Kd.R_slice HO_16.out
                                    subst eo63
                                    have p323 : 0 ≤ (x22_4 : Int) := of_decide_eq_true (by first | (with_reducible assumption) | assumption)
                                    have q323 : x22_4 < (t312.length : Int) := of_decide_eq_true (by first | (with_reducible assumption) | assumption)
                                    obtain ⟨ad323, e323, hx323_0, hx323_1, hx323_2⟩ := at_T33 (Kd.R_reads' HO_16.out).2.2 x22_4 p323 q323
                                    cases e323
                                    replace p323 := eq_true p323
                                    replace q323 := eq_true q323
                                    have p324 : 0 ≤ (x22_4 : Int) := of_decide_eq_true (by first | (with_reducible assumption) | assumption)
                                    have q324 : x22_4 < (t307.length : Int) := of_decide_eq_true (by first | (with_reducible assumption) | assumption)
                                    obtain ⟨ad324, e324, hx324_0, hx324_1, hx324_2⟩ := at_T33 (Kd.R_reads' HO_13.out).2.2 x22_4 p324 q324
                                    obtain rfl : ad322 = ad324 := (by injection e324)
                                    replace p324 := eq_true p324
                                    replace q324 := eq_true q324
                                    have p325 : 0 ≤ (x22_4 : Int) := of_decide_eq_true (by first | (with_reducible assumption) | assumption)
                                    have q325 : x22_4 < (t312.length : Int) := of_decide_eq_true (by first | (with_reducible assumption) | assumption)
                                    obtain ⟨ad325, e325, hx325_0, hx325_1, hx325_2⟩ := at_T33 (Kd.R_reads' HO_16.out).2.2 x22_4 p325 q325
                                    obtain rfl : ad323 = ad325 := (by injection e325)
                                    replace p325 := eq_true p325
                                    replace q325 := eq_true q325
                                    go_wp2
                                    repeat (go_quiet (fail); try go_wp2)
                                    go_ret
                                    exact ⟨by first | rfl | (simp [errW_none, errW_some] <;> rfl) | (simp [*, errW_none, errW_some] <;> rfl), by repeat (first | (with_reducible first | exact HB.out | apply below_alloc | apply pw_below_drewN | apply below_drew1) | exact HB.out)⟩
                              · rw [if_neg c58] at H
                                have c58b0 : (((rd_T33 t307 x22_4).f0) == ((rd_T33 t312 x22_4).f0)) = false := beq_eq_false_iff_ne.mpr c58
                                have c58b1 : (((rd_T33 t307 x22_4).f0) != ((rd_T33 t312 x22_4).f0)) = true := bne_iff_ne.mpr c58
                                as_aux_lemma =>
                                  obtain rfl := Option.some.inj H
                                  obtain ⟨Ao64, co64, eo64⟩ := Kd.R_slice HO_13.out
                                  subst eo64
                                  have p322 : 0 ≤ (x22_4 : Int) := of_decide_eq_true (by first | (with_reducible assumption) | assumption)
                                  have q322 : x22_4 < (t307.length : Int) := of_decide_eq_true (by first | (with_reducible assumption) | assumption)
                                  obtain ⟨ad322, e322, hx322_0, hx322_1, hx322_2⟩ := at_T33 (Kd.R_reads' HO_13.out).2.2 x22_4 p322 q322
                                  cases e322
                                  replace p322 := eq_true p322
                                  replace q322 := eq_true q322
                                  obtain ⟨Ao65, co65, eo65⟩ := Kd.R_slice HO_16.out
                                  subst eo65
                                  have p323 : 0 ≤ (x22_4 : Int) := of_decide_eq_true (by first | (with_reducible assumption) | assumption)
                                  have q323 : x22_4 < (t312.length : Int) := of_decide_eq_true (by first | (with_reducible assumption) | assumption)
                                  obtain ⟨ad323, e323, hx323_0, hx323_1, hx323_2⟩ := at_T33 (Kd.R_reads' HO_16.out).2.2 x22_4 p323 q323
                                  cases e323
                                  replace p323 := eq_true p323
                                  replace q323 := eq_true q323
                                  go_wp2
                                  repeat (go_quiet (fail); try go_wp2)
                                  go_ret
                                  exact ⟨by first | rfl | (simp [errW_none, errW_some] <;> rfl) | (simp [*, errW_none, errW_some] <;> rfl), by repeat (first | (with_reducible first | exact HB.out | apply below_alloc | apply pw_below_drewN | apply below_drew1) | exact HB.out)⟩
                            · rw [if_neg c57] at H
                              exact absurd H (by simp)
                          · rw [if_neg c56] at H
                            exact absurd H (by simp)
                        · rw [if_neg c55] at H
                          have c55b0 : decide (x22_4 < (t307.length : Int)) = false := decide_eq_false c55
                          clear c55
                          as_aux_lemma =>
                            obtain rfl := Option.some.inj H
                            obtain ⟨Ao66, co66, eo66⟩ := Kd.R_slice HO_13.out
                            subst eo66
                            go_wp2
                            repeat (go_quiet (fail); try go_wp2)
                            go_ret
                            exact ⟨by first | rfl | (simp [errW_none, errW_some] <;> rfl) | (simp [*, errW_none, errW_some] <;> rfl), by repeat (first | (with_reducible first | exact HB.out | apply below_alloc | apply pw_below_drewN | apply below_drew1) | exact HB.out)⟩

/-- THE ONE PURE STATEMENT of verbatimlaw17_LexerBlanks. -/
def verbatimlaw17_LexerBlanks.Pure : Prop := ∀ (l0 : List ByteArray) (l1 : List Int), (l0.length ≤ 8796093021952 ∧ ∀ x_ ∈ l0, x_.size ≤ 140737488351232) → (l1.length ≤ 140737488351232 ∧ ∀ x_ ∈ l1, (Lit.int .u8 x_).wf = true) → ∃ k, verbatimlaw17_LexerBlanks.f k l0 l1 = some true

end Go.Proofs.YtfoijdahgkngpaaDoor.L
