-- Written for this claim by a program of this session (over the kit's print tool): functions as Lean functions, their contracts, rows. Lean checks it.
import Derived.Test.YtfoijdahgkngpaaDoorL0
import Derived.Test.YtfoijdahgkngpaaDoorL3
import Derived.Test.YtfoijdahgkngpaaDoorL4
namespace Go.Proofs.YtfoijdahgkngpaaDoor.L
open Go.RowKit Go.Proofs.YtfoijdahgkngpaaDoorW.PrintWords Go.Proofs.YtfoijdahgkngpaaDoorW.PrintLast Go.Proofs.YtfoijdahgkngpaaDoorW.PrintMore
attribute [local go_sem] max2_int min2_int max_two min_two max_three min_three max_four min_four   -- for this text's walks alone
set_option linter.unusedVariables false
set_option linter.unusedSimpArgs false

/-! ### verbatimlaw17_LexerBad: function 7 -/
def verbatimlaw17_LexerBad.l0 : Nat → Int → Int → Bool → List ByteArray → List Int → ByteArray → Int → Option (Bool)
  | 0, _, _, _, _, _, _, _ => none
  | k + 1, x0, x1, x5, x6, x7, x8, x9 => if x9 < (wrap64 (Int.tmod x0 20)) then (if x8.size + 2 ≤ 9223372036854775807 then (verbatimlaw17_LexerBad.l0 k x0 x1 x5 x6 x7 (x8 ++ (⟨#[40, 32]⟩ : ByteArray)) (wrap64 (x9 + 1))) else (none)) else (if (x6.length : Int) = 0 then (none) else (if 0 ≤ (Int.tmod (wrap64 (x1)) (x6.length : Int)) then (if (Int.tmod (wrap64 (x1)) (x6.length : Int)) < (x6.length : Int) then (if x8.size + (rdOf ByteArray.empty x6 (Int.tmod (wrap64 (x1)) (x6.length : Int))).size ≤ 9223372036854775807 then ((lexer_Split.f k (x8 ++ (rdOf ByteArray.empty x6 (Int.tmod (wrap64 (x1)) (x6.length : Int))))).bind fun bt334 => (if x5 = true then (if bt334.2.1 = 171 then (if (Int.tmod (wrap64 (x1)) (x6.length : Int)) < (x7.length : Int) then (if bt334.2.2 = (wrap64 ((x8.size : Int) + (rd x7 (Int.tmod (wrap64 (x1)) (x6.length : Int))))) then (some ((bt334.1.length : Int) == 0)) else (some false)) else (none)) else (some false)) else (some false))) else (none)) else (none)) else (none)))
def verbatimlaw17_LexerBad.f (k : Nat) (a0 : Int) (a1 : Int) : Option (Bool) := (verbatimlaw17_head.f k).bind fun t326 => (verbatimlaw17_LexerBad.l0 k a0 a1 t326 (([(⟨#[120]⟩ : ByteArray), (⟨#[38]⟩ : ByteArray), (⟨#[34, 97, 92, 113, 34]⟩ : ByteArray), (⟨#[34, 97, 98, 99]⟩ : ByteArray), (⟨#[65, 78, 68, 79, 82]⟩ : ByteArray), (⟨#[110, 111, 116]⟩ : ByteArray), (⟨#[34, 92, 120, 49, 34]⟩ : ByteArray), (⟨#[55]⟩ : ByteArray)] : List ByteArray)) (([0, 0, 2, 4, 0, 0, 1, 0] : List Int)) (⟨#[]⟩ : ByteArray) 0)
theorem verbatimlaw17_LexerBad.mono_l : ∀ k, (∀ y0 y1 y2 y3 y4 y5 y6, LeO (verbatimlaw17_LexerBad.l0 k y0 y1 y2 y3 y4 y5 y6) (verbatimlaw17_LexerBad.l0 (k + 1) y0 y1 y2 y3 y4 y5 y6))
  | 0 => fun _ _ _ _ _ _ _ r h => by simp [verbatimlaw17_LexerBad.l0] at h
  | k + 1 => by
    have ih0 := verbatimlaw17_LexerBad.mono_l k
    · intro y0 y1 y2 y3 y4 y5 y6
      unfold verbatimlaw17_LexerBad.l0
      repeat' first
      | (with_reducible exact ih0 _ _ _ _ _ _ _)
      | (with_reducible exact lexer_Split.mono _ _)
      | (with_reducible exact verbatimlaw17_head.mono _)
      | (with_reducible exact LeO.refl _)
      | (with_reducible exact LeO.none _)
      | (with_reducible refine LeO.ite ?_ ?_)
      | (with_reducible refine LeO.bind ?_ (fun _ => ?_))
      | exact ih0 _ _ _ _ _ _ _
      | exact lexer_Split.mono _ _
      | exact verbatimlaw17_head.mono _
      | exact LeO.none _
      | refine LeO.ite ?_ ?_
      | refine LeO.bind ?_ (fun _ => ?_)
theorem verbatimlaw17_LexerBad.mono : ∀ a0 a1 k, LeO (verbatimlaw17_LexerBad.f k a0 a1) (verbatimlaw17_LexerBad.f (k + 1) a0 a1) := by
  intro a0 a1 k
  have ih0 := verbatimlaw17_LexerBad.mono_l k
  unfold verbatimlaw17_LexerBad.f
  repeat' first
      | (with_reducible exact ih0 _ _ _ _ _ _ _)
      | (with_reducible exact lexer_Split.mono _ _)
      | (with_reducible exact verbatimlaw17_head.mono _)
      | (with_reducible exact LeO.refl _)
      | (with_reducible exact LeO.none _)
      | (with_reducible refine LeO.ite ?_ ?_)
      | (with_reducible refine LeO.bind ?_ (fun _ => ?_))
      | exact ih0 _ _ _ _ _ _ _
      | exact lexer_Split.mono _ _
      | exact verbatimlaw17_head.mono _
      | exact LeO.none _
      | refine LeO.ite ?_ ?_
      | refine LeO.bind ?_ (fun _ => ?_)
set_option maxHeartbeats 8000000 in
set_option maxRecDepth 100000 in
theorem verbatimlaw17_LexerBad.calls (k : Nat) (a0 : Int) (a1 : Int) (r : Bool) (w : World) (h : verbatimlaw17_LexerBad.f k a0 a1 = some r) :
    Calls Tryd.prog 7 #[.int .u8 a0, .int .u8 a1] w fun e w' => e = .returned (.bool r) ∧ Below w.heap.size w w' := by
  have HB := Aside0.mk (Below.refl w.heap.size w)
  have H : ((verbatimlaw17_head.f k).bind fun t326 => (verbatimlaw17_LexerBad.l0 k a0 a1 t326 (([(⟨#[120]⟩ : ByteArray), (⟨#[38]⟩ : ByteArray), (⟨#[34, 97, 92, 113, 34]⟩ : ByteArray), (⟨#[34, 97, 98, 99]⟩ : ByteArray), (⟨#[65, 78, 68, 79, 82]⟩ : ByteArray), (⟨#[110, 111, 116]⟩ : ByteArray), (⟨#[34, 92, 120, 49, 34]⟩ : ByteArray), (⟨#[55]⟩ : ByteArray)] : List ByteArray)) (([0, 0, 2, 4, 0, 0, 1, 0] : List Int)) (⟨#[]⟩ : ByteArray) 0)) = some r := h
  clear h
  replace H := Option.bind_eq_some_iff.mp H
  obtain ⟨t326, A30, H⟩ := H
  replace H : (verbatimlaw17_LexerBad.l0 k a0 a1 t326 (([(⟨#[120]⟩ : ByteArray), (⟨#[38]⟩ : ByteArray), (⟨#[34, 97, 92, 113, 34]⟩ : ByteArray), (⟨#[34, 97, 98, 99]⟩ : ByteArray), (⟨#[65, 78, 68, 79, 82]⟩ : ByteArray), (⟨#[110, 111, 116]⟩ : ByteArray), (⟨#[34, 92, 120, 49, 34]⟩ : ByteArray), (⟨#[55]⟩ : ByteArray)] : List ByteArray)) (([0, 0, 2, 4, 0, 0, 1, 0] : List Int)) (⟨#[]⟩ : ByteArray) 0) = some r := H
  have A3 := Aside0.mk A30
  clear A30
  obtain ⟨y327, hy327⟩ : ∃ y_ : List ByteArray, y_ = (([(⟨#[120]⟩ : ByteArray), (⟨#[38]⟩ : ByteArray), (⟨#[34, 97, 92, 113, 34]⟩ : ByteArray), (⟨#[34, 97, 98, 99]⟩ : ByteArray), (⟨#[65, 78, 68, 79, 82]⟩ : ByteArray), (⟨#[110, 111, 116]⟩ : ByteArray), (⟨#[34, 92, 120, 49, 34]⟩ : ByteArray), (⟨#[55]⟩ : ByteArray)] : List ByteArray)) := ⟨_, rfl⟩
  replace H : (verbatimlaw17_LexerBad.l0 k a0 a1 t326 y327 (([0, 0, 2, 4, 0, 0, 1, 0] : List Int)) (⟨#[]⟩ : ByteArray) 0) = some r := by first | (rw [hy327]; with_reducible exact H) | (have H2_ := (Option.bind_some _ _).symm.trans H; rw [hy327]; with_reducible exact H2_) | (have H2_ := (Option.bind_some _ _).symm.trans H; with_reducible exact H2_) | with_reducible exact H | (rw [hy327]; exact H) | exact H
  have Ny327 := Aside0.mk hy327
  clear hy327
  obtain ⟨y330, hy330⟩ : ∃ y_ : List Int, y_ = (([0, 0, 2, 4, 0, 0, 1, 0] : List Int)) := ⟨_, rfl⟩
  replace H : (verbatimlaw17_LexerBad.l0 k a0 a1 t326 y327 y330 (⟨#[]⟩ : ByteArray) 0) = some r := by first | (rw [hy330]; with_reducible exact H) | (have H2_ := (Option.bind_some _ _).symm.trans H; rw [hy330]; with_reducible exact H2_) | (have H2_ := (Option.bind_some _ _).symm.trans H; with_reducible exact H2_) | with_reducible exact H | (rw [hy330]; exact H) | exact H
  have Ny330 := Aside0.mk hy330
  clear hy330
  have H' := Aside0.mk H
  clear H
  go_enter Tryd.func7, Tryd.ntmps7
  go_wp2_with (first | ((with_reducible refine gate_callee (f := 9) rfl ?_); refine goesL_ (some 14) rfl rfl Tryd.func9 (by kernel_rfl) rfl #[] rfl (by (try simp only [List.map_toArray, List.map_cons, List.map_nil]); first | done | rfl | (simp only [List.length_drop, List.length_take]; rfl)) ?_; (with_reducible refine (verbatimlaw17_head.calls k  t326 _ A3.out).mono ?_); rintro e w4 ⟨rfl, hb⟩; refine ⟨_, rfl, ?_⟩; have n0_ := Aside0.mk (below_step (by repeat (first | (with_reducible first | exact HB.out | apply below_alloc | apply pw_below_drewN | apply below_drew1) | exact HB.out)) hb); clear HB; have HB := n0_; clear n0_; (try clear hb); (try clear hb2); (try clear hk); (try clear hi)) | ((with_reducible refine gate_dst (N := 15) rfl ?_); (try (refine gate_guard (by rfl) ?_; dsimp only)); refine Kd.R_lit Kd.string _ 9 ?hg (N := 15) ?hd (xs := ([(⟨#[120]⟩ : ByteArray), (⟨#[38]⟩ : ByteArray), (⟨#[34, 97, 92, 113, 34]⟩ : ByteArray), (⟨#[34, 97, 98, 99]⟩ : ByteArray), (⟨#[65, 78, 68, 79, 82]⟩ : ByteArray), (⟨#[110, 111, 116]⟩ : ByteArray), (⟨#[34, 92, 120, 49, 34]⟩ : ByteArray), (⟨#[55]⟩ : ByteArray)] : List ByteArray)) (inner := [.string (⟨#[120]⟩ : ByteArray), .string (⟨#[38]⟩ : ByteArray), .string (⟨#[34, 97, 92, 113, 34]⟩ : ByteArray), .string (⟨#[34, 97, 98, 99]⟩ : ByteArray), .string (⟨#[65, 78, 68, 79, 82]⟩ : ByteArray), .string (⟨#[110, 111, 116]⟩ : ByteArray), .string (⟨#[34, 92, 120, 49, 34]⟩ : ByteArray), .string (⟨#[55]⟩ : ByteArray)]) (ok := fun _ => True) (okp := fun _ => True) ?hr ?hp (fun _ hk => hk) trivial (Below.refl _ _) (Nat.le_refl _) (by simp) ?_; (case hd => rfl); (case hg => rfl); (case hr => first | (go_simp; done) | (go_simp; rfl)); (case hp => exact (Reps.one (show Kd.M Kd.string _ _ _ (⟨#[120]⟩ : ByteArray) [.string (⟨#[120]⟩ : ByteArray)] from rfl) (Reps.one (show Kd.M Kd.string _ _ _ (⟨#[38]⟩ : ByteArray) [.string (⟨#[38]⟩ : ByteArray)] from rfl) (Reps.one (show Kd.M Kd.string _ _ _ (⟨#[34, 97, 92, 113, 34]⟩ : ByteArray) [.string (⟨#[34, 97, 92, 113, 34]⟩ : ByteArray)] from rfl) (Reps.one (show Kd.M Kd.string _ _ _ (⟨#[34, 97, 98, 99]⟩ : ByteArray) [.string (⟨#[34, 97, 98, 99]⟩ : ByteArray)] from rfl) (Reps.one (show Kd.M Kd.string _ _ _ (⟨#[65, 78, 68, 79, 82]⟩ : ByteArray) [.string (⟨#[65, 78, 68, 79, 82]⟩ : ByteArray)] from rfl) (Reps.one (show Kd.M Kd.string _ _ _ (⟨#[110, 111, 116]⟩ : ByteArray) [.string (⟨#[110, 111, 116]⟩ : ByteArray)] from rfl) (Reps.one (show Kd.M Kd.string _ _ _ (⟨#[34, 92, 120, 49, 34]⟩ : ByteArray) [.string (⟨#[34, 92, 120, 49, 34]⟩ : ByteArray)] from rfl) (Reps.one (show Kd.M Kd.string _ _ _ (⟨#[55]⟩ : ByteArray) [.string (⟨#[55]⟩ : ByteArray)] from rfl) (Reps.none _ _)))))))))); intro v328 w5 ho6 hb hg_ hnew_; clear hg_ hnew_; (first | rw [← Ny327.out] at ho6 | (simp only [Int.reduceToNat] at ho6; rw [← Ny327.out] at ho6)); have n0_ := Aside0.mk (Kd.R_lower ho6 (below_size (by repeat (first | (with_reducible first | exact HB.out | apply below_alloc | apply pw_below_drewN | apply below_drew1) | exact HB.out)))); have n1_ := Aside0.mk (below_step (by repeat (first | (with_reducible first | exact HB.out | apply below_alloc | apply pw_below_drewN | apply below_drew1) | exact HB.out)) hb); clear HB; have HO329 := n0_; have HB := n1_; clear n0_ n1_; clear hb ho6) | ((with_reducible refine gate_dst (N := 16) rfl ?_); (try (refine gate_guard (by rfl) ?_; dsimp only)); refine Kd.R_lit (Kd.int .i64) _ 3 ?hg (N := 16) ?hd (xs := ([0, 0, 2, 4, 0, 0, 1, 0] : List Int)) (inner := [.int .i64 0, .int .i64 0, .int .i64 2, .int .i64 4, .int .i64 0, .int .i64 0, .int .i64 1, .int .i64 0]) (ok := fun _ => True) (okp := fun _ => True) ?hr ?hp (fun _ hk => hk) trivial (Below.refl _ _) (Nat.le_refl _) (by simp) ?_; (case hd => rfl); (case hg => rfl); (case hr => first | (go_simp; done) | (go_simp; rfl)); (case hp => exact (Reps.one (show Kd.M (Kd.int .i64) _ _ _ 0 [.int .i64 0] from rfl) (Reps.one (show Kd.M (Kd.int .i64) _ _ _ 0 [.int .i64 0] from rfl) (Reps.one (show Kd.M (Kd.int .i64) _ _ _ 2 [.int .i64 2] from rfl) (Reps.one (show Kd.M (Kd.int .i64) _ _ _ 4 [.int .i64 4] from rfl) (Reps.one (show Kd.M (Kd.int .i64) _ _ _ 0 [.int .i64 0] from rfl) (Reps.one (show Kd.M (Kd.int .i64) _ _ _ 0 [.int .i64 0] from rfl) (Reps.one (show Kd.M (Kd.int .i64) _ _ _ 1 [.int .i64 1] from rfl) (Reps.one (show Kd.M (Kd.int .i64) _ _ _ 0 [.int .i64 0] from rfl) (Reps.none _ _)))))))))); intro v331 w7 ho8 hb hg_ hnew_; clear hg_ hnew_; (first | rw [← Ny330.out] at ho8 | (simp only [Int.reduceToNat] at ho8; rw [← Ny330.out] at ho8)); have n0_ := Aside0.mk (Kd.R_below (by (with_reducible repeat (first | apply Kd.R_alloc | apply Kd.R_drewN | apply Kd.R_drew)); exact HO329.out) hb); have n1_ := Aside0.mk (Kd.R_lower ho8 (below_size (by repeat (first | (with_reducible first | exact HB.out | apply below_alloc | apply pw_below_drewN | apply below_drew1) | exact HB.out)))); have n2_ := Aside0.mk (below_step (by repeat (first | (with_reducible first | exact HB.out | apply below_alloc | apply pw_below_drewN | apply below_drew1) | exact HB.out)) hb); clear HO329; clear HB; have HO329 := n0_; have HO332 := n1_; have HB := n2_; clear n0_ n1_ n2_; clear hb ho8))
  go_loopg [8, 9] k (fun kq v8 v9 w' => ∃ (x8_1 : ByteArray) (x9_1 : Int), v8 = .string x8_1 ∧ v9 = .int .i64 x9_1 ∧ Aside0 (verbatimlaw17_LexerBad.l0 kq a0 a1 t326 y327 y330 x8_1 x9_1 = some r) ∧ Aside0 (kq ≤ k) ∧ Aside0 (Kd.R Kd.string 9 w' w.heap.size (fun _ => True) v328 y327) ∧ Aside0 (Kd.R (Kd.int .i64) 3 w' w.heap.size (fun _ => True) v331 y330) ∧ Aside0 (Below w.heap.size w w'))
  case atStart => exact ⟨((⟨#[]⟩ : ByteArray)), (0), (by first | rfl | (simp; done) | (simp [*]; done)), (by first | rfl | (simp; done) | (simp [*]; done)), H', ⟨Nat.le_refl _⟩, ⟨by (with_reducible repeat (first | apply Kd.R_alloc | apply Kd.R_drewN | apply Kd.R_drew)); exact HO329.out⟩, ⟨by (with_reducible repeat (first | apply Kd.R_alloc | apply Kd.R_drewN | apply Kd.R_drew)); exact HO332.out⟩, ⟨by repeat (first | (with_reducible first | exact HB.out | apply below_alloc | apply pw_below_drewN | apply below_drew1) | exact HB.out)⟩⟩
  case round =>
    clear H'
    try clear p2
    try clear c7
    obtain ⟨x8_1, x9_1, rfl, rfl, HA, HK1, HO_6, HO_7, HB⟩ := hrel
    cases gk with
    | zero => exact absurd HA.out (by simp [verbatimlaw17_LexerBad.l0])
    | succ k1 =>
      have H := HA.out
      clear HA
      simp only [verbatimlaw17_LexerBad.l0] at H
      by_cases c9 : x9_1 < (wrap64 (Int.tmod a0 20))
      · rw [if_pos c9] at H
        have c9b0 : decide (x9_1 < (wrap64 (Int.tmod a0 20))) = true := decide_eq_true c9
        clear c9
        by_cases c10 : x8_1.size + 2 ≤ 9223372036854775807
        · rw [if_pos c10] at H
          have c10b0 := eq_true c10
          have c10b1 : decide (x8_1.size + 2 ≤ 9223372036854775807) = true := decide_eq_true c10
          try have c10b2 : (9223372036854775807 < x8_1.size + 2) = False := eq_false (Nat.not_lt.2 c10)
          as_aux_lemma =>
            have H' := Aside0.mk H
            clear H
            go_wp2
            go_roundg k1
            case measure => have := HK1.out; omega
            case rel => exact ⟨(x8_1 ++ (⟨#[40, 32]⟩ : ByteArray)), (wrap64 (x9_1 + 1)), (by first | rfl | (simp; done) | (simp [*]; done)), (by first | rfl | (simp; done) | (simp [*]; done)), H', ⟨by have := HK1.out; omega⟩, ⟨by (with_reducible repeat (first | apply Kd.R_alloc | apply Kd.R_drewN | apply Kd.R_drew)); exact HO_6.out⟩, ⟨by (with_reducible repeat (first | apply Kd.R_alloc | apply Kd.R_drewN | apply Kd.R_drew)); exact HO_7.out⟩, ⟨by repeat (first | (with_reducible first | exact HB.out | apply below_alloc | apply pw_below_drewN | apply below_drew1) | exact HB.out)⟩⟩
        · rw [if_neg c10] at H
          exact absurd H (by simp)
      · rw [if_neg c9] at H
        have c9b0 : decide (x9_1 < (wrap64 (Int.tmod a0 20))) = false := decide_eq_false c9
        clear c9
        by_cases c11 : (y327.length : Int) = 0
        · rw [if_pos c11] at H
          exact absurd H (by simp)
        · rw [if_neg c11] at H
          have c11b0 : ((y327.length : Int) == 0) = false := beq_eq_false_iff_ne.mpr c11
          have c11b1 : ((y327.length : Int) != 0) = true := bne_iff_ne.mpr c11
          have c11b2 : ¬ (y327 = []) := fun h_ => c11 (by rw [h_]; rfl)
          obtain ⟨ji12, hji12⟩ : ∃ j_ : Int, (Int.tmod (wrap64 (a1)) (y327.length : Int)) = j_ := ⟨_, rfl⟩
          replace H : (if 0 ≤ (ji12) then (if (ji12) < (y327.length : Int) then (if x8_1.size + (rdOf ByteArray.empty y327 (ji12)).size ≤ 9223372036854775807 then ((lexer_Split.f k1 (x8_1 ++ (rdOf ByteArray.empty y327 (ji12)))).bind fun bt334 => (if t326 = true then (if bt334.2.1 = 171 then (if (ji12) < (y330.length : Int) then (if bt334.2.2 = (wrap64 ((x8_1.size : Int) + (rd y330 (ji12)))) then (some ((bt334.1.length : Int) == 0)) else (some false)) else (none)) else (some false)) else (some false))) else (none)) else (none)) else (none)) = some r := by first | (rw [hji12] at H; exact H) | (simp only [hji12] at H ⊢; exact H)
          by_cases c13 : 0 ≤ (ji12)
          · rw [if_pos c13] at H
            have c13b0 : decide (0 ≤ (ji12)) = true := decide_eq_true c13
            clear c13
            by_cases c14 : (ji12) < (y327.length : Int)
            · rw [if_pos c14] at H
              have c14b0 : decide ((ji12) < (y327.length : Int)) = true := decide_eq_true c14
              clear c14
              by_cases c15 : x8_1.size + (rdOf ByteArray.empty y327 (ji12)).size ≤ 9223372036854775807
              · rw [if_pos c15] at H
                have c15b0 := eq_true c15
                have c15b1 : decide (x8_1.size + (rdOf ByteArray.empty y327 (ji12)).size ≤ 9223372036854775807) = true := decide_eq_true c15
                try have c15b2 : (9223372036854775807 < x8_1.size + (rdOf ByteArray.empty y327 (ji12)).size) = False := eq_false (Nat.not_lt.2 c15)
                replace H := Option.bind_eq_some_iff.mp H
                obtain ⟨⟨t334, t335, t336⟩, A160, H⟩ := H
                replace H : (if t326 = true then (if t335 = 171 then (if (ji12) < (y330.length : Int) then (if t336 = (wrap64 ((x8_1.size : Int) + (rd y330 (ji12)))) then (some ((t334.length : Int) == 0)) else (some false)) else (none)) else (some false)) else (some false)) = some r := H
                have A16 := Aside0.mk A160
                clear A160
                by_cases c17 : t326 = true
                · subst c17
                  have H1 : (if t335 = 171 then (if (ji12) < (y330.length : Int) then (if t336 = (wrap64 ((x8_1.size : Int) + (rd y330 (ji12)))) then (some ((t334.length : Int) == 0)) else (some false)) else (none)) else (some false)) = some r := by rw [if_pos rfl] at H; exact H
                  clear H
                  have H := H1
                  clear H1
                  by_cases c18 : t335 = 171
                  · rw [if_pos c18] at H
                    have c18b0 : (t335 == 171) = true := beq_iff_eq.mpr c18
                    have c18b1 : (t335 != 171) = false := bne_eq_false_iff_eq.mpr c18
                    clear c18
                    by_cases c19 : (ji12) < (y330.length : Int)
                    · rw [if_pos c19] at H
                      have c19b0 : decide ((ji12) < (y330.length : Int)) = true := decide_eq_true c19
                      clear c19
                      by_cases c20 : t336 = (wrap64 ((x8_1.size : Int) + (rd y330 (ji12))))
                      · rw [if_pos c20] at H
                        have c20b0 : (t336 == (wrap64 ((x8_1.size : Int) + (rd y330 (ji12))))) = true := beq_iff_eq.mpr c20
                        have c20b1 : (t336 != (wrap64 ((x8_1.size : Int) + (rd y330 (ji12))))) = false := bne_eq_false_iff_eq.mpr c20
                        clear c20
                        as_aux_lemma =>
                          obtain rfl := Option.some.inj H
                          obtain ⟨Ao21, co21, eo21⟩ := Kd.R_slice HO_6.out
                          subst eo21
                          have p333 : 0 ≤ ((ji12) : Int) := of_decide_eq_true (by first | (with_reducible assumption) | assumption)
                          have q333 : (ji12) < (y327.length : Int) := of_decide_eq_true (by first | (with_reducible assumption) | assumption)
                          obtain ⟨ad333, e333, hx333_0⟩ := Kd.at_string (Kd.R_reads' HO_6.out).2.2 (ji12) p333 q333
                          cases e333
                          replace p333 := eq_true p333
                          replace q333 := eq_true q333
                          go_wp2_with (first | ((with_reducible refine gate_callee (f := 10) rfl ?_); refine goesL_ (some 38) rfl rfl Tryd.func10 (by kernel_rfl) rfl #[.string (x8_1 ++ (rdOf ByteArray.empty y327 (ji12)))] rfl (by (try simp only [List.map_toArray, List.map_cons, List.map_nil]); first | done | (simp only [hji12]; rfl) | rfl | (simp only [List.length_drop, List.length_take]; rfl)) ?_; (with_reducible refine (lexer_Split.calls k1 (x8_1 ++ (rdOf ByteArray.empty y327 (ji12))) t334 t335 t336 _ A16.out).mono ?_); rintro e w22 ⟨v337, rfl, ho0, hb⟩; refine ⟨_, rfl, ?_⟩; have n0_ := Aside0.mk (Kd.R_below (by (with_reducible repeat (first | apply Kd.R_alloc | apply Kd.R_drewN | apply Kd.R_drew)); exact HO_6.out) hb); have n1_ := Aside0.mk (Kd.R_below (by (with_reducible repeat (first | apply Kd.R_alloc | apply Kd.R_drewN | apply Kd.R_drew)); exact HO_7.out) hb); have n2_ := Aside0.mk (Kd.R_lower ho0 (below_size (by repeat (first | (with_reducible first | exact HB.out | apply below_alloc | apply pw_below_drewN | apply below_drew1) | exact HB.out)))); have n3_ := Aside0.mk (below_step (by repeat (first | (with_reducible first | exact HB.out | apply below_alloc | apply pw_below_drewN | apply below_drew1) | exact HB.out)) hb); clear HO_6; clear HO_7; clear HB; have HO_6 := n0_; have HO_7 := n1_; have HO338 := n2_; have HB := n3_; clear n0_ n1_ n2_ n3_; (try clear hb); (try clear hb2); (try clear hk); (try clear hi); (try clear ho0); obtain ⟨Ao23, co23, eo23⟩ := Kd.R_slice HO_7.out; subst eo23; have p339 : 0 ≤ ((ji12) : Int) := of_decide_eq_true (by first | (with_reducible assumption) | assumption); have q339 : (ji12) < (y330.length : Int) := of_decide_eq_true (by first | (with_reducible assumption) | assumption); obtain ⟨ad339, e339, hx339_0⟩ := Kd.at_int (Kd.R_reads' HO_7.out).2.2 (ji12) p339 q339; cases e339; replace p339 := eq_true p339; replace q339 := eq_true q339; obtain ⟨Ao24, co24, eo24⟩ := Kd.R_slice HO338.out; subst eo24))
                          go_ret
                          exact ⟨by first | rfl | (simp [errW_none, errW_some] <;> rfl) | (simp only [← hji12]; first | rfl | (simp [errW_none, errW_some] <;> rfl)) | (simp [*, errW_none, errW_some] <;> rfl), by repeat (first | (with_reducible first | exact HB.out | apply below_alloc | apply pw_below_drewN | apply below_drew1) | exact HB.out)⟩
                      · rw [if_neg c20] at H
                        have c20b0 : (t336 == (wrap64 ((x8_1.size : Int) + (rd y330 (ji12))))) = false := beq_eq_false_iff_ne.mpr c20
                        have c20b1 : (t336 != (wrap64 ((x8_1.size : Int) + (rd y330 (ji12))))) = true := bne_iff_ne.mpr c20
                        as_aux_lemma =>
                          obtain rfl := Option.some.inj H
                          obtain ⟨Ao25, co25, eo25⟩ := Kd.R_slice HO_6.out
                          subst eo25
                          have p333 : 0 ≤ ((ji12) : Int) := of_decide_eq_true (by first | (with_reducible assumption) | assumption)
                          have q333 : (ji12) < (y327.length : Int) := of_decide_eq_true (by first | (with_reducible assumption) | assumption)
                          obtain ⟨ad333, e333, hx333_0⟩ := Kd.at_string (Kd.R_reads' HO_6.out).2.2 (ji12) p333 q333
                          cases e333
                          replace p333 := eq_true p333
                          replace q333 := eq_true q333
                          go_wp2_with (first | ((with_reducible refine gate_callee (f := 10) rfl ?_); refine goesL_ (some 38) rfl rfl Tryd.func10 (by kernel_rfl) rfl #[.string (x8_1 ++ (rdOf ByteArray.empty y327 (ji12)))] rfl (by (try simp only [List.map_toArray, List.map_cons, List.map_nil]); first | done | (simp only [hji12]; rfl) | rfl | (simp only [List.length_drop, List.length_take]; rfl)) ?_; (with_reducible refine (lexer_Split.calls k1 (x8_1 ++ (rdOf ByteArray.empty y327 (ji12))) t334 t335 t336 _ A16.out).mono ?_); rintro e w26 ⟨v337, rfl, ho0, hb⟩; refine ⟨_, rfl, ?_⟩; have n0_ := Aside0.mk (Kd.R_below (by (with_reducible repeat (first | apply Kd.R_alloc | apply Kd.R_drewN | apply Kd.R_drew)); exact HO_6.out) hb); have n1_ := Aside0.mk (Kd.R_below (by (with_reducible repeat (first | apply Kd.R_alloc | apply Kd.R_drewN | apply Kd.R_drew)); exact HO_7.out) hb); have n2_ := Aside0.mk (Kd.R_lower ho0 (below_size (by repeat (first | (with_reducible first | exact HB.out | apply below_alloc | apply pw_below_drewN | apply below_drew1) | exact HB.out)))); have n3_ := Aside0.mk (below_step (by repeat (first | (with_reducible first | exact HB.out | apply below_alloc | apply pw_below_drewN | apply below_drew1) | exact HB.out)) hb); clear HO_6; clear HO_7; clear HB; have HO_6 := n0_; have HO_7 := n1_; have HO338 := n2_; have HB := n3_; clear n0_ n1_ n2_ n3_; (try clear hb); (try clear hb2); (try clear hk); (try clear hi); (try clear ho0); obtain ⟨Ao27, co27, eo27⟩ := Kd.R_slice HO_7.out; subst eo27; have p339 : 0 ≤ ((ji12) : Int) := of_decide_eq_true (by first | (with_reducible assumption) | assumption); have q339 : (ji12) < (y330.length : Int) := of_decide_eq_true (by first | (with_reducible assumption) | assumption); obtain ⟨ad339, e339, hx339_0⟩ := Kd.at_int (Kd.R_reads' HO_7.out).2.2 (ji12) p339 q339; cases e339; replace p339 := eq_true p339; replace q339 := eq_true q339))
                          go_ret
                          exact ⟨by first | rfl | (simp [errW_none, errW_some] <;> rfl) | (simp only [← hji12]; first | rfl | (simp [errW_none, errW_some] <;> rfl)) | (simp [*, errW_none, errW_some] <;> rfl), by repeat (first | (with_reducible first | exact HB.out | apply below_alloc | apply pw_below_drewN | apply below_drew1) | exact HB.out)⟩
                    · rw [if_neg c19] at H
                      exact absurd H (by simp)
                  · rw [if_neg c18] at H
                    have c18b0 : (t335 == 171) = false := beq_eq_false_iff_ne.mpr c18
                    have c18b1 : (t335 != 171) = true := bne_iff_ne.mpr c18
                    as_aux_lemma =>
                      obtain rfl := Option.some.inj H
                      obtain ⟨Ao28, co28, eo28⟩ := Kd.R_slice HO_6.out
                      subst eo28
                      have p333 : 0 ≤ ((ji12) : Int) := of_decide_eq_true (by first | (with_reducible assumption) | assumption)
                      have q333 : (ji12) < (y327.length : Int) := of_decide_eq_true (by first | (with_reducible assumption) | assumption)
                      obtain ⟨ad333, e333, hx333_0⟩ := Kd.at_string (Kd.R_reads' HO_6.out).2.2 (ji12) p333 q333
                      cases e333
                      replace p333 := eq_true p333
                      replace q333 := eq_true q333
                      go_wp2_with (first | ((with_reducible refine gate_callee (f := 10) rfl ?_); refine goesL_ (some 38) rfl rfl Tryd.func10 (by kernel_rfl) rfl #[.string (x8_1 ++ (rdOf ByteArray.empty y327 (ji12)))] rfl (by (try simp only [List.map_toArray, List.map_cons, List.map_nil]); first | done | (simp only [hji12]; rfl) | rfl | (simp only [List.length_drop, List.length_take]; rfl)) ?_; (with_reducible refine (lexer_Split.calls k1 (x8_1 ++ (rdOf ByteArray.empty y327 (ji12))) t334 t335 t336 _ A16.out).mono ?_); rintro e w29 ⟨v337, rfl, ho0, hb⟩; refine ⟨_, rfl, ?_⟩; have n0_ := Aside0.mk (Kd.R_below (by (with_reducible repeat (first | apply Kd.R_alloc | apply Kd.R_drewN | apply Kd.R_drew)); exact HO_6.out) hb); have n1_ := Aside0.mk (Kd.R_below (by (with_reducible repeat (first | apply Kd.R_alloc | apply Kd.R_drewN | apply Kd.R_drew)); exact HO_7.out) hb); have n2_ := Aside0.mk (Kd.R_lower ho0 (below_size (by repeat (first | (with_reducible first | exact HB.out | apply below_alloc | apply pw_below_drewN | apply below_drew1) | exact HB.out)))); have n3_ := Aside0.mk (below_step (by repeat (first | (with_reducible first | exact HB.out | apply below_alloc | apply pw_below_drewN | apply below_drew1) | exact HB.out)) hb); clear HO_6; clear HO_7; clear HB; have HO_6 := n0_; have HO_7 := n1_; have HO338 := n2_; have HB := n3_; clear n0_ n1_ n2_ n3_; (try clear hb); (try clear hb2); (try clear hk); (try clear hi); (try clear ho0)))
                      go_ret
                      exact ⟨by first | rfl | (simp [errW_none, errW_some] <;> rfl) | (simp only [← hji12]; first | rfl | (simp [errW_none, errW_some] <;> rfl)) | (simp [*, errW_none, errW_some] <;> rfl), by repeat (first | (with_reducible first | exact HB.out | apply below_alloc | apply pw_below_drewN | apply below_drew1) | exact HB.out)⟩
                · replace c17 := Bool.eq_false_iff.mpr c17
                  subst c17
                  have H1 : (some false) = some r := by rw [if_neg (show ¬ (false = true) by decide)] at H; exact H
                  clear H
                  have H := H1
                  clear H1
                  as_aux_lemma =>
                    obtain rfl := Option.some.inj H
                    obtain ⟨Ao30, co30, eo30⟩ := Kd.R_slice HO_6.out
                    subst eo30
                    have p333 : 0 ≤ ((ji12) : Int) := of_decide_eq_true (by first | (with_reducible assumption) | assumption)
                    have q333 : (ji12) < (y327.length : Int) := of_decide_eq_true (by first | (with_reducible assumption) | assumption)
                    obtain ⟨ad333, e333, hx333_0⟩ := Kd.at_string (Kd.R_reads' HO_6.out).2.2 (ji12) p333 q333
                    cases e333
                    replace p333 := eq_true p333
                    replace q333 := eq_true q333
                    go_wp2_with (first | ((with_reducible refine gate_callee (f := 10) rfl ?_); refine goesL_ (some 38) rfl rfl Tryd.func10 (by kernel_rfl) rfl #[.string (x8_1 ++ (rdOf ByteArray.empty y327 (ji12)))] rfl (by (try simp only [List.map_toArray, List.map_cons, List.map_nil]); first | done | (simp only [hji12]; rfl) | rfl | (simp only [List.length_drop, List.length_take]; rfl)) ?_; (with_reducible refine (lexer_Split.calls k1 (x8_1 ++ (rdOf ByteArray.empty y327 (ji12))) t334 t335 t336 _ A16.out).mono ?_); rintro e w31 ⟨v337, rfl, ho0, hb⟩; refine ⟨_, rfl, ?_⟩; have n0_ := Aside0.mk (Kd.R_below (by (with_reducible repeat (first | apply Kd.R_alloc | apply Kd.R_drewN | apply Kd.R_drew)); exact HO_6.out) hb); have n1_ := Aside0.mk (Kd.R_below (by (with_reducible repeat (first | apply Kd.R_alloc | apply Kd.R_drewN | apply Kd.R_drew)); exact HO_7.out) hb); have n2_ := Aside0.mk (Kd.R_lower ho0 (below_size (by repeat (first | (with_reducible first | exact HB.out | apply below_alloc | apply pw_below_drewN | apply below_drew1) | exact HB.out)))); have n3_ := Aside0.mk (below_step (by repeat (first | (with_reducible first | exact HB.out | apply below_alloc | apply pw_below_drewN | apply below_drew1) | exact HB.out)) hb); clear HO_6; clear HO_7; clear HB; have HO_6 := n0_; have HO_7 := n1_; have HO338 := n2_; have HB := n3_; clear n0_ n1_ n2_ n3_; (try clear hb); (try clear hb2); (try clear hk); (try clear hi); (try clear ho0)))
                    go_ret
                    exact ⟨by first | rfl | (simp [errW_none, errW_some] <;> rfl) | (simp only [← hji12]; first | rfl | (simp [errW_none, errW_some] <;> rfl)) | (simp [*, errW_none, errW_some] <;> rfl), by repeat (first | (with_reducible first | exact HB.out | apply below_alloc | apply pw_below_drewN | apply below_drew1) | exact HB.out)⟩
              · rw [if_neg c15] at H
                exact absurd H (by simp)
            · rw [if_neg c14] at H
              exact absurd H (by simp)
          · rw [if_neg c13] at H
            exact absurd H (by simp)

/-- THE ONE PURE STATEMENT of verbatimlaw17_LexerBad. -/
def verbatimlaw17_LexerBad.Pure : Prop := ∀ (a0 : Int) (a1 : Int), (Lit.int .u8 a0).wf = true → (Lit.int .u8 a1).wf = true → ∃ k, verbatimlaw17_LexerBad.f k a0 a1 = some true

end Go.Proofs.YtfoijdahgkngpaaDoor.L
