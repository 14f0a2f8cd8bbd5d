-- Written for this claim by a program of this session (over the kit's print tool): functions as Lean functions, their contracts, rows. Lean checks it.
import Derived.Test.YtfoijdahgkngpaaDoorL0
import Derived.Test.YtfoijdahgkngpaaDoorL3
import Derived.Test.YtfoijdahgkngpaaDoorL4
namespace Go.Proofs.YtfoijdahgkngpaaDoor.L
open Go.RowKit Go.Proofs.YtfoijdahgkngpaaDoorW.PrintWords Go.Proofs.YtfoijdahgkngpaaDoorW.PrintLast Go.Proofs.YtfoijdahgkngpaaDoorW.PrintMore
attribute [local go_sem] max2_int min2_int max_two min_two max_three min_three max_four min_four   -- for this text's walks alone
set_option linter.unusedVariables false
set_option linter.unusedSimpArgs false

/-! ### verbatimlaw17_LexerQuotes: function 4 -/
mutual
def verbatimlaw17_LexerQuotes.l0 : Nat → List ByteArray → Bool → ByteArray → List Int → Int → Option (Bool)
  | 0, _, _, _, _, _ => none
  | k + 1, x0, x3, x4, x5, x6 => if x6 < (x0.length : Int) then (verbatimlaw17_LexerQuotes.j1 k x0 x3 x4 x5 x6 (decide ((x4.size : Int) ≤ 1024))) else (verbatimlaw17_LexerQuotes.j1 k x0 x3 x4 x5 x6 false)
def verbatimlaw17_LexerQuotes.j1 : Nat → List ByteArray → Bool → ByteArray → List Int → Int → Bool → Option (Bool)
  | 0, _, _, _, _, _, _ => none
  | k + 1, x0, x3, x4, x5, x6, x20 => if x20 = true then (if x6 > 0 then (if x4.size + 1 ≤ 9223372036854775807 then (if x5.length < 17592186044416 then (if 0 ≤ x6 then (if x6 < (x0.length : Int) then (if ((rdOf ByteArray.empty x0 x6).size : Int) > 2000 then (some x3) else ((lexer_Quote.f k (rdOf ByteArray.empty x0 x6)).bind fun t256 => (if (x4.size + 1) + t256.size ≤ 9223372036854775807 then (verbatimlaw17_LexerQuotes.l0 k x0 x3 ((x4 ++ (⟨#[32]⟩ : ByteArray)) ++ t256) (x5 ++ [((x4.size : Int) + 1)]) (wrap64 (x6 + 1))) else (none)))) else (none)) else (none)) else (none)) else (none)) else (if x5.length < 17592186044416 then (if 0 ≤ x6 then (if x6 < (x0.length : Int) then (if ((rdOf ByteArray.empty x0 x6).size : Int) > 2000 then (some x3) else ((lexer_Quote.f k (rdOf ByteArray.empty x0 x6)).bind fun t262 => (if x4.size + t262.size ≤ 9223372036854775807 then (verbatimlaw17_LexerQuotes.l0 k x0 x3 (x4 ++ t262) (x5 ++ [(x4.size : Int)]) (wrap64 (x6 + 1))) else (none)))) else (none)) else (none)) else (none))) else ((lexer_Split.f k x4).bind fun bt263 => (if (x4.size : Int) > 1024 then (if x3 = true then (if bt263.2.1 = 231 then (if (bt263.1.length : Int) = 0 then (some (bt263.2.2 == 0)) else (some false)) else (some false)) else (some false)) else (if bt263.2.1 = 0 then (verbatimlaw17_LexerQuotes.j2 k x0 x3 x5 bt263.1 ((bt263.1.length : Int) != (x0.length : Int))) else (verbatimlaw17_LexerQuotes.j2 k x0 x3 x5 bt263.1 true))))
def verbatimlaw17_LexerQuotes.j2 : Nat → List ByteArray → Bool → List Int → List (S33) → Bool → Option (Bool)
  | 0, _, _, _, _, _ => none
  | k + 1, x0, x3, x5, x7, x77 => if x77 = true then (some false) else (verbatimlaw17_LexerQuotes.l1 k x0 x3 x5 x7 0)
def verbatimlaw17_LexerQuotes.l1 : Nat → List ByteArray → Bool → List Int → List (S33) → Int → Option (Bool)
  | 0, _, _, _, _, _ => none
  | k + 1, x0, x3, x5, x7, x10 => if x10 < (x0.length : Int) then (if 0 ≤ x10 then (if x10 < (x7.length : Int) then (if ((rd_T33 x7 x10).f0) = 6 then (if ((rd_T33 x7 x10).f2).toList = (rdOf ByteArray.empty x0 x10).toList then (if x10 < (x5.length : Int) then (if ((rd_T33 x7 x10).f1) = (rd x5 x10) then (verbatimlaw17_LexerQuotes.l1 k x0 x3 x5 x7 (wrap64 (x10 + 1))) else (some false)) else (none)) else (some false)) else (some false)) else (none)) else (none)) else (some x3)
end
def verbatimlaw17_LexerQuotes.f (k : Nat) (l0 : List ByteArray) : Option (Bool) := (verbatimlaw17_head.f k).bind fun t250 => (verbatimlaw17_LexerQuotes.l0 k l0 t250 (⟨#[]⟩ : ByteArray) ([] : List Int) 0)
theorem verbatimlaw17_LexerQuotes.mono_l : ∀ k, (∀ y0 y1 y2 y3 y4, LeO (verbatimlaw17_LexerQuotes.l0 k y0 y1 y2 y3 y4) (verbatimlaw17_LexerQuotes.l0 (k + 1) y0 y1 y2 y3 y4)) ∧ (∀ y0 y1 y2 y3 y4 y5, LeO (verbatimlaw17_LexerQuotes.j1 k y0 y1 y2 y3 y4 y5) (verbatimlaw17_LexerQuotes.j1 (k + 1) y0 y1 y2 y3 y4 y5)) ∧ (∀ y0 y1 y2 y3 y4, LeO (verbatimlaw17_LexerQuotes.j2 k y0 y1 y2 y3 y4) (verbatimlaw17_LexerQuotes.j2 (k + 1) y0 y1 y2 y3 y4)) ∧ (∀ y0 y1 y2 y3 y4, LeO (verbatimlaw17_LexerQuotes.l1 k y0 y1 y2 y3 y4) (verbatimlaw17_LexerQuotes.l1 (k + 1) y0 y1 y2 y3 y4))
  | 0 => ⟨fun _ _ _ _ _ r h => by simp [verbatimlaw17_LexerQuotes.l0] at h, fun _ _ _ _ _ _ r h => by simp [verbatimlaw17_LexerQuotes.j1] at h, fun _ _ _ _ _ r h => by simp [verbatimlaw17_LexerQuotes.j2] at h, fun _ _ _ _ _ r h => by simp [verbatimlaw17_LexerQuotes.l1] at h⟩
  | k + 1 => by
    obtain ⟨ih0, ih1, ih2, ih3⟩ := verbatimlaw17_LexerQuotes.mono_l k
    refine ⟨?_, ?_, ?_, ?_⟩
    · intro y0 y1 y2 y3 y4
      unfold verbatimlaw17_LexerQuotes.l0
      repeat' first
      | (with_reducible exact ih0 _ _ _ _ _)
      | (with_reducible exact ih1 _ _ _ _ _ _)
      | (with_reducible exact ih2 _ _ _ _ _)
      | (with_reducible exact ih3 _ _ _ _ _)
      | (with_reducible exact lexer_Quote.mono _ _)
      | (with_reducible exact lexer_Split.mono _ _)
      | (with_reducible exact verbatimlaw17_head.mono _)
      | (with_reducible exact LeO.refl _)
      | (with_reducible exact LeO.none _)
      | (with_reducible refine LeO.ite ?_ ?_)
      | (with_reducible refine LeO.bind ?_ (fun _ => ?_))
      | exact ih0 _ _ _ _ _
      | exact ih1 _ _ _ _ _ _
      | exact ih2 _ _ _ _ _
      | exact ih3 _ _ _ _ _
      | exact lexer_Quote.mono _ _
      | exact lexer_Split.mono _ _
      | exact verbatimlaw17_head.mono _
      | exact LeO.none _
      | refine LeO.ite ?_ ?_
      | refine LeO.bind ?_ (fun _ => ?_)
    · intro y0 y1 y2 y3 y4 y5
      unfold verbatimlaw17_LexerQuotes.j1
      repeat' first
      | (with_reducible exact ih0 _ _ _ _ _)
      | (with_reducible exact ih1 _ _ _ _ _ _)
      | (with_reducible exact ih2 _ _ _ _ _)
      | (with_reducible exact ih3 _ _ _ _ _)
      | (with_reducible exact lexer_Quote.mono _ _)
      | (with_reducible exact lexer_Split.mono _ _)
      | (with_reducible exact verbatimlaw17_head.mono _)
      | (with_reducible exact LeO.refl _)
      | (with_reducible exact LeO.none _)
      | (with_reducible refine LeO.ite ?_ ?_)
      | (with_reducible refine LeO.bind ?_ (fun _ => ?_))
      | exact ih0 _ _ _ _ _
      | exact ih1 _ _ _ _ _ _
      | exact ih2 _ _ _ _ _
      | exact ih3 _ _ _ _ _
      | exact lexer_Quote.mono _ _
      | exact lexer_Split.mono _ _
      | exact verbatimlaw17_head.mono _
      | exact LeO.none _
      | refine LeO.ite ?_ ?_
      | refine LeO.bind ?_ (fun _ => ?_)
    · intro y0 y1 y2 y3 y4
      unfold verbatimlaw17_LexerQuotes.j2
      repeat' first
      | (with_reducible exact ih0 _ _ _ _ _)
      | (with_reducible exact ih1 _ _ _ _ _ _)
      | (with_reducible exact ih2 _ _ _ _ _)
      | (with_reducible exact ih3 _ _ _ _ _)
      | (with_reducible exact lexer_Quote.mono _ _)
      | (with_reducible exact lexer_Split.mono _ _)
      | (with_reducible exact verbatimlaw17_head.mono _)
      | (with_reducible exact LeO.refl _)
      | (with_reducible exact LeO.none _)
      | (with_reducible refine LeO.ite ?_ ?_)
      | (with_reducible refine LeO.bind ?_ (fun _ => ?_))
      | exact ih0 _ _ _ _ _
      | exact ih1 _ _ _ _ _ _
      | exact ih2 _ _ _ _ _
      | exact ih3 _ _ _ _ _
      | exact lexer_Quote.mono _ _
      | exact lexer_Split.mono _ _
      | exact verbatimlaw17_head.mono _
      | exact LeO.none _
      | refine LeO.ite ?_ ?_
      | refine LeO.bind ?_ (fun _ => ?_)
    · intro y0 y1 y2 y3 y4
      unfold verbatimlaw17_LexerQuotes.l1
      repeat' first
      | (with_reducible exact ih0 _ _ _ _ _)
      | (with_reducible exact ih1 _ _ _ _ _ _)
      | (with_reducible exact ih2 _ _ _ _ _)
      | (with_reducible exact ih3 _ _ _ _ _)
      | (with_reducible exact lexer_Quote.mono _ _)
      | (with_reducible exact lexer_Split.mono _ _)
      | (with_reducible exact verbatimlaw17_head.mono _)
      | (with_reducible exact LeO.refl _)
      | (with_reducible exact LeO.none _)
      | (with_reducible refine LeO.ite ?_ ?_)
      | (with_reducible refine LeO.bind ?_ (fun _ => ?_))
      | exact ih0 _ _ _ _ _
      | exact ih1 _ _ _ _ _ _
      | exact ih2 _ _ _ _ _
      | exact ih3 _ _ _ _ _
      | exact lexer_Quote.mono _ _
      | exact lexer_Split.mono _ _
      | exact verbatimlaw17_head.mono _
      | exact LeO.none _
      | refine LeO.ite ?_ ?_
      | refine LeO.bind ?_ (fun _ => ?_)
theorem verbatimlaw17_LexerQuotes.mono : ∀ a0 k, LeO (verbatimlaw17_LexerQuotes.f k a0) (verbatimlaw17_LexerQuotes.f (k + 1) a0) := by
  intro a0 k
  obtain ⟨ih0, ih1, ih2, ih3⟩ := verbatimlaw17_LexerQuotes.mono_l k
  unfold verbatimlaw17_LexerQuotes.f
  repeat' first
      | (with_reducible exact ih0 _ _ _ _ _)
      | (with_reducible exact ih1 _ _ _ _ _ _)
      | (with_reducible exact ih2 _ _ _ _ _)
      | (with_reducible exact ih3 _ _ _ _ _)
      | (with_reducible exact lexer_Quote.mono _ _)
      | (with_reducible exact lexer_Split.mono _ _)
      | (with_reducible exact verbatimlaw17_head.mono _)
      | (with_reducible exact LeO.refl _)
      | (with_reducible exact LeO.none _)
      | (with_reducible refine LeO.ite ?_ ?_)
      | (with_reducible refine LeO.bind ?_ (fun _ => ?_))
      | exact ih0 _ _ _ _ _
      | exact ih1 _ _ _ _ _ _
      | exact ih2 _ _ _ _ _
      | exact ih3 _ _ _ _ _
      | exact lexer_Quote.mono _ _
      | exact lexer_Split.mono _ _
      | exact verbatimlaw17_head.mono _
      | exact LeO.none _
      | refine LeO.ite ?_ ?_
      | refine LeO.bind ?_ (fun _ => ?_)
set_option maxHeartbeats 8000000 in
set_option maxRecDepth 100000 in
theorem verbatimlaw17_LexerQuotes.calls (k : Nat) (A0 : Option Addr) (c0 : Nat) (l0 : List ByteArray) (r : Bool) (w : World) (hr0 : Kd.C Kd.string w A0 l0.length l0) (hc0 : l0.length ≤ c0) (h : verbatimlaw17_LexerQuotes.f k l0 = some r) :
    Calls Tryd.prog 4 #[.slice A0 l0.length c0] w fun e w' => e = .returned (.bool r) ∧ Below w.heap.size w w' := by
  have HR0 := Aside0.mk hr0
  have HC0 := Aside0.mk hc0
  clear hr0 hc0
  have HB := Aside0.mk (Below.refl w.heap.size w)
  have H : ((verbatimlaw17_head.f k).bind fun t250 => (verbatimlaw17_LexerQuotes.l0 k l0 t250 (⟨#[]⟩ : ByteArray) ([] : List Int) 0)) = some r := h
  clear h
  replace H := Option.bind_eq_some_iff.mp H
  obtain ⟨t250, A20, H⟩ := H
  replace H : (verbatimlaw17_LexerQuotes.l0 k l0 t250 (⟨#[]⟩ : ByteArray) ([] : List Int) 0) = some r := H
  have A2 := Aside0.mk A20
  clear A20
  have H' := Aside0.mk H
  clear H
  go_enter Tryd.func4, Tryd.ntmps4
  go_wp2_with (first | (go_at_call 9; (with_reducible refine (verbatimlaw17_head.calls k  t250 _ A2.out).mono ?_); rintro e w3 ⟨rfl, hb⟩; have n0_ := Aside0.mk (below_step (by repeat (first | (with_reducible first | exact HB.out | apply below_alloc | apply pw_below_drewN | apply below_drew1) | exact HB.out)) hb); clear HB; have HB := n0_; clear n0_; (try clear hb); (try clear hb2); (try clear hk); (try clear hi)))
  repeat (go_quiet (first | (go_at_call 9; (with_reducible refine (verbatimlaw17_head.calls k  t250 _ A2.out).mono ?_); rintro e w3 ⟨rfl, hb⟩; have n0_ := Aside0.mk (below_step (by repeat (first | (with_reducible first | exact HB.out | apply below_alloc | apply pw_below_drewN | apply below_drew1) | exact HB.out)) hb); clear HB; have HB := n0_; clear n0_; (try clear hb); (try clear hb2); (try clear hk); (try clear hi))); try go_wp2_with (first | (go_at_call 9; (with_reducible refine (verbatimlaw17_head.calls k  t250 _ A2.out).mono ?_); rintro e w3 ⟨rfl, hb⟩; have n0_ := Aside0.mk (below_step (by repeat (first | (with_reducible first | exact HB.out | apply below_alloc | apply pw_below_drewN | apply below_drew1) | exact HB.out)) hb); clear HB; have HB := n0_; clear n0_; (try clear hb); (try clear hb2); (try clear hk); (try clear hi))))
  go_loopg [4, 5, 6] k (fun kq v4 v5 v6 w' => ∃ (x4_1 : ByteArray) (x5_1 : List Int) (x6_1 : Int), v4 = .string x4_1 ∧ v6 = .int .i64 x6_1 ∧ Aside0 (verbatimlaw17_LexerQuotes.l0 kq l0 t250 x4_1 x5_1 x6_1 = some r) ∧ Aside0 (kq ≤ k) ∧ Aside0 (Kd.R (Kd.int .i64) 3 w' w.heap.size (fun _ => True) v5 x5_1) ∧ Aside0 (Below w.heap.size w w'))
  case atStart => exact ⟨((⟨#[]⟩ : ByteArray)), (([] : List Int)), (0), (by first | rfl | (simp; done) | (simp [*]; done)), (by first | rfl | (simp; done) | (simp [*]; done)), H', ⟨Nat.le_refl _⟩, ⟨by first | exact Kd.R_nil _ _ _ _ _ | exact Kd.N_nil _ _ _ _ _ | exact Kd.V_nil _ _ _ _ _ | exact Kd.Q_nil _ _ _ _ _ | exact Kd.S_nil _ _ _ _ _⟩, ⟨by repeat (first | (with_reducible first | exact HB.out | apply below_alloc | apply pw_below_drewN | apply below_drew1) | exact HB.out)⟩⟩
  case round =>
    clear H'
    try clear p2
    obtain ⟨x4_1, x5_1, x6_1, rfl, rfl, HA, HK1, HO_5, HB⟩ := hrel
    cases gk with
    | zero => exact absurd HA.out (by simp [verbatimlaw17_LexerQuotes.l0])
    | succ k1 =>
      have H := HA.out
      clear HA
      simp only [verbatimlaw17_LexerQuotes.l0] at H
      have HC4 := Aside0.mk H
      clear H
      go_upto_region 5 with (fail)
      repeat (go_quiet (fail); go_upto_region 5 with (fail))
      go_cut [20] (fun v20 wc => ∃ (kq : Nat) (x20_3 : Bool), v20 = .bool x20_3 ∧ Aside0 (verbatimlaw17_LexerQuotes.j1 kq l0 t250 x4_1 x5_1 x6_1 x20_3 = some r) ∧ Aside0 (kq ≤ k1) ∧ Aside0 (Kd.R (Kd.int .i64) 3 wc w.heap.size (fun _ => True) u5 x5_1) ∧ Aside0 (Below w.heap.size w wc))
      case first =>
        have H := HC4.out
        clear HC4
        by_cases c5 : x6_1 < (l0.length : Int)
        · rw [if_pos c5] at H
          have c5b0 : decide (x6_1 < (l0.length : Int)) = true := decide_eq_true c5
          clear c5
          (first | rw [c5b0] | (simp only [i64_w, i32_w]; rw [c5b0]) | skip)
          as_aux_lemma =>
            have H' := Aside0.mk H
            clear H
            go_wp2
            repeat (go_quiet (fail); try go_wp2)
            go_meet
            case rel => exact ⟨_, (decide ((x4_1.size : Int) ≤ 1024)), (by first | rfl | (simp; done) | (simp [*]; done)), H', ⟨by have := HK1.out; first | omega | exact Nat.le_refl _⟩, ⟨by (with_reducible repeat (first | apply Kd.R_alloc | apply Kd.R_drewN | apply Kd.R_drew)); exact HO_5.out⟩, ⟨by repeat (first | (with_reducible first | exact HB.out | apply below_alloc | apply pw_below_drewN | apply below_drew1) | exact HB.out)⟩⟩
        · rw [if_neg c5] at H
          have c5b0 : decide (x6_1 < (l0.length : Int)) = false := decide_eq_false c5
          clear c5
          (first | rw [c5b0] | (simp only [i64_w, i32_w]; rw [c5b0]) | skip)
          as_aux_lemma =>
            have H' := Aside0.mk H
            clear H
            go_wp2
            repeat (go_quiet (fail); try go_wp2)
            go_meet
            case rel => exact ⟨_, (false), (by first | rfl | (simp; done) | (simp [*]; done)), H', ⟨by have := HK1.out; first | omega | exact Nat.le_refl _⟩, ⟨by (with_reducible repeat (first | apply Kd.R_alloc | apply Kd.R_drewN | apply Kd.R_drew)); exact HO_5.out⟩, ⟨by repeat (first | (with_reducible first | exact HB.out | apply below_alloc | apply pw_below_drewN | apply below_drew1) | exact HB.out)⟩⟩
      case rest =>
        clear HC4
        try clear p2
        try clear c4
        try clear c5
        try clear c5b0
        try clear p2
        obtain ⟨kq, x20_3, rfl, HA, HJ3, HO_5, HB⟩ := hcut
        cases kq with
        | zero => exact absurd HA.out (by simp [verbatimlaw17_LexerQuotes.j1])
        | succ kj3 =>
          have H := HA.out
          clear HA
          simp only [verbatimlaw17_LexerQuotes.j1] at H
          by_cases c6 : x20_3 = true
          · subst c6
            have H1 : (if x6_1 > 0 then (if x4_1.size + 1 ≤ 9223372036854775807 then (if x5_1.length < 17592186044416 then (if 0 ≤ x6_1 then (if x6_1 < (l0.length : Int) then (if ((rdOf ByteArray.empty l0 x6_1).size : Int) > 2000 then (some t250) else ((lexer_Quote.f kj3 (rdOf ByteArray.empty l0 x6_1)).bind fun t256 => (if (x4_1.size + 1) + t256.size ≤ 9223372036854775807 then (verbatimlaw17_LexerQuotes.l0 kj3 l0 t250 ((x4_1 ++ (⟨#[32]⟩ : ByteArray)) ++ t256) (x5_1 ++ [((x4_1.size : Int) + 1)]) (wrap64 (x6_1 + 1))) else (none)))) else (none)) else (none)) else (none)) else (none)) else (if x5_1.length < 17592186044416 then (if 0 ≤ x6_1 then (if x6_1 < (l0.length : Int) then (if ((rdOf ByteArray.empty l0 x6_1).size : Int) > 2000 then (some t250) else ((lexer_Quote.f kj3 (rdOf ByteArray.empty l0 x6_1)).bind fun t262 => (if x4_1.size + t262.size ≤ 9223372036854775807 then (verbatimlaw17_LexerQuotes.l0 kj3 l0 t250 (x4_1 ++ t262) (x5_1 ++ [(x4_1.size : Int)]) (wrap64 (x6_1 + 1))) else (none)))) else (none)) else (none)) else (none))) = some r := by rw [if_pos rfl] at H; exact H
            clear H
            have H := H1
            clear H1
            by_cases c7 : x6_1 > 0
            · rw [if_pos c7] at H
              have c7b0 : decide (0 < x6_1) = true := decide_eq_true c7
              clear c7
              by_cases c8 : x4_1.size + 1 ≤ 9223372036854775807
              · rw [if_pos c8] at H
                have c8b0 := eq_true c8
                have c8b1 : decide (x4_1.size + 1 ≤ 9223372036854775807) = true := decide_eq_true c8
                try have c8b2 : (9223372036854775807 < x4_1.size + 1) = False := eq_false (Nat.not_lt.2 c8)
                by_cases c9 : x5_1.length < 17592186044416
                · rw [if_pos c9] at H
                  have LMc9 := Aside0.mk c9
                  clear c9
                  obtain ⟨y251, hy251⟩ : ∃ y_ : List Int, y_ = (x5_1 ++ [((x4_1.size : Int) + 1)]) := ⟨_, rfl⟩
                  replace H : (if 0 ≤ x6_1 then (if x6_1 < (l0.length : Int) then (if ((rdOf ByteArray.empty l0 x6_1).size : Int) > 2000 then (some t250) else ((lexer_Quote.f kj3 (rdOf ByteArray.empty l0 x6_1)).bind fun t256 => (if (x4_1.size + 1) + t256.size ≤ 9223372036854775807 then (verbatimlaw17_LexerQuotes.l0 kj3 l0 t250 ((x4_1 ++ (⟨#[32]⟩ : ByteArray)) ++ t256) y251 (wrap64 (x6_1 + 1))) else (none)))) else (none)) else (none)) = some r := by first | (rw [hy251]; with_reducible exact H) | (have H2_ := (Option.bind_some _ _).symm.trans H; rw [hy251]; with_reducible exact H2_) | (have H2_ := (Option.bind_some _ _).symm.trans H; with_reducible exact H2_) | with_reducible exact H | (rw [hy251]; exact H) | exact H
                  have Ny251 := Aside0.mk hy251
                  clear hy251
                  by_cases c10 : 0 ≤ x6_1
                  · rw [if_pos c10] at H
                    have c10b0 : decide (0 ≤ x6_1) = true := decide_eq_true c10
                    clear c10
                    by_cases c11 : x6_1 < (l0.length : Int)
                    · rw [if_pos c11] at H
                      have c11b0 : decide (x6_1 < (l0.length : Int)) = true := decide_eq_true c11
                      clear c11
                      by_cases c12 : ((rdOf ByteArray.empty l0 x6_1).size : Int) > 2000
                      · rw [if_pos c12] at H
                        have c12b0 : decide (2000 < ((rdOf ByteArray.empty l0 x6_1).size : Int)) = true := decide_eq_true c12
                        have c12b1 : decide (2000 < (rdOf ByteArray.empty l0 x6_1).size) = true := decide_eq_true (by omega)
                        clear c12
                        as_aux_lemma =>
                          obtain rfl := Option.some.inj H
                          go_wp2_with (first | ((with_reducible refine gate_builtin (b := .append) (xs := #[.tmp 27, .tmp 30]) rfl ?_); (try (refine gate_guard (by rfl) ?_; dsimp only)); at_builtin; refine Kd.R_append (Kd.int .i64) (w0 := w) w.heap.size rfl (.tmp 27) (.tmp 30) 31 3 (.int .i64 0) 8 rfl Tryd.underlying31 info3 rfl (by decide) (by omega) u5 x5_1 ((x4_1.size : Int) + 1) [.int .i64 ((x4_1.size : Int) + 1)] (fun _ => True) (fun _ => False) rfl rfl ?aP (fun _ hk => hk.elim) ?aF ?aO ?aB ?aS ?aL ?_; (case aP => exact rfl); (case aB => exact (by repeat (first | (with_reducible first | exact HB.out | apply below_alloc | apply pw_below_drewN | apply below_drew1) | exact HB.out))); (case aF => exact (fun _ _ => trivial)); (case aO => exact (by (with_reducible repeat (first | apply Kd.R_alloc | apply Kd.R_drewN | apply Kd.R_drew)); exact HO_5.out)); (case aS => exact (below_size (by repeat (first | (with_reducible first | exact HB.out | apply below_alloc | apply pw_below_drewN | apply below_drew1) | exact HB.out)))); (case aL => have := LMc9.out; omega); intro v252 w13 ho hb hg hat; rw [← Ny251.out] at ho; have n0_ := Aside0.mk (hb); have n1_ := Aside0.mk (ho); clear HB; clear HO_5; have HB := n0_; have HO253 := n1_; clear n0_ n1_; clear ho hb hg hat; have p254 : 0 ≤ (x6_1 : Int) := of_decide_eq_true (by first | (with_reducible assumption) | assumption); have q254 : x6_1 < (l0.length : Int) := of_decide_eq_true (by first | (with_reducible assumption) | assumption); obtain ⟨ad254, e254, hx254_0⟩ := Kd.at_string HR0.out x6_1 p254 q254; cases e254; replace hx254_0 := (HB.out.cell (World.block_lt_of_cell? w _ hx254_0)).trans hx254_0; replace p254 := eq_true p254; replace q254 := eq_true q254))
                          repeat (go_quiet (first | ((with_reducible refine gate_builtin (b := .append) (xs := #[.tmp 27, .tmp 30]) rfl ?_); (try (refine gate_guard (by rfl) ?_; dsimp only)); at_builtin; refine Kd.R_append (Kd.int .i64) (w0 := w) w.heap.size rfl (.tmp 27) (.tmp 30) 31 3 (.int .i64 0) 8 rfl Tryd.underlying31 info3 rfl (by decide) (by omega) u5 x5_1 ((x4_1.size : Int) + 1) [.int .i64 ((x4_1.size : Int) + 1)] (fun _ => True) (fun _ => False) rfl rfl ?aP (fun _ hk => hk.elim) ?aF ?aO ?aB ?aS ?aL ?_; (case aP => exact rfl); (case aB => exact (by repeat (first | (with_reducible first | exact HB.out | apply below_alloc | apply pw_below_drewN | apply below_drew1) | exact HB.out))); (case aF => exact (fun _ _ => trivial)); (case aO => exact (by (with_reducible repeat (first | apply Kd.R_alloc | apply Kd.R_drewN | apply Kd.R_drew)); exact HO_5.out)); (case aS => exact (below_size (by repeat (first | (with_reducible first | exact HB.out | apply below_alloc | apply pw_below_drewN | apply below_drew1) | exact HB.out)))); (case aL => have := LMc9.out; omega); intro v252 w13 ho hb hg hat; rw [← Ny251.out] at ho; have n0_ := Aside0.mk (hb); have n1_ := Aside0.mk (ho); clear HB; clear HO_5; have HB := n0_; have HO253 := n1_; clear n0_ n1_; clear ho hb hg hat; have p254 : 0 ≤ (x6_1 : Int) := of_decide_eq_true (by first | (with_reducible assumption) | assumption); have q254 : x6_1 < (l0.length : Int) := of_decide_eq_true (by first | (with_reducible assumption) | assumption); obtain ⟨ad254, e254, hx254_0⟩ := Kd.at_string HR0.out x6_1 p254 q254; cases e254; replace hx254_0 := (HB.out.cell (World.block_lt_of_cell? w _ hx254_0)).trans hx254_0; replace p254 := eq_true p254; replace q254 := eq_true q254)); try go_wp2_with (first | ((with_reducible refine gate_builtin (b := .append) (xs := #[.tmp 27, .tmp 30]) rfl ?_); (try (refine gate_guard (by rfl) ?_; dsimp only)); at_builtin; refine Kd.R_append (Kd.int .i64) (w0 := w) w.heap.size rfl (.tmp 27) (.tmp 30) 31 3 (.int .i64 0) 8 rfl Tryd.underlying31 info3 rfl (by decide) (by omega) u5 x5_1 ((x4_1.size : Int) + 1) [.int .i64 ((x4_1.size : Int) + 1)] (fun _ => True) (fun _ => False) rfl rfl ?aP (fun _ hk => hk.elim) ?aF ?aO ?aB ?aS ?aL ?_; (case aP => exact rfl); (case aB => exact (by repeat (first | (with_reducible first | exact HB.out | apply below_alloc | apply pw_below_drewN | apply below_drew1) | exact HB.out))); (case aF => exact (fun _ _ => trivial)); (case aO => exact (by (with_reducible repeat (first | apply Kd.R_alloc | apply Kd.R_drewN | apply Kd.R_drew)); exact HO_5.out)); (case aS => exact (below_size (by repeat (first | (with_reducible first | exact HB.out | apply below_alloc | apply pw_below_drewN | apply below_drew1) | exact HB.out)))); (case aL => have := LMc9.out; omega); intro v252 w13 ho hb hg hat; rw [← Ny251.out] at ho; have n0_ := Aside0.mk (hb); have n1_ := Aside0.mk (ho); clear HB; clear HO_5; have HB := n0_; have HO253 := n1_; clear n0_ n1_; clear ho hb hg hat; have p254 : 0 ≤ (x6_1 : Int) := of_decide_eq_true (by first | (with_reducible assumption) | assumption); have q254 : x6_1 < (l0.length : Int) := of_decide_eq_true (by first | (with_reducible assumption) | assumption); obtain ⟨ad254, e254, hx254_0⟩ := Kd.at_string HR0.out x6_1 p254 q254; cases e254; replace hx254_0 := (HB.out.cell (World.block_lt_of_cell? w _ hx254_0)).trans hx254_0; replace p254 := eq_true p254; replace q254 := eq_true q254)))
                          go_ret
                          exact ⟨by first | rfl | (simp [errW_none, errW_some] <;> rfl) | (simp [*, errW_none, errW_some] <;> rfl), by repeat (first | (with_reducible first | exact HB.out | apply below_alloc | apply pw_below_drewN | apply below_drew1) | exact HB.out)⟩
                      · rw [if_neg c12] at H
                        have c12b0 : decide (2000 < ((rdOf ByteArray.empty l0 x6_1).size : Int)) = false := decide_eq_false c12
                        have c12b1 : decide (2000 < (rdOf ByteArray.empty l0 x6_1).size) = false := decide_eq_false (by omega)
                        clear c12
                        replace H := Option.bind_eq_some_iff.mp H
                        obtain ⟨t256, A140, H⟩ := H
                        replace H : (if (x4_1.size + 1) + t256.size ≤ 9223372036854775807 then (verbatimlaw17_LexerQuotes.l0 kj3 l0 t250 ((x4_1 ++ (⟨#[32]⟩ : ByteArray)) ++ t256) y251 (wrap64 (x6_1 + 1))) else (none)) = some r := H
                        have A14 := Aside0.mk A140
                        clear A140
                        by_cases c15 : (x4_1.size + 1) + t256.size ≤ 9223372036854775807
                        · rw [if_pos c15] at H
                          have c15b0 := eq_true c15
                          have c15b1 : decide ((x4_1.size + 1) + t256.size ≤ 9223372036854775807) = true := decide_eq_true c15
                          try have c15b2 : (9223372036854775807 < (x4_1.size + 1) + t256.size) = False := eq_false (Nat.not_lt.2 c15)
                          as_aux_lemma =>
                            have H' := Aside0.mk H
                            clear H
                            go_wp2_with (first | ((with_reducible refine gate_builtin (b := .append) (xs := #[.tmp 27, .tmp 30]) rfl ?_); (try (refine gate_guard (by rfl) ?_; dsimp only)); at_builtin; refine Kd.R_append (Kd.int .i64) (w0 := w) w.heap.size rfl (.tmp 27) (.tmp 30) 31 3 (.int .i64 0) 8 rfl Tryd.underlying31 info3 rfl (by decide) (by omega) u5 x5_1 ((x4_1.size : Int) + 1) [.int .i64 ((x4_1.size : Int) + 1)] (fun _ => True) (fun _ => False) rfl rfl ?aP (fun _ hk => hk.elim) ?aF ?aO ?aB ?aS ?aL ?_; (case aP => exact rfl); (case aB => exact (by repeat (first | (with_reducible first | exact HB.out | apply below_alloc | apply pw_below_drewN | apply below_drew1) | exact HB.out))); (case aF => exact (fun _ _ => trivial)); (case aO => exact (by (with_reducible repeat (first | apply Kd.R_alloc | apply Kd.R_drewN | apply Kd.R_drew)); exact HO_5.out)); (case aS => exact (below_size (by repeat (first | (with_reducible first | exact HB.out | apply below_alloc | apply pw_below_drewN | apply below_drew1) | exact HB.out)))); (case aL => have := LMc9.out; omega); intro v252 w16 ho hb hg hat; rw [← Ny251.out] at ho; have n0_ := Aside0.mk (hb); have n1_ := Aside0.mk (ho); clear HB; clear HO_5; have HB := n0_; have HO253 := n1_; clear n0_ n1_; clear ho hb hg hat; have p254 : 0 ≤ (x6_1 : Int) := of_decide_eq_true (by first | (with_reducible assumption) | assumption); have q254 : x6_1 < (l0.length : Int) := of_decide_eq_true (by first | (with_reducible assumption) | assumption); obtain ⟨ad254, e254, hx254_0⟩ := Kd.at_string HR0.out x6_1 p254 q254; cases e254; replace hx254_0 := (HB.out.cell (World.block_lt_of_cell? w _ hx254_0)).trans hx254_0; replace p254 := eq_true p254; replace q254 := eq_true q254; have p255 : 0 ≤ (x6_1 : Int) := of_decide_eq_true (by first | (with_reducible assumption) | assumption); have q255 : x6_1 < (l0.length : Int) := of_decide_eq_true (by first | (with_reducible assumption) | assumption); obtain ⟨ad255, e255, hx255_0⟩ := Kd.at_string HR0.out x6_1 p255 q255; obtain rfl : ad254 = ad255 := (by injection e255); replace hx255_0 := (HB.out.cell (World.block_lt_of_cell? w _ hx255_0)).trans hx255_0; replace p255 := eq_true p255; replace q255 := eq_true q255) | (go_at_call 13; (with_reducible refine (lexer_Quote.calls kj3 (rdOf ByteArray.empty l0 x6_1) t256 _ A14.out).mono ?_); rintro e w17 ⟨rfl, hb⟩; have n0_ := Aside0.mk (Kd.R_below (by (with_reducible repeat (first | apply Kd.R_alloc | apply Kd.R_drewN | apply Kd.R_drew)); exact HO253.out) hb); have n1_ := Aside0.mk (below_step (by repeat (first | (with_reducible first | exact HB.out | apply below_alloc | apply pw_below_drewN | apply below_drew1) | exact HB.out)) hb); clear HO253; clear HB; have HO253 := n0_; have HB := n1_; clear n0_ n1_; (try clear hb); (try clear hb2); (try clear hk); (try clear hi)))
                            repeat (go_quiet (first | ((with_reducible refine gate_builtin (b := .append) (xs := #[.tmp 27, .tmp 30]) rfl ?_); (try (refine gate_guard (by rfl) ?_; dsimp only)); at_builtin; refine Kd.R_append (Kd.int .i64) (w0 := w) w.heap.size rfl (.tmp 27) (.tmp 30) 31 3 (.int .i64 0) 8 rfl Tryd.underlying31 info3 rfl (by decide) (by omega) u5 x5_1 ((x4_1.size : Int) + 1) [.int .i64 ((x4_1.size : Int) + 1)] (fun _ => True) (fun _ => False) rfl rfl ?aP (fun _ hk => hk.elim) ?aF ?aO ?aB ?aS ?aL ?_; (case aP => exact rfl); (case aB => exact (by repeat (first | (with_reducible first | exact HB.out | apply below_alloc | apply pw_below_drewN | apply below_drew1) | exact HB.out))); (case aF => exact (fun _ _ => trivial)); (case aO => exact (by (with_reducible repeat (first | apply Kd.R_alloc | apply Kd.R_drewN | apply Kd.R_drew)); exact HO_5.out)); (case aS => exact (below_size (by repeat (first | (with_reducible first | exact HB.out | apply below_alloc | apply pw_below_drewN | apply below_drew1) | exact HB.out)))); (case aL => have := LMc9.out; omega); intro v252 w16 ho hb hg hat; rw [← Ny251.out] at ho; have n0_ := Aside0.mk (hb); have n1_ := Aside0.mk (ho); clear HB; clear HO_5; have HB := n0_; have HO253 := n1_; clear n0_ n1_; clear ho hb hg hat; have p254 : 0 ≤ (x6_1 : Int) := of_decide_eq_true (by first | (with_reducible assumption) | assumption); have q254 : x6_1 < (l0.length : Int) := of_decide_eq_true (by first | (with_reducible assumption) | assumption); obtain ⟨ad254, e254, hx254_0⟩ := Kd.at_string HR0.out x6_1 p254 q254; cases e254; replace hx254_0 := (HB.out.cell (World.block_lt_of_cell? w _ hx254_0)).trans hx254_0; replace p254 := eq_true p254; replace q254 := eq_true q254; have p255 : 0 ≤ (x6_1 : Int) := of_decide_eq_true (by first | (with_reducible assumption) | assumption); have q255 : x6_1 < (l0.length : Int) := of_decide_eq_true (by first | (with_reducible assumption) | assumption); obtain ⟨ad255, e255, hx255_0⟩ := Kd.at_string HR0.out x6_1 p255 q255; obtain rfl : ad254 = ad255 := (by injection e255); replace hx255_0 := (HB.out.cell (World.block_lt_of_cell? w _ hx255_0)).trans hx255_0; replace p255 := eq_true p255; replace q255 := eq_true q255) | (go_at_call 13; (with_reducible refine (lexer_Quote.calls kj3 (rdOf ByteArray.empty l0 x6_1) t256 _ A14.out).mono ?_); rintro e w17 ⟨rfl, hb⟩; have n0_ := Aside0.mk (Kd.R_below (by (with_reducible repeat (first | apply Kd.R_alloc | apply Kd.R_drewN | apply Kd.R_drew)); exact HO253.out) hb); have n1_ := Aside0.mk (below_step (by repeat (first | (with_reducible first | exact HB.out | apply below_alloc | apply pw_below_drewN | apply below_drew1) | exact HB.out)) hb); clear HO253; clear HB; have HO253 := n0_; have HB := n1_; clear n0_ n1_; (try clear hb); (try clear hb2); (try clear hk); (try clear hi))); try go_wp2_with (first | ((with_reducible refine gate_builtin (b := .append) (xs := #[.tmp 27, .tmp 30]) rfl ?_); (try (refine gate_guard (by rfl) ?_; dsimp only)); at_builtin; refine Kd.R_append (Kd.int .i64) (w0 := w) w.heap.size rfl (.tmp 27) (.tmp 30) 31 3 (.int .i64 0) 8 rfl Tryd.underlying31 info3 rfl (by decide) (by omega) u5 x5_1 ((x4_1.size : Int) + 1) [.int .i64 ((x4_1.size : Int) + 1)] (fun _ => True) (fun _ => False) rfl rfl ?aP (fun _ hk => hk.elim) ?aF ?aO ?aB ?aS ?aL ?_; (case aP => exact rfl); (case aB => exact (by repeat (first | (with_reducible first | exact HB.out | apply below_alloc | apply pw_below_drewN | apply below_drew1) | exact HB.out))); (case aF => exact (fun _ _ => trivial)); (case aO => exact (by (with_reducible repeat (first | apply Kd.R_alloc | apply Kd.R_drewN | apply Kd.R_drew)); exact HO_5.out)); (case aS => exact (below_size (by repeat (first | (with_reducible first | exact HB.out | apply below_alloc | apply pw_below_drewN | apply below_drew1) | exact HB.out)))); (case aL => have := LMc9.out; omega); intro v252 w16 ho hb hg hat; rw [← Ny251.out] at ho; have n0_ := Aside0.mk (hb); have n1_ := Aside0.mk (ho); clear HB; clear HO_5; have HB := n0_; have HO253 := n1_; clear n0_ n1_; clear ho hb hg hat; have p254 : 0 ≤ (x6_1 : Int) := of_decide_eq_true (by first | (with_reducible assumption) | assumption); have q254 : x6_1 < (l0.length : Int) := of_decide_eq_true (by first | (with_reducible assumption) | assumption); obtain ⟨ad254, e254, hx254_0⟩ := Kd.at_string HR0.out x6_1 p254 q254; cases e254; replace hx254_0 := (HB.out.cell (World.block_lt_of_cell? w _ hx254_0)).trans hx254_0; replace p254 := eq_true p254; replace q254 := eq_true q254; have p255 : 0 ≤ (x6_1 : Int) := of_decide_eq_true (by first | (with_reducible assumption) | assumption); have q255 : x6_1 < (l0.length : Int) := of_decide_eq_true (by first | (with_reducible assumption) | assumption); obtain ⟨ad255, e255, hx255_0⟩ := Kd.at_string HR0.out x6_1 p255 q255; obtain rfl : ad254 = ad255 := (by injection e255); replace hx255_0 := (HB.out.cell (World.block_lt_of_cell? w _ hx255_0)).trans hx255_0; replace p255 := eq_true p255; replace q255 := eq_true q255) | (go_at_call 13; (with_reducible refine (lexer_Quote.calls kj3 (rdOf ByteArray.empty l0 x6_1) t256 _ A14.out).mono ?_); rintro e w17 ⟨rfl, hb⟩; have n0_ := Aside0.mk (Kd.R_below (by (with_reducible repeat (first | apply Kd.R_alloc | apply Kd.R_drewN | apply Kd.R_drew)); exact HO253.out) hb); have n1_ := Aside0.mk (below_step (by repeat (first | (with_reducible first | exact HB.out | apply below_alloc | apply pw_below_drewN | apply below_drew1) | exact HB.out)) hb); clear HO253; clear HB; have HO253 := n0_; have HB := n1_; clear n0_ n1_; (try clear hb); (try clear hb2); (try clear hk); (try clear hi))))
                            go_roundg kj3
                            case measure => have := HK1.out; have := HJ3.out; omega
                            case rel => exact ⟨((x4_1 ++ (⟨#[32]⟩ : ByteArray)) ++ t256), (y251), (wrap64 (x6_1 + 1)), (by first | rfl | (simp; done) | (simp [*]; done)), (by first | rfl | (simp; done) | (simp [*]; done)), H', ⟨by have := HK1.out; have := HJ3.out; omega⟩, ⟨by (with_reducible repeat (first | apply Kd.R_alloc | apply Kd.R_drewN | apply Kd.R_drew)); exact HO253.out⟩, ⟨by repeat (first | (with_reducible first | exact HB.out | apply below_alloc | apply pw_below_drewN | apply below_drew1) | exact HB.out)⟩⟩
                        · rw [if_neg c15] at H
                          exact absurd H (by simp)
                    · rw [if_neg c11] at H
                      exact absurd H (by simp)
                  · rw [if_neg c10] at H
                    exact absurd H (by simp)
                · rw [if_neg c9] at H
                  exact absurd H (by simp)
              · rw [if_neg c8] at H
                exact absurd H (by simp)
            · rw [if_neg c7] at H
              have c7b0 : decide (0 < x6_1) = false := decide_eq_false c7
              clear c7
              by_cases c18 : x5_1.length < 17592186044416
              · rw [if_pos c18] at H
                have LMc18 := Aside0.mk c18
                clear c18
                obtain ⟨y257, hy257⟩ : ∃ y_ : List Int, y_ = (x5_1 ++ [(x4_1.size : Int)]) := ⟨_, rfl⟩
                replace H : (if 0 ≤ x6_1 then (if x6_1 < (l0.length : Int) then (if ((rdOf ByteArray.empty l0 x6_1).size : Int) > 2000 then (some t250) else ((lexer_Quote.f kj3 (rdOf ByteArray.empty l0 x6_1)).bind fun t262 => (if x4_1.size + t262.size ≤ 9223372036854775807 then (verbatimlaw17_LexerQuotes.l0 kj3 l0 t250 (x4_1 ++ t262) y257 (wrap64 (x6_1 + 1))) else (none)))) else (none)) else (none)) = some r := by first | (rw [hy257]; with_reducible exact H) | (have H2_ := (Option.bind_some _ _).symm.trans H; rw [hy257]; with_reducible exact H2_) | (have H2_ := (Option.bind_some _ _).symm.trans H; with_reducible exact H2_) | with_reducible exact H | (rw [hy257]; exact H) | exact H
                have Ny257 := Aside0.mk hy257
                clear hy257
                by_cases c19 : 0 ≤ x6_1
                · rw [if_pos c19] at H
                  have c19b0 : decide (0 ≤ x6_1) = true := decide_eq_true c19
                  clear c19
                  by_cases c20 : x6_1 < (l0.length : Int)
                  · rw [if_pos c20] at H
                    have c20b0 : decide (x6_1 < (l0.length : Int)) = true := decide_eq_true c20
                    clear c20
                    by_cases c21 : ((rdOf ByteArray.empty l0 x6_1).size : Int) > 2000
                    · rw [if_pos c21] at H
                      have c21b0 : decide (2000 < ((rdOf ByteArray.empty l0 x6_1).size : Int)) = true := decide_eq_true c21
                      have c21b1 : decide (2000 < (rdOf ByteArray.empty l0 x6_1).size) = true := decide_eq_true (by omega)
                      clear c21
                      as_aux_lemma =>
                        obtain rfl := Option.some.inj H
                        go_wp2_with (first | ((with_reducible refine gate_builtin (b := .append) (xs := #[.tmp 27, .tmp 30]) rfl ?_); (try (refine gate_guard (by rfl) ?_; dsimp only)); at_builtin; refine Kd.R_append (Kd.int .i64) (w0 := w) w.heap.size rfl (.tmp 27) (.tmp 30) 31 3 (.int .i64 0) 8 rfl Tryd.underlying31 info3 rfl (by decide) (by omega) u5 x5_1 (x4_1.size : Int) [.int .i64 (x4_1.size : Int)] (fun _ => True) (fun _ => False) rfl rfl ?aP (fun _ hk => hk.elim) ?aF ?aO ?aB ?aS ?aL ?_; (case aP => exact rfl); (case aB => exact (by repeat (first | (with_reducible first | exact HB.out | apply below_alloc | apply pw_below_drewN | apply below_drew1) | exact HB.out))); (case aF => exact (fun _ _ => trivial)); (case aO => exact (by (with_reducible repeat (first | apply Kd.R_alloc | apply Kd.R_drewN | apply Kd.R_drew)); exact HO_5.out)); (case aS => exact (below_size (by repeat (first | (with_reducible first | exact HB.out | apply below_alloc | apply pw_below_drewN | apply below_drew1) | exact HB.out)))); (case aL => have := LMc18.out; omega); intro v258 w22 ho hb hg hat; rw [← Ny257.out] at ho; have n0_ := Aside0.mk (hb); have n1_ := Aside0.mk (ho); clear HB; clear HO_5; have HB := n0_; have HO259 := n1_; clear n0_ n1_; clear ho hb hg hat; have p260 : 0 ≤ (x6_1 : Int) := of_decide_eq_true (by first | (with_reducible assumption) | assumption); have q260 : x6_1 < (l0.length : Int) := of_decide_eq_true (by first | (with_reducible assumption) | assumption); obtain ⟨ad260, e260, hx260_0⟩ := Kd.at_string HR0.out x6_1 p260 q260; cases e260; replace hx260_0 := (HB.out.cell (World.block_lt_of_cell? w _ hx260_0)).trans hx260_0; replace p260 := eq_true p260; replace q260 := eq_true q260))
                        repeat (go_quiet (first | ((with_reducible refine gate_builtin (b := .append) (xs := #[.tmp 27, .tmp 30]) rfl ?_); (try (refine gate_guard (by rfl) ?_; dsimp only)); at_builtin; refine Kd.R_append (Kd.int .i64) (w0 := w) w.heap.size rfl (.tmp 27) (.tmp 30) 31 3 (.int .i64 0) 8 rfl Tryd.underlying31 info3 rfl (by decide) (by omega) u5 x5_1 (x4_1.size : Int) [.int .i64 (x4_1.size : Int)] (fun _ => True) (fun _ => False) rfl rfl ?aP (fun _ hk => hk.elim) ?aF ?aO ?aB ?aS ?aL ?_; (case aP => exact rfl); (case aB => exact (by repeat (first | (with_reducible first | exact HB.out | apply below_alloc | apply pw_below_drewN | apply below_drew1) | exact HB.out))); (case aF => exact (fun _ _ => trivial)); (case aO => exact (by (with_reducible repeat (first | apply Kd.R_alloc | apply Kd.R_drewN | apply Kd.R_drew)); exact HO_5.out)); (case aS => exact (below_size (by repeat (first | (with_reducible first | exact HB.out | apply below_alloc | apply pw_below_drewN | apply below_drew1) | exact HB.out)))); (case aL => have := LMc18.out; omega); intro v258 w22 ho hb hg hat; rw [← Ny257.out] at ho; have n0_ := Aside0.mk (hb); have n1_ := Aside0.mk (ho); clear HB; clear HO_5; have HB := n0_; have HO259 := n1_; clear n0_ n1_; clear ho hb hg hat; have p260 : 0 ≤ (x6_1 : Int) := of_decide_eq_true (by first | (with_reducible assumption) | assumption); have q260 : x6_1 < (l0.length : Int) := of_decide_eq_true (by first | (with_reducible assumption) | assumption); obtain ⟨ad260, e260, hx260_0⟩ := Kd.at_string HR0.out x6_1 p260 q260; cases e260; replace hx260_0 := (HB.out.cell (World.block_lt_of_cell? w _ hx260_0)).trans hx260_0; replace p260 := eq_true p260; replace q260 := eq_true q260)); try go_wp2_with (first | ((with_reducible refine gate_builtin (b := .append) (xs := #[.tmp 27, .tmp 30]) rfl ?_); (try (refine gate_guard (by rfl) ?_; dsimp only)); at_builtin; refine Kd.R_append (Kd.int .i64) (w0 := w) w.heap.size rfl (.tmp 27) (.tmp 30) 31 3 (.int .i64 0) 8 rfl Tryd.underlying31 info3 rfl (by decide) (by omega) u5 x5_1 (x4_1.size : Int) [.int .i64 (x4_1.size : Int)] (fun _ => True) (fun _ => False) rfl rfl ?aP (fun _ hk => hk.elim) ?aF ?aO ?aB ?aS ?aL ?_; (case aP => exact rfl); (case aB => exact (by repeat (first | (with_reducible first | exact HB.out | apply below_alloc | apply pw_below_drewN | apply below_drew1) | exact HB.out))); (case aF => exact (fun _ _ => trivial)); (case aO => exact (by (with_reducible repeat (first | apply Kd.R_alloc | apply Kd.R_drewN | apply Kd.R_drew)); exact HO_5.out)); (case aS => exact (below_size (by repeat (first | (with_reducible first | exact HB.out | apply below_alloc | apply pw_below_drewN | apply below_drew1) | exact HB.out)))); (case aL => have := LMc18.out; omega); intro v258 w22 ho hb hg hat; rw [← Ny257.out] at ho; have n0_ := Aside0.mk (hb); have n1_ := Aside0.mk (ho); clear HB; clear HO_5; have HB := n0_; have HO259 := n1_; clear n0_ n1_; clear ho hb hg hat; have p260 : 0 ≤ (x6_1 : Int) := of_decide_eq_true (by first | (with_reducible assumption) | assumption); have q260 : x6_1 < (l0.length : Int) := of_decide_eq_true (by first | (with_reducible assumption) | assumption); obtain ⟨ad260, e260, hx260_0⟩ := Kd.at_string HR0.out x6_1 p260 q260; cases e260; replace hx260_0 := (HB.out.cell (World.block_lt_of_cell? w _ hx260_0)).trans hx260_0; replace p260 := eq_true p260; replace q260 := eq_true q260)))
                        go_ret
                        exact ⟨by first | rfl | (simp [errW_none, errW_some] <;> rfl) | (simp [*, errW_none, errW_some] <;> rfl), by repeat (first | (with_reducible first | exact HB.out | apply below_alloc | apply pw_below_drewN | apply below_drew1) | exact HB.out)⟩
                    · rw [if_neg c21] at H
                      have c21b0 : decide (2000 < ((rdOf ByteArray.empty l0 x6_1).size : Int)) = false := decide_eq_false c21
                      have c21b1 : decide (2000 < (rdOf ByteArray.empty l0 x6_1).size) = false := decide_eq_false (by omega)
                      clear c21
                      replace H := Option.bind_eq_some_iff.mp H
                      obtain ⟨t262, A230, H⟩ := H
                      replace H : (if x4_1.size + t262.size ≤ 9223372036854775807 then (verbatimlaw17_LexerQuotes.l0 kj3 l0 t250 (x4_1 ++ t262) y257 (wrap64 (x6_1 + 1))) else (none)) = some r := H
                      have A23 := Aside0.mk A230
                      clear A230
                      by_cases c24 : x4_1.size + t262.size ≤ 9223372036854775807
                      · rw [if_pos c24] at H
                        have c24b0 := eq_true c24
                        have c24b1 : decide (x4_1.size + t262.size ≤ 9223372036854775807) = true := decide_eq_true c24
                        try have c24b2 : (9223372036854775807 < x4_1.size + t262.size) = False := eq_false (Nat.not_lt.2 c24)
                        as_aux_lemma =>
                          have H' := Aside0.mk H
                          clear H
                          go_wp2_with (first | ((with_reducible refine gate_builtin (b := .append) (xs := #[.tmp 27, .tmp 30]) rfl ?_); (try (refine gate_guard (by rfl) ?_; dsimp only)); at_builtin; refine Kd.R_append (Kd.int .i64) (w0 := w) w.heap.size rfl (.tmp 27) (.tmp 30) 31 3 (.int .i64 0) 8 rfl Tryd.underlying31 info3 rfl (by decide) (by omega) u5 x5_1 (x4_1.size : Int) [.int .i64 (x4_1.size : Int)] (fun _ => True) (fun _ => False) rfl rfl ?aP (fun _ hk => hk.elim) ?aF ?aO ?aB ?aS ?aL ?_; (case aP => exact rfl); (case aB => exact (by repeat (first | (with_reducible first | exact HB.out | apply below_alloc | apply pw_below_drewN | apply below_drew1) | exact HB.out))); (case aF => exact (fun _ _ => trivial)); (case aO => exact (by (with_reducible repeat (first | apply Kd.R_alloc | apply Kd.R_drewN | apply Kd.R_drew)); exact HO_5.out)); (case aS => exact (below_size (by repeat (first | (with_reducible first | exact HB.out | apply below_alloc | apply pw_below_drewN | apply below_drew1) | exact HB.out)))); (case aL => have := LMc18.out; omega); intro v258 w25 ho hb hg hat; rw [← Ny257.out] at ho; have n0_ := Aside0.mk (hb); have n1_ := Aside0.mk (ho); clear HB; clear HO_5; have HB := n0_; have HO259 := n1_; clear n0_ n1_; clear ho hb hg hat; have p260 : 0 ≤ (x6_1 : Int) := of_decide_eq_true (by first | (with_reducible assumption) | assumption); have q260 : x6_1 < (l0.length : Int) := of_decide_eq_true (by first | (with_reducible assumption) | assumption); obtain ⟨ad260, e260, hx260_0⟩ := Kd.at_string HR0.out x6_1 p260 q260; cases e260; replace hx260_0 := (HB.out.cell (World.block_lt_of_cell? w _ hx260_0)).trans hx260_0; replace p260 := eq_true p260; replace q260 := eq_true q260; have p261 : 0 ≤ (x6_1 : Int) := of_decide_eq_true (by first | (with_reducible assumption) | assumption); have q261 : x6_1 < (l0.length : Int) := of_decide_eq_true (by first | (with_reducible assumption) | assumption); obtain ⟨ad261, e261, hx261_0⟩ := Kd.at_string HR0.out x6_1 p261 q261; obtain rfl : ad260 = ad261 := (by injection e261); replace hx261_0 := (HB.out.cell (World.block_lt_of_cell? w _ hx261_0)).trans hx261_0; replace p261 := eq_true p261; replace q261 := eq_true q261) | (go_at_call 13; (with_reducible refine (lexer_Quote.calls kj3 (rdOf ByteArray.empty l0 x6_1) t262 _ A23.out).mono ?_); rintro e w26 ⟨rfl, hb⟩; have n0_ := Aside0.mk (Kd.R_below (by (with_reducible repeat (first | apply Kd.R_alloc | apply Kd.R_drewN | apply Kd.R_drew)); exact HO259.out) hb); have n1_ := Aside0.mk (below_step (by repeat (first | (with_reducible first | exact HB.out | apply below_alloc | apply pw_below_drewN | apply below_drew1) | exact HB.out)) hb); clear HO259; clear HB; have HO259 := n0_; have HB := n1_; clear n0_ n1_; (try clear hb); (try clear hb2); (try clear hk); (try clear hi)))
                          repeat (go_quiet (first | ((with_reducible refine gate_builtin (b := .append) (xs := #[.tmp 27, .tmp 30]) rfl ?_); (try (refine gate_guard (by rfl) ?_; dsimp only)); at_builtin; refine Kd.R_append (Kd.int .i64) (w0 := w) w.heap.size rfl (.tmp 27) (.tmp 30) 31 3 (.int .i64 0) 8 rfl Tryd.underlying31 info3 rfl (by decide) (by omega) u5 x5_1 (x4_1.size : Int) [.int .i64 (x4_1.size : Int)] (fun _ => True) (fun _ => False) rfl rfl ?aP (fun _ hk => hk.elim) ?aF ?aO ?aB ?aS ?aL ?_; (case aP => exact rfl); (case aB => exact (by repeat (first | (with_reducible first | exact HB.out | apply below_alloc | apply pw_below_drewN | apply below_drew1) | exact HB.out))); (case aF => exact (fun _ _ => trivial)); (case aO => exact (by (with_reducible repeat (first | apply Kd.R_alloc | apply Kd.R_drewN | apply Kd.R_drew)); exact HO_5.out)); (case aS => exact (below_size (by repeat (first | (with_reducible first | exact HB.out | apply below_alloc | apply pw_below_drewN | apply below_drew1) | exact HB.out)))); (case aL => have := LMc18.out; omega); intro v258 w25 ho hb hg hat; rw [← Ny257.out] at ho; have n0_ := Aside0.mk (hb); have n1_ := Aside0.mk (ho); clear HB; clear HO_5; have HB := n0_; have HO259 := n1_; clear n0_ n1_; clear ho hb hg hat; have p260 : 0 ≤ (x6_1 : Int) := of_decide_eq_true (by first | (with_reducible assumption) | assumption); have q260 : x6_1 < (l0.length : Int) := of_decide_eq_true (by first | (with_reducible assumption) | assumption); obtain ⟨ad260, e260, hx260_0⟩ := Kd.at_string HR0.out x6_1 p260 q260; cases e260; replace hx260_0 := (HB.out.cell (World.block_lt_of_cell? w _ hx260_0)).trans hx260_0; replace p260 := eq_true p260; replace q260 := eq_true q260; have p261 : 0 ≤ (x6_1 : Int) := of_decide_eq_true (by first | (with_reducible assumption) | assumption); have q261 : x6_1 < (l0.length : Int) := of_decide_eq_true (by first | (with_reducible assumption) | assumption); obtain ⟨ad261, e261, hx261_0⟩ := Kd.at_string HR0.out x6_1 p261 q261; obtain rfl : ad260 = ad261 := (by injection e261); replace hx261_0 := (HB.out.cell (World.block_lt_of_cell? w _ hx261_0)).trans hx261_0; replace p261 := eq_true p261; replace q261 := eq_true q261) | (go_at_call 13; (with_reducible refine (lexer_Quote.calls kj3 (rdOf ByteArray.empty l0 x6_1) t262 _ A23.out).mono ?_); rintro e w26 ⟨rfl, hb⟩; have n0_ := Aside0.mk (Kd.R_below (by (with_reducible repeat (first | apply Kd.R_alloc | apply Kd.R_drewN | apply Kd.R_drew)); exact HO259.out) hb); have n1_ := Aside0.mk (below_step (by repeat (first | (with_reducible first | exact HB.out | apply below_alloc | apply pw_below_drewN | apply below_drew1) | exact HB.out)) hb); clear HO259; clear HB; have HO259 := n0_; have HB := n1_; clear n0_ n1_; (try clear hb); (try clear hb2); (try clear hk); (try clear hi))); try go_wp2_with (first | ((with_reducible refine gate_builtin (b := .append) (xs := #[.tmp 27, .tmp 30]) rfl ?_); (try (refine gate_guard (by rfl) ?_; dsimp only)); at_builtin; refine Kd.R_append (Kd.int .i64) (w0 := w) w.heap.size rfl (.tmp 27) (.tmp 30) 31 3 (.int .i64 0) 8 rfl Tryd.underlying31 info3 rfl (by decide) (by omega) u5 x5_1 (x4_1.size : Int) [.int .i64 (x4_1.size : Int)] (fun _ => True) (fun _ => False) rfl rfl ?aP (fun _ hk => hk.elim) ?aF ?aO ?aB ?aS ?aL ?_; (case aP => exact rfl); (case aB => exact (by repeat (first | (with_reducible first | exact HB.out | apply below_alloc | apply pw_below_drewN | apply below_drew1) | exact HB.out))); (case aF => exact (fun _ _ => trivial)); (case aO => exact (by (with_reducible repeat (first | apply Kd.R_alloc | apply Kd.R_drewN | apply Kd.R_drew)); exact HO_5.out)); (case aS => exact (below_size (by repeat (first | (with_reducible first | exact HB.out | apply below_alloc | apply pw_below_drewN | apply below_drew1) | exact HB.out)))); (case aL => have := LMc18.out; omega); intro v258 w25 ho hb hg hat; rw [← Ny257.out] at ho; have n0_ := Aside0.mk (hb); have n1_ := Aside0.mk (ho); clear HB; clear HO_5; have HB := n0_; have HO259 := n1_; clear n0_ n1_; clear ho hb hg hat; have p260 : 0 ≤ (x6_1 : Int) := of_decide_eq_true (by first | (with_reducible assumption) | assumption); have q260 : x6_1 < (l0.length : Int) := of_decide_eq_true (by first | (with_reducible assumption) | assumption); obtain ⟨ad260, e260, hx260_0⟩ := Kd.at_string HR0.out x6_1 p260 q260; cases e260; replace hx260_0 := (HB.out.cell (World.block_lt_of_cell? w _ hx260_0)).trans hx260_0; replace p260 := eq_true p260; replace q260 := eq_true q260; have p261 : 0 ≤ (x6_1 : Int) := of_decide_eq_true (by first | (with_reducible assumption) | assumption); have q261 : x6_1 < (l0.length : Int) := of_decide_eq_true (by first | (with_reducible assumption) | assumption); obtain ⟨ad261, e261, hx261_0⟩ := Kd.at_string HR0.out x6_1 p261 q261; obtain rfl : ad260 = ad261 := (by injection e261); replace hx261_0 := (HB.out.cell (World.block_lt_of_cell? w _ hx261_0)).trans hx261_0; replace p261 := eq_true p261; replace q261 := eq_true q261) | (go_at_call 13; (with_reducible refine (lexer_Quote.calls kj3 (rdOf ByteArray.empty l0 x6_1) t262 _ A23.out).mono ?_); rintro e w26 ⟨rfl, hb⟩; have n0_ := Aside0.mk (Kd.R_below (by (with_reducible repeat (first | apply Kd.R_alloc | apply Kd.R_drewN | apply Kd.R_drew)); exact HO259.out) hb); have n1_ := Aside0.mk (below_step (by repeat (first | (with_reducible first | exact HB.out | apply below_alloc | apply pw_below_drewN | apply below_drew1) | exact HB.out)) hb); clear HO259; clear HB; have HO259 := n0_; have HB := n1_; clear n0_ n1_; (try clear hb); (try clear hb2); (try clear hk); (try clear hi))))
                          go_roundg kj3
                          case measure => have := HK1.out; have := HJ3.out; omega
                          case rel => exact ⟨(x4_1 ++ t262), (y257), (wrap64 (x6_1 + 1)), (by first | rfl | (simp; done) | (simp [*]; done)), (by first | rfl | (simp; done) | (simp [*]; done)), H', ⟨by have := HK1.out; have := HJ3.out; omega⟩, ⟨by (with_reducible repeat (first | apply Kd.R_alloc | apply Kd.R_drewN | apply Kd.R_drew)); exact HO259.out⟩, ⟨by repeat (first | (with_reducible first | exact HB.out | apply below_alloc | apply pw_below_drewN | apply below_drew1) | exact HB.out)⟩⟩
                      · rw [if_neg c24] at H
                        exact absurd H (by simp)
                  · rw [if_neg c20] at H
                    exact absurd H (by simp)
                · rw [if_neg c19] at H
                  exact absurd H (by simp)
              · rw [if_neg c18] at H
                exact absurd H (by simp)
          · replace c6 := Bool.eq_false_iff.mpr c6
            subst c6
            have H1 : ((lexer_Split.f kj3 x4_1).bind fun bt263 => (if (x4_1.size : Int) > 1024 then (if t250 = true then (if bt263.2.1 = 231 then (if (bt263.1.length : Int) = 0 then (some (bt263.2.2 == 0)) else (some false)) else (some false)) else (some false)) else (if bt263.2.1 = 0 then (verbatimlaw17_LexerQuotes.j2 kj3 l0 t250 x5_1 bt263.1 ((bt263.1.length : Int) != (l0.length : Int))) else (verbatimlaw17_LexerQuotes.j2 kj3 l0 t250 x5_1 bt263.1 true)))) = some r := by rw [if_neg (show ¬ (false = true) by decide)] at H; exact H
            clear H
            have H := H1
            clear H1
            replace H := Option.bind_eq_some_iff.mp H
            obtain ⟨⟨t263, t264, t265⟩, A270, H⟩ := H
            replace H : (if (x4_1.size : Int) > 1024 then (if t250 = true then (if t264 = 231 then (if (t263.length : Int) = 0 then (some (t265 == 0)) else (some false)) else (some false)) else (some false)) else (if t264 = 0 then (verbatimlaw17_LexerQuotes.j2 kj3 l0 t250 x5_1 t263 ((t263.length : Int) != (l0.length : Int))) else (verbatimlaw17_LexerQuotes.j2 kj3 l0 t250 x5_1 t263 true))) = some r := H
            have A27 := Aside0.mk A270
            clear A270
            by_cases c28 : (x4_1.size : Int) > 1024
            · rw [if_pos c28] at H
              have c28b0 : decide (1024 < (x4_1.size : Int)) = true := decide_eq_true c28
              have c28b1 : decide (1024 < x4_1.size) = true := decide_eq_true (by omega)
              clear c28
              by_cases c29 : t250 = true
              · subst c29
                have H1 : (if t264 = 231 then (if (t263.length : Int) = 0 then (some (t265 == 0)) else (some false)) else (some false)) = some r := by rw [if_pos rfl] at H; exact H
                clear H
                have H := H1
                clear H1
                by_cases c30 : t264 = 231
                · rw [if_pos c30] at H
                  have c30b0 : (t264 == 231) = true := beq_iff_eq.mpr c30
                  have c30b1 : (t264 != 231) = false := bne_eq_false_iff_eq.mpr c30
                  clear c30
                  by_cases c31 : (t263.length : Int) = 0
                  · rw [if_pos c31] at H
                    have c31b0 : ((t263.length : Int) == 0) = true := beq_iff_eq.mpr c31
                    have c31b1 : ((t263.length : Int) != 0) = false := bne_eq_false_iff_eq.mpr c31
                    clear c31
                    as_aux_lemma =>
                      obtain rfl := Option.some.inj H
                      go_wp2_with (first | (go_at_call 10; (with_reducible refine (lexer_Split.calls kj3 x4_1 t263 t264 t265 _ A27.out).mono ?_); rintro e w32 ⟨v266, rfl, ho0, hb⟩; have n0_ := Aside0.mk (Kd.R_below (by (with_reducible repeat (first | apply Kd.R_alloc | apply Kd.R_drewN | apply Kd.R_drew)); exact HO_5.out) hb); have n1_ := Aside0.mk (Kd.R_lower ho0 (below_size (by repeat (first | (with_reducible first | exact HB.out | apply below_alloc | apply pw_below_drewN | apply below_drew1) | exact HB.out)))); have n2_ := Aside0.mk (below_step (by repeat (first | (with_reducible first | exact HB.out | apply below_alloc | apply pw_below_drewN | apply below_drew1) | exact HB.out)) hb); clear HO_5; clear HB; have HO_5 := n0_; have HO267 := n1_; have HB := n2_; clear n0_ n1_ n2_; (try clear hb); (try clear hb2); (try clear hk); (try clear hi); (try clear ho0); obtain ⟨Ao33, co33, eo33⟩ := Kd.R_slice HO267.out; subst eo33))
                      repeat (go_quiet (first | (go_at_call 10; (with_reducible refine (lexer_Split.calls kj3 x4_1 t263 t264 t265 _ A27.out).mono ?_); rintro e w32 ⟨v266, rfl, ho0, hb⟩; have n0_ := Aside0.mk (Kd.R_below (by (with_reducible repeat (first | apply Kd.R_alloc | apply Kd.R_drewN | apply Kd.R_drew)); exact HO_5.out) hb); have n1_ := Aside0.mk (Kd.R_lower ho0 (below_size (by repeat (first | (with_reducible first | exact HB.out | apply below_alloc | apply pw_below_drewN | apply below_drew1) | exact HB.out)))); have n2_ := Aside0.mk (below_step (by repeat (first | (with_reducible first | exact HB.out | apply below_alloc | apply pw_below_drewN | apply below_drew1) | exact HB.out)) hb); clear HO_5; clear HB; have HO_5 := n0_; have HO267 := n1_; have HB := n2_; clear n0_ n1_ n2_; (try clear hb); (try clear hb2); (try clear hk); (try clear hi); (try clear ho0); obtain ⟨Ao33, co33, eo33⟩ := Kd.R_slice HO267.out; subst eo33)); try go_wp2_with (first | (go_at_call 10; (with_reducible refine (lexer_Split.calls kj3 x4_1 t263 t264 t265 _ A27.out).mono ?_); rintro e w32 ⟨v266, rfl, ho0, hb⟩; have n0_ := Aside0.mk (Kd.R_below (by (with_reducible repeat (first | apply Kd.R_alloc | apply Kd.R_drewN | apply Kd.R_drew)); exact HO_5.out) hb); have n1_ := Aside0.mk (Kd.R_lower ho0 (below_size (by repeat (first | (with_reducible first | exact HB.out | apply below_alloc | apply pw_below_drewN | apply below_drew1) | exact HB.out)))); have n2_ := Aside0.mk (below_step (by repeat (first | (with_reducible first | exact HB.out | apply below_alloc | apply pw_below_drewN | apply below_drew1) | exact HB.out)) hb); clear HO_5; clear HB; have HO_5 := n0_; have HO267 := n1_; have HB := n2_; clear n0_ n1_ n2_; (try clear hb); (try clear hb2); (try clear hk); (try clear hi); (try clear ho0); obtain ⟨Ao33, co33, eo33⟩ := Kd.R_slice HO267.out; subst eo33)))
                      go_ret
                      exact ⟨by first | rfl | (simp [errW_none, errW_some] <;> rfl) | (simp [*, errW_none, errW_some] <;> rfl), by repeat (first | (with_reducible first | exact HB.out | apply below_alloc | apply pw_below_drewN | apply below_drew1) | exact HB.out)⟩
                  · rw [if_neg c31] at H
                    have c31b0 : ((t263.length : Int) == 0) = false := beq_eq_false_iff_ne.mpr c31
                    have c31b1 : ((t263.length : Int) != 0) = true := bne_iff_ne.mpr c31
                    have c31b2 : ¬ (t263 = []) := fun h_ => c31 (by rw [h_]; rfl)
                    as_aux_lemma =>
                      obtain rfl := Option.some.inj H
                      go_wp2_with (first | (go_at_call 10; (with_reducible refine (lexer_Split.calls kj3 x4_1 t263 t264 t265 _ A27.out).mono ?_); rintro e w34 ⟨v266, rfl, ho0, hb⟩; have n0_ := Aside0.mk (Kd.R_below (by (with_reducible repeat (first | apply Kd.R_alloc | apply Kd.R_drewN | apply Kd.R_drew)); exact HO_5.out) hb); have n1_ := Aside0.mk (Kd.R_lower ho0 (below_size (by repeat (first | (with_reducible first | exact HB.out | apply below_alloc | apply pw_below_drewN | apply below_drew1) | exact HB.out)))); have n2_ := Aside0.mk (below_step (by repeat (first | (with_reducible first | exact HB.out | apply below_alloc | apply pw_below_drewN | apply below_drew1) | exact HB.out)) hb); clear HO_5; clear HB; have HO_5 := n0_; have HO267 := n1_; have HB := n2_; clear n0_ n1_ n2_; (try clear hb); (try clear hb2); (try clear hk); (try clear hi); (try clear ho0); obtain ⟨Ao35, co35, eo35⟩ := Kd.R_slice HO267.out; subst eo35))
                      repeat (go_quiet (first | (go_at_call 10; (with_reducible refine (lexer_Split.calls kj3 x4_1 t263 t264 t265 _ A27.out).mono ?_); rintro e w34 ⟨v266, rfl, ho0, hb⟩; have n0_ := Aside0.mk (Kd.R_below (by (with_reducible repeat (first | apply Kd.R_alloc | apply Kd.R_drewN | apply Kd.R_drew)); exact HO_5.out) hb); have n1_ := Aside0.mk (Kd.R_lower ho0 (below_size (by repeat (first | (with_reducible first | exact HB.out | apply below_alloc | apply pw_below_drewN | apply below_drew1) | exact HB.out)))); have n2_ := Aside0.mk (below_step (by repeat (first | (with_reducible first | exact HB.out | apply below_alloc | apply pw_below_drewN | apply below_drew1) | exact HB.out)) hb); clear HO_5; clear HB; have HO_5 := n0_; have HO267 := n1_; have HB := n2_; clear n0_ n1_ n2_; (try clear hb); (try clear hb2); (try clear hk); (try clear hi); (try clear ho0); obtain ⟨Ao35, co35, eo35⟩ := Kd.R_slice HO267.out; subst eo35)); try go_wp2_with (first | (go_at_call 10; (with_reducible refine (lexer_Split.calls kj3 x4_1 t263 t264 t265 _ A27.out).mono ?_); rintro e w34 ⟨v266, rfl, ho0, hb⟩; have n0_ := Aside0.mk (Kd.R_below (by (with_reducible repeat (first | apply Kd.R_alloc | apply Kd.R_drewN | apply Kd.R_drew)); exact HO_5.out) hb); have n1_ := Aside0.mk (Kd.R_lower ho0 (below_size (by repeat (first | (with_reducible first | exact HB.out | apply below_alloc | apply pw_below_drewN | apply below_drew1) | exact HB.out)))); have n2_ := Aside0.mk (below_step (by repeat (first | (with_reducible first | exact HB.out | apply below_alloc | apply pw_below_drewN | apply below_drew1) | exact HB.out)) hb); clear HO_5; clear HB; have HO_5 := n0_; have HO267 := n1_; have HB := n2_; clear n0_ n1_ n2_; (try clear hb); (try clear hb2); (try clear hk); (try clear hi); (try clear ho0); obtain ⟨Ao35, co35, eo35⟩ := Kd.R_slice HO267.out; subst eo35)))
                      go_ret
                      exact ⟨by first | rfl | (simp [errW_none, errW_some] <;> rfl) | (simp [*, errW_none, errW_some] <;> rfl), by repeat (first | (with_reducible first | exact HB.out | apply below_alloc | apply pw_below_drewN | apply below_drew1) | exact HB.out)⟩
                · rw [if_neg c30] at H
                  have c30b0 : (t264 == 231) = false := beq_eq_false_iff_ne.mpr c30
                  have c30b1 : (t264 != 231) = true := bne_iff_ne.mpr c30
                  as_aux_lemma =>
                    obtain rfl := Option.some.inj H
                    go_wp2_with (first | (go_at_call 10; (with_reducible refine (lexer_Split.calls kj3 x4_1 t263 t264 t265 _ A27.out).mono ?_); rintro e w36 ⟨v266, rfl, ho0, hb⟩; have n0_ := Aside0.mk (Kd.R_below (by (with_reducible repeat (first | apply Kd.R_alloc | apply Kd.R_drewN | apply Kd.R_drew)); exact HO_5.out) hb); have n1_ := Aside0.mk (Kd.R_lower ho0 (below_size (by repeat (first | (with_reducible first | exact HB.out | apply below_alloc | apply pw_below_drewN | apply below_drew1) | exact HB.out)))); have n2_ := Aside0.mk (below_step (by repeat (first | (with_reducible first | exact HB.out | apply below_alloc | apply pw_below_drewN | apply below_drew1) | exact HB.out)) hb); clear HO_5; clear HB; have HO_5 := n0_; have HO267 := n1_; have HB := n2_; clear n0_ n1_ n2_; (try clear hb); (try clear hb2); (try clear hk); (try clear hi); (try clear ho0)))
                    repeat (go_quiet (first | (go_at_call 10; (with_reducible refine (lexer_Split.calls kj3 x4_1 t263 t264 t265 _ A27.out).mono ?_); rintro e w36 ⟨v266, rfl, ho0, hb⟩; have n0_ := Aside0.mk (Kd.R_below (by (with_reducible repeat (first | apply Kd.R_alloc | apply Kd.R_drewN | apply Kd.R_drew)); exact HO_5.out) hb); have n1_ := Aside0.mk (Kd.R_lower ho0 (below_size (by repeat (first | (with_reducible first | exact HB.out | apply below_alloc | apply pw_below_drewN | apply below_drew1) | exact HB.out)))); have n2_ := Aside0.mk (below_step (by repeat (first | (with_reducible first | exact HB.out | apply below_alloc | apply pw_below_drewN | apply below_drew1) | exact HB.out)) hb); clear HO_5; clear HB; have HO_5 := n0_; have HO267 := n1_; have HB := n2_; clear n0_ n1_ n2_; (try clear hb); (try clear hb2); (try clear hk); (try clear hi); (try clear ho0))); try go_wp2_with (first | (go_at_call 10; (with_reducible refine (lexer_Split.calls kj3 x4_1 t263 t264 t265 _ A27.out).mono ?_); rintro e w36 ⟨v266, rfl, ho0, hb⟩; have n0_ := Aside0.mk (Kd.R_below (by (with_reducible repeat (first | apply Kd.R_alloc | apply Kd.R_drewN | apply Kd.R_drew)); exact HO_5.out) hb); have n1_ := Aside0.mk (Kd.R_lower ho0 (below_size (by repeat (first | (with_reducible first | exact HB.out | apply below_alloc | apply pw_below_drewN | apply below_drew1) | exact HB.out)))); have n2_ := Aside0.mk (below_step (by repeat (first | (with_reducible first | exact HB.out | apply below_alloc | apply pw_below_drewN | apply below_drew1) | exact HB.out)) hb); clear HO_5; clear HB; have HO_5 := n0_; have HO267 := n1_; have HB := n2_; clear n0_ n1_ n2_; (try clear hb); (try clear hb2); (try clear hk); (try clear hi); (try clear ho0))))
                    go_ret
                    exact ⟨by first | rfl | (simp [errW_none, errW_some] <;> rfl) | (simp [*, errW_none, errW_some] <;> rfl), by repeat (first | (with_reducible first | exact HB.out | apply below_alloc | apply pw_below_drewN | apply below_drew1) | exact HB.out)⟩
              · replace c29 := Bool.eq_false_iff.mpr c29
                subst c29
                have H1 : (some false) = some r := by rw [if_neg (show ¬ (false = true) by decide)] at H; exact H
                clear H
                have H := H1
                clear H1
                as_aux_lemma =>
                  obtain rfl := Option.some.inj H
                  go_wp2_with (first | (go_at_call 10; (with_reducible refine (lexer_Split.calls kj3 x4_1 t263 t264 t265 _ A27.out).mono ?_); rintro e w37 ⟨v266, rfl, ho0, hb⟩; have n0_ := Aside0.mk (Kd.R_below (by (with_reducible repeat (first | apply Kd.R_alloc | apply Kd.R_drewN | apply Kd.R_drew)); exact HO_5.out) hb); have n1_ := Aside0.mk (Kd.R_lower ho0 (below_size (by repeat (first | (with_reducible first | exact HB.out | apply below_alloc | apply pw_below_drewN | apply below_drew1) | exact HB.out)))); have n2_ := Aside0.mk (below_step (by repeat (first | (with_reducible first | exact HB.out | apply below_alloc | apply pw_below_drewN | apply below_drew1) | exact HB.out)) hb); clear HO_5; clear HB; have HO_5 := n0_; have HO267 := n1_; have HB := n2_; clear n0_ n1_ n2_; (try clear hb); (try clear hb2); (try clear hk); (try clear hi); (try clear ho0)))
                  repeat (go_quiet (first | (go_at_call 10; (with_reducible refine (lexer_Split.calls kj3 x4_1 t263 t264 t265 _ A27.out).mono ?_); rintro e w37 ⟨v266, rfl, ho0, hb⟩; have n0_ := Aside0.mk (Kd.R_below (by (with_reducible repeat (first | apply Kd.R_alloc | apply Kd.R_drewN | apply Kd.R_drew)); exact HO_5.out) hb); have n1_ := Aside0.mk (Kd.R_lower ho0 (below_size (by repeat (first | (with_reducible first | exact HB.out | apply below_alloc | apply pw_below_drewN | apply below_drew1) | exact HB.out)))); have n2_ := Aside0.mk (below_step (by repeat (first | (with_reducible first | exact HB.out | apply below_alloc | apply pw_below_drewN | apply below_drew1) | exact HB.out)) hb); clear HO_5; clear HB; have HO_5 := n0_; have HO267 := n1_; have HB := n2_; clear n0_ n1_ n2_; (try clear hb); (try clear hb2); (try clear hk); (try clear hi); (try clear ho0))); try go_wp2_with (first | (go_at_call 10; (with_reducible refine (lexer_Split.calls kj3 x4_1 t263 t264 t265 _ A27.out).mono ?_); rintro e w37 ⟨v266, rfl, ho0, hb⟩; have n0_ := Aside0.mk (Kd.R_below (by (with_reducible repeat (first | apply Kd.R_alloc | apply Kd.R_drewN | apply Kd.R_drew)); exact HO_5.out) hb); have n1_ := Aside0.mk (Kd.R_lower ho0 (below_size (by repeat (first | (with_reducible first | exact HB.out | apply below_alloc | apply pw_below_drewN | apply below_drew1) | exact HB.out)))); have n2_ := Aside0.mk (below_step (by repeat (first | (with_reducible first | exact HB.out | apply below_alloc | apply pw_below_drewN | apply below_drew1) | exact HB.out)) hb); clear HO_5; clear HB; have HO_5 := n0_; have HO267 := n1_; have HB := n2_; clear n0_ n1_ n2_; (try clear hb); (try clear hb2); (try clear hk); (try clear hi); (try clear ho0))))
                  go_ret
                  exact ⟨by first | rfl | (simp [errW_none, errW_some] <;> rfl) | (simp [*, errW_none, errW_some] <;> rfl), by repeat (first | (with_reducible first | exact HB.out | apply below_alloc | apply pw_below_drewN | apply below_drew1) | exact HB.out)⟩
            · rw [if_neg c28] at H
              have c28b0 : decide (1024 < (x4_1.size : Int)) = false := decide_eq_false c28
              have c28b1 : decide (1024 < x4_1.size) = false := decide_eq_false (by omega)
              clear c28
              have HC38 := Aside0.mk H
              clear H
              go_upto_region 16 with (first | (go_at_call 10; (with_reducible refine (lexer_Split.calls kj3 x4_1 t263 t264 t265 _ A27.out).mono ?_); rintro e w39 ⟨v266, rfl, ho0, hb⟩; have n0_ := Aside0.mk (Kd.R_below (by (with_reducible repeat (first | apply Kd.R_alloc | apply Kd.R_drewN | apply Kd.R_drew)); exact HO_5.out) hb); have n1_ := Aside0.mk (Kd.R_lower ho0 (below_size (by repeat (first | (with_reducible first | exact HB.out | apply below_alloc | apply pw_below_drewN | apply below_drew1) | exact HB.out)))); have n2_ := Aside0.mk (below_step (by repeat (first | (with_reducible first | exact HB.out | apply below_alloc | apply pw_below_drewN | apply below_drew1) | exact HB.out)) hb); clear HO_5; clear HB; have HO_5 := n0_; have HO267 := n1_; have HB := n2_; clear n0_ n1_ n2_; (try clear hb); (try clear hb2); (try clear hk); (try clear hi); (try clear ho0)))
              repeat (go_quiet (first | (go_at_call 10; (with_reducible refine (lexer_Split.calls kj3 x4_1 t263 t264 t265 _ A27.out).mono ?_); rintro e w39 ⟨v266, rfl, ho0, hb⟩; have n0_ := Aside0.mk (Kd.R_below (by (with_reducible repeat (first | apply Kd.R_alloc | apply Kd.R_drewN | apply Kd.R_drew)); exact HO_5.out) hb); have n1_ := Aside0.mk (Kd.R_lower ho0 (below_size (by repeat (first | (with_reducible first | exact HB.out | apply below_alloc | apply pw_below_drewN | apply below_drew1) | exact HB.out)))); have n2_ := Aside0.mk (below_step (by repeat (first | (with_reducible first | exact HB.out | apply below_alloc | apply pw_below_drewN | apply below_drew1) | exact HB.out)) hb); clear HO_5; clear HB; have HO_5 := n0_; have HO267 := n1_; have HB := n2_; clear n0_ n1_ n2_; (try clear hb); (try clear hb2); (try clear hk); (try clear hi); (try clear ho0))); go_upto_region 16 with (first | (go_at_call 10; (with_reducible refine (lexer_Split.calls kj3 x4_1 t263 t264 t265 _ A27.out).mono ?_); rintro e w39 ⟨v266, rfl, ho0, hb⟩; have n0_ := Aside0.mk (Kd.R_below (by (with_reducible repeat (first | apply Kd.R_alloc | apply Kd.R_drewN | apply Kd.R_drew)); exact HO_5.out) hb); have n1_ := Aside0.mk (Kd.R_lower ho0 (below_size (by repeat (first | (with_reducible first | exact HB.out | apply below_alloc | apply pw_below_drewN | apply below_drew1) | exact HB.out)))); have n2_ := Aside0.mk (below_step (by repeat (first | (with_reducible first | exact HB.out | apply below_alloc | apply pw_below_drewN | apply below_drew1) | exact HB.out)) hb); clear HO_5; clear HB; have HO_5 := n0_; have HO267 := n1_; have HB := n2_; clear n0_ n1_ n2_; (try clear hb); (try clear hb2); (try clear hk); (try clear hi); (try clear ho0))))
              (try simp only [Act.put, List.setIfInBounds_toArray, List.set_cons_zero, List.set_cons_succ])
              go_cut [77] (fun v77 wc => ∃ (kq : Nat) (x77_37 : Bool), v77 = .bool x77_37 ∧ Aside0 (verbatimlaw17_LexerQuotes.j2 kq l0 t250 x5_1 t263 x77_37 = some r) ∧ Aside0 (kq ≤ kj3) ∧ Aside0 (Kd.R (Kd.int .i64) 3 wc w.heap.size (fun _ => True) u5 x5_1) ∧ Aside0 (Kd.R k33 33 wc w.heap.size (fun _ => True) v266 t263) ∧ Aside0 (Below w.heap.size w wc))
              case first =>
                have H := HC38.out
                clear HC38
                by_cases c40 : t264 = 0
                · rw [if_pos c40] at H
                  have c40b0 : (t264 == 0) = true := beq_iff_eq.mpr c40
                  have c40b1 : (t264 != 0) = false := bne_eq_false_iff_eq.mpr c40
                  clear c40
                  (first | rw [c40b0] | (simp only [i64_w, i32_w]; rw [c40b0]) | skip)
                  as_aux_lemma =>
                    have H' := Aside0.mk H
                    clear H
                    obtain ⟨Ao41, co41, eo41⟩ := Kd.R_slice HO267.out
                    subst eo41
                    go_wp2
                    repeat (go_quiet (fail); try go_wp2)
                    go_meet
                    case rel => exact ⟨_, (((t263.length : Int) != (l0.length : Int))), (by first | rfl | (simp; done) | (simp [*]; done)), H', ⟨by have := HK1.out; have := HJ3.out; first | omega | exact Nat.le_refl _⟩, ⟨by (with_reducible repeat (first | apply Kd.R_alloc | apply Kd.R_drewN | apply Kd.R_drew)); exact HO_5.out⟩, ⟨by (with_reducible repeat (first | apply Kd.R_alloc | apply Kd.R_drewN | apply Kd.R_drew)); exact HO267.out⟩, ⟨by repeat (first | (with_reducible first | exact HB.out | apply below_alloc | apply pw_below_drewN | apply below_drew1) | exact HB.out)⟩⟩
                · rw [if_neg c40] at H
                  have c40b0 : (t264 == 0) = false := beq_eq_false_iff_ne.mpr c40
                  have c40b1 : (t264 != 0) = true := bne_iff_ne.mpr c40
                  (first | rw [c40b0] | (simp only [i64_w, i32_w]; rw [c40b0]) | skip)
                  as_aux_lemma =>
                    have H' := Aside0.mk H
                    clear H
                    go_wp2
                    repeat (go_quiet (fail); try go_wp2)
                    go_meet
                    case rel => exact ⟨_, (true), (by first | rfl | (simp; done) | (simp [*]; done)), H', ⟨by have := HK1.out; have := HJ3.out; first | omega | exact Nat.le_refl _⟩, ⟨by (with_reducible repeat (first | apply Kd.R_alloc | apply Kd.R_drewN | apply Kd.R_drew)); exact HO_5.out⟩, ⟨by (with_reducible repeat (first | apply Kd.R_alloc | apply Kd.R_drewN | apply Kd.R_drew)); exact HO267.out⟩, ⟨by repeat (first | (with_reducible first | exact HB.out | apply below_alloc | apply pw_below_drewN | apply below_drew1) | exact HB.out)⟩⟩
              case rest =>
                clear HC38
                try clear c1
                try clear c2
                try clear p2
                try clear q2
                try clear hx2
                try clear c3
                try clear c4
                try clear c5
                try clear c5b0
                try clear c6
                try clear p6
                try clear c7
                try clear c7b0
                try clear c8
                try clear c8b0
                try clear c8b1
                try clear c8b2
                try clear c9
                try clear c10
                try clear c10b0
                try clear c11
                try clear c11b0
                try clear c12
                try clear c12b0
                try clear c12b1
                try clear c15
                try clear c15b0
                try clear c15b1
                try clear c15b2
                try clear c18
                try clear c19
                try clear c19b0
                try clear c20
                try clear c20b0
                try clear c21
                try clear c21b0
                try clear c21b1
                try clear c24
                try clear c24b0
                try clear c24b1
                try clear c24b2
                try clear p25
                try clear q25
                try clear hx25
                try clear p26
                try clear q26
                try clear hx26
                try clear c28
                try clear c28b0
                try clear c28b1
                try clear c29
                try clear c30
                try clear c30b0
                try clear c30b1
                try clear c31
                try clear c31b0
                try clear c31b1
                try clear c31b2
                try clear c40
                try clear c40b0
                try clear c40b1
                try clear hx254_0
                try clear hx255_0
                try clear hx260_0
                try clear hx261_0
                try clear p2
                try clear p254
                try clear p255
                try clear p260
                try clear p261
                try clear q254
                try clear q255
                try clear q260
                try clear q261
                obtain ⟨kq, x77_37, rfl, HA, HJ37, HO_5, HO_7, HB⟩ := hcut
                cases kq with
                | zero => exact absurd HA.out (by simp [verbatimlaw17_LexerQuotes.j2])
                | succ kj37 =>
                  have H := HA.out
                  clear HA
                  simp only [verbatimlaw17_LexerQuotes.j2] at H
                  by_cases c42 : x77_37 = true
                  · subst c42
                    have H1 : (some false) = some r := by rw [if_pos rfl] at H; exact H
                    clear H
                    have H := H1
                    clear H1
                    as_aux_lemma =>
                      obtain rfl := Option.some.inj H
                      go_wp2
                      repeat (go_quiet (fail); try go_wp2)
                      go_ret
                      exact ⟨by first | rfl | (simp [errW_none, errW_some] <;> rfl) | (simp [*, errW_none, errW_some] <;> rfl), by repeat (first | (with_reducible first | exact HB.out | apply below_alloc | apply pw_below_drewN | apply below_drew1) | exact HB.out)⟩
                  · replace c42 := Bool.eq_false_iff.mpr c42
                    subst c42
                    have H1 : (verbatimlaw17_LexerQuotes.l1 kj37 l0 t250 x5_1 t263 0) = some r := by rw [if_neg (show ¬ (false = true) by decide)] at H; exact H
                    clear H
                    have H := H1
                    clear H1
                    have H' := Aside0.mk H
                    clear H
                    go_wp2
                    repeat (go_quiet (fail); try go_wp2)
                    go_loopg [10] kj37 (fun kq v10 w' => ∃ (x10_4 : Int), v10 = .int .i64 x10_4 ∧ Aside0 (verbatimlaw17_LexerQuotes.l1 kq l0 t250 x5_1 t263 x10_4 = some r) ∧ Aside0 (kq ≤ kj37) ∧ Aside0 (Kd.R (Kd.int .i64) 3 w' w.heap.size (fun _ => True) u5 x5_1) ∧ Aside0 (Kd.R k33 33 w' w.heap.size (fun _ => True) v266 t263) ∧ Aside0 (Below w.heap.size w w'))
                    case atStart => exact ⟨(0), (by first | rfl | (simp; done) | (simp [*]; done)), H', ⟨Nat.le_refl _⟩, ⟨by (with_reducible repeat (first | apply Kd.R_alloc | apply Kd.R_drewN | apply Kd.R_drew)); exact HO_5.out⟩, ⟨by (with_reducible repeat (first | apply Kd.R_alloc | apply Kd.R_drewN | apply Kd.R_drew)); exact HO_7.out⟩, ⟨by repeat (first | (with_reducible first | exact HB.out | apply below_alloc | apply pw_below_drewN | apply below_drew1) | exact HB.out)⟩⟩
                    case round =>
                      clear H'
                      try clear c1
                      try clear c2
                      try clear p2
                      try clear q2
                      try clear hx2
                      try clear c3
                      try clear c4
                      try clear c5
                      try clear c5b0
                      try clear c6
                      try clear p6
                      try clear c7
                      try clear c7b0
                      try clear c8
                      try clear c8b0
                      try clear c8b1
                      try clear c8b2
                      try clear c9
                      try clear c10
                      try clear c10b0
                      try clear c11
                      try clear c11b0
                      try clear c12
                      try clear c12b0
                      try clear c12b1
                      try clear c15
                      try clear c15b0
                      try clear c15b1
                      try clear c15b2
                      try clear c18
                      try clear c19
                      try clear c19b0
                      try clear c20
                      try clear c20b0
                      try clear c21
                      try clear c21b0
                      try clear c21b1
                      try clear c24
                      try clear c24b0
                      try clear c24b1
                      try clear c24b2
                      try clear p25
                      try clear q25
                      try clear hx25
                      try clear p26
                      try clear q26
                      try clear hx26
                      try clear c28
                      try clear c28b0
                      try clear c28b1
                      try clear c29
                      try clear c30
                      try clear c30b0
                      try clear c30b1
                      try clear c31
                      try clear c31b0
                      try clear c31b1
                      try clear c31b2
                      try clear c40
                      try clear c40b0
                      try clear c40b1
                      try clear c42
                      try clear hx254_0
                      try clear hx255_0
                      try clear hx260_0
                      try clear hx261_0
                      try clear p2
                      try clear p25
                      try clear p254
                      try clear p255
                      try clear p26
                      try clear p260
                      try clear p261
                      try clear p6
                      try clear q2
                      try clear q25
                      try clear q254
                      try clear q255
                      try clear q26
                      try clear q260
                      try clear q261
                      obtain ⟨x10_4, rfl, HA, HK4, HO_5, HO_7, HB⟩ := hrel
                      cases gk with
                      | zero => exact absurd HA.out (by simp [verbatimlaw17_LexerQuotes.l1])
                      | succ k4 =>
                        have H := HA.out
                        clear HA
                        simp only [verbatimlaw17_LexerQuotes.l1] at H
                        by_cases c43 : x10_4 < (l0.length : Int)
                        · rw [if_pos c43] at H
                          have c43b0 : decide (x10_4 < (l0.length : Int)) = true := decide_eq_true c43
                          clear c43
                          by_cases c44 : 0 ≤ x10_4
                          · rw [if_pos c44] at H
                            have c44b0 : decide (0 ≤ x10_4) = true := decide_eq_true c44
                            clear c44
                            by_cases c45 : x10_4 < (t263.length : Int)
                            · rw [if_pos c45] at H
                              have c45b0 : decide (x10_4 < (t263.length : Int)) = true := decide_eq_true c45
                              clear c45
                              by_cases c46 : ((rd_T33 t263 x10_4).f0) = 6
                              · rw [if_pos c46] at H
                                have c46b0 : (((rd_T33 t263 x10_4).f0) == 6) = true := beq_iff_eq.mpr c46
                                have c46b1 : (((rd_T33 t263 x10_4).f0) != 6) = false := bne_eq_false_iff_eq.mpr c46
                                clear c46
                                by_cases c47 : ((rd_T33 t263 x10_4).f2).toList = (rdOf ByteArray.empty l0 x10_4).toList
                                · rw [if_pos c47] at H
                                  have c47b0 : (((rd_T33 t263 x10_4).f2).toList == (rdOf ByteArray.empty l0 x10_4).toList) = true := beq_iff_eq.mpr c47
                                  have c47b1 : (((rd_T33 t263 x10_4).f2).toList != (rdOf ByteArray.empty l0 x10_4).toList) = false := bne_eq_false_iff_eq.mpr c47
                                  clear c47
                                  by_cases c48 : x10_4 < (x5_1.length : Int)
                                  · rw [if_pos c48] at H
                                    have c48b0 : decide (x10_4 < (x5_1.length : Int)) = true := decide_eq_true c48
                                    clear c48
                                    by_cases c49 : ((rd_T33 t263 x10_4).f1) = (rd x5_1 x10_4)
                                    · rw [if_pos c49] at H
                                      have c49b0 : (((rd_T33 t263 x10_4).f1) == (rd x5_1 x10_4)) = true := beq_iff_eq.mpr c49
                                      have c49b1 : (((rd_T33 t263 x10_4).f1) != (rd x5_1 x10_4)) = false := bne_eq_false_iff_eq.mpr c49
                                      clear c49
                                      as_aux_lemma =>
                                        have H' := Aside0.mk H
                                        clear H
                                        obtain ⟨Ao50, co50, eo50⟩ := Kd.R_slice HO_7.out
                                        subst eo50
                                        have p268 : 0 ≤ (x10_4 : Int) := of_decide_eq_true (by first | (with_reducible assumption) | assumption)
                                        have q268 : x10_4 < (t263.length : Int) := of_decide_eq_true (by first | (with_reducible assumption) | assumption)
                                        obtain ⟨ad268, e268, hx268_0, hx268_1, hx268_2⟩ := at_T33 (Kd.R_reads' HO_7.out).2.2 x10_4 p268 q268
                                        cases e268
                                        replace p268 := eq_true p268
                                        replace q268 := eq_true q268
                                        have p269 : 0 ≤ (x10_4 : Int) := of_decide_eq_true (by first | (with_reducible assumption) | assumption)
                                        have q269 : x10_4 < (t263.length : Int) := of_decide_eq_true (by first | (with_reducible assumption) | assumption)
                                        obtain ⟨ad269, e269, hx269_0, hx269_1, hx269_2⟩ := at_T33 (Kd.R_reads' HO_7.out).2.2 x10_4 p269 q269
                                        obtain rfl : ad268 = ad269 := (by injection e269)
                                        replace p269 := eq_true p269
                                        replace q269 := eq_true q269
                                        have p270 : 0 ≤ (x10_4 : Int) := of_decide_eq_true (by first | (with_reducible assumption) | assumption)
                                        have q270 : x10_4 < (l0.length : Int) := of_decide_eq_true (by first | (with_reducible assumption) | assumption)
                                        obtain ⟨ad270, e270, hx270_0⟩ := Kd.at_string HR0.out x10_4 p270 q270
                                        cases e270
                                        replace hx270_0 := (HB.out.cell (World.block_lt_of_cell? w _ hx270_0)).trans hx270_0
                                        replace p270 := eq_true p270
                                        replace q270 := eq_true q270
                                        have p271 : 0 ≤ (x10_4 : Int) := of_decide_eq_true (by first | (with_reducible assumption) | assumption)
                                        have q271 : x10_4 < (t263.length : Int) := of_decide_eq_true (by first | (with_reducible assumption) | assumption)
                                        obtain ⟨ad271, e271, hx271_0, hx271_1, hx271_2⟩ := at_T33 (Kd.R_reads' HO_7.out).2.2 x10_4 p271 q271
                                        obtain rfl : ad268 = ad271 := (by injection e271)
                                        replace p271 := eq_true p271
                                        replace q271 := eq_true q271
                                        obtain ⟨Ao51, co51, eo51⟩ := Kd.R_slice HO_5.out
                                        subst eo51
                                        have p272 : 0 ≤ (x10_4 : Int) := of_decide_eq_true (by first | (with_reducible assumption) | assumption)
                                        have q272 : x10_4 < (x5_1.length : Int) := of_decide_eq_true (by first | (with_reducible assumption) | assumption)
                                        obtain ⟨ad272, e272, hx272_0⟩ := Kd.at_int (Kd.R_reads' HO_5.out).2.2 x10_4 p272 q272
                                        cases e272
                                        replace p272 := eq_true p272
                                        replace q272 := eq_true q272
                                        go_wp2
                                        repeat (go_quiet (fail); try go_wp2)
                                        go_roundg k4
                                        case measure => have := HK1.out; have := HJ3.out; have := HJ37.out; have := HK4.out; omega
                                        case rel => exact ⟨(wrap64 (x10_4 + 1)), (by first | rfl | (simp; done) | (simp [*]; done)), H', ⟨by have := HK1.out; have := HJ3.out; have := HJ37.out; have := HK4.out; omega⟩, ⟨by (with_reducible repeat (first | apply Kd.R_alloc | apply Kd.R_drewN | apply Kd.R_drew)); exact HO_5.out⟩, ⟨by (with_reducible repeat (first | apply Kd.R_alloc | apply Kd.R_drewN | apply Kd.R_drew)); exact HO_7.out⟩, ⟨by repeat (first | (with_reducible first | exact HB.out | apply below_alloc | apply pw_below_drewN | apply below_drew1) | exact HB.out)⟩⟩
                                    · rw [if_neg c49] at H
                                      have c49b0 : (((rd_T33 t263 x10_4).f1) == (rd x5_1 x10_4)) = false := beq_eq_false_iff_ne.mpr c49
                                      have c49b1 : (((rd_T33 t263 x10_4).f1) != (rd x5_1 x10_4)) = true := bne_iff_ne.mpr c49
                                      as_aux_lemma =>
                                        obtain rfl := Option.some.inj H
                                        obtain ⟨Ao52, co52, eo52⟩ := Kd.R_slice HO_7.out
                                        subst eo52
                                        have p268 : 0 ≤ (x10_4 : Int) := of_decide_eq_true (by first | (with_reducible assumption) | assumption)
                                        have q268 : x10_4 < (t263.length : Int) := of_decide_eq_true (by first | (with_reducible assumption) | assumption)
                                        obtain ⟨ad268, e268, hx268_0, hx268_1, hx268_2⟩ := at_T33 (Kd.R_reads' HO_7.out).2.2 x10_4 p268 q268
                                        cases e268
                                        replace p268 := eq_true p268
                                        replace q268 := eq_true q268
                                        have p269 : 0 ≤ (x10_4 : Int) := of_decide_eq_true (by first | (with_reducible assumption) | assumption)
                                        have q269 : x10_4 < (t263.length : Int) := of_decide_eq_true (by first | (with_reducible assumption) | assumption)
                                        obtain ⟨ad269, e269, hx269_0, hx269_1, hx269_2⟩ := at_T33 (Kd.R_reads' HO_7.out).2.2 x10_4 p269 q269
                                        obtain rfl : ad268 = ad269 := (by injection e269)
                                        replace p269 := eq_true p269
                                        replace q269 := eq_true q269
                                        have p270 : 0 ≤ (x10_4 : Int) := of_decide_eq_true (by first | (with_reducible assumption) | assumption)
                                        have q270 : x10_4 < (l0.length : Int) := of_decide_eq_true (by first | (with_reducible assumption) | assumption)
                                        obtain ⟨ad270, e270, hx270_0⟩ := Kd.at_string HR0.out x10_4 p270 q270
                                        cases e270
                                        replace hx270_0 := (HB.out.cell (World.block_lt_of_cell? w _ hx270_0)).trans hx270_0
                                        replace p270 := eq_true p270
                                        replace q270 := eq_true q270
                                        have p271 : 0 ≤ (x10_4 : Int) := of_decide_eq_true (by first | (with_reducible assumption) | assumption)
                                        have q271 : x10_4 < (t263.length : Int) := of_decide_eq_true (by first | (with_reducible assumption) | assumption)
                                        obtain ⟨ad271, e271, hx271_0, hx271_1, hx271_2⟩ := at_T33 (Kd.R_reads' HO_7.out).2.2 x10_4 p271 q271
                                        obtain rfl : ad268 = ad271 := (by injection e271)
                                        replace p271 := eq_true p271
                                        replace q271 := eq_true q271
                                        obtain ⟨Ao53, co53, eo53⟩ := Kd.R_slice HO_5.out
                                        subst eo53
                                        have p272 : 0 ≤ (x10_4 : Int) := of_decide_eq_true (by first | (with_reducible assumption) | assumption)
                                        have q272 : x10_4 < (x5_1.length : Int) := of_decide_eq_true (by first | (with_reducible assumption) | assumption)
                                        obtain ⟨ad272, e272, hx272_0⟩ := Kd.at_int (Kd.R_reads' HO_5.out).2.2 x10_4 p272 q272
                                        cases e272
                                        replace p272 := eq_true p272
                                        replace q272 := eq_true q272
                                        go_wp2
                                        repeat (go_quiet (fail); try go_wp2)
                                        go_ret
                                        exact ⟨by first | rfl | (simp [errW_none, errW_some] <;> rfl) | (simp [*, errW_none, errW_some] <;> rfl), by repeat (first | (with_reducible first | exact HB.out | apply below_alloc | apply pw_below_drewN | apply below_drew1) | exact HB.out)⟩
                                  · rw [if_neg c48] at H
                                    exact absurd H (by simp)
                                · rw [if_neg c47] at H
                                  have c47b0 : (((rd_T33 t263 x10_4).f2).toList == (rdOf ByteArray.empty l0 x10_4).toList) = false := beq_eq_false_iff_ne.mpr c47
                                  have c47b1 : (((rd_T33 t263 x10_4).f2).toList != (rdOf ByteArray.empty l0 x10_4).toList) = true := bne_iff_ne.mpr c47
                                  as_aux_lemma =>
                                    obtain rfl := Option.some.inj H
                                    obtain ⟨Ao54, co54, eo54⟩ := Kd.R_slice HO_7.out
                                    subst eo54
                                    have p268 : 0 ≤ (x10_4 : Int) := of_decide_eq_true (by first | (with_reducible assumption) | assumption)
                                    have q268 : x10_4 < (t263.length : Int) := of_decide_eq_true (by first | (with_reducible assumption) | assumption)
                                    obtain ⟨ad268, e268, hx268_0, hx268_1, hx268_2⟩ := at_T33 (Kd.R_reads' HO_7.out).2.2 x10_4 p268 q268
                                    cases e268
                                    replace p268 := eq_true p268
                                    replace q268 := eq_true q268
                                    have p269 : 0 ≤ (x10_4 : Int) := of_decide_eq_true (by first | (with_reducible assumption) | assumption)
                                    have q269 : x10_4 < (t263.length : Int) := of_decide_eq_true (by first | (with_reducible assumption) | assumption)
                                    obtain ⟨ad269, e269, hx269_0, hx269_1, hx269_2⟩ := at_T33 (Kd.R_reads' HO_7.out).2.2 x10_4 p269 q269
                                    obtain rfl : ad268 = ad269 := (by injection e269)
                                    replace p269 := eq_true p269
                                    replace q269 := eq_true q269
                                    have p270 : 0 ≤ (x10_4 : Int) := of_decide_eq_true (by first | (with_reducible assumption) | assumption)
                                    have q270 : x10_4 < (l0.length : Int) := of_decide_eq_true (by first | (with_reducible assumption) | assumption)
                                    obtain ⟨ad270, e270, hx270_0⟩ := Kd.at_string HR0.out x10_4 p270 q270
                                    cases e270
                                    replace hx270_0 := (HB.out.cell (World.block_lt_of_cell? w _ hx270_0)).trans hx270_0
                                    replace p270 := eq_true p270
                                    replace q270 := eq_true q270
                                    go_wp2
                                    repeat (go_quiet (fail); try go_wp2)
                                    go_ret
                                    exact ⟨by first | rfl | (simp [errW_none, errW_some] <;> rfl) | (simp [*, errW_none, errW_some] <;> rfl), by repeat (first | (with_reducible first | exact HB.out | apply below_alloc | apply pw_below_drewN | apply below_drew1) | exact HB.out)⟩
                              · rw [if_neg c46] at H
                                have c46b0 : (((rd_T33 t263 x10_4).f0) == 6) = false := beq_eq_false_iff_ne.mpr c46
                                have c46b1 : (((rd_T33 t263 x10_4).f0) != 6) = true := bne_iff_ne.mpr c46
                                as_aux_lemma =>
                                  obtain rfl := Option.some.inj H
                                  obtain ⟨Ao55, co55, eo55⟩ := Kd.R_slice HO_7.out
                                  subst eo55
                                  have p268 : 0 ≤ (x10_4 : Int) := of_decide_eq_true (by first | (with_reducible assumption) | assumption)
                                  have q268 : x10_4 < (t263.length : Int) := of_decide_eq_true (by first | (with_reducible assumption) | assumption)
                                  obtain ⟨ad268, e268, hx268_0, hx268_1, hx268_2⟩ := at_T33 (Kd.R_reads' HO_7.out).2.2 x10_4 p268 q268
                                  cases e268
                                  replace p268 := eq_true p268
                                  replace q268 := eq_true q268
                                  go_wp2
                                  repeat (go_quiet (fail); try go_wp2)
                                  go_ret
                                  exact ⟨by first | rfl | (simp [errW_none, errW_some] <;> rfl) | (simp [*, errW_none, errW_some] <;> rfl), by repeat (first | (with_reducible first | exact HB.out | apply below_alloc | apply pw_below_drewN | apply below_drew1) | exact HB.out)⟩
                            · rw [if_neg c45] at H
                              exact absurd H (by simp)
                          · rw [if_neg c44] at H
                            exact absurd H (by simp)
                        · rw [if_neg c43] at H
                          have c43b0 : decide (x10_4 < (l0.length : Int)) = false := decide_eq_false c43
                          clear c43
                          as_aux_lemma =>
                            obtain rfl := Option.some.inj H
                            go_wp2
                            repeat (go_quiet (fail); try go_wp2)
                            go_ret
                            exact ⟨by first | rfl | (simp [errW_none, errW_some] <;> rfl) | (simp [*, errW_none, errW_some] <;> rfl), by repeat (first | (with_reducible first | exact HB.out | apply below_alloc | apply pw_below_drewN | apply below_drew1) | exact HB.out)⟩

/-- THE ONE PURE STATEMENT of verbatimlaw17_LexerQuotes. -/
def verbatimlaw17_LexerQuotes.Pure : Prop := ∀ (l0 : List ByteArray), (l0.length ≤ 8796093021952 ∧ ∀ x_ ∈ l0, x_.size ≤ 140737488351232) → ∃ k, verbatimlaw17_LexerQuotes.f k l0 = some true

end Go.Proofs.YtfoijdahgkngpaaDoor.L
