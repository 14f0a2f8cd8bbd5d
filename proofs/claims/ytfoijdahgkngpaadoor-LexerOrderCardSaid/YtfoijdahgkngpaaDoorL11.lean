-- Written for this claim by a program of this session (over the kit's print tool): functions as Lean functions, their contracts, rows. Lean checks it.
import Derived.Test.YtfoijdahgkngpaaDoorL0
import Derived.Test.YtfoijdahgkngpaaDoorL3
import Derived.Test.YtfoijdahgkngpaaDoorL4
namespace Go.Proofs.YtfoijdahgkngpaaDoor.L
open Go.RowKit Go.Proofs.YtfoijdahgkngpaaDoorW.PrintWords Go.Proofs.YtfoijdahgkngpaaDoorW.PrintLast Go.Proofs.YtfoijdahgkngpaaDoorW.PrintMore
attribute [local go_sem] max2_int min2_int max_two min_two max_three min_three max_four min_four   -- for this text's walks alone
set_option linter.unusedVariables false
set_option linter.unusedSimpArgs false

/-! ### verbatimlaw17_LexerOrder: function 5 -/
mutual
def verbatimlaw17_LexerOrder.j0 : Nat → ByteArray → Int → Bool → List (S33) → Int → Bool → Option (Bool)
  | 0, _, _, _, _, _, _ => none
  | k + 1, x0, x1, x5, x6, x7, x54 => if x54 = true then (some false) else (verbatimlaw17_LexerOrder.l0 k x0 x1 x5 x6 x7 0)
def verbatimlaw17_LexerOrder.l0 : Nat → ByteArray → Int → Bool → List (S33) → Int → Int → Option (Bool)
  | 0, _, _, _, _, _, _ => none
  | k + 1, x0, x1, x5, x6, x7, x9 => if x9 < (x6.length : Int) then (if 0 ≤ x9 then (if ((rd_T33 x6 x9).f1) < 0 then (some false) else (if ((rd_T33 x6 x9).f1) ≥ (x0.size : Int) then (some false) else (if x9 > 0 then (if 0 ≤ (wrap64 (x9 - 1)) then (if (wrap64 (x9 - 1)) < (x6.length : Int) then (if ((rd_T33 x6 (wrap64 (x9 - 1))).f1) ≥ ((rd_T33 x6 x9).f1) then (some false) else (if ((rd_T33 x6 x9).f0) < 1 then (some false) else (if ((rd_T33 x6 x9).f0) > 9 then (some false) else (if ((rd_T33 x6 x9).f0) = 6 then (verbatimlaw17_LexerOrder.l0 k x0 x1 x5 x6 x7 (wrap64 (x9 + 1))) else (if ((rd_T33 x6 x9).f2).toList = ([] : List UInt8) then (verbatimlaw17_LexerOrder.l0 k x0 x1 x5 x6 x7 (wrap64 (x9 + 1))) else (some false)))))) else (none)) else (none)) else (if ((rd_T33 x6 x9).f0) < 1 then (some false) else (if ((rd_T33 x6 x9).f0) > 9 then (some false) else (if ((rd_T33 x6 x9).f0) = 6 then (verbatimlaw17_LexerOrder.l0 k x0 x1 x5 x6 x7 (wrap64 (x9 + 1))) else (if ((rd_T33 x6 x9).f2).toList = ([] : List UInt8) then (verbatimlaw17_LexerOrder.l0 k x0 x1 x5 x6 x7 (wrap64 (x9 + 1))) else (some false)))))))) else (none)) else (if (wrap64 ((x0.size : Int) + 1)) = 0 then (none) else (if 0 ≤ (Int.tmod (wrap64 (x1)) (wrap64 ((x0.size : Int) + 1))) then (if (Int.tmod (wrap64 (x1)) (wrap64 ((x0.size : Int) + 1))) ≤ (x0.size : Int) then ((lexer_Split.f k (x0.extract 0 ((Int.tmod (wrap64 (x1)) (wrap64 ((x0.size : Int) + 1))) : Int).toNat)).bind fun bt291 => (verbatimlaw17_LexerOrder.l1 k x5 x6 x7 bt291.1 bt291.2.1 0)) else (none)) else (none)))
def verbatimlaw17_LexerOrder.l1 : Nat → Bool → List (S33) → Int → List (S33) → Int → Int → Option (Bool)
  | 0, _, _, _, _, _, _ => none
  | k + 1, x5, x6, x7, x11, x12, x14 => if x14 < (x11.length : Int) then (if x12 = 0 then (verbatimlaw17_LexerOrder.j3 k x5 x6 x7 x11 x12 x14 (x7 == 0)) else (verbatimlaw17_LexerOrder.j3 k x5 x6 x7 x11 x12 x14 false)) else (verbatimlaw17_LexerOrder.j3 k x5 x6 x7 x11 x12 x14 false)
def verbatimlaw17_LexerOrder.j3 : Nat → Bool → List (S33) → Int → List (S33) → Int → Int → Bool → Option (Bool)
  | 0, _, _, _, _, _, _, _ => none
  | k + 1, x5, x6, x7, x11, x12, x14, x152 => if x152 = true then (if x14 ≥ (x6.length : Int) then (some false) else (if 0 ≤ x14 then (if x14 < (x6.length : Int) then (if x14 < (x11.length : Int) then (if ((rd_T33 x6 x14).f1) = ((rd_T33 x11 x14).f1) then (verbatimlaw17_LexerOrder.l1 k x5 x6 x7 x11 x12 (wrap64 (x14 + 1))) else (some false)) else (none)) else (none)) else (none))) else (some x5)
end
def verbatimlaw17_LexerOrder.f (k : Nat) (a0 : ByteArray) (a1 : Int) : Option (Bool) := (verbatimlaw17_head.f k).bind fun t273 => (if (a0.size : Int) > 3000 then (some t273) else ((lexer_Split.f k a0).bind fun bt274 => (if bt274.2.1 = 171 then (if bt274.2.2 < 0 then (verbatimlaw17_LexerOrder.j0 k a0 a1 t273 bt274.1 bt274.2.1 true) else (if bt274.2.2 > (a0.size : Int) then (verbatimlaw17_LexerOrder.j0 k a0 a1 t273 bt274.1 bt274.2.1 true) else (if bt274.2.1 = 0 then (verbatimlaw17_LexerOrder.j0 k a0 a1 t273 bt274.1 bt274.2.1 (bt274.2.2 != 0)) else (if (bt274.1.length : Int) > 0 then (verbatimlaw17_LexerOrder.j0 k a0 a1 t273 bt274.1 bt274.2.1 true) else (verbatimlaw17_LexerOrder.j0 k a0 a1 t273 bt274.1 bt274.2.1 false))))) else (if bt274.2.1 = 0 then (verbatimlaw17_LexerOrder.j0 k a0 a1 t273 bt274.1 bt274.2.1 (bt274.2.2 != 0)) else (if (bt274.1.length : Int) > 0 then (verbatimlaw17_LexerOrder.j0 k a0 a1 t273 bt274.1 bt274.2.1 true) else (verbatimlaw17_LexerOrder.j0 k a0 a1 t273 bt274.1 bt274.2.1 false))))))
theorem verbatimlaw17_LexerOrder.mono_l : ∀ k, (∀ y0 y1 y2 y3 y4 y5, LeO (verbatimlaw17_LexerOrder.j0 k y0 y1 y2 y3 y4 y5) (verbatimlaw17_LexerOrder.j0 (k + 1) y0 y1 y2 y3 y4 y5)) ∧ (∀ y0 y1 y2 y3 y4 y5, LeO (verbatimlaw17_LexerOrder.l0 k y0 y1 y2 y3 y4 y5) (verbatimlaw17_LexerOrder.l0 (k + 1) y0 y1 y2 y3 y4 y5)) ∧ (∀ y0 y1 y2 y3 y4 y5, LeO (verbatimlaw17_LexerOrder.l1 k y0 y1 y2 y3 y4 y5) (verbatimlaw17_LexerOrder.l1 (k + 1) y0 y1 y2 y3 y4 y5)) ∧ (∀ y0 y1 y2 y3 y4 y5 y6, LeO (verbatimlaw17_LexerOrder.j3 k y0 y1 y2 y3 y4 y5 y6) (verbatimlaw17_LexerOrder.j3 (k + 1) y0 y1 y2 y3 y4 y5 y6))
  | 0 => ⟨fun _ _ _ _ _ _ r h => by simp [verbatimlaw17_LexerOrder.j0] at h, fun _ _ _ _ _ _ r h => by simp [verbatimlaw17_LexerOrder.l0] at h, fun _ _ _ _ _ _ r h => by simp [verbatimlaw17_LexerOrder.l1] at h, fun _ _ _ _ _ _ _ r h => by simp [verbatimlaw17_LexerOrder.j3] at h⟩
  | k + 1 => by
    obtain ⟨ih0, ih1, ih2, ih3⟩ := verbatimlaw17_LexerOrder.mono_l k
    refine ⟨?_, ?_, ?_, ?_⟩
    · intro y0 y1 y2 y3 y4 y5
      unfold verbatimlaw17_LexerOrder.j0
      repeat' first
      | (with_reducible exact ih0 _ _ _ _ _ _)
      | (with_reducible exact ih1 _ _ _ _ _ _)
      | (with_reducible exact ih2 _ _ _ _ _ _)
      | (with_reducible exact ih3 _ _ _ _ _ _ _)
      | (with_reducible exact lexer_Split.mono _ _)
      | (with_reducible exact verbatimlaw17_head.mono _)
      | (with_reducible exact LeO.refl _)
      | (with_reducible exact LeO.none _)
      | (with_reducible refine LeO.ite ?_ ?_)
      | (with_reducible refine LeO.bind ?_ (fun _ => ?_))
      | exact ih0 _ _ _ _ _ _
      | exact ih1 _ _ _ _ _ _
      | exact ih2 _ _ _ _ _ _
      | exact ih3 _ _ _ _ _ _ _
      | exact lexer_Split.mono _ _
      | exact verbatimlaw17_head.mono _
      | exact LeO.none _
      | refine LeO.ite ?_ ?_
      | refine LeO.bind ?_ (fun _ => ?_)
    · intro y0 y1 y2 y3 y4 y5
      unfold verbatimlaw17_LexerOrder.l0
      repeat' first
      | (with_reducible exact ih0 _ _ _ _ _ _)
      | (with_reducible exact ih1 _ _ _ _ _ _)
      | (with_reducible exact ih2 _ _ _ _ _ _)
      | (with_reducible exact ih3 _ _ _ _ _ _ _)
      | (with_reducible exact lexer_Split.mono _ _)
      | (with_reducible exact verbatimlaw17_head.mono _)
      | (with_reducible exact LeO.refl _)
      | (with_reducible exact LeO.none _)
      | (with_reducible refine LeO.ite ?_ ?_)
      | (with_reducible refine LeO.bind ?_ (fun _ => ?_))
      | exact ih0 _ _ _ _ _ _
      | exact ih1 _ _ _ _ _ _
      | exact ih2 _ _ _ _ _ _
      | exact ih3 _ _ _ _ _ _ _
      | exact lexer_Split.mono _ _
      | exact verbatimlaw17_head.mono _
      | exact LeO.none _
      | refine LeO.ite ?_ ?_
      | refine LeO.bind ?_ (fun _ => ?_)
    · intro y0 y1 y2 y3 y4 y5
      unfold verbatimlaw17_LexerOrder.l1
      repeat' first
      | (with_reducible exact ih0 _ _ _ _ _ _)
      | (with_reducible exact ih1 _ _ _ _ _ _)
      | (with_reducible exact ih2 _ _ _ _ _ _)
      | (with_reducible exact ih3 _ _ _ _ _ _ _)
      | (with_reducible exact lexer_Split.mono _ _)
      | (with_reducible exact verbatimlaw17_head.mono _)
      | (with_reducible exact LeO.refl _)
      | (with_reducible exact LeO.none _)
      | (with_reducible refine LeO.ite ?_ ?_)
      | (with_reducible refine LeO.bind ?_ (fun _ => ?_))
      | exact ih0 _ _ _ _ _ _
      | exact ih1 _ _ _ _ _ _
      | exact ih2 _ _ _ _ _ _
      | exact ih3 _ _ _ _ _ _ _
      | exact lexer_Split.mono _ _
      | exact verbatimlaw17_head.mono _
      | exact LeO.none _
      | refine LeO.ite ?_ ?_
      | refine LeO.bind ?_ (fun _ => ?_)
    · intro y0 y1 y2 y3 y4 y5 y6
      unfold verbatimlaw17_LexerOrder.j3
      repeat' first
      | (with_reducible exact ih0 _ _ _ _ _ _)
      | (with_reducible exact ih1 _ _ _ _ _ _)
      | (with_reducible exact ih2 _ _ _ _ _ _)
      | (with_reducible exact ih3 _ _ _ _ _ _ _)
      | (with_reducible exact lexer_Split.mono _ _)
      | (with_reducible exact verbatimlaw17_head.mono _)
      | (with_reducible exact LeO.refl _)
      | (with_reducible exact LeO.none _)
      | (with_reducible refine LeO.ite ?_ ?_)
      | (with_reducible refine LeO.bind ?_ (fun _ => ?_))
      | exact ih0 _ _ _ _ _ _
      | exact ih1 _ _ _ _ _ _
      | exact ih2 _ _ _ _ _ _
      | exact ih3 _ _ _ _ _ _ _
      | exact lexer_Split.mono _ _
      | exact verbatimlaw17_head.mono _
      | exact LeO.none _
      | refine LeO.ite ?_ ?_
      | refine LeO.bind ?_ (fun _ => ?_)
theorem verbatimlaw17_LexerOrder.mono : ∀ a0 a1 k, LeO (verbatimlaw17_LexerOrder.f k a0 a1) (verbatimlaw17_LexerOrder.f (k + 1) a0 a1) := by
  intro a0 a1 k
  obtain ⟨ih0, ih1, ih2, ih3⟩ := verbatimlaw17_LexerOrder.mono_l k
  unfold verbatimlaw17_LexerOrder.f
  repeat' first
      | (with_reducible exact ih0 _ _ _ _ _ _)
      | (with_reducible exact ih1 _ _ _ _ _ _)
      | (with_reducible exact ih2 _ _ _ _ _ _)
      | (with_reducible exact ih3 _ _ _ _ _ _ _)
      | (with_reducible exact lexer_Split.mono _ _)
      | (with_reducible exact verbatimlaw17_head.mono _)
      | (with_reducible exact LeO.refl _)
      | (with_reducible exact LeO.none _)
      | (with_reducible refine LeO.ite ?_ ?_)
      | (with_reducible refine LeO.bind ?_ (fun _ => ?_))
      | exact ih0 _ _ _ _ _ _
      | exact ih1 _ _ _ _ _ _
      | exact ih2 _ _ _ _ _ _
      | exact ih3 _ _ _ _ _ _ _
      | exact lexer_Split.mono _ _
      | exact verbatimlaw17_head.mono _
      | exact LeO.none _
      | refine LeO.ite ?_ ?_
      | refine LeO.bind ?_ (fun _ => ?_)
set_option maxHeartbeats 8000000 in
set_option maxRecDepth 100000 in
theorem verbatimlaw17_LexerOrder.calls (k : Nat) (a0 : ByteArray) (a1 : Int) (r : Bool) (w : World) (h : verbatimlaw17_LexerOrder.f k a0 a1 = some r) :
    Calls Tryd.prog 5 #[.string a0, .int .u16 a1] w fun e w' => e = .returned (.bool r) ∧ Below w.heap.size w w' := by
  have HB := Aside0.mk (Below.refl w.heap.size w)
  have H : ((verbatimlaw17_head.f k).bind fun t273 => (if (a0.size : Int) > 3000 then (some t273) else ((lexer_Split.f k a0).bind fun bt274 => (if bt274.2.1 = 171 then (if bt274.2.2 < 0 then (verbatimlaw17_LexerOrder.j0 k a0 a1 t273 bt274.1 bt274.2.1 true) else (if bt274.2.2 > (a0.size : Int) then (verbatimlaw17_LexerOrder.j0 k a0 a1 t273 bt274.1 bt274.2.1 true) else (if bt274.2.1 = 0 then (verbatimlaw17_LexerOrder.j0 k a0 a1 t273 bt274.1 bt274.2.1 (bt274.2.2 != 0)) else (if (bt274.1.length : Int) > 0 then (verbatimlaw17_LexerOrder.j0 k a0 a1 t273 bt274.1 bt274.2.1 true) else (verbatimlaw17_LexerOrder.j0 k a0 a1 t273 bt274.1 bt274.2.1 false))))) else (if bt274.2.1 = 0 then (verbatimlaw17_LexerOrder.j0 k a0 a1 t273 bt274.1 bt274.2.1 (bt274.2.2 != 0)) else (if (bt274.1.length : Int) > 0 then (verbatimlaw17_LexerOrder.j0 k a0 a1 t273 bt274.1 bt274.2.1 true) else (verbatimlaw17_LexerOrder.j0 k a0 a1 t273 bt274.1 bt274.2.1 false))))))) = some r := h
  clear h
  replace H := Option.bind_eq_some_iff.mp H
  obtain ⟨t273, A30, H⟩ := H
  replace H : (if (a0.size : Int) > 3000 then (some t273) else ((lexer_Split.f k a0).bind fun bt274 => (if bt274.2.1 = 171 then (if bt274.2.2 < 0 then (verbatimlaw17_LexerOrder.j0 k a0 a1 t273 bt274.1 bt274.2.1 true) else (if bt274.2.2 > (a0.size : Int) then (verbatimlaw17_LexerOrder.j0 k a0 a1 t273 bt274.1 bt274.2.1 true) else (if bt274.2.1 = 0 then (verbatimlaw17_LexerOrder.j0 k a0 a1 t273 bt274.1 bt274.2.1 (bt274.2.2 != 0)) else (if (bt274.1.length : Int) > 0 then (verbatimlaw17_LexerOrder.j0 k a0 a1 t273 bt274.1 bt274.2.1 true) else (verbatimlaw17_LexerOrder.j0 k a0 a1 t273 bt274.1 bt274.2.1 false))))) else (if bt274.2.1 = 0 then (verbatimlaw17_LexerOrder.j0 k a0 a1 t273 bt274.1 bt274.2.1 (bt274.2.2 != 0)) else (if (bt274.1.length : Int) > 0 then (verbatimlaw17_LexerOrder.j0 k a0 a1 t273 bt274.1 bt274.2.1 true) else (verbatimlaw17_LexerOrder.j0 k a0 a1 t273 bt274.1 bt274.2.1 false)))))) = some r := H
  have A3 := Aside0.mk A30
  clear A30
  by_cases c4 : (a0.size : Int) > 3000
  · rw [if_pos c4] at H
    have c4b0 : decide (3000 < (a0.size : Int)) = true := decide_eq_true c4
    have c4b1 : decide (3000 < a0.size) = true := decide_eq_true (by omega)
    clear c4
    as_aux_lemma =>
      obtain rfl := Option.some.inj H
      go_enter Tryd.func5, Tryd.ntmps5
      go_wp2_with (first | (go_at_call 9; (with_reducible refine (verbatimlaw17_head.calls k  t273 _ A3.out).mono ?_); rintro e w5 ⟨rfl, hb⟩; have n0_ := Aside0.mk (below_step (by repeat (first | (with_reducible first | exact HB.out | apply below_alloc | apply pw_below_drewN | apply below_drew1) | exact HB.out)) hb); clear HB; have HB := n0_; clear n0_; (try clear hb); (try clear hb2); (try clear hk); (try clear hi)))
      repeat (go_quiet (first | (go_at_call 9; (with_reducible refine (verbatimlaw17_head.calls k  t273 _ A3.out).mono ?_); rintro e w5 ⟨rfl, hb⟩; have n0_ := Aside0.mk (below_step (by repeat (first | (with_reducible first | exact HB.out | apply below_alloc | apply pw_below_drewN | apply below_drew1) | exact HB.out)) hb); clear HB; have HB := n0_; clear n0_; (try clear hb); (try clear hb2); (try clear hk); (try clear hi))); try go_wp2_with (first | (go_at_call 9; (with_reducible refine (verbatimlaw17_head.calls k  t273 _ A3.out).mono ?_); rintro e w5 ⟨rfl, hb⟩; have n0_ := Aside0.mk (below_step (by repeat (first | (with_reducible first | exact HB.out | apply below_alloc | apply pw_below_drewN | apply below_drew1) | exact HB.out)) hb); clear HB; have HB := n0_; clear n0_; (try clear hb); (try clear hb2); (try clear hk); (try clear hi))))
      go_ret
      exact ⟨by first | rfl | (simp [errW_none, errW_some] <;> rfl) | (simp [*, errW_none, errW_some] <;> rfl), by repeat (first | (with_reducible first | exact HB.out | apply below_alloc | apply pw_below_drewN | apply below_drew1) | exact HB.out)⟩
  · rw [if_neg c4] at H
    have c4b0 : decide (3000 < (a0.size : Int)) = false := decide_eq_false c4
    have c4b1 : decide (3000 < a0.size) = false := decide_eq_false (by omega)
    clear c4
    replace H := Option.bind_eq_some_iff.mp H
    obtain ⟨⟨t274, t275, t276⟩, A60, H⟩ := H
    replace H : (if t275 = 171 then (if t276 < 0 then (verbatimlaw17_LexerOrder.j0 k a0 a1 t273 t274 t275 true) else (if t276 > (a0.size : Int) then (verbatimlaw17_LexerOrder.j0 k a0 a1 t273 t274 t275 true) else (if t275 = 0 then (verbatimlaw17_LexerOrder.j0 k a0 a1 t273 t274 t275 (t276 != 0)) else (if (t274.length : Int) > 0 then (verbatimlaw17_LexerOrder.j0 k a0 a1 t273 t274 t275 true) else (verbatimlaw17_LexerOrder.j0 k a0 a1 t273 t274 t275 false))))) else (if t275 = 0 then (verbatimlaw17_LexerOrder.j0 k a0 a1 t273 t274 t275 (t276 != 0)) else (if (t274.length : Int) > 0 then (verbatimlaw17_LexerOrder.j0 k a0 a1 t273 t274 t275 true) else (verbatimlaw17_LexerOrder.j0 k a0 a1 t273 t274 t275 false)))) = some r := H
    have A6 := Aside0.mk A60
    clear A60
    have HC7 := Aside0.mk H
    clear H
    go_enter Tryd.func5, Tryd.ntmps5
    go_upto_region 5 with (first | (go_at_call 9; (with_reducible refine (verbatimlaw17_head.calls k  t273 _ A3.out).mono ?_); rintro e w8 ⟨rfl, hb⟩; have n0_ := Aside0.mk (below_step (by repeat (first | (with_reducible first | exact HB.out | apply below_alloc | apply pw_below_drewN | apply below_drew1) | exact HB.out)) hb); clear HB; have HB := n0_; clear n0_; (try clear hb); (try clear hb2); (try clear hk); (try clear hi)) | (go_at_call 10; (with_reducible refine (lexer_Split.calls k a0 t274 t275 t276 _ A6.out).mono ?_); rintro e w9 ⟨v277, rfl, ho0, hb⟩; have n0_ := Aside0.mk (Kd.R_lower ho0 (below_size (by repeat (first | (with_reducible first | exact HB.out | apply below_alloc | apply pw_below_drewN | apply below_drew1) | exact HB.out)))); have n1_ := Aside0.mk (below_step (by repeat (first | (with_reducible first | exact HB.out | apply below_alloc | apply pw_below_drewN | apply below_drew1) | exact HB.out)) hb); clear HB; have HO278 := n0_; have HB := n1_; clear n0_ n1_; (try clear hb); (try clear hb2); (try clear hk); (try clear hi); (try clear ho0)))
    repeat (go_quiet (first | (go_at_call 9; (with_reducible refine (verbatimlaw17_head.calls k  t273 _ A3.out).mono ?_); rintro e w8 ⟨rfl, hb⟩; have n0_ := Aside0.mk (below_step (by repeat (first | (with_reducible first | exact HB.out | apply below_alloc | apply pw_below_drewN | apply below_drew1) | exact HB.out)) hb); clear HB; have HB := n0_; clear n0_; (try clear hb); (try clear hb2); (try clear hk); (try clear hi)) | (go_at_call 10; (with_reducible refine (lexer_Split.calls k a0 t274 t275 t276 _ A6.out).mono ?_); rintro e w9 ⟨v277, rfl, ho0, hb⟩; have n0_ := Aside0.mk (Kd.R_lower ho0 (below_size (by repeat (first | (with_reducible first | exact HB.out | apply below_alloc | apply pw_below_drewN | apply below_drew1) | exact HB.out)))); have n1_ := Aside0.mk (below_step (by repeat (first | (with_reducible first | exact HB.out | apply below_alloc | apply pw_below_drewN | apply below_drew1) | exact HB.out)) hb); clear HB; have HO278 := n0_; have HB := n1_; clear n0_ n1_; (try clear hb); (try clear hb2); (try clear hk); (try clear hi); (try clear ho0))); go_upto_region 5 with (first | (go_at_call 9; (with_reducible refine (verbatimlaw17_head.calls k  t273 _ A3.out).mono ?_); rintro e w8 ⟨rfl, hb⟩; have n0_ := Aside0.mk (below_step (by repeat (first | (with_reducible first | exact HB.out | apply below_alloc | apply pw_below_drewN | apply below_drew1) | exact HB.out)) hb); clear HB; have HB := n0_; clear n0_; (try clear hb); (try clear hb2); (try clear hk); (try clear hi)) | (go_at_call 10; (with_reducible refine (lexer_Split.calls k a0 t274 t275 t276 _ A6.out).mono ?_); rintro e w9 ⟨v277, rfl, ho0, hb⟩; have n0_ := Aside0.mk (Kd.R_lower ho0 (below_size (by repeat (first | (with_reducible first | exact HB.out | apply below_alloc | apply pw_below_drewN | apply below_drew1) | exact HB.out)))); have n1_ := Aside0.mk (below_step (by repeat (first | (with_reducible first | exact HB.out | apply below_alloc | apply pw_below_drewN | apply below_drew1) | exact HB.out)) hb); clear HB; have HO278 := n0_; have HB := n1_; clear n0_ n1_; (try clear hb); (try clear hb2); (try clear hk); (try clear hi); (try clear ho0))))
    (try simp only [Act.put, List.setIfInBounds_toArray, List.set_cons_zero, List.set_cons_succ])
    go_cut [54] (fun v54 wc => ∃ (kq : Nat) (x54_6 : Bool), v54 = .bool x54_6 ∧ Aside0 (verbatimlaw17_LexerOrder.j0 kq a0 a1 t273 t274 t275 x54_6 = some r) ∧ Aside0 (kq ≤ k) ∧ Aside0 (Kd.R k33 33 wc w.heap.size (fun _ => True) v277 t274) ∧ Aside0 (Below w.heap.size w wc))
    case first =>
      have H := HC7.out
      clear HC7
      by_cases c10 : t275 = 171
      · rw [if_pos c10] at H
        have c10b0 : (t275 == 171) = true := beq_iff_eq.mpr c10
        have c10b1 : (t275 != 171) = false := bne_eq_false_iff_eq.mpr c10
        clear c10
        (first | rw [c10b0] | (simp only [i64_w, i32_w]; rw [c10b0]) | skip)
        by_cases c11 : t276 < 0
        · rw [if_pos c11] at H
          have c11b0 : decide (t276 < 0) = true := decide_eq_true c11
          clear c11
          as_aux_lemma =>
            have H' := Aside0.mk H
            clear H
            go_wp2
            repeat (go_quiet (fail); try go_wp2)
            go_meet
            case rel => exact ⟨_, (true), (by first | rfl | (simp; done) | (simp [*]; done)), H', ⟨by first | omega | exact Nat.le_refl _⟩, ⟨by (with_reducible repeat (first | apply Kd.R_alloc | apply Kd.R_drewN | apply Kd.R_drew)); exact HO278.out⟩, ⟨by repeat (first | (with_reducible first | exact HB.out | apply below_alloc | apply pw_below_drewN | apply below_drew1) | exact HB.out)⟩⟩
        · rw [if_neg c11] at H
          have c11b0 : decide (t276 < 0) = false := decide_eq_false c11
          clear c11
          by_cases c12 : t276 > (a0.size : Int)
          · rw [if_pos c12] at H
            have c12b0 : decide ((a0.size : Int) < t276) = true := decide_eq_true c12
            clear c12
            as_aux_lemma =>
              have H' := Aside0.mk H
              clear H
              go_wp2
              repeat (go_quiet (fail); try go_wp2)
              go_meet
              case rel => exact ⟨_, (true), (by first | rfl | (simp; done) | (simp [*]; done)), H', ⟨by first | omega | exact Nat.le_refl _⟩, ⟨by (with_reducible repeat (first | apply Kd.R_alloc | apply Kd.R_drewN | apply Kd.R_drew)); exact HO278.out⟩, ⟨by repeat (first | (with_reducible first | exact HB.out | apply below_alloc | apply pw_below_drewN | apply below_drew1) | exact HB.out)⟩⟩
          · rw [if_neg c12] at H
            have c12b0 : decide ((a0.size : Int) < t276) = false := decide_eq_false c12
            clear c12
            by_cases c13 : t275 = 0
            · rw [if_pos c13] at H
              have c13b0 : (t275 == 0) = true := beq_iff_eq.mpr c13
              have c13b1 : (t275 != 0) = false := bne_eq_false_iff_eq.mpr c13
              clear c13
              as_aux_lemma =>
                have H' := Aside0.mk H
                clear H
                go_wp2
                repeat (go_quiet (fail); try go_wp2)
                go_meet
                case rel => exact ⟨_, ((t276 != 0)), (by first | rfl | (simp; done) | (simp [*]; done)), H', ⟨by first | omega | exact Nat.le_refl _⟩, ⟨by (with_reducible repeat (first | apply Kd.R_alloc | apply Kd.R_drewN | apply Kd.R_drew)); exact HO278.out⟩, ⟨by repeat (first | (with_reducible first | exact HB.out | apply below_alloc | apply pw_below_drewN | apply below_drew1) | exact HB.out)⟩⟩
            · rw [if_neg c13] at H
              have c13b0 : (t275 == 0) = false := beq_eq_false_iff_ne.mpr c13
              have c13b1 : (t275 != 0) = true := bne_iff_ne.mpr c13
              by_cases c14 : (t274.length : Int) > 0
              · rw [if_pos c14] at H
                have c14b0 : decide (0 < (t274.length : Int)) = true := decide_eq_true c14
                have c14b1 : decide (0 < t274.length) = true := decide_eq_true (by omega)
                clear c14
                as_aux_lemma =>
                  have H' := Aside0.mk H
                  clear H
                  obtain ⟨Ao15, co15, eo15⟩ := Kd.R_slice HO278.out
                  subst eo15
                  go_wp2
                  repeat (go_quiet (fail); try go_wp2)
                  go_meet
                  case rel => exact ⟨_, (true), (by first | rfl | (simp; done) | (simp [*]; done)), H', ⟨by first | omega | exact Nat.le_refl _⟩, ⟨by (with_reducible repeat (first | apply Kd.R_alloc | apply Kd.R_drewN | apply Kd.R_drew)); exact HO278.out⟩, ⟨by repeat (first | (with_reducible first | exact HB.out | apply below_alloc | apply pw_below_drewN | apply below_drew1) | exact HB.out)⟩⟩
              · rw [if_neg c14] at H
                have c14b0 : decide (0 < (t274.length : Int)) = false := decide_eq_false c14
                have c14b1 : decide (0 < t274.length) = false := decide_eq_false (by omega)
                clear c14
                as_aux_lemma =>
                  have H' := Aside0.mk H
                  clear H
                  obtain ⟨Ao16, co16, eo16⟩ := Kd.R_slice HO278.out
                  subst eo16
                  go_wp2
                  repeat (go_quiet (fail); try go_wp2)
                  go_meet
                  case rel => exact ⟨_, (false), (by first | rfl | (simp; done) | (simp [*]; done)), H', ⟨by first | omega | exact Nat.le_refl _⟩, ⟨by (with_reducible repeat (first | apply Kd.R_alloc | apply Kd.R_drewN | apply Kd.R_drew)); exact HO278.out⟩, ⟨by repeat (first | (with_reducible first | exact HB.out | apply below_alloc | apply pw_below_drewN | apply below_drew1) | exact HB.out)⟩⟩
      · rw [if_neg c10] at H
        have c10b0 : (t275 == 171) = false := beq_eq_false_iff_ne.mpr c10
        have c10b1 : (t275 != 171) = true := bne_iff_ne.mpr c10
        (first | rw [c10b0] | (simp only [i64_w, i32_w]; rw [c10b0]) | skip)
        by_cases c17 : t275 = 0
        · rw [if_pos c17] at H
          have c17b0 : (t275 == 0) = true := beq_iff_eq.mpr c17
          have c17b1 : (t275 != 0) = false := bne_eq_false_iff_eq.mpr c17
          clear c17
          as_aux_lemma =>
            have H' := Aside0.mk H
            clear H
            go_wp2
            repeat (go_quiet (fail); try go_wp2)
            go_meet
            case rel => exact ⟨_, ((t276 != 0)), (by first | rfl | (simp; done) | (simp [*]; done)), H', ⟨by first | omega | exact Nat.le_refl _⟩, ⟨by (with_reducible repeat (first | apply Kd.R_alloc | apply Kd.R_drewN | apply Kd.R_drew)); exact HO278.out⟩, ⟨by repeat (first | (with_reducible first | exact HB.out | apply below_alloc | apply pw_below_drewN | apply below_drew1) | exact HB.out)⟩⟩
        · rw [if_neg c17] at H
          have c17b0 : (t275 == 0) = false := beq_eq_false_iff_ne.mpr c17
          have c17b1 : (t275 != 0) = true := bne_iff_ne.mpr c17
          by_cases c18 : (t274.length : Int) > 0
          · rw [if_pos c18] at H
            have c18b0 : decide (0 < (t274.length : Int)) = true := decide_eq_true c18
            have c18b1 : decide (0 < t274.length) = true := decide_eq_true (by omega)
            clear c18
            as_aux_lemma =>
              have H' := Aside0.mk H
              clear H
              obtain ⟨Ao19, co19, eo19⟩ := Kd.R_slice HO278.out
              subst eo19
              go_wp2
              repeat (go_quiet (fail); try go_wp2)
              go_meet
              case rel => exact ⟨_, (true), (by first | rfl | (simp; done) | (simp [*]; done)), H', ⟨by first | omega | exact Nat.le_refl _⟩, ⟨by (with_reducible repeat (first | apply Kd.R_alloc | apply Kd.R_drewN | apply Kd.R_drew)); exact HO278.out⟩, ⟨by repeat (first | (with_reducible first | exact HB.out | apply below_alloc | apply pw_below_drewN | apply below_drew1) | exact HB.out)⟩⟩
          · rw [if_neg c18] at H
            have c18b0 : decide (0 < (t274.length : Int)) = false := decide_eq_false c18
            have c18b1 : decide (0 < t274.length) = false := decide_eq_false (by omega)
            clear c18
            as_aux_lemma =>
              have H' := Aside0.mk H
              clear H
              obtain ⟨Ao20, co20, eo20⟩ := Kd.R_slice HO278.out
              subst eo20
              go_wp2
              repeat (go_quiet (fail); try go_wp2)
              go_meet
              case rel => exact ⟨_, (false), (by first | rfl | (simp; done) | (simp [*]; done)), H', ⟨by first | omega | exact Nat.le_refl _⟩, ⟨by (with_reducible repeat (first | apply Kd.R_alloc | apply Kd.R_drewN | apply Kd.R_drew)); exact HO278.out⟩, ⟨by repeat (first | (with_reducible first | exact HB.out | apply below_alloc | apply pw_below_drewN | apply below_drew1) | exact HB.out)⟩⟩
    case rest =>
      clear HC7
      try clear c1
      try clear p2
      try clear c4
      try clear c4b0
      try clear c4b1
      try clear c5
      try clear c10
      try clear c10b0
      try clear c10b1
      try clear c11
      try clear c11b0
      try clear c12
      try clear c12b0
      try clear c13
      try clear c13b0
      try clear c13b1
      try clear c14
      try clear c14b0
      try clear c14b1
      try clear c17
      try clear c17b0
      try clear c17b1
      try clear c18
      try clear c18b0
      try clear c18b1
      obtain ⟨kq, x54_6, rfl, HA, HJ6, HO_6, HB⟩ := hcut
      cases kq with
      | zero => exact absurd HA.out (by simp [verbatimlaw17_LexerOrder.j0])
      | succ kj6 =>
        have H := HA.out
        clear HA
        simp only [verbatimlaw17_LexerOrder.j0] at H
        by_cases c21 : x54_6 = true
        · subst c21
          have H1 : (some false) = some r := by rw [if_pos rfl] at H; exact H
          clear H
          have H := H1
          clear H1
          as_aux_lemma =>
            obtain rfl := Option.some.inj H
            go_wp2
            repeat (go_quiet (fail); try go_wp2)
            go_ret
            exact ⟨by first | rfl | (simp [errW_none, errW_some] <;> rfl) | (simp [*, errW_none, errW_some] <;> rfl), by repeat (first | (with_reducible first | exact HB.out | apply below_alloc | apply pw_below_drewN | apply below_drew1) | exact HB.out)⟩
        · replace c21 := Bool.eq_false_iff.mpr c21
          subst c21
          have H1 : (verbatimlaw17_LexerOrder.l0 kj6 a0 a1 t273 t274 t275 0) = some r := by rw [if_neg (show ¬ (false = true) by decide)] at H; exact H
          clear H
          have H := H1
          clear H1
          have H' := Aside0.mk H
          clear H
          go_wp2
          repeat (go_quiet (fail); try go_wp2)
          go_loopg [9] kj6 (fun kq v9 w' => ∃ (x9_2 : Int), v9 = .int .i64 x9_2 ∧ Aside0 (verbatimlaw17_LexerOrder.l0 kq a0 a1 t273 t274 t275 x9_2 = some r) ∧ Aside0 (kq ≤ kj6) ∧ Aside0 (Kd.R k33 33 w' w.heap.size (fun _ => True) v277 t274) ∧ Aside0 (Below w.heap.size w w'))
          case atStart => exact ⟨(0), (by first | rfl | (simp; done) | (simp [*]; done)), H', ⟨Nat.le_refl _⟩, ⟨by (with_reducible repeat (first | apply Kd.R_alloc | apply Kd.R_drewN | apply Kd.R_drew)); exact HO_6.out⟩, ⟨by repeat (first | (with_reducible first | exact HB.out | apply below_alloc | apply pw_below_drewN | apply below_drew1) | exact HB.out)⟩⟩
          case round => as_aux_lemma =>
            clear H'
            try clear c1
            try clear c2
            try clear p2
            try clear c4
            try clear c4b0
            try clear c4b1
            try clear c5
            try clear c10
            try clear c10b0
            try clear c10b1
            try clear c11
            try clear c11b0
            try clear c12
            try clear c12b0
            try clear c13
            try clear c13b0
            try clear c13b1
            try clear c14
            try clear c14b0
            try clear c14b1
            try clear c17
            try clear c17b0
            try clear c17b1
            try clear c18
            try clear c18b0
            try clear c18b1
            try clear c21
            try clear p2
            obtain ⟨x9_2, rfl, HA, HK2, HO_6, HB⟩ := hrel
            cases gk with
            | zero => exact absurd HA.out (by simp [verbatimlaw17_LexerOrder.l0])
            | succ k2 =>
              have H := HA.out
              clear HA
              simp only [verbatimlaw17_LexerOrder.l0] at H
              by_cases c22 : x9_2 < (t274.length : Int)
              · rw [if_pos c22] at H
                have c22b0 : decide (x9_2 < (t274.length : Int)) = true := decide_eq_true c22
                clear c22
                by_cases c23 : 0 ≤ x9_2
                · rw [if_pos c23] at H
                  have c23b0 : decide (0 ≤ x9_2) = true := decide_eq_true c23
                  clear c23
                  by_cases c24 : ((rd_T33 t274 x9_2).f1) < 0
                  · rw [if_pos c24] at H
                    have c24b0 : decide (((rd_T33 t274 x9_2).f1) < 0) = true := decide_eq_true c24
                    clear c24
                    as_aux_lemma =>
                      obtain rfl := Option.some.inj H
                      obtain ⟨Ao25, co25, eo25⟩ := Kd.R_slice HO_6.out
                      subst eo25
                      have p279 : 0 ≤ (x9_2 : Int) := of_decide_eq_true (by first | (with_reducible assumption) | assumption)
                      have q279 : x9_2 < (t274.length : Int) := of_decide_eq_true (by first | (with_reducible assumption) | assumption)
                      obtain ⟨ad279, e279, hx279_0, hx279_1, hx279_2⟩ := at_T33 (Kd.R_reads' HO_6.out).2.2 x9_2 p279 q279
                      cases e279
                      replace p279 := eq_true p279
                      replace q279 := eq_true q279
                      go_wp2
                      repeat (go_quiet (fail); try go_wp2)
                      go_ret
                      exact ⟨by first | rfl | (simp [errW_none, errW_some] <;> rfl) | (simp [*, errW_none, errW_some] <;> rfl), by repeat (first | (with_reducible first | exact HB.out | apply below_alloc | apply pw_below_drewN | apply below_drew1) | exact HB.out)⟩
                  · rw [if_neg c24] at H
                    have c24b0 : decide (((rd_T33 t274 x9_2).f1) < 0) = false := decide_eq_false c24
                    clear c24
                    by_cases c26 : ((rd_T33 t274 x9_2).f1) ≥ (a0.size : Int)
                    · rw [if_pos c26] at H
                      have c26b0 : decide ((a0.size : Int) ≤ ((rd_T33 t274 x9_2).f1)) = true := decide_eq_true c26
                      clear c26
                      as_aux_lemma =>
                        obtain rfl := Option.some.inj H
                        obtain ⟨Ao27, co27, eo27⟩ := Kd.R_slice HO_6.out
                        subst eo27
                        have p279 : 0 ≤ (x9_2 : Int) := of_decide_eq_true (by first | (with_reducible assumption) | assumption)
                        have q279 : x9_2 < (t274.length : Int) := of_decide_eq_true (by first | (with_reducible assumption) | assumption)
                        obtain ⟨ad279, e279, hx279_0, hx279_1, hx279_2⟩ := at_T33 (Kd.R_reads' HO_6.out).2.2 x9_2 p279 q279
                        cases e279
                        replace p279 := eq_true p279
                        replace q279 := eq_true q279
                        have p280 : 0 ≤ (x9_2 : Int) := of_decide_eq_true (by first | (with_reducible assumption) | assumption)
                        have q280 : x9_2 < (t274.length : Int) := of_decide_eq_true (by first | (with_reducible assumption) | assumption)
                        obtain ⟨ad280, e280, hx280_0, hx280_1, hx280_2⟩ := at_T33 (Kd.R_reads' HO_6.out).2.2 x9_2 p280 q280
                        obtain rfl : ad279 = ad280 := (by injection e280)
                        replace p280 := eq_true p280
                        replace q280 := eq_true q280
                        go_wp2
                        repeat (go_quiet (fail); try go_wp2)
                        go_ret
                        exact ⟨by first | rfl | (simp [errW_none, errW_some] <;> rfl) | (simp [*, errW_none, errW_some] <;> rfl), by repeat (first | (with_reducible first | exact HB.out | apply below_alloc | apply pw_below_drewN | apply below_drew1) | exact HB.out)⟩
                    · rw [if_neg c26] at H
                      have c26b0 : decide ((a0.size : Int) ≤ ((rd_T33 t274 x9_2).f1)) = false := decide_eq_false c26
                      clear c26
                      by_cases c28 : x9_2 > 0
                      · rw [if_pos c28] at H
                        have c28b0 : decide (0 < x9_2) = true := decide_eq_true c28
                        clear c28
                        obtain ⟨ji29, hji29⟩ : ∃ j_ : Int, (wrap64 (x9_2 - 1)) = j_ := ⟨_, rfl⟩
                        replace H : (if 0 ≤ (ji29) then (if (ji29) < (t274.length : Int) then (if ((rd_T33 t274 (ji29)).f1) ≥ ((rd_T33 t274 x9_2).f1) then (some false) else (if ((rd_T33 t274 x9_2).f0) < 1 then (some false) else (if ((rd_T33 t274 x9_2).f0) > 9 then (some false) else (if ((rd_T33 t274 x9_2).f0) = 6 then (verbatimlaw17_LexerOrder.l0 k2 a0 a1 t273 t274 t275 (wrap64 (x9_2 + 1))) else (if ((rd_T33 t274 x9_2).f2).toList = ([] : List UInt8) then (verbatimlaw17_LexerOrder.l0 k2 a0 a1 t273 t274 t275 (wrap64 (x9_2 + 1))) else (some false)))))) else (none)) else (none)) = some r := by first | (rw [hji29] at H; exact H) | (simp only [hji29] at H ⊢; exact H)
                        have hji29w : (IntKind.i64.wrap (x9_2 - 1)) = ji29 := (i64_w _).trans hji29
                        by_cases c30 : 0 ≤ (ji29)
                        · rw [if_pos c30] at H
                          have c30b0 : decide (0 ≤ (ji29)) = true := decide_eq_true c30
                          clear c30
                          by_cases c31 : (ji29) < (t274.length : Int)
                          · rw [if_pos c31] at H
                            have c31b0 : decide ((ji29) < (t274.length : Int)) = true := decide_eq_true c31
                            clear c31
                            by_cases c32 : ((rd_T33 t274 (ji29)).f1) ≥ ((rd_T33 t274 x9_2).f1)
                            · rw [if_pos c32] at H
                              have c32b0 : decide (((rd_T33 t274 x9_2).f1) ≤ ((rd_T33 t274 (ji29)).f1)) = true := decide_eq_true c32
                              clear c32
                              as_aux_lemma =>
                                obtain rfl := Option.some.inj H
                                obtain ⟨Ao33, co33, eo33⟩ := Kd.R_slice HO_6.out
                                subst eo33
                                have p279 : 0 ≤ (x9_2 : Int) := of_decide_eq_true (by first | (with_reducible assumption) | assumption)
                                have q279 : x9_2 < (t274.length : Int) := of_decide_eq_true (by first | (with_reducible assumption) | assumption)
                                obtain ⟨ad279, e279, hx279_0, hx279_1, hx279_2⟩ := at_T33 (Kd.R_reads' HO_6.out).2.2 x9_2 p279 q279
                                cases e279
                                replace p279 := eq_true p279
                                replace q279 := eq_true q279
                                have p280 : 0 ≤ (x9_2 : Int) := of_decide_eq_true (by first | (with_reducible assumption) | assumption)
                                have q280 : x9_2 < (t274.length : Int) := of_decide_eq_true (by first | (with_reducible assumption) | assumption)
                                obtain ⟨ad280, e280, hx280_0, hx280_1, hx280_2⟩ := at_T33 (Kd.R_reads' HO_6.out).2.2 x9_2 p280 q280
                                obtain rfl : ad279 = ad280 := (by injection e280)
                                replace p280 := eq_true p280
                                replace q280 := eq_true q280
                                have p281 : 0 ≤ ((ji29) : Int) := of_decide_eq_true (by first | (with_reducible assumption) | assumption)
                                have q281 : (ji29) < (t274.length : Int) := of_decide_eq_true (by first | (with_reducible assumption) | assumption)
                                obtain ⟨ad281, e281, hx281_0, hx281_1, hx281_2⟩ := at_T33 (Kd.R_reads' HO_6.out).2.2 (ji29) p281 q281
                                obtain rfl : ad279 = ad281 := (by injection e281)
                                replace p281 := eq_true p281
                                replace q281 := eq_true q281
                                have p282 : 0 ≤ (x9_2 : Int) := of_decide_eq_true (by first | (with_reducible assumption) | assumption)
                                have q282 : x9_2 < (t274.length : Int) := of_decide_eq_true (by first | (with_reducible assumption) | assumption)
                                obtain ⟨ad282, e282, hx282_0, hx282_1, hx282_2⟩ := at_T33 (Kd.R_reads' HO_6.out).2.2 x9_2 p282 q282
                                obtain rfl : ad279 = ad282 := (by injection e282)
                                replace p282 := eq_true p282
                                replace q282 := eq_true q282
                                go_wp2
                                repeat (go_quiet (fail); try go_wp2)
                                go_ret
                                exact ⟨by first | rfl | (simp [errW_none, errW_some] <;> rfl) | (simp only [← hji29]; first | rfl | (simp [errW_none, errW_some] <;> rfl)) | (simp [*, errW_none, errW_some] <;> rfl), by repeat (first | (with_reducible first | exact HB.out | apply below_alloc | apply pw_below_drewN | apply below_drew1) | exact HB.out)⟩
                            · rw [if_neg c32] at H
                              have c32b0 : decide (((rd_T33 t274 x9_2).f1) ≤ ((rd_T33 t274 (ji29)).f1)) = false := decide_eq_false c32
                              clear c32
                              by_cases c34 : ((rd_T33 t274 x9_2).f0) < 1
                              · rw [if_pos c34] at H
                                have c34b0 : decide (((rd_T33 t274 x9_2).f0) < 1) = true := decide_eq_true c34
                                clear c34
                                as_aux_lemma =>
                                  obtain rfl := Option.some.inj H
                                  obtain ⟨Ao35, co35, eo35⟩ := Kd.R_slice HO_6.out
                                  subst eo35
                                  have p279 : 0 ≤ (x9_2 : Int) := of_decide_eq_true (by first | (with_reducible assumption) | assumption)
                                  have q279 : x9_2 < (t274.length : Int) := of_decide_eq_true (by first | (with_reducible assumption) | assumption)
                                  obtain ⟨ad279, e279, hx279_0, hx279_1, hx279_2⟩ := at_T33 (Kd.R_reads' HO_6.out).2.2 x9_2 p279 q279
                                  cases e279
                                  replace p279 := eq_true p279
                                  replace q279 := eq_true q279
                                  have p280 : 0 ≤ (x9_2 : Int) := of_decide_eq_true (by first | (with_reducible assumption) | assumption)
                                  have q280 : x9_2 < (t274.length : Int) := of_decide_eq_true (by first | (with_reducible assumption) | assumption)
                                  obtain ⟨ad280, e280, hx280_0, hx280_1, hx280_2⟩ := at_T33 (Kd.R_reads' HO_6.out).2.2 x9_2 p280 q280
                                  obtain rfl : ad279 = ad280 := (by injection e280)
                                  replace p280 := eq_true p280
                                  replace q280 := eq_true q280
                                  have p281 : 0 ≤ ((ji29) : Int) := of_decide_eq_true (by first | (with_reducible assumption) | assumption)
                                  have q281 : (ji29) < (t274.length : Int) := of_decide_eq_true (by first | (with_reducible assumption) | assumption)
                                  obtain ⟨ad281, e281, hx281_0, hx281_1, hx281_2⟩ := at_T33 (Kd.R_reads' HO_6.out).2.2 (ji29) p281 q281
                                  obtain rfl : ad279 = ad281 := (by injection e281)
                                  replace p281 := eq_true p281
                                  replace q281 := eq_true q281
                                  have p282 : 0 ≤ (x9_2 : Int) := of_decide_eq_true (by first | (with_reducible assumption) | assumption)
                                  have q282 : x9_2 < (t274.length : Int) := of_decide_eq_true (by first | (with_reducible assumption) | assumption)
                                  obtain ⟨ad282, e282, hx282_0, hx282_1, hx282_2⟩ := at_T33 (Kd.R_reads' HO_6.out).2.2 x9_2 p282 q282
                                  obtain rfl : ad279 = ad282 := (by injection e282)
                                  replace p282 := eq_true p282
                                  replace q282 := eq_true q282
                                  have p283 : 0 ≤ (x9_2 : Int) := of_decide_eq_true (by first | (with_reducible assumption) | assumption)
                                  have q283 : x9_2 < (t274.length : Int) := of_decide_eq_true (by first | (with_reducible assumption) | assumption)
                                  obtain ⟨ad283, e283, hx283_0, hx283_1, hx283_2⟩ := at_T33 (Kd.R_reads' HO_6.out).2.2 x9_2 p283 q283
                                  obtain rfl : ad279 = ad283 := (by injection e283)
                                  replace p283 := eq_true p283
                                  replace q283 := eq_true q283
                                  go_wp2
                                  repeat (go_quiet (fail); try go_wp2)
                                  go_ret
                                  exact ⟨by first | rfl | (simp [errW_none, errW_some] <;> rfl) | (simp only [← hji29]; first | rfl | (simp [errW_none, errW_some] <;> rfl)) | (simp [*, errW_none, errW_some] <;> rfl), by repeat (first | (with_reducible first | exact HB.out | apply below_alloc | apply pw_below_drewN | apply below_drew1) | exact HB.out)⟩
                              · rw [if_neg c34] at H
                                have c34b0 : decide (((rd_T33 t274 x9_2).f0) < 1) = false := decide_eq_false c34
                                clear c34
                                by_cases c36 : ((rd_T33 t274 x9_2).f0) > 9
                                · rw [if_pos c36] at H
                                  have c36b0 : decide (9 < ((rd_T33 t274 x9_2).f0)) = true := decide_eq_true c36
                                  clear c36
                                  as_aux_lemma =>
                                    obtain rfl := Option.some.inj H
                                    obtain ⟨Ao37, co37, eo37⟩ := Kd.R_slice HO_6.out
                                    subst eo37
                                    have p279 : 0 ≤ (x9_2 : Int) := of_decide_eq_true (by first | (with_reducible assumption) | assumption)
                                    have q279 : x9_2 < (t274.length : Int) := of_decide_eq_true (by first | (with_reducible assumption) | assumption)
                                    obtain ⟨ad279, e279, hx279_0, hx279_1, hx279_2⟩ := at_T33 (Kd.R_reads' HO_6.out).2.2 x9_2 p279 q279
                                    cases e279
                                    replace p279 := eq_true p279
                                    replace q279 := eq_true q279
                                    have p280 : 0 ≤ (x9_2 : Int) := of_decide_eq_true (by first | (with_reducible assumption) | assumption)
                                    have q280 : x9_2 < (t274.length : Int) := of_decide_eq_true (by first | (with_reducible assumption) | assumption)
                                    obtain ⟨ad280, e280, hx280_0, hx280_1, hx280_2⟩ := at_T33 (Kd.R_reads' HO_6.out).2.2 x9_2 p280 q280
                                    obtain rfl : ad279 = ad280 := (by injection e280)
                                    replace p280 := eq_true p280
                                    replace q280 := eq_true q280
                                    have p281 : 0 ≤ ((ji29) : Int) := of_decide_eq_true (by first | (with_reducible assumption) | assumption)
                                    have q281 : (ji29) < (t274.length : Int) := of_decide_eq_true (by first | (with_reducible assumption) | assumption)
                                    obtain ⟨ad281, e281, hx281_0, hx281_1, hx281_2⟩ := at_T33 (Kd.R_reads' HO_6.out).2.2 (ji29) p281 q281
                                    obtain rfl : ad279 = ad281 := (by injection e281)
                                    replace p281 := eq_true p281
                                    replace q281 := eq_true q281
                                    have p282 : 0 ≤ (x9_2 : Int) := of_decide_eq_true (by first | (with_reducible assumption) | assumption)
                                    have q282 : x9_2 < (t274.length : Int) := of_decide_eq_true (by first | (with_reducible assumption) | assumption)
                                    obtain ⟨ad282, e282, hx282_0, hx282_1, hx282_2⟩ := at_T33 (Kd.R_reads' HO_6.out).2.2 x9_2 p282 q282
                                    obtain rfl : ad279 = ad282 := (by injection e282)
                                    replace p282 := eq_true p282
                                    replace q282 := eq_true q282
                                    have p283 : 0 ≤ (x9_2 : Int) := of_decide_eq_true (by first | (with_reducible assumption) | assumption)
                                    have q283 : x9_2 < (t274.length : Int) := of_decide_eq_true (by first | (with_reducible assumption) | assumption)
                                    obtain ⟨ad283, e283, hx283_0, hx283_1, hx283_2⟩ := at_T33 (Kd.R_reads' HO_6.out).2.2 x9_2 p283 q283
                                    obtain rfl : ad279 = ad283 := (by injection e283)
                                    replace p283 := eq_true p283
                                    replace q283 := eq_true q283
                                    have p284 : 0 ≤ (x9_2 : Int) := of_decide_eq_true (by first | (with_reducible assumption) | assumption)
                                    have q284 : x9_2 < (t274.length : Int) := of_decide_eq_true (by first | (with_reducible assumption) | assumption)
                                    obtain ⟨ad284, e284, hx284_0, hx284_1, hx284_2⟩ := at_T33 (Kd.R_reads' HO_6.out).2.2 x9_2 p284 q284
                                    obtain rfl : ad279 = ad284 := (by injection e284)
                                    replace p284 := eq_true p284
                                    replace q284 := eq_true q284
                                    go_wp2
                                    repeat (go_quiet (fail); try go_wp2)
                                    go_ret
                                    exact ⟨by first | rfl | (simp [errW_none, errW_some] <;> rfl) | (simp only [← hji29]; first | rfl | (simp [errW_none, errW_some] <;> rfl)) | (simp [*, errW_none, errW_some] <;> rfl), by repeat (first | (with_reducible first | exact HB.out | apply below_alloc | apply pw_below_drewN | apply below_drew1) | exact HB.out)⟩
                                · rw [if_neg c36] at H
                                  have c36b0 : decide (9 < ((rd_T33 t274 x9_2).f0)) = false := decide_eq_false c36
                                  clear c36
                                  by_cases c38 : ((rd_T33 t274 x9_2).f0) = 6
                                  · rw [if_pos c38] at H
                                    have c38b0 : (((rd_T33 t274 x9_2).f0) == 6) = true := beq_iff_eq.mpr c38
                                    have c38b1 : (((rd_T33 t274 x9_2).f0) != 6) = false := bne_eq_false_iff_eq.mpr c38
                                    clear c38
                                    as_aux_lemma =>
                                      have H' := Aside0.mk H
                                      clear H
                                      obtain ⟨Ao39, co39, eo39⟩ := Kd.R_slice HO_6.out
                                      subst eo39
                                      have p279 : 0 ≤ (x9_2 : Int) := of_decide_eq_true (by first | (with_reducible assumption) | assumption)
                                      have q279 : x9_2 < (t274.length : Int) := of_decide_eq_true (by first | (with_reducible assumption) | assumption)
                                      obtain ⟨ad279, e279, hx279_0, hx279_1, hx279_2⟩ := at_T33 (Kd.R_reads' HO_6.out).2.2 x9_2 p279 q279
                                      cases e279
                                      replace p279 := eq_true p279
                                      replace q279 := eq_true q279
                                      have p280 : 0 ≤ (x9_2 : Int) := of_decide_eq_true (by first | (with_reducible assumption) | assumption)
                                      have q280 : x9_2 < (t274.length : Int) := of_decide_eq_true (by first | (with_reducible assumption) | assumption)
                                      obtain ⟨ad280, e280, hx280_0, hx280_1, hx280_2⟩ := at_T33 (Kd.R_reads' HO_6.out).2.2 x9_2 p280 q280
                                      obtain rfl : ad279 = ad280 := (by injection e280)
                                      replace p280 := eq_true p280
                                      replace q280 := eq_true q280
                                      have p281 : 0 ≤ ((ji29) : Int) := of_decide_eq_true (by first | (with_reducible assumption) | assumption)
                                      have q281 : (ji29) < (t274.length : Int) := of_decide_eq_true (by first | (with_reducible assumption) | assumption)
                                      obtain ⟨ad281, e281, hx281_0, hx281_1, hx281_2⟩ := at_T33 (Kd.R_reads' HO_6.out).2.2 (ji29) p281 q281
                                      obtain rfl : ad279 = ad281 := (by injection e281)
                                      replace p281 := eq_true p281
                                      replace q281 := eq_true q281
                                      have p282 : 0 ≤ (x9_2 : Int) := of_decide_eq_true (by first | (with_reducible assumption) | assumption)
                                      have q282 : x9_2 < (t274.length : Int) := of_decide_eq_true (by first | (with_reducible assumption) | assumption)
                                      obtain ⟨ad282, e282, hx282_0, hx282_1, hx282_2⟩ := at_T33 (Kd.R_reads' HO_6.out).2.2 x9_2 p282 q282
                                      obtain rfl : ad279 = ad282 := (by injection e282)
                                      replace p282 := eq_true p282
                                      replace q282 := eq_true q282
                                      have p283 : 0 ≤ (x9_2 : Int) := of_decide_eq_true (by first | (with_reducible assumption) | assumption)
                                      have q283 : x9_2 < (t274.length : Int) := of_decide_eq_true (by first | (with_reducible assumption) | assumption)
                                      obtain ⟨ad283, e283, hx283_0, hx283_1, hx283_2⟩ := at_T33 (Kd.R_reads' HO_6.out).2.2 x9_2 p283 q283
                                      obtain rfl : ad279 = ad283 := (by injection e283)
                                      replace p283 := eq_true p283
                                      replace q283 := eq_true q283
                                      have p284 : 0 ≤ (x9_2 : Int) := of_decide_eq_true (by first | (with_reducible assumption) | assumption)
                                      have q284 : x9_2 < (t274.length : Int) := of_decide_eq_true (by first | (with_reducible assumption) | assumption)
                                      obtain ⟨ad284, e284, hx284_0, hx284_1, hx284_2⟩ := at_T33 (Kd.R_reads' HO_6.out).2.2 x9_2 p284 q284
                                      obtain rfl : ad279 = ad284 := (by injection e284)
                                      replace p284 := eq_true p284
                                      replace q284 := eq_true q284
                                      have p285 : 0 ≤ (x9_2 : Int) := of_decide_eq_true (by first | (with_reducible assumption) | assumption)
                                      have q285 : x9_2 < (t274.length : Int) := of_decide_eq_true (by first | (with_reducible assumption) | assumption)
                                      obtain ⟨ad285, e285, hx285_0, hx285_1, hx285_2⟩ := at_T33 (Kd.R_reads' HO_6.out).2.2 x9_2 p285 q285
                                      obtain rfl : ad279 = ad285 := (by injection e285)
                                      replace p285 := eq_true p285
                                      replace q285 := eq_true q285
                                      go_wp2
                                      repeat (go_quiet (fail); try go_wp2)
                                      go_roundg k2
                                      case measure => have := HJ6.out; have := HK2.out; omega
                                      case rel => exact ⟨(wrap64 (x9_2 + 1)), (by first | rfl | (simp; done) | (simp [*]; done)), H', ⟨by have := HJ6.out; have := HK2.out; omega⟩, ⟨by (with_reducible repeat (first | apply Kd.R_alloc | apply Kd.R_drewN | apply Kd.R_drew)); exact HO_6.out⟩, ⟨by repeat (first | (with_reducible first | exact HB.out | apply below_alloc | apply pw_below_drewN | apply below_drew1) | exact HB.out)⟩⟩
                                  · rw [if_neg c38] at H
                                    have c38b0 : (((rd_T33 t274 x9_2).f0) == 6) = false := beq_eq_false_iff_ne.mpr c38
                                    have c38b1 : (((rd_T33 t274 x9_2).f0) != 6) = true := bne_iff_ne.mpr c38
                                    by_cases c40 : ((rd_T33 t274 x9_2).f2).toList = ([] : List UInt8)
                                    · rw [if_pos c40] at H
                                      have c40b0 : (((rd_T33 t274 x9_2).f2).toList == ([] : List UInt8)) = true := beq_iff_eq.mpr c40
                                      have c40b1 : (((rd_T33 t274 x9_2).f2).toList != ([] : List UInt8)) = false := bne_eq_false_iff_eq.mpr c40
                                      clear c40
                                      as_aux_lemma =>
                                        have H' := Aside0.mk H
                                        clear H
                                        obtain ⟨Ao41, co41, eo41⟩ := Kd.R_slice HO_6.out
                                        subst eo41
                                        have p279 : 0 ≤ (x9_2 : Int) := of_decide_eq_true (by first | (with_reducible assumption) | assumption)
                                        have q279 : x9_2 < (t274.length : Int) := of_decide_eq_true (by first | (with_reducible assumption) | assumption)
                                        obtain ⟨ad279, e279, hx279_0, hx279_1, hx279_2⟩ := at_T33 (Kd.R_reads' HO_6.out).2.2 x9_2 p279 q279
                                        cases e279
                                        replace p279 := eq_true p279
                                        replace q279 := eq_true q279
                                        have p280 : 0 ≤ (x9_2 : Int) := of_decide_eq_true (by first | (with_reducible assumption) | assumption)
                                        have q280 : x9_2 < (t274.length : Int) := of_decide_eq_true (by first | (with_reducible assumption) | assumption)
                                        obtain ⟨ad280, e280, hx280_0, hx280_1, hx280_2⟩ := at_T33 (Kd.R_reads' HO_6.out).2.2 x9_2 p280 q280
                                        obtain rfl : ad279 = ad280 := (by injection e280)
                                        replace p280 := eq_true p280
                                        replace q280 := eq_true q280
                                        have p281 : 0 ≤ ((ji29) : Int) := of_decide_eq_true (by first | (with_reducible assumption) | assumption)
                                        have q281 : (ji29) < (t274.length : Int) := of_decide_eq_true (by first | (with_reducible assumption) | assumption)
                                        obtain ⟨ad281, e281, hx281_0, hx281_1, hx281_2⟩ := at_T33 (Kd.R_reads' HO_6.out).2.2 (ji29) p281 q281
                                        obtain rfl : ad279 = ad281 := (by injection e281)
                                        replace p281 := eq_true p281
                                        replace q281 := eq_true q281
                                        have p282 : 0 ≤ (x9_2 : Int) := of_decide_eq_true (by first | (with_reducible assumption) | assumption)
                                        have q282 : x9_2 < (t274.length : Int) := of_decide_eq_true (by first | (with_reducible assumption) | assumption)
                                        obtain ⟨ad282, e282, hx282_0, hx282_1, hx282_2⟩ := at_T33 (Kd.R_reads' HO_6.out).2.2 x9_2 p282 q282
                                        obtain rfl : ad279 = ad282 := (by injection e282)
                                        replace p282 := eq_true p282
                                        replace q282 := eq_true q282
                                        have p283 : 0 ≤ (x9_2 : Int) := of_decide_eq_true (by first | (with_reducible assumption) | assumption)
                                        have q283 : x9_2 < (t274.length : Int) := of_decide_eq_true (by first | (with_reducible assumption) | assumption)
                                        obtain ⟨ad283, e283, hx283_0, hx283_1, hx283_2⟩ := at_T33 (Kd.R_reads' HO_6.out).2.2 x9_2 p283 q283
                                        obtain rfl : ad279 = ad283 := (by injection e283)
                                        replace p283 := eq_true p283
                                        replace q283 := eq_true q283
                                        have p284 : 0 ≤ (x9_2 : Int) := of_decide_eq_true (by first | (with_reducible assumption) | assumption)
                                        have q284 : x9_2 < (t274.length : Int) := of_decide_eq_true (by first | (with_reducible assumption) | assumption)
                                        obtain ⟨ad284, e284, hx284_0, hx284_1, hx284_2⟩ := at_T33 (Kd.R_reads' HO_6.out).2.2 x9_2 p284 q284
                                        obtain rfl : ad279 = ad284 := (by injection e284)
                                        replace p284 := eq_true p284
                                        replace q284 := eq_true q284
                                        have p285 : 0 ≤ (x9_2 : Int) := of_decide_eq_true (by first | (with_reducible assumption) | assumption)
                                        have q285 : x9_2 < (t274.length : Int) := of_decide_eq_true (by first | (with_reducible assumption) | assumption)
                                        obtain ⟨ad285, e285, hx285_0, hx285_1, hx285_2⟩ := at_T33 (Kd.R_reads' HO_6.out).2.2 x9_2 p285 q285
                                        obtain rfl : ad279 = ad285 := (by injection e285)
                                        replace p285 := eq_true p285
                                        replace q285 := eq_true q285
                                        have p286 : 0 ≤ (x9_2 : Int) := of_decide_eq_true (by first | (with_reducible assumption) | assumption)
                                        have q286 : x9_2 < (t274.length : Int) := of_decide_eq_true (by first | (with_reducible assumption) | assumption)
                                        obtain ⟨ad286, e286, hx286_0, hx286_1, hx286_2⟩ := at_T33 (Kd.R_reads' HO_6.out).2.2 x9_2 p286 q286
                                        obtain rfl : ad279 = ad286 := (by injection e286)
                                        replace p286 := eq_true p286
                                        replace q286 := eq_true q286
                                        go_wp2
                                        repeat (go_quiet (fail); try go_wp2)
                                        go_roundg k2
                                        case measure => have := HJ6.out; have := HK2.out; omega
                                        case rel => exact ⟨(wrap64 (x9_2 + 1)), (by first | rfl | (simp; done) | (simp [*]; done)), H', ⟨by have := HJ6.out; have := HK2.out; omega⟩, ⟨by (with_reducible repeat (first | apply Kd.R_alloc | apply Kd.R_drewN | apply Kd.R_drew)); exact HO_6.out⟩, ⟨by repeat (first | (with_reducible first | exact HB.out | apply below_alloc | apply pw_below_drewN | apply below_drew1) | exact HB.out)⟩⟩
                                    · rw [if_neg c40] at H
                                      have c40b0 : (((rd_T33 t274 x9_2).f2).toList == ([] : List UInt8)) = false := beq_eq_false_iff_ne.mpr c40
                                      have c40b1 : (((rd_T33 t274 x9_2).f2).toList != ([] : List UInt8)) = true := bne_iff_ne.mpr c40
                                      as_aux_lemma =>
                                        obtain rfl := Option.some.inj H
                                        obtain ⟨Ao42, co42, eo42⟩ := Kd.R_slice HO_6.out
                                        subst eo42
                                        have p279 : 0 ≤ (x9_2 : Int) := of_decide_eq_true (by first | (with_reducible assumption) | assumption)
                                        have q279 : x9_2 < (t274.length : Int) := of_decide_eq_true (by first | (with_reducible assumption) | assumption)
                                        obtain ⟨ad279, e279, hx279_0, hx279_1, hx279_2⟩ := at_T33 (Kd.R_reads' HO_6.out).2.2 x9_2 p279 q279
                                        cases e279
                                        replace p279 := eq_true p279
                                        replace q279 := eq_true q279
                                        have p280 : 0 ≤ (x9_2 : Int) := of_decide_eq_true (by first | (with_reducible assumption) | assumption)
                                        have q280 : x9_2 < (t274.length : Int) := of_decide_eq_true (by first | (with_reducible assumption) | assumption)
                                        obtain ⟨ad280, e280, hx280_0, hx280_1, hx280_2⟩ := at_T33 (Kd.R_reads' HO_6.out).2.2 x9_2 p280 q280
                                        obtain rfl : ad279 = ad280 := (by injection e280)
                                        replace p280 := eq_true p280
                                        replace q280 := eq_true q280
                                        have p281 : 0 ≤ ((ji29) : Int) := of_decide_eq_true (by first | (with_reducible assumption) | assumption)
                                        have q281 : (ji29) < (t274.length : Int) := of_decide_eq_true (by first | (with_reducible assumption) | assumption)
                                        obtain ⟨ad281, e281, hx281_0, hx281_1, hx281_2⟩ := at_T33 (Kd.R_reads' HO_6.out).2.2 (ji29) p281 q281
                                        obtain rfl : ad279 = ad281 := (by injection e281)
                                        replace p281 := eq_true p281
                                        replace q281 := eq_true q281
                                        have p282 : 0 ≤ (x9_2 : Int) := of_decide_eq_true (by first | (with_reducible assumption) | assumption)
                                        have q282 : x9_2 < (t274.length : Int) := of_decide_eq_true (by first | (with_reducible assumption) | assumption)
                                        obtain ⟨ad282, e282, hx282_0, hx282_1, hx282_2⟩ := at_T33 (Kd.R_reads' HO_6.out).2.2 x9_2 p282 q282
                                        obtain rfl : ad279 = ad282 := (by injection e282)
                                        replace p282 := eq_true p282
                                        replace q282 := eq_true q282
                                        have p283 : 0 ≤ (x9_2 : Int) := of_decide_eq_true (by first | (with_reducible assumption) | assumption)
                                        have q283 : x9_2 < (t274.length : Int) := of_decide_eq_true (by first | (with_reducible assumption) | assumption)
                                        obtain ⟨ad283, e283, hx283_0, hx283_1, hx283_2⟩ := at_T33 (Kd.R_reads' HO_6.out).2.2 x9_2 p283 q283
                                        obtain rfl : ad279 = ad283 := (by injection e283)
                                        replace p283 := eq_true p283
                                        replace q283 := eq_true q283
                                        have p284 : 0 ≤ (x9_2 : Int) := of_decide_eq_true (by first | (with_reducible assumption) | assumption)
                                        have q284 : x9_2 < (t274.length : Int) := of_decide_eq_true (by first | (with_reducible assumption) | assumption)
                                        obtain ⟨ad284, e284, hx284_0, hx284_1, hx284_2⟩ := at_T33 (Kd.R_reads' HO_6.out).2.2 x9_2 p284 q284
                                        obtain rfl : ad279 = ad284 := (by injection e284)
                                        replace p284 := eq_true p284
                                        replace q284 := eq_true q284
                                        have p285 : 0 ≤ (x9_2 : Int) := of_decide_eq_true (by first | (with_reducible assumption) | assumption)
                                        have q285 : x9_2 < (t274.length : Int) := of_decide_eq_true (by first | (with_reducible assumption) | assumption)
                                        obtain ⟨ad285, e285, hx285_0, hx285_1, hx285_2⟩ := at_T33 (Kd.R_reads' HO_6.out).2.2 x9_2 p285 q285
                                        obtain rfl : ad279 = ad285 := (by injection e285)
                                        replace p285 := eq_true p285
                                        replace q285 := eq_true q285
                                        have p286 : 0 ≤ (x9_2 : Int) := of_decide_eq_true (by first | (with_reducible assumption) | assumption)
                                        have q286 : x9_2 < (t274.length : Int) := of_decide_eq_true (by first | (with_reducible assumption) | assumption)
                                        obtain ⟨ad286, e286, hx286_0, hx286_1, hx286_2⟩ := at_T33 (Kd.R_reads' HO_6.out).2.2 x9_2 p286 q286
                                        obtain rfl : ad279 = ad286 := (by injection e286)
                                        replace p286 := eq_true p286
                                        replace q286 := eq_true q286
                                        go_wp2
                                        repeat (go_quiet (fail); try go_wp2)
                                        go_ret
                                        exact ⟨by first | rfl | (simp [errW_none, errW_some] <;> rfl) | (simp only [← hji29]; first | rfl | (simp [errW_none, errW_some] <;> rfl)) | (simp [*, errW_none, errW_some] <;> rfl), by repeat (first | (with_reducible first | exact HB.out | apply below_alloc | apply pw_below_drewN | apply below_drew1) | exact HB.out)⟩
                          · rw [if_neg c31] at H
                            exact absurd H (by simp)
                        · rw [if_neg c30] at H
                          exact absurd H (by simp)
                      · rw [if_neg c28] at H
                        have c28b0 : decide (0 < x9_2) = false := decide_eq_false c28
                        clear c28
                        by_cases c43 : ((rd_T33 t274 x9_2).f0) < 1
                        · rw [if_pos c43] at H
                          have c43b0 : decide (((rd_T33 t274 x9_2).f0) < 1) = true := decide_eq_true c43
                          clear c43
                          as_aux_lemma =>
                            obtain rfl := Option.some.inj H
                            obtain ⟨Ao44, co44, eo44⟩ := Kd.R_slice HO_6.out
                            subst eo44
                            have p279 : 0 ≤ (x9_2 : Int) := of_decide_eq_true (by first | (with_reducible assumption) | assumption)
                            have q279 : x9_2 < (t274.length : Int) := of_decide_eq_true (by first | (with_reducible assumption) | assumption)
                            obtain ⟨ad279, e279, hx279_0, hx279_1, hx279_2⟩ := at_T33 (Kd.R_reads' HO_6.out).2.2 x9_2 p279 q279
                            cases e279
                            replace p279 := eq_true p279
                            replace q279 := eq_true q279
                            have p280 : 0 ≤ (x9_2 : Int) := of_decide_eq_true (by first | (with_reducible assumption) | assumption)
                            have q280 : x9_2 < (t274.length : Int) := of_decide_eq_true (by first | (with_reducible assumption) | assumption)
                            obtain ⟨ad280, e280, hx280_0, hx280_1, hx280_2⟩ := at_T33 (Kd.R_reads' HO_6.out).2.2 x9_2 p280 q280
                            obtain rfl : ad279 = ad280 := (by injection e280)
                            replace p280 := eq_true p280
                            replace q280 := eq_true q280
                            have p287 : 0 ≤ (x9_2 : Int) := of_decide_eq_true (by first | (with_reducible assumption) | assumption)
                            have q287 : x9_2 < (t274.length : Int) := of_decide_eq_true (by first | (with_reducible assumption) | assumption)
                            obtain ⟨ad287, e287, hx287_0, hx287_1, hx287_2⟩ := at_T33 (Kd.R_reads' HO_6.out).2.2 x9_2 p287 q287
                            obtain rfl : ad279 = ad287 := (by injection e287)
                            replace p287 := eq_true p287
                            replace q287 := eq_true q287
                            go_wp2
                            repeat (go_quiet (fail); try go_wp2)
                            go_ret
                            exact ⟨by first | rfl | (simp [errW_none, errW_some] <;> rfl) | (simp [*, errW_none, errW_some] <;> rfl), by repeat (first | (with_reducible first | exact HB.out | apply below_alloc | apply pw_below_drewN | apply below_drew1) | exact HB.out)⟩
                        · rw [if_neg c43] at H
                          have c43b0 : decide (((rd_T33 t274 x9_2).f0) < 1) = false := decide_eq_false c43
                          clear c43
                          by_cases c45 : ((rd_T33 t274 x9_2).f0) > 9
                          · rw [if_pos c45] at H
                            have c45b0 : decide (9 < ((rd_T33 t274 x9_2).f0)) = true := decide_eq_true c45
                            clear c45
                            as_aux_lemma =>
                              obtain rfl := Option.some.inj H
                              obtain ⟨Ao46, co46, eo46⟩ := Kd.R_slice HO_6.out
                              subst eo46
                              have p279 : 0 ≤ (x9_2 : Int) := of_decide_eq_true (by first | (with_reducible assumption) | assumption)
                              have q279 : x9_2 < (t274.length : Int) := of_decide_eq_true (by first | (with_reducible assumption) | assumption)
                              obtain ⟨ad279, e279, hx279_0, hx279_1, hx279_2⟩ := at_T33 (Kd.R_reads' HO_6.out).2.2 x9_2 p279 q279
                              cases e279
                              replace p279 := eq_true p279
                              replace q279 := eq_true q279
                              have p280 : 0 ≤ (x9_2 : Int) := of_decide_eq_true (by first | (with_reducible assumption) | assumption)
                              have q280 : x9_2 < (t274.length : Int) := of_decide_eq_true (by first | (with_reducible assumption) | assumption)
                              obtain ⟨ad280, e280, hx280_0, hx280_1, hx280_2⟩ := at_T33 (Kd.R_reads' HO_6.out).2.2 x9_2 p280 q280
                              obtain rfl : ad279 = ad280 := (by injection e280)
                              replace p280 := eq_true p280
                              replace q280 := eq_true q280
                              have p287 : 0 ≤ (x9_2 : Int) := of_decide_eq_true (by first | (with_reducible assumption) | assumption)
                              have q287 : x9_2 < (t274.length : Int) := of_decide_eq_true (by first | (with_reducible assumption) | assumption)
                              obtain ⟨ad287, e287, hx287_0, hx287_1, hx287_2⟩ := at_T33 (Kd.R_reads' HO_6.out).2.2 x9_2 p287 q287
                              obtain rfl : ad279 = ad287 := (by injection e287)
                              replace p287 := eq_true p287
                              replace q287 := eq_true q287
                              have p288 : 0 ≤ (x9_2 : Int) := of_decide_eq_true (by first | (with_reducible assumption) | assumption)
                              have q288 : x9_2 < (t274.length : Int) := of_decide_eq_true (by first | (with_reducible assumption) | assumption)
                              obtain ⟨ad288, e288, hx288_0, hx288_1, hx288_2⟩ := at_T33 (Kd.R_reads' HO_6.out).2.2 x9_2 p288 q288
                              obtain rfl : ad279 = ad288 := (by injection e288)
                              replace p288 := eq_true p288
                              replace q288 := eq_true q288
                              go_wp2
                              repeat (go_quiet (fail); try go_wp2)
                              go_ret
                              exact ⟨by first | rfl | (simp [errW_none, errW_some] <;> rfl) | (simp [*, errW_none, errW_some] <;> rfl), by repeat (first | (with_reducible first | exact HB.out | apply below_alloc | apply pw_below_drewN | apply below_drew1) | exact HB.out)⟩
                          · rw [if_neg c45] at H
                            have c45b0 : decide (9 < ((rd_T33 t274 x9_2).f0)) = false := decide_eq_false c45
                            clear c45
                            by_cases c47 : ((rd_T33 t274 x9_2).f0) = 6
                            · rw [if_pos c47] at H
                              have c47b0 : (((rd_T33 t274 x9_2).f0) == 6) = true := beq_iff_eq.mpr c47
                              have c47b1 : (((rd_T33 t274 x9_2).f0) != 6) = false := bne_eq_false_iff_eq.mpr c47
                              clear c47
                              as_aux_lemma =>
                                have H' := Aside0.mk H
                                clear H
                                obtain ⟨Ao48, co48, eo48⟩ := Kd.R_slice HO_6.out
                                subst eo48
                                have p279 : 0 ≤ (x9_2 : Int) := of_decide_eq_true (by first | (with_reducible assumption) | assumption)
                                have q279 : x9_2 < (t274.length : Int) := of_decide_eq_true (by first | (with_reducible assumption) | assumption)
                                obtain ⟨ad279, e279, hx279_0, hx279_1, hx279_2⟩ := at_T33 (Kd.R_reads' HO_6.out).2.2 x9_2 p279 q279
                                cases e279
                                replace p279 := eq_true p279
                                replace q279 := eq_true q279
                                have p280 : 0 ≤ (x9_2 : Int) := of_decide_eq_true (by first | (with_reducible assumption) | assumption)
                                have q280 : x9_2 < (t274.length : Int) := of_decide_eq_true (by first | (with_reducible assumption) | assumption)
                                obtain ⟨ad280, e280, hx280_0, hx280_1, hx280_2⟩ := at_T33 (Kd.R_reads' HO_6.out).2.2 x9_2 p280 q280
                                obtain rfl : ad279 = ad280 := (by injection e280)
                                replace p280 := eq_true p280
                                replace q280 := eq_true q280
                                have p287 : 0 ≤ (x9_2 : Int) := of_decide_eq_true (by first | (with_reducible assumption) | assumption)
                                have q287 : x9_2 < (t274.length : Int) := of_decide_eq_true (by first | (with_reducible assumption) | assumption)
                                obtain ⟨ad287, e287, hx287_0, hx287_1, hx287_2⟩ := at_T33 (Kd.R_reads' HO_6.out).2.2 x9_2 p287 q287
                                obtain rfl : ad279 = ad287 := (by injection e287)
                                replace p287 := eq_true p287
                                replace q287 := eq_true q287
                                have p288 : 0 ≤ (x9_2 : Int) := of_decide_eq_true (by first | (with_reducible assumption) | assumption)
                                have q288 : x9_2 < (t274.length : Int) := of_decide_eq_true (by first | (with_reducible assumption) | assumption)
                                obtain ⟨ad288, e288, hx288_0, hx288_1, hx288_2⟩ := at_T33 (Kd.R_reads' HO_6.out).2.2 x9_2 p288 q288
                                obtain rfl : ad279 = ad288 := (by injection e288)
                                replace p288 := eq_true p288
                                replace q288 := eq_true q288
                                have p289 : 0 ≤ (x9_2 : Int) := of_decide_eq_true (by first | (with_reducible assumption) | assumption)
                                have q289 : x9_2 < (t274.length : Int) := of_decide_eq_true (by first | (with_reducible assumption) | assumption)
                                obtain ⟨ad289, e289, hx289_0, hx289_1, hx289_2⟩ := at_T33 (Kd.R_reads' HO_6.out).2.2 x9_2 p289 q289
                                obtain rfl : ad279 = ad289 := (by injection e289)
                                replace p289 := eq_true p289
                                replace q289 := eq_true q289
                                go_wp2
                                repeat (go_quiet (fail); try go_wp2)
                                go_roundg k2
                                case measure => have := HJ6.out; have := HK2.out; omega
                                case rel => exact ⟨(wrap64 (x9_2 + 1)), (by first | rfl | (simp; done) | (simp [*]; done)), H', ⟨by have := HJ6.out; have := HK2.out; omega⟩, ⟨by (with_reducible repeat (first | apply Kd.R_alloc | apply Kd.R_drewN | apply Kd.R_drew)); exact HO_6.out⟩, ⟨by repeat (first | (with_reducible first | exact HB.out | apply below_alloc | apply pw_below_drewN | apply below_drew1) | exact HB.out)⟩⟩
                            · rw [if_neg c47] at H
                              have c47b0 : (((rd_T33 t274 x9_2).f0) == 6) = false := beq_eq_false_iff_ne.mpr c47
                              have c47b1 : (((rd_T33 t274 x9_2).f0) != 6) = true := bne_iff_ne.mpr c47
                              by_cases c49 : ((rd_T33 t274 x9_2).f2).toList = ([] : List UInt8)
                              · rw [if_pos c49] at H
                                have c49b0 : (((rd_T33 t274 x9_2).f2).toList == ([] : List UInt8)) = true := beq_iff_eq.mpr c49
                                have c49b1 : (((rd_T33 t274 x9_2).f2).toList != ([] : List UInt8)) = false := bne_eq_false_iff_eq.mpr c49
                                clear c49
                                as_aux_lemma =>
                                  have H' := Aside0.mk H
                                  clear H
                                  obtain ⟨Ao50, co50, eo50⟩ := Kd.R_slice HO_6.out
                                  subst eo50
                                  have p279 : 0 ≤ (x9_2 : Int) := of_decide_eq_true (by first | (with_reducible assumption) | assumption)
                                  have q279 : x9_2 < (t274.length : Int) := of_decide_eq_true (by first | (with_reducible assumption) | assumption)
                                  obtain ⟨ad279, e279, hx279_0, hx279_1, hx279_2⟩ := at_T33 (Kd.R_reads' HO_6.out).2.2 x9_2 p279 q279
                                  cases e279
                                  replace p279 := eq_true p279
                                  replace q279 := eq_true q279
                                  have p280 : 0 ≤ (x9_2 : Int) := of_decide_eq_true (by first | (with_reducible assumption) | assumption)
                                  have q280 : x9_2 < (t274.length : Int) := of_decide_eq_true (by first | (with_reducible assumption) | assumption)
                                  obtain ⟨ad280, e280, hx280_0, hx280_1, hx280_2⟩ := at_T33 (Kd.R_reads' HO_6.out).2.2 x9_2 p280 q280
                                  obtain rfl : ad279 = ad280 := (by injection e280)
                                  replace p280 := eq_true p280
                                  replace q280 := eq_true q280
                                  have p287 : 0 ≤ (x9_2 : Int) := of_decide_eq_true (by first | (with_reducible assumption) | assumption)
                                  have q287 : x9_2 < (t274.length : Int) := of_decide_eq_true (by first | (with_reducible assumption) | assumption)
                                  obtain ⟨ad287, e287, hx287_0, hx287_1, hx287_2⟩ := at_T33 (Kd.R_reads' HO_6.out).2.2 x9_2 p287 q287
                                  obtain rfl : ad279 = ad287 := (by injection e287)
                                  replace p287 := eq_true p287
                                  replace q287 := eq_true q287
                                  have p288 : 0 ≤ (x9_2 : Int) := of_decide_eq_true (by first | (with_reducible assumption) | assumption)
                                  have q288 : x9_2 < (t274.length : Int) := of_decide_eq_true (by first | (with_reducible assumption) | assumption)
                                  obtain ⟨ad288, e288, hx288_0, hx288_1, hx288_2⟩ := at_T33 (Kd.R_reads' HO_6.out).2.2 x9_2 p288 q288
                                  obtain rfl : ad279 = ad288 := (by injection e288)
                                  replace p288 := eq_true p288
                                  replace q288 := eq_true q288
                                  have p289 : 0 ≤ (x9_2 : Int) := of_decide_eq_true (by first | (with_reducible assumption) | assumption)
                                  have q289 : x9_2 < (t274.length : Int) := of_decide_eq_true (by first | (with_reducible assumption) | assumption)
                                  obtain ⟨ad289, e289, hx289_0, hx289_1, hx289_2⟩ := at_T33 (Kd.R_reads' HO_6.out).2.2 x9_2 p289 q289
                                  obtain rfl : ad279 = ad289 := (by injection e289)
                                  replace p289 := eq_true p289
                                  replace q289 := eq_true q289
                                  have p290 : 0 ≤ (x9_2 : Int) := of_decide_eq_true (by first | (with_reducible assumption) | assumption)
                                  have q290 : x9_2 < (t274.length : Int) := of_decide_eq_true (by first | (with_reducible assumption) | assumption)
                                  obtain ⟨ad290, e290, hx290_0, hx290_1, hx290_2⟩ := at_T33 (Kd.R_reads' HO_6.out).2.2 x9_2 p290 q290
                                  obtain rfl : ad279 = ad290 := (by injection e290)
                                  replace p290 := eq_true p290
                                  replace q290 := eq_true q290
                                  go_wp2
                                  repeat (go_quiet (fail); try go_wp2)
                                  go_roundg k2
                                  case measure => have := HJ6.out; have := HK2.out; omega
                                  case rel => exact ⟨(wrap64 (x9_2 + 1)), (by first | rfl | (simp; done) | (simp [*]; done)), H', ⟨by have := HJ6.out; have := HK2.out; omega⟩, ⟨by (with_reducible repeat (first | apply Kd.R_alloc | apply Kd.R_drewN | apply Kd.R_drew)); exact HO_6.out⟩, ⟨by repeat (first | (with_reducible first | exact HB.out | apply below_alloc | apply pw_below_drewN | apply below_drew1) | exact HB.out)⟩⟩
                              · rw [if_neg c49] at H
                                have c49b0 : (((rd_T33 t274 x9_2).f2).toList == ([] : List UInt8)) = false := beq_eq_false_iff_ne.mpr c49
                                have c49b1 : (((rd_T33 t274 x9_2).f2).toList != ([] : List UInt8)) = true := bne_iff_ne.mpr c49
                                as_aux_lemma =>
                                  obtain rfl := Option.some.inj H
                                  obtain ⟨Ao51, co51, eo51⟩ := Kd.R_slice HO_6.out
                                  subst eo51
                                  have p279 : 0 ≤ (x9_2 : Int) := of_decide_eq_true (by first | (with_reducible assumption) | assumption)
                                  have q279 : x9_2 < (t274.length : Int) := of_decide_eq_true (by first | (with_reducible assumption) | assumption)
                                  obtain ⟨ad279, e279, hx279_0, hx279_1, hx279_2⟩ := at_T33 (Kd.R_reads' HO_6.out).2.2 x9_2 p279 q279
                                  cases e279
                                  replace p279 := eq_true p279
                                  replace q279 := eq_true q279
                                  have p280 : 0 ≤ (x9_2 : Int) := of_decide_eq_true (by first | (with_reducible assumption) | assumption)
                                  have q280 : x9_2 < (t274.length : Int) := of_decide_eq_true (by first | (with_reducible assumption) | assumption)
                                  obtain ⟨ad280, e280, hx280_0, hx280_1, hx280_2⟩ := at_T33 (Kd.R_reads' HO_6.out).2.2 x9_2 p280 q280
                                  obtain rfl : ad279 = ad280 := (by injection e280)
                                  replace p280 := eq_true p280
                                  replace q280 := eq_true q280
                                  have p287 : 0 ≤ (x9_2 : Int) := of_decide_eq_true (by first | (with_reducible assumption) | assumption)
                                  have q287 : x9_2 < (t274.length : Int) := of_decide_eq_true (by first | (with_reducible assumption) | assumption)
                                  obtain ⟨ad287, e287, hx287_0, hx287_1, hx287_2⟩ := at_T33 (Kd.R_reads' HO_6.out).2.2 x9_2 p287 q287
                                  obtain rfl : ad279 = ad287 := (by injection e287)
                                  replace p287 := eq_true p287
                                  replace q287 := eq_true q287
                                  have p288 : 0 ≤ (x9_2 : Int) := of_decide_eq_true (by first | (with_reducible assumption) | assumption)
                                  have q288 : x9_2 < (t274.length : Int) := of_decide_eq_true (by first | (with_reducible assumption) | assumption)
                                  obtain ⟨ad288, e288, hx288_0, hx288_1, hx288_2⟩ := at_T33 (Kd.R_reads' HO_6.out).2.2 x9_2 p288 q288
                                  obtain rfl : ad279 = ad288 := (by injection e288)
                                  replace p288 := eq_true p288
                                  replace q288 := eq_true q288
                                  have p289 : 0 ≤ (x9_2 : Int) := of_decide_eq_true (by first | (with_reducible assumption) | assumption)
                                  have q289 : x9_2 < (t274.length : Int) := of_decide_eq_true (by first | (with_reducible assumption) | assumption)
                                  obtain ⟨ad289, e289, hx289_0, hx289_1, hx289_2⟩ := at_T33 (Kd.R_reads' HO_6.out).2.2 x9_2 p289 q289
                                  obtain rfl : ad279 = ad289 := (by injection e289)
                                  replace p289 := eq_true p289
                                  replace q289 := eq_true q289
                                  have p290 : 0 ≤ (x9_2 : Int) := of_decide_eq_true (by first | (with_reducible assumption) | assumption)
                                  have q290 : x9_2 < (t274.length : Int) := of_decide_eq_true (by first | (with_reducible assumption) | assumption)
                                  obtain ⟨ad290, e290, hx290_0, hx290_1, hx290_2⟩ := at_T33 (Kd.R_reads' HO_6.out).2.2 x9_2 p290 q290
                                  obtain rfl : ad279 = ad290 := (by injection e290)
                                  replace p290 := eq_true p290
                                  replace q290 := eq_true q290
                                  go_wp2
                                  repeat (go_quiet (fail); try go_wp2)
                                  go_ret
                                  exact ⟨by first | rfl | (simp [errW_none, errW_some] <;> rfl) | (simp [*, errW_none, errW_some] <;> rfl), by repeat (first | (with_reducible first | exact HB.out | apply below_alloc | apply pw_below_drewN | apply below_drew1) | exact HB.out)⟩
                · rw [if_neg c23] at H
                  exact absurd H (by simp)
              · rw [if_neg c22] at H
                have c22b0 : decide (x9_2 < (t274.length : Int)) = false := decide_eq_false c22
                clear c22
                by_cases c52 : (wrap64 ((a0.size : Int) + 1)) = 0
                · rw [if_pos c52] at H
                  exact absurd H (by simp)
                · rw [if_neg c52] at H
                  have c52b0 : ((wrap64 ((a0.size : Int) + 1)) == 0) = false := beq_eq_false_iff_ne.mpr c52
                  have c52b1 : ((wrap64 ((a0.size : Int) + 1)) != 0) = true := bne_iff_ne.mpr c52
                  obtain ⟨ji53, hji53⟩ : ∃ j_ : Int, (Int.tmod (wrap64 (a1)) (wrap64 ((a0.size : Int) + 1))) = j_ := ⟨_, rfl⟩
                  replace H : (if 0 ≤ (ji53) then (if (ji53) ≤ (a0.size : Int) then ((lexer_Split.f k2 (a0.extract 0 ((ji53) : Int).toNat)).bind fun bt291 => (verbatimlaw17_LexerOrder.l1 k2 t273 t274 t275 bt291.1 bt291.2.1 0)) else (none)) else (none)) = some r := by first | (rw [hji53] at H; exact H) | (simp only [hji53] at H ⊢; exact H)
                  by_cases c54 : 0 ≤ (ji53)
                  · rw [if_pos c54] at H
                    have c54b0 := eq_true c54
                    have c54b1 : decide (0 ≤ (ji53)) = true := decide_eq_true c54
                    clear c54
                    by_cases c55 : (ji53) ≤ (a0.size : Int)
                    · rw [if_pos c55] at H
                      have c55b0 := eq_true c55
                      have c55b1 : decide ((ji53) ≤ (a0.size : Int)) = true := decide_eq_true c55
                      clear c55
                      replace H := Option.bind_eq_some_iff.mp H
                      obtain ⟨⟨t291, t292, t293⟩, A560, H⟩ := H
                      replace H : (verbatimlaw17_LexerOrder.l1 k2 t273 t274 t275 t291 t292 0) = some r := H
                      have A56 := Aside0.mk A560
                      clear A560
                      have H' := Aside0.mk H
                      clear H
                      obtain ⟨Ao57, co57, eo57⟩ := Kd.R_slice HO_6.out
                      subst eo57
                      go_wp2_with (first | (go_at_call 10; (with_reducible refine (lexer_Split.calls k2 (a0.extract 0 ((ji53) : Int).toNat) t291 t292 t293 _ A56.out).mono ?_); rintro e w58 ⟨v294, rfl, ho0, hb⟩; have n0_ := Aside0.mk (Kd.R_elder' (by (with_reducible repeat (first | apply Kd.R_alloc | apply Kd.R_drewN | apply Kd.R_drew)); exact HO_6.out) (Kd.R_base ho0) hb); have n1_ := Aside0.mk (Kd.R_lower (Kd.R_new' ho0 (Kd.R_lt (by (with_reducible repeat (first | apply Kd.R_alloc | apply Kd.R_drewN | apply Kd.R_drew)); exact HO_6.out))) (below_size (by repeat (first | (with_reducible first | exact HB.out | apply below_alloc | apply pw_below_drewN | apply below_drew1) | exact HB.out)))); have n2_ := Aside0.mk (below_step (by repeat (first | (with_reducible first | exact HB.out | apply below_alloc | apply pw_below_drewN | apply below_drew1) | exact HB.out)) hb); clear HO_6; clear HB; have HO_6 := n0_; have HO295 := n1_; have HB := n2_; clear n0_ n1_ n2_; (try clear hb); (try clear hb2); (try clear hk); (try clear hi); (try clear ho0)))
                      repeat (go_quiet (first | (go_at_call 10; (with_reducible refine (lexer_Split.calls k2 (a0.extract 0 ((ji53) : Int).toNat) t291 t292 t293 _ A56.out).mono ?_); rintro e w58 ⟨v294, rfl, ho0, hb⟩; have n0_ := Aside0.mk (Kd.R_elder' (by (with_reducible repeat (first | apply Kd.R_alloc | apply Kd.R_drewN | apply Kd.R_drew)); exact HO_6.out) (Kd.R_base ho0) hb); have n1_ := Aside0.mk (Kd.R_lower (Kd.R_new' ho0 (Kd.R_lt (by (with_reducible repeat (first | apply Kd.R_alloc | apply Kd.R_drewN | apply Kd.R_drew)); exact HO_6.out))) (below_size (by repeat (first | (with_reducible first | exact HB.out | apply below_alloc | apply pw_below_drewN | apply below_drew1) | exact HB.out)))); have n2_ := Aside0.mk (below_step (by repeat (first | (with_reducible first | exact HB.out | apply below_alloc | apply pw_below_drewN | apply below_drew1) | exact HB.out)) hb); clear HO_6; clear HB; have HO_6 := n0_; have HO295 := n1_; have HB := n2_; clear n0_ n1_ n2_; (try clear hb); (try clear hb2); (try clear hk); (try clear hi); (try clear ho0))); try go_wp2_with (first | (go_at_call 10; (with_reducible refine (lexer_Split.calls k2 (a0.extract 0 ((ji53) : Int).toNat) t291 t292 t293 _ A56.out).mono ?_); rintro e w58 ⟨v294, rfl, ho0, hb⟩; have n0_ := Aside0.mk (Kd.R_elder' (by (with_reducible repeat (first | apply Kd.R_alloc | apply Kd.R_drewN | apply Kd.R_drew)); exact HO_6.out) (Kd.R_base ho0) hb); have n1_ := Aside0.mk (Kd.R_lower (Kd.R_new' ho0 (Kd.R_lt (by (with_reducible repeat (first | apply Kd.R_alloc | apply Kd.R_drewN | apply Kd.R_drew)); exact HO_6.out))) (below_size (by repeat (first | (with_reducible first | exact HB.out | apply below_alloc | apply pw_below_drewN | apply below_drew1) | exact HB.out)))); have n2_ := Aside0.mk (below_step (by repeat (first | (with_reducible first | exact HB.out | apply below_alloc | apply pw_below_drewN | apply below_drew1) | exact HB.out)) hb); clear HO_6; clear HB; have HO_6 := n0_; have HO295 := n1_; have HB := n2_; clear n0_ n1_ n2_; (try clear hb); (try clear hb2); (try clear hk); (try clear hi); (try clear ho0))))
                      go_loopg [14] k2 (fun kq v14 w' => ∃ (x14_3 : Int), v14 = .int .i64 x14_3 ∧ Aside0 (verbatimlaw17_LexerOrder.l1 kq t273 t274 t275 t291 t292 x14_3 = some r) ∧ Aside0 (kq ≤ k2) ∧ Aside0 (Kd.R k33 33 w' w.heap.size (fun k_ => some k_ ≠ (v294 : Value).ownBlock) (.slice Ao57 t274.length co57) t274) ∧ Aside0 (Kd.R k33 33 w' w.heap.size (fun k_ => some k_ ≠ ((.slice Ao57 t274.length co57) : Value).ownBlock) v294 t291) ∧ Aside0 (Below w.heap.size w w'))
                      case atStart => exact ⟨(0), (by first | rfl | (simp; done) | (simp [*]; done)), H', ⟨Nat.le_refl _⟩, ⟨by (with_reducible repeat (first | apply Kd.R_alloc | apply Kd.R_drewN | apply Kd.R_drew)); exact Kd.R_mono HO_6.out (fun _ hk => hk.2)⟩, ⟨by (with_reducible repeat (first | apply Kd.R_alloc | apply Kd.R_drewN | apply Kd.R_drew)); exact Kd.R_mono HO295.out (fun _ hk => hk.2)⟩, ⟨by repeat (first | (with_reducible first | exact HB.out | apply below_alloc | apply pw_below_drewN | apply below_drew1) | exact HB.out)⟩⟩
                      case round => as_aux_lemma =>
                        clear H'
                        try clear c2
                        try clear p2
                        try clear q2
                        try clear hx2
                        try clear c3
                        try clear c4
                        try clear c5
                        try clear p6
                        try clear c22
                        try clear c22b0
                        try clear c23
                        try clear c26
                        try clear c26b0
                        try clear p27
                        try clear q27
                        try clear hx27
                        try clear c28
                        try clear c28b0
                        try clear p28
                        try clear q28
                        try clear hx28
                        try clear p29
                        try clear q29
                        try clear hx29
                        try clear c30
                        try clear c30b0
                        try clear c31
                        try clear c31b0
                        try clear c32
                        try clear c32b0
                        try clear c34
                        try clear c34b0
                        try clear c36
                        try clear c36b0
                        try clear c38
                        try clear c38b0
                        try clear c38b1
                        try clear c40
                        try clear c40b0
                        try clear c40b1
                        try clear c43
                        try clear c43b0
                        try clear c45
                        try clear c45b0
                        try clear c47
                        try clear c47b0
                        try clear c47b1
                        try clear c49
                        try clear c49b0
                        try clear c49b1
                        try clear c52
                        try clear c52b0
                        try clear c52b1
                        try clear c54
                        try clear c54b0
                        try clear c54b1
                        try clear c55
                        try clear c55b0
                        try clear c55b1
                        try clear hx279_0
                        try clear hx279_1
                        try clear hx279_2
                        try clear hx280_0
                        try clear hx280_1
                        try clear hx280_2
                        try clear hx281_0
                        try clear hx281_1
                        try clear hx281_2
                        try clear hx282_0
                        try clear hx282_1
                        try clear hx282_2
                        try clear hx283_0
                        try clear hx283_1
                        try clear hx283_2
                        try clear hx284_0
                        try clear hx284_1
                        try clear hx284_2
                        try clear hx285_0
                        try clear hx285_1
                        try clear hx285_2
                        try clear hx286_0
                        try clear hx286_1
                        try clear hx286_2
                        try clear hx287_0
                        try clear hx287_1
                        try clear hx287_2
                        try clear hx288_0
                        try clear hx288_1
                        try clear hx288_2
                        try clear hx289_0
                        try clear hx289_1
                        try clear hx289_2
                        try clear hx290_0
                        try clear hx290_1
                        try clear hx290_2
                        try clear p279
                        try clear p280
                        try clear p281
                        try clear p282
                        try clear p283
                        try clear p284
                        try clear p285
                        try clear p286
                        try clear p287
                        try clear p288
                        try clear p289
                        try clear p290
                        try clear q279
                        try clear q280
                        try clear q281
                        try clear q282
                        try clear q283
                        try clear q284
                        try clear q285
                        try clear q286
                        try clear q287
                        try clear q288
                        try clear q289
                        try clear q290
                        obtain ⟨x14_3, rfl, HA, HK3, HO_6, HO_11, HB⟩ := hrel
                        cases gk with
                        | zero => exact absurd HA.out (by simp [verbatimlaw17_LexerOrder.l1])
                        | succ k3 =>
                          have H := HA.out
                          clear HA
                          simp only [verbatimlaw17_LexerOrder.l1] at H
                          have HC59 := Aside0.mk H
                          clear H
                          go_upto_region 15 with (fail)
                          repeat (go_quiet (fail); go_upto_region 15 with (fail))
                          go_cut [152] (fun v152 wc => ∃ (kq : Nat) (x152_58 : Bool), v152 = .bool x152_58 ∧ Aside0 (verbatimlaw17_LexerOrder.j3 kq t273 t274 t275 t291 t292 x14_3 x152_58 = some r) ∧ Aside0 (kq ≤ k3) ∧ Aside0 (Kd.R k33 33 wc w.heap.size (fun k_ => some k_ ≠ (v294 : Value).ownBlock) (.slice Ao57 t274.length co57) t274) ∧ Aside0 (Kd.R k33 33 wc w.heap.size (fun k_ => some k_ ≠ ((.slice Ao57 t274.length co57) : Value).ownBlock) v294 t291) ∧ Aside0 (Below w.heap.size w wc))
                          case first =>
                            have H := HC59.out
                            clear HC59
                            by_cases c60 : x14_3 < (t291.length : Int)
                            · rw [if_pos c60] at H
                              have c60b0 : decide (x14_3 < (t291.length : Int)) = true := decide_eq_true c60
                              clear c60
                              (first | rw [c60b0] | (simp only [i64_w, i32_w]; rw [c60b0]) | skip)
                              by_cases c61 : t292 = 0
                              · rw [if_pos c61] at H
                                have c61b0 : (t292 == 0) = true := beq_iff_eq.mpr c61
                                have c61b1 : (t292 != 0) = false := bne_eq_false_iff_eq.mpr c61
                                clear c61
                                as_aux_lemma =>
                                  have H' := Aside0.mk H
                                  clear H
                                  obtain ⟨Ao62, co62, eo62⟩ := Kd.R_slice HO_11.out
                                  subst eo62
                                  go_wp2
                                  repeat (go_quiet (fail); try go_wp2)
                                  go_meet
                                  case rel => exact ⟨_, ((t275 == 0)), (by first | rfl | (simp; done) | (simp [*]; done)), H', ⟨by have := HJ6.out; have := HK2.out; have := HK3.out; first | omega | exact Nat.le_refl _⟩, ⟨by (with_reducible repeat (first | apply Kd.R_alloc | apply Kd.R_drewN | apply Kd.R_drew)); exact HO_6.out⟩, ⟨by (with_reducible repeat (first | apply Kd.R_alloc | apply Kd.R_drewN | apply Kd.R_drew)); exact HO_11.out⟩, ⟨by repeat (first | (with_reducible first | exact HB.out | apply below_alloc | apply pw_below_drewN | apply below_drew1) | exact HB.out)⟩⟩
                              · rw [if_neg c61] at H
                                have c61b0 : (t292 == 0) = false := beq_eq_false_iff_ne.mpr c61
                                have c61b1 : (t292 != 0) = true := bne_iff_ne.mpr c61
                                as_aux_lemma =>
                                  have H' := Aside0.mk H
                                  clear H
                                  obtain ⟨Ao63, co63, eo63⟩ := Kd.R_slice HO_11.out
                                  subst eo63
                                  go_wp2
                                  repeat (go_quiet (fail); try go_wp2)
                                  go_meet
                                  case rel => exact ⟨_, (false), (by first | rfl | (simp; done) | (simp [*]; done)), H', ⟨by have := HJ6.out; have := HK2.out; have := HK3.out; first | omega | exact Nat.le_refl _⟩, ⟨by (with_reducible repeat (first | apply Kd.R_alloc | apply Kd.R_drewN | apply Kd.R_drew)); exact HO_6.out⟩, ⟨by (with_reducible repeat (first | apply Kd.R_alloc | apply Kd.R_drewN | apply Kd.R_drew)); exact HO_11.out⟩, ⟨by repeat (first | (with_reducible first | exact HB.out | apply below_alloc | apply pw_below_drewN | apply below_drew1) | exact HB.out)⟩⟩
                            · rw [if_neg c60] at H
                              have c60b0 : decide (x14_3 < (t291.length : Int)) = false := decide_eq_false c60
                              clear c60
                              (first | rw [c60b0] | (simp only [i64_w, i32_w]; rw [c60b0]) | skip)
                              as_aux_lemma =>
                                have H' := Aside0.mk H
                                clear H
                                obtain ⟨Ao64, co64, eo64⟩ := Kd.R_slice HO_11.out
                                subst eo64
                                go_wp2
                                repeat (go_quiet (fail); try go_wp2)
                                go_meet
                                case rel => exact ⟨_, (false), (by first | rfl | (simp; done) | (simp [*]; done)), H', ⟨by have := HJ6.out; have := HK2.out; have := HK3.out; first | omega | exact Nat.le_refl _⟩, ⟨by (with_reducible repeat (first | apply Kd.R_alloc | apply Kd.R_drewN | apply Kd.R_drew)); exact HO_6.out⟩, ⟨by (with_reducible repeat (first | apply Kd.R_alloc | apply Kd.R_drewN | apply Kd.R_drew)); exact HO_11.out⟩, ⟨by repeat (first | (with_reducible first | exact HB.out | apply below_alloc | apply pw_below_drewN | apply below_drew1) | exact HB.out)⟩⟩
                          case rest =>
                            clear HC59
                            try clear c2
                            try clear p2
                            try clear q2
                            try clear hx2
                            try clear c3
                            try clear c4
                            try clear c5
                            try clear c6
                            try clear p6
                            try clear c22
                            try clear c22b0
                            try clear c23
                            try clear c26
                            try clear c26b0
                            try clear p27
                            try clear q27
                            try clear hx27
                            try clear c28
                            try clear c28b0
                            try clear p28
                            try clear q28
                            try clear hx28
                            try clear p29
                            try clear q29
                            try clear hx29
                            try clear c30
                            try clear c30b0
                            try clear c31
                            try clear c31b0
                            try clear c32
                            try clear c32b0
                            try clear c34
                            try clear c34b0
                            try clear c36
                            try clear c36b0
                            try clear c38
                            try clear c38b0
                            try clear c38b1
                            try clear c40
                            try clear c40b0
                            try clear c40b1
                            try clear c43
                            try clear c43b0
                            try clear c45
                            try clear c45b0
                            try clear c47
                            try clear c47b0
                            try clear c47b1
                            try clear c49
                            try clear c49b0
                            try clear c49b1
                            try clear c52
                            try clear c52b0
                            try clear c52b1
                            try clear c54
                            try clear c54b0
                            try clear c54b1
                            try clear c55
                            try clear c55b0
                            try clear c55b1
                            try clear c60
                            try clear c60b0
                            try clear c61
                            try clear c61b0
                            try clear c61b1
                            try clear p64
                            try clear hx279_0
                            try clear hx279_1
                            try clear hx279_2
                            try clear hx280_0
                            try clear hx280_1
                            try clear hx280_2
                            try clear hx281_0
                            try clear hx281_1
                            try clear hx281_2
                            try clear hx282_0
                            try clear hx282_1
                            try clear hx282_2
                            try clear hx283_0
                            try clear hx283_1
                            try clear hx283_2
                            try clear hx284_0
                            try clear hx284_1
                            try clear hx284_2
                            try clear hx285_0
                            try clear hx285_1
                            try clear hx285_2
                            try clear hx286_0
                            try clear hx286_1
                            try clear hx286_2
                            try clear hx287_0
                            try clear hx287_1
                            try clear hx287_2
                            try clear hx288_0
                            try clear hx288_1
                            try clear hx288_2
                            try clear hx289_0
                            try clear hx289_1
                            try clear hx289_2
                            try clear hx290_0
                            try clear hx290_1
                            try clear hx290_2
                            try clear p2
                            try clear p27
                            try clear p279
                            try clear p28
                            try clear p280
                            try clear p281
                            try clear p282
                            try clear p283
                            try clear p284
                            try clear p285
                            try clear p286
                            try clear p287
                            try clear p288
                            try clear p289
                            try clear p29
                            try clear p290
                            try clear p6
                            try clear q2
                            try clear q27
                            try clear q279
                            try clear q28
                            try clear q280
                            try clear q281
                            try clear q282
                            try clear q283
                            try clear q284
                            try clear q285
                            try clear q286
                            try clear q287
                            try clear q288
                            try clear q289
                            try clear q29
                            try clear q290
                            obtain ⟨kq, x152_58, rfl, HA, HJ58, HO_6, HO_11, HB⟩ := hcut
                            cases kq with
                            | zero => exact absurd HA.out (by simp [verbatimlaw17_LexerOrder.j3])
                            | succ kj58 =>
                              have H := HA.out
                              clear HA
                              simp only [verbatimlaw17_LexerOrder.j3] at H
                              by_cases c65 : x152_58 = true
                              · subst c65
                                have H1 : (if x14_3 ≥ (t274.length : Int) then (some false) else (if 0 ≤ x14_3 then (if x14_3 < (t274.length : Int) then (if x14_3 < (t291.length : Int) then (if ((rd_T33 t274 x14_3).f1) = ((rd_T33 t291 x14_3).f1) then (verbatimlaw17_LexerOrder.l1 kj58 t273 t274 t275 t291 t292 (wrap64 (x14_3 + 1))) else (some false)) else (none)) else (none)) else (none))) = some r := by rw [if_pos rfl] at H; exact H
                                clear H
                                have H := H1
                                clear H1
                                by_cases c66 : x14_3 ≥ (t274.length : Int)
                                · rw [if_pos c66] at H
                                  have c66b0 : decide ((t274.length : Int) ≤ x14_3) = true := decide_eq_true c66
                                  clear c66
                                  as_aux_lemma =>
                                    obtain rfl := Option.some.inj H
                                    go_wp2
                                    repeat (go_quiet (fail); try go_wp2)
                                    go_ret
                                    exact ⟨by first | rfl | (simp [errW_none, errW_some] <;> rfl) | (simp only [← hji53]; first | rfl | (simp [errW_none, errW_some] <;> rfl)) | (simp [*, errW_none, errW_some] <;> rfl), by repeat (first | (with_reducible first | exact HB.out | apply below_alloc | apply pw_below_drewN | apply below_drew1) | exact HB.out)⟩
                                · rw [if_neg c66] at H
                                  have c66b0 : decide ((t274.length : Int) ≤ x14_3) = false := decide_eq_false c66
                                  clear c66
                                  by_cases c67 : 0 ≤ x14_3
                                  · rw [if_pos c67] at H
                                    have c67b0 : decide (0 ≤ x14_3) = true := decide_eq_true c67
                                    clear c67
                                    by_cases c68 : x14_3 < (t274.length : Int)
                                    · rw [if_pos c68] at H
                                      have c68b0 : decide (x14_3 < (t274.length : Int)) = true := decide_eq_true c68
                                      clear c68
                                      by_cases c69 : x14_3 < (t291.length : Int)
                                      · rw [if_pos c69] at H
                                        have c69b0 : decide (x14_3 < (t291.length : Int)) = true := decide_eq_true c69
                                        clear c69
                                        by_cases c70 : ((rd_T33 t274 x14_3).f1) = ((rd_T33 t291 x14_3).f1)
                                        · rw [if_pos c70] at H
                                          have c70b0 : (((rd_T33 t274 x14_3).f1) == ((rd_T33 t291 x14_3).f1)) = true := beq_iff_eq.mpr c70
                                          have c70b1 : (((rd_T33 t274 x14_3).f1) != ((rd_T33 t291 x14_3).f1)) = false := bne_eq_false_iff_eq.mpr c70
                                          clear c70
                                          as_aux_lemma =>
                                            have H' := Aside0.mk H
                                            clear H
                                            have p296 : 0 ≤ (x14_3 : Int) := of_decide_eq_true (by first | (with_reducible assumption) | assumption)
                                            have q296 : x14_3 < (t274.length : Int) := of_decide_eq_true (by first | (with_reducible assumption) | assumption)
                                            obtain ⟨ad296, e296, hx296_0, hx296_1, hx296_2⟩ := at_T33 (Kd.R_reads' HO_6.out).2.2 x14_3 p296 q296
                                            cases e296
                                            replace p296 := eq_true p296
                                            replace q296 := eq_true q296
                                            obtain ⟨Ao71, co71, eo71⟩ := Kd.R_slice HO_11.out
                                            subst eo71
                                            have p297 : 0 ≤ (x14_3 : Int) := of_decide_eq_true (by first | (with_reducible assumption) | assumption)
                                            have q297 : x14_3 < (t291.length : Int) := of_decide_eq_true (by first | (with_reducible assumption) | assumption)
                                            obtain ⟨ad297, e297, hx297_0, hx297_1, hx297_2⟩ := at_T33 (Kd.R_reads' HO_11.out).2.2 x14_3 p297 q297
                                            cases e297
                                            replace p297 := eq_true p297
                                            replace q297 := eq_true q297
                                            go_wp2
                                            repeat (go_quiet (fail); try go_wp2)
                                            go_roundg kj58
                                            case measure => have := HJ6.out; have := HK2.out; have := HK3.out; have := HJ58.out; omega
                                            case rel => exact ⟨(wrap64 (x14_3 + 1)), (by first | rfl | (simp; done) | (simp [*]; done)), H', ⟨by have := HJ6.out; have := HK2.out; have := HK3.out; have := HJ58.out; omega⟩, ⟨by (with_reducible repeat (first | apply Kd.R_alloc | apply Kd.R_drewN | apply Kd.R_drew)); exact HO_6.out⟩, ⟨by (with_reducible repeat (first | apply Kd.R_alloc | apply Kd.R_drewN | apply Kd.R_drew)); exact HO_11.out⟩, ⟨by repeat (first | (with_reducible first | exact HB.out | apply below_alloc | apply pw_below_drewN | apply below_drew1) | exact HB.out)⟩⟩
                                        · rw [if_neg c70] at H
                                          have c70b0 : (((rd_T33 t274 x14_3).f1) == ((rd_T33 t291 x14_3).f1)) = false := beq_eq_false_iff_ne.mpr c70
                                          have c70b1 : (((rd_T33 t274 x14_3).f1) != ((rd_T33 t291 x14_3).f1)) = true := bne_iff_ne.mpr c70
                                          as_aux_lemma =>
                                            obtain rfl := Option.some.inj H
                                            have p296 : 0 ≤ (x14_3 : Int) := of_decide_eq_true (by first | (with_reducible assumption) | assumption)
                                            have q296 : x14_3 < (t274.length : Int) := of_decide_eq_true (by first | (with_reducible assumption) | assumption)
                                            obtain ⟨ad296, e296, hx296_0, hx296_1, hx296_2⟩ := at_T33 (Kd.R_reads' HO_6.out).2.2 x14_3 p296 q296
                                            cases e296
                                            replace p296 := eq_true p296
                                            replace q296 := eq_true q296
                                            obtain ⟨Ao72, co72, eo72⟩ := Kd.R_slice HO_11.out
                                            subst eo72
                                            have p297 : 0 ≤ (x14_3 : Int) := of_decide_eq_true (by first | (with_reducible assumption) | assumption)
                                            have q297 : x14_3 < (t291.length : Int) := of_decide_eq_true (by first | (with_reducible assumption) | assumption)
                                            obtain ⟨ad297, e297, hx297_0, hx297_1, hx297_2⟩ := at_T33 (Kd.R_reads' HO_11.out).2.2 x14_3 p297 q297
                                            cases e297
                                            replace p297 := eq_true p297
                                            replace q297 := eq_true q297
                                            go_wp2
                                            repeat (go_quiet (fail); try go_wp2)
                                            go_ret
                                            exact ⟨by first | rfl | (simp [errW_none, errW_some] <;> rfl) | (simp only [← hji53]; first | rfl | (simp [errW_none, errW_some] <;> rfl)) | (simp [*, errW_none, errW_some] <;> rfl), by repeat (first | (with_reducible first | exact HB.out | apply below_alloc | apply pw_below_drewN | apply below_drew1) | exact HB.out)⟩
                                      · rw [if_neg c69] at H
                                        exact absurd H (by simp)
                                    · rw [if_neg c68] at H
                                      exact absurd H (by simp)
                                  · rw [if_neg c67] at H
                                    exact absurd H (by simp)
                              · replace c65 := Bool.eq_false_iff.mpr c65
                                subst c65
                                have H1 : (some t273) = some r := by rw [if_neg (show ¬ (false = true) by decide)] at H; exact H
                                clear H
                                have H := H1
                                clear H1
                                as_aux_lemma =>
                                  obtain rfl := Option.some.inj H
                                  go_wp2
                                  repeat (go_quiet (fail); try go_wp2)
                                  go_ret
                                  exact ⟨by first | rfl | (simp [errW_none, errW_some] <;> rfl) | (simp only [← hji53]; first | rfl | (simp [errW_none, errW_some] <;> rfl)) | (simp [*, errW_none, errW_some] <;> rfl), by repeat (first | (with_reducible first | exact HB.out | apply below_alloc | apply pw_below_drewN | apply below_drew1) | exact HB.out)⟩
                    · rw [if_neg c55] at H
                      exact absurd H (by simp)
                  · rw [if_neg c54] at H
                    exact absurd H (by simp)

/-- THE ONE PURE STATEMENT of verbatimlaw17_LexerOrder. -/
def verbatimlaw17_LexerOrder.Pure : Prop := ∀ (a0 : ByteArray) (a1 : Int), a0.size ≤ 140737488351232 → (Lit.int .u16 a1).wf = true → ∃ k, verbatimlaw17_LexerOrder.f k a0 a1 = some true

end Go.Proofs.YtfoijdahgkngpaaDoor.L
