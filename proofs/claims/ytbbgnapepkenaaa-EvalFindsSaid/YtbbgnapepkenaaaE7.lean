-- Written for this claim by a program of this session (over the kit's print tool): functions as Lean functions, their contracts, rows. Lean checks it.
import Derived.Test.YtbbgnapepkenaaaE0
import Derived.Test.YtbbgnapepkenaaaE2
import Derived.Test.YtbbgnapepkenaaaE4
namespace Go.Proofs.Ytbbgnapepkenaaa.E
open Go.RowKit Go.Proofs.YtbbgnapepkenaaaW.PrintWords Go.Proofs.YtbbgnapepkenaaaW.PrintLast Go.Proofs.YtbbgnapepkenaaaW.PrintMore
attribute [local go_sem] max2_int min2_int max_two min_two max_three min_three max_four min_four   -- for this text's walks alone
set_option linter.unusedVariables false
set_option linter.unusedSimpArgs false

/-! ### verbatimlaw20_EvalFinds: function 8 -/
mutual
def verbatimlaw20_EvalFinds.j0 : Nat → List ByteArray → List ByteArray → Bool → Bool → Option (Bool)
  | 0, _, _, _, _ => none
  | k + 1, x0, x1, x5, x21 => if x21 = true then (some x5) else (verbatimlaw20_EvalFinds.l0 k x0 x1 x5 (⟨#[]⟩ : ByteArray) ([] : List Int) 0)
def verbatimlaw20_EvalFinds.l0 : Nat → List ByteArray → List ByteArray → Bool → ByteArray → List Int → Int → Option (Bool)
  | 0, _, _, _, _, _, _ => none
  | k + 1, x0, x1, x5, x6, x7, x8 => if x8 < (x0.length : Int) then (if x8 < (x1.length : Int) then (if 0 ≤ x8 then (verbatimlaw20_EvalFinds.j2 k x0 x1 x5 x6 x7 x8 (decide (((rdOf ByteArray.empty x1 x8).size : Int) < 200))) else (none)) else (verbatimlaw20_EvalFinds.j2 k x0 x1 x5 x6 x7 x8 false)) else ((eval_Find.f k x0 x6).bind fun bt188 => (if bt188.2 = true then (verbatimlaw20_EvalFinds.j3 k x0 x5 x6 x7 bt188.1 ((bt188.1.length : Int) != (x0.length : Int))) else (verbatimlaw20_EvalFinds.j3 k x0 x5 x6 x7 bt188.1 true)))
def verbatimlaw20_EvalFinds.j2 : Nat → List ByteArray → List ByteArray → Bool → ByteArray → List Int → Int → Bool → Option (Bool)
  | 0, _, _, _, _, _, _, _ => none
  | k + 1, x0, x1, x5, x6, x7, x8, x40 => if x40 = true then (if 0 ≤ x8 then (if x8 < (x1.length : Int) then (if x6.size + (rdOf ByteArray.empty x1 x8).size ≤ 9223372036854775807 then (if x8 < (x0.length : Int) then (if ((rdOf ByteArray.empty x0 x8).size : Int) > 200 then (some x5) else (if (x6 ++ (rdOf ByteArray.empty x1 x8)).size + (rdOf ByteArray.empty x0 x8).size ≤ 9223372036854775807 then (if x7.length < 17592186044416 then (verbatimlaw20_EvalFinds.l0 k x0 x1 x5 ((x6 ++ (rdOf ByteArray.empty x1 x8)) ++ (rdOf ByteArray.empty x0 x8)) (x7 ++ [((x6.size : Int) + ((rdOf ByteArray.empty x1 x8).size : Int) + ((rdOf ByteArray.empty x0 x8).size : Int))]) (wrap64 (x8 + 1))) else (none)) else (none))) else (none)) else (none)) else (none)) else (none)) else (if 0 ≤ x8 then (if x8 < (x0.length : Int) then (if ((rdOf ByteArray.empty x0 x8).size : Int) > 200 then (some x5) else (if x6.size + (rdOf ByteArray.empty x0 x8).size ≤ 9223372036854775807 then (if x7.length < 17592186044416 then (verbatimlaw20_EvalFinds.l0 k x0 x1 x5 (x6 ++ (rdOf ByteArray.empty x0 x8)) (x7 ++ [((x6.size : Int) + ((rdOf ByteArray.empty x0 x8).size : Int))]) (wrap64 (x8 + 1))) else (none)) else (none))) else (none)) else (none))
def verbatimlaw20_EvalFinds.j3 : Nat → List ByteArray → Bool → ByteArray → List Int → List Int → Bool → Option (Bool)
  | 0, _, _, _, _, _, _ => none
  | k + 1, x0, x5, x6, x7, x9, x79 => if x79 = true then (some false) else (verbatimlaw20_EvalFinds.l1 k x0 x5 x6 x7 x9 0 0)
def verbatimlaw20_EvalFinds.l1 : Nat → List ByteArray → Bool → ByteArray → List Int → List Int → Int → Int → Option (Bool)
  | 0, _, _, _, _, _, _, _ => none
  | k + 1, x0, x5, x6, x7, x9, x11, x12 => if x12 < (x9.length : Int) then (if 0 ≤ x12 then (if (rd x9 x12) < x11 then (some false) else (if x12 < (x0.length : Int) then (if x12 < (x7.length : Int) then (if (wrap64 ((rd x9 x12) + ((rdOf ByteArray.empty x0 x12).size : Int))) > (rd x7 x12) then (some false) else (if 0 ≤ (rd x9 x12) then (if (rd x9 x12) ≤ (wrap64 ((rd x9 x12) + ((rdOf ByteArray.empty x0 x12).size : Int))) then (if (wrap64 ((rd x9 x12) + ((rdOf ByteArray.empty x0 x12).size : Int))) ≤ (x6.size : Int) then (if (x6.extract ((rd x9 x12) : Int).toNat ((wrap64 ((rd x9 x12) + ((rdOf ByteArray.empty x0 x12).size : Int))) : Int).toNat).toList = (rdOf ByteArray.empty x0 x12).toList then (verbatimlaw20_EvalFinds.l1 k x0 x5 x6 x7 x9 (wrap64 ((rd x9 x12) + ((rdOf ByteArray.empty x0 x12).size : Int))) (wrap64 (x12 + 1))) else (some false)) else (none)) else (none)) else (none))) else (none)) else (none))) else (none)) else (if x5 = true then ((eval_Match.f k 3 x0 ([] : List (S40)) x6).bind fun t202 => (some t202)) else (some false))
end
def verbatimlaw20_EvalFinds.f (k : Nat) (l0 : List ByteArray) (l1 : List ByteArray) : Option (Bool) := (verbatimlaw20_head.f k).bind fun t175 => (if (l0.length : Int) > 40 then (verbatimlaw20_EvalFinds.j0 k l0 l1 t175 true) else (verbatimlaw20_EvalFinds.j0 k l0 l1 t175 (decide ((l1.length : Int) > 60))))
theorem verbatimlaw20_EvalFinds.mono_l : ∀ k, (∀ y0 y1 y2 y3, LeO (verbatimlaw20_EvalFinds.j0 k y0 y1 y2 y3) (verbatimlaw20_EvalFinds.j0 (k + 1) y0 y1 y2 y3)) ∧ (∀ y0 y1 y2 y3 y4 y5, LeO (verbatimlaw20_EvalFinds.l0 k y0 y1 y2 y3 y4 y5) (verbatimlaw20_EvalFinds.l0 (k + 1) y0 y1 y2 y3 y4 y5)) ∧ (∀ y0 y1 y2 y3 y4 y5 y6, LeO (verbatimlaw20_EvalFinds.j2 k y0 y1 y2 y3 y4 y5 y6) (verbatimlaw20_EvalFinds.j2 (k + 1) y0 y1 y2 y3 y4 y5 y6)) ∧ (∀ y0 y1 y2 y3 y4 y5, LeO (verbatimlaw20_EvalFinds.j3 k y0 y1 y2 y3 y4 y5) (verbatimlaw20_EvalFinds.j3 (k + 1) y0 y1 y2 y3 y4 y5)) ∧ (∀ y0 y1 y2 y3 y4 y5 y6, LeO (verbatimlaw20_EvalFinds.l1 k y0 y1 y2 y3 y4 y5 y6) (verbatimlaw20_EvalFinds.l1 (k + 1) y0 y1 y2 y3 y4 y5 y6))
  | 0 => ⟨fun _ _ _ _ r h => by simp [verbatimlaw20_EvalFinds.j0] at h, fun _ _ _ _ _ _ r h => by simp [verbatimlaw20_EvalFinds.l0] at h, fun _ _ _ _ _ _ _ r h => by simp [verbatimlaw20_EvalFinds.j2] at h, fun _ _ _ _ _ _ r h => by simp [verbatimlaw20_EvalFinds.j3] at h, fun _ _ _ _ _ _ _ r h => by simp [verbatimlaw20_EvalFinds.l1] at h⟩
  | k + 1 => by
    obtain ⟨ih0, ih1, ih2, ih3, ih4⟩ := verbatimlaw20_EvalFinds.mono_l k
    refine ⟨?_, ?_, ?_, ?_, ?_⟩
    · intro y0 y1 y2 y3
      unfold verbatimlaw20_EvalFinds.j0
      repeat' first
      | (with_reducible exact ih0 _ _ _ _)
      | (with_reducible exact ih1 _ _ _ _ _ _)
      | (with_reducible exact ih2 _ _ _ _ _ _ _)
      | (with_reducible exact ih3 _ _ _ _ _ _)
      | (with_reducible exact ih4 _ _ _ _ _ _ _)
      | (with_reducible exact eval_Find.mono _ _ _)
      | (with_reducible exact eval_Match.mono _ _ _ _ _)
      | (with_reducible exact verbatimlaw20_head.mono _)
      | (with_reducible exact LeO.refl _)
      | (with_reducible exact LeO.none _)
      | (with_reducible refine LeO.ite ?_ ?_)
      | (with_reducible refine LeO.bind ?_ (fun _ => ?_))
      | exact ih0 _ _ _ _
      | exact ih1 _ _ _ _ _ _
      | exact ih2 _ _ _ _ _ _ _
      | exact ih3 _ _ _ _ _ _
      | exact ih4 _ _ _ _ _ _ _
      | exact eval_Find.mono _ _ _
      | exact eval_Match.mono _ _ _ _ _
      | exact verbatimlaw20_head.mono _
      | exact LeO.none _
      | refine LeO.ite ?_ ?_
      | refine LeO.bind ?_ (fun _ => ?_)
    · intro y0 y1 y2 y3 y4 y5
      unfold verbatimlaw20_EvalFinds.l0
      repeat' first
      | (with_reducible exact ih0 _ _ _ _)
      | (with_reducible exact ih1 _ _ _ _ _ _)
      | (with_reducible exact ih2 _ _ _ _ _ _ _)
      | (with_reducible exact ih3 _ _ _ _ _ _)
      | (with_reducible exact ih4 _ _ _ _ _ _ _)
      | (with_reducible exact eval_Find.mono _ _ _)
      | (with_reducible exact eval_Match.mono _ _ _ _ _)
      | (with_reducible exact verbatimlaw20_head.mono _)
      | (with_reducible exact LeO.refl _)
      | (with_reducible exact LeO.none _)
      | (with_reducible refine LeO.ite ?_ ?_)
      | (with_reducible refine LeO.bind ?_ (fun _ => ?_))
      | exact ih0 _ _ _ _
      | exact ih1 _ _ _ _ _ _
      | exact ih2 _ _ _ _ _ _ _
      | exact ih3 _ _ _ _ _ _
      | exact ih4 _ _ _ _ _ _ _
      | exact eval_Find.mono _ _ _
      | exact eval_Match.mono _ _ _ _ _
      | exact verbatimlaw20_head.mono _
      | exact LeO.none _
      | refine LeO.ite ?_ ?_
      | refine LeO.bind ?_ (fun _ => ?_)
    · intro y0 y1 y2 y3 y4 y5 y6
      unfold verbatimlaw20_EvalFinds.j2
      repeat' first
      | (with_reducible exact ih0 _ _ _ _)
      | (with_reducible exact ih1 _ _ _ _ _ _)
      | (with_reducible exact ih2 _ _ _ _ _ _ _)
      | (with_reducible exact ih3 _ _ _ _ _ _)
      | (with_reducible exact ih4 _ _ _ _ _ _ _)
      | (with_reducible exact eval_Find.mono _ _ _)
      | (with_reducible exact eval_Match.mono _ _ _ _ _)
      | (with_reducible exact verbatimlaw20_head.mono _)
      | (with_reducible exact LeO.refl _)
      | (with_reducible exact LeO.none _)
      | (with_reducible refine LeO.ite ?_ ?_)
      | (with_reducible refine LeO.bind ?_ (fun _ => ?_))
      | exact ih0 _ _ _ _
      | exact ih1 _ _ _ _ _ _
      | exact ih2 _ _ _ _ _ _ _
      | exact ih3 _ _ _ _ _ _
      | exact ih4 _ _ _ _ _ _ _
      | exact eval_Find.mono _ _ _
      | exact eval_Match.mono _ _ _ _ _
      | exact verbatimlaw20_head.mono _
      | exact LeO.none _
      | refine LeO.ite ?_ ?_
      | refine LeO.bind ?_ (fun _ => ?_)
    · intro y0 y1 y2 y3 y4 y5
      unfold verbatimlaw20_EvalFinds.j3
      repeat' first
      | (with_reducible exact ih0 _ _ _ _)
      | (with_reducible exact ih1 _ _ _ _ _ _)
      | (with_reducible exact ih2 _ _ _ _ _ _ _)
      | (with_reducible exact ih3 _ _ _ _ _ _)
      | (with_reducible exact ih4 _ _ _ _ _ _ _)
      | (with_reducible exact eval_Find.mono _ _ _)
      | (with_reducible exact eval_Match.mono _ _ _ _ _)
      | (with_reducible exact verbatimlaw20_head.mono _)
      | (with_reducible exact LeO.refl _)
      | (with_reducible exact LeO.none _)
      | (with_reducible refine LeO.ite ?_ ?_)
      | (with_reducible refine LeO.bind ?_ (fun _ => ?_))
      | exact ih0 _ _ _ _
      | exact ih1 _ _ _ _ _ _
      | exact ih2 _ _ _ _ _ _ _
      | exact ih3 _ _ _ _ _ _
      | exact ih4 _ _ _ _ _ _ _
      | exact eval_Find.mono _ _ _
      | exact eval_Match.mono _ _ _ _ _
      | exact verbatimlaw20_head.mono _
      | exact LeO.none _
      | refine LeO.ite ?_ ?_
      | refine LeO.bind ?_ (fun _ => ?_)
    · intro y0 y1 y2 y3 y4 y5 y6
      unfold verbatimlaw20_EvalFinds.l1
      repeat' first
      | (with_reducible exact ih0 _ _ _ _)
      | (with_reducible exact ih1 _ _ _ _ _ _)
      | (with_reducible exact ih2 _ _ _ _ _ _ _)
      | (with_reducible exact ih3 _ _ _ _ _ _)
      | (with_reducible exact ih4 _ _ _ _ _ _ _)
      | (with_reducible exact eval_Find.mono _ _ _)
      | (with_reducible exact eval_Match.mono _ _ _ _ _)
      | (with_reducible exact verbatimlaw20_head.mono _)
      | (with_reducible exact LeO.refl _)
      | (with_reducible exact LeO.none _)
      | (with_reducible refine LeO.ite ?_ ?_)
      | (with_reducible refine LeO.bind ?_ (fun _ => ?_))
      | exact ih0 _ _ _ _
      | exact ih1 _ _ _ _ _ _
      | exact ih2 _ _ _ _ _ _ _
      | exact ih3 _ _ _ _ _ _
      | exact ih4 _ _ _ _ _ _ _
      | exact eval_Find.mono _ _ _
      | exact eval_Match.mono _ _ _ _ _
      | exact verbatimlaw20_head.mono _
      | exact LeO.none _
      | refine LeO.ite ?_ ?_
      | refine LeO.bind ?_ (fun _ => ?_)
theorem verbatimlaw20_EvalFinds.mono : ∀ a0 a1 k, LeO (verbatimlaw20_EvalFinds.f k a0 a1) (verbatimlaw20_EvalFinds.f (k + 1) a0 a1) := by
  intro a0 a1 k
  obtain ⟨ih0, ih1, ih2, ih3, ih4⟩ := verbatimlaw20_EvalFinds.mono_l k
  unfold verbatimlaw20_EvalFinds.f
  repeat' first
      | (with_reducible exact ih0 _ _ _ _)
      | (with_reducible exact ih1 _ _ _ _ _ _)
      | (with_reducible exact ih2 _ _ _ _ _ _ _)
      | (with_reducible exact ih3 _ _ _ _ _ _)
      | (with_reducible exact ih4 _ _ _ _ _ _ _)
      | (with_reducible exact eval_Find.mono _ _ _)
      | (with_reducible exact eval_Match.mono _ _ _ _ _)
      | (with_reducible exact verbatimlaw20_head.mono _)
      | (with_reducible exact LeO.refl _)
      | (with_reducible exact LeO.none _)
      | (with_reducible refine LeO.ite ?_ ?_)
      | (with_reducible refine LeO.bind ?_ (fun _ => ?_))
      | exact ih0 _ _ _ _
      | exact ih1 _ _ _ _ _ _
      | exact ih2 _ _ _ _ _ _ _
      | exact ih3 _ _ _ _ _ _
      | exact ih4 _ _ _ _ _ _ _
      | exact eval_Find.mono _ _ _
      | exact eval_Match.mono _ _ _ _ _
      | exact verbatimlaw20_head.mono _
      | exact LeO.none _
      | refine LeO.ite ?_ ?_
      | refine LeO.bind ?_ (fun _ => ?_)
set_option maxHeartbeats 8000000 in
set_option maxRecDepth 100000 in
theorem verbatimlaw20_EvalFinds.calls (k : Nat) (A0 : Option Addr) (c0 : Nat) (l0 : List ByteArray) (A1 : Option Addr) (c1 : Nat) (l1 : List ByteArray) (r : Bool) (w : World) (hG : GlobOk w) (hr0 : Kd.C Kd.string w A0 l0.length l0) (hc0 : l0.length ≤ c0) (hr1 : Kd.C Kd.string w A1 l1.length l1) (hc1 : l1.length ≤ c1) (h : verbatimlaw20_EvalFinds.f k l0 l1 = some r) :
    Calls Try.prog 8 #[.slice A0 l0.length c0, .slice A1 l1.length c1] w fun e w' => e = .returned (.bool r) ∧ Below w.heap.size w w' := by
  have hu40 := Try.underlying40
  have HG := Aside0.mk hG
  clear hG
  have HR0 := Aside0.mk hr0
  have HC0 := Aside0.mk hc0
  clear hr0 hc0
  have HR1 := Aside0.mk hr1
  have HC1 := Aside0.mk hc1
  clear hr1 hc1
  have HB := Aside0.mk (Below.refl w.heap.size w)
  have H : ((verbatimlaw20_head.f k).bind fun t175 => (if (l0.length : Int) > 40 then (verbatimlaw20_EvalFinds.j0 k l0 l1 t175 true) else (verbatimlaw20_EvalFinds.j0 k l0 l1 t175 (decide ((l1.length : Int) > 60))))) = some r := h
  clear h
  replace H := Option.bind_eq_some_iff.mp H
  obtain ⟨t175, A30, H⟩ := H
  replace H : (if (l0.length : Int) > 40 then (verbatimlaw20_EvalFinds.j0 k l0 l1 t175 true) else (verbatimlaw20_EvalFinds.j0 k l0 l1 t175 (decide ((l1.length : Int) > 60)))) = some r := H
  have A3 := Aside0.mk A30
  clear A30
  have HC4 := Aside0.mk H
  clear H
  go_enter Try.func8, Try.ntmps8
  go_upto_region 2 with (first | (go_at_call 21; (with_reducible refine (verbatimlaw20_head.calls k  t175 _ ?side1 A3.out).mono ?_); (case side1 => first | exact GlobOk.below HG.out (by repeat (first | (with_reducible first | exact HB.out | apply below_alloc | apply pw_below_drewN | apply below_drew1) | exact HB.out)) | (repeat (first | exact HG.out | (with_reducible refine GlobOk.alloc ?_ _) | (with_reducible refine GlobOk.drewN ?_ _) | (with_reducible refine GlobOk.drew ?_)))); rintro e w5 ⟨rfl, hb⟩; have n0_ := Aside0.mk (below_step (by repeat (first | (with_reducible first | exact HB.out | apply below_alloc | apply pw_below_drewN | apply below_drew1) | exact HB.out)) hb); clear HB; have HB := n0_; clear n0_; (try clear hb); (try clear hb2); (try clear hk); (try clear hi)))
  repeat (go_quiet (first | (go_at_call 21; (with_reducible refine (verbatimlaw20_head.calls k  t175 _ ?side1 A3.out).mono ?_); (case side1 => first | exact GlobOk.below HG.out (by repeat (first | (with_reducible first | exact HB.out | apply below_alloc | apply pw_below_drewN | apply below_drew1) | exact HB.out)) | (repeat (first | exact HG.out | (with_reducible refine GlobOk.alloc ?_ _) | (with_reducible refine GlobOk.drewN ?_ _) | (with_reducible refine GlobOk.drew ?_)))); rintro e w5 ⟨rfl, hb⟩; have n0_ := Aside0.mk (below_step (by repeat (first | (with_reducible first | exact HB.out | apply below_alloc | apply pw_below_drewN | apply below_drew1) | exact HB.out)) hb); clear HB; have HB := n0_; clear n0_; (try clear hb); (try clear hb2); (try clear hk); (try clear hi))); go_upto_region 2 with (first | (go_at_call 21; (with_reducible refine (verbatimlaw20_head.calls k  t175 _ ?side1 A3.out).mono ?_); (case side1 => first | exact GlobOk.below HG.out (by repeat (first | (with_reducible first | exact HB.out | apply below_alloc | apply pw_below_drewN | apply below_drew1) | exact HB.out)) | (repeat (first | exact HG.out | (with_reducible refine GlobOk.alloc ?_ _) | (with_reducible refine GlobOk.drewN ?_ _) | (with_reducible refine GlobOk.drew ?_)))); rintro e w5 ⟨rfl, hb⟩; have n0_ := Aside0.mk (below_step (by repeat (first | (with_reducible first | exact HB.out | apply below_alloc | apply pw_below_drewN | apply below_drew1) | exact HB.out)) hb); clear HB; have HB := n0_; clear n0_; (try clear hb); (try clear hb2); (try clear hk); (try clear hi))))
  (try simp only [Act.put, List.setIfInBounds_toArray, List.set_cons_zero, List.set_cons_succ])
  go_cut [21] (fun v21 wc => ∃ (kq : Nat) (x21_3 : Bool), v21 = .bool x21_3 ∧ Aside0 (verbatimlaw20_EvalFinds.j0 kq l0 l1 t175 x21_3 = some r) ∧ Aside0 (kq ≤ k) ∧ Aside0 (Below w.heap.size w wc))
  case first =>
    have H := HC4.out
    clear HC4
    by_cases c6 : (l0.length : Int) > 40
    · rw [if_pos c6] at H
      have c6b0 : decide (40 < (l0.length : Int)) = true := decide_eq_true c6
      have c6b1 : decide (40 < l0.length) = true := decide_eq_true (by omega)
      clear c6
      (first | rw [c6b0] | (simp only [i64_w, i32_w]; rw [c6b0]) | skip)
      have H' := Aside0.mk H
      clear H
      go_wp2
      repeat (go_quiet (fail); try go_wp2)
      go_meet
      case rel => exact ⟨_, (true), (by first | rfl | (simp; done) | (simp [*]; done)), H', ⟨by first | omega | exact Nat.le_refl _⟩, ⟨by repeat (first | (with_reducible first | exact HB.out | apply below_alloc | apply pw_below_drewN | apply below_drew1) | exact HB.out)⟩⟩
    · rw [if_neg c6] at H
      have c6b0 : decide (40 < (l0.length : Int)) = false := decide_eq_false c6
      have c6b1 : decide (40 < l0.length) = false := decide_eq_false (by omega)
      clear c6
      (first | rw [c6b0] | (simp only [i64_w, i32_w]; rw [c6b0]) | skip)
      have H' := Aside0.mk H
      clear H
      go_wp2
      repeat (go_quiet (fail); try go_wp2)
      go_meet
      case rel => exact ⟨_, (decide ((l1.length : Int) > 60)), (by first | rfl | (simp; done) | (simp [*]; done)), H', ⟨by first | omega | exact Nat.le_refl _⟩, ⟨by repeat (first | (with_reducible first | exact HB.out | apply below_alloc | apply pw_below_drewN | apply below_drew1) | exact HB.out)⟩⟩
  case rest =>
    clear HC4
    try clear c1
    try clear p2
    try clear c6
    try clear c6b0
    try clear c6b1
    obtain ⟨kq, x21_3, rfl, HA, HJ3, HB⟩ := hcut
    cases kq with
    | zero => exact absurd HA.out (by simp [verbatimlaw20_EvalFinds.j0])
    | succ kj3 =>
      have H := HA.out
      clear HA
      simp only [verbatimlaw20_EvalFinds.j0] at H
      by_cases c7 : x21_3 = true
      · subst c7
        have H1 : (some t175) = some r := by rw [if_pos rfl] at H; exact H
        clear H
        have H := H1
        clear H1
        obtain rfl := Option.some.inj H
        go_wp2
        repeat (go_quiet (fail); try go_wp2)
        go_ret
        exact ⟨by first | rfl | (simp [errW_none, errW_some] <;> rfl) | (simp [*, errW_none, errW_some] <;> rfl), by repeat (first | (with_reducible first | exact HB.out | apply below_alloc | apply pw_below_drewN | apply below_drew1) | exact HB.out)⟩
      · replace c7 := Bool.eq_false_iff.mpr c7
        subst c7
        have H1 : (verbatimlaw20_EvalFinds.l0 kj3 l0 l1 t175 (⟨#[]⟩ : ByteArray) ([] : List Int) 0) = some r := by rw [if_neg (show ¬ (false = true) by decide)] at H; exact H
        clear H
        have H := H1
        clear H1
        have H' := Aside0.mk H
        clear H
        go_wp2
        repeat (go_quiet (fail); try go_wp2)
        go_loopg [6, 7, 8] kj3 (fun kq v6 v7 v8 w' => ∃ (x6_2 : ByteArray) (x7_2 : List Int) (x8_2 : Int), v6 = .string x6_2 ∧ v8 = .int .i64 x8_2 ∧ Aside0 (verbatimlaw20_EvalFinds.l0 kq l0 l1 t175 x6_2 x7_2 x8_2 = some r) ∧ Aside0 (kq ≤ kj3) ∧ Aside0 (Kd.R (Kd.int .i64) 3 w' w.heap.size (fun _ => True) v7 x7_2) ∧ Aside0 (Below w.heap.size w w'))
        case atStart => exact ⟨((⟨#[]⟩ : ByteArray)), (([] : List Int)), (0), (by first | rfl | (simp; done) | (simp [*]; done)), (by first | rfl | (simp; done) | (simp [*]; done)), H', ⟨Nat.le_refl _⟩, ⟨by first | exact Kd.R_nil _ _ _ _ _ | exact Kd.N_nil _ _ _ _ _ | exact Kd.V_nil _ _ _ _ _ | exact Kd.Q_nil _ _ _ _ _ | exact Kd.S_nil _ _ _ _ _⟩, ⟨by repeat (first | (with_reducible first | exact HB.out | apply below_alloc | apply pw_below_drewN | apply below_drew1) | exact HB.out)⟩⟩
        case round =>
          clear H'
          try clear c1
          try clear p2
          try clear c6
          try clear c6b0
          try clear c6b1
          try clear c7
          try clear p2
          obtain ⟨x6_2, x7_2, x8_2, rfl, rfl, HA, HK2, HO_7, HB⟩ := hrel
          cases gk with
          | zero => exact absurd HA.out (by simp [verbatimlaw20_EvalFinds.l0])
          | succ k2 =>
            have H := HA.out
            clear HA
            simp only [verbatimlaw20_EvalFinds.l0] at H
            by_cases c8 : x8_2 < (l0.length : Int)
            · rw [if_pos c8] at H
              have c8b0 : decide (x8_2 < (l0.length : Int)) = true := decide_eq_true c8
              clear c8
              have HC9 := Aside0.mk H
              clear H
              go_upto_region 9 with (fail)
              repeat (go_quiet (fail); go_upto_region 9 with (fail))
              go_cut [40] (fun v40 wc => ∃ (kq : Nat) (x40_8 : Bool), v40 = .bool x40_8 ∧ Aside0 (verbatimlaw20_EvalFinds.j2 kq l0 l1 t175 x6_2 x7_2 x8_2 x40_8 = some r) ∧ Aside0 (kq ≤ k2) ∧ Aside0 (Kd.R (Kd.int .i64) 3 wc w.heap.size (fun _ => True) u7 x7_2) ∧ Aside0 (Below w.heap.size w wc))
              case first =>
                have H := HC9.out
                clear HC9
                by_cases c10 : x8_2 < (l1.length : Int)
                · rw [if_pos c10] at H
                  have c10b0 : decide (x8_2 < (l1.length : Int)) = true := decide_eq_true c10
                  clear c10
                  (first | rw [c10b0] | (simp only [i64_w, i32_w]; rw [c10b0]) | skip)
                  by_cases c11 : 0 ≤ x8_2
                  · rw [if_pos c11] at H
                    have c11b0 : decide (0 ≤ x8_2) = true := decide_eq_true c11
                    clear c11
                    have H' := Aside0.mk H
                    clear H
                    have p176 : 0 ≤ (x8_2 : Int) := of_decide_eq_true (by first | (with_reducible assumption) | assumption)
                    have q176 : x8_2 < (l1.length : Int) := of_decide_eq_true (by first | (with_reducible assumption) | assumption)
                    obtain ⟨ad176, e176, hx176_0⟩ := Kd.at_string HR1.out x8_2 p176 q176
                    cases e176
                    replace hx176_0 := (HB.out.cell (World.block_lt_of_cell? w _ hx176_0)).trans hx176_0
                    replace p176 := eq_true p176
                    replace q176 := eq_true q176
                    go_wp2
                    repeat (go_quiet (fail); try go_wp2)
                    go_meet
                    case rel => exact ⟨_, (decide (((rdOf ByteArray.empty l1 x8_2).size : Int) < 200)), (by first | rfl | (simp; done) | (simp [*]; done)), H', ⟨by have := HJ3.out; have := HK2.out; first | omega | exact Nat.le_refl _⟩, ⟨by (with_reducible repeat (first | apply Kd.R_alloc | apply Kd.R_drewN | apply Kd.R_drew)); exact HO_7.out⟩, ⟨by repeat (first | (with_reducible first | exact HB.out | apply below_alloc | apply pw_below_drewN | apply below_drew1) | exact HB.out)⟩⟩
                  · rw [if_neg c11] at H
                    exact absurd H (by simp)
                · rw [if_neg c10] at H
                  have c10b0 : decide (x8_2 < (l1.length : Int)) = false := decide_eq_false c10
                  clear c10
                  (first | rw [c10b0] | (simp only [i64_w, i32_w]; rw [c10b0]) | skip)
                  have H' := Aside0.mk H
                  clear H
                  go_wp2
                  repeat (go_quiet (fail); try go_wp2)
                  go_meet
                  case rel => exact ⟨_, (false), (by first | rfl | (simp; done) | (simp [*]; done)), H', ⟨by have := HJ3.out; have := HK2.out; first | omega | exact Nat.le_refl _⟩, ⟨by (with_reducible repeat (first | apply Kd.R_alloc | apply Kd.R_drewN | apply Kd.R_drew)); exact HO_7.out⟩, ⟨by repeat (first | (with_reducible first | exact HB.out | apply below_alloc | apply pw_below_drewN | apply below_drew1) | exact HB.out)⟩⟩
              case rest =>
                clear HC9
                try clear c1
                try clear p1
                try clear q1
                try clear hx1
                try clear p2
                try clear c6
                try clear c6b0
                try clear c6b1
                try clear c7
                try clear c8
                try clear c8b0
                try clear c10
                try clear c10b0
                try clear c11
                try clear c11b0
                try clear hx176_0
                try clear p176
                try clear p2
                try clear q176
                obtain ⟨kq, x40_8, rfl, HA, HJ8, HO_7, HB⟩ := hcut
                cases kq with
                | zero => exact absurd HA.out (by simp [verbatimlaw20_EvalFinds.j2])
                | succ kj8 =>
                  have H := HA.out
                  clear HA
                  simp only [verbatimlaw20_EvalFinds.j2] at H
                  by_cases c12 : x40_8 = true
                  · subst c12
                    have H1 : (if 0 ≤ x8_2 then (if x8_2 < (l1.length : Int) then (if x6_2.size + (rdOf ByteArray.empty l1 x8_2).size ≤ 9223372036854775807 then (if x8_2 < (l0.length : Int) then (if ((rdOf ByteArray.empty l0 x8_2).size : Int) > 200 then (some t175) else (if (x6_2 ++ (rdOf ByteArray.empty l1 x8_2)).size + (rdOf ByteArray.empty l0 x8_2).size ≤ 9223372036854775807 then (if x7_2.length < 17592186044416 then (verbatimlaw20_EvalFinds.l0 kj8 l0 l1 t175 ((x6_2 ++ (rdOf ByteArray.empty l1 x8_2)) ++ (rdOf ByteArray.empty l0 x8_2)) (x7_2 ++ [((x6_2.size : Int) + ((rdOf ByteArray.empty l1 x8_2).size : Int) + ((rdOf ByteArray.empty l0 x8_2).size : Int))]) (wrap64 (x8_2 + 1))) else (none)) else (none))) else (none)) else (none)) else (none)) else (none)) = some r := by rw [if_pos rfl] at H; exact H
                    clear H
                    have H := H1
                    clear H1
                    by_cases c13 : 0 ≤ x8_2
                    · rw [if_pos c13] at H
                      have c13b0 : decide (0 ≤ x8_2) = true := decide_eq_true c13
                      clear c13
                      by_cases c14 : x8_2 < (l1.length : Int)
                      · rw [if_pos c14] at H
                        have c14b0 : decide (x8_2 < (l1.length : Int)) = true := decide_eq_true c14
                        clear c14
                        by_cases c15 : x6_2.size + (rdOf ByteArray.empty l1 x8_2).size ≤ 9223372036854775807
                        · rw [if_pos c15] at H
                          have c15b0 := eq_true c15
                          have c15b1 : decide (x6_2.size + (rdOf ByteArray.empty l1 x8_2).size ≤ 9223372036854775807) = true := decide_eq_true c15
                          try have c15b2 : (9223372036854775807 < x6_2.size + (rdOf ByteArray.empty l1 x8_2).size) = False := eq_false (Nat.not_lt.2 c15)
                          by_cases c16 : x8_2 < (l0.length : Int)
                          · rw [if_pos c16] at H
                            have c16b0 : decide (x8_2 < (l0.length : Int)) = true := decide_eq_true c16
                            clear c16
                            by_cases c17 : ((rdOf ByteArray.empty l0 x8_2).size : Int) > 200
                            · rw [if_pos c17] at H
                              have c17b0 : decide (200 < ((rdOf ByteArray.empty l0 x8_2).size : Int)) = true := decide_eq_true c17
                              have c17b1 : decide (200 < (rdOf ByteArray.empty l0 x8_2).size) = true := decide_eq_true (by omega)
                              clear c17
                              obtain rfl := Option.some.inj H
                              have p177 : 0 ≤ (x8_2 : Int) := of_decide_eq_true (by first | (with_reducible assumption) | assumption)
                              have q177 : x8_2 < (l1.length : Int) := of_decide_eq_true (by first | (with_reducible assumption) | assumption)
                              obtain ⟨ad177, e177, hx177_0⟩ := Kd.at_string HR1.out x8_2 p177 q177
                              cases e177
                              replace hx177_0 := (HB.out.cell (World.block_lt_of_cell? w _ hx177_0)).trans hx177_0
                              replace p177 := eq_true p177
                              replace q177 := eq_true q177
                              have p178 : 0 ≤ (x8_2 : Int) := of_decide_eq_true (by first | (with_reducible assumption) | assumption)
                              have q178 : x8_2 < (l0.length : Int) := of_decide_eq_true (by first | (with_reducible assumption) | assumption)
                              obtain ⟨ad178, e178, hx178_0⟩ := Kd.at_string HR0.out x8_2 p178 q178
                              cases e178
                              replace hx178_0 := (HB.out.cell (World.block_lt_of_cell? w _ hx178_0)).trans hx178_0
                              replace p178 := eq_true p178
                              replace q178 := eq_true q178
                              go_wp2
                              repeat (go_quiet (fail); try go_wp2)
                              go_ret
                              exact ⟨by first | rfl | (simp [errW_none, errW_some] <;> rfl) | (simp [*, errW_none, errW_some] <;> rfl), by repeat (first | (with_reducible first | exact HB.out | apply below_alloc | apply pw_below_drewN | apply below_drew1) | exact HB.out)⟩
                            · rw [if_neg c17] at H
                              have c17b0 : decide (200 < ((rdOf ByteArray.empty l0 x8_2).size : Int)) = false := decide_eq_false c17
                              have c17b1 : decide (200 < (rdOf ByteArray.empty l0 x8_2).size) = false := decide_eq_false (by omega)
                              clear c17
                              by_cases c18 : (x6_2 ++ (rdOf ByteArray.empty l1 x8_2)).size + (rdOf ByteArray.empty l0 x8_2).size ≤ 9223372036854775807
                              · rw [if_pos c18] at H
                                have c18b0 := eq_true c18
                                have c18b1 : decide ((x6_2 ++ (rdOf ByteArray.empty l1 x8_2)).size + (rdOf ByteArray.empty l0 x8_2).size ≤ 9223372036854775807) = true := decide_eq_true c18
                                (try have c18b1z := c18b1)
                                (try simp only [ByteArray.size_append, Int.natCast_add] at c18b1z)
                                try have c18b2 : (9223372036854775807 < (x6_2 ++ (rdOf ByteArray.empty l1 x8_2)).size + (rdOf ByteArray.empty l0 x8_2).size) = False := eq_false (Nat.not_lt.2 c18)
                                by_cases c19 : x7_2.length < 17592186044416
                                · rw [if_pos c19] at H
                                  have LMc19 := Aside0.mk c19
                                  clear c19
                                  obtain ⟨y180, hy180⟩ : ∃ y_ : List Int, y_ = (x7_2 ++ [((x6_2.size : Int) + ((rdOf ByteArray.empty l1 x8_2).size : Int) + ((rdOf ByteArray.empty l0 x8_2).size : Int))]) := ⟨_, rfl⟩
                                  replace H : (verbatimlaw20_EvalFinds.l0 kj8 l0 l1 t175 ((x6_2 ++ (rdOf ByteArray.empty l1 x8_2)) ++ (rdOf ByteArray.empty l0 x8_2)) y180 (wrap64 (x8_2 + 1))) = some r := by first | (rw [hy180]; with_reducible exact H) | (have H2_ := (Option.bind_some _ _).symm.trans H; rw [hy180]; with_reducible exact H2_) | (have H2_ := (Option.bind_some _ _).symm.trans H; with_reducible exact H2_) | with_reducible exact H | (rw [hy180]; exact H) | exact H
                                  have Ny180 := Aside0.mk hy180
                                  clear hy180
                                  have H' := Aside0.mk H
                                  clear H
                                  have p177 : 0 ≤ (x8_2 : Int) := of_decide_eq_true (by first | (with_reducible assumption) | assumption)
                                  have q177 : x8_2 < (l1.length : Int) := of_decide_eq_true (by first | (with_reducible assumption) | assumption)
                                  obtain ⟨ad177, e177, hx177_0⟩ := Kd.at_string HR1.out x8_2 p177 q177
                                  cases e177
                                  replace hx177_0 := (HB.out.cell (World.block_lt_of_cell? w _ hx177_0)).trans hx177_0
                                  replace p177 := eq_true p177
                                  replace q177 := eq_true q177
                                  have p178 : 0 ≤ (x8_2 : Int) := of_decide_eq_true (by first | (with_reducible assumption) | assumption)
                                  have q178 : x8_2 < (l0.length : Int) := of_decide_eq_true (by first | (with_reducible assumption) | assumption)
                                  obtain ⟨ad178, e178, hx178_0⟩ := Kd.at_string HR0.out x8_2 p178 q178
                                  cases e178
                                  replace hx178_0 := (HB.out.cell (World.block_lt_of_cell? w _ hx178_0)).trans hx178_0
                                  replace p178 := eq_true p178
                                  replace q178 := eq_true q178
                                  have p179 : 0 ≤ (x8_2 : Int) := of_decide_eq_true (by first | (with_reducible assumption) | assumption)
                                  have q179 : x8_2 < (l0.length : Int) := of_decide_eq_true (by first | (with_reducible assumption) | assumption)
                                  obtain ⟨ad179, e179, hx179_0⟩ := Kd.at_string HR0.out x8_2 p179 q179
                                  obtain rfl : ad178 = ad179 := (by injection e179)
                                  replace hx179_0 := (HB.out.cell (World.block_lt_of_cell? w _ hx179_0)).trans hx179_0
                                  replace p179 := eq_true p179
                                  replace q179 := eq_true q179
                                  go_wp2_with (first | ((with_reducible refine gate_builtin (b := .append) (xs := #[.tmp 60, .tmp 63]) rfl ?_); (try (refine gate_guard (by rfl) ?_; dsimp only)); at_builtin; refine Kd.R_append (Kd.int .i64) (w0 := w) w.heap.size rfl (.tmp 60) (.tmp 63) 23 3 (.int .i64 0) 8 rfl Try.underlying23 info3 rfl (by decide) (by omega) u7 x7_2 ((x6_2.size : Int) + ((rdOf ByteArray.empty l1 x8_2).size : Int) + ((rdOf ByteArray.empty l0 x8_2).size : Int)) [.int .i64 ((x6_2.size : Int) + ((rdOf ByteArray.empty l1 x8_2).size : Int) + ((rdOf ByteArray.empty l0 x8_2).size : Int))] (fun _ => True) (fun _ => False) rfl rfl ?aP (fun _ hk => hk.elim) ?aF ?aO ?aB ?aS ?aL ?_; (case aP => exact rfl); (case aB => exact (by repeat (first | (with_reducible first | exact HB.out | apply below_alloc | apply pw_below_drewN | apply below_drew1) | exact HB.out))); (case aF => exact (fun _ _ => trivial)); (case aO => exact (by (with_reducible repeat (first | apply Kd.R_alloc | apply Kd.R_drewN | apply Kd.R_drew)); exact HO_7.out)); (case aS => exact (below_size (by repeat (first | (with_reducible first | exact HB.out | apply below_alloc | apply pw_below_drewN | apply below_drew1) | exact HB.out)))); (case aL => have := LMc19.out; omega); intro v181 w20 ho hb hg hat; rw [← Ny180.out] at ho; have n0_ := Aside0.mk (hb); have n1_ := Aside0.mk (ho); clear HB; clear HO_7; have HB := n0_; have HO182 := n1_; clear n0_ n1_; clear ho hb hg hat))
                                  repeat (go_quiet (first | ((with_reducible refine gate_builtin (b := .append) (xs := #[.tmp 60, .tmp 63]) rfl ?_); (try (refine gate_guard (by rfl) ?_; dsimp only)); at_builtin; refine Kd.R_append (Kd.int .i64) (w0 := w) w.heap.size rfl (.tmp 60) (.tmp 63) 23 3 (.int .i64 0) 8 rfl Try.underlying23 info3 rfl (by decide) (by omega) u7 x7_2 ((x6_2.size : Int) + ((rdOf ByteArray.empty l1 x8_2).size : Int) + ((rdOf ByteArray.empty l0 x8_2).size : Int)) [.int .i64 ((x6_2.size : Int) + ((rdOf ByteArray.empty l1 x8_2).size : Int) + ((rdOf ByteArray.empty l0 x8_2).size : Int))] (fun _ => True) (fun _ => False) rfl rfl ?aP (fun _ hk => hk.elim) ?aF ?aO ?aB ?aS ?aL ?_; (case aP => exact rfl); (case aB => exact (by repeat (first | (with_reducible first | exact HB.out | apply below_alloc | apply pw_below_drewN | apply below_drew1) | exact HB.out))); (case aF => exact (fun _ _ => trivial)); (case aO => exact (by (with_reducible repeat (first | apply Kd.R_alloc | apply Kd.R_drewN | apply Kd.R_drew)); exact HO_7.out)); (case aS => exact (below_size (by repeat (first | (with_reducible first | exact HB.out | apply below_alloc | apply pw_below_drewN | apply below_drew1) | exact HB.out)))); (case aL => have := LMc19.out; omega); intro v181 w20 ho hb hg hat; rw [← Ny180.out] at ho; have n0_ := Aside0.mk (hb); have n1_ := Aside0.mk (ho); clear HB; clear HO_7; have HB := n0_; have HO182 := n1_; clear n0_ n1_; clear ho hb hg hat)); try go_wp2_with (first | ((with_reducible refine gate_builtin (b := .append) (xs := #[.tmp 60, .tmp 63]) rfl ?_); (try (refine gate_guard (by rfl) ?_; dsimp only)); at_builtin; refine Kd.R_append (Kd.int .i64) (w0 := w) w.heap.size rfl (.tmp 60) (.tmp 63) 23 3 (.int .i64 0) 8 rfl Try.underlying23 info3 rfl (by decide) (by omega) u7 x7_2 ((x6_2.size : Int) + ((rdOf ByteArray.empty l1 x8_2).size : Int) + ((rdOf ByteArray.empty l0 x8_2).size : Int)) [.int .i64 ((x6_2.size : Int) + ((rdOf ByteArray.empty l1 x8_2).size : Int) + ((rdOf ByteArray.empty l0 x8_2).size : Int))] (fun _ => True) (fun _ => False) rfl rfl ?aP (fun _ hk => hk.elim) ?aF ?aO ?aB ?aS ?aL ?_; (case aP => exact rfl); (case aB => exact (by repeat (first | (with_reducible first | exact HB.out | apply below_alloc | apply pw_below_drewN | apply below_drew1) | exact HB.out))); (case aF => exact (fun _ _ => trivial)); (case aO => exact (by (with_reducible repeat (first | apply Kd.R_alloc | apply Kd.R_drewN | apply Kd.R_drew)); exact HO_7.out)); (case aS => exact (below_size (by repeat (first | (with_reducible first | exact HB.out | apply below_alloc | apply pw_below_drewN | apply below_drew1) | exact HB.out)))); (case aL => have := LMc19.out; omega); intro v181 w20 ho hb hg hat; rw [← Ny180.out] at ho; have n0_ := Aside0.mk (hb); have n1_ := Aside0.mk (ho); clear HB; clear HO_7; have HB := n0_; have HO182 := n1_; clear n0_ n1_; clear ho hb hg hat)))
                                  go_roundg kj8
                                  case measure => have := HJ3.out; have := HK2.out; have := HJ8.out; omega
                                  case rel => exact ⟨((x6_2 ++ (rdOf ByteArray.empty l1 x8_2)) ++ (rdOf ByteArray.empty l0 x8_2)), (y180), (wrap64 (x8_2 + 1)), (by first | rfl | (simp; done) | (simp [*]; done)), (by first | rfl | (simp; done) | (simp [*]; done)), H', ⟨by have := HJ3.out; have := HK2.out; have := HJ8.out; omega⟩, ⟨by (with_reducible repeat (first | apply Kd.R_alloc | apply Kd.R_drewN | apply Kd.R_drew)); exact HO182.out⟩, ⟨by repeat (first | (with_reducible first | exact HB.out | apply below_alloc | apply pw_below_drewN | apply below_drew1) | exact HB.out)⟩⟩
                                · rw [if_neg c19] at H
                                  exact absurd H (by simp)
                              · rw [if_neg c18] at H
                                exact absurd H (by simp)
                          · rw [if_neg c16] at H
                            exact absurd H (by simp)
                        · rw [if_neg c15] at H
                          exact absurd H (by simp)
                      · rw [if_neg c14] at H
                        exact absurd H (by simp)
                    · rw [if_neg c13] at H
                      exact absurd H (by simp)
                  · replace c12 := Bool.eq_false_iff.mpr c12
                    subst c12
                    have H1 : (if 0 ≤ x8_2 then (if x8_2 < (l0.length : Int) then (if ((rdOf ByteArray.empty l0 x8_2).size : Int) > 200 then (some t175) else (if x6_2.size + (rdOf ByteArray.empty l0 x8_2).size ≤ 9223372036854775807 then (if x7_2.length < 17592186044416 then (verbatimlaw20_EvalFinds.l0 kj8 l0 l1 t175 (x6_2 ++ (rdOf ByteArray.empty l0 x8_2)) (x7_2 ++ [((x6_2.size : Int) + ((rdOf ByteArray.empty l0 x8_2).size : Int))]) (wrap64 (x8_2 + 1))) else (none)) else (none))) else (none)) else (none)) = some r := by rw [if_neg (show ¬ (false = true) by decide)] at H; exact H
                    clear H
                    have H := H1
                    clear H1
                    by_cases c21 : 0 ≤ x8_2
                    · rw [if_pos c21] at H
                      have c21b0 : decide (0 ≤ x8_2) = true := decide_eq_true c21
                      clear c21
                      by_cases c22 : x8_2 < (l0.length : Int)
                      · rw [if_pos c22] at H
                        have c22b0 : decide (x8_2 < (l0.length : Int)) = true := decide_eq_true c22
                        clear c22
                        by_cases c23 : ((rdOf ByteArray.empty l0 x8_2).size : Int) > 200
                        · rw [if_pos c23] at H
                          have c23b0 : decide (200 < ((rdOf ByteArray.empty l0 x8_2).size : Int)) = true := decide_eq_true c23
                          have c23b1 : decide (200 < (rdOf ByteArray.empty l0 x8_2).size) = true := decide_eq_true (by omega)
                          clear c23
                          obtain rfl := Option.some.inj H
                          have p183 : 0 ≤ (x8_2 : Int) := of_decide_eq_true (by first | (with_reducible assumption) | assumption)
                          have q183 : x8_2 < (l0.length : Int) := of_decide_eq_true (by first | (with_reducible assumption) | assumption)
                          obtain ⟨ad183, e183, hx183_0⟩ := Kd.at_string HR0.out x8_2 p183 q183
                          cases e183
                          replace hx183_0 := (HB.out.cell (World.block_lt_of_cell? w _ hx183_0)).trans hx183_0
                          replace p183 := eq_true p183
                          replace q183 := eq_true q183
                          go_wp2
                          repeat (go_quiet (fail); try go_wp2)
                          go_ret
                          exact ⟨by first | rfl | (simp [errW_none, errW_some] <;> rfl) | (simp [*, errW_none, errW_some] <;> rfl), by repeat (first | (with_reducible first | exact HB.out | apply below_alloc | apply pw_below_drewN | apply below_drew1) | exact HB.out)⟩
                        · rw [if_neg c23] at H
                          have c23b0 : decide (200 < ((rdOf ByteArray.empty l0 x8_2).size : Int)) = false := decide_eq_false c23
                          have c23b1 : decide (200 < (rdOf ByteArray.empty l0 x8_2).size) = false := decide_eq_false (by omega)
                          clear c23
                          by_cases c24 : x6_2.size + (rdOf ByteArray.empty l0 x8_2).size ≤ 9223372036854775807
                          · rw [if_pos c24] at H
                            have c24b0 := eq_true c24
                            have c24b1 : decide (x6_2.size + (rdOf ByteArray.empty l0 x8_2).size ≤ 9223372036854775807) = true := decide_eq_true c24
                            try have c24b2 : (9223372036854775807 < x6_2.size + (rdOf ByteArray.empty l0 x8_2).size) = False := eq_false (Nat.not_lt.2 c24)
                            by_cases c25 : x7_2.length < 17592186044416
                            · rw [if_pos c25] at H
                              have LMc25 := Aside0.mk c25
                              clear c25
                              obtain ⟨y185, hy185⟩ : ∃ y_ : List Int, y_ = (x7_2 ++ [((x6_2.size : Int) + ((rdOf ByteArray.empty l0 x8_2).size : Int))]) := ⟨_, rfl⟩
                              replace H : (verbatimlaw20_EvalFinds.l0 kj8 l0 l1 t175 (x6_2 ++ (rdOf ByteArray.empty l0 x8_2)) y185 (wrap64 (x8_2 + 1))) = some r := by first | (rw [hy185]; with_reducible exact H) | (have H2_ := (Option.bind_some _ _).symm.trans H; rw [hy185]; with_reducible exact H2_) | (have H2_ := (Option.bind_some _ _).symm.trans H; with_reducible exact H2_) | with_reducible exact H | (rw [hy185]; exact H) | exact H
                              have Ny185 := Aside0.mk hy185
                              clear hy185
                              have H' := Aside0.mk H
                              clear H
                              have p183 : 0 ≤ (x8_2 : Int) := of_decide_eq_true (by first | (with_reducible assumption) | assumption)
                              have q183 : x8_2 < (l0.length : Int) := of_decide_eq_true (by first | (with_reducible assumption) | assumption)
                              obtain ⟨ad183, e183, hx183_0⟩ := Kd.at_string HR0.out x8_2 p183 q183
                              cases e183
                              replace hx183_0 := (HB.out.cell (World.block_lt_of_cell? w _ hx183_0)).trans hx183_0
                              replace p183 := eq_true p183
                              replace q183 := eq_true q183
                              have p184 : 0 ≤ (x8_2 : Int) := of_decide_eq_true (by first | (with_reducible assumption) | assumption)
                              have q184 : x8_2 < (l0.length : Int) := of_decide_eq_true (by first | (with_reducible assumption) | assumption)
                              obtain ⟨ad184, e184, hx184_0⟩ := Kd.at_string HR0.out x8_2 p184 q184
                              obtain rfl : ad183 = ad184 := (by injection e184)
                              replace hx184_0 := (HB.out.cell (World.block_lt_of_cell? w _ hx184_0)).trans hx184_0
                              replace p184 := eq_true p184
                              replace q184 := eq_true q184
                              go_wp2_with (first | ((with_reducible refine gate_builtin (b := .append) (xs := #[.tmp 60, .tmp 63]) rfl ?_); (try (refine gate_guard (by rfl) ?_; dsimp only)); at_builtin; refine Kd.R_append (Kd.int .i64) (w0 := w) w.heap.size rfl (.tmp 60) (.tmp 63) 23 3 (.int .i64 0) 8 rfl Try.underlying23 info3 rfl (by decide) (by omega) u7 x7_2 ((x6_2.size : Int) + ((rdOf ByteArray.empty l0 x8_2).size : Int)) [.int .i64 ((x6_2.size : Int) + ((rdOf ByteArray.empty l0 x8_2).size : Int))] (fun _ => True) (fun _ => False) rfl rfl ?aP (fun _ hk => hk.elim) ?aF ?aO ?aB ?aS ?aL ?_; (case aP => exact rfl); (case aB => exact (by repeat (first | (with_reducible first | exact HB.out | apply below_alloc | apply pw_below_drewN | apply below_drew1) | exact HB.out))); (case aF => exact (fun _ _ => trivial)); (case aO => exact (by (with_reducible repeat (first | apply Kd.R_alloc | apply Kd.R_drewN | apply Kd.R_drew)); exact HO_7.out)); (case aS => exact (below_size (by repeat (first | (with_reducible first | exact HB.out | apply below_alloc | apply pw_below_drewN | apply below_drew1) | exact HB.out)))); (case aL => have := LMc25.out; omega); intro v186 w26 ho hb hg hat; rw [← Ny185.out] at ho; have n0_ := Aside0.mk (hb); have n1_ := Aside0.mk (ho); clear HB; clear HO_7; have HB := n0_; have HO187 := n1_; clear n0_ n1_; clear ho hb hg hat))
                              repeat (go_quiet (first | ((with_reducible refine gate_builtin (b := .append) (xs := #[.tmp 60, .tmp 63]) rfl ?_); (try (refine gate_guard (by rfl) ?_; dsimp only)); at_builtin; refine Kd.R_append (Kd.int .i64) (w0 := w) w.heap.size rfl (.tmp 60) (.tmp 63) 23 3 (.int .i64 0) 8 rfl Try.underlying23 info3 rfl (by decide) (by omega) u7 x7_2 ((x6_2.size : Int) + ((rdOf ByteArray.empty l0 x8_2).size : Int)) [.int .i64 ((x6_2.size : Int) + ((rdOf ByteArray.empty l0 x8_2).size : Int))] (fun _ => True) (fun _ => False) rfl rfl ?aP (fun _ hk => hk.elim) ?aF ?aO ?aB ?aS ?aL ?_; (case aP => exact rfl); (case aB => exact (by repeat (first | (with_reducible first | exact HB.out | apply below_alloc | apply pw_below_drewN | apply below_drew1) | exact HB.out))); (case aF => exact (fun _ _ => trivial)); (case aO => exact (by (with_reducible repeat (first | apply Kd.R_alloc | apply Kd.R_drewN | apply Kd.R_drew)); exact HO_7.out)); (case aS => exact (below_size (by repeat (first | (with_reducible first | exact HB.out | apply below_alloc | apply pw_below_drewN | apply below_drew1) | exact HB.out)))); (case aL => have := LMc25.out; omega); intro v186 w26 ho hb hg hat; rw [← Ny185.out] at ho; have n0_ := Aside0.mk (hb); have n1_ := Aside0.mk (ho); clear HB; clear HO_7; have HB := n0_; have HO187 := n1_; clear n0_ n1_; clear ho hb hg hat)); try go_wp2_with (first | ((with_reducible refine gate_builtin (b := .append) (xs := #[.tmp 60, .tmp 63]) rfl ?_); (try (refine gate_guard (by rfl) ?_; dsimp only)); at_builtin; refine Kd.R_append (Kd.int .i64) (w0 := w) w.heap.size rfl (.tmp 60) (.tmp 63) 23 3 (.int .i64 0) 8 rfl Try.underlying23 info3 rfl (by decide) (by omega) u7 x7_2 ((x6_2.size : Int) + ((rdOf ByteArray.empty l0 x8_2).size : Int)) [.int .i64 ((x6_2.size : Int) + ((rdOf ByteArray.empty l0 x8_2).size : Int))] (fun _ => True) (fun _ => False) rfl rfl ?aP (fun _ hk => hk.elim) ?aF ?aO ?aB ?aS ?aL ?_; (case aP => exact rfl); (case aB => exact (by repeat (first | (with_reducible first | exact HB.out | apply below_alloc | apply pw_below_drewN | apply below_drew1) | exact HB.out))); (case aF => exact (fun _ _ => trivial)); (case aO => exact (by (with_reducible repeat (first | apply Kd.R_alloc | apply Kd.R_drewN | apply Kd.R_drew)); exact HO_7.out)); (case aS => exact (below_size (by repeat (first | (with_reducible first | exact HB.out | apply below_alloc | apply pw_below_drewN | apply below_drew1) | exact HB.out)))); (case aL => have := LMc25.out; omega); intro v186 w26 ho hb hg hat; rw [← Ny185.out] at ho; have n0_ := Aside0.mk (hb); have n1_ := Aside0.mk (ho); clear HB; clear HO_7; have HB := n0_; have HO187 := n1_; clear n0_ n1_; clear ho hb hg hat)))
                              go_roundg kj8
                              case measure => have := HJ3.out; have := HK2.out; have := HJ8.out; omega
                              case rel => exact ⟨(x6_2 ++ (rdOf ByteArray.empty l0 x8_2)), (y185), (wrap64 (x8_2 + 1)), (by first | rfl | (simp; done) | (simp [*]; done)), (by first | rfl | (simp; done) | (simp [*]; done)), H', ⟨by have := HJ3.out; have := HK2.out; have := HJ8.out; omega⟩, ⟨by (with_reducible repeat (first | apply Kd.R_alloc | apply Kd.R_drewN | apply Kd.R_drew)); exact HO187.out⟩, ⟨by repeat (first | (with_reducible first | exact HB.out | apply below_alloc | apply pw_below_drewN | apply below_drew1) | exact HB.out)⟩⟩
                            · rw [if_neg c25] at H
                              exact absurd H (by simp)
                          · rw [if_neg c24] at H
                            exact absurd H (by simp)
                      · rw [if_neg c22] at H
                        exact absurd H (by simp)
                    · rw [if_neg c21] at H
                      exact absurd H (by simp)
            · rw [if_neg c8] at H
              have c8b0 : decide (x8_2 < (l0.length : Int)) = false := decide_eq_false c8
              clear c8
              replace H := Option.bind_eq_some_iff.mp H
              obtain ⟨⟨t188, t189⟩, A270, H⟩ := H
              replace H : (if t189 = true then (verbatimlaw20_EvalFinds.j3 k2 l0 t175 x6_2 x7_2 t188 ((t188.length : Int) != (l0.length : Int))) else (verbatimlaw20_EvalFinds.j3 k2 l0 t175 x6_2 x7_2 t188 true)) = some r := H
              have A27 := Aside0.mk A270
              clear A270
              have HC28 := Aside0.mk H
              clear H
              go_upto_region 16 with (first | (go_at_call 23; (with_reducible refine (eval_Find.calls k2 _ _ l0 x6_2 t188 t189 _ ?side1 ?side2 ?side3 A27.out).mono ?_); (case side1 => first | exact GlobOk.below HG.out (by repeat (first | (with_reducible first | exact HB.out | apply below_alloc | apply pw_below_drewN | apply below_drew1) | exact HB.out)) | (repeat (first | exact HG.out | (with_reducible refine GlobOk.alloc ?_ _) | (with_reducible refine GlobOk.drewN ?_ _) | (with_reducible refine GlobOk.drew ?_)))); (case side2 => repeat (first | exact (Kd.C_below HR0.out HB.out) | (with_reducible refine Kd.C_alloc ?_ _) | (with_reducible refine Kd.C_drewN ?_ _) | (with_reducible refine Kd.C_drew ?_))); (case side3 => exact HC0.out); rintro e w29 ⟨v190, rfl, ho0, hb⟩; have n0_ := Aside0.mk (Kd.R_elder' (by (with_reducible repeat (first | apply Kd.R_alloc | apply Kd.R_drewN | apply Kd.R_drew)); exact HO_7.out) (Kd.R_base ho0) hb); have n1_ := Aside0.mk (Kd.R_lower (Kd.R_new' ho0 (Kd.R_lt (by (with_reducible repeat (first | apply Kd.R_alloc | apply Kd.R_drewN | apply Kd.R_drew)); exact HO_7.out))) (below_size (by repeat (first | (with_reducible first | exact HB.out | apply below_alloc | apply pw_below_drewN | apply below_drew1) | exact HB.out)))); have n2_ := Aside0.mk (below_step (by repeat (first | (with_reducible first | exact HB.out | apply below_alloc | apply pw_below_drewN | apply below_drew1) | exact HB.out)) hb); clear HO_7; clear HB; have HO_7 := n0_; have HO191 := n1_; have HB := n2_; clear n0_ n1_ n2_; (try clear hb); (try clear hb2); (try clear hk); (try clear hi); (try clear ho0)))
              repeat (go_quiet (first | (go_at_call 23; (with_reducible refine (eval_Find.calls k2 _ _ l0 x6_2 t188 t189 _ ?side1 ?side2 ?side3 A27.out).mono ?_); (case side1 => first | exact GlobOk.below HG.out (by repeat (first | (with_reducible first | exact HB.out | apply below_alloc | apply pw_below_drewN | apply below_drew1) | exact HB.out)) | (repeat (first | exact HG.out | (with_reducible refine GlobOk.alloc ?_ _) | (with_reducible refine GlobOk.drewN ?_ _) | (with_reducible refine GlobOk.drew ?_)))); (case side2 => repeat (first | exact (Kd.C_below HR0.out HB.out) | (with_reducible refine Kd.C_alloc ?_ _) | (with_reducible refine Kd.C_drewN ?_ _) | (with_reducible refine Kd.C_drew ?_))); (case side3 => exact HC0.out); rintro e w29 ⟨v190, rfl, ho0, hb⟩; have n0_ := Aside0.mk (Kd.R_elder' (by (with_reducible repeat (first | apply Kd.R_alloc | apply Kd.R_drewN | apply Kd.R_drew)); exact HO_7.out) (Kd.R_base ho0) hb); have n1_ := Aside0.mk (Kd.R_lower (Kd.R_new' ho0 (Kd.R_lt (by (with_reducible repeat (first | apply Kd.R_alloc | apply Kd.R_drewN | apply Kd.R_drew)); exact HO_7.out))) (below_size (by repeat (first | (with_reducible first | exact HB.out | apply below_alloc | apply pw_below_drewN | apply below_drew1) | exact HB.out)))); have n2_ := Aside0.mk (below_step (by repeat (first | (with_reducible first | exact HB.out | apply below_alloc | apply pw_below_drewN | apply below_drew1) | exact HB.out)) hb); clear HO_7; clear HB; have HO_7 := n0_; have HO191 := n1_; have HB := n2_; clear n0_ n1_ n2_; (try clear hb); (try clear hb2); (try clear hk); (try clear hi); (try clear ho0))); go_upto_region 16 with (first | (go_at_call 23; (with_reducible refine (eval_Find.calls k2 _ _ l0 x6_2 t188 t189 _ ?side1 ?side2 ?side3 A27.out).mono ?_); (case side1 => first | exact GlobOk.below HG.out (by repeat (first | (with_reducible first | exact HB.out | apply below_alloc | apply pw_below_drewN | apply below_drew1) | exact HB.out)) | (repeat (first | exact HG.out | (with_reducible refine GlobOk.alloc ?_ _) | (with_reducible refine GlobOk.drewN ?_ _) | (with_reducible refine GlobOk.drew ?_)))); (case side2 => repeat (first | exact (Kd.C_below HR0.out HB.out) | (with_reducible refine Kd.C_alloc ?_ _) | (with_reducible refine Kd.C_drewN ?_ _) | (with_reducible refine Kd.C_drew ?_))); (case side3 => exact HC0.out); rintro e w29 ⟨v190, rfl, ho0, hb⟩; have n0_ := Aside0.mk (Kd.R_elder' (by (with_reducible repeat (first | apply Kd.R_alloc | apply Kd.R_drewN | apply Kd.R_drew)); exact HO_7.out) (Kd.R_base ho0) hb); have n1_ := Aside0.mk (Kd.R_lower (Kd.R_new' ho0 (Kd.R_lt (by (with_reducible repeat (first | apply Kd.R_alloc | apply Kd.R_drewN | apply Kd.R_drew)); exact HO_7.out))) (below_size (by repeat (first | (with_reducible first | exact HB.out | apply below_alloc | apply pw_below_drewN | apply below_drew1) | exact HB.out)))); have n2_ := Aside0.mk (below_step (by repeat (first | (with_reducible first | exact HB.out | apply below_alloc | apply pw_below_drewN | apply below_drew1) | exact HB.out)) hb); clear HO_7; clear HB; have HO_7 := n0_; have HO191 := n1_; have HB := n2_; clear n0_ n1_ n2_; (try clear hb); (try clear hb2); (try clear hk); (try clear hi); (try clear ho0))))
              (try simp only [Act.put, List.setIfInBounds_toArray, List.set_cons_zero, List.set_cons_succ])
              go_cut [79] (fun v79 wc => ∃ (kq : Nat) (x79_27 : Bool), v79 = .bool x79_27 ∧ Aside0 (verbatimlaw20_EvalFinds.j3 kq l0 t175 x6_2 x7_2 t188 x79_27 = some r) ∧ Aside0 (kq ≤ k2) ∧ Aside0 (Kd.R (Kd.int .i64) 3 wc w.heap.size (fun k_ => some k_ ≠ (v190 : Value).ownBlock) u7 x7_2) ∧ Aside0 (Kd.R (Kd.int .i64) 3 wc w.heap.size (fun k_ => some k_ ≠ (u7 : Value).ownBlock) v190 t188) ∧ Aside0 (Below w.heap.size w wc))
              case first =>
                have H := HC28.out
                clear HC28
                by_cases c30 : t189 = true
                · subst c30
                  have H1 : (verbatimlaw20_EvalFinds.j3 k2 l0 t175 x6_2 x7_2 t188 ((t188.length : Int) != (l0.length : Int))) = some r := by rw [if_pos rfl] at H; exact H
                  clear H
                  have H := H1
                  clear H1
                  have H' := Aside0.mk H
                  clear H
                  obtain ⟨Ao31, co31, eo31⟩ := Kd.R_slice HO191.out
                  subst eo31
                  go_wp2
                  repeat (go_quiet (fail); try go_wp2)
                  go_meet
                  case rel => exact ⟨_, (((t188.length : Int) != (l0.length : Int))), (by first | rfl | (simp; done) | (simp [*]; done)), H', ⟨by have := HJ3.out; have := HK2.out; first | omega | exact Nat.le_refl _⟩, ⟨by (with_reducible repeat (first | apply Kd.R_alloc | apply Kd.R_drewN | apply Kd.R_drew)); exact Kd.R_mono HO_7.out (fun _ hk => hk.2)⟩, ⟨by (with_reducible repeat (first | apply Kd.R_alloc | apply Kd.R_drewN | apply Kd.R_drew)); exact Kd.R_mono HO191.out (fun _ hk => hk.2)⟩, ⟨by repeat (first | (with_reducible first | exact HB.out | apply below_alloc | apply pw_below_drewN | apply below_drew1) | exact HB.out)⟩⟩
                · replace c30 := Bool.eq_false_iff.mpr c30
                  subst c30
                  have H1 : (verbatimlaw20_EvalFinds.j3 k2 l0 t175 x6_2 x7_2 t188 true) = some r := by rw [if_neg (show ¬ (false = true) by decide)] at H; exact H
                  clear H
                  have H := H1
                  clear H1
                  have H' := Aside0.mk H
                  clear H
                  go_wp2
                  repeat (go_quiet (fail); try go_wp2)
                  go_meet
                  case rel => exact ⟨_, (true), (by first | rfl | (simp; done) | (simp [*]; done)), H', ⟨by have := HJ3.out; have := HK2.out; first | omega | exact Nat.le_refl _⟩, ⟨by (with_reducible repeat (first | apply Kd.R_alloc | apply Kd.R_drewN | apply Kd.R_drew)); exact Kd.R_mono HO_7.out (fun _ hk => hk.2)⟩, ⟨by (with_reducible repeat (first | apply Kd.R_alloc | apply Kd.R_drewN | apply Kd.R_drew)); exact Kd.R_mono HO191.out (fun _ hk => hk.2)⟩, ⟨by repeat (first | (with_reducible first | exact HB.out | apply below_alloc | apply pw_below_drewN | apply below_drew1) | exact HB.out)⟩⟩
              case rest =>
                clear HC28
                try clear c1
                try clear p1
                try clear q1
                try clear hx1
                try clear c2
                try clear p2
                try clear c3
                try clear c6
                try clear c6b0
                try clear c6b1
                try clear p6
                try clear c7
                try clear c8
                try clear c8b0
                try clear c10
                try clear c10b0
                try clear c11
                try clear c11b0
                try clear c12
                try clear c13
                try clear c13b0
                try clear c14
                try clear c14b0
                try clear c15
                try clear c15b0
                try clear c15b1
                try clear c15b2
                try clear c16
                try clear c16b0
                try clear c17
                try clear c17b0
                try clear c17b1
                try clear p17
                try clear q17
                try clear hx17
                try clear c18
                try clear c18b0
                try clear c18b1
                try clear c18b2
                try clear p18
                try clear q18
                try clear hx18
                try clear c19
                try clear c21
                try clear c21b0
                try clear c22
                try clear c22b0
                try clear c23
                try clear c23b0
                try clear c23b1
                try clear c24
                try clear c24b0
                try clear c24b1
                try clear c24b2
                try clear c25
                try clear c30
                try clear hx176_0
                try clear hx177_0
                try clear hx178_0
                try clear hx179_0
                try clear hx183_0
                try clear hx184_0
                try clear p1
                try clear p176
                try clear p177
                try clear p178
                try clear p179
                try clear p183
                try clear p184
                try clear p2
                try clear q1
                try clear q176
                try clear q177
                try clear q178
                try clear q179
                try clear q183
                try clear q184
                obtain ⟨kq, x79_27, rfl, HA, HJ27, HO_7, HO_9, HB⟩ := hcut
                cases kq with
                | zero => exact absurd HA.out (by simp [verbatimlaw20_EvalFinds.j3])
                | succ kj27 =>
                  have H := HA.out
                  clear HA
                  simp only [verbatimlaw20_EvalFinds.j3] at H
                  by_cases c32 : x79_27 = true
                  · subst c32
                    have H1 : (some false) = some r := by rw [if_pos rfl] at H; exact H
                    clear H
                    have H := H1
                    clear H1
                    obtain rfl := Option.some.inj H
                    go_wp2
                    repeat (go_quiet (fail); try go_wp2)
                    go_ret
                    exact ⟨by first | rfl | (simp [errW_none, errW_some] <;> rfl) | (simp [*, errW_none, errW_some] <;> rfl), by repeat (first | (with_reducible first | exact HB.out | apply below_alloc | apply pw_below_drewN | apply below_drew1) | exact HB.out)⟩
                  · replace c32 := Bool.eq_false_iff.mpr c32
                    subst c32
                    have H1 : (verbatimlaw20_EvalFinds.l1 kj27 l0 t175 x6_2 x7_2 t188 0 0) = some r := by rw [if_neg (show ¬ (false = true) by decide)] at H; exact H
                    clear H
                    have H := H1
                    clear H1
                    have H' := Aside0.mk H
                    clear H
                    go_wp2
                    repeat (go_quiet (fail); try go_wp2)
                    go_loopg [11, 12] kj27 (fun kq v11 v12 w' => ∃ (x11_4 : Int) (x12_4 : Int), v11 = .int .i64 x11_4 ∧ v12 = .int .i64 x12_4 ∧ Aside0 (verbatimlaw20_EvalFinds.l1 kq l0 t175 x6_2 x7_2 t188 x11_4 x12_4 = some r) ∧ Aside0 (kq ≤ kj27) ∧ Aside0 (Kd.R (Kd.int .i64) 3 w' w.heap.size (fun k_ => some k_ ≠ (v190 : Value).ownBlock) u7 x7_2) ∧ Aside0 (Kd.R (Kd.int .i64) 3 w' w.heap.size (fun k_ => some k_ ≠ (u7 : Value).ownBlock) v190 t188) ∧ Aside0 (Below w.heap.size w w'))
                    case atStart => exact ⟨(0), (0), (by first | rfl | (simp; done) | (simp [*]; done)), (by first | rfl | (simp; done) | (simp [*]; done)), H', ⟨Nat.le_refl _⟩, ⟨by (with_reducible repeat (first | apply Kd.R_alloc | apply Kd.R_drewN | apply Kd.R_drew)); exact HO_7.out⟩, ⟨by (with_reducible repeat (first | apply Kd.R_alloc | apply Kd.R_drewN | apply Kd.R_drew)); exact HO_9.out⟩, ⟨by repeat (first | (with_reducible first | exact HB.out | apply below_alloc | apply pw_below_drewN | apply below_drew1) | exact HB.out)⟩⟩
                    case round =>
                      clear H'
                      try clear c1
                      try clear p1
                      try clear q1
                      try clear hx1
                      try clear c2
                      try clear p2
                      try clear c3
                      try clear c6
                      try clear c6b0
                      try clear c6b1
                      try clear p6
                      try clear c7
                      try clear c8
                      try clear c8b0
                      try clear c10
                      try clear c10b0
                      try clear c11
                      try clear c11b0
                      try clear c12
                      try clear c13
                      try clear c13b0
                      try clear c14
                      try clear c14b0
                      try clear c15
                      try clear c15b0
                      try clear c15b1
                      try clear c15b2
                      try clear c16
                      try clear c16b0
                      try clear c17
                      try clear c17b0
                      try clear c17b1
                      try clear p17
                      try clear q17
                      try clear hx17
                      try clear c18
                      try clear c18b0
                      try clear c18b1
                      try clear c18b2
                      try clear p18
                      try clear q18
                      try clear hx18
                      try clear c19
                      try clear c21
                      try clear c21b0
                      try clear c22
                      try clear c22b0
                      try clear c23
                      try clear c23b0
                      try clear c23b1
                      try clear c24
                      try clear c24b0
                      try clear c24b1
                      try clear c24b2
                      try clear c25
                      try clear c30
                      try clear c32
                      try clear hx176_0
                      try clear hx177_0
                      try clear hx178_0
                      try clear hx179_0
                      try clear hx183_0
                      try clear hx184_0
                      try clear p1
                      try clear p17
                      try clear p176
                      try clear p177
                      try clear p178
                      try clear p179
                      try clear p18
                      try clear p183
                      try clear p184
                      try clear p2
                      try clear p6
                      try clear q1
                      try clear q17
                      try clear q176
                      try clear q177
                      try clear q178
                      try clear q179
                      try clear q18
                      try clear q183
                      try clear q184
                      obtain ⟨x11_4, x12_4, rfl, rfl, HA, HK4, HO_7, HO_9, HB⟩ := hrel
                      cases gk with
                      | zero => exact absurd HA.out (by simp [verbatimlaw20_EvalFinds.l1])
                      | succ k4 =>
                        have H := HA.out
                        clear HA
                        simp only [verbatimlaw20_EvalFinds.l1] at H
                        by_cases c33 : x12_4 < (t188.length : Int)
                        · rw [if_pos c33] at H
                          have c33b0 : decide (x12_4 < (t188.length : Int)) = true := decide_eq_true c33
                          clear c33
                          by_cases c34 : 0 ≤ x12_4
                          · rw [if_pos c34] at H
                            have c34b0 : decide (0 ≤ x12_4) = true := decide_eq_true c34
                            clear c34
                            by_cases c35 : (rd t188 x12_4) < x11_4
                            · rw [if_pos c35] at H
                              have c35b0 : decide ((rd t188 x12_4) < x11_4) = true := decide_eq_true c35
                              clear c35
                              obtain rfl := Option.some.inj H
                              obtain ⟨Ao36, co36, eo36⟩ := Kd.R_slice HO_9.out
                              subst eo36
                              have p192 : 0 ≤ (x12_4 : Int) := of_decide_eq_true (by first | (with_reducible assumption) | assumption)
                              have q192 : x12_4 < (t188.length : Int) := of_decide_eq_true (by first | (with_reducible assumption) | assumption)
                              obtain ⟨ad192, e192, hx192_0⟩ := Kd.at_int (Kd.R_reads' HO_9.out).2.2 x12_4 p192 q192
                              cases e192
                              replace p192 := eq_true p192
                              replace q192 := eq_true q192
                              go_wp2
                              repeat (go_quiet (fail); try go_wp2)
                              go_ret
                              exact ⟨by first | rfl | (simp [errW_none, errW_some] <;> rfl) | (simp [*, errW_none, errW_some] <;> rfl), by repeat (first | (with_reducible first | exact HB.out | apply below_alloc | apply pw_below_drewN | apply below_drew1) | exact HB.out)⟩
                            · rw [if_neg c35] at H
                              have c35b0 : decide ((rd t188 x12_4) < x11_4) = false := decide_eq_false c35
                              clear c35
                              by_cases c37 : x12_4 < (l0.length : Int)
                              · rw [if_pos c37] at H
                                have c37b0 : decide (x12_4 < (l0.length : Int)) = true := decide_eq_true c37
                                clear c37
                                by_cases c38 : x12_4 < (x7_2.length : Int)
                                · rw [if_pos c38] at H
                                  have c38b0 : decide (x12_4 < (x7_2.length : Int)) = true := decide_eq_true c38
                                  clear c38
                                  by_cases c39 : (wrap64 ((rd t188 x12_4) + ((rdOf ByteArray.empty l0 x12_4).size : Int))) > (rd x7_2 x12_4)
                                  · rw [if_pos c39] at H
                                    have c39b0 : decide ((rd x7_2 x12_4) < (wrap64 ((rd t188 x12_4) + ((rdOf ByteArray.empty l0 x12_4).size : Int)))) = true := decide_eq_true c39
                                    clear c39
                                    obtain rfl := Option.some.inj H
                                    obtain ⟨Ao40, co40, eo40⟩ := Kd.R_slice HO_9.out
                                    subst eo40
                                    have p192 : 0 ≤ (x12_4 : Int) := of_decide_eq_true (by first | (with_reducible assumption) | assumption)
                                    have q192 : x12_4 < (t188.length : Int) := of_decide_eq_true (by first | (with_reducible assumption) | assumption)
                                    obtain ⟨ad192, e192, hx192_0⟩ := Kd.at_int (Kd.R_reads' HO_9.out).2.2 x12_4 p192 q192
                                    cases e192
                                    replace p192 := eq_true p192
                                    replace q192 := eq_true q192
                                    have p193 : 0 ≤ (x12_4 : Int) := of_decide_eq_true (by first | (with_reducible assumption) | assumption)
                                    have q193 : x12_4 < (t188.length : Int) := of_decide_eq_true (by first | (with_reducible assumption) | assumption)
                                    obtain ⟨ad193, e193, hx193_0⟩ := Kd.at_int (Kd.R_reads' HO_9.out).2.2 x12_4 p193 q193
                                    obtain rfl : ad192 = ad193 := (by injection e193)
                                    replace p193 := eq_true p193
                                    replace q193 := eq_true q193
                                    have p194 : 0 ≤ (x12_4 : Int) := of_decide_eq_true (by first | (with_reducible assumption) | assumption)
                                    have q194 : x12_4 < (l0.length : Int) := of_decide_eq_true (by first | (with_reducible assumption) | assumption)
                                    obtain ⟨ad194, e194, hx194_0⟩ := Kd.at_string HR0.out x12_4 p194 q194
                                    cases e194
                                    replace hx194_0 := (HB.out.cell (World.block_lt_of_cell? w _ hx194_0)).trans hx194_0
                                    replace p194 := eq_true p194
                                    replace q194 := eq_true q194
                                    obtain ⟨Ao41, co41, eo41⟩ := Kd.R_slice HO_7.out
                                    subst eo41
                                    have p195 : 0 ≤ (x12_4 : Int) := of_decide_eq_true (by first | (with_reducible assumption) | assumption)
                                    have q195 : x12_4 < (x7_2.length : Int) := of_decide_eq_true (by first | (with_reducible assumption) | assumption)
                                    obtain ⟨ad195, e195, hx195_0⟩ := Kd.at_int (Kd.R_reads' HO_7.out).2.2 x12_4 p195 q195
                                    cases e195
                                    replace p195 := eq_true p195
                                    replace q195 := eq_true q195
                                    go_wp2
                                    repeat (go_quiet (fail); try go_wp2)
                                    go_ret
                                    exact ⟨by first | rfl | (simp [errW_none, errW_some] <;> rfl) | (simp [*, errW_none, errW_some] <;> rfl), by repeat (first | (with_reducible first | exact HB.out | apply below_alloc | apply pw_below_drewN | apply below_drew1) | exact HB.out)⟩
                                  · rw [if_neg c39] at H
                                    have c39b0 : decide ((rd x7_2 x12_4) < (wrap64 ((rd t188 x12_4) + ((rdOf ByteArray.empty l0 x12_4).size : Int)))) = false := decide_eq_false c39
                                    clear c39
                                    by_cases c42 : 0 ≤ (rd t188 x12_4)
                                    · rw [if_pos c42] at H
                                      have c42b0 := eq_true c42
                                      have c42b1 : decide (0 ≤ (rd t188 x12_4)) = true := decide_eq_true c42
                                      clear c42
                                      by_cases c43 : (rd t188 x12_4) ≤ (wrap64 ((rd t188 x12_4) + ((rdOf ByteArray.empty l0 x12_4).size : Int)))
                                      · rw [if_pos c43] at H
                                        have c43b0 := eq_true c43
                                        have c43b1 : decide ((rd t188 x12_4) ≤ (wrap64 ((rd t188 x12_4) + ((rdOf ByteArray.empty l0 x12_4).size : Int)))) = true := decide_eq_true c43
                                        by_cases c44 : (wrap64 ((rd t188 x12_4) + ((rdOf ByteArray.empty l0 x12_4).size : Int))) ≤ (x6_2.size : Int)
                                        · rw [if_pos c44] at H
                                          have c44b0 := eq_true c44
                                          have c44b1 : decide ((wrap64 ((rd t188 x12_4) + ((rdOf ByteArray.empty l0 x12_4).size : Int))) ≤ (x6_2.size : Int)) = true := decide_eq_true c44
                                          by_cases c45 : (x6_2.extract ((rd t188 x12_4) : Int).toNat ((wrap64 ((rd t188 x12_4) + ((rdOf ByteArray.empty l0 x12_4).size : Int))) : Int).toNat).toList = (rdOf ByteArray.empty l0 x12_4).toList
                                          · rw [if_pos c45] at H
                                            have c45b0 : ((x6_2.extract ((rd t188 x12_4) : Int).toNat ((wrap64 ((rd t188 x12_4) + ((rdOf ByteArray.empty l0 x12_4).size : Int))) : Int).toNat).toList == (rdOf ByteArray.empty l0 x12_4).toList) = true := beq_iff_eq.mpr c45
                                            have c45b1 : ((x6_2.extract ((rd t188 x12_4) : Int).toNat ((wrap64 ((rd t188 x12_4) + ((rdOf ByteArray.empty l0 x12_4).size : Int))) : Int).toNat).toList != (rdOf ByteArray.empty l0 x12_4).toList) = false := bne_eq_false_iff_eq.mpr c45
                                            clear c45
                                            have H' := Aside0.mk H
                                            clear H
                                            obtain ⟨Ao46, co46, eo46⟩ := Kd.R_slice HO_9.out
                                            subst eo46
                                            have p192 : 0 ≤ (x12_4 : Int) := of_decide_eq_true (by first | (with_reducible assumption) | assumption)
                                            have q192 : x12_4 < (t188.length : Int) := of_decide_eq_true (by first | (with_reducible assumption) | assumption)
                                            obtain ⟨ad192, e192, hx192_0⟩ := Kd.at_int (Kd.R_reads' HO_9.out).2.2 x12_4 p192 q192
                                            cases e192
                                            replace p192 := eq_true p192
                                            replace q192 := eq_true q192
                                            have p193 : 0 ≤ (x12_4 : Int) := of_decide_eq_true (by first | (with_reducible assumption) | assumption)
                                            have q193 : x12_4 < (t188.length : Int) := of_decide_eq_true (by first | (with_reducible assumption) | assumption)
                                            obtain ⟨ad193, e193, hx193_0⟩ := Kd.at_int (Kd.R_reads' HO_9.out).2.2 x12_4 p193 q193
                                            obtain rfl : ad192 = ad193 := (by injection e193)
                                            replace p193 := eq_true p193
                                            replace q193 := eq_true q193
                                            have p194 : 0 ≤ (x12_4 : Int) := of_decide_eq_true (by first | (with_reducible assumption) | assumption)
                                            have q194 : x12_4 < (l0.length : Int) := of_decide_eq_true (by first | (with_reducible assumption) | assumption)
                                            obtain ⟨ad194, e194, hx194_0⟩ := Kd.at_string HR0.out x12_4 p194 q194
                                            cases e194
                                            replace hx194_0 := (HB.out.cell (World.block_lt_of_cell? w _ hx194_0)).trans hx194_0
                                            replace p194 := eq_true p194
                                            replace q194 := eq_true q194
                                            obtain ⟨Ao47, co47, eo47⟩ := Kd.R_slice HO_7.out
                                            subst eo47
                                            have p195 : 0 ≤ (x12_4 : Int) := of_decide_eq_true (by first | (with_reducible assumption) | assumption)
                                            have q195 : x12_4 < (x7_2.length : Int) := of_decide_eq_true (by first | (with_reducible assumption) | assumption)
                                            obtain ⟨ad195, e195, hx195_0⟩ := Kd.at_int (Kd.R_reads' HO_7.out).2.2 x12_4 p195 q195
                                            cases e195
                                            replace p195 := eq_true p195
                                            replace q195 := eq_true q195
                                            have p196 : 0 ≤ (x12_4 : Int) := of_decide_eq_true (by first | (with_reducible assumption) | assumption)
                                            have q196 : x12_4 < (t188.length : Int) := of_decide_eq_true (by first | (with_reducible assumption) | assumption)
                                            obtain ⟨ad196, e196, hx196_0⟩ := Kd.at_int (Kd.R_reads' HO_9.out).2.2 x12_4 p196 q196
                                            obtain rfl : ad192 = ad196 := (by injection e196)
                                            replace p196 := eq_true p196
                                            replace q196 := eq_true q196
                                            have p197 : 0 ≤ (x12_4 : Int) := of_decide_eq_true (by first | (with_reducible assumption) | assumption)
                                            have q197 : x12_4 < (t188.length : Int) := of_decide_eq_true (by first | (with_reducible assumption) | assumption)
                                            obtain ⟨ad197, e197, hx197_0⟩ := Kd.at_int (Kd.R_reads' HO_9.out).2.2 x12_4 p197 q197
                                            obtain rfl : ad192 = ad197 := (by injection e197)
                                            replace p197 := eq_true p197
                                            replace q197 := eq_true q197
                                            have p198 : 0 ≤ (x12_4 : Int) := of_decide_eq_true (by first | (with_reducible assumption) | assumption)
                                            have q198 : x12_4 < (l0.length : Int) := of_decide_eq_true (by first | (with_reducible assumption) | assumption)
                                            obtain ⟨ad198, e198, hx198_0⟩ := Kd.at_string HR0.out x12_4 p198 q198
                                            obtain rfl : ad194 = ad198 := (by injection e198)
                                            replace hx198_0 := (HB.out.cell (World.block_lt_of_cell? w _ hx198_0)).trans hx198_0
                                            replace p198 := eq_true p198
                                            replace q198 := eq_true q198
                                            have p199 : 0 ≤ (x12_4 : Int) := of_decide_eq_true (by first | (with_reducible assumption) | assumption)
                                            have q199 : x12_4 < (l0.length : Int) := of_decide_eq_true (by first | (with_reducible assumption) | assumption)
                                            obtain ⟨ad199, e199, hx199_0⟩ := Kd.at_string HR0.out x12_4 p199 q199
                                            obtain rfl : ad194 = ad199 := (by injection e199)
                                            replace hx199_0 := (HB.out.cell (World.block_lt_of_cell? w _ hx199_0)).trans hx199_0
                                            replace p199 := eq_true p199
                                            replace q199 := eq_true q199
                                            have p200 : 0 ≤ (x12_4 : Int) := of_decide_eq_true (by first | (with_reducible assumption) | assumption)
                                            have q200 : x12_4 < (t188.length : Int) := of_decide_eq_true (by first | (with_reducible assumption) | assumption)
                                            obtain ⟨ad200, e200, hx200_0⟩ := Kd.at_int (Kd.R_reads' HO_9.out).2.2 x12_4 p200 q200
                                            obtain rfl : ad192 = ad200 := (by injection e200)
                                            replace p200 := eq_true p200
                                            replace q200 := eq_true q200
                                            have p201 : 0 ≤ (x12_4 : Int) := of_decide_eq_true (by first | (with_reducible assumption) | assumption)
                                            have q201 : x12_4 < (l0.length : Int) := of_decide_eq_true (by first | (with_reducible assumption) | assumption)
                                            obtain ⟨ad201, e201, hx201_0⟩ := Kd.at_string HR0.out x12_4 p201 q201
                                            obtain rfl : ad194 = ad201 := (by injection e201)
                                            replace hx201_0 := (HB.out.cell (World.block_lt_of_cell? w _ hx201_0)).trans hx201_0
                                            replace p201 := eq_true p201
                                            replace q201 := eq_true q201
                                            go_wp2
                                            repeat (go_quiet (fail); try go_wp2)
                                            go_roundg k4
                                            case measure => have := HJ3.out; have := HK2.out; have := HJ27.out; have := HK4.out; omega
                                            case rel => exact ⟨(wrap64 ((rd t188 x12_4) + ((rdOf ByteArray.empty l0 x12_4).size : Int))), (wrap64 (x12_4 + 1)), (by first | rfl | (simp; done) | (simp [*]; done)), (by first | rfl | (simp; done) | (simp [*]; done)), H', ⟨by have := HJ3.out; have := HK2.out; have := HJ27.out; have := HK4.out; omega⟩, ⟨by (with_reducible repeat (first | apply Kd.R_alloc | apply Kd.R_drewN | apply Kd.R_drew)); exact HO_7.out⟩, ⟨by (with_reducible repeat (first | apply Kd.R_alloc | apply Kd.R_drewN | apply Kd.R_drew)); exact HO_9.out⟩, ⟨by repeat (first | (with_reducible first | exact HB.out | apply below_alloc | apply pw_below_drewN | apply below_drew1) | exact HB.out)⟩⟩
                                          · rw [if_neg c45] at H
                                            have c45b0 : ((x6_2.extract ((rd t188 x12_4) : Int).toNat ((wrap64 ((rd t188 x12_4) + ((rdOf ByteArray.empty l0 x12_4).size : Int))) : Int).toNat).toList == (rdOf ByteArray.empty l0 x12_4).toList) = false := beq_eq_false_iff_ne.mpr c45
                                            have c45b1 : ((x6_2.extract ((rd t188 x12_4) : Int).toNat ((wrap64 ((rd t188 x12_4) + ((rdOf ByteArray.empty l0 x12_4).size : Int))) : Int).toNat).toList != (rdOf ByteArray.empty l0 x12_4).toList) = true := bne_iff_ne.mpr c45
                                            obtain rfl := Option.some.inj H
                                            obtain ⟨Ao48, co48, eo48⟩ := Kd.R_slice HO_9.out
                                            subst eo48
                                            have p192 : 0 ≤ (x12_4 : Int) := of_decide_eq_true (by first | (with_reducible assumption) | assumption)
                                            have q192 : x12_4 < (t188.length : Int) := of_decide_eq_true (by first | (with_reducible assumption) | assumption)
                                            obtain ⟨ad192, e192, hx192_0⟩ := Kd.at_int (Kd.R_reads' HO_9.out).2.2 x12_4 p192 q192
                                            cases e192
                                            replace p192 := eq_true p192
                                            replace q192 := eq_true q192
                                            have p193 : 0 ≤ (x12_4 : Int) := of_decide_eq_true (by first | (with_reducible assumption) | assumption)
                                            have q193 : x12_4 < (t188.length : Int) := of_decide_eq_true (by first | (with_reducible assumption) | assumption)
                                            obtain ⟨ad193, e193, hx193_0⟩ := Kd.at_int (Kd.R_reads' HO_9.out).2.2 x12_4 p193 q193
                                            obtain rfl : ad192 = ad193 := (by injection e193)
                                            replace p193 := eq_true p193
                                            replace q193 := eq_true q193
                                            have p194 : 0 ≤ (x12_4 : Int) := of_decide_eq_true (by first | (with_reducible assumption) | assumption)
                                            have q194 : x12_4 < (l0.length : Int) := of_decide_eq_true (by first | (with_reducible assumption) | assumption)
                                            obtain ⟨ad194, e194, hx194_0⟩ := Kd.at_string HR0.out x12_4 p194 q194
                                            cases e194
                                            replace hx194_0 := (HB.out.cell (World.block_lt_of_cell? w _ hx194_0)).trans hx194_0
                                            replace p194 := eq_true p194
                                            replace q194 := eq_true q194
                                            obtain ⟨Ao49, co49, eo49⟩ := Kd.R_slice HO_7.out
                                            subst eo49
                                            have p195 : 0 ≤ (x12_4 : Int) := of_decide_eq_true (by first | (with_reducible assumption) | assumption)
                                            have q195 : x12_4 < (x7_2.length : Int) := of_decide_eq_true (by first | (with_reducible assumption) | assumption)
                                            obtain ⟨ad195, e195, hx195_0⟩ := Kd.at_int (Kd.R_reads' HO_7.out).2.2 x12_4 p195 q195
                                            cases e195
                                            replace p195 := eq_true p195
                                            replace q195 := eq_true q195
                                            have p196 : 0 ≤ (x12_4 : Int) := of_decide_eq_true (by first | (with_reducible assumption) | assumption)
                                            have q196 : x12_4 < (t188.length : Int) := of_decide_eq_true (by first | (with_reducible assumption) | assumption)
                                            obtain ⟨ad196, e196, hx196_0⟩ := Kd.at_int (Kd.R_reads' HO_9.out).2.2 x12_4 p196 q196
                                            obtain rfl : ad192 = ad196 := (by injection e196)
                                            replace p196 := eq_true p196
                                            replace q196 := eq_true q196
                                            have p197 : 0 ≤ (x12_4 : Int) := of_decide_eq_true (by first | (with_reducible assumption) | assumption)
                                            have q197 : x12_4 < (t188.length : Int) := of_decide_eq_true (by first | (with_reducible assumption) | assumption)
                                            obtain ⟨ad197, e197, hx197_0⟩ := Kd.at_int (Kd.R_reads' HO_9.out).2.2 x12_4 p197 q197
                                            obtain rfl : ad192 = ad197 := (by injection e197)
                                            replace p197 := eq_true p197
                                            replace q197 := eq_true q197
                                            have p198 : 0 ≤ (x12_4 : Int) := of_decide_eq_true (by first | (with_reducible assumption) | assumption)
                                            have q198 : x12_4 < (l0.length : Int) := of_decide_eq_true (by first | (with_reducible assumption) | assumption)
                                            obtain ⟨ad198, e198, hx198_0⟩ := Kd.at_string HR0.out x12_4 p198 q198
                                            obtain rfl : ad194 = ad198 := (by injection e198)
                                            replace hx198_0 := (HB.out.cell (World.block_lt_of_cell? w _ hx198_0)).trans hx198_0
                                            replace p198 := eq_true p198
                                            replace q198 := eq_true q198
                                            have p199 : 0 ≤ (x12_4 : Int) := of_decide_eq_true (by first | (with_reducible assumption) | assumption)
                                            have q199 : x12_4 < (l0.length : Int) := of_decide_eq_true (by first | (with_reducible assumption) | assumption)
                                            obtain ⟨ad199, e199, hx199_0⟩ := Kd.at_string HR0.out x12_4 p199 q199
                                            obtain rfl : ad194 = ad199 := (by injection e199)
                                            replace hx199_0 := (HB.out.cell (World.block_lt_of_cell? w _ hx199_0)).trans hx199_0
                                            replace p199 := eq_true p199
                                            replace q199 := eq_true q199
                                            go_wp2
                                            repeat (go_quiet (fail); try go_wp2)
                                            go_ret
                                            exact ⟨by first | rfl | (simp [errW_none, errW_some] <;> rfl) | (simp [*, errW_none, errW_some] <;> rfl), by repeat (first | (with_reducible first | exact HB.out | apply below_alloc | apply pw_below_drewN | apply below_drew1) | exact HB.out)⟩
                                        · rw [if_neg c44] at H
                                          exact absurd H (by simp)
                                      · rw [if_neg c43] at H
                                        exact absurd H (by simp)
                                    · rw [if_neg c42] at H
                                      exact absurd H (by simp)
                                · rw [if_neg c38] at H
                                  exact absurd H (by simp)
                              · rw [if_neg c37] at H
                                exact absurd H (by simp)
                          · rw [if_neg c34] at H
                            exact absurd H (by simp)
                        · rw [if_neg c33] at H
                          have c33b0 : decide (x12_4 < (t188.length : Int)) = false := decide_eq_false c33
                          clear c33
                          by_cases c50 : t175 = true
                          · subst c50
                            have H1 : ((eval_Match.f k4 3 l0 ([] : List (S40)) x6_2).bind fun t202 => (some t202)) = some r := by rw [if_pos rfl] at H; exact H
                            clear H
                            have H := H1
                            clear H1
                            replace H := Option.bind_eq_some_iff.mp H
                            obtain ⟨t202, A510, H⟩ := H
                            replace H : (some t202) = some r := H
                            have A51 := Aside0.mk A510
                            clear A510
                            obtain rfl := Option.some.inj H
                            obtain ⟨Ao52, co52, eo52⟩ := Kd.R_slice HO_9.out
                            subst eo52
                            go_wp2_with (first | (go_at_call 25; (with_reducible refine calls_of_args (args' := #[.agg #[.int .i64 3, .slice A0 l0.length c0, .slice none 0 0], .string x6_2]) rfl ?_); (refine (eval_Match.calls k4 3 _ _ l0 _ _ ([] : List (S40)) x6_2 t202 _ ?side1 ?side2 ?side3 ?side4 ?side5 A51.out).mono ?_); (case side1 => first | exact GlobOk.below HG.out (by repeat (first | (with_reducible first | exact HB.out | apply below_alloc | apply pw_below_drewN | apply below_drew1) | exact HB.out)) | (repeat (first | exact HG.out | (with_reducible refine GlobOk.alloc ?_ _) | (with_reducible refine GlobOk.drewN ?_ _) | (with_reducible refine GlobOk.drew ?_)))); (case side2 => repeat (first | exact (Kd.C_below HR0.out HB.out) | (with_reducible refine Kd.C_alloc ?_ _) | (with_reducible refine Kd.C_drewN ?_ _) | (with_reducible refine Kd.C_drew ?_))); (case side3 => exact HC0.out); (case side4 => exact Kd.C_nil _ _); (case side5 => exact Nat.le_refl _); rintro e w53 ⟨rfl, hb⟩; have n0_ := Aside0.mk (Kd.R_below (by (with_reducible repeat (first | apply Kd.R_alloc | apply Kd.R_drewN | apply Kd.R_drew)); exact HO_7.out) hb); have n1_ := Aside0.mk (Kd.R_below (by (with_reducible repeat (first | apply Kd.R_alloc | apply Kd.R_drewN | apply Kd.R_drew)); exact HO_9.out) hb); have n2_ := Aside0.mk (below_step (by repeat (first | (with_reducible first | exact HB.out | apply below_alloc | apply pw_below_drewN | apply below_drew1) | exact HB.out)) hb); clear HO_7; clear HO_9; clear HB; have HO_7 := n0_; have HO_9 := n1_; have HB := n2_; clear n0_ n1_ n2_; (try clear hb); (try clear hb2); (try clear hk); (try clear hi)))
                            repeat (go_quiet (first | (go_at_call 25; (with_reducible refine calls_of_args (args' := #[.agg #[.int .i64 3, .slice A0 l0.length c0, .slice none 0 0], .string x6_2]) rfl ?_); (refine (eval_Match.calls k4 3 _ _ l0 _ _ ([] : List (S40)) x6_2 t202 _ ?side1 ?side2 ?side3 ?side4 ?side5 A51.out).mono ?_); (case side1 => first | exact GlobOk.below HG.out (by repeat (first | (with_reducible first | exact HB.out | apply below_alloc | apply pw_below_drewN | apply below_drew1) | exact HB.out)) | (repeat (first | exact HG.out | (with_reducible refine GlobOk.alloc ?_ _) | (with_reducible refine GlobOk.drewN ?_ _) | (with_reducible refine GlobOk.drew ?_)))); (case side2 => repeat (first | exact (Kd.C_below HR0.out HB.out) | (with_reducible refine Kd.C_alloc ?_ _) | (with_reducible refine Kd.C_drewN ?_ _) | (with_reducible refine Kd.C_drew ?_))); (case side3 => exact HC0.out); (case side4 => exact Kd.C_nil _ _); (case side5 => exact Nat.le_refl _); rintro e w53 ⟨rfl, hb⟩; have n0_ := Aside0.mk (Kd.R_below (by (with_reducible repeat (first | apply Kd.R_alloc | apply Kd.R_drewN | apply Kd.R_drew)); exact HO_7.out) hb); have n1_ := Aside0.mk (Kd.R_below (by (with_reducible repeat (first | apply Kd.R_alloc | apply Kd.R_drewN | apply Kd.R_drew)); exact HO_9.out) hb); have n2_ := Aside0.mk (below_step (by repeat (first | (with_reducible first | exact HB.out | apply below_alloc | apply pw_below_drewN | apply below_drew1) | exact HB.out)) hb); clear HO_7; clear HO_9; clear HB; have HO_7 := n0_; have HO_9 := n1_; have HB := n2_; clear n0_ n1_ n2_; (try clear hb); (try clear hb2); (try clear hk); (try clear hi))); try go_wp2_with (first | (go_at_call 25; (with_reducible refine calls_of_args (args' := #[.agg #[.int .i64 3, .slice A0 l0.length c0, .slice none 0 0], .string x6_2]) rfl ?_); (refine (eval_Match.calls k4 3 _ _ l0 _ _ ([] : List (S40)) x6_2 t202 _ ?side1 ?side2 ?side3 ?side4 ?side5 A51.out).mono ?_); (case side1 => first | exact GlobOk.below HG.out (by repeat (first | (with_reducible first | exact HB.out | apply below_alloc | apply pw_below_drewN | apply below_drew1) | exact HB.out)) | (repeat (first | exact HG.out | (with_reducible refine GlobOk.alloc ?_ _) | (with_reducible refine GlobOk.drewN ?_ _) | (with_reducible refine GlobOk.drew ?_)))); (case side2 => repeat (first | exact (Kd.C_below HR0.out HB.out) | (with_reducible refine Kd.C_alloc ?_ _) | (with_reducible refine Kd.C_drewN ?_ _) | (with_reducible refine Kd.C_drew ?_))); (case side3 => exact HC0.out); (case side4 => exact Kd.C_nil _ _); (case side5 => exact Nat.le_refl _); rintro e w53 ⟨rfl, hb⟩; have n0_ := Aside0.mk (Kd.R_below (by (with_reducible repeat (first | apply Kd.R_alloc | apply Kd.R_drewN | apply Kd.R_drew)); exact HO_7.out) hb); have n1_ := Aside0.mk (Kd.R_below (by (with_reducible repeat (first | apply Kd.R_alloc | apply Kd.R_drewN | apply Kd.R_drew)); exact HO_9.out) hb); have n2_ := Aside0.mk (below_step (by repeat (first | (with_reducible first | exact HB.out | apply below_alloc | apply pw_below_drewN | apply below_drew1) | exact HB.out)) hb); clear HO_7; clear HO_9; clear HB; have HO_7 := n0_; have HO_9 := n1_; have HB := n2_; clear n0_ n1_ n2_; (try clear hb); (try clear hb2); (try clear hk); (try clear hi))))
                            go_ret
                            exact ⟨by first | rfl | (simp [errW_none, errW_some] <;> rfl) | (simp [*, errW_none, errW_some] <;> rfl), by repeat (first | (with_reducible first | exact HB.out | apply below_alloc | apply pw_below_drewN | apply below_drew1) | exact HB.out)⟩
                          · replace c50 := Bool.eq_false_iff.mpr c50
                            subst c50
                            have H1 : (some false) = some r := by rw [if_neg (show ¬ (false = true) by decide)] at H; exact H
                            clear H
                            have H := H1
                            clear H1
                            obtain rfl := Option.some.inj H
                            obtain ⟨Ao54, co54, eo54⟩ := Kd.R_slice HO_9.out
                            subst eo54
                            go_wp2
                            repeat (go_quiet (fail); try go_wp2)
                            go_ret
                            exact ⟨by first | rfl | (simp [errW_none, errW_some] <;> rfl) | (simp [*, errW_none, errW_some] <;> rfl), by repeat (first | (with_reducible first | exact HB.out | apply below_alloc | apply pw_below_drewN | apply below_drew1) | exact HB.out)⟩

/-- THE ONE PURE STATEMENT of verbatimlaw20_EvalFinds. -/
def verbatimlaw20_EvalFinds.Pure : Prop := ∀ (l0 : List ByteArray) (l1 : List ByteArray), (l0.length ≤ 8796093021952 ∧ ∀ x_ ∈ l0, x_.size ≤ 140737488351232) → (l1.length ≤ 8796093021952 ∧ ∀ x_ ∈ l1, x_.size ≤ 140737488351232) → ∃ k, verbatimlaw20_EvalFinds.f k l0 l1 = some true

end Go.Proofs.Ytbbgnapepkenaaa.E
