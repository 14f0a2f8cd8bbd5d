-- Written for this claim by a program of this session (over the kit's print tool): functions as Lean functions, their contracts, rows. Lean checks it.
import Derived.Test.YtbbgnapepkenaaaQ0
import Derived.Test.YtbbgnapepkenaaaQ1
import Derived.Test.YtbbgnapepkenaaaQ2
import Derived.Test.YtbbgnapepkenaaaQ3
import Derived.Test.YtbbgnapepkenaaaQ4
namespace Go.Proofs.Ytbbgnapepkenaaa.Q
open Go.RowKit Go.Proofs.YtbbgnapepkenaaaW.PrintWords Go.Proofs.YtbbgnapepkenaaaW.PrintLast Go.Proofs.YtbbgnapepkenaaaW.PrintMore
attribute [local go_sem] max2_int min2_int max_two min_two max_three min_three max_four min_four   -- for this text's walks alone
set_option linter.unusedVariables false
set_option linter.unusedSimpArgs false

attribute [local go_sem high] eqA25
/-! ### verbatimlaw16_TierPlan: function 5 -/
mutual
def verbatimlaw16_TierPlan.l0 : Nat → List (S25) → Bool → List Int → Int → Int → Int → Int → Int → Int → Option (Bool)
  | 0, _, _, _, _, _, _, _, _, _ => none
  | k + 1, x0, x5, x6, x7, x8, x183000, x183001, x183002, x183003 => if x8 < (x6.length : Int) then (if 0 ≤ x8 then (if (rd x6 x8) < 0 then (some false) else (if (rd x6 x8) ≥ (x0.length : Int) then (some false) else (if x8 > 0 then (if 0 ≤ (wrap64 (x8 - 1)) then (if (wrap64 (x8 - 1)) < (x6.length : Int) then (if (rd x6 (wrap64 (x8 - 1))) ≥ (rd x6 x8) then (some false) else (if 0 ≤ (rd x6 x8) then (if (rd x6 x8) < (x0.length : Int) then (if 0 < (x6.length : Int) then (if 0 ≤ (rd x6 0) then (if (rd x6 0) < (x0.length : Int) then (if ((rd_T25 x0 (rd x6 x8)).f2) = ((rd_T25 x0 (rd x6 0)).f2) then (verbatimlaw16_TierPlan.l0 k x0 x5 x6 x7 (wrap64 (x8 + 1)) x183000 x183001 x183002 x183003) else (some false)) else (none)) else (none)) else (none)) else (none)) else (none))) else (none)) else (none)) else (if 0 ≤ (rd x6 x8) then (if (rd x6 x8) < (x0.length : Int) then (if 0 < (x6.length : Int) then (if 0 ≤ (rd x6 0) then (if (rd x6 0) < (x0.length : Int) then (if ((rd_T25 x0 (rd x6 x8)).f2) = ((rd_T25 x0 (rd x6 0)).f2) then (verbatimlaw16_TierPlan.l0 k x0 x5 x6 x7 (wrap64 (x8 + 1)) x183000 x183001 x183002 x183003) else (some false)) else (none)) else (none)) else (none)) else (none)) else (none))))) else (none)) else (verbatimlaw16_TierPlan.l1 k x0 x5 x6 x7 0 x183000 x183001 x183002 x183003)
def verbatimlaw16_TierPlan.l1 : Nat → List (S25) → Bool → List Int → Int → Int → Int → Int → Int → Int → Option (Bool)
  | 0, _, _, _, _, _, _, _, _, _ => none
  | k + 1, x0, x5, x6, x7, x9, x183000, x183001, x183002, x183003 => if x9 < (x0.length : Int) then (verbatimlaw16_TierPlan.l2 k x0 x5 x6 x7 x9 0 0 x183000 x183001 x183002 x183003) else (if (x6.length : Int) > 0 then (if 0 < (x6.length : Int) then (if 0 ≤ (rd x6 0) then (if (rd x6 0) < (x0.length : Int) then (if ((rd_T25 x0 (rd x6 0)).f2) < 16 then (if x7 = (wrap64 (((rd_T25 x0 (rd x6 0)).f2) + 1)) then ((tier_Done.f k x0 x6 x183000 x183001 x183002 x183003).bind fun t204 => (if x5 = true then (if (t204.length : Int) = (wrap64 ((wrap64 ((x0.length : Int) - (x6.length : Int))) + 1)) then (if 0 ≤ (wrap64 ((t204.length : Int) - 1)) then (if (wrap64 ((t204.length : Int) - 1)) < (t204.length : Int) then (some (((rd_T25 t204 (wrap64 ((t204.length : Int) - 1))).f0) == x183000 && (((rd_T25 t204 (wrap64 ((t204.length : Int) - 1))).f1) == x183001 && (((rd_T25 t204 (wrap64 ((t204.length : Int) - 1))).f2) == x183002 && (((rd_T25 t204 (wrap64 ((t204.length : Int) - 1))).f3) == x183003))))) else (none)) else (none)) else (some false)) else (some false))) else (some false)) else ((tier_Done.f k x0 x6 x183000 x183001 x183002 x183003).bind fun t208 => (if x5 = true then (if (t208.length : Int) = (wrap64 ((wrap64 ((x0.length : Int) - (x6.length : Int))) + 1)) then (if 0 ≤ (wrap64 ((t208.length : Int) - 1)) then (if (wrap64 ((t208.length : Int) - 1)) < (t208.length : Int) then (some (((rd_T25 t208 (wrap64 ((t208.length : Int) - 1))).f0) == x183000 && (((rd_T25 t208 (wrap64 ((t208.length : Int) - 1))).f1) == x183001 && (((rd_T25 t208 (wrap64 ((t208.length : Int) - 1))).f2) == x183002 && (((rd_T25 t208 (wrap64 ((t208.length : Int) - 1))).f3) == x183003))))) else (none)) else (none)) else (some false)) else (some false)))) else (none)) else (none)) else (none)) else ((tier_Done.f k x0 x6 x183000 x183001 x183002 x183003).bind fun t212 => (if x5 = true then (if (t212.length : Int) = (wrap64 ((wrap64 ((x0.length : Int) - (x6.length : Int))) + 1)) then (if 0 ≤ (wrap64 ((t212.length : Int) - 1)) then (if (wrap64 ((t212.length : Int) - 1)) < (t212.length : Int) then (some (((rd_T25 t212 (wrap64 ((t212.length : Int) - 1))).f0) == x183000 && (((rd_T25 t212 (wrap64 ((t212.length : Int) - 1))).f1) == x183001 && (((rd_T25 t212 (wrap64 ((t212.length : Int) - 1))).f2) == x183002 && (((rd_T25 t212 (wrap64 ((t212.length : Int) - 1))).f3) == x183003))))) else (none)) else (none)) else (some false)) else (some false))))
def verbatimlaw16_TierPlan.l2 : Nat → List (S25) → Bool → List Int → Int → Int → Int → Int → Int → Int → Int → Int → Option (Bool)
  | 0, _, _, _, _, _, _, _, _, _, _, _ => none
  | k + 1, x0, x5, x6, x7, x9, x10, x11, x183000, x183001, x183002, x183003 => if x11 < (x0.length : Int) then (if 0 ≤ x11 then (if 0 ≤ x9 then (if x9 < (x0.length : Int) then (if ((rd_T25 x0 x11).f2) = ((rd_T25 x0 x9).f2) then (verbatimlaw16_TierPlan.l2 k x0 x5 x6 x7 x9 (wrap64 (x10 + 1)) (wrap64 (x11 + 1)) x183000 x183001 x183002 x183003) else (verbatimlaw16_TierPlan.l2 k x0 x5 x6 x7 x9 x10 (wrap64 (x11 + 1)) x183000 x183001 x183002 x183003)) else (none)) else (none)) else (none)) else (if x10 > 3 then (if (x6.length : Int) = 0 then (some false) else (if 0 < (x6.length : Int) then (if 0 ≤ (rd x6 0) then (if (rd x6 0) < (x0.length : Int) then (if 0 ≤ x9 then (if x9 < (x0.length : Int) then (if ((rd_T25 x0 (rd x6 0)).f2) > ((rd_T25 x0 x9).f2) then (some false) else (verbatimlaw16_TierPlan.l1 k x0 x5 x6 x7 (wrap64 (x9 + 1)) x183000 x183001 x183002 x183003)) else (none)) else (none)) else (none)) else (none)) else (none))) else (verbatimlaw16_TierPlan.l1 k x0 x5 x6 x7 (wrap64 (x9 + 1)) x183000 x183001 x183002 x183003))
end
def verbatimlaw16_TierPlan.f (k : Nat) (l0 : List (S25)) (a1_0 : Int) (a1_1 : Int) (a1_2 : Int) (a1_3 : Int) : Option (Bool) := (verbatimlaw16_head.f k).bind fun t183 => (if (l0.length : Int) > 200 then (some t183) else ((tier_Plan.f l0).bind fun bt184 => (verbatimlaw16_TierPlan.l0 k l0 t183 bt184.1 bt184.2 0 a1_0 a1_1 a1_2 a1_3)))
theorem verbatimlaw16_TierPlan.mono_l : ∀ k, (∀ y0 y1 y2 y3 y4 y5 y6 y7 y8, LeO (verbatimlaw16_TierPlan.l0 k y0 y1 y2 y3 y4 y5 y6 y7 y8) (verbatimlaw16_TierPlan.l0 (k + 1) y0 y1 y2 y3 y4 y5 y6 y7 y8)) ∧ (∀ y0 y1 y2 y3 y4 y5 y6 y7 y8, LeO (verbatimlaw16_TierPlan.l1 k y0 y1 y2 y3 y4 y5 y6 y7 y8) (verbatimlaw16_TierPlan.l1 (k + 1) y0 y1 y2 y3 y4 y5 y6 y7 y8)) ∧ (∀ y0 y1 y2 y3 y4 y5 y6 y7 y8 y9 y10, LeO (verbatimlaw16_TierPlan.l2 k y0 y1 y2 y3 y4 y5 y6 y7 y8 y9 y10) (verbatimlaw16_TierPlan.l2 (k + 1) y0 y1 y2 y3 y4 y5 y6 y7 y8 y9 y10))
  | 0 => ⟨fun _ _ _ _ _ _ _ _ _ r h => by simp [verbatimlaw16_TierPlan.l0] at h, fun _ _ _ _ _ _ _ _ _ r h => by simp [verbatimlaw16_TierPlan.l1] at h, fun _ _ _ _ _ _ _ _ _ _ _ r h => by simp [verbatimlaw16_TierPlan.l2] at h⟩
  | k + 1 => by
    obtain ⟨ih0, ih1, ih2⟩ := verbatimlaw16_TierPlan.mono_l k
    refine ⟨?_, ?_, ?_⟩
    · intro y0 y1 y2 y3 y4 y5 y6 y7 y8
      unfold verbatimlaw16_TierPlan.l0
      repeat' first
      | (with_reducible exact ih0 _ _ _ _ _ _ _ _ _)
      | (with_reducible exact ih1 _ _ _ _ _ _ _ _ _)
      | (with_reducible exact ih2 _ _ _ _ _ _ _ _ _ _ _)
      | (with_reducible exact tier_Done.mono _ _ _ _ _ _ _)
      | (with_reducible exact verbatimlaw16_head.mono _)
      | (with_reducible exact LeO.refl _)
      | (with_reducible exact LeO.none _)
      | (with_reducible refine LeO.ite ?_ ?_)
      | (with_reducible refine LeO.bind ?_ (fun _ => ?_))
      | exact ih0 _ _ _ _ _ _ _ _ _
      | exact ih1 _ _ _ _ _ _ _ _ _
      | exact ih2 _ _ _ _ _ _ _ _ _ _ _
      | exact tier_Done.mono _ _ _ _ _ _ _
      | exact verbatimlaw16_head.mono _
      | exact LeO.none _
      | refine LeO.ite ?_ ?_
      | refine LeO.bind ?_ (fun _ => ?_)
    · intro y0 y1 y2 y3 y4 y5 y6 y7 y8
      unfold verbatimlaw16_TierPlan.l1
      repeat' first
      | (with_reducible exact ih0 _ _ _ _ _ _ _ _ _)
      | (with_reducible exact ih1 _ _ _ _ _ _ _ _ _)
      | (with_reducible exact ih2 _ _ _ _ _ _ _ _ _ _ _)
      | (with_reducible exact tier_Done.mono _ _ _ _ _ _ _)
      | (with_reducible exact verbatimlaw16_head.mono _)
      | (with_reducible exact LeO.refl _)
      | (with_reducible exact LeO.none _)
      | (with_reducible refine LeO.ite ?_ ?_)
      | (with_reducible refine LeO.bind ?_ (fun _ => ?_))
      | exact ih0 _ _ _ _ _ _ _ _ _
      | exact ih1 _ _ _ _ _ _ _ _ _
      | exact ih2 _ _ _ _ _ _ _ _ _ _ _
      | exact tier_Done.mono _ _ _ _ _ _ _
      | exact verbatimlaw16_head.mono _
      | exact LeO.none _
      | refine LeO.ite ?_ ?_
      | refine LeO.bind ?_ (fun _ => ?_)
    · intro y0 y1 y2 y3 y4 y5 y6 y7 y8 y9 y10
      unfold verbatimlaw16_TierPlan.l2
      repeat' first
      | (with_reducible exact ih0 _ _ _ _ _ _ _ _ _)
      | (with_reducible exact ih1 _ _ _ _ _ _ _ _ _)
      | (with_reducible exact ih2 _ _ _ _ _ _ _ _ _ _ _)
      | (with_reducible exact tier_Done.mono _ _ _ _ _ _ _)
      | (with_reducible exact verbatimlaw16_head.mono _)
      | (with_reducible exact LeO.refl _)
      | (with_reducible exact LeO.none _)
      | (with_reducible refine LeO.ite ?_ ?_)
      | (with_reducible refine LeO.bind ?_ (fun _ => ?_))
      | exact ih0 _ _ _ _ _ _ _ _ _
      | exact ih1 _ _ _ _ _ _ _ _ _
      | exact ih2 _ _ _ _ _ _ _ _ _ _ _
      | exact tier_Done.mono _ _ _ _ _ _ _
      | exact verbatimlaw16_head.mono _
      | exact LeO.none _
      | refine LeO.ite ?_ ?_
      | refine LeO.bind ?_ (fun _ => ?_)
theorem verbatimlaw16_TierPlan.mono : ∀ a0 a1 a2 a3 a4 k, LeO (verbatimlaw16_TierPlan.f k a0 a1 a2 a3 a4) (verbatimlaw16_TierPlan.f (k + 1) a0 a1 a2 a3 a4) := by
  intro a0 a1 a2 a3 a4 k
  obtain ⟨ih0, ih1, ih2⟩ := verbatimlaw16_TierPlan.mono_l k
  unfold verbatimlaw16_TierPlan.f
  repeat' first
      | (with_reducible exact ih0 _ _ _ _ _ _ _ _ _)
      | (with_reducible exact ih1 _ _ _ _ _ _ _ _ _)
      | (with_reducible exact ih2 _ _ _ _ _ _ _ _ _ _ _)
      | (with_reducible exact tier_Done.mono _ _ _ _ _ _ _)
      | (with_reducible exact verbatimlaw16_head.mono _)
      | (with_reducible exact LeO.refl _)
      | (with_reducible exact LeO.none _)
      | (with_reducible refine LeO.ite ?_ ?_)
      | (with_reducible refine LeO.bind ?_ (fun _ => ?_))
      | exact ih0 _ _ _ _ _ _ _ _ _
      | exact ih1 _ _ _ _ _ _ _ _ _
      | exact ih2 _ _ _ _ _ _ _ _ _ _ _
      | exact tier_Done.mono _ _ _ _ _ _ _
      | exact verbatimlaw16_head.mono _
      | exact LeO.none _
      | refine LeO.ite ?_ ?_
      | refine LeO.bind ?_ (fun _ => ?_)
set_option maxHeartbeats 8000000 in
set_option maxRecDepth 100000 in
theorem verbatimlaw16_TierPlan.calls (k : Nat) (A0 : Option Addr) (c0 : Nat) (l0 : List (S25)) (a1_0 : Int) (a1_1 : Int) (a1_2 : Int) (a1_3 : Int) (r : Bool) (w : World) (hr0 : Kd.C k25 w A0 l0.length l0) (hc0 : l0.length ≤ c0) (h : verbatimlaw16_TierPlan.f k l0 a1_0 a1_1 a1_2 a1_3 = some r) :
    Calls Try.prog 5 #[.slice A0 l0.length c0, .agg #[.int .i64 a1_0, .int .i64 a1_1, .int .i64 a1_2, .int .i64 a1_3]] w fun e w' => e = .returned (.bool r) ∧ Below w.heap.size w w' := by
  have hu25 := Try.underlying25
  have HR0 := Aside0.mk hr0
  have HC0 := Aside0.mk hc0
  clear hr0 hc0
  have HB := Aside0.mk (Below.refl w.heap.size w)
  have H : ((verbatimlaw16_head.f k).bind fun t183 => (if (l0.length : Int) > 200 then (some t183) else ((tier_Plan.f l0).bind fun bt184 => (verbatimlaw16_TierPlan.l0 k l0 t183 bt184.1 bt184.2 0 a1_0 a1_1 a1_2 a1_3)))) = some r := h
  clear h
  replace H := Option.bind_eq_some_iff.mp H
  obtain ⟨t183, A30, H⟩ := H
  replace H : (if (l0.length : Int) > 200 then (some t183) else ((tier_Plan.f l0).bind fun bt184 => (verbatimlaw16_TierPlan.l0 k l0 t183 bt184.1 bt184.2 0 a1_0 a1_1 a1_2 a1_3))) = some r := H
  have A3 := Aside0.mk A30
  clear A30
  by_cases c4 : (l0.length : Int) > 200
  · rw [if_pos c4] at H
    have c4b0 : decide (200 < (l0.length : Int)) = true := decide_eq_true c4
    have c4b1 : decide (200 < l0.length) = true := decide_eq_true (by omega)
    clear c4
    obtain rfl := Option.some.inj H
    go_enter Try.func5, Try.ntmps5
    go_wp2_with (first | ((with_reducible refine gate_dst (N := 3) rfl ?_); (try (refine gate_guard (by rfl) ?_; dsimp only)); refine box_event ?hg (N := 3) ?hd (cs := #[.int .i64 a1_0, .int .i64 a1_1, .int .i64 a1_2, .int .i64 a1_3]) (t := 25) ?hr ?_; (case hd => rfl); (case hg => rfl); (case hr => first | (go_simp; done) | (go_simp; rfl)); intro gb182 hg w5 hbox hb; have n0_ := Aside0.mk (below_step (by repeat (first | (with_reducible first | exact HB.out | apply below_alloc | apply pw_below_drewN | apply below_drew1) | exact HB.out)) hb); have n1_ := Aside0.mk (hbox); have n2_ := Aside0.mk ((by rw [hg]; exact (below_size (by repeat (first | (with_reducible first | exact HB.out | apply below_alloc | apply pw_below_drewN | apply below_drew1) | exact HB.out))) : w.heap.size ≤ gb182)); have n3_ := Aside0.mk ((by rw [hg]; exact (below_size (by repeat (first | (with_reducible first | exact HB.out | apply below_alloc | apply pw_below_drewN | apply below_drew1) | exact HB.out))) : w.heap.size ≤ gb182)); clear HB; have HB := n0_; have BK182 := n1_; have GW182 := n2_; have GE182 := n3_; clear n0_ n1_ n2_ n3_; clear hb hbox hg) | (go_at_call 14; (with_reducible refine (verbatimlaw16_head.calls k  t183 _ A3.out).mono ?_); rintro e w6 ⟨rfl, hb⟩; have n0_ := Aside0.mk (blk_below (g := gb182) (o := .cells #[.int .i64 a1_0, .int .i64 a1_1, .int .i64 a1_2, .int .i64 a1_3] 25 (0, 0)) (by (with_reducible repeat (first | refine blk_drewN ?_ _ | refine blk_drew ?_ | refine blk_alloc ?_ _)); exact BK182.out) hb); have n1_ := Aside0.mk (below_step (by repeat (first | (with_reducible first | exact HB.out | apply below_alloc | apply pw_below_drewN | apply below_drew1 | refine below_set ?_ GE182.out) | exact HB.out)) hb); clear BK182; clear HB; have BK182 := n0_; have HB := n1_; clear n0_ n1_; (try clear hb); (try clear hb2); (try clear hk); (try clear hi)))
    repeat (go_quiet (first | ((with_reducible refine gate_dst (N := 3) rfl ?_); (try (refine gate_guard (by rfl) ?_; dsimp only)); refine box_event ?hg (N := 3) ?hd (cs := #[.int .i64 a1_0, .int .i64 a1_1, .int .i64 a1_2, .int .i64 a1_3]) (t := 25) ?hr ?_; (case hd => rfl); (case hg => rfl); (case hr => first | (go_simp; done) | (go_simp; rfl)); intro gb182 hg w5 hbox hb; have n0_ := Aside0.mk (below_step (by repeat (first | (with_reducible first | exact HB.out | apply below_alloc | apply pw_below_drewN | apply below_drew1) | exact HB.out)) hb); have n1_ := Aside0.mk (hbox); have n2_ := Aside0.mk ((by rw [hg]; exact (below_size (by repeat (first | (with_reducible first | exact HB.out | apply below_alloc | apply pw_below_drewN | apply below_drew1) | exact HB.out))) : w.heap.size ≤ gb182)); have n3_ := Aside0.mk ((by rw [hg]; exact (below_size (by repeat (first | (with_reducible first | exact HB.out | apply below_alloc | apply pw_below_drewN | apply below_drew1) | exact HB.out))) : w.heap.size ≤ gb182)); clear HB; have HB := n0_; have BK182 := n1_; have GW182 := n2_; have GE182 := n3_; clear n0_ n1_ n2_ n3_; clear hb hbox hg) | (go_at_call 14; (with_reducible refine (verbatimlaw16_head.calls k  t183 _ A3.out).mono ?_); rintro e w6 ⟨rfl, hb⟩; have n0_ := Aside0.mk (blk_below (g := gb182) (o := .cells #[.int .i64 a1_0, .int .i64 a1_1, .int .i64 a1_2, .int .i64 a1_3] 25 (0, 0)) (by (with_reducible repeat (first | refine blk_drewN ?_ _ | refine blk_drew ?_ | refine blk_alloc ?_ _)); exact BK182.out) hb); have n1_ := Aside0.mk (below_step (by repeat (first | (with_reducible first | exact HB.out | apply below_alloc | apply pw_below_drewN | apply below_drew1 | refine below_set ?_ GE182.out) | exact HB.out)) hb); clear BK182; clear HB; have BK182 := n0_; have HB := n1_; clear n0_ n1_; (try clear hb); (try clear hb2); (try clear hk); (try clear hi))); try go_wp2_with (first | ((with_reducible refine gate_dst (N := 3) rfl ?_); (try (refine gate_guard (by rfl) ?_; dsimp only)); refine box_event ?hg (N := 3) ?hd (cs := #[.int .i64 a1_0, .int .i64 a1_1, .int .i64 a1_2, .int .i64 a1_3]) (t := 25) ?hr ?_; (case hd => rfl); (case hg => rfl); (case hr => first | (go_simp; done) | (go_simp; rfl)); intro gb182 hg w5 hbox hb; have n0_ := Aside0.mk (below_step (by repeat (first | (with_reducible first | exact HB.out | apply below_alloc | apply pw_below_drewN | apply below_drew1) | exact HB.out)) hb); have n1_ := Aside0.mk (hbox); have n2_ := Aside0.mk ((by rw [hg]; exact (below_size (by repeat (first | (with_reducible first | exact HB.out | apply below_alloc | apply pw_below_drewN | apply below_drew1) | exact HB.out))) : w.heap.size ≤ gb182)); have n3_ := Aside0.mk ((by rw [hg]; exact (below_size (by repeat (first | (with_reducible first | exact HB.out | apply below_alloc | apply pw_below_drewN | apply below_drew1) | exact HB.out))) : w.heap.size ≤ gb182)); clear HB; have HB := n0_; have BK182 := n1_; have GW182 := n2_; have GE182 := n3_; clear n0_ n1_ n2_ n3_; clear hb hbox hg) | (go_at_call 14; (with_reducible refine (verbatimlaw16_head.calls k  t183 _ A3.out).mono ?_); rintro e w6 ⟨rfl, hb⟩; have n0_ := Aside0.mk (blk_below (g := gb182) (o := .cells #[.int .i64 a1_0, .int .i64 a1_1, .int .i64 a1_2, .int .i64 a1_3] 25 (0, 0)) (by (with_reducible repeat (first | refine blk_drewN ?_ _ | refine blk_drew ?_ | refine blk_alloc ?_ _)); exact BK182.out) hb); have n1_ := Aside0.mk (below_step (by repeat (first | (with_reducible first | exact HB.out | apply below_alloc | apply pw_below_drewN | apply below_drew1 | refine below_set ?_ GE182.out) | exact HB.out)) hb); clear BK182; clear HB; have BK182 := n0_; have HB := n1_; clear n0_ n1_; (try clear hb); (try clear hb2); (try clear hk); (try clear hi))))
    go_ret
    exact ⟨by first | rfl | (simp [errW_none, errW_some] <;> rfl) | (simp [*, errW_none, errW_some] <;> rfl), by repeat (first | (with_reducible first | exact HB.out | apply below_alloc | apply pw_below_drewN | apply below_drew1 | refine below_set ?_ GE182.out) | exact HB.out)⟩
  · rw [if_neg c4] at H
    have c4b0 : decide (200 < (l0.length : Int)) = false := decide_eq_false c4
    have c4b1 : decide (200 < l0.length) = false := decide_eq_false (by omega)
    clear c4
    replace H := Option.bind_eq_some_iff.mp H
    obtain ⟨⟨t184, t185⟩, A70, H⟩ := H
    replace H : (verbatimlaw16_TierPlan.l0 k l0 t183 t184 t185 0 a1_0 a1_1 a1_2 a1_3) = some r := H
    have A7 := Aside0.mk A70
    clear A70
    have H' := Aside0.mk H
    clear H
    go_enter Try.func5, Try.ntmps5
    go_wp2_with (first | ((with_reducible refine gate_dst (N := 3) rfl ?_); (try (refine gate_guard (by rfl) ?_; dsimp only)); refine box_event ?hg (N := 3) ?hd (cs := #[.int .i64 a1_0, .int .i64 a1_1, .int .i64 a1_2, .int .i64 a1_3]) (t := 25) ?hr ?_; (case hd => rfl); (case hg => rfl); (case hr => first | (go_simp; done) | (go_simp; rfl)); intro gb182 hg w8 hbox hb; have n0_ := Aside0.mk (below_step (by repeat (first | (with_reducible first | exact HB.out | apply below_alloc | apply pw_below_drewN | apply below_drew1) | exact HB.out)) hb); have n1_ := Aside0.mk (hbox); have n2_ := Aside0.mk ((by rw [hg]; exact (below_size (by repeat (first | (with_reducible first | exact HB.out | apply below_alloc | apply pw_below_drewN | apply below_drew1) | exact HB.out))) : w.heap.size ≤ gb182)); have n3_ := Aside0.mk ((by rw [hg]; exact (below_size (by repeat (first | (with_reducible first | exact HB.out | apply below_alloc | apply pw_below_drewN | apply below_drew1) | exact HB.out))) : w.heap.size ≤ gb182)); clear HB; have HB := n0_; have BK182 := n1_; have GW182 := n2_; have GE182 := n3_; clear n0_ n1_ n2_ n3_; clear hb hbox hg) | (go_at_call 14; (with_reducible refine (verbatimlaw16_head.calls k  t183 _ A3.out).mono ?_); rintro e w9 ⟨rfl, hb⟩; have n0_ := Aside0.mk (blk_below (g := gb182) (o := .cells #[.int .i64 a1_0, .int .i64 a1_1, .int .i64 a1_2, .int .i64 a1_3] 25 (0, 0)) (by (with_reducible repeat (first | refine blk_drewN ?_ _ | refine blk_drew ?_ | refine blk_alloc ?_ _)); exact BK182.out) hb); have n1_ := Aside0.mk (below_step (by repeat (first | (with_reducible first | exact HB.out | apply below_alloc | apply pw_below_drewN | apply below_drew1 | refine below_set ?_ GE182.out) | exact HB.out)) hb); clear BK182; clear HB; have BK182 := n0_; have HB := n1_; clear n0_ n1_; (try clear hb); (try clear hb2); (try clear hk); (try clear hi)) | (go_at_call 15; (with_reducible refine (tier_Plan.calls _ _ l0 t184 t185 _ ?side1 ?side2 A7.out).mono ?_); (case side1 => repeat (first | exact (Kd.C_below HR0.out HB.out) | (with_reducible refine Kd.C_alloc ?_ _) | (with_reducible refine Kd.C_drewN ?_ _) | (with_reducible refine Kd.C_drew ?_))); (case side2 => exact HC0.out); rintro e w10 ⟨v186, rfl, ho0, hb⟩; have n0_ := Aside0.mk (Kd.R_lower ho0 (below_size (by repeat (first | (with_reducible first | exact HB.out | apply below_alloc | apply pw_below_drewN | apply below_drew1 | refine below_set ?_ GE182.out) | exact HB.out)))); have n1_ := Aside0.mk (blk_below (g := gb182) (o := .cells #[.int .i64 a1_0, .int .i64 a1_1, .int .i64 a1_2, .int .i64 a1_3] 25 (0, 0)) (by (with_reducible repeat (first | refine blk_drewN ?_ _ | refine blk_drew ?_ | refine blk_alloc ?_ _)); exact BK182.out) hb); have n2_ := Aside0.mk (below_step (by repeat (first | (with_reducible first | exact HB.out | apply below_alloc | apply pw_below_drewN | apply below_drew1 | refine below_set ?_ GE182.out) | exact HB.out)) hb); clear BK182; clear HB; have HO187 := n0_; have BK182 := n1_; have HB := n2_; clear n0_ n1_ n2_; (try clear hb); (try clear hb2); (try clear hk); (try clear hi); (try clear ho0)))
    repeat (go_quiet (first | ((with_reducible refine gate_dst (N := 3) rfl ?_); (try (refine gate_guard (by rfl) ?_; dsimp only)); refine box_event ?hg (N := 3) ?hd (cs := #[.int .i64 a1_0, .int .i64 a1_1, .int .i64 a1_2, .int .i64 a1_3]) (t := 25) ?hr ?_; (case hd => rfl); (case hg => rfl); (case hr => first | (go_simp; done) | (go_simp; rfl)); intro gb182 hg w8 hbox hb; have n0_ := Aside0.mk (below_step (by repeat (first | (with_reducible first | exact HB.out | apply below_alloc | apply pw_below_drewN | apply below_drew1) | exact HB.out)) hb); have n1_ := Aside0.mk (hbox); have n2_ := Aside0.mk ((by rw [hg]; exact (below_size (by repeat (first | (with_reducible first | exact HB.out | apply below_alloc | apply pw_below_drewN | apply below_drew1) | exact HB.out))) : w.heap.size ≤ gb182)); have n3_ := Aside0.mk ((by rw [hg]; exact (below_size (by repeat (first | (with_reducible first | exact HB.out | apply below_alloc | apply pw_below_drewN | apply below_drew1) | exact HB.out))) : w.heap.size ≤ gb182)); clear HB; have HB := n0_; have BK182 := n1_; have GW182 := n2_; have GE182 := n3_; clear n0_ n1_ n2_ n3_; clear hb hbox hg) | (go_at_call 14; (with_reducible refine (verbatimlaw16_head.calls k  t183 _ A3.out).mono ?_); rintro e w9 ⟨rfl, hb⟩; have n0_ := Aside0.mk (blk_below (g := gb182) (o := .cells #[.int .i64 a1_0, .int .i64 a1_1, .int .i64 a1_2, .int .i64 a1_3] 25 (0, 0)) (by (with_reducible repeat (first | refine blk_drewN ?_ _ | refine blk_drew ?_ | refine blk_alloc ?_ _)); exact BK182.out) hb); have n1_ := Aside0.mk (below_step (by repeat (first | (with_reducible first | exact HB.out | apply below_alloc | apply pw_below_drewN | apply below_drew1 | refine below_set ?_ GE182.out) | exact HB.out)) hb); clear BK182; clear HB; have BK182 := n0_; have HB := n1_; clear n0_ n1_; (try clear hb); (try clear hb2); (try clear hk); (try clear hi)) | (go_at_call 15; (with_reducible refine (tier_Plan.calls _ _ l0 t184 t185 _ ?side1 ?side2 A7.out).mono ?_); (case side1 => repeat (first | exact (Kd.C_below HR0.out HB.out) | (with_reducible refine Kd.C_alloc ?_ _) | (with_reducible refine Kd.C_drewN ?_ _) | (with_reducible refine Kd.C_drew ?_))); (case side2 => exact HC0.out); rintro e w10 ⟨v186, rfl, ho0, hb⟩; have n0_ := Aside0.mk (Kd.R_lower ho0 (below_size (by repeat (first | (with_reducible first | exact HB.out | apply below_alloc | apply pw_below_drewN | apply below_drew1 | refine below_set ?_ GE182.out) | exact HB.out)))); have n1_ := Aside0.mk (blk_below (g := gb182) (o := .cells #[.int .i64 a1_0, .int .i64 a1_1, .int .i64 a1_2, .int .i64 a1_3] 25 (0, 0)) (by (with_reducible repeat (first | refine blk_drewN ?_ _ | refine blk_drew ?_ | refine blk_alloc ?_ _)); exact BK182.out) hb); have n2_ := Aside0.mk (below_step (by repeat (first | (with_reducible first | exact HB.out | apply below_alloc | apply pw_below_drewN | apply below_drew1 | refine below_set ?_ GE182.out) | exact HB.out)) hb); clear BK182; clear HB; have HO187 := n0_; have BK182 := n1_; have HB := n2_; clear n0_ n1_ n2_; (try clear hb); (try clear hb2); (try clear hk); (try clear hi); (try clear ho0))); try go_wp2_with (first | ((with_reducible refine gate_dst (N := 3) rfl ?_); (try (refine gate_guard (by rfl) ?_; dsimp only)); refine box_event ?hg (N := 3) ?hd (cs := #[.int .i64 a1_0, .int .i64 a1_1, .int .i64 a1_2, .int .i64 a1_3]) (t := 25) ?hr ?_; (case hd => rfl); (case hg => rfl); (case hr => first | (go_simp; done) | (go_simp; rfl)); intro gb182 hg w8 hbox hb; have n0_ := Aside0.mk (below_step (by repeat (first | (with_reducible first | exact HB.out | apply below_alloc | apply pw_below_drewN | apply below_drew1) | exact HB.out)) hb); have n1_ := Aside0.mk (hbox); have n2_ := Aside0.mk ((by rw [hg]; exact (below_size (by repeat (first | (with_reducible first | exact HB.out | apply below_alloc | apply pw_below_drewN | apply below_drew1) | exact HB.out))) : w.heap.size ≤ gb182)); have n3_ := Aside0.mk ((by rw [hg]; exact (below_size (by repeat (first | (with_reducible first | exact HB.out | apply below_alloc | apply pw_below_drewN | apply below_drew1) | exact HB.out))) : w.heap.size ≤ gb182)); clear HB; have HB := n0_; have BK182 := n1_; have GW182 := n2_; have GE182 := n3_; clear n0_ n1_ n2_ n3_; clear hb hbox hg) | (go_at_call 14; (with_reducible refine (verbatimlaw16_head.calls k  t183 _ A3.out).mono ?_); rintro e w9 ⟨rfl, hb⟩; have n0_ := Aside0.mk (blk_below (g := gb182) (o := .cells #[.int .i64 a1_0, .int .i64 a1_1, .int .i64 a1_2, .int .i64 a1_3] 25 (0, 0)) (by (with_reducible repeat (first | refine blk_drewN ?_ _ | refine blk_drew ?_ | refine blk_alloc ?_ _)); exact BK182.out) hb); have n1_ := Aside0.mk (below_step (by repeat (first | (with_reducible first | exact HB.out | apply below_alloc | apply pw_below_drewN | apply below_drew1 | refine below_set ?_ GE182.out) | exact HB.out)) hb); clear BK182; clear HB; have BK182 := n0_; have HB := n1_; clear n0_ n1_; (try clear hb); (try clear hb2); (try clear hk); (try clear hi)) | (go_at_call 15; (with_reducible refine (tier_Plan.calls _ _ l0 t184 t185 _ ?side1 ?side2 A7.out).mono ?_); (case side1 => repeat (first | exact (Kd.C_below HR0.out HB.out) | (with_reducible refine Kd.C_alloc ?_ _) | (with_reducible refine Kd.C_drewN ?_ _) | (with_reducible refine Kd.C_drew ?_))); (case side2 => exact HC0.out); rintro e w10 ⟨v186, rfl, ho0, hb⟩; have n0_ := Aside0.mk (Kd.R_lower ho0 (below_size (by repeat (first | (with_reducible first | exact HB.out | apply below_alloc | apply pw_below_drewN | apply below_drew1 | refine below_set ?_ GE182.out) | exact HB.out)))); have n1_ := Aside0.mk (blk_below (g := gb182) (o := .cells #[.int .i64 a1_0, .int .i64 a1_1, .int .i64 a1_2, .int .i64 a1_3] 25 (0, 0)) (by (with_reducible repeat (first | refine blk_drewN ?_ _ | refine blk_drew ?_ | refine blk_alloc ?_ _)); exact BK182.out) hb); have n2_ := Aside0.mk (below_step (by repeat (first | (with_reducible first | exact HB.out | apply below_alloc | apply pw_below_drewN | apply below_drew1 | refine below_set ?_ GE182.out) | exact HB.out)) hb); clear BK182; clear HB; have HO187 := n0_; have BK182 := n1_; have HB := n2_; clear n0_ n1_ n2_; (try clear hb); (try clear hb2); (try clear hk); (try clear hi); (try clear ho0))))
    go_loopg [8] k (fun kq v8 w' => ∃ (x8_1 : Int), v8 = .int .i64 x8_1 ∧ Aside0 (verbatimlaw16_TierPlan.l0 kq l0 t183 t184 t185 x8_1 a1_0 a1_1 a1_2 a1_3 = some r) ∧ Aside0 (kq ≤ k) ∧ Aside0 (Kd.R (Kd.int .i64) 3 w' w.heap.size (fun _ => True) v186 t184) ∧ Aside0 (w'.heap[gb182]? = some (.cells #[.int .i64 a1_0, .int .i64 a1_1, .int .i64 a1_2, .int .i64 a1_3] 25 (0, 0))) ∧ Aside0 (Below w.heap.size w w'))
    case atStart => exact ⟨(0), (by first | rfl | (simp; done) | (simp [*]; done)), H', ⟨Nat.le_refl _⟩, ⟨by (with_reducible repeat (first | apply Kd.R_alloc | apply Kd.R_drewN | apply Kd.R_drew)); exact HO187.out⟩, ⟨by (with_reducible repeat (first | refine blk_drewN ?_ _ | refine blk_drew ?_ | refine blk_alloc ?_ _)); exact BK182.out⟩, ⟨by repeat (first | (with_reducible first | exact HB.out | apply below_alloc | apply pw_below_drewN | apply below_drew1 | refine below_set ?_ GE182.out) | exact HB.out)⟩⟩
    case round =>
      clear H'
      try clear p2
      try clear c4
      try clear c4b0
      try clear c4b1
      try clear c5
      obtain ⟨x8_1, rfl, HA, HK1, HO_6, BK182, HB⟩ := hrel
      cases gk with
      | zero => exact absurd HA.out (by simp [verbatimlaw16_TierPlan.l0])
      | succ k1 =>
        have H := HA.out
        clear HA
        simp only [verbatimlaw16_TierPlan.l0] at H
        by_cases c11 : x8_1 < (t184.length : Int)
        · rw [if_pos c11] at H
          have c11b0 : decide (x8_1 < (t184.length : Int)) = true := decide_eq_true c11
          clear c11
          by_cases c12 : 0 ≤ x8_1
          · rw [if_pos c12] at H
            have c12b0 : decide (0 ≤ x8_1) = true := decide_eq_true c12
            clear c12
            by_cases c13 : (rd t184 x8_1) < 0
            · rw [if_pos c13] at H
              have c13b0 : decide ((rd t184 x8_1) < 0) = true := decide_eq_true c13
              clear c13
              obtain rfl := Option.some.inj H
              obtain ⟨Ao14, co14, eo14⟩ := Kd.R_slice HO_6.out
              subst eo14
              have p188 : 0 ≤ (x8_1 : Int) := of_decide_eq_true (by first | (with_reducible assumption) | assumption)
              have q188 : x8_1 < (t184.length : Int) := of_decide_eq_true (by first | (with_reducible assumption) | assumption)
              obtain ⟨ad188, e188, hx188_0⟩ := Kd.at_int (Kd.R_reads' HO_6.out).2.2 x8_1 p188 q188
              cases e188
              replace p188 := eq_true p188
              replace q188 := eq_true q188
              go_wp2
              repeat (go_quiet (fail); try go_wp2)
              go_ret
              exact ⟨by first | rfl | (simp [errW_none, errW_some] <;> rfl) | (simp [*, errW_none, errW_some] <;> rfl), by repeat (first | (with_reducible first | exact HB.out | apply below_alloc | apply pw_below_drewN | apply below_drew1 | refine below_set ?_ GE182.out) | exact HB.out)⟩
            · rw [if_neg c13] at H
              have c13b0 : decide ((rd t184 x8_1) < 0) = false := decide_eq_false c13
              clear c13
              by_cases c15 : (rd t184 x8_1) ≥ (l0.length : Int)
              · rw [if_pos c15] at H
                have c15b0 : decide ((l0.length : Int) ≤ (rd t184 x8_1)) = true := decide_eq_true c15
                clear c15
                obtain rfl := Option.some.inj H
                obtain ⟨Ao16, co16, eo16⟩ := Kd.R_slice HO_6.out
                subst eo16
                have p188 : 0 ≤ (x8_1 : Int) := of_decide_eq_true (by first | (with_reducible assumption) | assumption)
                have q188 : x8_1 < (t184.length : Int) := of_decide_eq_true (by first | (with_reducible assumption) | assumption)
                obtain ⟨ad188, e188, hx188_0⟩ := Kd.at_int (Kd.R_reads' HO_6.out).2.2 x8_1 p188 q188
                cases e188
                replace p188 := eq_true p188
                replace q188 := eq_true q188
                have p189 : 0 ≤ (x8_1 : Int) := of_decide_eq_true (by first | (with_reducible assumption) | assumption)
                have q189 : x8_1 < (t184.length : Int) := of_decide_eq_true (by first | (with_reducible assumption) | assumption)
                obtain ⟨ad189, e189, hx189_0⟩ := Kd.at_int (Kd.R_reads' HO_6.out).2.2 x8_1 p189 q189
                obtain rfl : ad188 = ad189 := (by injection e189)
                replace p189 := eq_true p189
                replace q189 := eq_true q189
                go_wp2
                repeat (go_quiet (fail); try go_wp2)
                go_ret
                exact ⟨by first | rfl | (simp [errW_none, errW_some] <;> rfl) | (simp [*, errW_none, errW_some] <;> rfl), by repeat (first | (with_reducible first | exact HB.out | apply below_alloc | apply pw_below_drewN | apply below_drew1 | refine below_set ?_ GE182.out) | exact HB.out)⟩
              · rw [if_neg c15] at H
                have c15b0 : decide ((l0.length : Int) ≤ (rd t184 x8_1)) = false := decide_eq_false c15
                clear c15
                by_cases c17 : x8_1 > 0
                · rw [if_pos c17] at H
                  have c17b0 : decide (0 < x8_1) = true := decide_eq_true c17
                  clear c17
                  obtain ⟨ji18, hji18⟩ : ∃ j_ : Int, (wrap64 (x8_1 - 1)) = j_ := ⟨_, rfl⟩
                  replace H : (if 0 ≤ (ji18) then (if (ji18) < (t184.length : Int) then (if (rd t184 (ji18)) ≥ (rd t184 x8_1) then (some false) else (if 0 ≤ (rd t184 x8_1) then (if (rd t184 x8_1) < (l0.length : Int) then (if 0 < (t184.length : Int) then (if 0 ≤ (rd t184 0) then (if (rd t184 0) < (l0.length : Int) then (if ((rd_T25 l0 (rd t184 x8_1)).f2) = ((rd_T25 l0 (rd t184 0)).f2) then (verbatimlaw16_TierPlan.l0 k1 l0 t183 t184 t185 (wrap64 (x8_1 + 1)) a1_0 a1_1 a1_2 a1_3) else (some false)) else (none)) else (none)) else (none)) else (none)) else (none))) else (none)) else (none)) = some r := by first | (rw [hji18] at H; exact H) | (simp only [hji18] at H ⊢; exact H)
                  have hji18w : (IntKind.i64.wrap (x8_1 - 1)) = ji18 := (i64_w _).trans hji18
                  by_cases c19 : 0 ≤ (ji18)
                  · rw [if_pos c19] at H
                    have c19b0 : decide (0 ≤ (ji18)) = true := decide_eq_true c19
                    clear c19
                    by_cases c20 : (ji18) < (t184.length : Int)
                    · rw [if_pos c20] at H
                      have c20b0 : decide ((ji18) < (t184.length : Int)) = true := decide_eq_true c20
                      clear c20
                      by_cases c21 : (rd t184 (ji18)) ≥ (rd t184 x8_1)
                      · rw [if_pos c21] at H
                        have c21b0 : decide ((rd t184 x8_1) ≤ (rd t184 (ji18))) = true := decide_eq_true c21
                        clear c21
                        obtain rfl := Option.some.inj H
                        obtain ⟨Ao22, co22, eo22⟩ := Kd.R_slice HO_6.out
                        subst eo22
                        have p188 : 0 ≤ (x8_1 : Int) := of_decide_eq_true (by first | (with_reducible assumption) | assumption)
                        have q188 : x8_1 < (t184.length : Int) := of_decide_eq_true (by first | (with_reducible assumption) | assumption)
                        obtain ⟨ad188, e188, hx188_0⟩ := Kd.at_int (Kd.R_reads' HO_6.out).2.2 x8_1 p188 q188
                        cases e188
                        replace p188 := eq_true p188
                        replace q188 := eq_true q188
                        have p189 : 0 ≤ (x8_1 : Int) := of_decide_eq_true (by first | (with_reducible assumption) | assumption)
                        have q189 : x8_1 < (t184.length : Int) := of_decide_eq_true (by first | (with_reducible assumption) | assumption)
                        obtain ⟨ad189, e189, hx189_0⟩ := Kd.at_int (Kd.R_reads' HO_6.out).2.2 x8_1 p189 q189
                        obtain rfl : ad188 = ad189 := (by injection e189)
                        replace p189 := eq_true p189
                        replace q189 := eq_true q189
                        have p190 : 0 ≤ ((ji18) : Int) := of_decide_eq_true (by first | (with_reducible assumption) | assumption)
                        have q190 : (ji18) < (t184.length : Int) := of_decide_eq_true (by first | (with_reducible assumption) | assumption)
                        obtain ⟨ad190, e190, hx190_0⟩ := Kd.at_int (Kd.R_reads' HO_6.out).2.2 (ji18) p190 q190
                        obtain rfl : ad188 = ad190 := (by injection e190)
                        replace p190 := eq_true p190
                        replace q190 := eq_true q190
                        have p191 : 0 ≤ (x8_1 : Int) := of_decide_eq_true (by first | (with_reducible assumption) | assumption)
                        have q191 : x8_1 < (t184.length : Int) := of_decide_eq_true (by first | (with_reducible assumption) | assumption)
                        obtain ⟨ad191, e191, hx191_0⟩ := Kd.at_int (Kd.R_reads' HO_6.out).2.2 x8_1 p191 q191
                        obtain rfl : ad188 = ad191 := (by injection e191)
                        replace p191 := eq_true p191
                        replace q191 := eq_true q191
                        go_wp2
                        repeat (go_quiet (fail); try go_wp2)
                        go_ret
                        exact ⟨by first | rfl | (simp [errW_none, errW_some] <;> rfl) | (simp only [← hji18]; first | rfl | (simp [errW_none, errW_some] <;> rfl)) | (simp [*, errW_none, errW_some] <;> rfl), by repeat (first | (with_reducible first | exact HB.out | apply below_alloc | apply pw_below_drewN | apply below_drew1 | refine below_set ?_ GE182.out) | exact HB.out)⟩
                      · rw [if_neg c21] at H
                        have c21b0 : decide ((rd t184 x8_1) ≤ (rd t184 (ji18))) = false := decide_eq_false c21
                        clear c21
                        by_cases c23 : 0 ≤ (rd t184 x8_1)
                        · rw [if_pos c23] at H
                          have c23b0 : decide (0 ≤ (rd t184 x8_1)) = true := decide_eq_true c23
                          clear c23
                          by_cases c24 : (rd t184 x8_1) < (l0.length : Int)
                          · rw [if_pos c24] at H
                            have c24b0 : decide ((rd t184 x8_1) < (l0.length : Int)) = true := decide_eq_true c24
                            clear c24
                            by_cases c25 : 0 < (t184.length : Int)
                            · rw [if_pos c25] at H
                              have c25b0 : decide (0 < (t184.length : Int)) = true := decide_eq_true c25
                              have c25b1 : decide (0 < t184.length) = true := decide_eq_true (by omega)
                              clear c25
                              by_cases c26 : 0 ≤ (rd t184 0)
                              · rw [if_pos c26] at H
                                have c26b0 : decide (0 ≤ (rd t184 0)) = true := decide_eq_true c26
                                clear c26
                                by_cases c27 : (rd t184 0) < (l0.length : Int)
                                · rw [if_pos c27] at H
                                  have c27b0 : decide ((rd t184 0) < (l0.length : Int)) = true := decide_eq_true c27
                                  clear c27
                                  by_cases c28 : ((rd_T25 l0 (rd t184 x8_1)).f2) = ((rd_T25 l0 (rd t184 0)).f2)
                                  · rw [if_pos c28] at H
                                    have c28b0 : (((rd_T25 l0 (rd t184 x8_1)).f2) == ((rd_T25 l0 (rd t184 0)).f2)) = true := beq_iff_eq.mpr c28
                                    have c28b1 : (((rd_T25 l0 (rd t184 x8_1)).f2) != ((rd_T25 l0 (rd t184 0)).f2)) = false := bne_eq_false_iff_eq.mpr c28
                                    clear c28
                                    have H' := Aside0.mk H
                                    clear H
                                    obtain ⟨Ao29, co29, eo29⟩ := Kd.R_slice HO_6.out
                                    subst eo29
                                    have p188 : 0 ≤ (x8_1 : Int) := of_decide_eq_true (by first | (with_reducible assumption) | assumption)
                                    have q188 : x8_1 < (t184.length : Int) := of_decide_eq_true (by first | (with_reducible assumption) | assumption)
                                    obtain ⟨ad188, e188, hx188_0⟩ := Kd.at_int (Kd.R_reads' HO_6.out).2.2 x8_1 p188 q188
                                    cases e188
                                    replace p188 := eq_true p188
                                    replace q188 := eq_true q188
                                    have p189 : 0 ≤ (x8_1 : Int) := of_decide_eq_true (by first | (with_reducible assumption) | assumption)
                                    have q189 : x8_1 < (t184.length : Int) := of_decide_eq_true (by first | (with_reducible assumption) | assumption)
                                    obtain ⟨ad189, e189, hx189_0⟩ := Kd.at_int (Kd.R_reads' HO_6.out).2.2 x8_1 p189 q189
                                    obtain rfl : ad188 = ad189 := (by injection e189)
                                    replace p189 := eq_true p189
                                    replace q189 := eq_true q189
                                    have p190 : 0 ≤ ((ji18) : Int) := of_decide_eq_true (by first | (with_reducible assumption) | assumption)
                                    have q190 : (ji18) < (t184.length : Int) := of_decide_eq_true (by first | (with_reducible assumption) | assumption)
                                    obtain ⟨ad190, e190, hx190_0⟩ := Kd.at_int (Kd.R_reads' HO_6.out).2.2 (ji18) p190 q190
                                    obtain rfl : ad188 = ad190 := (by injection e190)
                                    replace p190 := eq_true p190
                                    replace q190 := eq_true q190
                                    have p191 : 0 ≤ (x8_1 : Int) := of_decide_eq_true (by first | (with_reducible assumption) | assumption)
                                    have q191 : x8_1 < (t184.length : Int) := of_decide_eq_true (by first | (with_reducible assumption) | assumption)
                                    obtain ⟨ad191, e191, hx191_0⟩ := Kd.at_int (Kd.R_reads' HO_6.out).2.2 x8_1 p191 q191
                                    obtain rfl : ad188 = ad191 := (by injection e191)
                                    replace p191 := eq_true p191
                                    replace q191 := eq_true q191
                                    have p192 : 0 ≤ (x8_1 : Int) := of_decide_eq_true (by first | (with_reducible assumption) | assumption)
                                    have q192 : x8_1 < (t184.length : Int) := of_decide_eq_true (by first | (with_reducible assumption) | assumption)
                                    obtain ⟨ad192, e192, hx192_0⟩ := Kd.at_int (Kd.R_reads' HO_6.out).2.2 x8_1 p192 q192
                                    obtain rfl : ad188 = ad192 := (by injection e192)
                                    replace p192 := eq_true p192
                                    replace q192 := eq_true q192
                                    have p193 : 0 ≤ ((rd t184 x8_1) : Int) := of_decide_eq_true (by first | (with_reducible assumption) | assumption)
                                    have q193 : (rd t184 x8_1) < (l0.length : Int) := of_decide_eq_true (by first | (with_reducible assumption) | assumption)
                                    obtain ⟨ad193, e193, hx193_0, hx193_1, hx193_2, hx193_3⟩ := at_T25 HR0.out (rd t184 x8_1) p193 q193
                                    cases e193
                                    replace hx193_0 := (HB.out.cell (World.block_lt_of_cell? w _ hx193_0)).trans hx193_0
                                    replace hx193_1 := (HB.out.cell (World.block_lt_of_cell? w _ hx193_1)).trans hx193_1
                                    replace hx193_2 := (HB.out.cell (World.block_lt_of_cell? w _ hx193_2)).trans hx193_2
                                    replace hx193_3 := (HB.out.cell (World.block_lt_of_cell? w _ hx193_3)).trans hx193_3
                                    replace p193 := eq_true p193
                                    replace q193 := eq_true q193
                                    have p194 : 0 ≤ (0 : Int) := (by omega)
                                    have q194 : 0 < (t184.length : Int) := of_decide_eq_true (by first | (with_reducible assumption) | assumption)
                                    obtain ⟨ad194, e194, hx194_0⟩ := Kd.at_int (Kd.R_reads' HO_6.out).2.2 0 p194 q194
                                    obtain rfl : ad188 = ad194 := (by injection e194)
                                    have qi194 : (0 < t184.length) = True := eq_true (by omega)
                                    (try rw [show ((0 : Int)).toNat = 0 from rfl] at hx194_0)
                                    (try rw [Addr.add_zero'] at hx194_0)
                                    replace p194 := eq_true p194
                                    replace q194 := eq_true q194
                                    have p195 : 0 ≤ ((rd t184 0) : Int) := of_decide_eq_true (by first | (with_reducible assumption) | assumption)
                                    have q195 : (rd t184 0) < (l0.length : Int) := of_decide_eq_true (by first | (with_reducible assumption) | assumption)
                                    obtain ⟨ad195, e195, hx195_0, hx195_1, hx195_2, hx195_3⟩ := at_T25 HR0.out (rd t184 0) p195 q195
                                    obtain rfl : ad193 = ad195 := (by injection e195)
                                    replace hx195_0 := (HB.out.cell (World.block_lt_of_cell? w _ hx195_0)).trans hx195_0
                                    replace hx195_1 := (HB.out.cell (World.block_lt_of_cell? w _ hx195_1)).trans hx195_1
                                    replace hx195_2 := (HB.out.cell (World.block_lt_of_cell? w _ hx195_2)).trans hx195_2
                                    replace hx195_3 := (HB.out.cell (World.block_lt_of_cell? w _ hx195_3)).trans hx195_3
                                    replace p195 := eq_true p195
                                    replace q195 := eq_true q195
                                    go_wp2
                                    repeat (go_quiet (fail); try go_wp2)
                                    go_roundg k1
                                    case measure => have := HK1.out; omega
                                    case rel => exact ⟨(wrap64 (x8_1 + 1)), (by first | rfl | (simp; done) | (simp [*]; done)), H', ⟨by have := HK1.out; omega⟩, ⟨by (with_reducible repeat (first | apply Kd.R_alloc | apply Kd.R_drewN | apply Kd.R_drew)); exact HO_6.out⟩, ⟨by (with_reducible repeat (first | refine blk_drewN ?_ _ | refine blk_drew ?_ | refine blk_alloc ?_ _)); exact BK182.out⟩, ⟨by repeat (first | (with_reducible first | exact HB.out | apply below_alloc | apply pw_below_drewN | apply below_drew1 | refine below_set ?_ GE182.out) | exact HB.out)⟩⟩
                                  · rw [if_neg c28] at H
                                    have c28b0 : (((rd_T25 l0 (rd t184 x8_1)).f2) == ((rd_T25 l0 (rd t184 0)).f2)) = false := beq_eq_false_iff_ne.mpr c28
                                    have c28b1 : (((rd_T25 l0 (rd t184 x8_1)).f2) != ((rd_T25 l0 (rd t184 0)).f2)) = true := bne_iff_ne.mpr c28
                                    obtain rfl := Option.some.inj H
                                    obtain ⟨Ao30, co30, eo30⟩ := Kd.R_slice HO_6.out
                                    subst eo30
                                    have p188 : 0 ≤ (x8_1 : Int) := of_decide_eq_true (by first | (with_reducible assumption) | assumption)
                                    have q188 : x8_1 < (t184.length : Int) := of_decide_eq_true (by first | (with_reducible assumption) | assumption)
                                    obtain ⟨ad188, e188, hx188_0⟩ := Kd.at_int (Kd.R_reads' HO_6.out).2.2 x8_1 p188 q188
                                    cases e188
                                    replace p188 := eq_true p188
                                    replace q188 := eq_true q188
                                    have p189 : 0 ≤ (x8_1 : Int) := of_decide_eq_true (by first | (with_reducible assumption) | assumption)
                                    have q189 : x8_1 < (t184.length : Int) := of_decide_eq_true (by first | (with_reducible assumption) | assumption)
                                    obtain ⟨ad189, e189, hx189_0⟩ := Kd.at_int (Kd.R_reads' HO_6.out).2.2 x8_1 p189 q189
                                    obtain rfl : ad188 = ad189 := (by injection e189)
                                    replace p189 := eq_true p189
                                    replace q189 := eq_true q189
                                    have p190 : 0 ≤ ((ji18) : Int) := of_decide_eq_true (by first | (with_reducible assumption) | assumption)
                                    have q190 : (ji18) < (t184.length : Int) := of_decide_eq_true (by first | (with_reducible assumption) | assumption)
                                    obtain ⟨ad190, e190, hx190_0⟩ := Kd.at_int (Kd.R_reads' HO_6.out).2.2 (ji18) p190 q190
                                    obtain rfl : ad188 = ad190 := (by injection e190)
                                    replace p190 := eq_true p190
                                    replace q190 := eq_true q190
                                    have p191 : 0 ≤ (x8_1 : Int) := of_decide_eq_true (by first | (with_reducible assumption) | assumption)
                                    have q191 : x8_1 < (t184.length : Int) := of_decide_eq_true (by first | (with_reducible assumption) | assumption)
                                    obtain ⟨ad191, e191, hx191_0⟩ := Kd.at_int (Kd.R_reads' HO_6.out).2.2 x8_1 p191 q191
                                    obtain rfl : ad188 = ad191 := (by injection e191)
                                    replace p191 := eq_true p191
                                    replace q191 := eq_true q191
                                    have p192 : 0 ≤ (x8_1 : Int) := of_decide_eq_true (by first | (with_reducible assumption) | assumption)
                                    have q192 : x8_1 < (t184.length : Int) := of_decide_eq_true (by first | (with_reducible assumption) | assumption)
                                    obtain ⟨ad192, e192, hx192_0⟩ := Kd.at_int (Kd.R_reads' HO_6.out).2.2 x8_1 p192 q192
                                    obtain rfl : ad188 = ad192 := (by injection e192)
                                    replace p192 := eq_true p192
                                    replace q192 := eq_true q192
                                    have p193 : 0 ≤ ((rd t184 x8_1) : Int) := of_decide_eq_true (by first | (with_reducible assumption) | assumption)
                                    have q193 : (rd t184 x8_1) < (l0.length : Int) := of_decide_eq_true (by first | (with_reducible assumption) | assumption)
                                    obtain ⟨ad193, e193, hx193_0, hx193_1, hx193_2, hx193_3⟩ := at_T25 HR0.out (rd t184 x8_1) p193 q193
                                    cases e193
                                    replace hx193_0 := (HB.out.cell (World.block_lt_of_cell? w _ hx193_0)).trans hx193_0
                                    replace hx193_1 := (HB.out.cell (World.block_lt_of_cell? w _ hx193_1)).trans hx193_1
                                    replace hx193_2 := (HB.out.cell (World.block_lt_of_cell? w _ hx193_2)).trans hx193_2
                                    replace hx193_3 := (HB.out.cell (World.block_lt_of_cell? w _ hx193_3)).trans hx193_3
                                    replace p193 := eq_true p193
                                    replace q193 := eq_true q193
                                    have p194 : 0 ≤ (0 : Int) := (by omega)
                                    have q194 : 0 < (t184.length : Int) := of_decide_eq_true (by first | (with_reducible assumption) | assumption)
                                    obtain ⟨ad194, e194, hx194_0⟩ := Kd.at_int (Kd.R_reads' HO_6.out).2.2 0 p194 q194
                                    obtain rfl : ad188 = ad194 := (by injection e194)
                                    have qi194 : (0 < t184.length) = True := eq_true (by omega)
                                    (try rw [show ((0 : Int)).toNat = 0 from rfl] at hx194_0)
                                    (try rw [Addr.add_zero'] at hx194_0)
                                    replace p194 := eq_true p194
                                    replace q194 := eq_true q194
                                    have p195 : 0 ≤ ((rd t184 0) : Int) := of_decide_eq_true (by first | (with_reducible assumption) | assumption)
                                    have q195 : (rd t184 0) < (l0.length : Int) := of_decide_eq_true (by first | (with_reducible assumption) | assumption)
                                    obtain ⟨ad195, e195, hx195_0, hx195_1, hx195_2, hx195_3⟩ := at_T25 HR0.out (rd t184 0) p195 q195
                                    obtain rfl : ad193 = ad195 := (by injection e195)
                                    replace hx195_0 := (HB.out.cell (World.block_lt_of_cell? w _ hx195_0)).trans hx195_0
                                    replace hx195_1 := (HB.out.cell (World.block_lt_of_cell? w _ hx195_1)).trans hx195_1
                                    replace hx195_2 := (HB.out.cell (World.block_lt_of_cell? w _ hx195_2)).trans hx195_2
                                    replace hx195_3 := (HB.out.cell (World.block_lt_of_cell? w _ hx195_3)).trans hx195_3
                                    replace p195 := eq_true p195
                                    replace q195 := eq_true q195
                                    go_wp2
                                    repeat (go_quiet (fail); try go_wp2)
                                    go_ret
                                    exact ⟨by first | rfl | (simp [errW_none, errW_some] <;> rfl) | (simp only [← hji18]; first | rfl | (simp [errW_none, errW_some] <;> rfl)) | (simp [*, errW_none, errW_some] <;> rfl), by repeat (first | (with_reducible first | exact HB.out | apply below_alloc | apply pw_below_drewN | apply below_drew1 | refine below_set ?_ GE182.out) | exact HB.out)⟩
                                · rw [if_neg c27] at H
                                  exact absurd H (by simp)
                              · rw [if_neg c26] at H
                                exact absurd H (by simp)
                            · rw [if_neg c25] at H
                              exact absurd H (by simp)
                          · rw [if_neg c24] at H
                            exact absurd H (by simp)
                        · rw [if_neg c23] at H
                          exact absurd H (by simp)
                    · rw [if_neg c20] at H
                      exact absurd H (by simp)
                  · rw [if_neg c19] at H
                    exact absurd H (by simp)
                · rw [if_neg c17] at H
                  have c17b0 : decide (0 < x8_1) = false := decide_eq_false c17
                  clear c17
                  by_cases c31 : 0 ≤ (rd t184 x8_1)
                  · rw [if_pos c31] at H
                    have c31b0 : decide (0 ≤ (rd t184 x8_1)) = true := decide_eq_true c31
                    clear c31
                    by_cases c32 : (rd t184 x8_1) < (l0.length : Int)
                    · rw [if_pos c32] at H
                      have c32b0 : decide ((rd t184 x8_1) < (l0.length : Int)) = true := decide_eq_true c32
                      clear c32
                      by_cases c33 : 0 < (t184.length : Int)
                      · rw [if_pos c33] at H
                        have c33b0 : decide (0 < (t184.length : Int)) = true := decide_eq_true c33
                        have c33b1 : decide (0 < t184.length) = true := decide_eq_true (by omega)
                        clear c33
                        by_cases c34 : 0 ≤ (rd t184 0)
                        · rw [if_pos c34] at H
                          have c34b0 : decide (0 ≤ (rd t184 0)) = true := decide_eq_true c34
                          clear c34
                          by_cases c35 : (rd t184 0) < (l0.length : Int)
                          · rw [if_pos c35] at H
                            have c35b0 : decide ((rd t184 0) < (l0.length : Int)) = true := decide_eq_true c35
                            clear c35
                            by_cases c36 : ((rd_T25 l0 (rd t184 x8_1)).f2) = ((rd_T25 l0 (rd t184 0)).f2)
                            · rw [if_pos c36] at H
                              have c36b0 : (((rd_T25 l0 (rd t184 x8_1)).f2) == ((rd_T25 l0 (rd t184 0)).f2)) = true := beq_iff_eq.mpr c36
                              have c36b1 : (((rd_T25 l0 (rd t184 x8_1)).f2) != ((rd_T25 l0 (rd t184 0)).f2)) = false := bne_eq_false_iff_eq.mpr c36
                              clear c36
                              have H' := Aside0.mk H
                              clear H
                              obtain ⟨Ao37, co37, eo37⟩ := Kd.R_slice HO_6.out
                              subst eo37
                              have p188 : 0 ≤ (x8_1 : Int) := of_decide_eq_true (by first | (with_reducible assumption) | assumption)
                              have q188 : x8_1 < (t184.length : Int) := of_decide_eq_true (by first | (with_reducible assumption) | assumption)
                              obtain ⟨ad188, e188, hx188_0⟩ := Kd.at_int (Kd.R_reads' HO_6.out).2.2 x8_1 p188 q188
                              cases e188
                              replace p188 := eq_true p188
                              replace q188 := eq_true q188
                              have p189 : 0 ≤ (x8_1 : Int) := of_decide_eq_true (by first | (with_reducible assumption) | assumption)
                              have q189 : x8_1 < (t184.length : Int) := of_decide_eq_true (by first | (with_reducible assumption) | assumption)
                              obtain ⟨ad189, e189, hx189_0⟩ := Kd.at_int (Kd.R_reads' HO_6.out).2.2 x8_1 p189 q189
                              obtain rfl : ad188 = ad189 := (by injection e189)
                              replace p189 := eq_true p189
                              replace q189 := eq_true q189
                              have p196 : 0 ≤ (x8_1 : Int) := of_decide_eq_true (by first | (with_reducible assumption) | assumption)
                              have q196 : x8_1 < (t184.length : Int) := of_decide_eq_true (by first | (with_reducible assumption) | assumption)
                              obtain ⟨ad196, e196, hx196_0⟩ := Kd.at_int (Kd.R_reads' HO_6.out).2.2 x8_1 p196 q196
                              obtain rfl : ad188 = ad196 := (by injection e196)
                              replace p196 := eq_true p196
                              replace q196 := eq_true q196
                              have p197 : 0 ≤ ((rd t184 x8_1) : Int) := of_decide_eq_true (by first | (with_reducible assumption) | assumption)
                              have q197 : (rd t184 x8_1) < (l0.length : Int) := of_decide_eq_true (by first | (with_reducible assumption) | assumption)
                              obtain ⟨ad197, e197, hx197_0, hx197_1, hx197_2, hx197_3⟩ := at_T25 HR0.out (rd t184 x8_1) p197 q197
                              cases e197
                              replace hx197_0 := (HB.out.cell (World.block_lt_of_cell? w _ hx197_0)).trans hx197_0
                              replace hx197_1 := (HB.out.cell (World.block_lt_of_cell? w _ hx197_1)).trans hx197_1
                              replace hx197_2 := (HB.out.cell (World.block_lt_of_cell? w _ hx197_2)).trans hx197_2
                              replace hx197_3 := (HB.out.cell (World.block_lt_of_cell? w _ hx197_3)).trans hx197_3
                              replace p197 := eq_true p197
                              replace q197 := eq_true q197
                              have p198 : 0 ≤ (0 : Int) := (by omega)
                              have q198 : 0 < (t184.length : Int) := of_decide_eq_true (by first | (with_reducible assumption) | assumption)
                              obtain ⟨ad198, e198, hx198_0⟩ := Kd.at_int (Kd.R_reads' HO_6.out).2.2 0 p198 q198
                              obtain rfl : ad188 = ad198 := (by injection e198)
                              have qi198 : (0 < t184.length) = True := eq_true (by omega)
                              (try rw [show ((0 : Int)).toNat = 0 from rfl] at hx198_0)
                              (try rw [Addr.add_zero'] at hx198_0)
                              replace p198 := eq_true p198
                              replace q198 := eq_true q198
                              have p199 : 0 ≤ ((rd t184 0) : Int) := of_decide_eq_true (by first | (with_reducible assumption) | assumption)
                              have q199 : (rd t184 0) < (l0.length : Int) := of_decide_eq_true (by first | (with_reducible assumption) | assumption)
                              obtain ⟨ad199, e199, hx199_0, hx199_1, hx199_2, hx199_3⟩ := at_T25 HR0.out (rd t184 0) p199 q199
                              obtain rfl : ad197 = ad199 := (by injection e199)
                              replace hx199_0 := (HB.out.cell (World.block_lt_of_cell? w _ hx199_0)).trans hx199_0
                              replace hx199_1 := (HB.out.cell (World.block_lt_of_cell? w _ hx199_1)).trans hx199_1
                              replace hx199_2 := (HB.out.cell (World.block_lt_of_cell? w _ hx199_2)).trans hx199_2
                              replace hx199_3 := (HB.out.cell (World.block_lt_of_cell? w _ hx199_3)).trans hx199_3
                              replace p199 := eq_true p199
                              replace q199 := eq_true q199
                              go_wp2
                              repeat (go_quiet (fail); try go_wp2)
                              go_roundg k1
                              case measure => have := HK1.out; omega
                              case rel => exact ⟨(wrap64 (x8_1 + 1)), (by first | rfl | (simp; done) | (simp [*]; done)), H', ⟨by have := HK1.out; omega⟩, ⟨by (with_reducible repeat (first | apply Kd.R_alloc | apply Kd.R_drewN | apply Kd.R_drew)); exact HO_6.out⟩, ⟨by (with_reducible repeat (first | refine blk_drewN ?_ _ | refine blk_drew ?_ | refine blk_alloc ?_ _)); exact BK182.out⟩, ⟨by repeat (first | (with_reducible first | exact HB.out | apply below_alloc | apply pw_below_drewN | apply below_drew1 | refine below_set ?_ GE182.out) | exact HB.out)⟩⟩
                            · rw [if_neg c36] at H
                              have c36b0 : (((rd_T25 l0 (rd t184 x8_1)).f2) == ((rd_T25 l0 (rd t184 0)).f2)) = false := beq_eq_false_iff_ne.mpr c36
                              have c36b1 : (((rd_T25 l0 (rd t184 x8_1)).f2) != ((rd_T25 l0 (rd t184 0)).f2)) = true := bne_iff_ne.mpr c36
                              obtain rfl := Option.some.inj H
                              obtain ⟨Ao38, co38, eo38⟩ := Kd.R_slice HO_6.out
                              subst eo38
                              have p188 : 0 ≤ (x8_1 : Int) := of_decide_eq_true (by first | (with_reducible assumption) | assumption)
                              have q188 : x8_1 < (t184.length : Int) := of_decide_eq_true (by first | (with_reducible assumption) | assumption)
                              obtain ⟨ad188, e188, hx188_0⟩ := Kd.at_int (Kd.R_reads' HO_6.out).2.2 x8_1 p188 q188
                              cases e188
                              replace p188 := eq_true p188
                              replace q188 := eq_true q188
                              have p189 : 0 ≤ (x8_1 : Int) := of_decide_eq_true (by first | (with_reducible assumption) | assumption)
                              have q189 : x8_1 < (t184.length : Int) := of_decide_eq_true (by first | (with_reducible assumption) | assumption)
                              obtain ⟨ad189, e189, hx189_0⟩ := Kd.at_int (Kd.R_reads' HO_6.out).2.2 x8_1 p189 q189
                              obtain rfl : ad188 = ad189 := (by injection e189)
                              replace p189 := eq_true p189
                              replace q189 := eq_true q189
                              have p196 : 0 ≤ (x8_1 : Int) := of_decide_eq_true (by first | (with_reducible assumption) | assumption)
                              have q196 : x8_1 < (t184.length : Int) := of_decide_eq_true (by first | (with_reducible assumption) | assumption)
                              obtain ⟨ad196, e196, hx196_0⟩ := Kd.at_int (Kd.R_reads' HO_6.out).2.2 x8_1 p196 q196
                              obtain rfl : ad188 = ad196 := (by injection e196)
                              replace p196 := eq_true p196
                              replace q196 := eq_true q196
                              have p197 : 0 ≤ ((rd t184 x8_1) : Int) := of_decide_eq_true (by first | (with_reducible assumption) | assumption)
                              have q197 : (rd t184 x8_1) < (l0.length : Int) := of_decide_eq_true (by first | (with_reducible assumption) | assumption)
                              obtain ⟨ad197, e197, hx197_0, hx197_1, hx197_2, hx197_3⟩ := at_T25 HR0.out (rd t184 x8_1) p197 q197
                              cases e197
                              replace hx197_0 := (HB.out.cell (World.block_lt_of_cell? w _ hx197_0)).trans hx197_0
                              replace hx197_1 := (HB.out.cell (World.block_lt_of_cell? w _ hx197_1)).trans hx197_1
                              replace hx197_2 := (HB.out.cell (World.block_lt_of_cell? w _ hx197_2)).trans hx197_2
                              replace hx197_3 := (HB.out.cell (World.block_lt_of_cell? w _ hx197_3)).trans hx197_3
                              replace p197 := eq_true p197
                              replace q197 := eq_true q197
                              have p198 : 0 ≤ (0 : Int) := (by omega)
                              have q198 : 0 < (t184.length : Int) := of_decide_eq_true (by first | (with_reducible assumption) | assumption)
                              obtain ⟨ad198, e198, hx198_0⟩ := Kd.at_int (Kd.R_reads' HO_6.out).2.2 0 p198 q198
                              obtain rfl : ad188 = ad198 := (by injection e198)
                              have qi198 : (0 < t184.length) = True := eq_true (by omega)
                              (try rw [show ((0 : Int)).toNat = 0 from rfl] at hx198_0)
                              (try rw [Addr.add_zero'] at hx198_0)
                              replace p198 := eq_true p198
                              replace q198 := eq_true q198
                              have p199 : 0 ≤ ((rd t184 0) : Int) := of_decide_eq_true (by first | (with_reducible assumption) | assumption)
                              have q199 : (rd t184 0) < (l0.length : Int) := of_decide_eq_true (by first | (with_reducible assumption) | assumption)
                              obtain ⟨ad199, e199, hx199_0, hx199_1, hx199_2, hx199_3⟩ := at_T25 HR0.out (rd t184 0) p199 q199
                              obtain rfl : ad197 = ad199 := (by injection e199)
                              replace hx199_0 := (HB.out.cell (World.block_lt_of_cell? w _ hx199_0)).trans hx199_0
                              replace hx199_1 := (HB.out.cell (World.block_lt_of_cell? w _ hx199_1)).trans hx199_1
                              replace hx199_2 := (HB.out.cell (World.block_lt_of_cell? w _ hx199_2)).trans hx199_2
                              replace hx199_3 := (HB.out.cell (World.block_lt_of_cell? w _ hx199_3)).trans hx199_3
                              replace p199 := eq_true p199
                              replace q199 := eq_true q199
                              go_wp2
                              repeat (go_quiet (fail); try go_wp2)
                              go_ret
                              exact ⟨by first | rfl | (simp [errW_none, errW_some] <;> rfl) | (simp [*, errW_none, errW_some] <;> rfl), by repeat (first | (with_reducible first | exact HB.out | apply below_alloc | apply pw_below_drewN | apply below_drew1 | refine below_set ?_ GE182.out) | exact HB.out)⟩
                          · rw [if_neg c35] at H
                            exact absurd H (by simp)
                        · rw [if_neg c34] at H
                          exact absurd H (by simp)
                      · rw [if_neg c33] at H
                        exact absurd H (by simp)
                    · rw [if_neg c32] at H
                      exact absurd H (by simp)
                  · rw [if_neg c31] at H
                    exact absurd H (by simp)
          · rw [if_neg c12] at H
            exact absurd H (by simp)
        · rw [if_neg c11] at H
          have c11b0 : decide (x8_1 < (t184.length : Int)) = false := decide_eq_false c11
          clear c11
          have H' := Aside0.mk H
          clear H
          obtain ⟨Ao39, co39, eo39⟩ := Kd.R_slice HO_6.out
          subst eo39
          go_wp2
          repeat (go_quiet (fail); try go_wp2)
          go_loopg [9] k1 (fun kq v9 w' => ∃ (x9_2 : Int), v9 = .int .i64 x9_2 ∧ Aside0 (verbatimlaw16_TierPlan.l1 kq l0 t183 t184 t185 x9_2 a1_0 a1_1 a1_2 a1_3 = some r) ∧ Aside0 (kq ≤ k1) ∧ Aside0 (Kd.R (Kd.int .i64) 3 w' w.heap.size (fun _ => True) (.slice Ao39 t184.length co39) t184) ∧ Aside0 (w'.heap[gb182]? = some (.cells #[.int .i64 a1_0, .int .i64 a1_1, .int .i64 a1_2, .int .i64 a1_3] 25 (0, 0))) ∧ Aside0 (Below w.heap.size w w'))
          case atStart => exact ⟨(0), (by first | rfl | (simp; done) | (simp [*]; done)), H', ⟨Nat.le_refl _⟩, ⟨by (with_reducible repeat (first | apply Kd.R_alloc | apply Kd.R_drewN | apply Kd.R_drew)); exact HO_6.out⟩, ⟨by (with_reducible repeat (first | refine blk_drewN ?_ _ | refine blk_drew ?_ | refine blk_alloc ?_ _)); exact BK182.out⟩, ⟨by repeat (first | (with_reducible first | exact HB.out | apply below_alloc | apply pw_below_drewN | apply below_drew1 | refine below_set ?_ GE182.out) | exact HB.out)⟩⟩
          case round =>
            clear H'
            try clear c1
            try clear p1
            try clear q1
            try clear hx1
            try clear qi1
            try clear c2
            try clear p2
            try clear c3
            try clear c4
            try clear c4b0
            try clear c4b1
            try clear c5
            try clear p6
            try clear c11
            try clear c11b0
            try clear c12
            try clear c12b0
            try clear c13
            try clear c13b0
            try clear c15
            try clear c15b0
            try clear c17
            try clear c17b0
            try clear p18
            try clear q18
            try clear hx18
            try clear c19
            try clear c19b0
            try clear p19
            try clear q19
            try clear hx19
            try clear qi19
            try clear c20
            try clear c20b0
            try clear c21
            try clear c21b0
            try clear c23
            try clear c23b0
            try clear c24
            try clear c24b0
            try clear c25
            try clear c25b0
            try clear c25b1
            try clear c26
            try clear c26b0
            try clear c27
            try clear c27b0
            try clear c28
            try clear c28b0
            try clear c28b1
            try clear c31
            try clear c31b0
            try clear c32
            try clear c32b0
            try clear c33
            try clear c33b0
            try clear c33b1
            try clear c34
            try clear c34b0
            try clear c35
            try clear c35b0
            try clear c36
            try clear c36b0
            try clear c36b1
            try clear hx188_0
            try clear hx189_0
            try clear hx190_0
            try clear hx191_0
            try clear hx192_0
            try clear hx193_0
            try clear hx193_1
            try clear hx193_2
            try clear hx193_3
            try clear hx194_0
            try clear hx195_0
            try clear hx195_1
            try clear hx195_2
            try clear hx195_3
            try clear hx196_0
            try clear hx197_0
            try clear hx197_1
            try clear hx197_2
            try clear hx197_3
            try clear hx198_0
            try clear hx199_0
            try clear hx199_1
            try clear hx199_2
            try clear hx199_3
            try clear p188
            try clear p189
            try clear p190
            try clear p191
            try clear p192
            try clear p193
            try clear p194
            try clear p195
            try clear p196
            try clear p197
            try clear p198
            try clear p199
            try clear p2
            try clear q188
            try clear q189
            try clear q190
            try clear q191
            try clear q192
            try clear q193
            try clear q194
            try clear q195
            try clear q196
            try clear q197
            try clear q198
            try clear q199
            obtain ⟨x9_2, rfl, HA, HK2, HO_6, BK182, HB⟩ := hrel
            cases gk with
            | zero => exact absurd HA.out (by simp [verbatimlaw16_TierPlan.l1])
            | succ k2 =>
              have H := HA.out
              clear HA
              simp only [verbatimlaw16_TierPlan.l1] at H
              by_cases c40 : x9_2 < (l0.length : Int)
              · rw [if_pos c40] at H
                have c40b0 : decide (x9_2 < (l0.length : Int)) = true := decide_eq_true c40
                clear c40
                have H' := Aside0.mk H
                clear H
                go_wp2
                repeat (go_quiet (fail); try go_wp2)
                go_loopg [10, 11] k2 (fun kq v10 v11 w' => ∃ (x10_3 : Int) (x11_3 : Int), v10 = .int .i64 x10_3 ∧ v11 = .int .i64 x11_3 ∧ Aside0 (verbatimlaw16_TierPlan.l2 kq l0 t183 t184 t185 x9_2 x10_3 x11_3 a1_0 a1_1 a1_2 a1_3 = some r) ∧ Aside0 (kq ≤ k2) ∧ Aside0 (Kd.R (Kd.int .i64) 3 w' w.heap.size (fun _ => True) (.slice Ao39 t184.length co39) t184) ∧ Aside0 (w'.heap[gb182]? = some (.cells #[.int .i64 a1_0, .int .i64 a1_1, .int .i64 a1_2, .int .i64 a1_3] 25 (0, 0))) ∧ Aside0 (Below w.heap.size w w'))
                case atStart => exact ⟨(0), (0), (by first | rfl | (simp; done) | (simp [*]; done)), (by first | rfl | (simp; done) | (simp [*]; done)), H', ⟨Nat.le_refl _⟩, ⟨by (with_reducible repeat (first | apply Kd.R_alloc | apply Kd.R_drewN | apply Kd.R_drew)); exact HO_6.out⟩, ⟨by (with_reducible repeat (first | refine blk_drewN ?_ _ | refine blk_drew ?_ | refine blk_alloc ?_ _)); exact BK182.out⟩, ⟨by repeat (first | (with_reducible first | exact HB.out | apply below_alloc | apply pw_below_drewN | apply below_drew1 | refine below_set ?_ GE182.out) | exact HB.out)⟩⟩
                case round =>
                  clear H'
                  try clear c1
                  try clear p1
                  try clear q1
                  try clear hx1
                  try clear qi1
                  try clear c2
                  try clear p2
                  try clear c3
                  try clear c4
                  try clear c4b0
                  try clear c4b1
                  try clear c5
                  try clear p6
                  try clear c11
                  try clear c11b0
                  try clear c12
                  try clear c12b0
                  try clear c13
                  try clear c13b0
                  try clear c15
                  try clear c15b0
                  try clear c17
                  try clear c17b0
                  try clear p18
                  try clear q18
                  try clear hx18
                  try clear c19
                  try clear c19b0
                  try clear p19
                  try clear q19
                  try clear hx19
                  try clear qi19
                  try clear c20
                  try clear c20b0
                  try clear c21
                  try clear c21b0
                  try clear c23
                  try clear c23b0
                  try clear c24
                  try clear c24b0
                  try clear c25
                  try clear c25b0
                  try clear c25b1
                  try clear c26
                  try clear c26b0
                  try clear c27
                  try clear c27b0
                  try clear c28
                  try clear c28b0
                  try clear c28b1
                  try clear c31
                  try clear c31b0
                  try clear c32
                  try clear c32b0
                  try clear c33
                  try clear c33b0
                  try clear c33b1
                  try clear c34
                  try clear c34b0
                  try clear c35
                  try clear c35b0
                  try clear c36
                  try clear c36b0
                  try clear c36b1
                  try clear c40
                  try clear c40b0
                  try clear hx188_0
                  try clear hx189_0
                  try clear hx190_0
                  try clear hx191_0
                  try clear hx192_0
                  try clear hx193_0
                  try clear hx193_1
                  try clear hx193_2
                  try clear hx193_3
                  try clear hx194_0
                  try clear hx195_0
                  try clear hx195_1
                  try clear hx195_2
                  try clear hx195_3
                  try clear hx196_0
                  try clear hx197_0
                  try clear hx197_1
                  try clear hx197_2
                  try clear hx197_3
                  try clear hx198_0
                  try clear hx199_0
                  try clear hx199_1
                  try clear hx199_2
                  try clear hx199_3
                  try clear p1
                  try clear p18
                  try clear p188
                  try clear p189
                  try clear p19
                  try clear p190
                  try clear p191
                  try clear p192
                  try clear p193
                  try clear p194
                  try clear p195
                  try clear p196
                  try clear p197
                  try clear p198
                  try clear p199
                  try clear p2
                  try clear p6
                  try clear q1
                  try clear q18
                  try clear q188
                  try clear q189
                  try clear q19
                  try clear q190
                  try clear q191
                  try clear q192
                  try clear q193
                  try clear q194
                  try clear q195
                  try clear q196
                  try clear q197
                  try clear q198
                  try clear q199
                  obtain ⟨x10_3, x11_3, rfl, rfl, HA, HK3, HO_6, BK182, HB⟩ := hrel
                  cases gk with
                  | zero => exact absurd HA.out (by simp [verbatimlaw16_TierPlan.l2])
                  | succ k3 =>
                    have H := HA.out
                    clear HA
                    simp only [verbatimlaw16_TierPlan.l2] at H
                    by_cases c41 : x11_3 < (l0.length : Int)
                    · rw [if_pos c41] at H
                      have c41b0 : decide (x11_3 < (l0.length : Int)) = true := decide_eq_true c41
                      clear c41
                      by_cases c42 : 0 ≤ x11_3
                      · rw [if_pos c42] at H
                        have c42b0 : decide (0 ≤ x11_3) = true := decide_eq_true c42
                        clear c42
                        by_cases c43 : 0 ≤ x9_2
                        · rw [if_pos c43] at H
                          have c43b0 : decide (0 ≤ x9_2) = true := decide_eq_true c43
                          clear c43
                          by_cases c44 : x9_2 < (l0.length : Int)
                          · rw [if_pos c44] at H
                            have c44b0 : decide (x9_2 < (l0.length : Int)) = true := decide_eq_true c44
                            clear c44
                            by_cases c45 : ((rd_T25 l0 x11_3).f2) = ((rd_T25 l0 x9_2).f2)
                            · rw [if_pos c45] at H
                              have c45b0 : (((rd_T25 l0 x11_3).f2) == ((rd_T25 l0 x9_2).f2)) = true := beq_iff_eq.mpr c45
                              have c45b1 : (((rd_T25 l0 x11_3).f2) != ((rd_T25 l0 x9_2).f2)) = false := bne_eq_false_iff_eq.mpr c45
                              clear c45
                              have H' := Aside0.mk H
                              clear H
                              have p216 : 0 ≤ (x11_3 : Int) := of_decide_eq_true (by first | (with_reducible assumption) | assumption)
                              have q216 : x11_3 < (l0.length : Int) := of_decide_eq_true (by first | (with_reducible assumption) | assumption)
                              obtain ⟨ad216, e216, hx216_0, hx216_1, hx216_2, hx216_3⟩ := at_T25 HR0.out x11_3 p216 q216
                              cases e216
                              replace hx216_0 := (HB.out.cell (World.block_lt_of_cell? w _ hx216_0)).trans hx216_0
                              replace hx216_1 := (HB.out.cell (World.block_lt_of_cell? w _ hx216_1)).trans hx216_1
                              replace hx216_2 := (HB.out.cell (World.block_lt_of_cell? w _ hx216_2)).trans hx216_2
                              replace hx216_3 := (HB.out.cell (World.block_lt_of_cell? w _ hx216_3)).trans hx216_3
                              replace p216 := eq_true p216
                              replace q216 := eq_true q216
                              have p217 : 0 ≤ (x9_2 : Int) := of_decide_eq_true (by first | (with_reducible assumption) | assumption)
                              have q217 : x9_2 < (l0.length : Int) := of_decide_eq_true (by first | (with_reducible assumption) | assumption)
                              obtain ⟨ad217, e217, hx217_0, hx217_1, hx217_2, hx217_3⟩ := at_T25 HR0.out x9_2 p217 q217
                              obtain rfl : ad216 = ad217 := (by injection e217)
                              replace hx217_0 := (HB.out.cell (World.block_lt_of_cell? w _ hx217_0)).trans hx217_0
                              replace hx217_1 := (HB.out.cell (World.block_lt_of_cell? w _ hx217_1)).trans hx217_1
                              replace hx217_2 := (HB.out.cell (World.block_lt_of_cell? w _ hx217_2)).trans hx217_2
                              replace hx217_3 := (HB.out.cell (World.block_lt_of_cell? w _ hx217_3)).trans hx217_3
                              replace p217 := eq_true p217
                              replace q217 := eq_true q217
                              go_wp2
                              repeat (go_quiet (fail); try go_wp2)
                              go_roundg k3
                              case measure => have := HK1.out; have := HK2.out; have := HK3.out; omega
                              case rel => exact ⟨(wrap64 (x10_3 + 1)), (wrap64 (x11_3 + 1)), (by first | rfl | (simp; done) | (simp [*]; done)), (by first | rfl | (simp; done) | (simp [*]; done)), H', ⟨by have := HK1.out; have := HK2.out; have := HK3.out; omega⟩, ⟨by (with_reducible repeat (first | apply Kd.R_alloc | apply Kd.R_drewN | apply Kd.R_drew)); exact HO_6.out⟩, ⟨by (with_reducible repeat (first | refine blk_drewN ?_ _ | refine blk_drew ?_ | refine blk_alloc ?_ _)); exact BK182.out⟩, ⟨by repeat (first | (with_reducible first | exact HB.out | apply below_alloc | apply pw_below_drewN | apply below_drew1 | refine below_set ?_ GE182.out) | exact HB.out)⟩⟩
                            · rw [if_neg c45] at H
                              have c45b0 : (((rd_T25 l0 x11_3).f2) == ((rd_T25 l0 x9_2).f2)) = false := beq_eq_false_iff_ne.mpr c45
                              have c45b1 : (((rd_T25 l0 x11_3).f2) != ((rd_T25 l0 x9_2).f2)) = true := bne_iff_ne.mpr c45
                              have H' := Aside0.mk H
                              clear H
                              have p216 : 0 ≤ (x11_3 : Int) := of_decide_eq_true (by first | (with_reducible assumption) | assumption)
                              have q216 : x11_3 < (l0.length : Int) := of_decide_eq_true (by first | (with_reducible assumption) | assumption)
                              obtain ⟨ad216, e216, hx216_0, hx216_1, hx216_2, hx216_3⟩ := at_T25 HR0.out x11_3 p216 q216
                              cases e216
                              replace hx216_0 := (HB.out.cell (World.block_lt_of_cell? w _ hx216_0)).trans hx216_0
                              replace hx216_1 := (HB.out.cell (World.block_lt_of_cell? w _ hx216_1)).trans hx216_1
                              replace hx216_2 := (HB.out.cell (World.block_lt_of_cell? w _ hx216_2)).trans hx216_2
                              replace hx216_3 := (HB.out.cell (World.block_lt_of_cell? w _ hx216_3)).trans hx216_3
                              replace p216 := eq_true p216
                              replace q216 := eq_true q216
                              have p217 : 0 ≤ (x9_2 : Int) := of_decide_eq_true (by first | (with_reducible assumption) | assumption)
                              have q217 : x9_2 < (l0.length : Int) := of_decide_eq_true (by first | (with_reducible assumption) | assumption)
                              obtain ⟨ad217, e217, hx217_0, hx217_1, hx217_2, hx217_3⟩ := at_T25 HR0.out x9_2 p217 q217
                              obtain rfl : ad216 = ad217 := (by injection e217)
                              replace hx217_0 := (HB.out.cell (World.block_lt_of_cell? w _ hx217_0)).trans hx217_0
                              replace hx217_1 := (HB.out.cell (World.block_lt_of_cell? w _ hx217_1)).trans hx217_1
                              replace hx217_2 := (HB.out.cell (World.block_lt_of_cell? w _ hx217_2)).trans hx217_2
                              replace hx217_3 := (HB.out.cell (World.block_lt_of_cell? w _ hx217_3)).trans hx217_3
                              replace p217 := eq_true p217
                              replace q217 := eq_true q217
                              go_wp2
                              repeat (go_quiet (fail); try go_wp2)
                              go_roundg k3
                              case measure => have := HK1.out; have := HK2.out; have := HK3.out; omega
                              case rel => exact ⟨(x10_3), (wrap64 (x11_3 + 1)), (by first | rfl | (simp; done) | (simp [*]; done)), (by first | rfl | (simp; done) | (simp [*]; done)), H', ⟨by have := HK1.out; have := HK2.out; have := HK3.out; omega⟩, ⟨by (with_reducible repeat (first | apply Kd.R_alloc | apply Kd.R_drewN | apply Kd.R_drew)); exact HO_6.out⟩, ⟨by (with_reducible repeat (first | refine blk_drewN ?_ _ | refine blk_drew ?_ | refine blk_alloc ?_ _)); exact BK182.out⟩, ⟨by repeat (first | (with_reducible first | exact HB.out | apply below_alloc | apply pw_below_drewN | apply below_drew1 | refine below_set ?_ GE182.out) | exact HB.out)⟩⟩
                          · rw [if_neg c44] at H
                            exact absurd H (by simp)
                        · rw [if_neg c43] at H
                          exact absurd H (by simp)
                      · rw [if_neg c42] at H
                        exact absurd H (by simp)
                    · rw [if_neg c41] at H
                      have c41b0 : decide (x11_3 < (l0.length : Int)) = false := decide_eq_false c41
                      clear c41
                      by_cases c46 : x10_3 > 3
                      · rw [if_pos c46] at H
                        have c46b0 : decide (3 < x10_3) = true := decide_eq_true c46
                        clear c46
                        by_cases c47 : (t184.length : Int) = 0
                        · rw [if_pos c47] at H
                          have c47b0 : ((t184.length : Int) == 0) = true := beq_iff_eq.mpr c47
                          have c47b1 : ((t184.length : Int) != 0) = false := bne_eq_false_iff_eq.mpr c47
                          clear c47
                          obtain rfl := Option.some.inj H
                          go_wp2
                          repeat (go_quiet (fail); try go_wp2)
                          go_ret
                          exact ⟨by first | rfl | (simp [errW_none, errW_some] <;> rfl) | (simp [*, errW_none, errW_some] <;> rfl), by repeat (first | (with_reducible first | exact HB.out | apply below_alloc | apply pw_below_drewN | apply below_drew1 | refine below_set ?_ GE182.out) | exact HB.out)⟩
                        · rw [if_neg c47] at H
                          have c47b0 : ((t184.length : Int) == 0) = false := beq_eq_false_iff_ne.mpr c47
                          have c47b1 : ((t184.length : Int) != 0) = true := bne_iff_ne.mpr c47
                          have c47b2 : ¬ (t184 = []) := fun h_ => c47 (by rw [h_]; rfl)
                          by_cases c48 : 0 < (t184.length : Int)
                          · rw [if_pos c48] at H
                            have c48b0 : decide (0 < (t184.length : Int)) = true := decide_eq_true c48
                            have c48b1 : decide (0 < t184.length) = true := decide_eq_true (by omega)
                            clear c48
                            by_cases c49 : 0 ≤ (rd t184 0)
                            · rw [if_pos c49] at H
                              have c49b0 : decide (0 ≤ (rd t184 0)) = true := decide_eq_true c49
                              clear c49
                              by_cases c50 : (rd t184 0) < (l0.length : Int)
                              · rw [if_pos c50] at H
                                have c50b0 : decide ((rd t184 0) < (l0.length : Int)) = true := decide_eq_true c50
                                clear c50
                                by_cases c51 : 0 ≤ x9_2
                                · rw [if_pos c51] at H
                                  have c51b0 : decide (0 ≤ x9_2) = true := decide_eq_true c51
                                  clear c51
                                  by_cases c52 : x9_2 < (l0.length : Int)
                                  · rw [if_pos c52] at H
                                    have c52b0 : decide (x9_2 < (l0.length : Int)) = true := decide_eq_true c52
                                    clear c52
                                    by_cases c53 : ((rd_T25 l0 (rd t184 0)).f2) > ((rd_T25 l0 x9_2).f2)
                                    · rw [if_pos c53] at H
                                      have c53b0 : decide (((rd_T25 l0 x9_2).f2) < ((rd_T25 l0 (rd t184 0)).f2)) = true := decide_eq_true c53
                                      clear c53
                                      obtain rfl := Option.some.inj H
                                      have p218 : 0 ≤ (0 : Int) := (by omega)
                                      have q218 : 0 < (t184.length : Int) := of_decide_eq_true (by first | (with_reducible assumption) | assumption)
                                      obtain ⟨ad218, e218, hx218_0⟩ := Kd.at_int (Kd.R_reads' HO_6.out).2.2 0 p218 q218
                                      cases e218
                                      have qi218 : (0 < t184.length) = True := eq_true (by omega)
                                      (try rw [show ((0 : Int)).toNat = 0 from rfl] at hx218_0)
                                      (try rw [Addr.add_zero'] at hx218_0)
                                      replace p218 := eq_true p218
                                      replace q218 := eq_true q218
                                      have p219 : 0 ≤ ((rd t184 0) : Int) := of_decide_eq_true (by first | (with_reducible assumption) | assumption)
                                      have q219 : (rd t184 0) < (l0.length : Int) := of_decide_eq_true (by first | (with_reducible assumption) | assumption)
                                      obtain ⟨ad219, e219, hx219_0, hx219_1, hx219_2, hx219_3⟩ := at_T25 HR0.out (rd t184 0) p219 q219
                                      cases e219
                                      replace hx219_0 := (HB.out.cell (World.block_lt_of_cell? w _ hx219_0)).trans hx219_0
                                      replace hx219_1 := (HB.out.cell (World.block_lt_of_cell? w _ hx219_1)).trans hx219_1
                                      replace hx219_2 := (HB.out.cell (World.block_lt_of_cell? w _ hx219_2)).trans hx219_2
                                      replace hx219_3 := (HB.out.cell (World.block_lt_of_cell? w _ hx219_3)).trans hx219_3
                                      replace p219 := eq_true p219
                                      replace q219 := eq_true q219
                                      have p220 : 0 ≤ (x9_2 : Int) := of_decide_eq_true (by first | (with_reducible assumption) | assumption)
                                      have q220 : x9_2 < (l0.length : Int) := of_decide_eq_true (by first | (with_reducible assumption) | assumption)
                                      obtain ⟨ad220, e220, hx220_0, hx220_1, hx220_2, hx220_3⟩ := at_T25 HR0.out x9_2 p220 q220
                                      obtain rfl : ad219 = ad220 := (by injection e220)
                                      replace hx220_0 := (HB.out.cell (World.block_lt_of_cell? w _ hx220_0)).trans hx220_0
                                      replace hx220_1 := (HB.out.cell (World.block_lt_of_cell? w _ hx220_1)).trans hx220_1
                                      replace hx220_2 := (HB.out.cell (World.block_lt_of_cell? w _ hx220_2)).trans hx220_2
                                      replace hx220_3 := (HB.out.cell (World.block_lt_of_cell? w _ hx220_3)).trans hx220_3
                                      replace p220 := eq_true p220
                                      replace q220 := eq_true q220
                                      go_wp2
                                      repeat (go_quiet (fail); try go_wp2)
                                      go_ret
                                      exact ⟨by first | rfl | (simp [errW_none, errW_some] <;> rfl) | (simp [*, errW_none, errW_some] <;> rfl), by repeat (first | (with_reducible first | exact HB.out | apply below_alloc | apply pw_below_drewN | apply below_drew1 | refine below_set ?_ GE182.out) | exact HB.out)⟩
                                    · rw [if_neg c53] at H
                                      have c53b0 : decide (((rd_T25 l0 x9_2).f2) < ((rd_T25 l0 (rd t184 0)).f2)) = false := decide_eq_false c53
                                      clear c53
                                      have H' := Aside0.mk H
                                      clear H
                                      have p218 : 0 ≤ (0 : Int) := (by omega)
                                      have q218 : 0 < (t184.length : Int) := of_decide_eq_true (by first | (with_reducible assumption) | assumption)
                                      obtain ⟨ad218, e218, hx218_0⟩ := Kd.at_int (Kd.R_reads' HO_6.out).2.2 0 p218 q218
                                      cases e218
                                      have qi218 : (0 < t184.length) = True := eq_true (by omega)
                                      (try rw [show ((0 : Int)).toNat = 0 from rfl] at hx218_0)
                                      (try rw [Addr.add_zero'] at hx218_0)
                                      replace p218 := eq_true p218
                                      replace q218 := eq_true q218
                                      have p219 : 0 ≤ ((rd t184 0) : Int) := of_decide_eq_true (by first | (with_reducible assumption) | assumption)
                                      have q219 : (rd t184 0) < (l0.length : Int) := of_decide_eq_true (by first | (with_reducible assumption) | assumption)
                                      obtain ⟨ad219, e219, hx219_0, hx219_1, hx219_2, hx219_3⟩ := at_T25 HR0.out (rd t184 0) p219 q219
                                      cases e219
                                      replace hx219_0 := (HB.out.cell (World.block_lt_of_cell? w _ hx219_0)).trans hx219_0
                                      replace hx219_1 := (HB.out.cell (World.block_lt_of_cell? w _ hx219_1)).trans hx219_1
                                      replace hx219_2 := (HB.out.cell (World.block_lt_of_cell? w _ hx219_2)).trans hx219_2
                                      replace hx219_3 := (HB.out.cell (World.block_lt_of_cell? w _ hx219_3)).trans hx219_3
                                      replace p219 := eq_true p219
                                      replace q219 := eq_true q219
                                      have p220 : 0 ≤ (x9_2 : Int) := of_decide_eq_true (by first | (with_reducible assumption) | assumption)
                                      have q220 : x9_2 < (l0.length : Int) := of_decide_eq_true (by first | (with_reducible assumption) | assumption)
                                      obtain ⟨ad220, e220, hx220_0, hx220_1, hx220_2, hx220_3⟩ := at_T25 HR0.out x9_2 p220 q220
                                      obtain rfl : ad219 = ad220 := (by injection e220)
                                      replace hx220_0 := (HB.out.cell (World.block_lt_of_cell? w _ hx220_0)).trans hx220_0
                                      replace hx220_1 := (HB.out.cell (World.block_lt_of_cell? w _ hx220_1)).trans hx220_1
                                      replace hx220_2 := (HB.out.cell (World.block_lt_of_cell? w _ hx220_2)).trans hx220_2
                                      replace hx220_3 := (HB.out.cell (World.block_lt_of_cell? w _ hx220_3)).trans hx220_3
                                      replace p220 := eq_true p220
                                      replace q220 := eq_true q220
                                      go_wp2
                                      repeat (go_quiet (fail); try go_wp2)
                                      go_roundg k3
                                      case measure => have := HK1.out; have := HK2.out; have := HK3.out; omega
                                      case rel => exact ⟨(wrap64 (x9_2 + 1)), (by first | rfl | (simp; done) | (simp [*]; done)), H', ⟨by have := HK1.out; have := HK2.out; have := HK3.out; omega⟩, ⟨by (with_reducible repeat (first | apply Kd.R_alloc | apply Kd.R_drewN | apply Kd.R_drew)); exact HO_6.out⟩, ⟨by (with_reducible repeat (first | refine blk_drewN ?_ _ | refine blk_drew ?_ | refine blk_alloc ?_ _)); exact BK182.out⟩, ⟨by repeat (first | (with_reducible first | exact HB.out | apply below_alloc | apply pw_below_drewN | apply below_drew1 | refine below_set ?_ GE182.out) | exact HB.out)⟩⟩
                                  · rw [if_neg c52] at H
                                    exact absurd H (by simp)
                                · rw [if_neg c51] at H
                                  exact absurd H (by simp)
                              · rw [if_neg c50] at H
                                exact absurd H (by simp)
                            · rw [if_neg c49] at H
                              exact absurd H (by simp)
                          · rw [if_neg c48] at H
                            exact absurd H (by simp)
                      · rw [if_neg c46] at H
                        have c46b0 : decide (3 < x10_3) = false := decide_eq_false c46
                        clear c46
                        have H' := Aside0.mk H
                        clear H
                        go_wp2
                        repeat (go_quiet (fail); try go_wp2)
                        go_roundg k3
                        case measure => have := HK1.out; have := HK2.out; have := HK3.out; omega
                        case rel => exact ⟨(wrap64 (x9_2 + 1)), (by first | rfl | (simp; done) | (simp [*]; done)), H', ⟨by have := HK1.out; have := HK2.out; have := HK3.out; omega⟩, ⟨by (with_reducible repeat (first | apply Kd.R_alloc | apply Kd.R_drewN | apply Kd.R_drew)); exact HO_6.out⟩, ⟨by (with_reducible repeat (first | refine blk_drewN ?_ _ | refine blk_drew ?_ | refine blk_alloc ?_ _)); exact BK182.out⟩, ⟨by repeat (first | (with_reducible first | exact HB.out | apply below_alloc | apply pw_below_drewN | apply below_drew1 | refine below_set ?_ GE182.out) | exact HB.out)⟩⟩
              · rw [if_neg c40] at H
                have c40b0 : decide (x9_2 < (l0.length : Int)) = false := decide_eq_false c40
                clear c40
                by_cases c54 : (t184.length : Int) > 0
                · rw [if_pos c54] at H
                  have c54b0 : decide (0 < (t184.length : Int)) = true := decide_eq_true c54
                  have c54b1 : decide (0 < t184.length) = true := decide_eq_true (by omega)
                  clear c54
                  by_cases c55 : 0 < (t184.length : Int)
                  · rw [if_pos c55] at H
                    have c55b0 : decide (0 < (t184.length : Int)) = true := decide_eq_true c55
                    have c55b1 : decide (0 < t184.length) = true := decide_eq_true (by omega)
                    clear c55
                    by_cases c56 : 0 ≤ (rd t184 0)
                    · rw [if_pos c56] at H
                      have c56b0 : decide (0 ≤ (rd t184 0)) = true := decide_eq_true c56
                      clear c56
                      by_cases c57 : (rd t184 0) < (l0.length : Int)
                      · rw [if_pos c57] at H
                        have c57b0 : decide ((rd t184 0) < (l0.length : Int)) = true := decide_eq_true c57
                        clear c57
                        by_cases c58 : ((rd_T25 l0 (rd t184 0)).f2) < 16
                        · rw [if_pos c58] at H
                          have c58b0 : decide (((rd_T25 l0 (rd t184 0)).f2) < 16) = true := decide_eq_true c58
                          clear c58
                          by_cases c59 : t185 = (wrap64 (((rd_T25 l0 (rd t184 0)).f2) + 1))
                          · rw [if_pos c59] at H
                            have c59b0 : (t185 == (wrap64 (((rd_T25 l0 (rd t184 0)).f2) + 1))) = true := beq_iff_eq.mpr c59
                            have c59b1 : (t185 != (wrap64 (((rd_T25 l0 (rd t184 0)).f2) + 1))) = false := bne_eq_false_iff_eq.mpr c59
                            clear c59
                            replace H := Option.bind_eq_some_iff.mp H
                            obtain ⟨t204, A600, H⟩ := H
                            replace H : (if t183 = true then (if (t204.length : Int) = (wrap64 ((wrap64 ((l0.length : Int) - (t184.length : Int))) + 1)) then (if 0 ≤ (wrap64 ((t204.length : Int) - 1)) then (if (wrap64 ((t204.length : Int) - 1)) < (t204.length : Int) then (some (((rd_T25 t204 (wrap64 ((t204.length : Int) - 1))).f0) == a1_0 && (((rd_T25 t204 (wrap64 ((t204.length : Int) - 1))).f1) == a1_1 && (((rd_T25 t204 (wrap64 ((t204.length : Int) - 1))).f2) == a1_2 && (((rd_T25 t204 (wrap64 ((t204.length : Int) - 1))).f3) == a1_3))))) else (none)) else (none)) else (some false)) else (some false)) = some r := H
                            have A60 := Aside0.mk A600
                            clear A600
                            by_cases c61 : t183 = true
                            · subst c61
                              have H1 : (if (t204.length : Int) = (wrap64 ((wrap64 ((l0.length : Int) - (t184.length : Int))) + 1)) then (if 0 ≤ (wrap64 ((t204.length : Int) - 1)) then (if (wrap64 ((t204.length : Int) - 1)) < (t204.length : Int) then (some (((rd_T25 t204 (wrap64 ((t204.length : Int) - 1))).f0) == a1_0 && (((rd_T25 t204 (wrap64 ((t204.length : Int) - 1))).f1) == a1_1 && (((rd_T25 t204 (wrap64 ((t204.length : Int) - 1))).f2) == a1_2 && (((rd_T25 t204 (wrap64 ((t204.length : Int) - 1))).f3) == a1_3))))) else (none)) else (none)) else (some false)) = some r := by rw [if_pos rfl] at H; exact H
                              clear H
                              have H := H1
                              clear H1
                              by_cases c62 : (t204.length : Int) = (wrap64 ((wrap64 ((l0.length : Int) - (t184.length : Int))) + 1))
                              · rw [if_pos c62] at H
                                have c62b0 : ((t204.length : Int) == (wrap64 ((wrap64 ((l0.length : Int) - (t184.length : Int))) + 1))) = true := beq_iff_eq.mpr c62
                                have c62b1 : ((t204.length : Int) != (wrap64 ((wrap64 ((l0.length : Int) - (t184.length : Int))) + 1))) = false := bne_eq_false_iff_eq.mpr c62
                                clear c62
                                obtain ⟨ji63, hji63⟩ : ∃ j_ : Int, (wrap64 ((t204.length : Int) - 1)) = j_ := ⟨_, rfl⟩
                                replace H : (if 0 ≤ (ji63) then (if (ji63) < (t204.length : Int) then (some (((rd_T25 t204 (ji63)).f0) == a1_0 && (((rd_T25 t204 (ji63)).f1) == a1_1 && (((rd_T25 t204 (ji63)).f2) == a1_2 && (((rd_T25 t204 (ji63)).f3) == a1_3))))) else (none)) else (none)) = some r := by first | (rw [hji63] at H; exact H) | (simp only [hji63] at H ⊢; exact H)
                                (try rw [hji63] at A60)
                                have hji63w : (IntKind.i64.wrap ((t204.length : Int) - 1)) = ji63 := (i64_w _).trans hji63
                                by_cases c64 : 0 ≤ (ji63)
                                · rw [if_pos c64] at H
                                  have c64b0 : decide (0 ≤ (ji63)) = true := decide_eq_true c64
                                  clear c64
                                  by_cases c65 : (ji63) < (t204.length : Int)
                                  · rw [if_pos c65] at H
                                    have c65b0 : decide ((ji63) < (t204.length : Int)) = true := decide_eq_true c65
                                    clear c65
                                    obtain rfl := Option.some.inj H
                                    have p200 : 0 ≤ (0 : Int) := (by omega)
                                    have q200 : 0 < (t184.length : Int) := of_decide_eq_true (by first | (with_reducible assumption) | assumption)
                                    obtain ⟨ad200, e200, hx200_0⟩ := Kd.at_int (Kd.R_reads' HO_6.out).2.2 0 p200 q200
                                    cases e200
                                    have qi200 : (0 < t184.length) = True := eq_true (by omega)
                                    (try rw [show ((0 : Int)).toNat = 0 from rfl] at hx200_0)
                                    (try rw [Addr.add_zero'] at hx200_0)
                                    replace p200 := eq_true p200
                                    replace q200 := eq_true q200
                                    have p201 : 0 ≤ ((rd t184 0) : Int) := of_decide_eq_true (by first | (with_reducible assumption) | assumption)
                                    have q201 : (rd t184 0) < (l0.length : Int) := of_decide_eq_true (by first | (with_reducible assumption) | assumption)
                                    obtain ⟨ad201, e201, hx201_0, hx201_1, hx201_2, hx201_3⟩ := at_T25 HR0.out (rd t184 0) p201 q201
                                    cases e201
                                    replace hx201_0 := (HB.out.cell (World.block_lt_of_cell? w _ hx201_0)).trans hx201_0
                                    replace hx201_1 := (HB.out.cell (World.block_lt_of_cell? w _ hx201_1)).trans hx201_1
                                    replace hx201_2 := (HB.out.cell (World.block_lt_of_cell? w _ hx201_2)).trans hx201_2
                                    replace hx201_3 := (HB.out.cell (World.block_lt_of_cell? w _ hx201_3)).trans hx201_3
                                    replace p201 := eq_true p201
                                    replace q201 := eq_true q201
                                    have p202 : 0 ≤ (0 : Int) := (by omega)
                                    have q202 : 0 < (t184.length : Int) := of_decide_eq_true (by first | (with_reducible assumption) | assumption)
                                    obtain ⟨ad202, e202, hx202_0⟩ := Kd.at_int (Kd.R_reads' HO_6.out).2.2 0 p202 q202
                                    obtain rfl : ad200 = ad202 := (by injection e202)
                                    have qi202 : (0 < t184.length) = True := eq_true (by omega)
                                    (try rw [show ((0 : Int)).toNat = 0 from rfl] at hx202_0)
                                    (try rw [Addr.add_zero'] at hx202_0)
                                    replace p202 := eq_true p202
                                    replace q202 := eq_true q202
                                    have p203 : 0 ≤ ((rd t184 0) : Int) := of_decide_eq_true (by first | (with_reducible assumption) | assumption)
                                    have q203 : (rd t184 0) < (l0.length : Int) := of_decide_eq_true (by first | (with_reducible assumption) | assumption)
                                    obtain ⟨ad203, e203, hx203_0, hx203_1, hx203_2, hx203_3⟩ := at_T25 HR0.out (rd t184 0) p203 q203
                                    obtain rfl : ad201 = ad203 := (by injection e203)
                                    replace hx203_0 := (HB.out.cell (World.block_lt_of_cell? w _ hx203_0)).trans hx203_0
                                    replace hx203_1 := (HB.out.cell (World.block_lt_of_cell? w _ hx203_1)).trans hx203_1
                                    replace hx203_2 := (HB.out.cell (World.block_lt_of_cell? w _ hx203_2)).trans hx203_2
                                    replace hx203_3 := (HB.out.cell (World.block_lt_of_cell? w _ hx203_3)).trans hx203_3
                                    replace p203 := eq_true p203
                                    replace q203 := eq_true q203
                                    have hcz66_0 : wr.cell? ⟨gb182, 0, none⟩ = some (.int .i64 a1_0) := (blk_cell BK182.out 0).trans rfl
                                    have hcz66_1 : wr.cell? ⟨gb182, 1, none⟩ = some (.int .i64 a1_1) := (blk_cell BK182.out 1).trans rfl
                                    have hcz66_2 : wr.cell? ⟨gb182, 2, none⟩ = some (.int .i64 a1_2) := (blk_cell BK182.out 2).trans rfl
                                    have hcz66_3 : wr.cell? ⟨gb182, 3, none⟩ = some (.int .i64 a1_3) := (blk_cell BK182.out 3).trans rfl
                                    have hfz66_0 := blk_frozen BK182.out 0
                                    have hfz66_1 := blk_frozen BK182.out 1
                                    have hfz66_2 := blk_frozen BK182.out 2
                                    have hfz66_3 := blk_frozen BK182.out 3
                                    go_wp2_with (first | (go_at_call 19; (with_reducible refine (tier_Done.calls k2 _ _ l0 _ _ t184 a1_0 a1_1 a1_2 a1_3 t204 _ ?side1 ?side2 ?side3 ?side4 A60.out).mono ?_); (case side1 => repeat (first | exact (Kd.C_below HR0.out HB.out) | (with_reducible refine Kd.C_alloc ?_ _) | (with_reducible refine Kd.C_drewN ?_ _) | (with_reducible refine Kd.C_drew ?_))); (case side2 => exact HC0.out); (case side3 => repeat (first | exact (Kd.R_reads' HO_6.out).2.2 | (with_reducible refine Kd.C_alloc ?_ _) | (with_reducible refine Kd.C_drewN ?_ _) | (with_reducible refine Kd.C_drew ?_))); (case side4 => exact (Kd.R_reads' HO_6.out).2.1); rintro e w67 ⟨v205, rfl, ho0, hb⟩; have n0_ := Aside0.mk (Kd.R_below (by (with_reducible repeat (first | apply Kd.R_alloc | apply Kd.R_drewN | apply Kd.R_drew)); exact HO_6.out) hb); have n1_ := Aside0.mk (Kd.R_lower (Kd.R_newB ho0 (g := gb182) (o := .cells #[.int .i64 a1_0, .int .i64 a1_1, .int .i64 a1_2, .int .i64 a1_3] 25 (0, 0)) (by (with_reducible repeat (first | refine blk_drewN ?_ _ | refine blk_drew ?_ | refine blk_alloc ?_ _)); exact BK182.out)) (below_size (by repeat (first | (with_reducible first | exact HB.out | apply below_alloc | apply pw_below_drewN | apply below_drew1 | refine below_set ?_ GE182.out) | exact HB.out)))); have n2_ := Aside0.mk (blk_below (g := gb182) (o := .cells #[.int .i64 a1_0, .int .i64 a1_1, .int .i64 a1_2, .int .i64 a1_3] 25 (0, 0)) (by (with_reducible repeat (first | refine blk_drewN ?_ _ | refine blk_drew ?_ | refine blk_alloc ?_ _)); exact BK182.out) hb); have n3_ := Aside0.mk (below_step (by repeat (first | (with_reducible first | exact HB.out | apply below_alloc | apply pw_below_drewN | apply below_drew1 | refine below_set ?_ GE182.out) | exact HB.out)) hb); clear HO_6; clear BK182; clear HB; have HO_6 := n0_; have HO206 := n1_; have BK182 := n2_; have HB := n3_; clear n0_ n1_ n2_ n3_; (try clear hb); (try clear hb2); (try clear hk); (try clear hi); (try clear ho0); obtain ⟨Ao68, co68, eo68⟩ := Kd.R_slice HO206.out; subst eo68; have p207 : 0 ≤ ((ji63) : Int) := of_decide_eq_true (by first | (with_reducible assumption) | assumption); have q207 : (ji63) < (t204.length : Int) := of_decide_eq_true (by first | (with_reducible assumption) | assumption); obtain ⟨ad207, e207, hx207_0, hx207_1, hx207_2, hx207_3⟩ := at_T25 (Kd.R_reads' HO206.out).2.2 (ji63) p207 q207; cases e207; replace p207 := eq_true p207; replace q207 := eq_true q207; have hcz69_0 : w67.cell? ⟨gb182, 0, none⟩ = some (.int .i64 a1_0) := (blk_cell BK182.out 0).trans rfl; have hcz69_1 : w67.cell? ⟨gb182, 1, none⟩ = some (.int .i64 a1_1) := (blk_cell BK182.out 1).trans rfl; have hcz69_2 : w67.cell? ⟨gb182, 2, none⟩ = some (.int .i64 a1_2) := (blk_cell BK182.out 2).trans rfl; have hcz69_3 : w67.cell? ⟨gb182, 3, none⟩ = some (.int .i64 a1_3) := (blk_cell BK182.out 3).trans rfl; have hfz69_0 := blk_frozen BK182.out 0; have hfz69_1 := blk_frozen BK182.out 1; have hfz69_2 := blk_frozen BK182.out 2; have hfz69_3 := blk_frozen BK182.out 3))
                                    repeat (go_quiet (first | (go_at_call 19; (with_reducible refine (tier_Done.calls k2 _ _ l0 _ _ t184 a1_0 a1_1 a1_2 a1_3 t204 _ ?side1 ?side2 ?side3 ?side4 A60.out).mono ?_); (case side1 => repeat (first | exact (Kd.C_below HR0.out HB.out) | (with_reducible refine Kd.C_alloc ?_ _) | (with_reducible refine Kd.C_drewN ?_ _) | (with_reducible refine Kd.C_drew ?_))); (case side2 => exact HC0.out); (case side3 => repeat (first | exact (Kd.R_reads' HO_6.out).2.2 | (with_reducible refine Kd.C_alloc ?_ _) | (with_reducible refine Kd.C_drewN ?_ _) | (with_reducible refine Kd.C_drew ?_))); (case side4 => exact (Kd.R_reads' HO_6.out).2.1); rintro e w67 ⟨v205, rfl, ho0, hb⟩; have n0_ := Aside0.mk (Kd.R_below (by (with_reducible repeat (first | apply Kd.R_alloc | apply Kd.R_drewN | apply Kd.R_drew)); exact HO_6.out) hb); have n1_ := Aside0.mk (Kd.R_lower (Kd.R_newB ho0 (g := gb182) (o := .cells #[.int .i64 a1_0, .int .i64 a1_1, .int .i64 a1_2, .int .i64 a1_3] 25 (0, 0)) (by (with_reducible repeat (first | refine blk_drewN ?_ _ | refine blk_drew ?_ | refine blk_alloc ?_ _)); exact BK182.out)) (below_size (by repeat (first | (with_reducible first | exact HB.out | apply below_alloc | apply pw_below_drewN | apply below_drew1 | refine below_set ?_ GE182.out) | exact HB.out)))); have n2_ := Aside0.mk (blk_below (g := gb182) (o := .cells #[.int .i64 a1_0, .int .i64 a1_1, .int .i64 a1_2, .int .i64 a1_3] 25 (0, 0)) (by (with_reducible repeat (first | refine blk_drewN ?_ _ | refine blk_drew ?_ | refine blk_alloc ?_ _)); exact BK182.out) hb); have n3_ := Aside0.mk (below_step (by repeat (first | (with_reducible first | exact HB.out | apply below_alloc | apply pw_below_drewN | apply below_drew1 | refine below_set ?_ GE182.out) | exact HB.out)) hb); clear HO_6; clear BK182; clear HB; have HO_6 := n0_; have HO206 := n1_; have BK182 := n2_; have HB := n3_; clear n0_ n1_ n2_ n3_; (try clear hb); (try clear hb2); (try clear hk); (try clear hi); (try clear ho0); obtain ⟨Ao68, co68, eo68⟩ := Kd.R_slice HO206.out; subst eo68; have p207 : 0 ≤ ((ji63) : Int) := of_decide_eq_true (by first | (with_reducible assumption) | assumption); have q207 : (ji63) < (t204.length : Int) := of_decide_eq_true (by first | (with_reducible assumption) | assumption); obtain ⟨ad207, e207, hx207_0, hx207_1, hx207_2, hx207_3⟩ := at_T25 (Kd.R_reads' HO206.out).2.2 (ji63) p207 q207; cases e207; replace p207 := eq_true p207; replace q207 := eq_true q207; have hcz69_0 : w67.cell? ⟨gb182, 0, none⟩ = some (.int .i64 a1_0) := (blk_cell BK182.out 0).trans rfl; have hcz69_1 : w67.cell? ⟨gb182, 1, none⟩ = some (.int .i64 a1_1) := (blk_cell BK182.out 1).trans rfl; have hcz69_2 : w67.cell? ⟨gb182, 2, none⟩ = some (.int .i64 a1_2) := (blk_cell BK182.out 2).trans rfl; have hcz69_3 : w67.cell? ⟨gb182, 3, none⟩ = some (.int .i64 a1_3) := (blk_cell BK182.out 3).trans rfl; have hfz69_0 := blk_frozen BK182.out 0; have hfz69_1 := blk_frozen BK182.out 1; have hfz69_2 := blk_frozen BK182.out 2; have hfz69_3 := blk_frozen BK182.out 3)); try go_wp2_with (first | (go_at_call 19; (with_reducible refine (tier_Done.calls k2 _ _ l0 _ _ t184 a1_0 a1_1 a1_2 a1_3 t204 _ ?side1 ?side2 ?side3 ?side4 A60.out).mono ?_); (case side1 => repeat (first | exact (Kd.C_below HR0.out HB.out) | (with_reducible refine Kd.C_alloc ?_ _) | (with_reducible refine Kd.C_drewN ?_ _) | (with_reducible refine Kd.C_drew ?_))); (case side2 => exact HC0.out); (case side3 => repeat (first | exact (Kd.R_reads' HO_6.out).2.2 | (with_reducible refine Kd.C_alloc ?_ _) | (with_reducible refine Kd.C_drewN ?_ _) | (with_reducible refine Kd.C_drew ?_))); (case side4 => exact (Kd.R_reads' HO_6.out).2.1); rintro e w67 ⟨v205, rfl, ho0, hb⟩; have n0_ := Aside0.mk (Kd.R_below (by (with_reducible repeat (first | apply Kd.R_alloc | apply Kd.R_drewN | apply Kd.R_drew)); exact HO_6.out) hb); have n1_ := Aside0.mk (Kd.R_lower (Kd.R_newB ho0 (g := gb182) (o := .cells #[.int .i64 a1_0, .int .i64 a1_1, .int .i64 a1_2, .int .i64 a1_3] 25 (0, 0)) (by (with_reducible repeat (first | refine blk_drewN ?_ _ | refine blk_drew ?_ | refine blk_alloc ?_ _)); exact BK182.out)) (below_size (by repeat (first | (with_reducible first | exact HB.out | apply below_alloc | apply pw_below_drewN | apply below_drew1 | refine below_set ?_ GE182.out) | exact HB.out)))); have n2_ := Aside0.mk (blk_below (g := gb182) (o := .cells #[.int .i64 a1_0, .int .i64 a1_1, .int .i64 a1_2, .int .i64 a1_3] 25 (0, 0)) (by (with_reducible repeat (first | refine blk_drewN ?_ _ | refine blk_drew ?_ | refine blk_alloc ?_ _)); exact BK182.out) hb); have n3_ := Aside0.mk (below_step (by repeat (first | (with_reducible first | exact HB.out | apply below_alloc | apply pw_below_drewN | apply below_drew1 | refine below_set ?_ GE182.out) | exact HB.out)) hb); clear HO_6; clear BK182; clear HB; have HO_6 := n0_; have HO206 := n1_; have BK182 := n2_; have HB := n3_; clear n0_ n1_ n2_ n3_; (try clear hb); (try clear hb2); (try clear hk); (try clear hi); (try clear ho0); obtain ⟨Ao68, co68, eo68⟩ := Kd.R_slice HO206.out; subst eo68; have p207 : 0 ≤ ((ji63) : Int) := of_decide_eq_true (by first | (with_reducible assumption) | assumption); have q207 : (ji63) < (t204.length : Int) := of_decide_eq_true (by first | (with_reducible assumption) | assumption); obtain ⟨ad207, e207, hx207_0, hx207_1, hx207_2, hx207_3⟩ := at_T25 (Kd.R_reads' HO206.out).2.2 (ji63) p207 q207; cases e207; replace p207 := eq_true p207; replace q207 := eq_true q207; have hcz69_0 : w67.cell? ⟨gb182, 0, none⟩ = some (.int .i64 a1_0) := (blk_cell BK182.out 0).trans rfl; have hcz69_1 : w67.cell? ⟨gb182, 1, none⟩ = some (.int .i64 a1_1) := (blk_cell BK182.out 1).trans rfl; have hcz69_2 : w67.cell? ⟨gb182, 2, none⟩ = some (.int .i64 a1_2) := (blk_cell BK182.out 2).trans rfl; have hcz69_3 : w67.cell? ⟨gb182, 3, none⟩ = some (.int .i64 a1_3) := (blk_cell BK182.out 3).trans rfl; have hfz69_0 := blk_frozen BK182.out 0; have hfz69_1 := blk_frozen BK182.out 1; have hfz69_2 := blk_frozen BK182.out 2; have hfz69_3 := blk_frozen BK182.out 3)))
                                    go_ret
                                    exact ⟨by first | rfl | (simp [errW_none, errW_some] <;> rfl) | (simp only [← hji63]; first | rfl | (simp [errW_none, errW_some] <;> rfl)) | (simp [*, errW_none, errW_some] <;> rfl), by repeat (first | (with_reducible first | exact HB.out | apply below_alloc | apply pw_below_drewN | apply below_drew1 | refine below_set ?_ GE182.out) | exact HB.out)⟩
                                  · rw [if_neg c65] at H
                                    exact absurd H (by simp)
                                · rw [if_neg c64] at H
                                  exact absurd H (by simp)
                              · rw [if_neg c62] at H
                                have c62b0 : ((t204.length : Int) == (wrap64 ((wrap64 ((l0.length : Int) - (t184.length : Int))) + 1))) = false := beq_eq_false_iff_ne.mpr c62
                                have c62b1 : ((t204.length : Int) != (wrap64 ((wrap64 ((l0.length : Int) - (t184.length : Int))) + 1))) = true := bne_iff_ne.mpr c62
                                obtain rfl := Option.some.inj H
                                have p200 : 0 ≤ (0 : Int) := (by omega)
                                have q200 : 0 < (t184.length : Int) := of_decide_eq_true (by first | (with_reducible assumption) | assumption)
                                obtain ⟨ad200, e200, hx200_0⟩ := Kd.at_int (Kd.R_reads' HO_6.out).2.2 0 p200 q200
                                cases e200
                                have qi200 : (0 < t184.length) = True := eq_true (by omega)
                                (try rw [show ((0 : Int)).toNat = 0 from rfl] at hx200_0)
                                (try rw [Addr.add_zero'] at hx200_0)
                                replace p200 := eq_true p200
                                replace q200 := eq_true q200
                                have p201 : 0 ≤ ((rd t184 0) : Int) := of_decide_eq_true (by first | (with_reducible assumption) | assumption)
                                have q201 : (rd t184 0) < (l0.length : Int) := of_decide_eq_true (by first | (with_reducible assumption) | assumption)
                                obtain ⟨ad201, e201, hx201_0, hx201_1, hx201_2, hx201_3⟩ := at_T25 HR0.out (rd t184 0) p201 q201
                                cases e201
                                replace hx201_0 := (HB.out.cell (World.block_lt_of_cell? w _ hx201_0)).trans hx201_0
                                replace hx201_1 := (HB.out.cell (World.block_lt_of_cell? w _ hx201_1)).trans hx201_1
                                replace hx201_2 := (HB.out.cell (World.block_lt_of_cell? w _ hx201_2)).trans hx201_2
                                replace hx201_3 := (HB.out.cell (World.block_lt_of_cell? w _ hx201_3)).trans hx201_3
                                replace p201 := eq_true p201
                                replace q201 := eq_true q201
                                have p202 : 0 ≤ (0 : Int) := (by omega)
                                have q202 : 0 < (t184.length : Int) := of_decide_eq_true (by first | (with_reducible assumption) | assumption)
                                obtain ⟨ad202, e202, hx202_0⟩ := Kd.at_int (Kd.R_reads' HO_6.out).2.2 0 p202 q202
                                obtain rfl : ad200 = ad202 := (by injection e202)
                                have qi202 : (0 < t184.length) = True := eq_true (by omega)
                                (try rw [show ((0 : Int)).toNat = 0 from rfl] at hx202_0)
                                (try rw [Addr.add_zero'] at hx202_0)
                                replace p202 := eq_true p202
                                replace q202 := eq_true q202
                                have p203 : 0 ≤ ((rd t184 0) : Int) := of_decide_eq_true (by first | (with_reducible assumption) | assumption)
                                have q203 : (rd t184 0) < (l0.length : Int) := of_decide_eq_true (by first | (with_reducible assumption) | assumption)
                                obtain ⟨ad203, e203, hx203_0, hx203_1, hx203_2, hx203_3⟩ := at_T25 HR0.out (rd t184 0) p203 q203
                                obtain rfl : ad201 = ad203 := (by injection e203)
                                replace hx203_0 := (HB.out.cell (World.block_lt_of_cell? w _ hx203_0)).trans hx203_0
                                replace hx203_1 := (HB.out.cell (World.block_lt_of_cell? w _ hx203_1)).trans hx203_1
                                replace hx203_2 := (HB.out.cell (World.block_lt_of_cell? w _ hx203_2)).trans hx203_2
                                replace hx203_3 := (HB.out.cell (World.block_lt_of_cell? w _ hx203_3)).trans hx203_3
                                replace p203 := eq_true p203
                                replace q203 := eq_true q203
                                have hcz70_0 : wr.cell? ⟨gb182, 0, none⟩ = some (.int .i64 a1_0) := (blk_cell BK182.out 0).trans rfl
                                have hcz70_1 : wr.cell? ⟨gb182, 1, none⟩ = some (.int .i64 a1_1) := (blk_cell BK182.out 1).trans rfl
                                have hcz70_2 : wr.cell? ⟨gb182, 2, none⟩ = some (.int .i64 a1_2) := (blk_cell BK182.out 2).trans rfl
                                have hcz70_3 : wr.cell? ⟨gb182, 3, none⟩ = some (.int .i64 a1_3) := (blk_cell BK182.out 3).trans rfl
                                have hfz70_0 := blk_frozen BK182.out 0
                                have hfz70_1 := blk_frozen BK182.out 1
                                have hfz70_2 := blk_frozen BK182.out 2
                                have hfz70_3 := blk_frozen BK182.out 3
                                go_wp2_with (first | (go_at_call 19; (with_reducible refine (tier_Done.calls k2 _ _ l0 _ _ t184 a1_0 a1_1 a1_2 a1_3 t204 _ ?side1 ?side2 ?side3 ?side4 A60.out).mono ?_); (case side1 => repeat (first | exact (Kd.C_below HR0.out HB.out) | (with_reducible refine Kd.C_alloc ?_ _) | (with_reducible refine Kd.C_drewN ?_ _) | (with_reducible refine Kd.C_drew ?_))); (case side2 => exact HC0.out); (case side3 => repeat (first | exact (Kd.R_reads' HO_6.out).2.2 | (with_reducible refine Kd.C_alloc ?_ _) | (with_reducible refine Kd.C_drewN ?_ _) | (with_reducible refine Kd.C_drew ?_))); (case side4 => exact (Kd.R_reads' HO_6.out).2.1); rintro e w71 ⟨v205, rfl, ho0, hb⟩; have n0_ := Aside0.mk (Kd.R_below (by (with_reducible repeat (first | apply Kd.R_alloc | apply Kd.R_drewN | apply Kd.R_drew)); exact HO_6.out) hb); have n1_ := Aside0.mk (Kd.R_lower (Kd.R_newB ho0 (g := gb182) (o := .cells #[.int .i64 a1_0, .int .i64 a1_1, .int .i64 a1_2, .int .i64 a1_3] 25 (0, 0)) (by (with_reducible repeat (first | refine blk_drewN ?_ _ | refine blk_drew ?_ | refine blk_alloc ?_ _)); exact BK182.out)) (below_size (by repeat (first | (with_reducible first | exact HB.out | apply below_alloc | apply pw_below_drewN | apply below_drew1 | refine below_set ?_ GE182.out) | exact HB.out)))); have n2_ := Aside0.mk (blk_below (g := gb182) (o := .cells #[.int .i64 a1_0, .int .i64 a1_1, .int .i64 a1_2, .int .i64 a1_3] 25 (0, 0)) (by (with_reducible repeat (first | refine blk_drewN ?_ _ | refine blk_drew ?_ | refine blk_alloc ?_ _)); exact BK182.out) hb); have n3_ := Aside0.mk (below_step (by repeat (first | (with_reducible first | exact HB.out | apply below_alloc | apply pw_below_drewN | apply below_drew1 | refine below_set ?_ GE182.out) | exact HB.out)) hb); clear HO_6; clear BK182; clear HB; have HO_6 := n0_; have HO206 := n1_; have BK182 := n2_; have HB := n3_; clear n0_ n1_ n2_ n3_; (try clear hb); (try clear hb2); (try clear hk); (try clear hi); (try clear ho0); obtain ⟨Ao72, co72, eo72⟩ := Kd.R_slice HO206.out; subst eo72))
                                repeat (go_quiet (first | (go_at_call 19; (with_reducible refine (tier_Done.calls k2 _ _ l0 _ _ t184 a1_0 a1_1 a1_2 a1_3 t204 _ ?side1 ?side2 ?side3 ?side4 A60.out).mono ?_); (case side1 => repeat (first | exact (Kd.C_below HR0.out HB.out) | (with_reducible refine Kd.C_alloc ?_ _) | (with_reducible refine Kd.C_drewN ?_ _) | (with_reducible refine Kd.C_drew ?_))); (case side2 => exact HC0.out); (case side3 => repeat (first | exact (Kd.R_reads' HO_6.out).2.2 | (with_reducible refine Kd.C_alloc ?_ _) | (with_reducible refine Kd.C_drewN ?_ _) | (with_reducible refine Kd.C_drew ?_))); (case side4 => exact (Kd.R_reads' HO_6.out).2.1); rintro e w71 ⟨v205, rfl, ho0, hb⟩; have n0_ := Aside0.mk (Kd.R_below (by (with_reducible repeat (first | apply Kd.R_alloc | apply Kd.R_drewN | apply Kd.R_drew)); exact HO_6.out) hb); have n1_ := Aside0.mk (Kd.R_lower (Kd.R_newB ho0 (g := gb182) (o := .cells #[.int .i64 a1_0, .int .i64 a1_1, .int .i64 a1_2, .int .i64 a1_3] 25 (0, 0)) (by (with_reducible repeat (first | refine blk_drewN ?_ _ | refine blk_drew ?_ | refine blk_alloc ?_ _)); exact BK182.out)) (below_size (by repeat (first | (with_reducible first | exact HB.out | apply below_alloc | apply pw_below_drewN | apply below_drew1 | refine below_set ?_ GE182.out) | exact HB.out)))); have n2_ := Aside0.mk (blk_below (g := gb182) (o := .cells #[.int .i64 a1_0, .int .i64 a1_1, .int .i64 a1_2, .int .i64 a1_3] 25 (0, 0)) (by (with_reducible repeat (first | refine blk_drewN ?_ _ | refine blk_drew ?_ | refine blk_alloc ?_ _)); exact BK182.out) hb); have n3_ := Aside0.mk (below_step (by repeat (first | (with_reducible first | exact HB.out | apply below_alloc | apply pw_below_drewN | apply below_drew1 | refine below_set ?_ GE182.out) | exact HB.out)) hb); clear HO_6; clear BK182; clear HB; have HO_6 := n0_; have HO206 := n1_; have BK182 := n2_; have HB := n3_; clear n0_ n1_ n2_ n3_; (try clear hb); (try clear hb2); (try clear hk); (try clear hi); (try clear ho0); obtain ⟨Ao72, co72, eo72⟩ := Kd.R_slice HO206.out; subst eo72)); try go_wp2_with (first | (go_at_call 19; (with_reducible refine (tier_Done.calls k2 _ _ l0 _ _ t184 a1_0 a1_1 a1_2 a1_3 t204 _ ?side1 ?side2 ?side3 ?side4 A60.out).mono ?_); (case side1 => repeat (first | exact (Kd.C_below HR0.out HB.out) | (with_reducible refine Kd.C_alloc ?_ _) | (with_reducible refine Kd.C_drewN ?_ _) | (with_reducible refine Kd.C_drew ?_))); (case side2 => exact HC0.out); (case side3 => repeat (first | exact (Kd.R_reads' HO_6.out).2.2 | (with_reducible refine Kd.C_alloc ?_ _) | (with_reducible refine Kd.C_drewN ?_ _) | (with_reducible refine Kd.C_drew ?_))); (case side4 => exact (Kd.R_reads' HO_6.out).2.1); rintro e w71 ⟨v205, rfl, ho0, hb⟩; have n0_ := Aside0.mk (Kd.R_below (by (with_reducible repeat (first | apply Kd.R_alloc | apply Kd.R_drewN | apply Kd.R_drew)); exact HO_6.out) hb); have n1_ := Aside0.mk (Kd.R_lower (Kd.R_newB ho0 (g := gb182) (o := .cells #[.int .i64 a1_0, .int .i64 a1_1, .int .i64 a1_2, .int .i64 a1_3] 25 (0, 0)) (by (with_reducible repeat (first | refine blk_drewN ?_ _ | refine blk_drew ?_ | refine blk_alloc ?_ _)); exact BK182.out)) (below_size (by repeat (first | (with_reducible first | exact HB.out | apply below_alloc | apply pw_below_drewN | apply below_drew1 | refine below_set ?_ GE182.out) | exact HB.out)))); have n2_ := Aside0.mk (blk_below (g := gb182) (o := .cells #[.int .i64 a1_0, .int .i64 a1_1, .int .i64 a1_2, .int .i64 a1_3] 25 (0, 0)) (by (with_reducible repeat (first | refine blk_drewN ?_ _ | refine blk_drew ?_ | refine blk_alloc ?_ _)); exact BK182.out) hb); have n3_ := Aside0.mk (below_step (by repeat (first | (with_reducible first | exact HB.out | apply below_alloc | apply pw_below_drewN | apply below_drew1 | refine below_set ?_ GE182.out) | exact HB.out)) hb); clear HO_6; clear BK182; clear HB; have HO_6 := n0_; have HO206 := n1_; have BK182 := n2_; have HB := n3_; clear n0_ n1_ n2_ n3_; (try clear hb); (try clear hb2); (try clear hk); (try clear hi); (try clear ho0); obtain ⟨Ao72, co72, eo72⟩ := Kd.R_slice HO206.out; subst eo72)))
                                go_ret
                                exact ⟨by first | rfl | (simp [errW_none, errW_some] <;> rfl) | (simp [*, errW_none, errW_some] <;> rfl), by repeat (first | (with_reducible first | exact HB.out | apply below_alloc | apply pw_below_drewN | apply below_drew1 | refine below_set ?_ GE182.out) | exact HB.out)⟩
                            · replace c61 := Bool.eq_false_iff.mpr c61
                              subst c61
                              have H1 : (some false) = some r := by rw [if_neg (show ¬ (false = true) by decide)] at H; exact H
                              clear H
                              have H := H1
                              clear H1
                              obtain rfl := Option.some.inj H
                              have p200 : 0 ≤ (0 : Int) := (by omega)
                              have q200 : 0 < (t184.length : Int) := of_decide_eq_true (by first | (with_reducible assumption) | assumption)
                              obtain ⟨ad200, e200, hx200_0⟩ := Kd.at_int (Kd.R_reads' HO_6.out).2.2 0 p200 q200
                              cases e200
                              have qi200 : (0 < t184.length) = True := eq_true (by omega)
                              (try rw [show ((0 : Int)).toNat = 0 from rfl] at hx200_0)
                              (try rw [Addr.add_zero'] at hx200_0)
                              replace p200 := eq_true p200
                              replace q200 := eq_true q200
                              have p201 : 0 ≤ ((rd t184 0) : Int) := of_decide_eq_true (by first | (with_reducible assumption) | assumption)
                              have q201 : (rd t184 0) < (l0.length : Int) := of_decide_eq_true (by first | (with_reducible assumption) | assumption)
                              obtain ⟨ad201, e201, hx201_0, hx201_1, hx201_2, hx201_3⟩ := at_T25 HR0.out (rd t184 0) p201 q201
                              cases e201
                              replace hx201_0 := (HB.out.cell (World.block_lt_of_cell? w _ hx201_0)).trans hx201_0
                              replace hx201_1 := (HB.out.cell (World.block_lt_of_cell? w _ hx201_1)).trans hx201_1
                              replace hx201_2 := (HB.out.cell (World.block_lt_of_cell? w _ hx201_2)).trans hx201_2
                              replace hx201_3 := (HB.out.cell (World.block_lt_of_cell? w _ hx201_3)).trans hx201_3
                              replace p201 := eq_true p201
                              replace q201 := eq_true q201
                              have p202 : 0 ≤ (0 : Int) := (by omega)
                              have q202 : 0 < (t184.length : Int) := of_decide_eq_true (by first | (with_reducible assumption) | assumption)
                              obtain ⟨ad202, e202, hx202_0⟩ := Kd.at_int (Kd.R_reads' HO_6.out).2.2 0 p202 q202
                              obtain rfl : ad200 = ad202 := (by injection e202)
                              have qi202 : (0 < t184.length) = True := eq_true (by omega)
                              (try rw [show ((0 : Int)).toNat = 0 from rfl] at hx202_0)
                              (try rw [Addr.add_zero'] at hx202_0)
                              replace p202 := eq_true p202
                              replace q202 := eq_true q202
                              have p203 : 0 ≤ ((rd t184 0) : Int) := of_decide_eq_true (by first | (with_reducible assumption) | assumption)
                              have q203 : (rd t184 0) < (l0.length : Int) := of_decide_eq_true (by first | (with_reducible assumption) | assumption)
                              obtain ⟨ad203, e203, hx203_0, hx203_1, hx203_2, hx203_3⟩ := at_T25 HR0.out (rd t184 0) p203 q203
                              obtain rfl : ad201 = ad203 := (by injection e203)
                              replace hx203_0 := (HB.out.cell (World.block_lt_of_cell? w _ hx203_0)).trans hx203_0
                              replace hx203_1 := (HB.out.cell (World.block_lt_of_cell? w _ hx203_1)).trans hx203_1
                              replace hx203_2 := (HB.out.cell (World.block_lt_of_cell? w _ hx203_2)).trans hx203_2
                              replace hx203_3 := (HB.out.cell (World.block_lt_of_cell? w _ hx203_3)).trans hx203_3
                              replace p203 := eq_true p203
                              replace q203 := eq_true q203
                              have hcz73_0 : wr.cell? ⟨gb182, 0, none⟩ = some (.int .i64 a1_0) := (blk_cell BK182.out 0).trans rfl
                              have hcz73_1 : wr.cell? ⟨gb182, 1, none⟩ = some (.int .i64 a1_1) := (blk_cell BK182.out 1).trans rfl
                              have hcz73_2 : wr.cell? ⟨gb182, 2, none⟩ = some (.int .i64 a1_2) := (blk_cell BK182.out 2).trans rfl
                              have hcz73_3 : wr.cell? ⟨gb182, 3, none⟩ = some (.int .i64 a1_3) := (blk_cell BK182.out 3).trans rfl
                              have hfz73_0 := blk_frozen BK182.out 0
                              have hfz73_1 := blk_frozen BK182.out 1
                              have hfz73_2 := blk_frozen BK182.out 2
                              have hfz73_3 := blk_frozen BK182.out 3
                              go_wp2_with (first | (go_at_call 19; (with_reducible refine (tier_Done.calls k2 _ _ l0 _ _ t184 a1_0 a1_1 a1_2 a1_3 t204 _ ?side1 ?side2 ?side3 ?side4 A60.out).mono ?_); (case side1 => repeat (first | exact (Kd.C_below HR0.out HB.out) | (with_reducible refine Kd.C_alloc ?_ _) | (with_reducible refine Kd.C_drewN ?_ _) | (with_reducible refine Kd.C_drew ?_))); (case side2 => exact HC0.out); (case side3 => repeat (first | exact (Kd.R_reads' HO_6.out).2.2 | (with_reducible refine Kd.C_alloc ?_ _) | (with_reducible refine Kd.C_drewN ?_ _) | (with_reducible refine Kd.C_drew ?_))); (case side4 => exact (Kd.R_reads' HO_6.out).2.1); rintro e w74 ⟨v205, rfl, ho0, hb⟩; have n0_ := Aside0.mk (Kd.R_below (by (with_reducible repeat (first | apply Kd.R_alloc | apply Kd.R_drewN | apply Kd.R_drew)); exact HO_6.out) hb); have n1_ := Aside0.mk (Kd.R_lower (Kd.R_newB ho0 (g := gb182) (o := .cells #[.int .i64 a1_0, .int .i64 a1_1, .int .i64 a1_2, .int .i64 a1_3] 25 (0, 0)) (by (with_reducible repeat (first | refine blk_drewN ?_ _ | refine blk_drew ?_ | refine blk_alloc ?_ _)); exact BK182.out)) (below_size (by repeat (first | (with_reducible first | exact HB.out | apply below_alloc | apply pw_below_drewN | apply below_drew1 | refine below_set ?_ GE182.out) | exact HB.out)))); have n2_ := Aside0.mk (blk_below (g := gb182) (o := .cells #[.int .i64 a1_0, .int .i64 a1_1, .int .i64 a1_2, .int .i64 a1_3] 25 (0, 0)) (by (with_reducible repeat (first | refine blk_drewN ?_ _ | refine blk_drew ?_ | refine blk_alloc ?_ _)); exact BK182.out) hb); have n3_ := Aside0.mk (below_step (by repeat (first | (with_reducible first | exact HB.out | apply below_alloc | apply pw_below_drewN | apply below_drew1 | refine below_set ?_ GE182.out) | exact HB.out)) hb); clear HO_6; clear BK182; clear HB; have HO_6 := n0_; have HO206 := n1_; have BK182 := n2_; have HB := n3_; clear n0_ n1_ n2_ n3_; (try clear hb); (try clear hb2); (try clear hk); (try clear hi); (try clear ho0)))
                              repeat (go_quiet (first | (go_at_call 19; (with_reducible refine (tier_Done.calls k2 _ _ l0 _ _ t184 a1_0 a1_1 a1_2 a1_3 t204 _ ?side1 ?side2 ?side3 ?side4 A60.out).mono ?_); (case side1 => repeat (first | exact (Kd.C_below HR0.out HB.out) | (with_reducible refine Kd.C_alloc ?_ _) | (with_reducible refine Kd.C_drewN ?_ _) | (with_reducible refine Kd.C_drew ?_))); (case side2 => exact HC0.out); (case side3 => repeat (first | exact (Kd.R_reads' HO_6.out).2.2 | (with_reducible refine Kd.C_alloc ?_ _) | (with_reducible refine Kd.C_drewN ?_ _) | (with_reducible refine Kd.C_drew ?_))); (case side4 => exact (Kd.R_reads' HO_6.out).2.1); rintro e w74 ⟨v205, rfl, ho0, hb⟩; have n0_ := Aside0.mk (Kd.R_below (by (with_reducible repeat (first | apply Kd.R_alloc | apply Kd.R_drewN | apply Kd.R_drew)); exact HO_6.out) hb); have n1_ := Aside0.mk (Kd.R_lower (Kd.R_newB ho0 (g := gb182) (o := .cells #[.int .i64 a1_0, .int .i64 a1_1, .int .i64 a1_2, .int .i64 a1_3] 25 (0, 0)) (by (with_reducible repeat (first | refine blk_drewN ?_ _ | refine blk_drew ?_ | refine blk_alloc ?_ _)); exact BK182.out)) (below_size (by repeat (first | (with_reducible first | exact HB.out | apply below_alloc | apply pw_below_drewN | apply below_drew1 | refine below_set ?_ GE182.out) | exact HB.out)))); have n2_ := Aside0.mk (blk_below (g := gb182) (o := .cells #[.int .i64 a1_0, .int .i64 a1_1, .int .i64 a1_2, .int .i64 a1_3] 25 (0, 0)) (by (with_reducible repeat (first | refine blk_drewN ?_ _ | refine blk_drew ?_ | refine blk_alloc ?_ _)); exact BK182.out) hb); have n3_ := Aside0.mk (below_step (by repeat (first | (with_reducible first | exact HB.out | apply below_alloc | apply pw_below_drewN | apply below_drew1 | refine below_set ?_ GE182.out) | exact HB.out)) hb); clear HO_6; clear BK182; clear HB; have HO_6 := n0_; have HO206 := n1_; have BK182 := n2_; have HB := n3_; clear n0_ n1_ n2_ n3_; (try clear hb); (try clear hb2); (try clear hk); (try clear hi); (try clear ho0))); try go_wp2_with (first | (go_at_call 19; (with_reducible refine (tier_Done.calls k2 _ _ l0 _ _ t184 a1_0 a1_1 a1_2 a1_3 t204 _ ?side1 ?side2 ?side3 ?side4 A60.out).mono ?_); (case side1 => repeat (first | exact (Kd.C_below HR0.out HB.out) | (with_reducible refine Kd.C_alloc ?_ _) | (with_reducible refine Kd.C_drewN ?_ _) | (with_reducible refine Kd.C_drew ?_))); (case side2 => exact HC0.out); (case side3 => repeat (first | exact (Kd.R_reads' HO_6.out).2.2 | (with_reducible refine Kd.C_alloc ?_ _) | (with_reducible refine Kd.C_drewN ?_ _) | (with_reducible refine Kd.C_drew ?_))); (case side4 => exact (Kd.R_reads' HO_6.out).2.1); rintro e w74 ⟨v205, rfl, ho0, hb⟩; have n0_ := Aside0.mk (Kd.R_below (by (with_reducible repeat (first | apply Kd.R_alloc | apply Kd.R_drewN | apply Kd.R_drew)); exact HO_6.out) hb); have n1_ := Aside0.mk (Kd.R_lower (Kd.R_newB ho0 (g := gb182) (o := .cells #[.int .i64 a1_0, .int .i64 a1_1, .int .i64 a1_2, .int .i64 a1_3] 25 (0, 0)) (by (with_reducible repeat (first | refine blk_drewN ?_ _ | refine blk_drew ?_ | refine blk_alloc ?_ _)); exact BK182.out)) (below_size (by repeat (first | (with_reducible first | exact HB.out | apply below_alloc | apply pw_below_drewN | apply below_drew1 | refine below_set ?_ GE182.out) | exact HB.out)))); have n2_ := Aside0.mk (blk_below (g := gb182) (o := .cells #[.int .i64 a1_0, .int .i64 a1_1, .int .i64 a1_2, .int .i64 a1_3] 25 (0, 0)) (by (with_reducible repeat (first | refine blk_drewN ?_ _ | refine blk_drew ?_ | refine blk_alloc ?_ _)); exact BK182.out) hb); have n3_ := Aside0.mk (below_step (by repeat (first | (with_reducible first | exact HB.out | apply below_alloc | apply pw_below_drewN | apply below_drew1 | refine below_set ?_ GE182.out) | exact HB.out)) hb); clear HO_6; clear BK182; clear HB; have HO_6 := n0_; have HO206 := n1_; have BK182 := n2_; have HB := n3_; clear n0_ n1_ n2_ n3_; (try clear hb); (try clear hb2); (try clear hk); (try clear hi); (try clear ho0))))
                              go_ret
                              exact ⟨by first | rfl | (simp [errW_none, errW_some] <;> rfl) | (simp [*, errW_none, errW_some] <;> rfl), by repeat (first | (with_reducible first | exact HB.out | apply below_alloc | apply pw_below_drewN | apply below_drew1 | refine below_set ?_ GE182.out) | exact HB.out)⟩
                          · rw [if_neg c59] at H
                            have c59b0 : (t185 == (wrap64 (((rd_T25 l0 (rd t184 0)).f2) + 1))) = false := beq_eq_false_iff_ne.mpr c59
                            have c59b1 : (t185 != (wrap64 (((rd_T25 l0 (rd t184 0)).f2) + 1))) = true := bne_iff_ne.mpr c59
                            obtain rfl := Option.some.inj H
                            have p200 : 0 ≤ (0 : Int) := (by omega)
                            have q200 : 0 < (t184.length : Int) := of_decide_eq_true (by first | (with_reducible assumption) | assumption)
                            obtain ⟨ad200, e200, hx200_0⟩ := Kd.at_int (Kd.R_reads' HO_6.out).2.2 0 p200 q200
                            cases e200
                            have qi200 : (0 < t184.length) = True := eq_true (by omega)
                            (try rw [show ((0 : Int)).toNat = 0 from rfl] at hx200_0)
                            (try rw [Addr.add_zero'] at hx200_0)
                            replace p200 := eq_true p200
                            replace q200 := eq_true q200
                            have p201 : 0 ≤ ((rd t184 0) : Int) := of_decide_eq_true (by first | (with_reducible assumption) | assumption)
                            have q201 : (rd t184 0) < (l0.length : Int) := of_decide_eq_true (by first | (with_reducible assumption) | assumption)
                            obtain ⟨ad201, e201, hx201_0, hx201_1, hx201_2, hx201_3⟩ := at_T25 HR0.out (rd t184 0) p201 q201
                            cases e201
                            replace hx201_0 := (HB.out.cell (World.block_lt_of_cell? w _ hx201_0)).trans hx201_0
                            replace hx201_1 := (HB.out.cell (World.block_lt_of_cell? w _ hx201_1)).trans hx201_1
                            replace hx201_2 := (HB.out.cell (World.block_lt_of_cell? w _ hx201_2)).trans hx201_2
                            replace hx201_3 := (HB.out.cell (World.block_lt_of_cell? w _ hx201_3)).trans hx201_3
                            replace p201 := eq_true p201
                            replace q201 := eq_true q201
                            have p202 : 0 ≤ (0 : Int) := (by omega)
                            have q202 : 0 < (t184.length : Int) := of_decide_eq_true (by first | (with_reducible assumption) | assumption)
                            obtain ⟨ad202, e202, hx202_0⟩ := Kd.at_int (Kd.R_reads' HO_6.out).2.2 0 p202 q202
                            obtain rfl : ad200 = ad202 := (by injection e202)
                            have qi202 : (0 < t184.length) = True := eq_true (by omega)
                            (try rw [show ((0 : Int)).toNat = 0 from rfl] at hx202_0)
                            (try rw [Addr.add_zero'] at hx202_0)
                            replace p202 := eq_true p202
                            replace q202 := eq_true q202
                            have p203 : 0 ≤ ((rd t184 0) : Int) := of_decide_eq_true (by first | (with_reducible assumption) | assumption)
                            have q203 : (rd t184 0) < (l0.length : Int) := of_decide_eq_true (by first | (with_reducible assumption) | assumption)
                            obtain ⟨ad203, e203, hx203_0, hx203_1, hx203_2, hx203_3⟩ := at_T25 HR0.out (rd t184 0) p203 q203
                            obtain rfl : ad201 = ad203 := (by injection e203)
                            replace hx203_0 := (HB.out.cell (World.block_lt_of_cell? w _ hx203_0)).trans hx203_0
                            replace hx203_1 := (HB.out.cell (World.block_lt_of_cell? w _ hx203_1)).trans hx203_1
                            replace hx203_2 := (HB.out.cell (World.block_lt_of_cell? w _ hx203_2)).trans hx203_2
                            replace hx203_3 := (HB.out.cell (World.block_lt_of_cell? w _ hx203_3)).trans hx203_3
                            replace p203 := eq_true p203
                            replace q203 := eq_true q203
                            go_wp2
                            repeat (go_quiet (fail); try go_wp2)
                            go_ret
                            exact ⟨by first | rfl | (simp [errW_none, errW_some] <;> rfl) | (simp [*, errW_none, errW_some] <;> rfl), by repeat (first | (with_reducible first | exact HB.out | apply below_alloc | apply pw_below_drewN | apply below_drew1 | refine below_set ?_ GE182.out) | exact HB.out)⟩
                        · rw [if_neg c58] at H
                          have c58b0 : decide (((rd_T25 l0 (rd t184 0)).f2) < 16) = false := decide_eq_false c58
                          clear c58
                          replace H := Option.bind_eq_some_iff.mp H
                          obtain ⟨t208, A750, H⟩ := H
                          replace H : (if t183 = true then (if (t208.length : Int) = (wrap64 ((wrap64 ((l0.length : Int) - (t184.length : Int))) + 1)) then (if 0 ≤ (wrap64 ((t208.length : Int) - 1)) then (if (wrap64 ((t208.length : Int) - 1)) < (t208.length : Int) then (some (((rd_T25 t208 (wrap64 ((t208.length : Int) - 1))).f0) == a1_0 && (((rd_T25 t208 (wrap64 ((t208.length : Int) - 1))).f1) == a1_1 && (((rd_T25 t208 (wrap64 ((t208.length : Int) - 1))).f2) == a1_2 && (((rd_T25 t208 (wrap64 ((t208.length : Int) - 1))).f3) == a1_3))))) else (none)) else (none)) else (some false)) else (some false)) = some r := H
                          have A75 := Aside0.mk A750
                          clear A750
                          by_cases c76 : t183 = true
                          · subst c76
                            have H1 : (if (t208.length : Int) = (wrap64 ((wrap64 ((l0.length : Int) - (t184.length : Int))) + 1)) then (if 0 ≤ (wrap64 ((t208.length : Int) - 1)) then (if (wrap64 ((t208.length : Int) - 1)) < (t208.length : Int) then (some (((rd_T25 t208 (wrap64 ((t208.length : Int) - 1))).f0) == a1_0 && (((rd_T25 t208 (wrap64 ((t208.length : Int) - 1))).f1) == a1_1 && (((rd_T25 t208 (wrap64 ((t208.length : Int) - 1))).f2) == a1_2 && (((rd_T25 t208 (wrap64 ((t208.length : Int) - 1))).f3) == a1_3))))) else (none)) else (none)) else (some false)) = some r := by rw [if_pos rfl] at H; exact H
                            clear H
                            have H := H1
                            clear H1
                            by_cases c77 : (t208.length : Int) = (wrap64 ((wrap64 ((l0.length : Int) - (t184.length : Int))) + 1))
                            · rw [if_pos c77] at H
                              have c77b0 : ((t208.length : Int) == (wrap64 ((wrap64 ((l0.length : Int) - (t184.length : Int))) + 1))) = true := beq_iff_eq.mpr c77
                              have c77b1 : ((t208.length : Int) != (wrap64 ((wrap64 ((l0.length : Int) - (t184.length : Int))) + 1))) = false := bne_eq_false_iff_eq.mpr c77
                              clear c77
                              obtain ⟨ji78, hji78⟩ : ∃ j_ : Int, (wrap64 ((t208.length : Int) - 1)) = j_ := ⟨_, rfl⟩
                              replace H : (if 0 ≤ (ji78) then (if (ji78) < (t208.length : Int) then (some (((rd_T25 t208 (ji78)).f0) == a1_0 && (((rd_T25 t208 (ji78)).f1) == a1_1 && (((rd_T25 t208 (ji78)).f2) == a1_2 && (((rd_T25 t208 (ji78)).f3) == a1_3))))) else (none)) else (none)) = some r := by first | (rw [hji78] at H; exact H) | (simp only [hji78] at H ⊢; exact H)
                              (try rw [hji78] at A75)
                              have hji78w : (IntKind.i64.wrap ((t208.length : Int) - 1)) = ji78 := (i64_w _).trans hji78
                              by_cases c79 : 0 ≤ (ji78)
                              · rw [if_pos c79] at H
                                have c79b0 : decide (0 ≤ (ji78)) = true := decide_eq_true c79
                                clear c79
                                by_cases c80 : (ji78) < (t208.length : Int)
                                · rw [if_pos c80] at H
                                  have c80b0 : decide ((ji78) < (t208.length : Int)) = true := decide_eq_true c80
                                  clear c80
                                  obtain rfl := Option.some.inj H
                                  have p200 : 0 ≤ (0 : Int) := (by omega)
                                  have q200 : 0 < (t184.length : Int) := of_decide_eq_true (by first | (with_reducible assumption) | assumption)
                                  obtain ⟨ad200, e200, hx200_0⟩ := Kd.at_int (Kd.R_reads' HO_6.out).2.2 0 p200 q200
                                  cases e200
                                  have qi200 : (0 < t184.length) = True := eq_true (by omega)
                                  (try rw [show ((0 : Int)).toNat = 0 from rfl] at hx200_0)
                                  (try rw [Addr.add_zero'] at hx200_0)
                                  replace p200 := eq_true p200
                                  replace q200 := eq_true q200
                                  have p201 : 0 ≤ ((rd t184 0) : Int) := of_decide_eq_true (by first | (with_reducible assumption) | assumption)
                                  have q201 : (rd t184 0) < (l0.length : Int) := of_decide_eq_true (by first | (with_reducible assumption) | assumption)
                                  obtain ⟨ad201, e201, hx201_0, hx201_1, hx201_2, hx201_3⟩ := at_T25 HR0.out (rd t184 0) p201 q201
                                  cases e201
                                  replace hx201_0 := (HB.out.cell (World.block_lt_of_cell? w _ hx201_0)).trans hx201_0
                                  replace hx201_1 := (HB.out.cell (World.block_lt_of_cell? w _ hx201_1)).trans hx201_1
                                  replace hx201_2 := (HB.out.cell (World.block_lt_of_cell? w _ hx201_2)).trans hx201_2
                                  replace hx201_3 := (HB.out.cell (World.block_lt_of_cell? w _ hx201_3)).trans hx201_3
                                  replace p201 := eq_true p201
                                  replace q201 := eq_true q201
                                  have hcz81_0 : wr.cell? ⟨gb182, 0, none⟩ = some (.int .i64 a1_0) := (blk_cell BK182.out 0).trans rfl
                                  have hcz81_1 : wr.cell? ⟨gb182, 1, none⟩ = some (.int .i64 a1_1) := (blk_cell BK182.out 1).trans rfl
                                  have hcz81_2 : wr.cell? ⟨gb182, 2, none⟩ = some (.int .i64 a1_2) := (blk_cell BK182.out 2).trans rfl
                                  have hcz81_3 : wr.cell? ⟨gb182, 3, none⟩ = some (.int .i64 a1_3) := (blk_cell BK182.out 3).trans rfl
                                  have hfz81_0 := blk_frozen BK182.out 0
                                  have hfz81_1 := blk_frozen BK182.out 1
                                  have hfz81_2 := blk_frozen BK182.out 2
                                  have hfz81_3 := blk_frozen BK182.out 3
                                  go_wp2_with (first | (go_at_call 19; (with_reducible refine (tier_Done.calls k2 _ _ l0 _ _ t184 a1_0 a1_1 a1_2 a1_3 t208 _ ?side1 ?side2 ?side3 ?side4 A75.out).mono ?_); (case side1 => repeat (first | exact (Kd.C_below HR0.out HB.out) | (with_reducible refine Kd.C_alloc ?_ _) | (with_reducible refine Kd.C_drewN ?_ _) | (with_reducible refine Kd.C_drew ?_))); (case side2 => exact HC0.out); (case side3 => repeat (first | exact (Kd.R_reads' HO_6.out).2.2 | (with_reducible refine Kd.C_alloc ?_ _) | (with_reducible refine Kd.C_drewN ?_ _) | (with_reducible refine Kd.C_drew ?_))); (case side4 => exact (Kd.R_reads' HO_6.out).2.1); rintro e w82 ⟨v209, rfl, ho0, hb⟩; have n0_ := Aside0.mk (Kd.R_below (by (with_reducible repeat (first | apply Kd.R_alloc | apply Kd.R_drewN | apply Kd.R_drew)); exact HO_6.out) hb); have n1_ := Aside0.mk (Kd.R_lower (Kd.R_newB ho0 (g := gb182) (o := .cells #[.int .i64 a1_0, .int .i64 a1_1, .int .i64 a1_2, .int .i64 a1_3] 25 (0, 0)) (by (with_reducible repeat (first | refine blk_drewN ?_ _ | refine blk_drew ?_ | refine blk_alloc ?_ _)); exact BK182.out)) (below_size (by repeat (first | (with_reducible first | exact HB.out | apply below_alloc | apply pw_below_drewN | apply below_drew1 | refine below_set ?_ GE182.out) | exact HB.out)))); have n2_ := Aside0.mk (blk_below (g := gb182) (o := .cells #[.int .i64 a1_0, .int .i64 a1_1, .int .i64 a1_2, .int .i64 a1_3] 25 (0, 0)) (by (with_reducible repeat (first | refine blk_drewN ?_ _ | refine blk_drew ?_ | refine blk_alloc ?_ _)); exact BK182.out) hb); have n3_ := Aside0.mk (below_step (by repeat (first | (with_reducible first | exact HB.out | apply below_alloc | apply pw_below_drewN | apply below_drew1 | refine below_set ?_ GE182.out) | exact HB.out)) hb); clear HO_6; clear BK182; clear HB; have HO_6 := n0_; have HO210 := n1_; have BK182 := n2_; have HB := n3_; clear n0_ n1_ n2_ n3_; (try clear hb); (try clear hb2); (try clear hk); (try clear hi); (try clear ho0); obtain ⟨Ao83, co83, eo83⟩ := Kd.R_slice HO210.out; subst eo83; have p211 : 0 ≤ ((ji78) : Int) := of_decide_eq_true (by first | (with_reducible assumption) | assumption); have q211 : (ji78) < (t208.length : Int) := of_decide_eq_true (by first | (with_reducible assumption) | assumption); obtain ⟨ad211, e211, hx211_0, hx211_1, hx211_2, hx211_3⟩ := at_T25 (Kd.R_reads' HO210.out).2.2 (ji78) p211 q211; cases e211; replace p211 := eq_true p211; replace q211 := eq_true q211; have hcz84_0 : w82.cell? ⟨gb182, 0, none⟩ = some (.int .i64 a1_0) := (blk_cell BK182.out 0).trans rfl; have hcz84_1 : w82.cell? ⟨gb182, 1, none⟩ = some (.int .i64 a1_1) := (blk_cell BK182.out 1).trans rfl; have hcz84_2 : w82.cell? ⟨gb182, 2, none⟩ = some (.int .i64 a1_2) := (blk_cell BK182.out 2).trans rfl; have hcz84_3 : w82.cell? ⟨gb182, 3, none⟩ = some (.int .i64 a1_3) := (blk_cell BK182.out 3).trans rfl; have hfz84_0 := blk_frozen BK182.out 0; have hfz84_1 := blk_frozen BK182.out 1; have hfz84_2 := blk_frozen BK182.out 2; have hfz84_3 := blk_frozen BK182.out 3))
                                  repeat (go_quiet (first | (go_at_call 19; (with_reducible refine (tier_Done.calls k2 _ _ l0 _ _ t184 a1_0 a1_1 a1_2 a1_3 t208 _ ?side1 ?side2 ?side3 ?side4 A75.out).mono ?_); (case side1 => repeat (first | exact (Kd.C_below HR0.out HB.out) | (with_reducible refine Kd.C_alloc ?_ _) | (with_reducible refine Kd.C_drewN ?_ _) | (with_reducible refine Kd.C_drew ?_))); (case side2 => exact HC0.out); (case side3 => repeat (first | exact (Kd.R_reads' HO_6.out).2.2 | (with_reducible refine Kd.C_alloc ?_ _) | (with_reducible refine Kd.C_drewN ?_ _) | (with_reducible refine Kd.C_drew ?_))); (case side4 => exact (Kd.R_reads' HO_6.out).2.1); rintro e w82 ⟨v209, rfl, ho0, hb⟩; have n0_ := Aside0.mk (Kd.R_below (by (with_reducible repeat (first | apply Kd.R_alloc | apply Kd.R_drewN | apply Kd.R_drew)); exact HO_6.out) hb); have n1_ := Aside0.mk (Kd.R_lower (Kd.R_newB ho0 (g := gb182) (o := .cells #[.int .i64 a1_0, .int .i64 a1_1, .int .i64 a1_2, .int .i64 a1_3] 25 (0, 0)) (by (with_reducible repeat (first | refine blk_drewN ?_ _ | refine blk_drew ?_ | refine blk_alloc ?_ _)); exact BK182.out)) (below_size (by repeat (first | (with_reducible first | exact HB.out | apply below_alloc | apply pw_below_drewN | apply below_drew1 | refine below_set ?_ GE182.out) | exact HB.out)))); have n2_ := Aside0.mk (blk_below (g := gb182) (o := .cells #[.int .i64 a1_0, .int .i64 a1_1, .int .i64 a1_2, .int .i64 a1_3] 25 (0, 0)) (by (with_reducible repeat (first | refine blk_drewN ?_ _ | refine blk_drew ?_ | refine blk_alloc ?_ _)); exact BK182.out) hb); have n3_ := Aside0.mk (below_step (by repeat (first | (with_reducible first | exact HB.out | apply below_alloc | apply pw_below_drewN | apply below_drew1 | refine below_set ?_ GE182.out) | exact HB.out)) hb); clear HO_6; clear BK182; clear HB; have HO_6 := n0_; have HO210 := n1_; have BK182 := n2_; have HB := n3_; clear n0_ n1_ n2_ n3_; (try clear hb); (try clear hb2); (try clear hk); (try clear hi); (try clear ho0); obtain ⟨Ao83, co83, eo83⟩ := Kd.R_slice HO210.out; subst eo83; have p211 : 0 ≤ ((ji78) : Int) := of_decide_eq_true (by first | (with_reducible assumption) | assumption); have q211 : (ji78) < (t208.length : Int) := of_decide_eq_true (by first | (with_reducible assumption) | assumption); obtain ⟨ad211, e211, hx211_0, hx211_1, hx211_2, hx211_3⟩ := at_T25 (Kd.R_reads' HO210.out).2.2 (ji78) p211 q211; cases e211; replace p211 := eq_true p211; replace q211 := eq_true q211; have hcz84_0 : w82.cell? ⟨gb182, 0, none⟩ = some (.int .i64 a1_0) := (blk_cell BK182.out 0).trans rfl; have hcz84_1 : w82.cell? ⟨gb182, 1, none⟩ = some (.int .i64 a1_1) := (blk_cell BK182.out 1).trans rfl; have hcz84_2 : w82.cell? ⟨gb182, 2, none⟩ = some (.int .i64 a1_2) := (blk_cell BK182.out 2).trans rfl; have hcz84_3 : w82.cell? ⟨gb182, 3, none⟩ = some (.int .i64 a1_3) := (blk_cell BK182.out 3).trans rfl; have hfz84_0 := blk_frozen BK182.out 0; have hfz84_1 := blk_frozen BK182.out 1; have hfz84_2 := blk_frozen BK182.out 2; have hfz84_3 := blk_frozen BK182.out 3)); try go_wp2_with (first | (go_at_call 19; (with_reducible refine (tier_Done.calls k2 _ _ l0 _ _ t184 a1_0 a1_1 a1_2 a1_3 t208 _ ?side1 ?side2 ?side3 ?side4 A75.out).mono ?_); (case side1 => repeat (first | exact (Kd.C_below HR0.out HB.out) | (with_reducible refine Kd.C_alloc ?_ _) | (with_reducible refine Kd.C_drewN ?_ _) | (with_reducible refine Kd.C_drew ?_))); (case side2 => exact HC0.out); (case side3 => repeat (first | exact (Kd.R_reads' HO_6.out).2.2 | (with_reducible refine Kd.C_alloc ?_ _) | (with_reducible refine Kd.C_drewN ?_ _) | (with_reducible refine Kd.C_drew ?_))); (case side4 => exact (Kd.R_reads' HO_6.out).2.1); rintro e w82 ⟨v209, rfl, ho0, hb⟩; have n0_ := Aside0.mk (Kd.R_below (by (with_reducible repeat (first | apply Kd.R_alloc | apply Kd.R_drewN | apply Kd.R_drew)); exact HO_6.out) hb); have n1_ := Aside0.mk (Kd.R_lower (Kd.R_newB ho0 (g := gb182) (o := .cells #[.int .i64 a1_0, .int .i64 a1_1, .int .i64 a1_2, .int .i64 a1_3] 25 (0, 0)) (by (with_reducible repeat (first | refine blk_drewN ?_ _ | refine blk_drew ?_ | refine blk_alloc ?_ _)); exact BK182.out)) (below_size (by repeat (first | (with_reducible first | exact HB.out | apply below_alloc | apply pw_below_drewN | apply below_drew1 | refine below_set ?_ GE182.out) | exact HB.out)))); have n2_ := Aside0.mk (blk_below (g := gb182) (o := .cells #[.int .i64 a1_0, .int .i64 a1_1, .int .i64 a1_2, .int .i64 a1_3] 25 (0, 0)) (by (with_reducible repeat (first | refine blk_drewN ?_ _ | refine blk_drew ?_ | refine blk_alloc ?_ _)); exact BK182.out) hb); have n3_ := Aside0.mk (below_step (by repeat (first | (with_reducible first | exact HB.out | apply below_alloc | apply pw_below_drewN | apply below_drew1 | refine below_set ?_ GE182.out) | exact HB.out)) hb); clear HO_6; clear BK182; clear HB; have HO_6 := n0_; have HO210 := n1_; have BK182 := n2_; have HB := n3_; clear n0_ n1_ n2_ n3_; (try clear hb); (try clear hb2); (try clear hk); (try clear hi); (try clear ho0); obtain ⟨Ao83, co83, eo83⟩ := Kd.R_slice HO210.out; subst eo83; have p211 : 0 ≤ ((ji78) : Int) := of_decide_eq_true (by first | (with_reducible assumption) | assumption); have q211 : (ji78) < (t208.length : Int) := of_decide_eq_true (by first | (with_reducible assumption) | assumption); obtain ⟨ad211, e211, hx211_0, hx211_1, hx211_2, hx211_3⟩ := at_T25 (Kd.R_reads' HO210.out).2.2 (ji78) p211 q211; cases e211; replace p211 := eq_true p211; replace q211 := eq_true q211; have hcz84_0 : w82.cell? ⟨gb182, 0, none⟩ = some (.int .i64 a1_0) := (blk_cell BK182.out 0).trans rfl; have hcz84_1 : w82.cell? ⟨gb182, 1, none⟩ = some (.int .i64 a1_1) := (blk_cell BK182.out 1).trans rfl; have hcz84_2 : w82.cell? ⟨gb182, 2, none⟩ = some (.int .i64 a1_2) := (blk_cell BK182.out 2).trans rfl; have hcz84_3 : w82.cell? ⟨gb182, 3, none⟩ = some (.int .i64 a1_3) := (blk_cell BK182.out 3).trans rfl; have hfz84_0 := blk_frozen BK182.out 0; have hfz84_1 := blk_frozen BK182.out 1; have hfz84_2 := blk_frozen BK182.out 2; have hfz84_3 := blk_frozen BK182.out 3)))
                                  go_ret
                                  exact ⟨by first | rfl | (simp [errW_none, errW_some] <;> rfl) | (simp only [← hji78]; first | rfl | (simp [errW_none, errW_some] <;> rfl)) | (simp [*, errW_none, errW_some] <;> rfl), by repeat (first | (with_reducible first | exact HB.out | apply below_alloc | apply pw_below_drewN | apply below_drew1 | refine below_set ?_ GE182.out) | exact HB.out)⟩
                                · rw [if_neg c80] at H
                                  exact absurd H (by simp)
                              · rw [if_neg c79] at H
                                exact absurd H (by simp)
                            · rw [if_neg c77] at H
                              have c77b0 : ((t208.length : Int) == (wrap64 ((wrap64 ((l0.length : Int) - (t184.length : Int))) + 1))) = false := beq_eq_false_iff_ne.mpr c77
                              have c77b1 : ((t208.length : Int) != (wrap64 ((wrap64 ((l0.length : Int) - (t184.length : Int))) + 1))) = true := bne_iff_ne.mpr c77
                              obtain rfl := Option.some.inj H
                              have p200 : 0 ≤ (0 : Int) := (by omega)
                              have q200 : 0 < (t184.length : Int) := of_decide_eq_true (by first | (with_reducible assumption) | assumption)
                              obtain ⟨ad200, e200, hx200_0⟩ := Kd.at_int (Kd.R_reads' HO_6.out).2.2 0 p200 q200
                              cases e200
                              have qi200 : (0 < t184.length) = True := eq_true (by omega)
                              (try rw [show ((0 : Int)).toNat = 0 from rfl] at hx200_0)
                              (try rw [Addr.add_zero'] at hx200_0)
                              replace p200 := eq_true p200
                              replace q200 := eq_true q200
                              have p201 : 0 ≤ ((rd t184 0) : Int) := of_decide_eq_true (by first | (with_reducible assumption) | assumption)
                              have q201 : (rd t184 0) < (l0.length : Int) := of_decide_eq_true (by first | (with_reducible assumption) | assumption)
                              obtain ⟨ad201, e201, hx201_0, hx201_1, hx201_2, hx201_3⟩ := at_T25 HR0.out (rd t184 0) p201 q201
                              cases e201
                              replace hx201_0 := (HB.out.cell (World.block_lt_of_cell? w _ hx201_0)).trans hx201_0
                              replace hx201_1 := (HB.out.cell (World.block_lt_of_cell? w _ hx201_1)).trans hx201_1
                              replace hx201_2 := (HB.out.cell (World.block_lt_of_cell? w _ hx201_2)).trans hx201_2
                              replace hx201_3 := (HB.out.cell (World.block_lt_of_cell? w _ hx201_3)).trans hx201_3
                              replace p201 := eq_true p201
                              replace q201 := eq_true q201
                              have hcz85_0 : wr.cell? ⟨gb182, 0, none⟩ = some (.int .i64 a1_0) := (blk_cell BK182.out 0).trans rfl
                              have hcz85_1 : wr.cell? ⟨gb182, 1, none⟩ = some (.int .i64 a1_1) := (blk_cell BK182.out 1).trans rfl
                              have hcz85_2 : wr.cell? ⟨gb182, 2, none⟩ = some (.int .i64 a1_2) := (blk_cell BK182.out 2).trans rfl
                              have hcz85_3 : wr.cell? ⟨gb182, 3, none⟩ = some (.int .i64 a1_3) := (blk_cell BK182.out 3).trans rfl
                              have hfz85_0 := blk_frozen BK182.out 0
                              have hfz85_1 := blk_frozen BK182.out 1
                              have hfz85_2 := blk_frozen BK182.out 2
                              have hfz85_3 := blk_frozen BK182.out 3
                              go_wp2_with (first | (go_at_call 19; (with_reducible refine (tier_Done.calls k2 _ _ l0 _ _ t184 a1_0 a1_1 a1_2 a1_3 t208 _ ?side1 ?side2 ?side3 ?side4 A75.out).mono ?_); (case side1 => repeat (first | exact (Kd.C_below HR0.out HB.out) | (with_reducible refine Kd.C_alloc ?_ _) | (with_reducible refine Kd.C_drewN ?_ _) | (with_reducible refine Kd.C_drew ?_))); (case side2 => exact HC0.out); (case side3 => repeat (first | exact (Kd.R_reads' HO_6.out).2.2 | (with_reducible refine Kd.C_alloc ?_ _) | (with_reducible refine Kd.C_drewN ?_ _) | (with_reducible refine Kd.C_drew ?_))); (case side4 => exact (Kd.R_reads' HO_6.out).2.1); rintro e w86 ⟨v209, rfl, ho0, hb⟩; have n0_ := Aside0.mk (Kd.R_below (by (with_reducible repeat (first | apply Kd.R_alloc | apply Kd.R_drewN | apply Kd.R_drew)); exact HO_6.out) hb); have n1_ := Aside0.mk (Kd.R_lower (Kd.R_newB ho0 (g := gb182) (o := .cells #[.int .i64 a1_0, .int .i64 a1_1, .int .i64 a1_2, .int .i64 a1_3] 25 (0, 0)) (by (with_reducible repeat (first | refine blk_drewN ?_ _ | refine blk_drew ?_ | refine blk_alloc ?_ _)); exact BK182.out)) (below_size (by repeat (first | (with_reducible first | exact HB.out | apply below_alloc | apply pw_below_drewN | apply below_drew1 | refine below_set ?_ GE182.out) | exact HB.out)))); have n2_ := Aside0.mk (blk_below (g := gb182) (o := .cells #[.int .i64 a1_0, .int .i64 a1_1, .int .i64 a1_2, .int .i64 a1_3] 25 (0, 0)) (by (with_reducible repeat (first | refine blk_drewN ?_ _ | refine blk_drew ?_ | refine blk_alloc ?_ _)); exact BK182.out) hb); have n3_ := Aside0.mk (below_step (by repeat (first | (with_reducible first | exact HB.out | apply below_alloc | apply pw_below_drewN | apply below_drew1 | refine below_set ?_ GE182.out) | exact HB.out)) hb); clear HO_6; clear BK182; clear HB; have HO_6 := n0_; have HO210 := n1_; have BK182 := n2_; have HB := n3_; clear n0_ n1_ n2_ n3_; (try clear hb); (try clear hb2); (try clear hk); (try clear hi); (try clear ho0); obtain ⟨Ao87, co87, eo87⟩ := Kd.R_slice HO210.out; subst eo87))
                              repeat (go_quiet (first | (go_at_call 19; (with_reducible refine (tier_Done.calls k2 _ _ l0 _ _ t184 a1_0 a1_1 a1_2 a1_3 t208 _ ?side1 ?side2 ?side3 ?side4 A75.out).mono ?_); (case side1 => repeat (first | exact (Kd.C_below HR0.out HB.out) | (with_reducible refine Kd.C_alloc ?_ _) | (with_reducible refine Kd.C_drewN ?_ _) | (with_reducible refine Kd.C_drew ?_))); (case side2 => exact HC0.out); (case side3 => repeat (first | exact (Kd.R_reads' HO_6.out).2.2 | (with_reducible refine Kd.C_alloc ?_ _) | (with_reducible refine Kd.C_drewN ?_ _) | (with_reducible refine Kd.C_drew ?_))); (case side4 => exact (Kd.R_reads' HO_6.out).2.1); rintro e w86 ⟨v209, rfl, ho0, hb⟩; have n0_ := Aside0.mk (Kd.R_below (by (with_reducible repeat (first | apply Kd.R_alloc | apply Kd.R_drewN | apply Kd.R_drew)); exact HO_6.out) hb); have n1_ := Aside0.mk (Kd.R_lower (Kd.R_newB ho0 (g := gb182) (o := .cells #[.int .i64 a1_0, .int .i64 a1_1, .int .i64 a1_2, .int .i64 a1_3] 25 (0, 0)) (by (with_reducible repeat (first | refine blk_drewN ?_ _ | refine blk_drew ?_ | refine blk_alloc ?_ _)); exact BK182.out)) (below_size (by repeat (first | (with_reducible first | exact HB.out | apply below_alloc | apply pw_below_drewN | apply below_drew1 | refine below_set ?_ GE182.out) | exact HB.out)))); have n2_ := Aside0.mk (blk_below (g := gb182) (o := .cells #[.int .i64 a1_0, .int .i64 a1_1, .int .i64 a1_2, .int .i64 a1_3] 25 (0, 0)) (by (with_reducible repeat (first | refine blk_drewN ?_ _ | refine blk_drew ?_ | refine blk_alloc ?_ _)); exact BK182.out) hb); have n3_ := Aside0.mk (below_step (by repeat (first | (with_reducible first | exact HB.out | apply below_alloc | apply pw_below_drewN | apply below_drew1 | refine below_set ?_ GE182.out) | exact HB.out)) hb); clear HO_6; clear BK182; clear HB; have HO_6 := n0_; have HO210 := n1_; have BK182 := n2_; have HB := n3_; clear n0_ n1_ n2_ n3_; (try clear hb); (try clear hb2); (try clear hk); (try clear hi); (try clear ho0); obtain ⟨Ao87, co87, eo87⟩ := Kd.R_slice HO210.out; subst eo87)); try go_wp2_with (first | (go_at_call 19; (with_reducible refine (tier_Done.calls k2 _ _ l0 _ _ t184 a1_0 a1_1 a1_2 a1_3 t208 _ ?side1 ?side2 ?side3 ?side4 A75.out).mono ?_); (case side1 => repeat (first | exact (Kd.C_below HR0.out HB.out) | (with_reducible refine Kd.C_alloc ?_ _) | (with_reducible refine Kd.C_drewN ?_ _) | (with_reducible refine Kd.C_drew ?_))); (case side2 => exact HC0.out); (case side3 => repeat (first | exact (Kd.R_reads' HO_6.out).2.2 | (with_reducible refine Kd.C_alloc ?_ _) | (with_reducible refine Kd.C_drewN ?_ _) | (with_reducible refine Kd.C_drew ?_))); (case side4 => exact (Kd.R_reads' HO_6.out).2.1); rintro e w86 ⟨v209, rfl, ho0, hb⟩; have n0_ := Aside0.mk (Kd.R_below (by (with_reducible repeat (first | apply Kd.R_alloc | apply Kd.R_drewN | apply Kd.R_drew)); exact HO_6.out) hb); have n1_ := Aside0.mk (Kd.R_lower (Kd.R_newB ho0 (g := gb182) (o := .cells #[.int .i64 a1_0, .int .i64 a1_1, .int .i64 a1_2, .int .i64 a1_3] 25 (0, 0)) (by (with_reducible repeat (first | refine blk_drewN ?_ _ | refine blk_drew ?_ | refine blk_alloc ?_ _)); exact BK182.out)) (below_size (by repeat (first | (with_reducible first | exact HB.out | apply below_alloc | apply pw_below_drewN | apply below_drew1 | refine below_set ?_ GE182.out) | exact HB.out)))); have n2_ := Aside0.mk (blk_below (g := gb182) (o := .cells #[.int .i64 a1_0, .int .i64 a1_1, .int .i64 a1_2, .int .i64 a1_3] 25 (0, 0)) (by (with_reducible repeat (first | refine blk_drewN ?_ _ | refine blk_drew ?_ | refine blk_alloc ?_ _)); exact BK182.out) hb); have n3_ := Aside0.mk (below_step (by repeat (first | (with_reducible first | exact HB.out | apply below_alloc | apply pw_below_drewN | apply below_drew1 | refine below_set ?_ GE182.out) | exact HB.out)) hb); clear HO_6; clear BK182; clear HB; have HO_6 := n0_; have HO210 := n1_; have BK182 := n2_; have HB := n3_; clear n0_ n1_ n2_ n3_; (try clear hb); (try clear hb2); (try clear hk); (try clear hi); (try clear ho0); obtain ⟨Ao87, co87, eo87⟩ := Kd.R_slice HO210.out; subst eo87)))
                              go_ret
                              exact ⟨by first | rfl | (simp [errW_none, errW_some] <;> rfl) | (simp [*, errW_none, errW_some] <;> rfl), by repeat (first | (with_reducible first | exact HB.out | apply below_alloc | apply pw_below_drewN | apply below_drew1 | refine below_set ?_ GE182.out) | exact HB.out)⟩
                          · replace c76 := Bool.eq_false_iff.mpr c76
                            subst c76
                            have H1 : (some false) = some r := by rw [if_neg (show ¬ (false = true) by decide)] at H; exact H
                            clear H
                            have H := H1
                            clear H1
                            obtain rfl := Option.some.inj H
                            have p200 : 0 ≤ (0 : Int) := (by omega)
                            have q200 : 0 < (t184.length : Int) := of_decide_eq_true (by first | (with_reducible assumption) | assumption)
                            obtain ⟨ad200, e200, hx200_0⟩ := Kd.at_int (Kd.R_reads' HO_6.out).2.2 0 p200 q200
                            cases e200
                            have qi200 : (0 < t184.length) = True := eq_true (by omega)
                            (try rw [show ((0 : Int)).toNat = 0 from rfl] at hx200_0)
                            (try rw [Addr.add_zero'] at hx200_0)
                            replace p200 := eq_true p200
                            replace q200 := eq_true q200
                            have p201 : 0 ≤ ((rd t184 0) : Int) := of_decide_eq_true (by first | (with_reducible assumption) | assumption)
                            have q201 : (rd t184 0) < (l0.length : Int) := of_decide_eq_true (by first | (with_reducible assumption) | assumption)
                            obtain ⟨ad201, e201, hx201_0, hx201_1, hx201_2, hx201_3⟩ := at_T25 HR0.out (rd t184 0) p201 q201
                            cases e201
                            replace hx201_0 := (HB.out.cell (World.block_lt_of_cell? w _ hx201_0)).trans hx201_0
                            replace hx201_1 := (HB.out.cell (World.block_lt_of_cell? w _ hx201_1)).trans hx201_1
                            replace hx201_2 := (HB.out.cell (World.block_lt_of_cell? w _ hx201_2)).trans hx201_2
                            replace hx201_3 := (HB.out.cell (World.block_lt_of_cell? w _ hx201_3)).trans hx201_3
                            replace p201 := eq_true p201
                            replace q201 := eq_true q201
                            have hcz88_0 : wr.cell? ⟨gb182, 0, none⟩ = some (.int .i64 a1_0) := (blk_cell BK182.out 0).trans rfl
                            have hcz88_1 : wr.cell? ⟨gb182, 1, none⟩ = some (.int .i64 a1_1) := (blk_cell BK182.out 1).trans rfl
                            have hcz88_2 : wr.cell? ⟨gb182, 2, none⟩ = some (.int .i64 a1_2) := (blk_cell BK182.out 2).trans rfl
                            have hcz88_3 : wr.cell? ⟨gb182, 3, none⟩ = some (.int .i64 a1_3) := (blk_cell BK182.out 3).trans rfl
                            have hfz88_0 := blk_frozen BK182.out 0
                            have hfz88_1 := blk_frozen BK182.out 1
                            have hfz88_2 := blk_frozen BK182.out 2
                            have hfz88_3 := blk_frozen BK182.out 3
                            go_wp2_with (first | (go_at_call 19; (with_reducible refine (tier_Done.calls k2 _ _ l0 _ _ t184 a1_0 a1_1 a1_2 a1_3 t208 _ ?side1 ?side2 ?side3 ?side4 A75.out).mono ?_); (case side1 => repeat (first | exact (Kd.C_below HR0.out HB.out) | (with_reducible refine Kd.C_alloc ?_ _) | (with_reducible refine Kd.C_drewN ?_ _) | (with_reducible refine Kd.C_drew ?_))); (case side2 => exact HC0.out); (case side3 => repeat (first | exact (Kd.R_reads' HO_6.out).2.2 | (with_reducible refine Kd.C_alloc ?_ _) | (with_reducible refine Kd.C_drewN ?_ _) | (with_reducible refine Kd.C_drew ?_))); (case side4 => exact (Kd.R_reads' HO_6.out).2.1); rintro e w89 ⟨v209, rfl, ho0, hb⟩; have n0_ := Aside0.mk (Kd.R_below (by (with_reducible repeat (first | apply Kd.R_alloc | apply Kd.R_drewN | apply Kd.R_drew)); exact HO_6.out) hb); have n1_ := Aside0.mk (Kd.R_lower (Kd.R_newB ho0 (g := gb182) (o := .cells #[.int .i64 a1_0, .int .i64 a1_1, .int .i64 a1_2, .int .i64 a1_3] 25 (0, 0)) (by (with_reducible repeat (first | refine blk_drewN ?_ _ | refine blk_drew ?_ | refine blk_alloc ?_ _)); exact BK182.out)) (below_size (by repeat (first | (with_reducible first | exact HB.out | apply below_alloc | apply pw_below_drewN | apply below_drew1 | refine below_set ?_ GE182.out) | exact HB.out)))); have n2_ := Aside0.mk (blk_below (g := gb182) (o := .cells #[.int .i64 a1_0, .int .i64 a1_1, .int .i64 a1_2, .int .i64 a1_3] 25 (0, 0)) (by (with_reducible repeat (first | refine blk_drewN ?_ _ | refine blk_drew ?_ | refine blk_alloc ?_ _)); exact BK182.out) hb); have n3_ := Aside0.mk (below_step (by repeat (first | (with_reducible first | exact HB.out | apply below_alloc | apply pw_below_drewN | apply below_drew1 | refine below_set ?_ GE182.out) | exact HB.out)) hb); clear HO_6; clear BK182; clear HB; have HO_6 := n0_; have HO210 := n1_; have BK182 := n2_; have HB := n3_; clear n0_ n1_ n2_ n3_; (try clear hb); (try clear hb2); (try clear hk); (try clear hi); (try clear ho0)))
                            repeat (go_quiet (first | (go_at_call 19; (with_reducible refine (tier_Done.calls k2 _ _ l0 _ _ t184 a1_0 a1_1 a1_2 a1_3 t208 _ ?side1 ?side2 ?side3 ?side4 A75.out).mono ?_); (case side1 => repeat (first | exact (Kd.C_below HR0.out HB.out) | (with_reducible refine Kd.C_alloc ?_ _) | (with_reducible refine Kd.C_drewN ?_ _) | (with_reducible refine Kd.C_drew ?_))); (case side2 => exact HC0.out); (case side3 => repeat (first | exact (Kd.R_reads' HO_6.out).2.2 | (with_reducible refine Kd.C_alloc ?_ _) | (with_reducible refine Kd.C_drewN ?_ _) | (with_reducible refine Kd.C_drew ?_))); (case side4 => exact (Kd.R_reads' HO_6.out).2.1); rintro e w89 ⟨v209, rfl, ho0, hb⟩; have n0_ := Aside0.mk (Kd.R_below (by (with_reducible repeat (first | apply Kd.R_alloc | apply Kd.R_drewN | apply Kd.R_drew)); exact HO_6.out) hb); have n1_ := Aside0.mk (Kd.R_lower (Kd.R_newB ho0 (g := gb182) (o := .cells #[.int .i64 a1_0, .int .i64 a1_1, .int .i64 a1_2, .int .i64 a1_3] 25 (0, 0)) (by (with_reducible repeat (first | refine blk_drewN ?_ _ | refine blk_drew ?_ | refine blk_alloc ?_ _)); exact BK182.out)) (below_size (by repeat (first | (with_reducible first | exact HB.out | apply below_alloc | apply pw_below_drewN | apply below_drew1 | refine below_set ?_ GE182.out) | exact HB.out)))); have n2_ := Aside0.mk (blk_below (g := gb182) (o := .cells #[.int .i64 a1_0, .int .i64 a1_1, .int .i64 a1_2, .int .i64 a1_3] 25 (0, 0)) (by (with_reducible repeat (first | refine blk_drewN ?_ _ | refine blk_drew ?_ | refine blk_alloc ?_ _)); exact BK182.out) hb); have n3_ := Aside0.mk (below_step (by repeat (first | (with_reducible first | exact HB.out | apply below_alloc | apply pw_below_drewN | apply below_drew1 | refine below_set ?_ GE182.out) | exact HB.out)) hb); clear HO_6; clear BK182; clear HB; have HO_6 := n0_; have HO210 := n1_; have BK182 := n2_; have HB := n3_; clear n0_ n1_ n2_ n3_; (try clear hb); (try clear hb2); (try clear hk); (try clear hi); (try clear ho0))); try go_wp2_with (first | (go_at_call 19; (with_reducible refine (tier_Done.calls k2 _ _ l0 _ _ t184 a1_0 a1_1 a1_2 a1_3 t208 _ ?side1 ?side2 ?side3 ?side4 A75.out).mono ?_); (case side1 => repeat (first | exact (Kd.C_below HR0.out HB.out) | (with_reducible refine Kd.C_alloc ?_ _) | (with_reducible refine Kd.C_drewN ?_ _) | (with_reducible refine Kd.C_drew ?_))); (case side2 => exact HC0.out); (case side3 => repeat (first | exact (Kd.R_reads' HO_6.out).2.2 | (with_reducible refine Kd.C_alloc ?_ _) | (with_reducible refine Kd.C_drewN ?_ _) | (with_reducible refine Kd.C_drew ?_))); (case side4 => exact (Kd.R_reads' HO_6.out).2.1); rintro e w89 ⟨v209, rfl, ho0, hb⟩; have n0_ := Aside0.mk (Kd.R_below (by (with_reducible repeat (first | apply Kd.R_alloc | apply Kd.R_drewN | apply Kd.R_drew)); exact HO_6.out) hb); have n1_ := Aside0.mk (Kd.R_lower (Kd.R_newB ho0 (g := gb182) (o := .cells #[.int .i64 a1_0, .int .i64 a1_1, .int .i64 a1_2, .int .i64 a1_3] 25 (0, 0)) (by (with_reducible repeat (first | refine blk_drewN ?_ _ | refine blk_drew ?_ | refine blk_alloc ?_ _)); exact BK182.out)) (below_size (by repeat (first | (with_reducible first | exact HB.out | apply below_alloc | apply pw_below_drewN | apply below_drew1 | refine below_set ?_ GE182.out) | exact HB.out)))); have n2_ := Aside0.mk (blk_below (g := gb182) (o := .cells #[.int .i64 a1_0, .int .i64 a1_1, .int .i64 a1_2, .int .i64 a1_3] 25 (0, 0)) (by (with_reducible repeat (first | refine blk_drewN ?_ _ | refine blk_drew ?_ | refine blk_alloc ?_ _)); exact BK182.out) hb); have n3_ := Aside0.mk (below_step (by repeat (first | (with_reducible first | exact HB.out | apply below_alloc | apply pw_below_drewN | apply below_drew1 | refine below_set ?_ GE182.out) | exact HB.out)) hb); clear HO_6; clear BK182; clear HB; have HO_6 := n0_; have HO210 := n1_; have BK182 := n2_; have HB := n3_; clear n0_ n1_ n2_ n3_; (try clear hb); (try clear hb2); (try clear hk); (try clear hi); (try clear ho0))))
                            go_ret
                            exact ⟨by first | rfl | (simp [errW_none, errW_some] <;> rfl) | (simp [*, errW_none, errW_some] <;> rfl), by repeat (first | (with_reducible first | exact HB.out | apply below_alloc | apply pw_below_drewN | apply below_drew1 | refine below_set ?_ GE182.out) | exact HB.out)⟩
                      · rw [if_neg c57] at H
                        exact absurd H (by simp)
                    · rw [if_neg c56] at H
                      exact absurd H (by simp)
                  · rw [if_neg c55] at H
                    exact absurd H (by simp)
                · rw [if_neg c54] at H
                  have c54b0 : decide (0 < (t184.length : Int)) = false := decide_eq_false c54
                  have c54b1 : decide (0 < t184.length) = false := decide_eq_false (by omega)
                  clear c54
                  replace H := Option.bind_eq_some_iff.mp H
                  obtain ⟨t212, A900, H⟩ := H
                  replace H : (if t183 = true then (if (t212.length : Int) = (wrap64 ((wrap64 ((l0.length : Int) - (t184.length : Int))) + 1)) then (if 0 ≤ (wrap64 ((t212.length : Int) - 1)) then (if (wrap64 ((t212.length : Int) - 1)) < (t212.length : Int) then (some (((rd_T25 t212 (wrap64 ((t212.length : Int) - 1))).f0) == a1_0 && (((rd_T25 t212 (wrap64 ((t212.length : Int) - 1))).f1) == a1_1 && (((rd_T25 t212 (wrap64 ((t212.length : Int) - 1))).f2) == a1_2 && (((rd_T25 t212 (wrap64 ((t212.length : Int) - 1))).f3) == a1_3))))) else (none)) else (none)) else (some false)) else (some false)) = some r := H
                  have A90 := Aside0.mk A900
                  clear A900
                  by_cases c91 : t183 = true
                  · subst c91
                    have H1 : (if (t212.length : Int) = (wrap64 ((wrap64 ((l0.length : Int) - (t184.length : Int))) + 1)) then (if 0 ≤ (wrap64 ((t212.length : Int) - 1)) then (if (wrap64 ((t212.length : Int) - 1)) < (t212.length : Int) then (some (((rd_T25 t212 (wrap64 ((t212.length : Int) - 1))).f0) == a1_0 && (((rd_T25 t212 (wrap64 ((t212.length : Int) - 1))).f1) == a1_1 && (((rd_T25 t212 (wrap64 ((t212.length : Int) - 1))).f2) == a1_2 && (((rd_T25 t212 (wrap64 ((t212.length : Int) - 1))).f3) == a1_3))))) else (none)) else (none)) else (some false)) = some r := by rw [if_pos rfl] at H; exact H
                    clear H
                    have H := H1
                    clear H1
                    by_cases c92 : (t212.length : Int) = (wrap64 ((wrap64 ((l0.length : Int) - (t184.length : Int))) + 1))
                    · rw [if_pos c92] at H
                      have c92b0 : ((t212.length : Int) == (wrap64 ((wrap64 ((l0.length : Int) - (t184.length : Int))) + 1))) = true := beq_iff_eq.mpr c92
                      have c92b1 : ((t212.length : Int) != (wrap64 ((wrap64 ((l0.length : Int) - (t184.length : Int))) + 1))) = false := bne_eq_false_iff_eq.mpr c92
                      clear c92
                      obtain ⟨ji93, hji93⟩ : ∃ j_ : Int, (wrap64 ((t212.length : Int) - 1)) = j_ := ⟨_, rfl⟩
                      replace H : (if 0 ≤ (ji93) then (if (ji93) < (t212.length : Int) then (some (((rd_T25 t212 (ji93)).f0) == a1_0 && (((rd_T25 t212 (ji93)).f1) == a1_1 && (((rd_T25 t212 (ji93)).f2) == a1_2 && (((rd_T25 t212 (ji93)).f3) == a1_3))))) else (none)) else (none)) = some r := by first | (rw [hji93] at H; exact H) | (simp only [hji93] at H ⊢; exact H)
                      (try rw [hji93] at A90)
                      have hji93w : (IntKind.i64.wrap ((t212.length : Int) - 1)) = ji93 := (i64_w _).trans hji93
                      by_cases c94 : 0 ≤ (ji93)
                      · rw [if_pos c94] at H
                        have c94b0 : decide (0 ≤ (ji93)) = true := decide_eq_true c94
                        clear c94
                        by_cases c95 : (ji93) < (t212.length : Int)
                        · rw [if_pos c95] at H
                          have c95b0 : decide ((ji93) < (t212.length : Int)) = true := decide_eq_true c95
                          clear c95
                          obtain rfl := Option.some.inj H
                          have hcz96_0 : wr.cell? ⟨gb182, 0, none⟩ = some (.int .i64 a1_0) := (blk_cell BK182.out 0).trans rfl
                          have hcz96_1 : wr.cell? ⟨gb182, 1, none⟩ = some (.int .i64 a1_1) := (blk_cell BK182.out 1).trans rfl
                          have hcz96_2 : wr.cell? ⟨gb182, 2, none⟩ = some (.int .i64 a1_2) := (blk_cell BK182.out 2).trans rfl
                          have hcz96_3 : wr.cell? ⟨gb182, 3, none⟩ = some (.int .i64 a1_3) := (blk_cell BK182.out 3).trans rfl
                          have hfz96_0 := blk_frozen BK182.out 0
                          have hfz96_1 := blk_frozen BK182.out 1
                          have hfz96_2 := blk_frozen BK182.out 2
                          have hfz96_3 := blk_frozen BK182.out 3
                          go_wp2_with (first | (go_at_call 19; (with_reducible refine (tier_Done.calls k2 _ _ l0 _ _ t184 a1_0 a1_1 a1_2 a1_3 t212 _ ?side1 ?side2 ?side3 ?side4 A90.out).mono ?_); (case side1 => repeat (first | exact (Kd.C_below HR0.out HB.out) | (with_reducible refine Kd.C_alloc ?_ _) | (with_reducible refine Kd.C_drewN ?_ _) | (with_reducible refine Kd.C_drew ?_))); (case side2 => exact HC0.out); (case side3 => repeat (first | exact (Kd.R_reads' HO_6.out).2.2 | (with_reducible refine Kd.C_alloc ?_ _) | (with_reducible refine Kd.C_drewN ?_ _) | (with_reducible refine Kd.C_drew ?_))); (case side4 => exact (Kd.R_reads' HO_6.out).2.1); rintro e w97 ⟨v213, rfl, ho0, hb⟩; have n0_ := Aside0.mk (Kd.R_below (by (with_reducible repeat (first | apply Kd.R_alloc | apply Kd.R_drewN | apply Kd.R_drew)); exact HO_6.out) hb); have n1_ := Aside0.mk (Kd.R_lower (Kd.R_newB ho0 (g := gb182) (o := .cells #[.int .i64 a1_0, .int .i64 a1_1, .int .i64 a1_2, .int .i64 a1_3] 25 (0, 0)) (by (with_reducible repeat (first | refine blk_drewN ?_ _ | refine blk_drew ?_ | refine blk_alloc ?_ _)); exact BK182.out)) (below_size (by repeat (first | (with_reducible first | exact HB.out | apply below_alloc | apply pw_below_drewN | apply below_drew1 | refine below_set ?_ GE182.out) | exact HB.out)))); have n2_ := Aside0.mk (blk_below (g := gb182) (o := .cells #[.int .i64 a1_0, .int .i64 a1_1, .int .i64 a1_2, .int .i64 a1_3] 25 (0, 0)) (by (with_reducible repeat (first | refine blk_drewN ?_ _ | refine blk_drew ?_ | refine blk_alloc ?_ _)); exact BK182.out) hb); have n3_ := Aside0.mk (below_step (by repeat (first | (with_reducible first | exact HB.out | apply below_alloc | apply pw_below_drewN | apply below_drew1 | refine below_set ?_ GE182.out) | exact HB.out)) hb); clear HO_6; clear BK182; clear HB; have HO_6 := n0_; have HO214 := n1_; have BK182 := n2_; have HB := n3_; clear n0_ n1_ n2_ n3_; (try clear hb); (try clear hb2); (try clear hk); (try clear hi); (try clear ho0); obtain ⟨Ao98, co98, eo98⟩ := Kd.R_slice HO214.out; subst eo98; have p215 : 0 ≤ ((ji93) : Int) := of_decide_eq_true (by first | (with_reducible assumption) | assumption); have q215 : (ji93) < (t212.length : Int) := of_decide_eq_true (by first | (with_reducible assumption) | assumption); obtain ⟨ad215, e215, hx215_0, hx215_1, hx215_2, hx215_3⟩ := at_T25 (Kd.R_reads' HO214.out).2.2 (ji93) p215 q215; cases e215; replace p215 := eq_true p215; replace q215 := eq_true q215; have hcz99_0 : w97.cell? ⟨gb182, 0, none⟩ = some (.int .i64 a1_0) := (blk_cell BK182.out 0).trans rfl; have hcz99_1 : w97.cell? ⟨gb182, 1, none⟩ = some (.int .i64 a1_1) := (blk_cell BK182.out 1).trans rfl; have hcz99_2 : w97.cell? ⟨gb182, 2, none⟩ = some (.int .i64 a1_2) := (blk_cell BK182.out 2).trans rfl; have hcz99_3 : w97.cell? ⟨gb182, 3, none⟩ = some (.int .i64 a1_3) := (blk_cell BK182.out 3).trans rfl; have hfz99_0 := blk_frozen BK182.out 0; have hfz99_1 := blk_frozen BK182.out 1; have hfz99_2 := blk_frozen BK182.out 2; have hfz99_3 := blk_frozen BK182.out 3))
                          repeat (go_quiet (first | (go_at_call 19; (with_reducible refine (tier_Done.calls k2 _ _ l0 _ _ t184 a1_0 a1_1 a1_2 a1_3 t212 _ ?side1 ?side2 ?side3 ?side4 A90.out).mono ?_); (case side1 => repeat (first | exact (Kd.C_below HR0.out HB.out) | (with_reducible refine Kd.C_alloc ?_ _) | (with_reducible refine Kd.C_drewN ?_ _) | (with_reducible refine Kd.C_drew ?_))); (case side2 => exact HC0.out); (case side3 => repeat (first | exact (Kd.R_reads' HO_6.out).2.2 | (with_reducible refine Kd.C_alloc ?_ _) | (with_reducible refine Kd.C_drewN ?_ _) | (with_reducible refine Kd.C_drew ?_))); (case side4 => exact (Kd.R_reads' HO_6.out).2.1); rintro e w97 ⟨v213, rfl, ho0, hb⟩; have n0_ := Aside0.mk (Kd.R_below (by (with_reducible repeat (first | apply Kd.R_alloc | apply Kd.R_drewN | apply Kd.R_drew)); exact HO_6.out) hb); have n1_ := Aside0.mk (Kd.R_lower (Kd.R_newB ho0 (g := gb182) (o := .cells #[.int .i64 a1_0, .int .i64 a1_1, .int .i64 a1_2, .int .i64 a1_3] 25 (0, 0)) (by (with_reducible repeat (first | refine blk_drewN ?_ _ | refine blk_drew ?_ | refine blk_alloc ?_ _)); exact BK182.out)) (below_size (by repeat (first | (with_reducible first | exact HB.out | apply below_alloc | apply pw_below_drewN | apply below_drew1 | refine below_set ?_ GE182.out) | exact HB.out)))); have n2_ := Aside0.mk (blk_below (g := gb182) (o := .cells #[.int .i64 a1_0, .int .i64 a1_1, .int .i64 a1_2, .int .i64 a1_3] 25 (0, 0)) (by (with_reducible repeat (first | refine blk_drewN ?_ _ | refine blk_drew ?_ | refine blk_alloc ?_ _)); exact BK182.out) hb); have n3_ := Aside0.mk (below_step (by repeat (first | (with_reducible first | exact HB.out | apply below_alloc | apply pw_below_drewN | apply below_drew1 | refine below_set ?_ GE182.out) | exact HB.out)) hb); clear HO_6; clear BK182; clear HB; have HO_6 := n0_; have HO214 := n1_; have BK182 := n2_; have HB := n3_; clear n0_ n1_ n2_ n3_; (try clear hb); (try clear hb2); (try clear hk); (try clear hi); (try clear ho0); obtain ⟨Ao98, co98, eo98⟩ := Kd.R_slice HO214.out; subst eo98; have p215 : 0 ≤ ((ji93) : Int) := of_decide_eq_true (by first | (with_reducible assumption) | assumption); have q215 : (ji93) < (t212.length : Int) := of_decide_eq_true (by first | (with_reducible assumption) | assumption); obtain ⟨ad215, e215, hx215_0, hx215_1, hx215_2, hx215_3⟩ := at_T25 (Kd.R_reads' HO214.out).2.2 (ji93) p215 q215; cases e215; replace p215 := eq_true p215; replace q215 := eq_true q215; have hcz99_0 : w97.cell? ⟨gb182, 0, none⟩ = some (.int .i64 a1_0) := (blk_cell BK182.out 0).trans rfl; have hcz99_1 : w97.cell? ⟨gb182, 1, none⟩ = some (.int .i64 a1_1) := (blk_cell BK182.out 1).trans rfl; have hcz99_2 : w97.cell? ⟨gb182, 2, none⟩ = some (.int .i64 a1_2) := (blk_cell BK182.out 2).trans rfl; have hcz99_3 : w97.cell? ⟨gb182, 3, none⟩ = some (.int .i64 a1_3) := (blk_cell BK182.out 3).trans rfl; have hfz99_0 := blk_frozen BK182.out 0; have hfz99_1 := blk_frozen BK182.out 1; have hfz99_2 := blk_frozen BK182.out 2; have hfz99_3 := blk_frozen BK182.out 3)); try go_wp2_with (first | (go_at_call 19; (with_reducible refine (tier_Done.calls k2 _ _ l0 _ _ t184 a1_0 a1_1 a1_2 a1_3 t212 _ ?side1 ?side2 ?side3 ?side4 A90.out).mono ?_); (case side1 => repeat (first | exact (Kd.C_below HR0.out HB.out) | (with_reducible refine Kd.C_alloc ?_ _) | (with_reducible refine Kd.C_drewN ?_ _) | (with_reducible refine Kd.C_drew ?_))); (case side2 => exact HC0.out); (case side3 => repeat (first | exact (Kd.R_reads' HO_6.out).2.2 | (with_reducible refine Kd.C_alloc ?_ _) | (with_reducible refine Kd.C_drewN ?_ _) | (with_reducible refine Kd.C_drew ?_))); (case side4 => exact (Kd.R_reads' HO_6.out).2.1); rintro e w97 ⟨v213, rfl, ho0, hb⟩; have n0_ := Aside0.mk (Kd.R_below (by (with_reducible repeat (first | apply Kd.R_alloc | apply Kd.R_drewN | apply Kd.R_drew)); exact HO_6.out) hb); have n1_ := Aside0.mk (Kd.R_lower (Kd.R_newB ho0 (g := gb182) (o := .cells #[.int .i64 a1_0, .int .i64 a1_1, .int .i64 a1_2, .int .i64 a1_3] 25 (0, 0)) (by (with_reducible repeat (first | refine blk_drewN ?_ _ | refine blk_drew ?_ | refine blk_alloc ?_ _)); exact BK182.out)) (below_size (by repeat (first | (with_reducible first | exact HB.out | apply below_alloc | apply pw_below_drewN | apply below_drew1 | refine below_set ?_ GE182.out) | exact HB.out)))); have n2_ := Aside0.mk (blk_below (g := gb182) (o := .cells #[.int .i64 a1_0, .int .i64 a1_1, .int .i64 a1_2, .int .i64 a1_3] 25 (0, 0)) (by (with_reducible repeat (first | refine blk_drewN ?_ _ | refine blk_drew ?_ | refine blk_alloc ?_ _)); exact BK182.out) hb); have n3_ := Aside0.mk (below_step (by repeat (first | (with_reducible first | exact HB.out | apply below_alloc | apply pw_below_drewN | apply below_drew1 | refine below_set ?_ GE182.out) | exact HB.out)) hb); clear HO_6; clear BK182; clear HB; have HO_6 := n0_; have HO214 := n1_; have BK182 := n2_; have HB := n3_; clear n0_ n1_ n2_ n3_; (try clear hb); (try clear hb2); (try clear hk); (try clear hi); (try clear ho0); obtain ⟨Ao98, co98, eo98⟩ := Kd.R_slice HO214.out; subst eo98; have p215 : 0 ≤ ((ji93) : Int) := of_decide_eq_true (by first | (with_reducible assumption) | assumption); have q215 : (ji93) < (t212.length : Int) := of_decide_eq_true (by first | (with_reducible assumption) | assumption); obtain ⟨ad215, e215, hx215_0, hx215_1, hx215_2, hx215_3⟩ := at_T25 (Kd.R_reads' HO214.out).2.2 (ji93) p215 q215; cases e215; replace p215 := eq_true p215; replace q215 := eq_true q215; have hcz99_0 : w97.cell? ⟨gb182, 0, none⟩ = some (.int .i64 a1_0) := (blk_cell BK182.out 0).trans rfl; have hcz99_1 : w97.cell? ⟨gb182, 1, none⟩ = some (.int .i64 a1_1) := (blk_cell BK182.out 1).trans rfl; have hcz99_2 : w97.cell? ⟨gb182, 2, none⟩ = some (.int .i64 a1_2) := (blk_cell BK182.out 2).trans rfl; have hcz99_3 : w97.cell? ⟨gb182, 3, none⟩ = some (.int .i64 a1_3) := (blk_cell BK182.out 3).trans rfl; have hfz99_0 := blk_frozen BK182.out 0; have hfz99_1 := blk_frozen BK182.out 1; have hfz99_2 := blk_frozen BK182.out 2; have hfz99_3 := blk_frozen BK182.out 3)))
                          go_ret
                          exact ⟨by first | rfl | (simp [errW_none, errW_some] <;> rfl) | (simp only [← hji93]; first | rfl | (simp [errW_none, errW_some] <;> rfl)) | (simp [*, errW_none, errW_some] <;> rfl), by repeat (first | (with_reducible first | exact HB.out | apply below_alloc | apply pw_below_drewN | apply below_drew1 | refine below_set ?_ GE182.out) | exact HB.out)⟩
                        · rw [if_neg c95] at H
                          exact absurd H (by simp)
                      · rw [if_neg c94] at H
                        exact absurd H (by simp)
                    · rw [if_neg c92] at H
                      have c92b0 : ((t212.length : Int) == (wrap64 ((wrap64 ((l0.length : Int) - (t184.length : Int))) + 1))) = false := beq_eq_false_iff_ne.mpr c92
                      have c92b1 : ((t212.length : Int) != (wrap64 ((wrap64 ((l0.length : Int) - (t184.length : Int))) + 1))) = true := bne_iff_ne.mpr c92
                      obtain rfl := Option.some.inj H
                      have hcz100_0 : wr.cell? ⟨gb182, 0, none⟩ = some (.int .i64 a1_0) := (blk_cell BK182.out 0).trans rfl
                      have hcz100_1 : wr.cell? ⟨gb182, 1, none⟩ = some (.int .i64 a1_1) := (blk_cell BK182.out 1).trans rfl
                      have hcz100_2 : wr.cell? ⟨gb182, 2, none⟩ = some (.int .i64 a1_2) := (blk_cell BK182.out 2).trans rfl
                      have hcz100_3 : wr.cell? ⟨gb182, 3, none⟩ = some (.int .i64 a1_3) := (blk_cell BK182.out 3).trans rfl
                      have hfz100_0 := blk_frozen BK182.out 0
                      have hfz100_1 := blk_frozen BK182.out 1
                      have hfz100_2 := blk_frozen BK182.out 2
                      have hfz100_3 := blk_frozen BK182.out 3
                      go_wp2_with (first | (go_at_call 19; (with_reducible refine (tier_Done.calls k2 _ _ l0 _ _ t184 a1_0 a1_1 a1_2 a1_3 t212 _ ?side1 ?side2 ?side3 ?side4 A90.out).mono ?_); (case side1 => repeat (first | exact (Kd.C_below HR0.out HB.out) | (with_reducible refine Kd.C_alloc ?_ _) | (with_reducible refine Kd.C_drewN ?_ _) | (with_reducible refine Kd.C_drew ?_))); (case side2 => exact HC0.out); (case side3 => repeat (first | exact (Kd.R_reads' HO_6.out).2.2 | (with_reducible refine Kd.C_alloc ?_ _) | (with_reducible refine Kd.C_drewN ?_ _) | (with_reducible refine Kd.C_drew ?_))); (case side4 => exact (Kd.R_reads' HO_6.out).2.1); rintro e w101 ⟨v213, rfl, ho0, hb⟩; have n0_ := Aside0.mk (Kd.R_below (by (with_reducible repeat (first | apply Kd.R_alloc | apply Kd.R_drewN | apply Kd.R_drew)); exact HO_6.out) hb); have n1_ := Aside0.mk (Kd.R_lower (Kd.R_newB ho0 (g := gb182) (o := .cells #[.int .i64 a1_0, .int .i64 a1_1, .int .i64 a1_2, .int .i64 a1_3] 25 (0, 0)) (by (with_reducible repeat (first | refine blk_drewN ?_ _ | refine blk_drew ?_ | refine blk_alloc ?_ _)); exact BK182.out)) (below_size (by repeat (first | (with_reducible first | exact HB.out | apply below_alloc | apply pw_below_drewN | apply below_drew1 | refine below_set ?_ GE182.out) | exact HB.out)))); have n2_ := Aside0.mk (blk_below (g := gb182) (o := .cells #[.int .i64 a1_0, .int .i64 a1_1, .int .i64 a1_2, .int .i64 a1_3] 25 (0, 0)) (by (with_reducible repeat (first | refine blk_drewN ?_ _ | refine blk_drew ?_ | refine blk_alloc ?_ _)); exact BK182.out) hb); have n3_ := Aside0.mk (below_step (by repeat (first | (with_reducible first | exact HB.out | apply below_alloc | apply pw_below_drewN | apply below_drew1 | refine below_set ?_ GE182.out) | exact HB.out)) hb); clear HO_6; clear BK182; clear HB; have HO_6 := n0_; have HO214 := n1_; have BK182 := n2_; have HB := n3_; clear n0_ n1_ n2_ n3_; (try clear hb); (try clear hb2); (try clear hk); (try clear hi); (try clear ho0); obtain ⟨Ao102, co102, eo102⟩ := Kd.R_slice HO214.out; subst eo102))
                      repeat (go_quiet (first | (go_at_call 19; (with_reducible refine (tier_Done.calls k2 _ _ l0 _ _ t184 a1_0 a1_1 a1_2 a1_3 t212 _ ?side1 ?side2 ?side3 ?side4 A90.out).mono ?_); (case side1 => repeat (first | exact (Kd.C_below HR0.out HB.out) | (with_reducible refine Kd.C_alloc ?_ _) | (with_reducible refine Kd.C_drewN ?_ _) | (with_reducible refine Kd.C_drew ?_))); (case side2 => exact HC0.out); (case side3 => repeat (first | exact (Kd.R_reads' HO_6.out).2.2 | (with_reducible refine Kd.C_alloc ?_ _) | (with_reducible refine Kd.C_drewN ?_ _) | (with_reducible refine Kd.C_drew ?_))); (case side4 => exact (Kd.R_reads' HO_6.out).2.1); rintro e w101 ⟨v213, rfl, ho0, hb⟩; have n0_ := Aside0.mk (Kd.R_below (by (with_reducible repeat (first | apply Kd.R_alloc | apply Kd.R_drewN | apply Kd.R_drew)); exact HO_6.out) hb); have n1_ := Aside0.mk (Kd.R_lower (Kd.R_newB ho0 (g := gb182) (o := .cells #[.int .i64 a1_0, .int .i64 a1_1, .int .i64 a1_2, .int .i64 a1_3] 25 (0, 0)) (by (with_reducible repeat (first | refine blk_drewN ?_ _ | refine blk_drew ?_ | refine blk_alloc ?_ _)); exact BK182.out)) (below_size (by repeat (first | (with_reducible first | exact HB.out | apply below_alloc | apply pw_below_drewN | apply below_drew1 | refine below_set ?_ GE182.out) | exact HB.out)))); have n2_ := Aside0.mk (blk_below (g := gb182) (o := .cells #[.int .i64 a1_0, .int .i64 a1_1, .int .i64 a1_2, .int .i64 a1_3] 25 (0, 0)) (by (with_reducible repeat (first | refine blk_drewN ?_ _ | refine blk_drew ?_ | refine blk_alloc ?_ _)); exact BK182.out) hb); have n3_ := Aside0.mk (below_step (by repeat (first | (with_reducible first | exact HB.out | apply below_alloc | apply pw_below_drewN | apply below_drew1 | refine below_set ?_ GE182.out) | exact HB.out)) hb); clear HO_6; clear BK182; clear HB; have HO_6 := n0_; have HO214 := n1_; have BK182 := n2_; have HB := n3_; clear n0_ n1_ n2_ n3_; (try clear hb); (try clear hb2); (try clear hk); (try clear hi); (try clear ho0); obtain ⟨Ao102, co102, eo102⟩ := Kd.R_slice HO214.out; subst eo102)); try go_wp2_with (first | (go_at_call 19; (with_reducible refine (tier_Done.calls k2 _ _ l0 _ _ t184 a1_0 a1_1 a1_2 a1_3 t212 _ ?side1 ?side2 ?side3 ?side4 A90.out).mono ?_); (case side1 => repeat (first | exact (Kd.C_below HR0.out HB.out) | (with_reducible refine Kd.C_alloc ?_ _) | (with_reducible refine Kd.C_drewN ?_ _) | (with_reducible refine Kd.C_drew ?_))); (case side2 => exact HC0.out); (case side3 => repeat (first | exact (Kd.R_reads' HO_6.out).2.2 | (with_reducible refine Kd.C_alloc ?_ _) | (with_reducible refine Kd.C_drewN ?_ _) | (with_reducible refine Kd.C_drew ?_))); (case side4 => exact (Kd.R_reads' HO_6.out).2.1); rintro e w101 ⟨v213, rfl, ho0, hb⟩; have n0_ := Aside0.mk (Kd.R_below (by (with_reducible repeat (first | apply Kd.R_alloc | apply Kd.R_drewN | apply Kd.R_drew)); exact HO_6.out) hb); have n1_ := Aside0.mk (Kd.R_lower (Kd.R_newB ho0 (g := gb182) (o := .cells #[.int .i64 a1_0, .int .i64 a1_1, .int .i64 a1_2, .int .i64 a1_3] 25 (0, 0)) (by (with_reducible repeat (first | refine blk_drewN ?_ _ | refine blk_drew ?_ | refine blk_alloc ?_ _)); exact BK182.out)) (below_size (by repeat (first | (with_reducible first | exact HB.out | apply below_alloc | apply pw_below_drewN | apply below_drew1 | refine below_set ?_ GE182.out) | exact HB.out)))); have n2_ := Aside0.mk (blk_below (g := gb182) (o := .cells #[.int .i64 a1_0, .int .i64 a1_1, .int .i64 a1_2, .int .i64 a1_3] 25 (0, 0)) (by (with_reducible repeat (first | refine blk_drewN ?_ _ | refine blk_drew ?_ | refine blk_alloc ?_ _)); exact BK182.out) hb); have n3_ := Aside0.mk (below_step (by repeat (first | (with_reducible first | exact HB.out | apply below_alloc | apply pw_below_drewN | apply below_drew1 | refine below_set ?_ GE182.out) | exact HB.out)) hb); clear HO_6; clear BK182; clear HB; have HO_6 := n0_; have HO214 := n1_; have BK182 := n2_; have HB := n3_; clear n0_ n1_ n2_ n3_; (try clear hb); (try clear hb2); (try clear hk); (try clear hi); (try clear ho0); obtain ⟨Ao102, co102, eo102⟩ := Kd.R_slice HO214.out; subst eo102)))
                      go_ret
                      exact ⟨by first | rfl | (simp [errW_none, errW_some] <;> rfl) | (simp [*, errW_none, errW_some] <;> rfl), by repeat (first | (with_reducible first | exact HB.out | apply below_alloc | apply pw_below_drewN | apply below_drew1 | refine below_set ?_ GE182.out) | exact HB.out)⟩
                  · replace c91 := Bool.eq_false_iff.mpr c91
                    subst c91
                    have H1 : (some false) = some r := by rw [if_neg (show ¬ (false = true) by decide)] at H; exact H
                    clear H
                    have H := H1
                    clear H1
                    obtain rfl := Option.some.inj H
                    have hcz103_0 : wr.cell? ⟨gb182, 0, none⟩ = some (.int .i64 a1_0) := (blk_cell BK182.out 0).trans rfl
                    have hcz103_1 : wr.cell? ⟨gb182, 1, none⟩ = some (.int .i64 a1_1) := (blk_cell BK182.out 1).trans rfl
                    have hcz103_2 : wr.cell? ⟨gb182, 2, none⟩ = some (.int .i64 a1_2) := (blk_cell BK182.out 2).trans rfl
                    have hcz103_3 : wr.cell? ⟨gb182, 3, none⟩ = some (.int .i64 a1_3) := (blk_cell BK182.out 3).trans rfl
                    have hfz103_0 := blk_frozen BK182.out 0
                    have hfz103_1 := blk_frozen BK182.out 1
                    have hfz103_2 := blk_frozen BK182.out 2
                    have hfz103_3 := blk_frozen BK182.out 3
                    go_wp2_with (first | (go_at_call 19; (with_reducible refine (tier_Done.calls k2 _ _ l0 _ _ t184 a1_0 a1_1 a1_2 a1_3 t212 _ ?side1 ?side2 ?side3 ?side4 A90.out).mono ?_); (case side1 => repeat (first | exact (Kd.C_below HR0.out HB.out) | (with_reducible refine Kd.C_alloc ?_ _) | (with_reducible refine Kd.C_drewN ?_ _) | (with_reducible refine Kd.C_drew ?_))); (case side2 => exact HC0.out); (case side3 => repeat (first | exact (Kd.R_reads' HO_6.out).2.2 | (with_reducible refine Kd.C_alloc ?_ _) | (with_reducible refine Kd.C_drewN ?_ _) | (with_reducible refine Kd.C_drew ?_))); (case side4 => exact (Kd.R_reads' HO_6.out).2.1); rintro e w104 ⟨v213, rfl, ho0, hb⟩; have n0_ := Aside0.mk (Kd.R_below (by (with_reducible repeat (first | apply Kd.R_alloc | apply Kd.R_drewN | apply Kd.R_drew)); exact HO_6.out) hb); have n1_ := Aside0.mk (Kd.R_lower (Kd.R_newB ho0 (g := gb182) (o := .cells #[.int .i64 a1_0, .int .i64 a1_1, .int .i64 a1_2, .int .i64 a1_3] 25 (0, 0)) (by (with_reducible repeat (first | refine blk_drewN ?_ _ | refine blk_drew ?_ | refine blk_alloc ?_ _)); exact BK182.out)) (below_size (by repeat (first | (with_reducible first | exact HB.out | apply below_alloc | apply pw_below_drewN | apply below_drew1 | refine below_set ?_ GE182.out) | exact HB.out)))); have n2_ := Aside0.mk (blk_below (g := gb182) (o := .cells #[.int .i64 a1_0, .int .i64 a1_1, .int .i64 a1_2, .int .i64 a1_3] 25 (0, 0)) (by (with_reducible repeat (first | refine blk_drewN ?_ _ | refine blk_drew ?_ | refine blk_alloc ?_ _)); exact BK182.out) hb); have n3_ := Aside0.mk (below_step (by repeat (first | (with_reducible first | exact HB.out | apply below_alloc | apply pw_below_drewN | apply below_drew1 | refine below_set ?_ GE182.out) | exact HB.out)) hb); clear HO_6; clear BK182; clear HB; have HO_6 := n0_; have HO214 := n1_; have BK182 := n2_; have HB := n3_; clear n0_ n1_ n2_ n3_; (try clear hb); (try clear hb2); (try clear hk); (try clear hi); (try clear ho0)))
                    repeat (go_quiet (first | (go_at_call 19; (with_reducible refine (tier_Done.calls k2 _ _ l0 _ _ t184 a1_0 a1_1 a1_2 a1_3 t212 _ ?side1 ?side2 ?side3 ?side4 A90.out).mono ?_); (case side1 => repeat (first | exact (Kd.C_below HR0.out HB.out) | (with_reducible refine Kd.C_alloc ?_ _) | (with_reducible refine Kd.C_drewN ?_ _) | (with_reducible refine Kd.C_drew ?_))); (case side2 => exact HC0.out); (case side3 => repeat (first | exact (Kd.R_reads' HO_6.out).2.2 | (with_reducible refine Kd.C_alloc ?_ _) | (with_reducible refine Kd.C_drewN ?_ _) | (with_reducible refine Kd.C_drew ?_))); (case side4 => exact (Kd.R_reads' HO_6.out).2.1); rintro e w104 ⟨v213, rfl, ho0, hb⟩; have n0_ := Aside0.mk (Kd.R_below (by (with_reducible repeat (first | apply Kd.R_alloc | apply Kd.R_drewN | apply Kd.R_drew)); exact HO_6.out) hb); have n1_ := Aside0.mk (Kd.R_lower (Kd.R_newB ho0 (g := gb182) (o := .cells #[.int .i64 a1_0, .int .i64 a1_1, .int .i64 a1_2, .int .i64 a1_3] 25 (0, 0)) (by (with_reducible repeat (first | refine blk_drewN ?_ _ | refine blk_drew ?_ | refine blk_alloc ?_ _)); exact BK182.out)) (below_size (by repeat (first | (with_reducible first | exact HB.out | apply below_alloc | apply pw_below_drewN | apply below_drew1 | refine below_set ?_ GE182.out) | exact HB.out)))); have n2_ := Aside0.mk (blk_below (g := gb182) (o := .cells #[.int .i64 a1_0, .int .i64 a1_1, .int .i64 a1_2, .int .i64 a1_3] 25 (0, 0)) (by (with_reducible repeat (first | refine blk_drewN ?_ _ | refine blk_drew ?_ | refine blk_alloc ?_ _)); exact BK182.out) hb); have n3_ := Aside0.mk (below_step (by repeat (first | (with_reducible first | exact HB.out | apply below_alloc | apply pw_below_drewN | apply below_drew1 | refine below_set ?_ GE182.out) | exact HB.out)) hb); clear HO_6; clear BK182; clear HB; have HO_6 := n0_; have HO214 := n1_; have BK182 := n2_; have HB := n3_; clear n0_ n1_ n2_ n3_; (try clear hb); (try clear hb2); (try clear hk); (try clear hi); (try clear ho0))); try go_wp2_with (first | (go_at_call 19; (with_reducible refine (tier_Done.calls k2 _ _ l0 _ _ t184 a1_0 a1_1 a1_2 a1_3 t212 _ ?side1 ?side2 ?side3 ?side4 A90.out).mono ?_); (case side1 => repeat (first | exact (Kd.C_below HR0.out HB.out) | (with_reducible refine Kd.C_alloc ?_ _) | (with_reducible refine Kd.C_drewN ?_ _) | (with_reducible refine Kd.C_drew ?_))); (case side2 => exact HC0.out); (case side3 => repeat (first | exact (Kd.R_reads' HO_6.out).2.2 | (with_reducible refine Kd.C_alloc ?_ _) | (with_reducible refine Kd.C_drewN ?_ _) | (with_reducible refine Kd.C_drew ?_))); (case side4 => exact (Kd.R_reads' HO_6.out).2.1); rintro e w104 ⟨v213, rfl, ho0, hb⟩; have n0_ := Aside0.mk (Kd.R_below (by (with_reducible repeat (first | apply Kd.R_alloc | apply Kd.R_drewN | apply Kd.R_drew)); exact HO_6.out) hb); have n1_ := Aside0.mk (Kd.R_lower (Kd.R_newB ho0 (g := gb182) (o := .cells #[.int .i64 a1_0, .int .i64 a1_1, .int .i64 a1_2, .int .i64 a1_3] 25 (0, 0)) (by (with_reducible repeat (first | refine blk_drewN ?_ _ | refine blk_drew ?_ | refine blk_alloc ?_ _)); exact BK182.out)) (below_size (by repeat (first | (with_reducible first | exact HB.out | apply below_alloc | apply pw_below_drewN | apply below_drew1 | refine below_set ?_ GE182.out) | exact HB.out)))); have n2_ := Aside0.mk (blk_below (g := gb182) (o := .cells #[.int .i64 a1_0, .int .i64 a1_1, .int .i64 a1_2, .int .i64 a1_3] 25 (0, 0)) (by (with_reducible repeat (first | refine blk_drewN ?_ _ | refine blk_drew ?_ | refine blk_alloc ?_ _)); exact BK182.out) hb); have n3_ := Aside0.mk (below_step (by repeat (first | (with_reducible first | exact HB.out | apply below_alloc | apply pw_below_drewN | apply below_drew1 | refine below_set ?_ GE182.out) | exact HB.out)) hb); clear HO_6; clear BK182; clear HB; have HO_6 := n0_; have HO214 := n1_; have BK182 := n2_; have HB := n3_; clear n0_ n1_ n2_ n3_; (try clear hb); (try clear hb2); (try clear hk); (try clear hi); (try clear ho0))))
                    go_ret
                    exact ⟨by first | rfl | (simp [errW_none, errW_some] <;> rfl) | (simp [*, errW_none, errW_some] <;> rfl), by repeat (first | (with_reducible first | exact HB.out | apply below_alloc | apply pw_below_drewN | apply below_drew1 | refine below_set ?_ GE182.out) | exact HB.out)⟩

/-- THE ONE PURE STATEMENT of verbatimlaw16_TierPlan. -/
def verbatimlaw16_TierPlan.Pure : Prop := ∀ (l0 : List (S25)) (x1 : S25), (l0.length ≤ maxLen ∧ ∀ x_ ∈ l0, Good25 x_) → Good25 x1 → ∃ k, verbatimlaw16_TierPlan.f k l0 x1.f0 x1.f1 x1.f2 x1.f3 = some true

end Go.Proofs.Ytbbgnapepkenaaa.Q
